import Derived.Test.YtbhgjjicmbbjaaaDoorBlk
import Derived.Test.YtbhgjjicmbbjaaaDoorTrB
import Derived.Test.YtbhgjjicmbbjaaaDoorShelf
import Derived.Lib.AppendIntMem
import Derived.Laws.Concat
namespace Go.Proofs.YtbhgjjicmbbjaaaDoor
open Go.RowKit
set_option linter.unusedVariables false
set_option linter.unusedSimpArgs false
/-! chapter 17: what the laid variables say; Word, right, Itoa -/
structure Mk (w : World) : Prop where
  asc : Lib.TabIs Tryd.prog w "strings.asciiSpace" .u8 Lib.asciiSpaceTab
  pow : Lib.TabIs Tryd.prog w "internal/strconv.uint64pow10" .u64 Lib.pow10Tab
  syn : ∃ te pe, w.cell? ⟨3, 0, none⟩ = some (.iface te pe)
  ran : ∃ te pe, w.cell? ⟨4, 0, none⟩ = some (.iface te pe)
theorem Mk.bel {w w' : World} (h : Mk w) (hb : Below w.heap.size w w') : Mk w' where
  asc := Lib.tabBelow_of_tabIs h.asc w' hb
  pow := Lib.tabBelow_of_tabIs h.pow w' hb
  syn := by
    obtain ⟨te, pe, h1⟩ := h.syn
    exact ⟨te, pe, (hb.cell (show (⟨3, 0, none⟩ : Addr).block < w.heap.size from Lib.lt_of_cell h1)).trans h1⟩
  ran := by
    obtain ⟨te, pe, h1⟩ := h.ran
    exact ⟨te, pe, (hb.cell (show (⟨4, 0, none⟩ : Addr).block < w.heap.size from Lib.lt_of_cell h1)).trans h1⟩
def wordB (f : Int) : ByteArray := ⟨(wordL f).toArray⟩
theorem itoa_any (n : Int) (h0 : -9223372036854775808 ≤ n) (h1 : n ≤ 9223372036854775807) (w : World) (hT : Mk w) : Calls Tryd.prog 44 #[.int .i64 n] w fun e w' => e = .returned (.string ⟨(Lib.itoa n).toArray⟩) ∧ Below w.heap.size w w' := by
  refine (Tryd.strconv_Itoa n h0 h1 w hT.pow).mono ?_
  rintro e w' ⟨rfl, k, os, rfl⟩
  refine ⟨rfl, rfl, rfl, rfl, ?_, ?_⟩
  · show w.heap.size ≤ ((w.drewN k).heap ++ os).size
    rw [Array.size_append]; exact Nat.le_add_right _ _
  · intro i hi
    show ((w.drewN k).heap ++ os)[i]? = w.heap[i]?
    exact Array.getElem?_append_left hi
def wordsB : ByteArray := ⟨#[111, 107, 32, 117, 110, 100, 101, 114, 32, 111, 118, 101, 114, 32, 114, 117, 110, 100, 101, 114, 32, 114, 111, 118, 101, 114, 32, 102, 101, 110, 99, 101, 32, 97, 108, 105, 103, 110, 32, 100, 105, 118, 32, 119, 111, 114, 100, 32, 102, 117, 108, 108, 32, 98, 97, 108, 97, 110, 99, 101, 32, 99, 97, 112, 32, 111, 117, 116, 32, 102, 117, 101, 108, 32, 111, 112, 32, 110, 97, 109, 101, 32, 109, 111, 100, 101, 32, 97, 98, 111, 114, 116, 32, 105, 110, 112, 117, 116, 32, 114, 97, 110, 103, 101, 32, 110, 101, 115, 116, 32, 116, 101, 120, 116]⟩
def wsV : Array Value := (wsL.map fun l => Value.string ⟨l.toArray⟩).toArray
theorem fields_any (w : World) (hM : Mk w) : Calls Tryd.prog 33 #[.string wordsB] w fun e w' => e = .returned (.slice (some ⟨w.heap.size, 0, none⟩) 22 22) ∧ Bk w' w.heap.size 9 wsV ∧ Below w.heap.size w w' := by
  have h := Tryd.strings_Fields wordsB w (by decide +kernel) (fun j b hb => by
    have : ∀ b ∈ wordsB.data.toList, b.toNat < 128 := by decide +kernel
    exact this b (List.mem_of_getElem? hb)) hM.asc
  rw [show Lib.fields wordsB.data.toList = wsL from wsL_fields] at h
  refine h.mono ?_
  rintro e w' ⟨rfl, rfl⟩
  exact ⟨rfl, Bk.fresh w 9 wsV, (Below.refl _ _).alloc (Nat.le_refl _) _⟩
theorem wsV_at (f : Int) (h : 0 ≤ f ∧ f < 22) : wsV[f.toNat]? = some (.string (wordB f)) := by
  have h1 : wsL[f.toNat]? = some (wordL f) := by
    unfold wordL
    rw [if_pos h.1, List.getD_eq_getElem?_getD, List.getElem?_eq_getElem (by rw [wsL_len]; omega)]
    rfl
  unfold wsV wordB
  simp [h1]
theorem wordB_none (f : Int) (h : ¬ (0 ≤ f ∧ f < 22)) : wordB f = ⟨#[]⟩ := by
  have : wordL f = [] := by
    apply Classical.byContradiction
    intro hn
    exact h (wordL_some.1 hn)
  unfold wordB
  rw [this]
set_option maxRecDepth 100000 in
theorem word_any (f : Int) (w : World) (hM : Mk w) : Calls Tryd.prog 18 #[.int .i64 f] w fun e w' => e = .returned (.string (wordB f)) ∧ Below w.heap.size w w' := by
  have hf := Lib.hid (fields_any w hM)
  unfold wordsB at hf
  clear hM
  by_cases h : 0 ≤ f ∧ f < 22
  · have hat := wsV_at f h
    obtain ⟨h1, h2⟩ := h
    obtain ⟨k, rfl⟩ : ∃ k : Nat, f = k := ⟨f.toNat, by omega⟩
    obtain ⟨S, hS⟩ : ∃ S, wordB (k : Int) = S := ⟨_, rfl⟩
    rw [hS] at hat ⊢
    clear hS
    rw [Int.toNat_natCast] at hat
    go_enter Tryd.func18, Tryd.ntmps18
    go_wp2_with (fail)
    refine hf.out.mono ?_
    rintro e w1 ⟨rfl, hB, hb⟩
    have c := hB.cell k
    rw [hat] at c
    replace hb := Lib.hid hb
    clear hf hat hB
    go_wp2_with (fail)
    go_returns
    exact ⟨rfl, hb.out⟩
  · rw [wordB_none f h]
    rcases (by omega : f < 0 ∨ (0 ≤ f ∧ 22 ≤ f)) with h1 | ⟨h1, h2⟩
    · clear h
      go_enter Tryd.func18, Tryd.ntmps18
      go_wp2_with (fail)
      refine hf.out.mono ?_
      rintro e w1 ⟨rfl, hB, hb⟩
      replace hb := Lib.hid hb
      clear hf hB
      go_wp2_with (fail)
      go_returns
      exact ⟨rfl, hb.out⟩
    · clear h
      go_enter Tryd.func18, Tryd.ntmps18
      go_wp2_with (fail)
      refine hf.out.mono ?_
      rintro e w1 ⟨rfl, hB, hb⟩
      replace hb := Lib.hid hb
      clear hf hB
      go_wp2_with (fail)
      go_returns
      exact ⟨rfl, hb.out⟩
end Go.Proofs.YtbhgjjicmbbjaaaDoor
