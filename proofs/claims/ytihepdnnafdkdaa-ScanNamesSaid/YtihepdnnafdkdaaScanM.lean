import Derived.Test.YtihepdnnafdkdaaScanJ
import Derived.Laws.IdiomStrings
namespace Go.Proofs.Ytihepdnnafdkdaa
open Go.RowKit
set_option linter.unusedVariables false
set_option linter.unusedSimpArgs false
/-- block b begins with these bytes, which may be written -/
def Bs (W : World) (b : Nat) (l : List UInt8) : Prop := b < W.heap.size ∧ ∀ j (hj : j < l.length), W.cell? ⟨b, j, none⟩ = some (.int .u8 (l[j].toNat : Int)) ∧ W.frozen? ⟨b, j, none⟩ = false
theorem Bs.set {W : World} {b : Nat} {l : List UInt8} (h : Bs W b l) (k : Nat) (c : UInt8) (hk : k < l.length) : Bs (W.setCell ⟨b, k, none⟩ (.int .u8 (c.toNat : Int))) b (l.set k c) := by
  refine ⟨by simpa [World.setCell] using h.1, fun j hj => ?_⟩
  have hj' : j < l.length := by simpa using hj
  refine ⟨?_, by rw [World.frozen?_setCell]; exact (h.2 j hj').2⟩
  by_cases e : j = k
  · subst e
    rw [World.cell?_setCell_same _ _ _ (h.2 j hj').1]
    simp
  · rw [World.cell?_setCell_other _ _ _ _ (by intro g; injection g with _ g; omega), (h.2 j hj').1]
    rw [List.getElem_set_ne (by omega)]
theorem bytes_made (w : World) (s : ByteArray) : ∃ (W : World) (cap : Nat), (convert 9 27 (.string s)).run Try.prog w = .ok (.slice (some ⟨w.heap.size, 0, none⟩) s.size cap) W ∧ Bs W w.heap.size s.data.toList ∧ Below w.heap.size w W ∧ s.size ≤ cap := by
  refine ⟨_, _, run_bytes_of_string (P := Try.prog) w 9 27 5 s Try.underlying9 Try.underlying27 Try.underlying5, ⟨?_, fun j hj => ⟨?_, ?_⟩⟩, ?_, ?_⟩
  · simp
  · have hj' : j < s.data.size := by simpa using hj
    have := World.cell?_alloc_mark w.drew (bytesRow s (grownCap w s.size 0 5)) 5 ((bytesRow s (grownCap w s.size 0 5)).size, (bytesRow s (grownCap w s.size 0 5)).size + 1) j
    rw [bytesRow_at s _ j hj'] at this
    exact this
  · have hj' : j < s.data.size := by simpa using hj
    have := World.frozen?_alloc_mark w.drew (bytesRow s (grownCap w s.size 0 5)) 5 (bytesRow s (grownCap w s.size 0 5)).size ((bytesRow s (grownCap w s.size 0 5)).size + 1) j
    refine this.trans ?_
    have : j < (bytesRow s (grownCap w s.size 0 5)).size := by
      have h2 : s.data.size ≤ grownCap w s.size 0 5 := grownCap_ge w s.size 0 5
      simp [bytesRow]; omega
    simp; omega
  · exact ((Below.refl _ w).drew).alloc (Nat.le_refl _) _
  · exact grownCap_ge _ _ _ _
theorem string_made (w : World) (b cap : Nat) (l : List UInt8) (h : Bs w b l) : (convert 27 9 (.slice (some ⟨b, 0, none⟩) l.length cap)).run Try.prog w = .ok (.string ⟨l.toArray⟩) w := by
  refine run_convert_bytes_back (P := Try.prog) w 27 9 5 ⟨b, 0, none⟩ cap l Try.underlying27 Try.underlying5 Try.underlying9 (fun j hj => ?_)
  rw [show ((⟨b, 0, none⟩ : Addr).add j) = ⟨b, j, none⟩ by unfold Addr.add; split <;> simp_all]
  exact (h.2 j hj).1
theorem or_small (c : UInt8) : bits BinOp.or IntKind.u8 (c.toNat : Int) 32 = ((c ||| 32).toNat : Int) := by
  have h : ∀ n : Fin 256, bits BinOp.or IntKind.u8 ((UInt8.ofNat n.val).toNat : Int) 32 = ((UInt8.ofNat n.val ||| 32).toNat : Int) := by decide +kernel
  have := h ⟨c.toNat, c.toNat_lt⟩
  simpa using this
/-- what lower makes of a byte -/
def lowO (c : UInt8) : UInt8 := if (65 ≤ (c.toNat : Int) ∧ (c.toNat : Int) ≤ 90) then c ||| 32 else c
/-- the first k bytes as small letters -/
def lowL (l : List UInt8) (k : Nat) : List UInt8 := (l.take k).map lowO ++ l.drop k
def lowS (s : ByteArray) : ByteArray := ⟨(s.data.toList.map lowO).toArray⟩
theorem lowL_len (l : List UInt8) (k : Nat) : (lowL l k).length = l.length := by
  unfold lowL; simp; omega
theorem lowL_next (l : List UInt8) (k : Nat) (hk : k < l.length) : (lowL l k).set k (lowO l[k]) = lowL l (k + 1) := by
  unfold lowL
  apply List.ext_getElem
  · simp; omega
  · intro i h1 h2
    rw [List.getElem_set]
    split
    · subst k
      have e2 : min (i + 1) l.length = i + 1 := by omega
      rw [List.getElem_append_left (by simp; omega)]
      simp [List.getElem_take]
    · rename_i g
      simp only [List.getElem_append, List.length_map, List.length_take, List.getElem_map, List.getElem_take, List.getElem_drop]
      have e1 : min k l.length = k := by omega
      have e2 : min (k + 1) l.length = k + 1 := by omega
      simp only [e1, e2]
      split <;> split <;> first | rfl | omega | (congr 1; omega)
theorem lowL_at (l : List UInt8) (k : Nat) (hk : k < l.length) (h : k < (lowL l k).length) : (lowL l k)[k] = l[k] := by
  have e1 : min k l.length = k := by omega
  have e2 : ¬ k < min k l.length := by omega
  unfold lowL
  simp [List.getElem_append, e1, e2]
theorem lowL_all (l : List UInt8) (k : Nat) (hk : l.length ≤ k) : lowL l k = l.map lowO := by
  unfold lowL
  rw [List.take_of_length_le hk, List.drop_eq_nil_of_le hk, List.append_nil]
theorem lowL_same (l : List UInt8) (k : Nat) (hk : k < l.length) (h : lowO l[k] = l[k]) : lowL l k = lowL l (k + 1) := by
  rw [← lowL_next l k hk, h]
  apply List.ext_getElem
  · simp
  · intro i h1 h2
    rw [List.getElem_set]
    split
    · subst k; rw [lowL_at l i hk]
    · rfl
set_option maxHeartbeats 1000000 in
theorem lower_any (s : ByteArray) (w : World) (hs : s.size ≤ maxLen) :
    Calls Try.prog 30 #[.string s] w fun e w' => e = .returned (.string (lowS s)) ∧ Below w.heap.size w w' := by
  have hs2 : s.size ≤ 9223372036854775807 := Nat.le_trans hs (by decide)
  obtain ⟨W, cap, hconv, hB, hO, hcap⟩ := bytes_made w s
  have hB := Lib.hid hB
  have hO := Lib.hid hO
  clear hcap
  generalize hbb : w.heap.size = b at *
  go_enter Try.func30, Try.ntmps30
  go_wp2_with (fail)
  go_loopw [10] (fun i wr => ∃ k : Nat, i = .int .i64 k ∧ k ≤ s.size ∧ Bs wr b (lowL s.data.toList k) ∧ Below b w wr) (fun i _ => s.size - (intOf i).toNat)
  case atStart => exact ⟨0, rfl, by omega, hB.out, hO.out⟩
  case round =>
    obtain ⟨k, rfl, hk, hB, hO⟩ := hrel
    have k0 : (0 : Int) ≤ k := by omega
    have hL := lowL_len s.data.toList k
    have hl : s.data.toList.length = s.size := by first | (simp; done) | (simp; rfl)
    have HL := Lib.hid hL
    have Hl := Lib.hid hl
    clear hL hl
    by_cases hlt : k < s.size
    · have k1 : (k : Int) < s.size := by omega
      have hlt' : k < s.data.toList.length := by rw [Hl.out]; exact hlt
      have hx := (hB.2 k (by have := HL.out; omega)).1
      have hf := (hB.2 k (by have := HL.out; omega)).2
      rw [lowL_at _ k hlt'] at hx
      have hn := Lib.hid (lowL_next s.data.toList k hlt')
      have hs := Lib.hid (lowL_same s.data.toList k hlt')
      have hB := Lib.hid hB
      have hO := Lib.hid hO
      generalize hc : s.data.toList[k] = c at *
      have Hc := Lib.hid hc
      clear hc
      go_wp2_with (fail)
      · have h1 : 65 ≤ (c.toNat : Int) := by assumption
        have h2 : (c.toNat : Int) ≤ 90 := by assumption
        have e : lowO c = c ||| 32 := by unfold lowO; rw [if_pos ⟨h1, h2⟩]
        refine ⟨⟨k + 1, rfl, by omega, ?_, hO.out.setCell (Nat.le_refl _) _⟩, by simp [intOf]; omega⟩
        rw [or_small c, ← hn.out, e]
        exact hB.out.set k _ (by have := HL.out; omega)
      · have h2 : 90 < (c.toNat : Int) := by assumption
        exact ⟨⟨k + 1, rfl, by omega, by rw [← hs.out (by unfold lowO; rw [if_neg (by omega)])]; exact hB.out, hO.out⟩, by simp [intOf]; omega⟩
      · have h2 : ¬ 65 ≤ (c.toNat : Int) := by assumption
        exact ⟨⟨k + 1, rfl, by omega, by rw [← hs.out (by unfold lowO; rw [if_neg (by omega)])]; exact hB.out, hO.out⟩, by simp [intOf]; omega⟩
    · have e : k = s.size := by omega
      subst e
      have hb := string_made wr b cap _ hB
      rw [HL.out, Hl.out, lowL_all _ _ (by rw [Hl.out]; omega)] at hb
      have hB := Lib.hid hB
      have hO := Lib.hid hO
      go_wp2
      go_returns
      exact ⟨rfl, hO.out⟩
end Go.Proofs.Ytihepdnnafdkdaa
