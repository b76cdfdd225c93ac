import Derived.Test.YtkopgjdnfjgbjaaStC
import Derived.Laws.MakeOwn
namespace Go.Proofs.Ytkopgjdnfjgbjaa
open Go.RowKit
set_option linter.unusedVariables false
set_option linter.unusedSimpArgs false
/-! Cells -/
def i64s (l : List Int) : List Value := l.map (Value.int .i64)
/-- n cells from byte f on -/
def cels (B : List UInt8) (f n : Nat) : List Int := (List.range n).map fun i => cel B (f + 8 * i)
/-- the first j of them, then zeroes, d in all -/
def half (B : List UInt8) (f d j : Nat) : List Int := (List.range d).map fun i => if i < j then cel B (f + 8 * i) else 0
theorem half_len (B : List UInt8) (f d j : Nat) : (half B f d j).length = d := by simp [half]
theorem cels_len (B : List UInt8) (f n : Nat) : (cels B f n).length = n := by simp [cels]
theorem half_none (B : List UInt8) (f d : Nat) : half B f d 0 = List.replicate d 0 := by
  apply List.ext_getElem (by simp [half])
  intro i h1 h2
  simp [half]
theorem half_all (B : List UInt8) (f d : Nat) : half B f d d = cels B f d := by
  apply List.ext_getElem (by simp [half, cels])
  intro i h1 h2
  simp [half, cels] at h1 h2 ⊢
  omega
theorem half_set (B : List UInt8) (f d j : Nat) : (half B f d j).set j (cel B (f + 8 * j)) = half B f d (j + 1) := by
  apply List.ext_getElem (by simp [half])
  intro i h1 h2
  rw [List.getElem_set]
  simp only [half, List.getElem_map, List.getElem_range]
  by_cases e : j = i
  · subst e; simp
  · by_cases q : i < j
    · rw [if_neg e, if_pos q, if_pos (by omega)]
    · rw [if_neg e, if_neg q, if_neg (by omega)]
theorem i64s_set (l : List Int) (j : Nat) (v : Int) : (i64s l).toArray.setIfInBounds j (.int .i64 v) = (i64s (l.set j v)).toArray := by simp [i64s, List.map_set]
theorem made_i64 (n : Nat) : madeCells (Value.cells (.int .i64 0)) (n * 1) = (i64s (List.replicate n 0)).toArray := by
  apply Array.ext
  · simp [madeCells, i64s]
  · intro j h1 h2
    simp [madeCells, Value.cells, i64s, Nat.mod_one]
theorem info_int : (Try.prog.info? 3).map (fun i => (i.zero, i.size, i.bytes)) = some (some (.int .i64 0), 1, 8) := by kernel_rfl
section
variable {w : World} {p ip b f room depth rg : Nat} {un ov : Int} {L : Lay} {B : List UInt8} {o s : Bool}
structure Cs (w wr : World) (p ip b f room depth g : Nat) (un ov : Int) (L : Lay) (B : List UInt8) (o s : Bool) (j : Nat) : Prop where
  im : Im wr ip b L B o s
  st : Stk wr p ip f room depth un ov
  row : Bk wr g 3 (i64s (half B f depth j)).toArray
  be : Below w.heap.size w wr
set_option maxHeartbeats 2000000 in
theorem cells_any (hi : Im w ip b L B o s) (h : Stk w p ip f room depth un ov) (hr : Reg L rg f room) :
    Calls Try.prog 16 #[.pointer (some ⟨p, 0, none⟩)] w fun e w' => ∃ g, e = .returned (.slice (some ⟨g, 0, none⟩) depth depth) ∧ w.heap.size ≤ g ∧ Bk w' g 3 (i64s (cels B f depth)).toArray ∧ Below w.heap.size w w' := by
  have c3 := h.c3
  have hev := hr.even hi.ok
  have hd := h.dp
  have b1 : depth ≤ 17920 := by omega
  have hnew : ∀ X, X = w.alloc (.cells (i64s (List.replicate depth 0)).toArray 3) → Cs w X p ip b f room depth w.heap.size un ov L B o s 0 := fun X hX => by
    subst hX
    refine ⟨hi.past _, h.bel ((Below.refl _ _).alloc (Nat.le_refl _) _), ?_, (Below.refl _ _).alloc (Nat.le_refl _) _⟩
    rw [half_none]
    exact Bk.fresh w 3 _
  obtain ⟨ti, hti, htz, hts, htb⟩ := info_parts info_int
  have hmk : ∀ W : World, (Instr.makeSlice 38 (.int .i64 (depth : Int)) (.int .i64 (depth : Int))).run Try.prog W = .ok (.slice (some ⟨W.heap.size, 0, none⟩) depth depth) (W.alloc (.cells (i64s (List.replicate depth 0)).toArray 3)) := fun W => by
    have h := run_make (P := Try.prog) W 38 3 ti (.int .i64 0) Try.underlying38 hti htz .i64 .i64 (depth : Int) (depth : Int) (by omega) (Int.le_refl _) (by rw [htb]; omega) (by omega)
    rw [hts, Int.toNat_natCast, made_i64] at h
    exact h
  have hmk1 := hmk w
  obtain ⟨X, hX⟩ : ∃ X, w.alloc (.cells (i64s (List.replicate depth 0)).toArray 3) = X := ⟨_, rfl⟩
  rw [hX] at hmk1
  have hS := hnew X hX.symm
  obtain ⟨g, hg⟩ : ∃ g, w.heap.size = g := ⟨_, rfl⟩
  have hle : g < X.heap.size := by have := hS.row.lt; omega
  rw [hg] at hS hmk1 ⊢
  clear hX hnew hmk hi h hti htz hts htb hev
  replace hS := Lib.hid hS
  replace hg := Lib.hid hg
  go_enter Try.func16, Try.ntmps16
  go_wp2_with (fail)
  go_loopw [12] (fun x wr => ∃ j : Nat, x = .int .i64 j ∧ j ≤ depth ∧ Cs w wr p ip b f room depth g un ov L B o s j) (fun x _ => depth - (intOf x).toNat)
  case atStart => exact ⟨0, rfl, Nat.zero_le _, hS.out⟩
  case round =>
    obtain ⟨j, rfl, hj0, hR⟩ := hrel
    replace hR := Lib.hid hR
    by_cases hj : j < depth
    · have j0 : (j : Int) < (depth : Int) := by omega
      obtain ⟨v, hv⟩ : ∃ v, cel B (f + 8 * j) = v := ⟨_, rfl⟩
      have hg2 := get_any hR.out.im hR.out.st hr j (by omega) v hv
      have hk : ∀ w1, Below wr.heap.size wr w1 → w1.cell? ⟨g, j, none⟩ = some (.int .i64 0) ∧ w1.frozen? ⟨g, j, none⟩ = false ∧ Cs w (w1.setCell ⟨g, j, none⟩ (.int .i64 v)) p ip b f room depth g un ov L B o s (j + 1) := fun w1 hb => by
        have hrow := hR.out.row.kept hb hR.out.row.lt
        have n1 : p ≠ g := hR.out.st.st.ne hR.out.row (by decide)
        have n2 : ip ≠ g := hR.out.im.st.ne hR.out.row (by decide)
        have n3 : b ≠ g := hR.out.im.by_.ne hR.out.row (by decide)
        refine ⟨?_, hrow.free j, (hR.out.im.bel hb).far n2 n3 _, ⟨((hR.out.st.bel hb).st.other n1 _), hd⟩, ?_, ?_⟩
        · rw [hrow.cell]
          simp [i64s, half, hj]
        · have := hrow.put j (.int .i64 v)
          rw [i64s_set, ← hv, half_set] at this
          rw [← hv]
          exact this
        · exact (hR.out.be.trans (hb.mono hR.out.be.size)).setCell (p := ⟨g, j, none⟩) (by show w.heap.size ≤ g; rw [hg.out]; exact Nat.le_refl _) _
      clear hv
      replace hg2 := Lib.hid hg2
      replace hk := Lib.hid hk
      go_wp2_with (go_at_call 32; refine hg2.out.mono ?_; rintro e w2 ⟨rfl, hb2⟩; obtain ⟨k1, k2, k3⟩ := hk.out w2 hb2; replace k3 := Lib.hid k3)
      refine ⟨⟨j + 1, rfl, by omega, k3.out⟩, ?_⟩
      simp [intOf]; omega
    · have e : j = depth := by omega
      subst e
      have hrow := hR.out.row
      rw [half_all] at hrow
      replace hrow := Lib.hid hrow
      go_wp2_with (fail)
      go_returns
      exact ⟨g, rfl, Nat.le_refl _, hrow.out, by rw [← hg.out]; exact hR.out.be⟩
end
end Go.Proofs.Ytkopgjdnfjgbjaa
