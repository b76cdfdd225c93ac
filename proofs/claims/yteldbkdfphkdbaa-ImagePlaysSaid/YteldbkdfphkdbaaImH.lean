import Derived.Test.YteldbkdfphkdbaaImG
import Derived.Test.YteldbkdfphkdbaaImP
namespace Go.Proofs.Yteldbkdfphkdbaa
open Go.RowKit
set_option linter.unusedVariables false
set_option linter.unusedSimpArgs false
def smallL : Lay := ⟨16384, 64, 256, 64, 64⟩
theorem small_ok : smallL.ok := by unfold Lay.ok smallL; decide
theorem lay_okI {L : Lay} (h : L.ok) : layOk L.k L.s L.u L.d L.r := by
  unfold Lay.ok at h
  unfold layOk sizeOk
  omega
/-- an image of a layout that may be -/
theorem new_yes (L : Lay) (h : L.ok) (w : World) : Calls Try.prog 11 #[LV L] w fun e w' => ∃ p b, e = .returned (.tuple #[.pointer (some ⟨p, 0, none⟩), .int .i64 0]) ∧ Im w' p b L (List.replicate L.b6 0) false false ∧ w.heap.size ≤ p ∧ w.heap.size ≤ b ∧ Below w.heap.size w w' := by
  refine (new_any L.k L.s L.u L.d L.r w).mono ?_
  intro e w' hp
  obtain ⟨⟨k, s, u, d, r⟩, p, b, e1, e2, e3, e4, e5, g⟩ := hp.1 (lay_okI h)
  simp only at e1 e2 e3 e4 e5
  have : (⟨k, s, u, d, r⟩ : Lay) = L := by
    obtain ⟨k', s', u', d', r'⟩ := L
    simp only at e1 e2 e3 e4 e5
    rw [show k = k' by omega, show s = s' by omega, show u = u' by omega, show d = d' by omega, show r = r' by omega]
  subst this
  exact ⟨p, b, g⟩
theorem small_any (w : World) : Calls Try.prog 40 #[] w fun e w' => e = .returned (LV smallL) ∧ Below w.heap.size w w' := by
  go_enter Try.func40, Try.ntmps40
  go_wp2_with (fail)
  go_returns
  exact ⟨rfl, (Below.refl _ _).alloc (Nat.le_refl _) _⟩
theorem Only.bel {p : Nat} {w W W' : World} (h : Only p W W') (hb : Below w.heap.size w W) (hp : w.heap.size ≤ p) : Below w.heap.size w W' := hb.trans (h.below hp hb.size)
set_option maxRecDepth 100000 in
set_option maxHeartbeats 4000000 in
theorem shown_any (w : World) : Calls Try.prog 10 #[] w fun e w' => e = .returned (.bool true) ∧ Below w.heap.size w w' := by
  have hok := small_ok
  have r1 : rowOk smallL false false 0 (8 : Nat) 8 2 := by decide
  have r2 : rowOk smallL false false 1 (9 : Nat) 1 1 := by decide
  have r3 : ¬ rowOk smallL false true 0 8 8 2 := by decide
  have r4 : rowOk smallL false true 2 (8 : Nat) 8 1 := by decide
  have hl : smallL.b6 = 16832 := by decide
  have v1 : (splice (List.replicate smallL.b6 0) 8 (by8 258)).getD 9 0 = 1 := by
    rw [hl, getD_in _ _ _ _ (by rw [by8_length, List.length_replicate]; decide) (by decide) (by rw [by8_length]; decide)]
    decide +kernel
  have v2 : cel (splice (List.replicate smallL.b6 0) 8 (by8 258)) 8 = 258 := cel_same _ _ _ (by unfold isI; omega) (by rw [hl, List.length_replicate]; decide)
  have h0 : (0 : Nat) < w.heap.size + 1 := by omega
  generalize hB : splice (List.replicate smallL.b6 0) 8 (by8 258) = B at *
  replace hB := Lib.hid hB
  replace hl := Lib.hid hl
  generalize hL : smallL = L at *
  replace hL := Lib.hid hL
  clear h0
  go_enter Try.func10, Try.ntmps10
  go_wp2_with (fail)
  refine (small_any w).mono ?_
  rw [hL.out]
  rintro e w1 ⟨rfl, hb1⟩
  go_wp2_with (fail)
  refine (new_yes L hok w1).mono ?_
  rintro e w2 ⟨p, b, rfl, hI, hp, hq, hb2⟩
  replace hb2 := hb1.trans (hb2.mono hb1.size)
  replace hp := Nat.le_trans hb1.size hp
  replace hq := Nat.le_trans hb1.size hq
  replace hI := Lib.hid hI
  clear hb1
  replace hp := Lib.hid hp
  replace hq := Lib.hid hq
  go_wp2_with (fail)
  refine (setcell_yes hI.out 8 258 (by decide) r1).mono ?_
  rw [hB.out]
  rintro e w3 ⟨rfl, hI3, hO⟩
  replace hb2 := hO.bel hb2 hq.out
  replace hI3 := Lib.hid hI3
  clear hO hI
  go_wp2_with (fail)
  refine (byte_yes hI3.out 9 1 r2 v1).mono ?_
  rintro e w4 ⟨rfl, rfl⟩
  go_wp2_with (fail)
  refine (seal_yes hI3.out).mono ?_
  rintro e w5 ⟨rfl, hI5, hO⟩
  replace hb2 := hO.bel hb2 hp.out
  replace hI5 := Lib.hid hI5
  clear hO hI3
  go_wp2_with (fail)
  refine (setcell_no hI5.out 8 1 (by decide) (by decide) r3).mono ?_
  rintro e w6 ⟨rfl, rfl⟩
  go_wp2_with (fail)
  refine (cell_yes hI5.out 8 258 (by decide) r4 v2).mono ?_
  rintro e w7 ⟨rfl, hb⟩
  replace hb2 := hb2.trans (hb.mono hb2.size)
  clear hb
  go_wp2_with (fail)
  go_returns
  exact ⟨rfl, hb2⟩
end Go.Proofs.Yteldbkdfphkdbaa
