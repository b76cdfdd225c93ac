import Derived.Test.YtoaiiimnfgbcaaaRdH
import Derived.Test.YtoaiiimnfgbcaaaDcH
namespace Go.Proofs.Ytoaiiimnfgbcaaa
open Go.RowKit
attribute [local go_sem] Oper.semAt_some
set_option linter.unusedVariables false
set_option linter.unusedSimpArgs false
/-! chapter 8: the document's Find -/
theorem find_at {X : List Wd} {nm : ByteArray} {k : Nat} {x : Wd} (hpre : ∀ z ∈ X.take k, hitP nm z = false) (hx : X[k]? = some x) (hh : hitP nm x = true) : findP X nm = some x := by
  obtain ⟨hk, hxx⟩ := List.getElem?_eq_some_iff.1 hx
  unfold findP
  rw [← List.take_append_drop k X, List.find?_append]
  have h0 : (X.take k).find? (hitP nm) = none := List.find?_eq_none.2 (fun z hz => by rw [hpre z hz]; simp)
  rw [h0, List.drop_eq_getElem_cons hk, hxx, List.find?_cons_of_pos hh]
  rfl
theorem find_none {X : List Wd} {nm : ByteArray} (hpre : ∀ z ∈ X, hitP nm z = false) : findP X nm = none := List.find?_eq_none.2 (fun z hz => by rw [hpre z hz]; simp)
theorem pre_next {X : List Wd} {nm : ByteArray} {k : Nat} {x : Wd} (hpre : ∀ z ∈ X.take k, hitP nm z = false) (hx : X[k]? = some x) (hh : hitP nm x = false) : ∀ z ∈ X.take (k + 1), hitP nm z = false := by
  obtain ⟨hk, hxx⟩ := List.getElem?_eq_some_iff.1 hx
  rw [List.take_succ_eq_append_getElem hk, hxx]
  intro z hz
  rcases List.mem_append.1 hz with hz | hz
  · exact hpre z hz
  · simp at hz
    subst hz
    exact hh
section
variable {W W' w : World} {q m g₀ n : Nat} {B : List UInt8} {cl : Bool} {h l : Nat}
set_option maxRecDepth 100000 in
set_option maxHeartbeats 4000000 in
theorem rfind_any (D : Rd w q m g₀ n B cl h l) (nm : ByteArray) (hs : nm.size ≤ maxLen) :
    Calls Try.prog 50 #[.pointer (some ⟨q, 0, none⟩), .string nm] w fun e w' => e = .returned (.tuple #[wdV ((findP (walkP B (g₀ + 8) (g₀ + n) l) nm).getD wd0), .bool (findP (walkP B (g₀ + 8) (g₀ + n) l) nm).isSome]) ∧ Below w.heap.size w w' := by
  have hlen : (walkP B (g₀ + 8) (g₀ + n) l).length ≤ 143361 := by
    have := walkP_len B (g₀ + 8) (g₀ + n) l (by omega)
    have := D.la
    have := D.far
    omega
  have hnm := walkF_names B (g₀ + 8) (g₀ + n) (l + 1) l
  have hDx := D.bel ((Below.refl w.heap.size w).alloc (Nat.le_refl _) (.cells (wdC wd0).toArray 34))
  have hBx : Below w.heap.size w (w.alloc (.cells (wdC wd0).toArray 34)) := (Below.refl _ _).alloc (Nat.le_refl _) _
  have r0 := Bk.fresh w 34 (wdC wd0).toArray
  obtain ⟨g, hg⟩ : ∃ g, w.heap.size = g := ⟨_, rfl⟩
  obtain ⟨W, hW⟩ : ∃ W, w.alloc (.cells (wdC wd0).toArray 34) = W := ⟨_, rfl⟩
  rw [hW] at hDx hBx r0
  rw [hg] at r0 hBx
  have hW' : w.alloc (.cells #[.string ⟨#[]⟩, .int .i64 0, .int .i64 0, .bool false, .bool false, .bool false] 34) = W := hW
  have hall := rall_any hDx
  have hnm2 : ∀ x ∈ walkP B (g₀ + 8) (g₀ + n) l, x.name.size ≤ 31 := hnm
  obtain ⟨X, hX⟩ : ∃ X, walkP B (g₀ + 8) (g₀ + n) l = X := ⟨_, rfl⟩
  rw [hX] at hall hlen hnm2 ⊢
  obtain ⟨z, hz⟩ : ∃ z, X.length = z := ⟨_, rfl⟩
  rw [hz] at hall hlen
  replace hall := Lib.hid hall
  replace hnm2 := Lib.hid hnm2
  replace r0 := Lib.hid r0
  replace hBx := Lib.hid hBx
  replace hz := Lib.hid hz
  clear hnm hDx hX hW D
  go_enter Try.func50, Try.ntmps50
  go_wp2_with (fail)
  refine hall.out.mono ?_
  rintro e w1 ⟨A, c, rfl, hrow, hB1⟩
  have r1 := r0.out.kept hB1 r0.out.lt
  have hBy := hBx.out.trans (hB1.mono (by have := hBx.out.size; omega))
  replace r1 := Lib.hid r1
  replace hBy := Lib.hid hBy
  replace hrow := Lib.hid hrow
  clear hall hB1 hW' r0 hBx
  go_wp2_with (fail)
  go_loopw [7] (fun x7 wr => ∃ (k kk : Nat), x7 = .int .i64 k ∧ k ≤ z ∧ (∀ y ∈ X.take k, hitP nm y = false) ∧ wr = w1.drewN kk) (fun x7 _ => z - (intOf x7).toNat)
  case atStart => exact ⟨0, 0, rfl, by omega, by simp, rfl⟩
  case round =>
    obtain ⟨k, kk, rfl, hk, hpre, hwr⟩ := hrel
    by_cases hkz : k < z
    · have k1 : (k : Int) < z := by omega
      have k0 : (0 : Int) ≤ k := by omega
      have k2 : ¬ (k : Int) < 0 := by omega
      have k3 : IntKind.i64.wrap ((k : Int) + 1) = ((k + 1 : Nat) : Int) := by rw [IntKind.wrap_i64]; omega
      obtain ⟨x, hx⟩ : ∃ x, X[k]? = some x := ⟨_, List.getElem?_eq_getElem (by have := hz.out; omega)⟩
      have hx31 : x.name.size ≤ 31 := hnm2.out x (List.mem_of_getElem? hx)
      obtain ⟨gq, rfl⟩ : ∃ gq, A = some ⟨gq, 0, none⟩ := by
        rcases hrow.out.2 with ⟨_, h0⟩ | ⟨q, cap, cur, e, _⟩
        · omega
        · injection e with e1 _ _; exact ⟨q, e1⟩
      have hcell : ∀ j, j < 6 → ∀ t, (w1.drewN t).cell? ⟨gq, k * 6 + j, none⟩ = (wdC x)[j]? := fun j hj t => by
        rw [World.cell?_drewN, hrow.out.cellAt _ (by omega)]
        exact wdsC_at X k x hx j hj
      have hS := rsame_any x.name nm wr (Nat.le_trans hx31 (by decide)) hs
      obtain ⟨xn, xh, xx, xi, xd, xl⟩ := x
      have y0 : wr.cell? ⟨gq, k * 6, none⟩ = some (.string xn) := by rw [hwr]; exact hcell 0 (by omega) kk
      obtain ⟨sk, hsk⟩ : ∃ sk, sameOk xn nm = sk := ⟨_, rfl⟩
      simp only at hS
      rw [hsk] at hS
      replace hS := Lib.hid hS
      replace hpre := Lib.hid hpre
      replace hcell := Lib.hid hcell
      replace hx := Lib.hid hx
      replace hwr := Lib.hid hwr
      go_wp2_with (fail)
      refine hS.out.mono ?_
      rintro e w3 ⟨rfl, k4, hk4⟩
      have hw3 : w3 = w1.drewN (kk + k4) := by rw [hk4, hwr.out, World.drewN_drewN]
      have y4 : w3.cell? ⟨gq, k * 6 + 4, none⟩ = some (.bool xd) := by rw [hw3]; exact hcell.out 4 (by omega) _
      have z0 : w3.cell? ⟨gq, k * 6, none⟩ = some (.string xn) := by rw [hw3]; exact hcell.out 0 (by omega) _
      have z1 : w3.cell? ⟨gq, k * 6 + 1, none⟩ = some (.int .i64 xh) := by rw [hw3]; exact hcell.out 1 (by omega) _
      have z2 : w3.cell? ⟨gq, k * 6 + 2, none⟩ = some (.int .i64 xx) := by rw [hw3]; exact hcell.out 2 (by omega) _
      have z3 : w3.cell? ⟨gq, k * 6 + 3, none⟩ = some (.bool xi) := by rw [hw3]; exact hcell.out 3 (by omega) _
      have z5 : w3.cell? ⟨gq, k * 6 + 5, none⟩ = some (.bool xl) := by rw [hw3]; exact hcell.out 5 (by omega) _
      have r0 := r1.out.draws (kk + k4)
      have hBx := below_drawn hBy.out (kk + k4)
      rw [← hw3] at r0 hBx
      replace hw3 := Lib.hid hw3
      replace hBx := Lib.hid hBx
      clear hk4 hwr y0
      cases sk
      · have hn := pre_next hpre.out hx.out (by unfold hitP; rw [hsk]; cases xd <;> rfl)
        replace hn := Lib.hid hn
        clear r0
        go_wp2_with (fail)
        exact ⟨⟨k + 1, kk + k4, rfl, by omega, hn.out, hw3.out⟩, by simp [intOf]; omega⟩
      · cases xd
        · have hf := find_at hpre.out hx.out (by unfold hitP; rw [hsk]; rfl)
          have e0 := r0.cell 0
          have e1 := r0.cell 1
          have e2 := r0.cell 2
          have e3 := r0.cell 3
          have e4 := r0.cell 4
          have e5 := r0.cell 5
          simp [wdC, wd0] at e0 e1 e2 e3 e4 e5
          have f0 := r0.free 0
          have f1 := r0.free 1
          have f2 := r0.free 2
          have f3 := r0.free 3
          have f4 := r0.free 4
          have f5 := r0.free 5
          replace r0 := Lib.hid r0
          replace hf := Lib.hid hf
          go_wp2_with (fail)
          clear e0 e1 e2 e3 e4 e5 f0 f1 f2 f3 f4 f5
          have hZ0 : ∃ Z, set6 w3 g (⟨xn, xh, xx, xi, false, xl⟩ : Wd) = Z := ⟨_, rfl⟩
          obtain ⟨Z, hZ⟩ := hZ0
          have rZ : Bk Z g 34 (wdC (⟨xn, xh, xx, xi, false, xl⟩ : Wd)).toArray := by rw [← hZ]; exact set6_bk r0.out
          have hBZ : Below g w Z := by rw [← hZ]; exact set6_below hBx.out (Nat.le_refl _)
          unfold set6 at hZ
          first | rw [hZ] | (simp only [wd0, Int.ofNat_zero, Int.natCast_zero] at hZ; rw [hZ])
          clear hZ
          have e0 := rZ.cell 0
          have e1 := rZ.cell 1
          have e2 := rZ.cell 2
          have e3 := rZ.cell 3
          have e4 := rZ.cell 4
          have e5 := rZ.cell 5
          simp [wdC, wd0] at e0 e1 e2 e3 e4 e5
          replace rZ := Lib.hid rZ
          replace hBZ := Lib.hid hBZ
          refine bodyPost_ret (by simp [results, Try.results50, go_sem, *]; rfl) rfl ?_
          first | exact ⟨by rw [hf.out]; rfl, by first | exact hBZ.out | (rw [hg]; exact hBZ.out)⟩
        · have hn := pre_next hpre.out hx.out (by unfold hitP; rfl)
          replace hn := Lib.hid hn
          clear r0
          go_wp2_with (fail)
          exact ⟨⟨k + 1, kk + k4, rfl, by omega, hn.out, hw3.out⟩, by simp [intOf]; omega⟩
    · obtain rfl : k = z := by omega
      have k1 : ¬ (k : Int) < k := by omega
      have hf : findP X nm = none := find_none (by have := hpre; rw [List.take_of_length_le (by rw [hz.out]; exact Nat.le_refl _)] at this; exact this)
      have r0 := r1.out.draws kk
      have hBx := below_drawn hBy.out kk
      rw [← hwr] at r0 hBx
      have e0 := r0.cell 0
      have e1 := r0.cell 1
      have e2 := r0.cell 2
      have e3 := r0.cell 3
      have e4 := r0.cell 4
      have e5 := r0.cell 5
      simp [wdC, wd0] at e0 e1 e2 e3 e4 e5
      have f0 := r0.free 0
      have f1 := r0.free 1
      have f2 := r0.free 2
      have f3 := r0.free 3
      have f4 := r0.free 4
      have f5 := r0.free 5
      replace hf := Lib.hid hf
      replace r0 := Lib.hid r0
      replace hBx := Lib.hid hBx
      clear hpre hwr
      go_wp2_with (fail)
      clear e0 e1 e2 e3 e4 e5 f0 f1 f2 f3 f4 f5
      have hZ0 : ∃ Z, set6 wr g wd0 = Z := ⟨_, rfl⟩
      obtain ⟨Z, hZ⟩ := hZ0
      have rZ : Bk Z g 34 (wdC wd0).toArray := by rw [← hZ]; exact set6_bk r0.out
      have hBZ : Below g w Z := by rw [← hZ]; exact set6_below hBx.out (Nat.le_refl _)
      unfold set6 at hZ
      first | rw [hZ] | (simp only [wd0, Int.ofNat_zero, Int.natCast_zero] at hZ; rw [hZ])
      clear hZ
      have e0 := rZ.cell 0
      have e1 := rZ.cell 1
      have e2 := rZ.cell 2
      have e3 := rZ.cell 3
      have e4 := rZ.cell 4
      have e5 := rZ.cell 5
      simp [wdC, wd0] at e0 e1 e2 e3 e4 e5
      replace rZ := Lib.hid rZ
      replace hBZ := Lib.hid hBZ
      refine bodyPost_ret (by simp [results, Try.results50, go_sem, *]; rfl) rfl ?_
      first | exact ⟨by rw [hf.out]; rfl, by first | exact hBZ.out | (rw [hg]; exact hBZ.out)⟩
end
end Go.Proofs.Ytoaiiimnfgbcaaa
