import Derived.Test.YtndgcndmkfjdgaaDoorPlB
namespace Go.Proofs.YtndgcndmkfjdgaaDoor
open Go.RowKit Go.Extern.Stop Go.Stop Go.Extern
set_option linter.unusedVariables false
set_option linter.unusedSimpArgs false
/-! plane.Area -/
def areaN (zs : List Mk) : Nat → Int
  | 0 => 0
  | j + 1 => areaN zs j + ((zs.getD j m0).1.1 * (zs.getD j m0).2.2 - (zs.getD j m0).2.1 * (zs.getD j m0).1.2)
def areaZ (zs : List Mk) : Int := areaN zs zs.length
theorem prod_small {a b : Int} (h1 : -16777216 ≤ a ∧ a ≤ 16777216) (h2 : -16777216 ≤ b ∧ b ≤ 16777216) : -281474976710656 ≤ a * b ∧ a * b ≤ 281474976710656 := by
  have := prod_le h1.1 h1.2 h2.1 h2.2
  exact this
theorem area_le (zs : List Mk) : ∀ j, (∀ i, i < j → mkOk (zs.getD i m0)) → -(j * 562949953421312 : Int) ≤ areaN zs j ∧ areaN zs j ≤ (j : Int) * 562949953421312
  | 0, _ => by simp [areaN]
  | j + 1, h => by
    have ih := area_le zs j (fun i hi => h i (by omega))
    obtain ⟨g1, g2, _⟩ := h j (by omega)
    unfold Sm at g1 g2
    have a1 := prod_small (a := (zs.getD j m0).1.1) (b := (zs.getD j m0).2.2) ⟨g1.1, g1.2.1⟩ ⟨g2.2.2.1, g2.2.2.2⟩
    have a2 := prod_small (a := (zs.getD j m0).2.1) (b := (zs.getD j m0).1.2) ⟨g2.1, g2.2.1⟩ ⟨g1.2.2.1, g1.2.2.2⟩
    unfold areaN
    omega
theorem parea_bad (A : Option Addr) (xs : List Mw) (n c : Nat) (w : World) (hm : xs.length = n) (h : Mks w A xs) (hno : ∀ zs, Dr xs zs → ¬ closedZ zs) : Calls Tryd.prog 14 #[.slice A n c] w fun e w' => e = .returned (.tuple #[.int .i64 0, .int .i64 1]) ∧ Below w.heap.size w w' := by
  have hr : Calls Tryd.prog 15 #[.slice A n c] w fun e w' => e = .returned (.bool false) ∧ Below w.heap.size w w' := by
    by_cases hR : Rg xs
    · obtain ⟨zs, hD⟩ := rg_dr.1 hR
      exact pclosed_ok A xs zs n c w hm h hD false ⟨fun h => absurd h (by decide), fun h => absurd h (hno zs hD)⟩
    · exact pclosed_bad A xs n c w hm h hR
  replace hr := Lib.hid hr
  clear h hno
  go_enter Tryd.func14, Tryd.ntmps14
  go_wp2_with (fail)
  refine hr.out.mono ?_
  rintro e w1 ⟨rfl, hb⟩
  go_wp2_with (fail)
  go_returns
  exact ⟨rfl, hb⟩
set_option maxRecDepth 100000 in
set_option maxHeartbeats 1000000 in
theorem parea_ok (A : Option Addr) (xs : List Mw) (zs : List Mk) (n c : Nat) (w : World) (hm : xs.length = n) (h : Mks w A xs) (hD : Dr xs zs) (hc : closedZ zs) : Calls Tryd.prog 14 #[.slice A n c] w fun e w' => e = .returned (.tuple #[.int .i64 (areaZ zs), .int .i64 0]) ∧ Below w.heap.size w w' := by
  have hR := Lib.hid (pclosed_ok A xs zs n c w hm h hD true ⟨fun _ => hc, fun _ => rfl⟩)
  have hn4 : n ≤ 4096 := by rw [← hm]; exact hD.2.1
  have hz : areaZ zs = areaN zs n := by unfold areaZ; rw [hD.1, hm]
  rw [hz]
  clear hz
  replace h := Lib.hid h
  replace hm := Lib.hid hm
  replace hD := Lib.hid hD
  have hn4 : (n : Int) ≤ 4096 := by omega
  have key := Lib.hid (area_le zs)
  obtain ⟨T, hT⟩ : ∃ T, areaN zs n = T := ⟨_, rfl⟩
  rw [hT]
  replace hT := Lib.hid hT
  go_enter Tryd.func14, Tryd.ntmps14
  go_wp2_with (fail)
  refine hR.out.mono ?_
  rintro e w1 ⟨rfl, hb⟩
  replace hb := Lib.hid hb
  go_wp2_with (fail)
  go_loopw [4, 12] (fun s x wr => ∃ (j : Nat) (a : Int), s = .int .i64 a ∧ x = .int .i64 j ∧ j ≤ n ∧ Hid (areaN zs j = a ∧ Below w.heap.size w wr)) (fun _ x _ => n - (intOf x).toNat)
  case atStart => exact ⟨0, 0, rfl, rfl, Nat.zero_le _, Lib.hid ⟨rfl, hb.out⟩⟩
  case round =>
    obtain ⟨j, a, rfl, rfl, hj0, hQ⟩ := hrel
    by_cases hj : j < n
    · have j0 : (j : Int) < (n : Int) := by omega
      have hjl : j < xs.length := by rw [hm.out]; exact hj
      obtain ⟨b, off, rfl, hbl, c0, c1, hL⟩ := h.out j hjl
      have hok := (hD.out.2.2 j hjl).2
      have ha := key.out j (fun i hi => (hD.out.2.2 i (by omega)).2)
      rw [hQ.out.1] at ha
      obtain ⟨g1, g2⟩ := (hD.out.2.2 j hjl).1
      have hnext : areaN zs (j + 1) = a + ((zs.getD j m0).1.1 * (zs.getD j m0).2.2 - (zs.getD j m0).2.1 * (zs.getD j m0).1.2) := by rw [← hQ.out.1]; rfl
      obtain ⟨⟨⟨p1, p2⟩, q1, q2⟩, hx⟩ : ∃ p, xs[j] = p := ⟨_, rfl⟩
      obtain ⟨⟨⟨a1, a2⟩, b1, b2⟩, hzz⟩ : ∃ z, zs.getD j m0 = z := ⟨_, rfl⟩
      rw [hx] at c0 c1 g1 g2
      rw [hzz] at hok g1 g2 hnext
      simp only at c0 c1 hnext
      replace c0 := (hQ.out.2.cell (p := ⟨b, off + j * 2, none⟩) hbl).trans c0
      replace c1 := (hQ.out.2.cell (p := ⟨b, off + j * 2 + 1, none⟩) hbl).trans c1
      have v1 := fun w => toInt_run g1.1 w
      have v2 := fun w => toInt_run g1.2 w
      have v3 := fun w => toInt_run g2.1 w
      have v4 := fun w => toInt_run g2.2 w
      simp only at v1 v2 v3 v4
      unfold mkOk Sm at hok
      simp only at hok
      have o1 := prod_small (a := a1) (b := b2) ⟨hok.1.1, hok.1.2.1⟩ ⟨hok.2.1.2.2.1, hok.2.1.2.2.2⟩
      have o2 := prod_small (a := b1) (b := a2) ⟨hok.2.1.1, hok.2.1.2.1⟩ ⟨hok.1.2.2.1, hok.1.2.2.2⟩
      obtain ⟨u1, hu1⟩ : ∃ u, a1 * b2 = u := ⟨_, rfl⟩
      obtain ⟨u2, hu2⟩ : ∃ u, b1 * a2 = u := ⟨_, rfl⟩
      rw [hu1] at o1 hnext
      rw [hu2] at o2 hnext
      have hb2 : -(4096 * 562949953421312 : Int) ≤ a ∧ a ≤ 4096 * 562949953421312 := by omega
      clear ha g1 g2 hok hbl hx hzz hL
      replace hnext := Lib.hid hnext
      go_wp2_with (fail)
      exact ⟨⟨j + 1, _, rfl, rfl, by omega, Lib.hid ⟨hnext.out, hQ.out.2.alloc hQ.out.2.size _⟩⟩, by simp [intOf]; omega⟩
    · have j0 : ¬ (j : Int) < (n : Int) := by omega
      obtain rfl : j = n := by omega
      obtain rfl : a = T := by rw [← hQ.out.1, hT.out]
      go_wp2_with (fail)
      go_returns
      exact ⟨rfl, hQ.out.2⟩
end Go.Proofs.YtndgcndmkfjdgaaDoor
