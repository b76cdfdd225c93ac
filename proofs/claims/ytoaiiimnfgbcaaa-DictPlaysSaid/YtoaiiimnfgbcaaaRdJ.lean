import Derived.Test.YtoaiiimnfgbcaaaRdI
import Derived.Test.YtoaiiimnfgbcaaaDcP
namespace Go.Proofs.Ytoaiiimnfgbcaaa
open Go.RowKit Go.Shelf
attribute [local go_sem] Oper.semAt_some
attribute [local go_sem high] run_eqW1 run_eqW2
set_option linter.unusedVariables false
set_option linter.unusedSimpArgs false
/-! chapter 8: law's same, the program's Find over several lists -/
set_option maxHeartbeats 1000000 in
theorem lsame_any (x : Wd) (b : Bool) (w : World) : Calls Try.prog 52 #[wdV x, .bool b, wdV x, .bool b] w fun e w' => e = .returned (.bool true) ∧ Below w.heap.size w w' := by
  obtain ⟨x1, x2, x3, x4, x5, x6⟩ := x
  have hq : eqW ⟨x1, x2, x3, x4, x5, x6⟩ ⟨x1, x2, x3, x4, x5, x6⟩ = true := (eqW_iff _ _).2 rfl
  unfold wdV
  cases b
  all_goals
    go_enter Try.func52, Try.ntmps52
    go_wp2_with (fail)
    go_returns
    first | exact ⟨rfl, by go_grown⟩ | exact ⟨rfl, ((Below.refl _ _).alloc (Nat.le_refl _) _).alloc (by simp) _⟩
set_option maxHeartbeats 1000000 in
theorem dfind_none (nm : ByteArray) (w : World) : Calls Try.prog 51 #[.string nm, .slice none 0 0] w fun e w' => e = .returned (.tuple #[wdV wd0, .bool false]) ∧ Below w.heap.size w w' := by
  have hBx : Below w.heap.size w (w.alloc (.cells (wdC wd0).toArray 34)) := (Below.refl _ _).alloc (Nat.le_refl _) _
  have r0 := Bk.fresh w 34 (wdC wd0).toArray
  obtain ⟨g, hg⟩ : ∃ g, w.heap.size = g := ⟨_, rfl⟩
  obtain ⟨W, hW⟩ : ∃ W, w.alloc (.cells (wdC wd0).toArray 34) = W := ⟨_, rfl⟩
  rw [hW] at hBx r0
  rw [hg] at r0 hBx
  have hW' : w.alloc (.cells #[.string ⟨#[]⟩, .int .i64 0, .int .i64 0, .bool false, .bool false, .bool false] 34) = W := hW
  have e0 := r0.cell 0
  have e1 := r0.cell 1
  have e2 := r0.cell 2
  have e3 := r0.cell 3
  have e4 := r0.cell 4
  have e5 := r0.cell 5
  simp [wdC, wd0] at e0 e1 e2 e3 e4 e5
  have f0 := r0.free 0
  have f1 := r0.free 1
  have f2 := r0.free 2
  have f3 := r0.free 3
  have f4 := r0.free 4
  have f5 := r0.free 5
  replace r0 := Lib.hid r0
  replace hBx := Lib.hid hBx
  clear hW
  go_enter Try.func51, Try.ntmps51
  go_wp2_with (fail)
  go_loopw [12] (fun x12 wr => x12 = .int .i64 0 ∧ wr = W) (fun _ _ => 0)
  case atStart => exact ⟨rfl, rfl⟩
  case round =>
    obtain ⟨rfl, rfl⟩ := hrel
    go_wp2_with (fail)
    clear e0 e1 e2 e3 e4 e5 f0 f1 f2 f3 f4 f5
    have hZ0 : ∃ Z, set6 wr g wd0 = Z := ⟨_, rfl⟩
    obtain ⟨Z, hZ⟩ := hZ0
    have rZ : Bk Z g 34 (wdC wd0).toArray := by rw [← hZ]; exact set6_bk r0.out
    have hBZ : Below g w Z := by rw [← hZ]; exact set6_below hBx.out (Nat.le_refl _)
    unfold set6 at hZ
    first | rw [hZ] | (simp only [wd0, Int.ofNat_zero, Int.natCast_zero] at hZ; rw [hZ])
    clear hZ
    have e0 := rZ.cell 0
    have e1 := rZ.cell 1
    have e2 := rZ.cell 2
    have e3 := rZ.cell 3
    have e4 := rZ.cell 4
    have e5 := rZ.cell 5
    simp [wdC, wd0] at e0 e1 e2 e3 e4 e5
    replace rZ := Lib.hid rZ
    replace hBZ := Lib.hid hBZ
    refine bodyPost_ret (by simp [results, Try.results51, go_sem, *]; rfl) rfl ?_
    first | exact ⟨rfl, by first | exact hBZ.out | (rw [hg]; exact hBZ.out)⟩
set_option maxRecDepth 100000 in
set_option maxHeartbeats 4000000 in
theorem dfind_two (nm : ByteArray) (vb : Nat) (d0 d1 : Nat) (x0 x1 : Wd) (ok0 ok1 : Bool) (w : World) (hv : Bk w vb 30 #[.pointer (some ⟨d0, 0, none⟩), .pointer (some ⟨d1, 0, none⟩)])
    (hF0 : ∀ wr, Below w.heap.size w wr → Calls Try.prog 11 #[.pointer (some ⟨d0, 0, none⟩), .string nm] wr fun e w' => e = .returned (.tuple #[wdV x0, .bool ok0]) ∧ Below wr.heap.size wr w')
    (hF1 : ∀ wr, Below w.heap.size w wr → Calls Try.prog 11 #[.pointer (some ⟨d1, 0, none⟩), .string nm] wr fun e w' => e = .returned (.tuple #[wdV x1, .bool ok1]) ∧ Below wr.heap.size wr w') :
    Calls Try.prog 51 #[.string nm, .slice (some ⟨vb, 0, none⟩) 2 2] w fun e w' => e = .returned (.tuple #[wdV (if ok0 then x0 else if ok1 then x1 else wd0), .bool (ok0 || ok1)]) ∧ Below w.heap.size w w' := by
  obtain ⟨xr, hxr⟩ : ∃ xr, (if ok0 then x0 else if ok1 then x1 else wd0) = xr := ⟨_, rfl⟩
  obtain ⟨okr, hokr⟩ : ∃ okr, (ok0 || ok1) = okr := ⟨_, rfl⟩
  rw [hxr, hokr]
  have hvl : vb < w.heap.size := hv.lt
  have hF : ∀ k, k < 2 → ∃ (d : Nat) (x : Wd) (ok : Bool), (∀ wr, Below w.heap.size w wr → wr.cell? ⟨vb, k, none⟩ = some (.pointer (some ⟨d, 0, none⟩))) ∧ (∀ wr, Below w.heap.size w wr → Calls Try.prog 11 #[.pointer (some ⟨d, 0, none⟩), .string nm] wr fun e w' => e = .returned (.tuple #[wdV x, .bool ok]) ∧ Below wr.heap.size wr w') ∧ ((k = 1 → ok0 = false) → (ok = true → xr = x ∧ okr = true) ∧ (ok = false → (k = 0 → ok0 = false) ∧ (k = 1 → ok1 = false))) := fun k hk => by
    rcases (show k = 0 ∨ k = 1 by omega) with rfl | rfl
    · refine ⟨d0, x0, ok0, fun wr hb => (hb.cell (p := ⟨vb, 0, none⟩) hvl).trans (hv.cell 0), hF0, fun _ => ⟨fun e => ⟨by rw [← hxr, if_pos e], by rw [← hokr, e]; rfl⟩, fun e => ⟨fun _ => e, fun h => by cases h⟩⟩⟩
    · refine ⟨d1, x1, ok1, fun wr hb => (hb.cell (p := ⟨vb, 1, none⟩) hvl).trans (hv.cell 1), hF1, fun h0 => ⟨fun e => ⟨by rw [← hxr, h0 rfl, e]; rfl, by rw [← hokr, h0 rfl, e]; rfl⟩, fun e => ⟨fun h => absurd h (by decide), fun _ => e⟩⟩⟩
  have hend0 : ok0 = false → ok1 = false → xr = wd0 ∧ okr = false := fun h1 h2 => by rw [← hxr, ← hokr, h1, h2]; exact ⟨rfl, rfl⟩
  have hBx : Below w.heap.size w (w.alloc (.cells (wdC wd0).toArray 34)) := (Below.refl _ _).alloc (Nat.le_refl _) _
  have r0 := Bk.fresh w 34 (wdC wd0).toArray
  obtain ⟨g, hg⟩ : ∃ g, w.heap.size = g := ⟨_, rfl⟩
  obtain ⟨W, hW⟩ : ∃ W, w.alloc (.cells (wdC wd0).toArray 34) = W := ⟨_, rfl⟩
  rw [hW] at hBx r0
  rw [hg] at r0 hBx
  have hW' : w.alloc (.cells #[.string ⟨#[]⟩, .int .i64 0, .int .i64 0, .bool false, .bool false, .bool false] 34) = W := hW
  replace r0 := Lib.hid r0
  replace hBx := Lib.hid hBx
  replace hF := Lib.hid hF
  replace hend0 := Lib.hid hend0
  clear hW hF0 hF1 hv hxr hokr hvl
  go_enter Try.func51, Try.ntmps51
  go_wp2_with (fail)
  go_loopw [12] (fun x12 wr => ∃ k : Nat, x12 = .int .i64 k ∧ k ≤ 2 ∧ Hid (Bk wr g 34 (wdC wd0).toArray ∧ Below g w wr ∧ (k = 1 → ok0 = false) ∧ (k = 2 → ok0 = false ∧ ok1 = false))) (fun x12 _ => 2 - (intOf x12).toNat)
  case atStart => exact ⟨0, rfl, by omega, r0.out, hBx.out, by simp, by simp⟩
  case round =>
    obtain ⟨k, rfl, hk, HR⟩ := hrel
    obtain ⟨r1, hB1, h1, h2⟩ := HR.out
    clear HR r0 hBx hW'
    have hB1w : Below w.heap.size w wr := by rw [hg]; exact hB1
    by_cases hk2 : k < 2
    · have k0 : (0 : Int) ≤ k := by omega
      have k1 : (k : Int) < 2 := by omega
      have k3 : ¬ (k : Int) < 0 := by omega
      have k4 : IntKind.i64.wrap ((k : Int) + 1) = ((k + 1 : Nat) : Int) := by rw [IntKind.wrap_i64]; omega
      obtain ⟨d, x, ok, hc, hcall, hst⟩ := hF.out k hk2
      have hst := hst h1
      have hc0 := hc wr hB1w
      have hcl := hcall wr hB1w
      obtain ⟨xn, xh, xx, xi, xd, xl⟩ := x
      simp only [wdV] at hcl
      replace hcl := Lib.hid hcl
      replace hst := Lib.hid hst
      replace r1 := Lib.hid r1
      replace hB1 := Lib.hid hB1
      replace h1 := Lib.hid h1
      replace h2 := Lib.hid h2
      clear hc hcall hB1w
      go_wp2_with (fail)
      refine hcl.out.mono ?_
      rintro e w3 ⟨rfl, hb3⟩
      have r3 := r1.out.kept hb3 r1.out.lt
      have hB3 := hB1.out.trans (hb3.mono (by have := hB1.out.size; omega))
      have rb := Bk.fresh w3 34 (wdC wd0).toArray
      have hBa := hB3.alloc (by have := hB3.size; omega) (.cells (wdC wd0).toArray 34)
      have r4 := r3.past (.cells (wdC wd0).toArray 34)
      have hgb : g < w3.heap.size := r3.lt
      obtain ⟨g2, hg2⟩ : ∃ g2, w3.heap.size = g2 := ⟨_, rfl⟩
      obtain ⟨W3, hW3⟩ : ∃ W3, w3.alloc (.cells (wdC wd0).toArray 34) = W3 := ⟨_, rfl⟩
      rw [hW3] at rb hBa r4
      rw [hg2] at rb hgb
      have hW3' : w3.alloc (.cells #[.string ⟨#[]⟩, .int .i64 0, .int .i64 0, .bool false, .bool false, .bool false] 34) = W3 := hW3
      have rX : Bk (set6 W3 g2 ⟨xn, xh, xx, xi, xd, xl⟩) g2 34 (wdC ⟨xn, xh, xx, xi, xd, xl⟩).toArray := set6_bk rb
      have hBX : Below g w (set6 W3 g2 ⟨xn, xh, xx, xi, xd, xl⟩) := set6_below hBa (by omega)
      have r5 : Bk (set6 W3 g2 ⟨xn, xh, xx, xi, xd, xl⟩) g 34 (wdC wd0).toArray := r4.kept (set6_below (K := g2) (Below.refl _ _) (Nat.le_refl _)) hgb
      have e0 := rb.cell 0
      have e1 := rb.cell 1
      have e2 := rb.cell 2
      have e3 := rb.cell 3
      have e4 := rb.cell 4
      have e5 := rb.cell 5
      simp [wdC, wd0] at e0 e1 e2 e3 e4 e5
      have f0 := rb.free 0
      have f1 := rb.free 1
      have f2 := rb.free 2
      have f3 := rb.free 3
      have f4 := rb.free 4
      have f5 := rb.free 5
      obtain ⟨V, hV⟩ : ∃ V, set6 W3 g2 ⟨xn, xh, xx, xi, xd, xl⟩ = V := ⟨_, rfl⟩
      rw [hV] at rX hBX r5
      unfold set6 at hV
      simp only at hV
      have v0 := rX.cell 0
      have v1 := rX.cell 1
      have v2 := rX.cell 2
      have v3 := rX.cell 3
      have v4 := rX.cell 4
      have v5 := rX.cell 5
      simp [wdC] at v0 v1 v2 v3 v4 v5
      have u0 := r5.cell 0
      have u1 := r5.cell 1
      have u2 := r5.cell 2
      have u3 := r5.cell 3
      have u4 := r5.cell 4
      have u5 := r5.cell 5
      simp [wdC, wd0] at u0 u1 u2 u3 u4 u5
      have uf0 := r5.free 0
      have uf1 := r5.free 1
      have uf2 := r5.free 2
      have uf3 := r5.free 3
      have uf4 := r5.free 4
      have uf5 := r5.free 5
      replace rX := Lib.hid rX
      replace hBX := Lib.hid hBX
      replace r5 := Lib.hid r5
      clear rb hBa r4 hW3 r3 hB3 hb3 hcl hF
      cases ok
      · have hn := Lib.hid (hst.out.2 rfl)
        go_wp2_with (fail)
        refine ⟨⟨k + 1, by first | rfl | simp, by omega, r5.out, hBX.out, ?_, ?_⟩, by simp [intOf]; omega⟩
        · intro e
          exact hn.out.1 (by omega)
        · intro e
          exact ⟨h1.out (by omega), hn.out.2 (by omega)⟩
      · obtain ⟨hx, ho⟩ := hst.out.1 rfl
        subst hx
        subst ho
        have r0 := r5
        have hBx := hBX
        go_wp2_with (fail)
        clear e0 e1 e2 e3 e4 e5 f0 f1 f2 f3 f4 f5 u0 u1 u2 u3 u4 u5
        have hZ0 : ∃ Z, set6 V g (⟨xn, xh, xx, xi, xd, xl⟩ : Wd) = Z := ⟨_, rfl⟩
        obtain ⟨Z, hZ⟩ := hZ0
        have rZ : Bk Z g 34 (wdC (⟨xn, xh, xx, xi, xd, xl⟩ : Wd)).toArray := by rw [← hZ]; exact set6_bk r0.out
        have hBZ : Below g w Z := by rw [← hZ]; exact set6_below hBx.out (Nat.le_refl _)
        unfold set6 at hZ
        first | rw [hZ] | (simp only [wd0, Int.ofNat_zero, Int.natCast_zero] at hZ; rw [hZ])
        clear hZ
        have e0 := rZ.cell 0
        have e1 := rZ.cell 1
        have e2 := rZ.cell 2
        have e3 := rZ.cell 3
        have e4 := rZ.cell 4
        have e5 := rZ.cell 5
        simp [wdC, wd0] at e0 e1 e2 e3 e4 e5
        replace rZ := Lib.hid rZ
        replace hBZ := Lib.hid hBZ
        refine bodyPost_ret (by simp [results, Try.results51, go_sem, *]; rfl) rfl ?_
        first | exact ⟨rfl, by first | exact hBZ.out | (rw [hg]; exact hBZ.out)⟩
    · obtain rfl : k = 2 := by omega
      obtain ⟨hx, ho⟩ := hend0.out (h2 rfl).1 (h2 rfl).2
      subst hx
      subst ho
      have e0 := r1.cell 0
      have e1 := r1.cell 1
      have e2 := r1.cell 2
      have e3 := r1.cell 3
      have e4 := r1.cell 4
      have e5 := r1.cell 5
      simp [wdC, wd0] at e0 e1 e2 e3 e4 e5
      have f0 := r1.free 0
      have f1 := r1.free 1
      have f2 := r1.free 2
      have f3 := r1.free 3
      have f4 := r1.free 4
      have f5 := r1.free 5
      have r0 := Lib.hid r1
      have hBx := Lib.hid hB1
      clear hF hend0 h1 h2 r1 hB1 hB1w
      go_wp2_with (fail)
      clear e0 e1 e2 e3 e4 e5 f0 f1 f2 f3 f4 f5
      have hZ0 : ∃ Z, set6 wr g wd0 = Z := ⟨_, rfl⟩
      obtain ⟨Z, hZ⟩ := hZ0
      have rZ : Bk Z g 34 (wdC wd0).toArray := by rw [← hZ]; exact set6_bk r0.out
      have hBZ : Below g w Z := by rw [← hZ]; exact set6_below hBx.out (Nat.le_refl _)
      unfold set6 at hZ
      first | rw [hZ] | (simp only [wd0, Int.ofNat_zero, Int.natCast_zero] at hZ; rw [hZ])
      clear hZ
      have e0 := rZ.cell 0
      have e1 := rZ.cell 1
      have e2 := rZ.cell 2
      have e3 := rZ.cell 3
      have e4 := rZ.cell 4
      have e5 := rZ.cell 5
      simp [wdC, wd0] at e0 e1 e2 e3 e4 e5
      replace rZ := Lib.hid rZ
      replace hBZ := Lib.hid hBZ
      refine bodyPost_ret (by simp [results, Try.results51, go_sem, *]; rfl) rfl ?_
      first | exact ⟨rfl, by first | exact hBZ.out | (rw [hg]; exact hBZ.out)⟩
end Go.Proofs.Ytoaiiimnfgbcaaa
