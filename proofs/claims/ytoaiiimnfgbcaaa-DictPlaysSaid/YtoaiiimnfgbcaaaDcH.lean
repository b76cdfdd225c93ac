import Derived.Test.YtoaiiimnfgbcaaaDcG
namespace Go.Proofs.Ytoaiiimnfgbcaaa
open Go.RowKit Go.Shelf
attribute [local go_sem] Oper.semAt_some
set_option linter.unusedVariables false
set_option linter.unusedSimpArgs false
/-! Find -/
noncomputable def hitP (nm : ByteArray) (x : Wd) : Bool := !x.hid && sameOk x.name nm
noncomputable def findP (X : List Wd) (nm : ByteArray) : Option Wd := X.find? (hitP nm)
theorem own_bk {β : Type} (k : Nat) (t : TypeId) (vs : Array Value) : Own (fun (_ : β) W => Bk W k t vs) := fun s A B row hs hg hr => by
  refine Bk.grown hs hg ?_
  intro e
  obtain ⟨o, ho, hc⟩ := hr k e.symm
  unfold Bk at hs
  rw [hs] at ho
  injection ho with ho
  subst ho
  cases hc
theorem set6_grown (W : World) (g : Nat) (x : Wd) : W.grownBy (set6 W g x) (some g) ∨ False := .inl (by
  have hO := ((((((Only.refl g W).put 0 (.string x.name)).put 1 (.int .i64 x.hd)).put 2 (.int .i64 x.xt)).put 3 (.bool x.imm)).put 4 (.bool x.hid)).put 5 (.bool x.inl)
  exact ⟨hO.os, hO.tape, hO.output, hO.size, fun k hk hne => hO.block k hk (fun e => hne (by rw [e]))⟩)
section
variable {w : World} {d p b r f y h l : Nat} {L : Lay} {B : List UInt8} {o s : Bool}
set_option maxRecDepth 100000 in
set_option maxHeartbeats 4000000 in
theorem find_any (D : Dc w d p b L r f y B o s h l) (nm : ByteArray) (hs : nm.size ≤ maxLen) :
    Calls Try.prog 11 #[.pointer (some ⟨d, 0, none⟩), .string nm] w fun e w' => e = .returned (.tuple #[wdV ((findP (walkP B f y l) nm).getD wd0), .bool (findP (walkP B f y l) nm).isSome]) ∧ Below w.heap.size w w' := by
  obtain ⟨X0, hX0⟩ : ∃ X0, (findP (walkP B f y l) nm).getD wd0 = X0 := ⟨_, rfl⟩
  obtain ⟨B0, hB0⟩ : ∃ B0, (findP (walkP B f y l) nm).isSome = B0 := ⟨_, rfl⟩
  rw [hX0, hB0]
  replace hX0 := Lib.hid hX0
  replace hB0 := Lib.hid hB0
  refine (callsIn_wide (n := 5)).1 ?_
  refine callsIn_of_wp_marks Try.func11 rfl trivial ?_ rfl
  simp only [Try.ntmps11, List.size_toArray, List.length_cons, List.length_nil, Nat.reduceAdd, Nat.reduceSub, Array.replicate_succ, Array.replicate_zero, List.push_toArray, List.append_toArray, List.nil_append, List.cons_append]
  gi_wp2_with (refine ⟨trivial, ?_⟩; gi_at_call 15; refine (callsIn_wide.2 (all_any d _)).mono ?_; rintro e w1 ⟨rfl, hw1⟩)
  obtain ⟨nb, hnb⟩ : ∃ nb, w.heap.size = nb := ⟨_, rfl⟩
  have a1 := Bk.fresh w 9 #[.string nm]
  have a2 := Bk.fresh (w.alloc (.cells #[.string nm] 9)) 34 #[.string ⟨#[]⟩, .int .i64 0, .int .i64 0, .bool false, .bool false, .bool false]
  have a3 := Bk.fresh ((w.alloc (.cells #[.string nm] 9)).alloc (.cells #[.string ⟨#[]⟩, .int .i64 0, .int .i64 0, .bool false, .bool false, .bool false] 34)) 4 #[.bool false]
  have a4 := Bk.fresh (((w.alloc (.cells #[.string nm] 9)).alloc (.cells #[.string ⟨#[]⟩, .int .i64 0, .int .i64 0, .bool false, .bool false, .bool false] 34)).alloc (.cells #[.bool false] 4)) 30 #[.pointer (some ⟨d, 0, none⟩)]
  have hBw : Below w.heap.size w w1 := by rw [hw1]; exact ((((Below.refl _ _).alloc (Nat.le_refl _) _).alloc (by simp) _).alloc (by simp; omega) _).alloc (by simp; omega) _
  rw [← hw1] at a4
  have a1 : Bk w1 nb 9 #[.string nm] := by rw [← hnb, hw1]; exact ((a1.past _).past _).past _
  have a2 : Bk w1 (nb + 1) 34 (wdC wd0).toArray := by rw [← hnb, hw1]; have := (a2.past (.cells #[.bool false] 4)).past (.cells #[.pointer (some ⟨d, 0, none⟩)] 30); rw [World.size_alloc] at this; exact this
  have a3 : Bk w1 (nb + 2) 4 #[.bool false] := by rw [← hnb, hw1]; have := a3.past (.cells #[.pointer (some ⟨d, 0, none⟩)] 30); simpa using this
  have a4 : Bk w1 (nb + 3) 30 #[.pointer (some ⟨d, 0, none⟩)] := by rw [← hnb]; simpa using a4
  have hz1 : w1.heap.size = nb + 4 := by rw [hw1, ← hnb]; simp
  have D1 := D.bel hBw
  rw [← hw1, show w.heap.size + 1 + 1 + 1 = nb + 3 by omega, show w.heap.size + 1 + 1 = nb + 2 by omega, show w.heap.size + 1 = nb + 1 by omega, hnb]
  clear hw1
  refine wpIn_rangeFunc_ownH rfl (by decide) (gf := 36) (lb := #[.pointer (some ⟨nb + 3, 0, none⟩)]) rfl trivial (enters_of Try.func36 (by kernel_rfl) rfl)
    (all_stops 4 (by decide) (nb + 3) (fun _ => False) (fun _ h => h.elim) D1 a4) (fun {_ _ _} h k => h.t k) (fun W l o o' _ hl hc _ => Kc.b W l o o' hl hc) (Below.refl _ _) (fun _ => rfl)
    (fun pre W => (((∀ x ∈ pre, hitP nm x.1 = false) ∧ Bk W nb 9 #[.string nm]) ∧ (Bk W (nb + 1) 34 (wdC wd0).toArray ∧ Bk W (nb + 2) 4 #[.bool false])) ∧ Below w.heap.size w W)
    (fun c pre W => (c = .ret ∧ ∃ x, findP (pre.map (·.1)) nm = some x ∧ Bk W (nb + 1) 34 (wdC x).toArray ∧ Bk W (nb + 2) 4 #[.bool true]) ∧ Below w.heap.size w W)
    (OwnFrom.and (OwnFrom.and (OwnFrom.and (ownFrom_pure _ _) (Own.from (own_bk _ _ _) _)) (OwnFrom.and (Own.from (own_bk _ _ _) _) (Own.from (own_bk _ _ _) _))) (ownFrom_below (Nat.le_refl _) (by omega)))
    (fun c => OwnFrom.and (fun s A B row hs hg hr => by obtain ⟨e, x, e1, e2, e3⟩ := hs; exact ⟨e, x, e1, own_bk _ _ _ () A B row e2 hg (fun r e => (hr r e).2), own_bk _ _ _ () A B row e3 hg (fun r e => (hr r e).2)⟩) (ownFrom_below (Nat.le_refl _) (by omega)))
    ⟨⟨⟨by simp, a1⟩, a2, a3⟩, hBw⟩
    (fun x a' W => ∃ Bx, nb + 2 < Bx ∧ Bk W Bx 34 (wdC x.1).toArray ∧ a' = { tmps := #[.pointer (some ⟨d, 0, none⟩), .string nm, undef, .pointer (some ⟨nb, 0, none⟩), .pointer (some ⟨nb + 1, 0, none⟩), .pointer (some ⟨nb + 2, 0, none⟩), .pointer (some ⟨Bx, 0, none⟩), .pointer (some ⟨d, 0, none⟩), .func (.func 36) #[] #[.pointer (some ⟨nb + 3, 0, none⟩)], wdV x.1, undef, undef, undef, undef, undef, undef, undef, undef, undef, undef, undef], defers := [] })
    (fun x a' _ X Y row hs hg hr => by obtain ⟨Bx, e1, e2, e3⟩ := hs; exact ⟨Bx, e1, own_bk _ _ _ () X Y row e2 hg (fun r e => (hr r e).2), e3⟩)
    ?assign ?body ?done ?stop
  case assign =>
    rintro l pre x W K ⟨⟨⟨hp, b1⟩, b2, b3⟩, hB⟩ hK
    have r0 := Bk.fresh W 34 (wdC wd0).toArray
    have hBa : Below W.heap.size W (W.alloc (.cells (wdC wd0).toArray 34)) := (Below.refl _ _).alloc (Nat.le_refl _) _
    obtain ⟨g, hg⟩ : ∃ g, W.heap.size = g := ⟨_, rfl⟩
    obtain ⟨V, hV⟩ : ∃ V, W.alloc (.cells (wdC wd0).toArray 34) = V := ⟨_, rfl⟩
    rw [hV] at r0 hBa
    rw [hg] at r0
    have hV' : W.alloc (.cells #[.string ⟨#[]⟩, .int .i64 0, .int .i64 0, .bool false, .bool false, .bool false] 34) = V := hV
    have hB6 : Below W.heap.size W (set6 V g x.1) := set6_below hBa (by omega)
    have r6 := set6_bk (y := x.1) r0
    have hKF : KeepsFrom w1.heap.size W (set6 V g x.1) := KeepsFrom.of_grownBy (grown_below hB6) (by simp)
    have hKc : Kc (fun _ => False) W (set6 V g x.1) := Kc.of_below hB6
    have hgb : nb + 2 < g := by have := b3.lt; omega
    have hI : ((((∀ x ∈ pre, hitP nm x.1 = false) ∧ Bk (set6 V g x.1) nb 9 #[.string nm]) ∧ (Bk (set6 V g x.1) (nb + 1) 34 (wdC wd0).toArray ∧ Bk (set6 V g x.1) (nb + 2) 4 #[.bool false])) ∧ Below w.heap.size w (set6 V g x.1)) := ⟨⟨⟨hp, b1.kept hB6 b1.lt⟩, b2.kept hB6 b2.lt, b3.kept hB6 b3.lt⟩, hB.trans (hB6.mono hB.size)⟩
    have hKK := hK _ (set6 V g x.1) hKF hKc hI ⟨g, hgb, r6, rfl⟩
    have e0 := r0.cell 0
    have e1 := r0.cell 1
    have e2 := r0.cell 2
    have e3 := r0.cell 3
    have e4 := r0.cell 4
    have e5 := r0.cell 5
    simp [wdC, wd0] at e0 e1 e2 e3 e4 e5
    have f0 := r0.free 0
    have f1 := r0.free 1
    have f2 := r0.free 2
    have f3 := r0.free 3
    have f4 := r0.free 4
    have f5 := r0.free 5
    replace hKK := Lib.hid hKK
    clear hV hI r6 hKF hKc hB6 hBa r0 hK hB b1 b2 b3 hp hgb
    clear hBw a1 a2 a3 a4 D1 D hs hz1 hnb
    simp only [wdV]
    gi_wp2
    have := hKK.out
    unfold set6 at this
    exact this
  case body =>
    rintro l pre x a' W hl hr ⟨⟨⟨hp, b1⟩, b2, b3⟩, hB⟩ ⟨Bx, hBx, bX, rfl⟩ hlt
    have hxs : x.1.name.size ≤ maxLen := Nat.le_trans x.2 (by decide)
    obtain ⟨⟨xn, xh, xx, xi, xd, xl⟩, hx31⟩ := x
    have hS := same_any xn nm W hxs hs
    obtain ⟨sk, hsk⟩ : ∃ sk, sameOk xn nm = sk := ⟨_, rfl⟩
    rw [hsk] at hS
    have cn := b1.cell 0
    have x0 := bX.cell 0
    have x1 := bX.cell 1
    have x2 := bX.cell 2
    have x3 := bX.cell 3
    have x4 := bX.cell 4
    have x5 := bX.cell 5
    simp [wdC] at cn x0 x1 x2 x3 x4 x5
    have hgo : (!xd && sk) = false → ∀ z ∈ pre ++ [(⟨⟨xn, xh, xx, xi, xd, xl⟩, hx31⟩ : NW)], hitP nm z.1 = false := fun h z hz => by
      rcases List.mem_append.1 hz with hz | hz
      · exact hp z hz
      · simp at hz; subst hz; unfold hitP; rw [hsk]; exact h
    cases xd
    · cases sk
      · have hS2 := hS
        replace hS := Lib.hid hS
        replace hgo := Lib.hid (hgo rfl)
        gi_wp2_with (refine ⟨trivial, ?_⟩; gi_at_call 31; refine (CallsIn.inRound l (callsIn_wide.2 hS.out)).mono ?_; rintro e w5 ⟨rfl, hb5⟩)
        exact ⟨KeepsFrom.of_grownBy (grown_below hb5) (by simp), Kc.of_below hb5, ⟨⟨hgo.out, b1.kept hb5 b1.lt⟩, b2.kept hb5 b2.lt, b3.kept hb5 b3.lt⟩, hB.trans (hb5.mono hB.size)⟩
      · have hfd : findP ((pre ++ [(⟨⟨xn, xh, xx, xi, false, xl⟩, hx31⟩ : NW)]).map (·.1)) nm = some ⟨xn, xh, xx, xi, false, xl⟩ := by
          unfold findP
          rw [List.map_append, List.find?_append]
          have h0 : (pre.map (·.1)).find? (hitP nm) = none := List.find?_eq_none.2 (fun z hz => by
            obtain ⟨z', hz', rfl⟩ := List.mem_map.1 hz
            rw [hp z' hz']; simp)
          rw [h0]
          have h1 : hitP nm ⟨xn, xh, xx, xi, false, xl⟩ = true := by unfold hitP; rw [hsk]; rfl
          simp [h1]
        replace hS := Lib.hid hS
        replace hfd := Lib.hid hfd
        have hWz := hB.size
        gi_wp2_with (refine ⟨trivial, ?_⟩; gi_at_call 31; refine (CallsIn.inRound l (callsIn_wide.2 hS.out)).mono ?_; rintro e w5 ⟨rfl, hb5⟩; have b25 := b2.kept hb5 b2.lt; have b35 := b3.kept hb5 b3.lt; have bX5 := bX.kept hb5 bX.lt; have x05 := bX5.cell 0; have x15 := bX5.cell 1; have x25 := bX5.cell 2; have x35 := bX5.cell 3; have x45 := bX5.cell 4; have x55 := bX5.cell 5; simp [wdC] at x05 x15 x25 x35 x45 x55; have r0 := b25.cell 0; have r1 := b25.cell 1; have r2 := b25.cell 2; have r3 := b25.cell 3; have r4 := b25.cell 4; have r5 := b25.cell 5; simp [wdC, wd0] at r0 r1 r2 r3 r4 r5; have q0 := b25.free 0; have q1 := b25.free 1; have q2 := b25.free 2; have q3 := b25.free 3; have q4 := b25.free 4; have q5 := b25.free 5; have s0 := b35.cell 0; simp at s0; have s1 := b35.free 0)
        have rZ : Bk ((set6 w5 (nb + 1) ⟨xn, xh, xx, xi, false, xl⟩).setCell ⟨nb + 2, 0, none⟩ (.bool true)) (nb + 1) 34 (wdC ⟨xn, xh, xx, xi, false, xl⟩).toArray := (set6_bk b25).other (p := ⟨nb + 2, 0, none⟩) (by simp) _
        have kZ0 : Bk (set6 w5 (nb + 1) ⟨xn, xh, xx, xi, false, xl⟩) (nb + 2) 4 #[.bool false] := b35.grown ((set6_grown w5 (nb + 1) ⟨xn, xh, xx, xi, false, xl⟩).resolve_right id) (by simp)
        have kZ : Bk ((set6 w5 (nb + 1) ⟨xn, xh, xx, xi, false, xl⟩).setCell ⟨nb + 2, 0, none⟩ (.bool true)) (nb + 2) 4 #[.bool true] := kZ0.put 0 (.bool true)
        have hBZ : Below w.heap.size w ((set6 w5 (nb + 1) ⟨xn, xh, xx, xi, false, xl⟩).setCell ⟨nb + 2, 0, none⟩ (.bool true)) := (set6_below (hB.trans (hb5.mono hWz)) (by omega)).setCell (p := ⟨nb + 2, 0, none⟩) (by show w.heap.size ≤ nb + 2; omega) _
        have hKZ : KeepsFrom w1.heap.size W ((set6 w5 (nb + 1) ⟨xn, xh, xx, xi, false, xl⟩).setCell ⟨nb + 2, 0, none⟩ (.bool true)) := ((KeepsFrom.of_grownBy (grown_below hb5) (by simp)).trans (KeepsFrom.of_grownBy ((set6_grown w5 (nb + 1) ⟨xn, xh, xx, xi, false, xl⟩).resolve_right id) (fun j e => by cases e; omega))).trans ((KeepsOthers.setCell _ _ _).from _)
        exact ⟨hKZ, ⟨rfl, _, hfd.out, rZ, kZ⟩, hBZ⟩
    · replace hgo := Lib.hid (hgo rfl)
      gi_wp2
      refine ⟨trivial, ?_⟩
      gi_wp2
      exact ⟨KeepsFrom.refl _ _, Kc.of_below (Below.refl _ _), ⟨⟨hgo.out, b1⟩, b2, b3⟩, hB⟩
  case done =>
    rintro D' ys W hD hys ⟨⟨⟨hp, b1⟩, b2, b3⟩, hB⟩ hK
    have hnone : findP (walkP B f y l) nm = none := by
      rw [← hys]
      exact List.find?_eq_none.2 (fun z hz => by
        obtain ⟨z', hz', rfl⟩ := List.mem_map.1 hz
        rw [hp z' hz']; simp)
    have r0 := b2.cell 0
    have r1 := b2.cell 1
    have r2 := b2.cell 2
    have r3 := b2.cell 3
    have r4 := b2.cell 4
    have r5 := b2.cell 5
    simp [wdC, wd0] at r0 r1 r2 r3 r4 r5
    have q0 := b2.free 0
    have q1 := b2.free 1
    have q2 := b2.free 2
    have q3 := b2.free 3
    have q4 := b2.free 4
    have q5 := b2.free 5
    have s0 := b3.cell 0
    simp at s0
    have s1 := b3.free 0
    replace hys := Lib.hid hys
    have hWz := hB.size
    have eX : X0 = wd0 := by rw [← hX0.out, hnone]; rfl
    have eB : B0 = false := by rw [← hB0.out, hnone]; rfl
    subst eX
    subst eB
    obtain ⟨nd, hnd⟩ : ∃ nd, D' = nd := ⟨_, rfl⟩
    have hDn : nb + 3 < nd := by omega
    have kA : Bk (set6 W (nb + 1) wd0) (nb + 1) 34 (wdC wd0).toArray := set6_bk b2
    have kB : Bk (set6 W (nb + 1) wd0) (nb + 2) 4 #[.bool false] := b3.grown ((set6_grown W (nb + 1) wd0).resolve_right id) (by simp)
    have kA2 := kA.other (p := ⟨nb + 2, 0, none⟩) (by simp) (.bool false)
    have kB2 : Bk ((set6 W (nb + 1) wd0).setCell ⟨nb + 2, 0, none⟩ (.bool false)) (nb + 2) 4 #[.bool false] := kB.put 0 (.bool false)
    have hB2 : Below w.heap.size w ((set6 W (nb + 1) wd0).setCell ⟨nb + 2, 0, none⟩ (.bool false)) := (set6_below hB (by omega)).setCell (p := ⟨nb + 2, 0, none⟩) (by show w.heap.size ≤ nb + 2; omega) _
    have kO : KeepsOthers W ((set6 W (nb + 1) wd0).setCell ⟨nb + 2, 0, none⟩ (.bool false)) := by
      unfold set6
      exact ((((((KeepsOthers.setCell _ _ _).trans (KeepsOthers.setCell _ _ _)).trans (KeepsOthers.setCell _ _ _)).trans (KeepsOthers.setCell _ _ _)).trans (KeepsOthers.setCell _ _ _)).trans (KeepsOthers.setCell _ _ _)).trans (KeepsOthers.setCell _ _ _)
    rw [hnd] at hK ⊢
    have hK' := kO.same nd _ hK rfl
    gi_wp2
    refine ⟨by simp, .inl ⟨_, _, rfl, run_takeDeferred hK', ?_⟩⟩
    have z1 := kA2.grown (grownBy_putObj' _ nd (.deferred none)) (by simp; omega)
    have z2 := kB2.grown (grownBy_putObj' _ nd (.deferred none)) (by simp; omega)
    have hBz := hB2.trans (belowK_b (w := w) (Nat.le_refl _) _ nd (.deferred (some [])) (.deferred none) (by omega) hK' rfl rfl)
    refine ⟨_, ?_, rfl, hBz⟩
    have x0 := z1.cell 0
    have x1 := z1.cell 1
    have x2 := z1.cell 2
    have x3 := z1.cell 3
    have x4 := z1.cell 4
    have x5 := z1.cell 5
    have y0 := z2.cell 0
    simp [wdC] at x0 x1 x2 x3 x4 x5 y0
    unfold set6 at x0 x1 x2 x3 x4 x5 y0
    simp only [wd0, show ((0 : Nat) : Int) = 0 from rfl] at x0 x1 x2 x3 x4 x5 y0
    simp [results, Try.f11, go_sem, wdV, wdC, wd0, x0, x1, x2, x3, x4, x5, y0]
  case stop =>
    rintro D' c pre W hD hpre ⟨⟨rfl, x, hfx, b2, b3⟩, hB⟩ hK
    have hsome : findP (walkP B f y l) nm = some x := by
      obtain ⟨t, ht⟩ := hpre
      rw [← ht]
      unfold findP at hfx ⊢
      rw [List.find?_append, hfx]; rfl
    have eX : X0 = x := by rw [← hX0.out, hsome]; rfl
    have eB : B0 = true := by rw [← hB0.out, hsome]; rfl
    subst eX
    subst eB
    have hWz := hB.size
    gi_wp2
    refine ⟨by simp, .inl ⟨_, _, rfl, run_takeDeferred hK, ?_⟩⟩
    have z1 := b2.grown (grownBy_putObj' _ D' (.deferred none)) (by simp; omega)
    have z2 := b3.grown (grownBy_putObj' _ D' (.deferred none)) (by simp; omega)
    have hBz := hB.trans (belowK_b (w := w) (Nat.le_refl _) _ D' (.deferred (some [])) (.deferred none) (by omega) hK rfl rfl)
    refine ⟨_, ?_, rfl, hBz⟩
    have x0 := z1.cell 0
    have x1 := z1.cell 1
    have x2 := z1.cell 2
    have x3 := z1.cell 3
    have x4 := z1.cell 4
    have x5 := z1.cell 5
    have y0 := z2.cell 0
    simp [wdC] at x0 x1 x2 x3 x4 x5 y0
    simp [results, Try.f11, go_sem, wdV, wdC, x0, x1, x2, x3, x4, x5, y0]
end
end Go.Proofs.Ytoaiiimnfgbcaaa
