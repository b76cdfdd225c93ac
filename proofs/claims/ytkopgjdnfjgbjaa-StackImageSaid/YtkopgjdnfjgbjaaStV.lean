import Derived.Test.YtkopgjdnfjgbjaaStU
import Derived.Test.YtkopgjdnfjgbjaaStQ
namespace Go.Proofs.Ytkopgjdnfjgbjaa
open Go.RowKit
set_option linter.unusedVariables false
set_option linter.unusedSimpArgs false
/-! does: one operation of the script -/
/-- an append whose run is known -/
theorem wpList_append_run {P : Program} {w w2 : World} {ops : Array Oper} {rest : List Oper} {o : Oper} {a : Act} {Q : Exit → Act → World → Prop} (hgd : o.guard = none) (s x : Operand) (t : TypeId)
    (ho : o.op = .call { callee := .builtin .append, args := #[s, x], argTypes := #[t, t] }) (v0 v1 V : Value) (hs : a.eval s = v0) (hx : a.eval x = V)
    (hrun : (Builtin.append_ #[t, t] o.type #[v0, V]).run P w = .ok v1 w2) (h : wpList P ops Q rest (a.put o.dst v1) w2) : wpList P ops Q (o :: rest) a w := by
  refine wpList_plain hgd fun K hK => ?_
  unfold Oper.wp execOp
  simp only [ho, resolve, invoke, builtin, Sem.run_bind, Sem.run_pure, Result.andThen_ok, List.map_toArray, List.map_cons, List.map_nil, hs, hx, hrun]
  exact hK _ _ h
section
variable {w0 W : World} {a : Ads} {L : Lay} {B : List UInt8} {d : Nat → Nat}
theorem Wd.drew (h : Wd w0 W a L B d) : Wd w0 W.drew a L B d := h.draws 1
theorem Rs.drew {xs : Nat → List Int} (h : Rs w0 W a xs d) : Rs w0 W.drew a xs d := h.draws 1
theorem Pl.drew (h : Pl w0 W a L B d) : Pl w0 W.drew a L B d := h.draws 1
theorem Wd.slot (h : Wd w0 W a L B d) (k : Nat) (hk : k < 3) : W.cell? ⟨a.wp, 1 + k, none⟩ = some (.pointer (some ⟨a.s k, 0, none⟩)) ∧ W.cell? ⟨a.wp, 4 + k, none⟩ = some (.pointer (some ⟨a.r k, 0, none⟩)) := by
  rw [h.wl.cell, h.wl.cell]
  rcases (by omega : k = 0 ∨ k = 1 ∨ k = 2) with rfl | rfl | rfl <;> exact ⟨rfl, rfl⟩
set_option maxRecDepth 100000 in
set_option maxHeartbeats 20000000 in
theorem does_any (h : Pl w0 W a L B d) (o0 o1 o2 : Int) (OB : Option Addr) (ol oc : Nat) (h0 : inI o0) (h1 : inI o1) (h2 : inI o2) (hV : Ints w0 OB ol) (hVl : ol * 8 ≤ 140737488351232) (hVn : OB = none → ol = 0 ∧ oc = 0) :
    Calls Try.prog 27 #[.pointer (some ⟨a.wp, 0, none⟩), .agg #[.int .i64 o0, .int .i64 o1, .int .i64 o2, .slice OB ol oc]] W fun e w' => e = .returned (.bool true) ∧ ∃ B' d', Pl w0 w' a L B' d' := by
  obtain ⟨sb, so, vs, hvn, hv0, hvi, hsb⟩ := ints_rowd hV
  have hp1 := fun W => pick_any o0 3 W h0.1 h0.2 (by decide) (by decide)
  have hp2 := fun W => pick_any o1 9 W h1.1 h1.2 (by decide) (by decide)
  rw [show (3 : Int).toNat = 3 from rfl] at hp1
  rw [show (9 : Int).toNat = 9 from rfl] at hp2
  have hk := pickN_lt o0 3 (by decide)
  have hkk := pickN_lt o1 9 (by decide)
  obtain ⟨k, hk0⟩ : ∃ k, pickN o0 3 = k := ⟨_, rfl⟩
  obtain ⟨kk, hkk0⟩ : ∃ kk, pickN o1 9 = kk := ⟨_, rfl⟩
  simp only [hk0] at hp1 hk
  simp only [hkk0] at hp2 hkk
  clear hk0 hkk0 h0 h1
  replace hp1 := Lib.hid hp1
  replace hp2 := Lib.hid hp2
  replace h := Lib.hid h
  replace hv0 := Lib.hid hv0
  replace hvi := Lib.hid hvi
  replace hsb := Lib.hid hsb
  have k0 : (0 : Int) ≤ (k : Int) := by omega
  have k3 : (k : Int) < 3 := by omega
  go_enter Try.func27, Try.ntmps27
  go_wp2_with (fail)
  have hBx := Bk.fresh W 65 #[.int .i64 o0, .int .i64 o1, .int .i64 o2, .slice OB ol oc]
  have hlx : Below W.heap.size W (W.alloc (.cells #[.int .i64 o0, .int .i64 o1, .int .i64 o2, .slice OB ol oc] 65)) := (Below.refl _ _).alloc (Nat.le_refl _) _
  obtain ⟨X, hX⟩ : ∃ X, W.alloc (.cells #[.int .i64 o0, .int .i64 o1, .int .i64 o2, .slice OB ol oc] 65) = X := ⟨_, rfl⟩
  rw [hX] at hBx hlx ⊢
  clear hX
  obtain ⟨bx, hbx⟩ : ∃ bx, W.heap.size = bx := ⟨_, rfl⟩
  rw [hbx] at hBx ⊢
  have hP := Lib.hid (h.out.bel hlx)
  clear hbx hlx
  have x1 := hBx.cell 1
  have x2 := hBx.cell 2
  have x3 := hBx.cell 3
  simp at x1 x2 x3
  replace hBx := Lib.hid hBx
  refine (hp1.out X).mono ?_
  rintro e X1 ⟨rfl, hw_⟩
  have hw_ := hw_.symm
  subst hw_
  obtain ⟨s1, s2⟩ := hP.out.wd.slot k hk
  go_wp2_with (fail)
  refine (hp2.out X).mono ?_
  rintro e X1 ⟨rfl, hw_⟩
  have hw_ := hw_.symm
  subst hw_
  clear s1 s2 hp1 hp2 h x1
  have hW := Lib.hid hP.out.wd
  have hRs := Lib.hid hP.out.rs
  rcases (by omega : kk = 0 ∨ kk = 1 ∨ kk = 2 ∨ kk = 3 ∨ kk = 4 ∨ kk = 5 ∨ kk = 6 ∨ kk = 7 ∨ kk = 8) with rfl | rfl | rfl | rfl | rfl | rfl | rfl | rfl | rfl
  all_goals clear hkk
  · skip
    obtain ⟨ti, hti, hy0, hy1, hy2⟩ := info_parts info_int
    obtain ⟨f, B', d', xs', pS, pR, hE⟩ := both_push hP.out k hk vs (by omega) hvi.out
    rw [hvn] at pS pR
    replace pS := Lib.hid pS
    replace pR := Lib.hid pR
    replace hE := Lib.hid hE
    have hb1 : Below X.heap.size X (X.alloc (.cells #[] 3)) := (Below.refl _ _).alloc (Nat.le_refl _) _
    have hBx1 := hBx.out.past (.cells #[] 3)
    have x3 := hBx1.cell 3
    simp at x3
    have hown0 : (X.alloc (.cells #[] 3)).ownsRow X.heap.size 3 1 (.slice (some ⟨X.heap.size, 0, none⟩) 0 0) 0 (i64s []) := ⟨rfl, .inr ⟨X.heap.size, 0, #[], rfl, Nat.le_refl _, Bk.fresh X _ _, Nat.le_refl _, Nat.zero_le _, rfl, rfl⟩⟩
    have hsrc := hv0.out.bel (hP.out.wd.be.trans (hb1.mono hP.out.wd.be.size)) (fun h => hsb.out (by rw [hvn] at h; exact h))
    have hgx : a.g k < X.heap.size := (hP.out.rs.q k hk).row.lt
    have hsr : 0 < ol → sb ≠ a.r k ∧ sb ≠ a.g k := fun h => by
      have h1 := hsb.out h
      have h2 := hP.out.rs.lo k hk
      omega
    replace hsr := Lib.hid hsr
    replace hb1 := Lib.hid hb1
    replace hBx1 := Lib.hid hBx1
    replace hown0 := Lib.hid hown0
    replace hsrc := Lib.hid hsrc
    have happ : ∃ v1 w2, (Builtin.append_ #[38, 38] 38 #[.slice (some ⟨X.heap.size, 0, none⟩) 0 0, .slice OB ol oc]).run Try.prog (X.alloc (.cells #[] 3)) = .ok v1 w2 ∧ w2.ownsRow X.heap.size 3 1 v1 ol (i64s vs) ∧ Below X.heap.size X w2 := by
      cases hOB : OB with
      | none =>
        subst hOB
        obtain ⟨rfl, rfl⟩ := hVn rfl
        obtain rfl : vs = [] := List.eq_nil_of_length_eq_zero hvn
        exact ⟨_, _, run_append_owned_none (P := Try.prog) (X.alloc (.cells #[] 3)) X.heap.size 38 38 3 ti 1 Try.underlying38 hti _ 0 (i64s []) hown0.out, hown0.out, hb1.out⟩
      | some ad =>
        subst hOB
        obtain ⟨v1, w2, hr, h1, h2, _⟩ := run_append_own (P := Try.prog) (X.alloc (.cells #[] 3)) X.heap.size 38 38 3 ti (.int .i64 0) 1 8 Try.underlying38 hti hy0 hy1 hy2 rfl (by decide) _ 0 (i64s []) hown0.out ad ol oc (i64s vs) (by simp [i64s, hvn]) (fun j u hu => by
          have hj : j < vs.length := by
            have := (List.getElem?_eq_some_iff.1 hu).1
            simpa [i64s] using this
          obtain ⟨e1, e2⟩ := hsrc.out j hj
          injection e1 with e1
          subst e1
          rw [show ((⟨sb, so, none⟩ : Addr).add j) = ⟨sb, so + j, none⟩ by unfold Addr.add; split <;> simp_all]
          rw [e2]
          simp only [i64s, List.getElem?_map, List.getElem?_eq_getElem hj, Option.map_some, Option.some.injEq] at hu
          rw [hu]) (fun u hu => by obtain ⟨x, _, rfl⟩ := List.mem_map.1 hu; rfl) (by unfold maxLen; omega) (by omega) (by simp)
        rw [Nat.zero_add] at h1
        exact ⟨v1, w2, hr, h1, below_grown hb1.out hown0.out (Nat.le_refl _) (by simp) h2⟩
    obtain ⟨v1, w2, hrun, hown1, hb2⟩ := happ
    have hBx2 := hBx.out.kept hb2 hBx.out.lt
    have hBx3 := hBx2.past (.cells #[.int .i64 77] 3)
    have x3' := hBx2.cell 3
    simp at x3'
    obtain ⟨V, hV⟩ : ∃ V, Value.slice OB ol oc = V := ⟨_, rfl⟩
    rw [hV] at x3 hrun
    replace hV := Lib.hid hV
    replace hrun := Lib.hid hrun
    replace hown1 := Lib.hid hown1
    replace hb2 := Lib.hid hb2
    replace hBx2 := Lib.hid hBx2
    replace hBx3 := Lib.hid hBx3
    clear x3'
    go_wp2_with (first | (at_builtin; refine wpList_append_run rfl (.tmp 44) (.tmp 46) 38 rfl _ v1 V rfl rfl hrun.out ?_) | (at_builtin; refine wpList_append_own _ rfl (.tmp 48) (.tmp 49) 38 rfl X.heap.size 3 ti (.int .i64 0) 1 8 Try.underlying38 hti hy0 hy1 hy2 rfl (by decide) _ ol (i64s vs) rfl (hown1.out.alloc _) ⟨w2.heap.size, 0, none⟩ 1 1 (i64s [77]) rfl rfl ?c1 ?c2 (by unfold maxLen; omega) (by omega) (by have := hb2.out.size; simp; omega) ?_))
    case c1 =>
      intro j u hj
      match j, hj with
      | 0, hj => simp [i64s] at hj; subst hj; simp [Addr.add]
    case c2 => intro u hu; simp [i64s] at hu; subst hu; rfl
    intro v2 w3 hown2 hgr2 _
    have hb3 : Below X.heap.size X w3 := below_grown (hb2.out.alloc hb2.out.size (.cells #[.int .i64 77] 3)) (hown1.out.alloc _) (Nat.le_refl _) (by have := hb2.out.size; simp; omega) hgr2
    obtain ⟨gv, cap, cur, rfl, hgv, hBv, hcur, hcs, hcc⟩ := own_block hown2 (by omega)
    have hcv : ∀ j (hj : j < vs.length), cur[j]? = some (.int .i64 vs[j]) := fun j hj => hcur j _ (by
      have hx : j < (i64s vs).length := by simpa [i64s] using hj
      rw [List.getElem?_append_left hx]
      simp [i64s, List.getElem?_eq_getElem hj])
    have hcl : cur[ol]? = some (.int .i64 77) := hcur ol _ (by
      have hx : (i64s vs).length = ol := by simp [i64s, hvn]
      rw [List.getElem?_append_right (by omega), hx, Nat.sub_self]
      rfl)
    have hP3 := Lib.hid (hP.out.bel hb3)
    have hrv : ∀ W', Bk W' gv 3 cur → Rowd W' (some ⟨gv, 0, none⟩) gv 0 vs := fun W' hb j hj => ⟨rfl, by rw [hb.cell, Nat.zero_add]; exact hcv j hj⟩
    have hBx4 := hBx.out.kept hb3 hBx.out.lt
    have x3 := hBx4.cell 3
    simp at x3
    clear hgr2 hown2 hcur hV x2
    replace hBv := Lib.hid hBv
    replace hrv := Lib.hid hrv
    replace hb3 := Lib.hid hb3
    replace hBx4 := Lib.hid hBx4
    replace hgv := Lib.hid hgv
    have i0 : (0 : Int) ≤ (ol : Int) := by omega
    have i1 : (ol : Int) ≤ (cap : Int) := by omega
    have i2 : (ol : Int) < (ol : Int) + 1 := by omega
    have i3 : (ol : Int) ≤ 17592186044415 := by omega
    go_wp2_with (fail)
    refine (pS.out w3 _ _ (some ⟨gv, 0, none⟩) cap gv 0 hP3.out.wd hP3.out.rs (hrv.out _ hBv.out)).mono ?_
    rintro e w4 ⟨rfl, hW4, hR4, hD4⟩
    have hBv4 := hD4.bk hBv.out (hBv.out.ne (hP3.out.wd.st k hk).st (by decide)) (hBv.out.ne hP3.out.wd.im.by_ (by decide))
    have hBx5 := hD4.bk hBx4.out (hBx4.out.ne (hP3.out.wd.st k hk).st (by decide)) (hBx4.out.ne hP3.out.wd.im.by_ (by decide))
    have x3 := hBx5.cell 3
    simp at x3
    replace hBv4 := Lib.hid hBv4
    replace hBx5 := Lib.hid hBx5
    clear hD4
    go_wp2_with (fail)
    have hsrc4 := hv0.out.bel hW4.out.be (fun h => hsb.out (by rw [hvn] at h; exact h))
    refine (pR.out w4 _ _ OB oc sb so hW4.out hR4.out hsrc4 hsr.out).mono ?_
    rintro e w5 ⟨rfl, hW5, hR5, hD5⟩
    have hBv5 := hD5.bk hBv4.out (hBv4.out.ne (hR4.out.q k hk).st (by decide)) (by have := hgv.out; omega)
    have hBx6 := hD5.bk hBx5.out (hBx5.out.ne (hR4.out.q k hk).st (by decide)) (hBx5.out.ne (hR4.out.q k hk).row (by decide))
    have x3 := hBx6.cell 3
    have cv : w5.cell? ⟨gv, ol, none⟩ = some (.int .i64 77) := by rw [hBv5.cell]; exact hcl
    simp at x3
    have hsrc5 := hv0.out.bel hW5.out.be (fun h => hsb.out (by rw [hvn] at h; exact h))
    have hs5 := Lib.hid (fun n => same_any (some ⟨gv, 0, none⟩) OB ol cap ol oc gv 0 sb so vs vs (w5.drewN n) (hrv.out _ (hBv5.draws n)) hsrc5 hvn hvn (by omega))
    have hP5 := Lib.hid (hE.out _ hW5.out hR5.out)
    clear hD5 hsrc4 hsrc5 hBx6 hcl hcv
    replace hBv5 := Lib.hid hBv5
    go_wp2_with (fail)
    simp only [decide_true] at hs5
    go_quiet ((go_at_call 21; with_reducible exact Calls.quiet_of (hs5.out _)))
    go_wp2_with (fail)
    go_returns
    exact ⟨rfl, B', d', hP5.out.draws _⟩
  · skip
    obtain ⟨ti, hti, hy0, hy1, hy2⟩ := info_parts info_int
    obtain ⟨f, B', d', xs', pS, pR, hE⟩ := both_push hP.out k hk vs (by omega) hvi.out
    rw [hvn] at pS pR
    replace pS := Lib.hid pS
    replace pR := Lib.hid pR
    replace hE := Lib.hid hE
    have hb1 : Below X.heap.size X (X.alloc (.cells #[] 3)) := (Below.refl _ _).alloc (Nat.le_refl _) _
    have hBx1 := hBx.out.past (.cells #[] 3)
    have x3 := hBx1.cell 3
    simp at x3
    have hown0 : (X.alloc (.cells #[] 3)).ownsRow X.heap.size 3 1 (.slice (some ⟨X.heap.size, 0, none⟩) 0 0) 0 (i64s []) := ⟨rfl, .inr ⟨X.heap.size, 0, #[], rfl, Nat.le_refl _, Bk.fresh X _ _, Nat.le_refl _, Nat.zero_le _, rfl, rfl⟩⟩
    have hsrc := hv0.out.bel (hP.out.wd.be.trans (hb1.mono hP.out.wd.be.size)) (fun h => hsb.out (by rw [hvn] at h; exact h))
    have hgx : a.g k < X.heap.size := (hP.out.rs.q k hk).row.lt
    have hsr : 0 < ol → sb ≠ a.r k ∧ sb ≠ a.g k := fun h => by
      have h1 := hsb.out h
      have h2 := hP.out.rs.lo k hk
      omega
    replace hsr := Lib.hid hsr
    replace hb1 := Lib.hid hb1
    replace hBx1 := Lib.hid hBx1
    replace hown0 := Lib.hid hown0
    replace hsrc := Lib.hid hsrc
    have happ : ∃ v1 w2, (Builtin.append_ #[38, 38] 38 #[.slice (some ⟨X.heap.size, 0, none⟩) 0 0, .slice OB ol oc]).run Try.prog (X.alloc (.cells #[] 3)) = .ok v1 w2 ∧ w2.ownsRow X.heap.size 3 1 v1 ol (i64s vs) ∧ Below X.heap.size X w2 := by
      cases hOB : OB with
      | none =>
        subst hOB
        obtain ⟨rfl, rfl⟩ := hVn rfl
        obtain rfl : vs = [] := List.eq_nil_of_length_eq_zero hvn
        exact ⟨_, _, run_append_owned_none (P := Try.prog) (X.alloc (.cells #[] 3)) X.heap.size 38 38 3 ti 1 Try.underlying38 hti _ 0 (i64s []) hown0.out, hown0.out, hb1.out⟩
      | some ad =>
        subst hOB
        obtain ⟨v1, w2, hr, h1, h2, _⟩ := run_append_own (P := Try.prog) (X.alloc (.cells #[] 3)) X.heap.size 38 38 3 ti (.int .i64 0) 1 8 Try.underlying38 hti hy0 hy1 hy2 rfl (by decide) _ 0 (i64s []) hown0.out ad ol oc (i64s vs) (by simp [i64s, hvn]) (fun j u hu => by
          have hj : j < vs.length := by
            have := (List.getElem?_eq_some_iff.1 hu).1
            simpa [i64s] using this
          obtain ⟨e1, e2⟩ := hsrc.out j hj
          injection e1 with e1
          subst e1
          rw [show ((⟨sb, so, none⟩ : Addr).add j) = ⟨sb, so + j, none⟩ by unfold Addr.add; split <;> simp_all]
          rw [e2]
          simp only [i64s, List.getElem?_map, List.getElem?_eq_getElem hj, Option.map_some, Option.some.injEq] at hu
          rw [hu]) (fun u hu => by obtain ⟨x, _, rfl⟩ := List.mem_map.1 hu; rfl) (by unfold maxLen; omega) (by omega) (by simp)
        rw [Nat.zero_add] at h1
        exact ⟨v1, w2, hr, h1, below_grown hb1.out hown0.out (Nat.le_refl _) (by simp) h2⟩
    obtain ⟨v1, w2, hrun, hown1, hb2⟩ := happ
    have hBx2 := hBx.out.kept hb2 hBx.out.lt
    have hBx3 := hBx2.past (.cells #[.int .i64 77] 3)
    have x3' := hBx2.cell 3
    simp at x3'
    obtain ⟨V, hV⟩ : ∃ V, Value.slice OB ol oc = V := ⟨_, rfl⟩
    rw [hV] at x3 hrun
    replace hV := Lib.hid hV
    replace hrun := Lib.hid hrun
    replace hown1 := Lib.hid hown1
    replace hb2 := Lib.hid hb2
    replace hBx2 := Lib.hid hBx2
    replace hBx3 := Lib.hid hBx3
    clear x3'
    go_wp2_with (first | (at_builtin; refine wpList_append_run rfl (.tmp 44) (.tmp 46) 38 rfl _ v1 V rfl rfl hrun.out ?_) | (at_builtin; refine wpList_append_own _ rfl (.tmp 48) (.tmp 49) 38 rfl X.heap.size 3 ti (.int .i64 0) 1 8 Try.underlying38 hti hy0 hy1 hy2 rfl (by decide) _ ol (i64s vs) rfl (hown1.out.alloc _) ⟨w2.heap.size, 0, none⟩ 1 1 (i64s [77]) rfl rfl ?c1 ?c2 (by unfold maxLen; omega) (by omega) (by have := hb2.out.size; simp; omega) ?_))
    case c1 =>
      intro j u hj
      match j, hj with
      | 0, hj => simp [i64s] at hj; subst hj; simp [Addr.add]
    case c2 => intro u hu; simp [i64s] at hu; subst hu; rfl
    intro v2 w3 hown2 hgr2 _
    have hb3 : Below X.heap.size X w3 := below_grown (hb2.out.alloc hb2.out.size (.cells #[.int .i64 77] 3)) (hown1.out.alloc _) (Nat.le_refl _) (by have := hb2.out.size; simp; omega) hgr2
    obtain ⟨gv, cap, cur, rfl, hgv, hBv, hcur, hcs, hcc⟩ := own_block hown2 (by omega)
    have hcv : ∀ j (hj : j < vs.length), cur[j]? = some (.int .i64 vs[j]) := fun j hj => hcur j _ (by
      have hx : j < (i64s vs).length := by simpa [i64s] using hj
      rw [List.getElem?_append_left hx]
      simp [i64s, List.getElem?_eq_getElem hj])
    have hcl : cur[ol]? = some (.int .i64 77) := hcur ol _ (by
      have hx : (i64s vs).length = ol := by simp [i64s, hvn]
      rw [List.getElem?_append_right (by omega), hx, Nat.sub_self]
      rfl)
    have hP3 := Lib.hid (hP.out.bel hb3)
    have hrv : ∀ W', Bk W' gv 3 cur → Rowd W' (some ⟨gv, 0, none⟩) gv 0 vs := fun W' hb j hj => ⟨rfl, by rw [hb.cell, Nat.zero_add]; exact hcv j hj⟩
    have hBx4 := hBx.out.kept hb3 hBx.out.lt
    have x3 := hBx4.cell 3
    simp at x3
    clear hgr2 hown2 hcur hV x2
    replace hBv := Lib.hid hBv
    replace hrv := Lib.hid hrv
    replace hb3 := Lib.hid hb3
    replace hBx4 := Lib.hid hBx4
    replace hgv := Lib.hid hgv
    have i0 : (0 : Int) ≤ (ol : Int) := by omega
    have i1 : (ol : Int) ≤ (cap : Int) := by omega
    have i2 : (ol : Int) < (ol : Int) + 1 := by omega
    have i3 : (ol : Int) ≤ 17592186044415 := by omega
    go_wp2_with (fail)
    refine (pS.out w3 _ _ (some ⟨gv, 0, none⟩) cap gv 0 hP3.out.wd hP3.out.rs (hrv.out _ hBv.out)).mono ?_
    rintro e w4 ⟨rfl, hW4, hR4, hD4⟩
    have hBv4 := hD4.bk hBv.out (hBv.out.ne (hP3.out.wd.st k hk).st (by decide)) (hBv.out.ne hP3.out.wd.im.by_ (by decide))
    have hBx5 := hD4.bk hBx4.out (hBx4.out.ne (hP3.out.wd.st k hk).st (by decide)) (hBx4.out.ne hP3.out.wd.im.by_ (by decide))
    have x3 := hBx5.cell 3
    simp at x3
    replace hBv4 := Lib.hid hBv4
    replace hBx5 := Lib.hid hBx5
    clear hD4
    go_wp2_with (fail)
    have hsrc4 := hv0.out.bel hW4.out.be (fun h => hsb.out (by rw [hvn] at h; exact h))
    refine (pR.out w4 _ _ OB oc sb so hW4.out hR4.out hsrc4 hsr.out).mono ?_
    rintro e w5 ⟨rfl, hW5, hR5, hD5⟩
    have hBv5 := hD5.bk hBv4.out (hBv4.out.ne (hR4.out.q k hk).st (by decide)) (by have := hgv.out; omega)
    have hBx6 := hD5.bk hBx5.out (hBx5.out.ne (hR4.out.q k hk).st (by decide)) (hBx5.out.ne (hR4.out.q k hk).row (by decide))
    have x3 := hBx6.cell 3
    have cv : w5.cell? ⟨gv, ol, none⟩ = some (.int .i64 77) := by rw [hBv5.cell]; exact hcl
    simp at x3
    have hsrc5 := hv0.out.bel hW5.out.be (fun h => hsb.out (by rw [hvn] at h; exact h))
    have hs5 := Lib.hid (fun n => same_any (some ⟨gv, 0, none⟩) OB ol cap ol oc gv 0 sb so vs vs (w5.drewN n) (hrv.out _ (hBv5.draws n)) hsrc5 hvn hvn (by omega))
    have hP5 := Lib.hid (hE.out _ hW5.out hR5.out)
    clear hD5 hsrc4 hsrc5 hBx6 hcl hcv
    replace hBv5 := Lib.hid hBv5
    go_wp2_with (fail)
    simp only [decide_true] at hs5
    go_quiet ((go_at_call 21; with_reducible exact Calls.quiet_of (hs5.out _)))
    go_wp2_with (fail)
    go_returns
    exact ⟨rfl, B', d', hP5.out.draws _⟩
  · obtain ⟨⟨v, f⟩, d', hS, hR⟩ := both_pop hP.out k hk
    unfold SC at hS
    unfold RC at hR
    replace hS := Lib.hid hS
    replace hR := Lib.hid hR
    go_wp2_with (fail)
    refine (hS.out _ _ _ hW.out hRs.out).mono ?_
    rintro e X2 ⟨rfl, hW, hRs, -⟩
    go_wp2_with (fail)
    refine (hR.out _ _ _ hW.out hRs.out).mono ?_
    rintro e X3 ⟨rfl, hW, hRs, -⟩
    go_wp2_with (fail)
    go_returns
    exact ⟨rfl, _, _, hW.out, hRs.out⟩
  · obtain ⟨⟨v, f⟩, hS, hR⟩ := both_peek hP.out k hk o2
    unfold SC at hS
    unfold RC at hR
    replace hS := Lib.hid hS
    replace hR := Lib.hid hR
    go_wp2_with (fail)
    refine (hS.out _ _ _ hW.out hRs.out).mono ?_
    rintro e X2 ⟨rfl, hW, hRs, hK⟩
    have x2 := (hK.out _ _ hBx.out).cell 2
    simp at x2
    go_wp2_with (fail)
    refine (hR.out _ _ _ hW.out hRs.out).mono ?_
    rintro e X3 ⟨rfl, hW, hRs, -⟩
    go_wp2_with (fail)
    go_returns
    exact ⟨rfl, _, _, hW.out, hRs.out⟩
  · have hpoke : ∀ v : Int, isI v → True := fun _ _ => trivial
    clear hpoke
    have hcell0 : 0 < ol → OB = some ⟨sb, so, none⟩ ∧ (∃ v, isI v ∧ X.cell? ⟨sb, so, none⟩ = some (.int .i64 v)) := by
      intro hp
      obtain ⟨rA, rv⟩ := (hv0.out.bel hP.out.wd.be (fun h => hsb.out (by rw [hvn] at h; exact h))) 0 (by rw [hvn]; exact hp)
      exact ⟨rA, _, hvi.out _ (List.getElem_mem _), rv⟩
    by_cases hol : 0 < ol
    · obtain ⟨rfl, v, hvI, cv⟩ := hcell0 hol
      have i0 : (0 : Int) < (ol : Int) := by omega
      obtain ⟨f, B', d', xs', hS, hR, hE⟩ := both_poke hP.out k hk o2 v hvI
      unfold SC at hS
      unfold RC at hR
      replace hS := Lib.hid hS
      replace hR := Lib.hid hR
      replace hE := Lib.hid hE
      go_wp2_with (fail)
      go_region_held3 (fun w' => w'.cell? ⟨bx, 2, none⟩ = some (.int .i64 o2)) ((simp [go_sem, *]))
        (first
          | (go_at_call 22; (with_reducible refine Calls.mono (hS.out _ _ _ (by first | exact hW.out | exact hW.out.drew) (by first | exact hRs.out | exact hRs.out.drew)) ?_); rintro e w1_ ⟨rfl, hW, hRs, hK⟩; replace hBx := Lib.hid (hK.out bx _ (by first | exact hBx.out | exact hBx.out.draws 1)); have kS : w1_.cell? ⟨bx, 2, none⟩ = some (.int .i64 o2) := hBx.out.cell 2)
          | (go_at_call 38; (with_reducible refine Calls.mono (hR.out _ _ _ (by first | exact hW.out | exact hW.out.drew) (by first | exact hRs.out | exact hRs.out.drew)) ?_); rintro e w1_ ⟨rfl, hW, hRs, hK⟩; replace hBx := Lib.hid (hK.out bx _ (by first | exact hBx.out | exact hBx.out.draws 1)); have kS : w1_.cell? ⟨bx, 2, none⟩ = some (.int .i64 o2) := hBx.out.cell 2))
      all_goals (go_wp2_with (fail))
      all_goals go_returns
      all_goals exact ⟨rfl, _, _, hE.out _ hW.out hRs.out⟩
    · have i0 : ¬ (0 : Int) < (ol : Int) := by omega
      have hvI : isI 0 := by unfold isI; decide
      obtain ⟨f, B', d', xs', hS, hR, hE⟩ := both_poke hP.out k hk o2 0 hvI
      unfold SC at hS
      unfold RC at hR
      replace hS := Lib.hid hS
      replace hR := Lib.hid hR
      replace hE := Lib.hid hE
      go_wp2_with (fail)
      go_region_held3 (fun w' => w'.cell? ⟨bx, 2, none⟩ = some (.int .i64 o2)) ((simp [go_sem, *]))
        (first
          | (go_at_call 22; (with_reducible refine Calls.mono (hS.out _ _ _ (by first | exact hW.out | exact hW.out.drew) (by first | exact hRs.out | exact hRs.out.drew)) ?_); rintro e w1_ ⟨rfl, hW, hRs, hK⟩; replace hBx := Lib.hid (hK.out bx _ (by first | exact hBx.out | exact hBx.out.draws 1)); have kS : w1_.cell? ⟨bx, 2, none⟩ = some (.int .i64 o2) := hBx.out.cell 2)
          | (go_at_call 38; (with_reducible refine Calls.mono (hR.out _ _ _ (by first | exact hW.out | exact hW.out.drew) (by first | exact hRs.out | exact hRs.out.drew)) ?_); rintro e w1_ ⟨rfl, hW, hRs, hK⟩; replace hBx := Lib.hid (hK.out bx _ (by first | exact hBx.out | exact hBx.out.draws 1)); have kS : w1_.cell? ⟨bx, 2, none⟩ = some (.int .i64 o2) := hBx.out.cell 2))
      all_goals (go_wp2_with (fail))
      all_goals go_returns
      all_goals exact ⟨rfl, _, _, hE.out _ hW.out hRs.out⟩
  · obtain ⟨f, B', d', xs', hS, hR, hE⟩ := both_roll hP.out k hk o2
    unfold SC at hS
    unfold RC at hR
    replace hS := Lib.hid hS
    replace hR := Lib.hid hR
    replace hE := Lib.hid hE
    go_wp2_with (fail)
    go_region_held3 (fun w' => w'.cell? ⟨bx, 2, none⟩ = some (.int .i64 o2)) ((simp [go_sem, *]))
      (first
        | (go_at_call 20; (with_reducible refine Calls.mono (hS.out _ _ _ (by first | exact hW.out | exact hW.out.drew) (by first | exact hRs.out | exact hRs.out.drew)) ?_); rintro e w1_ ⟨rfl, hW, hRs, hK⟩; replace hBx := Lib.hid (hK.out bx _ (by first | exact hBx.out | exact hBx.out.draws 1)); have kS : w1_.cell? ⟨bx, 2, none⟩ = some (.int .i64 o2) := hBx.out.cell 2)
        | (go_at_call 39; (with_reducible refine Calls.mono (hR.out _ _ _ (by first | exact hW.out | exact hW.out.drew) (by first | exact hRs.out | exact hRs.out.drew)) ?_); rintro e w1_ ⟨rfl, hW, hRs, hK⟩; replace hBx := Lib.hid (hK.out bx _ (by first | exact hBx.out | exact hBx.out.draws 1)); have kS : w1_.cell? ⟨bx, 2, none⟩ = some (.int .i64 o2) := hBx.out.cell 2))
    all_goals (go_wp2_with (fail))
    all_goals go_returns
    all_goals exact ⟨rfl, _, _, hE.out _ hW.out hRs.out⟩
  · have hS := both_reset hP.out k hk
    unfold SC at hS
    replace hS := Lib.hid hS
    go_wp2_with (fail)
    refine (hS.out _ _ _ hW.out hRs.out).mono ?_
    rintro e X2 ⟨rfl, hW, hRs, -⟩
    have e1 := (hRs.out.q k hk).c1
    have f1 := (hRs.out.q k hk).st.free 1
    have hR2 := Lib.hid (hRs.out.reset k hk)
    have hW2 := Lib.hid (hW.out.ref hRs.out k hk (Duo.one ((Only.refl (a.r k) X2).put 1 (.int .i64 0))))
    go_wp2_with (fail)
    go_returns
    exact ⟨rfl, _, _, hW2.out, hR2.out⟩
  · obtain ⟨f, B', d', xs', hS, hR, hE⟩ := both_cut hP.out k hk o2
    unfold SC at hS
    unfold RC at hR
    replace hS := Lib.hid hS
    replace hR := Lib.hid hR
    replace hE := Lib.hid hE
    go_wp2_with (fail)
    go_region_held3 (fun w' => w'.cell? ⟨bx, 2, none⟩ = some (.int .i64 o2)) ((simp [go_sem, *]))
      (first
        | (go_at_call 26; (with_reducible refine Calls.mono (hS.out _ _ _ (by first | exact hW.out | exact hW.out.drew) (by first | exact hRs.out | exact hRs.out.drew)) ?_); rintro e w1_ ⟨rfl, hW, hRs, hK⟩; replace hBx := Lib.hid (hK.out bx _ (by first | exact hBx.out | exact hBx.out.draws 1)); have kS : w1_.cell? ⟨bx, 2, none⟩ = some (.int .i64 o2) := hBx.out.cell 2)
        | (go_at_call 41; (with_reducible refine Calls.mono (hR.out _ _ _ (by first | exact hW.out | exact hW.out.drew) (by first | exact hRs.out | exact hRs.out.drew)) ?_); rintro e w1_ ⟨rfl, hW, hRs, hK⟩; replace hBx := Lib.hid (hK.out bx _ (by first | exact hBx.out | exact hBx.out.draws 1)); have kS : w1_.cell? ⟨bx, 2, none⟩ = some (.int .i64 o2) := hBx.out.cell 2))
    all_goals (go_wp2_with (fail))
    all_goals go_returns
    all_goals exact ⟨rfl, _, _, hE.out _ hW.out hRs.out⟩
  · obtain ⟨hdm, hm, hlen⟩ := hP.out.room k hk
    obtain ⟨D, hD⟩ : ∃ D, d k = D := ⟨_, rfl⟩
    obtain ⟨m, hmm⟩ : ∃ m, roomOf L (rgOf k) = m := ⟨_, rfl⟩
    rw [hmm] at hdm hm hlen
    rw [hD] at hdm
    have hcl : cels B (L.beg (rgOf k)) (d k) = (cellsOf L B (rgOf k)).take D := by
      rw [hD]
      unfold cellsOf
      apply List.ext_getElem
      · simp [cels]; omega
      · intro j h1 h2
        simp [cels]
    obtain ⟨us, hus⟩ : ∃ us, (cellsOf L B (rgOf k)).take D = us := ⟨_, rfl⟩
    rw [hus] at hcl
    have husl : us.length = D := by rw [← hus, List.length_take, hlen]; omega
    have hrow : ∀ W', Pl w0 W' a L B d → W'.cell? ⟨a.r k, 0, none⟩ = some (.slice (some ⟨a.g k, 0, none⟩) m m) ∧ W'.cell? ⟨a.r k, 1, none⟩ = some (.int .i64 D) ∧ Rowd W' (some ⟨a.g k, 0, none⟩) (a.g k) 0 us := by
      intro W' hp
      have h0 := (hp.rs.q k hk).c0
      have h1 := (hp.rs.q k hk).c1
      rw [hlen] at h0
      rw [hD] at h1
      refine ⟨h0, h1, fun j hj => ⟨rfl, ?_⟩⟩
      have := rowd_of (hp.rs.q k hk).row j (by rw [hlen]; omega)
      rw [this.2]
      subst hus
      simp
    have hcs : ∀ W', Pl w0 W' a L B d → Calls Try.prog 16 #[.pointer (some ⟨a.s k, 0, none⟩)] W' fun e w' => ∃ g, e = .returned (.slice (some ⟨g, 0, none⟩) D D) ∧ W'.heap.size ≤ g ∧ Bk w' g 3 (i64s us).toArray ∧ Below W'.heap.size W' w' := by
      intro W' hp
      refine (wd_cells hp.wd k hk).mono fun e w' ⟨g, h1, h2, h3, _, h5⟩ => ⟨g, ?_, h2, ?_, h5⟩
      · rw [hD] at h1; exact h1
      · rw [hcl] at h3; exact h3
    have hsm : ∀ W' g, Pl w0 W' a L B d → Bk W' g 3 (i64s us).toArray → Calls Try.prog 21 #[.slice (some ⟨g, 0, none⟩) D D, .slice (some ⟨a.g k, 0, none⟩) D m] W' fun e w' => e = .returned (.bool true) ∧ ∃ n, w' = W'.drewN n := by
      intro W' g hp hX
      have := same_any (some ⟨g, 0, none⟩) (some ⟨a.g k, 0, none⟩) D D D m g 0 (a.g k) 0 us us W' (rowd_of hX) (hrow W' hp).2.2 husl husl (by omega)
      simpa using this
    clear hcl hus hlen hmm hD
    replace hrow := Lib.hid hrow
    replace hcs := Lib.hid hcs
    replace hsm := Lib.hid hsm
    replace husl := Lib.hid husl
    have iD : (0 : Int) ≤ (D : Int) := by omega
    have iDm : (D : Int) ≤ (m : Int) := by omega
    have im : (m : Int) ≤ 17920 := by omega
    clear hW hRs
    go_wp2_with (fail)
    refine (hcs.out X hP.out).mono ?_
    rintro e X2 ⟨g1, rfl, lg1, hX1, hb2⟩
    have hP2 := Lib.hid (hP.out.bel hb2)
    obtain ⟨r0, r1, -⟩ := hrow.out X2 hP2.out
    have hs2 := Lib.hid (fun n => hsm.out (X2.drewN n) g1 (hP2.out.draws n) (hX1.draws n))
    replace hX1 := Lib.hid hX1
    replace hb2 := Lib.hid hb2
    go_wp2_with (fail)
    go_quiet ((go_at_call 21; with_reducible exact Calls.quiet_of (hs2.out _)))
    go_wp2_with (fail)
    have hX3 : ∃ ys : List Int, ys.length = D ∧ Bk (X2.drewN nq) g1 3 (i64s ys).toArray ∧ Below X.heap.size X (X2.drewN nq) := ⟨us, husl.out, hX1.out.draws nq, hb2.out.trans ⟨rfl, rfl, rfl, Nat.le_refl _, fun _ _ => rfl⟩⟩
    obtain ⟨X3, hX3'⟩ : ∃ X3, X2.drewN nq = X3 := ⟨_, rfl⟩
    rw [hX3'] at hX3 ⊢
    replace hX3 := Lib.hid hX3
    clear hX3' hs2 hP2 r0 r1 hX1 hb2 x2 x3 hBx
    go_loopw [21] (fun x wr => ∃ j : Nat, x = .int .i64 j ∧ j ≤ D ∧ Hid (∃ ys : List Int, ys.length = D ∧ Bk wr g1 3 (i64s ys).toArray ∧ Below X.heap.size X wr)) (fun x _ => D - (intOf x).toNat)
    case atStart => exact ⟨0, rfl, Nat.zero_le _, hX3⟩
    case round =>
      obtain ⟨j, rfl, hj0, hY⟩ := hrel
      obtain ⟨ys, hy1, hy2, hy3⟩ := hY.out
      by_cases hj : j < D
      · have j0 : (j : Int) < (D : Int) := by omega
        have j1 : (0 : Int) ≤ (j : Int) := by omega
        have e1 : wr.cell? ⟨g1, j, none⟩ = some (.int .i64 ys[j]) := by rw [hy2.cell]; simp [i64s, List.getElem?_eq_getElem (show j < ys.length by omega)]
        have f1 := hy2.free j
        have hN : ∃ zs : List Int, zs.length = D ∧ Bk (wr.setCell ⟨g1, j, none⟩ (.int .i64 (-1))) g1 3 (i64s zs).toArray ∧ Below X.heap.size X (wr.setCell ⟨g1, j, none⟩ (.int .i64 (-1))) := by
          refine ⟨ys.set j (-1), by rw [List.length_set]; exact hy1, ?_, hy3.setCell (p := ⟨g1, j, none⟩) lg1 _⟩
          rw [← i64s_set]
          exact hy2.put j _
        replace hN := Lib.hid hN
        clear hy2 hy3
        obtain ⟨old, hold⟩ : ∃ old, ys[j] = old := ⟨_, rfl⟩
        rw [hold] at e1
        go_wp2_with (fail)
        refine ⟨⟨j + 1, rfl, by omega, hN⟩, ?_⟩
        simp [intOf]; omega
      · have e : j = D := by omega
        subst e
        have hPw := Lib.hid (hP.out.bel hy3)
        obtain ⟨r0, r1, -⟩ := hrow.out wr hPw.out
        have hz := World.block_lt_of_cell? wr ⟨a.r k, 0, none⟩ r0
        have hz2 : a.r k < wr.heap.size := hz
        clear hz hy2
        replace hy3 := Lib.hid hy3
        go_wp2_with (fail)
        go_region_held3 (fun w' => w'.cell? ⟨a.r k, 0, none⟩ = some (.slice (some ⟨a.g k, 0, none⟩) m m) ∧ w'.cell? ⟨a.r k, 1, none⟩ = some (.int .i64 j)) ((simp [go_sem, *]))
          (first
            | (go_at_call 16; (with_reducible refine Calls.mono (hcs.out _ (by first | exact hPw.out | exact hPw.out.drew)) ?_); rintro e w1_ ⟨g2, rfl, lg2, hX4, hb4⟩; have hP4 := Lib.hid (Pl.bel (by first | exact hPw.out | exact hPw.out.drew) hb4); have kS : w1_.cell? ⟨a.r k, 0, none⟩ = some (.slice (some ⟨a.g k, 0, none⟩) m m) ∧ w1_.cell? ⟨a.r k, 1, none⟩ = some (.int .i64 j) := ⟨(hrow.out w1_ hP4.out).1, (hrow.out w1_ hP4.out).2.1⟩)
            | (go_at_call 21; (with_reducible refine Calls.mono (hsm.out _ g2 (by first | exact hP4.out | exact hP4.out.drew) (by first | exact hX4 | exact hX4.draw)) ?_); rintro e w2_ ⟨rfl, n5, hn5⟩; have hP5 := Lib.hid (by rw [hn5]; first | exact hP4.out.draws n5 | exact hP4.out.drew.draws n5 : Pl w0 w2_ a L B d); have kS : w2_.cell? ⟨a.r k, 0, none⟩ = some (.slice (some ⟨a.g k, 0, none⟩) m m) ∧ w2_.cell? ⟨a.r k, 1, none⟩ = some (.int .i64 j) := ⟨(hrow.out w2_ hP5.out).1, (hrow.out w2_ hP5.out).2.1⟩))
        all_goals (go_wp2_with (fail))
        all_goals go_returns
        all_goals (rw [hn5] at hP5)
        all_goals exact ⟨rfl, B, d, by first | exact hP5.out | exact hP5.out.drew | exact hP5.out.draws _⟩
end
end Go.Proofs.Ytkopgjdnfjgbjaa
