import Derived.Test.YtoaiiimnfgbcaaaDcE
namespace Go.Proofs.Ytoaiiimnfgbcaaa
open Go.RowKit
set_option linter.unusedVariables false
set_option linter.unusedSimpArgs false
/-! walk -/
theorem wpList_append_run {P : Program} {w w2 : World} {ops : Array Oper} {rest : List Oper} {o : Oper} {a : Act} {Q : Exit → Act → World → Prop} (hgd : o.guard = none) (s x : Operand) (t : TypeId)
    (ho : o.op = .call { callee := .builtin .append, args := #[s, x], argTypes := #[t, t] }) (v0 v1 V : Value) (hs : a.eval s = v0) (hx : a.eval x = V)
    (hrun : (Builtin.append_ #[t, t] o.type #[v0, V]).run P w = .ok v1 w2) (h : wpList P ops Q rest (a.put o.dst v1) w2) : wpList P ops Q (o :: rest) a w := by
  refine wpList_plain hgd fun K hK => ?_
  unfold Oper.wp execOp
  simp only [ho, resolve, invoke, builtin, Sem.run_bind, Sem.run_pure, Result.andThen_ok, List.map_toArray, List.map_cons, List.map_nil, hs, hx, hrun]
  exact hK _ _ h
theorem below_grown {B : Nat} {a b c : World} {row : Option Nat} (h : Below B a b) (hg : b.grownBy c row) (hB : B ≤ b.heap.size) (hr : ∀ k, row = some k → B ≤ k) : Below B a c :=
  ⟨hg.os.trans h.os, hg.tape.trans h.tape, hg.output.trans h.output, Nat.le_trans h.size hg.size, fun k hk => (hg.block k (by omega) (fun e => by have := hr k e.symm; omega)).trans (h.block k hk)⟩
theorem own_ge {W : World} {base n size : Nat} {e : TypeId} {v : Value} {xs : List Value} (h : W.ownsRow base e size v n xs) : ∀ k, v.ownBlock = some k → base ≤ k := by
  intro k hk
  rcases h.2 with ⟨rfl, _⟩ | ⟨g, cap, cur, rfl, hb, _⟩
  · simp [Value.ownBlock] at hk
  · simp [Value.ownBlock] at hk; omega
def walkF (B : List UInt8) (f y : Nat) : Nat → Int → List Wd
  | 0, _ => []
  | n + 1, at_ => match headP B f y at_ with
    | none => []
    | some (x, nx) => x :: (if at_ ≤ nx then [] else walkF B f y n nx)
def mz (v : Value) : Nat := (intOf v).toNat
def walkP (B : List UInt8) (f y l : Nat) : List Wd := walkF B f y (l + 1) l
def wdsC (X : List Wd) : List Value := X.flatMap wdC
theorem wdsC_push (X : List Wd) (x : Wd) : wdsC X ++ wdC x = wdsC (X ++ [x]) := by simp [wdsC]
theorem headP_ge {B : List UInt8} {f y : Nat} {at_ nx : Int} {x : Wd} (h : headP B f y at_ = some (x, nx)) : (f : Int) ≤ at_ ∧ at_ + 16 ≤ y := by
  unfold headP at h
  split at h
  · rename_i h1; exact ⟨h1.2.1, h1.2.2⟩
  · cases h
theorem info_word : (Try.prog.info? 34).map (fun i => (i.zero, i.size, i.bytes)) = some (some (wdV wd0), 6, 40) := by kernel_rfl
theorem wd_append {w : World} {base : Nat} {v : Value} {X : List Wd} (x : Wd) (h : w.ownsRow base 34 6 v X.length (wdsC X)) (hb : base ≤ w.heap.size) (hl : X.length ≤ 1000000) :
    ∃ A' c' w2, (Builtin.append_ #[49, 49] 49 #[v, .slice (some ⟨w.heap.size, 0, none⟩) 1 1]).run Try.prog (w.alloc (.cells (wdC x).toArray 34)) = .ok (.slice A' (X ++ [x]).length c') w2 ∧
      w2.ownsRow base 34 6 (.slice A' (X ++ [x]).length c') (X ++ [x]).length (wdsC (X ++ [x])) ∧ w.grownBy w2 v.ownBlock := by
  obtain ⟨i9, hi, hz0, hz1, hz2⟩ := info_parts info_word
  have hrow := h.alloc (.cells (wdC x).toArray 34)
  obtain ⟨v', w2, hrun, hown, hgr, _⟩ := run_append_own (P := Try.prog) (w.alloc (.cells (wdC x).toArray 34)) base 49 49 34 i9 _ 6 40 Try.underlying49 hi hz0 hz1 hz2 rfl (by decide) v X.length (wdsC X) hrow ⟨w.heap.size, 0, none⟩ 1 1 (wdC x) rfl (fun j u hu => by
    have := (Bk.fresh w 34 (wdC x).toArray).cell j
    rw [show ((⟨w.heap.size, 0, none⟩ : Addr).add j) = ⟨w.heap.size, j, none⟩ by unfold Addr.add; split <;> simp_all]
    exact this.trans (by simpa [wdC] using hu)) (fun u hu => by simp [wdC] at hu; rcases hu with rfl | rfl | rfl | rfl | rfl | rfl <;> rfl) (by unfold maxLen; omega) (by omega) (by simp; omega)
  have e : X.length + 1 = (X ++ [x]).length := by simp
  rw [e, wdsC_push] at hown
  obtain ⟨A', c', rfl⟩ := own_form hown
  have hg0 := World.grownBy_alloc w (.cells (wdC x).toArray 34) v.ownBlock
  exact ⟨A', c', w2, hrun, hown, ⟨hgr.os.trans hg0.os, hgr.tape.trans hg0.tape, hgr.output.trans hg0.output, Nat.le_trans hg0.size hgr.size, fun k hk hn => (hgr.block k (Nat.lt_of_lt_of_le hk hg0.size) hn).trans (hg0.block k hk hn)⟩⟩
theorem set6_size (W : World) (g : Nat) (x : Wd) : (set6 W g x).heap.size = W.heap.size := by simp [set6, World.setCell]
theorem set6_row {W : World} {g : Nat} {x : Wd} {base n size : Nat} {e : TypeId} {v : Value} {xs : List Value} (h : W.ownsRow base e size v n xs) (hg : ∀ q, v.ownBlock = some q → q ≠ g) : (set6 W g x).ownsRow base e size v n xs := by
  have hO := ((((((Only.refl g W).put 0 (.string x.name)).put 1 (.int .i64 x.hd)).put 2 (.int .i64 x.xt)).put 3 (.bool x.imm)).put 4 (.bool x.hid)).put 5 (.bool x.inl)
  refine h.kept (row := some g) ⟨hO.os, hO.tape, hO.output, hO.size, fun k hk hne => hO.block k hk (fun e => hne (by rw [e]))⟩ ?_
  cases hv : v.ownBlock with
  | none => exact .inl rfl
  | some q => exact .inr (fun e => by first | exact hg q hv (Option.some.inj e).symm | exact hg q hv (Option.some.inj e))
section
variable {w : World} {d p b r f y h l : Nat} {L : Lay} {B : List UInt8} {o s : Bool}
set_option maxRecDepth 100000 in
set_option maxHeartbeats 4000000 in
theorem walk_any (D : Dc w d p b L r f y B o s h l) : Calls Try.prog 37 #[.pointer (some ⟨d, 0, none⟩)] w fun e w' => ∃ A c, e = .returned (.slice A (walkP B f y l).length c) ∧ w'.ownsRow w.heap.size 34 6 (.slice A (walkP B f y l).length c) (walkP B f y l).length (wdsC (walkP B f y l)) ∧ Below w.heap.size w w' := by
  obtain ⟨W0, hW0⟩ : ∃ W0, walkP B f y l = W0 := ⟨_, rfl⟩
  have hW1 : walkF B f y (l + 1) (l : Int) = W0 := hW0
  rw [hW0]
  have hok := D.ok
  have hla := D.la
  have c4 := D.c4
  replace D := Lib.hid D
  replace hW1 := Lib.hid hW1
  replace hok := Lib.hid hok
  replace hla := Lib.hid hla
  clear hW0
  go_enter Try.func37, Try.ntmps37
  go_wp2_with (fail)
  go_loopw [3, 4] (fun x3 x4 wr => ∃ (A : Option Addr) (c k : Nat) (at_ : Int), x3 = .slice A k c ∧ x4 = .int .i64 at_ ∧ Hid (∃ (X : List Wd) (n : Nat), X.length = k ∧ wr.ownsRow w.heap.size 34 6 (.slice A k c) k (wdsC X) ∧ Below w.heap.size w wr ∧ X ++ walkF B f y n at_ = W0 ∧ at_.toNat < n ∧ k + at_.toNat ≤ l)) (fun _ x4 _ => mz x4)
  case atStart => exact ⟨none, 0, 0, l, rfl, rfl, [], l + 1, rfl, World.ownsRow_nil _ _ _ _, Below.refl _ _, by simpa using hW1.out, by simp, by simp⟩
  case round =>
    obtain ⟨A, c, xl, at_, rfl, rfl, HR⟩ := hrel
    obtain ⟨X, n, hxl, hrow, hB, hE, hn, hl⟩ := HR.out
    clear HR
    have D1 := D.out.bel hB
    have hH := head_any D1 at_
    have hXl : xl ≤ 200000 := by have := hok.out; have := hla.out; omega
    obtain ⟨n, rfl⟩ : ∃ m, n = m + 1 := ⟨n - 1, by omega⟩
    rw [walkF] at hE
    have hzw := hB.size
    cases hp : headP B f y at_ with
    | none =>
      rw [hp] at hH hE
      simp only [List.append_nil] at hE
      subst hE
      replace hH := Lib.hid hH
      replace hrow := Lib.hid hrow
      replace hB := Lib.hid hB
      replace hzw := Lib.hid hzw
      replace hxl := Lib.hid hxl
      clear D1
      simp only [wdV, wd0] at hH
      go_wp2_with (fail)
      refine hH.out.mono ?_
      rintro e w2 ⟨rfl, hb2⟩
      have hb2z := hb2.size
      have r0 := Bk.fresh w2 34 (wdC wd0).toArray
      have hBa : Below w.heap.size w (w2.alloc (.cells (wdC wd0).toArray 34)) := (hB.out.trans (hb2.mono hzw.out)).alloc (Nat.le_trans hzw.out hb2z) _
      have hrowa := (own_below hrow.out hb2 (Nat.le_refl _)).alloc (.cells (wdC wd0).toArray 34)
      have hltr : ∀ q, (Value.slice A xl c).ownBlock = some q → q ≠ w2.heap.size := fun q hq => by have := (hrow.out.lt q hq).2; omega
      have hgz : w.heap.size ≤ w2.heap.size := Nat.le_trans hzw.out hb2z
      obtain ⟨g, hg⟩ : ∃ g, w2.heap.size = g := ⟨_, rfl⟩
      obtain ⟨W, hW⟩ : ∃ W, w2.alloc (.cells (wdC wd0).toArray 34) = W := ⟨_, rfl⟩
      rw [hW] at hBa r0 hrowa
      rw [hg] at r0 hgz hltr
      have hW' : w2.alloc (.cells #[.string ⟨#[]⟩, .int .i64 0, .int .i64 0, .bool false, .bool false, .bool false] 34) = W := hW
      have rZ := set6_bk (y := wd0) r0
      have hB3 := set6_below (x := wd0) hBa hgz
      have hrow3 := set6_row (x := wd0) hrowa hltr
      have e0 := r0.cell 0
      have e1 := r0.cell 1
      have e2 := r0.cell 2
      have e3 := r0.cell 3
      have e4 := r0.cell 4
      have e5 := r0.cell 5
      simp [wdC, wd0] at e0 e1 e2 e3 e4 e5
      have f0 := r0.free 0
      have f1 := r0.free 1
      have f2 := r0.free 2
      have f3 := r0.free 3
      have f4 := r0.free 4
      have f5 := r0.free 5
      replace r0 := Lib.hid r0
      replace rZ := Lib.hid rZ
      replace hB3 := Lib.hid hB3
      replace hrow3 := Lib.hid hrow3
      replace hgz := Lib.hid hgz
      clear hBa hrowa hltr hW hb2 hb2z
      go_wp2_with (fail)
      go_returns
      refine ⟨A, c, by rw [hxl.out]; rfl, ?_, hB3.out⟩
      rw [hxl.out]
      exact hrow3.out
    | some z =>
      obtain ⟨x, nx⟩ := z
      have hge := headP_ge hp
      have hok' := hok.out
      rw [hp] at hH hE
      simp only at hE
      replace hH := Lib.hid hH
      replace hE := Lib.hid hE
      replace hn := Lib.hid hn
      replace hl := Lib.hid hl
      replace hge := Lib.hid hge
      replace hrow := Lib.hid hrow
      replace hB := Lib.hid hB
      replace hzw := Lib.hid hzw
      clear D1 hok'
      have hHH := hH.out
      simp only [wdV] at hHH
      replace hH := Lib.hid hHH
      clear hHH
      go_wp2_with (fail)
      refine hH.out.mono ?_
      rintro e w2 ⟨rfl, hb2⟩
      have hb2z := hb2.size
      have r0 := Bk.fresh w2 34 (wdC wd0).toArray
      have hBa : Below w.heap.size w (w2.alloc (.cells (wdC wd0).toArray 34)) := (hB.out.trans (hb2.mono hzw.out)).alloc (Nat.le_trans hzw.out hb2z) _
      have hrowa := (own_below hrow.out hb2 (Nat.le_refl _)).alloc (.cells (wdC wd0).toArray 34)
      have hltr : ∀ q, (Value.slice A xl c).ownBlock = some q → q ≠ w2.heap.size := fun q hq => by have := (hrow.out.lt q hq).2; omega
      have hgz : w.heap.size ≤ w2.heap.size := Nat.le_trans hzw.out hb2z
      obtain ⟨g, hg⟩ : ∃ g, w2.heap.size = g := ⟨_, rfl⟩
      obtain ⟨W, hW⟩ : ∃ W, w2.alloc (.cells (wdC wd0).toArray 34) = W := ⟨_, rfl⟩
      rw [hW] at hBa r0 hrowa
      rw [hg] at r0 hgz hltr
      have hW' : w2.alloc (.cells #[.string ⟨#[]⟩, .int .i64 0, .int .i64 0, .bool false, .bool false, .bool false] 34) = W := hW
      have rZ := set6_bk (y := x) r0
      have hB3 := set6_below (x := x) hBa hgz
      have hrow3 := set6_row (x := x) hrowa hltr
      have e0 := r0.cell 0
      have e1 := r0.cell 1
      have e2 := r0.cell 2
      have e3 := r0.cell 3
      have e4 := r0.cell 4
      have e5 := r0.cell 5
      simp [wdC, wd0] at e0 e1 e2 e3 e4 e5
      have f0 := r0.free 0
      have f1 := r0.free 1
      have f2 := r0.free 2
      have f3 := r0.free 3
      have f4 := r0.free 4
      have f5 := r0.free 5
      replace r0 := Lib.hid r0
      replace rZ := Lib.hid rZ
      replace hB3 := Lib.hid hB3
      replace hrow3 := Lib.hid hrow3
      replace hgz := Lib.hid hgz
      clear hBa hrowa hltr hW hb2 hb2z
      have hrow4 := hrow3.out
      rw [← hxl] at hrow4
      obtain ⟨A', c', w4, hrun, hown, hgr⟩ := wd_append x hrow4 (by have := hB3.out.size; exact this) (by omega)
      have hB4 := below_grown hB3.out hgr hB3.out.size (fun q hq => own_ge hrow4 q hq)
      rw [hxl, set6_size] at hrun
      unfold set6 wdC at hrun
      replace hrun := Lib.hid hrun
      replace hown := Lib.hid hown
      replace hB4 := Lib.hid hB4
      clear hrow4 hgr
      by_cases hnx : at_ ≤ nx
      · go_wp2_with (at_builtin; refine wpList_append_run rfl (.tmp 22) (.tmp 24) 49 rfl (.slice A xl c) _ _ rfl rfl hrun.out ?_)
        go_returns
        have hW0 : W0 = X ++ [x] := by rw [← hE.out, if_pos hnx]
        rw [hW0]
        have hlen : (X ++ [x]).length = xl + 1 := by rw [List.length_append, hxl]; rfl
        exact ⟨A', c', by rw [hlen]; rfl, hown.out, hB4.out⟩
      · have hnz : decide (at_ ≤ nx) = false := by simpa using hnx
        replace hnx := Lib.hid hnx
        go_wp2_with (at_builtin; refine wpList_append_run rfl (.tmp 22) (.tmp 24) 49 rfl (.slice A xl c) _ _ rfl rfl hrun.out ?_)
        have hlen : (X ++ [x]).length = xl + 1 := by rw [List.length_append, hxl]; rfl
        have hW0 : (X ++ [x]) ++ walkF B f y n nx = W0 := by rw [← hE.out, if_neg (by have := hnx.out; omega)]; simp
        refine ⟨⟨A', c', xl + 1, nx, rfl, rfl, X ++ [x], n, hlen, by have := hown.out; rw [hlen] at this; exact this, hB4.out, hW0, ?_, ?_⟩, ?_⟩
        · have := hn.out; have := hge.out; have := hok.out; have := hnx.out; omega
        · have := hl.out; have := hge.out; have := hok.out; have := hnx.out; omega
        · have := hge.out; have := hok.out; have := hnx.out; show nx.toNat < at_.toNat; omega
end
end Go.Proofs.Ytoaiiimnfgbcaaa
