import Derived.RangeFuncNested
import Derived.RangeFuncBound
import Derived.RangeFuncCalls
import Derived.RangeFuncLeaves
import Derived.Shelf.Abstract
import Derived.Shelf.RegionOpen
import Derived.WalkKit
import Derived.OwnWalkIn
import Derived.TacticsInMore
import Derived.LoopNIn
import Derived.LoopIn
import Derived.Test.YtoaiiimnfgbcaaaDcF
namespace Go.Proofs.Ytoaiiimnfgbcaaa
open Go.RowKit Go.Shelf
attribute [local go_sem] Oper.semAt_some
set_option linter.unusedVariables false
set_option linter.unusedSimpArgs false
/-! All: the words, one a round -/
/-- whatever cells lie, but those that may be written, lie as they lay -/
structure Kc (X : Nat → Prop) (a b : World) : Prop where
  size : a.heap.size ≤ b.heap.size
  keep : ∀ k o, a.heap[k]? = some o → o.isCells = true → ¬ X k → b.heap[k]? = some o
theorem Kc.t {X : Nat → Prop} {a b c : World} (h : Kc X a b) (k : Kc X b c) : Kc X a c := ⟨Nat.le_trans h.size k.size, fun i o hi ho hx => k.keep i o (h.keep i o hi ho hx) ho hx⟩
theorem Kc.b {X : Nat → Prop} (W : World) (l : Nat) (o o' : Obj) (h : W.heap[l]? = some o) (hc : o.isCells = false) : Kc X W (W.putObj l o') :=
  ⟨by simp, fun k o2 hk ho _ => by
    have hne : k ≠ l := by
      rintro rfl
      rw [hk] at h
      injection h with h
      subst h
      rw [ho] at hc
      cases hc
    have := (grownBy_putObj' W l o').block k (Array.getElem?_eq_some_iff.1 hk).1 (by simpa using hne)
    rw [this]; exact hk⟩
theorem Kc.bk {X : Nat → Prop} {a b : World} {k : Nat} {t : TypeId} {vs : Array Value} (h : Kc X a b) (hk : Bk a k t vs) (hx : ¬ X k) : Bk b k t vs := h.keep k _ hk rfl hx
theorem Kc.of_below {X : Nat → Prop} {a b : World} (h : Below a.heap.size a b) : Kc X a b := ⟨h.size, fun k o hk _ _ => (h.block k (Array.getElem?_eq_some_iff.1 hk).1).trans hk⟩
theorem Kc.row {X : Nat → Prop} {a b : World} {base n size : Nat} {e : TypeId} {v : Value} {xs : List Value} (h : Kc X a b) (hr : a.ownsRow base e size v n xs) (hx : ∀ g, v.ownBlock = some g → ¬ X g) : b.ownsRow base e size v n xs := by
  refine ⟨hr.1, ?_⟩
  rcases hr.2 with hn0 | ⟨k, cap, cur, rfl, hb, hgg, rest⟩
  · exact .inl hn0
  · exact .inr ⟨k, cap, cur, rfl, hb, h.keep k _ hgg rfl (hx k (by simp [Value.ownBlock])), rest⟩
theorem grown_below {a b : World} (h : Below a.heap.size a b) : a.grownBy b none := ⟨h.os, h.tape, h.output, h.size, fun k hk _ => h.block k hk⟩
theorem all_any (d : Nat) (w : World) : Calls Try.prog 15 #[.pointer (some ⟨d, 0, none⟩)] w fun e w' => e = .returned (.func (.func 36) #[] #[.pointer (some ⟨w.heap.size, 0, none⟩)]) ∧ w' = w.alloc (.cells #[.pointer (some ⟨d, 0, none⟩)] 30) := by
  go_enter Try.func15, Try.ntmps15
  go_wp2_with (fail)
  go_returns
  exact ⟨rfl, rfl⟩
theorem wdsC_at (X : List Wd) (i : Nat) (x : Wd) (h : X[i]? = some x) (j : Nat) (hj : j < 6) : (wdsC X)[i * 6 + j]? = (wdC x)[j]? := by
  induction X generalizing i with
  | nil => simp at h
  | cons y X ih =>
    have hc : wdsC (y :: X) = wdC y ++ wdsC X := by simp [wdsC]
    have hl : (wdC y).length = 6 := rfl
    rw [hc]
    match i, h with
    | 0, h =>
      simp at h
      subst h
      rw [List.getElem?_append_left (by omega)]
      simp
    | i + 1, h =>
      rw [List.getElem?_append_right (by omega), hl, show (i + 1) * 6 + j - 6 = i * 6 + j by omega]
      exact ih i (by simpa using h)
theorem walkF_len (B : List UInt8) (f y : Nat) (hf : 8 ≤ f) : ∀ (n : Nat) (at_ : Int), (walkF B f y n at_).length ≤ at_.toNat := by
  intro n
  induction n with
  | zero => intro at_; exact Nat.zero_le _
  | succ n ih =>
    intro at_
    rw [walkF]
    cases hp : headP B f y at_ with
    | none => exact Nat.zero_le _
    | some z =>
      obtain ⟨x, nx⟩ := z
      have hg := headP_ge hp
      simp only [List.length_cons]
      split
      · simp; omega
      · have := ih nx
        omega
theorem walkP_len (B : List UInt8) (f y l : Nat) (hf : 8 ≤ f) : (walkP B f y l).length ≤ l := by
  have := walkF_len B f y hf (l + 1) l
  unfold walkP
  omega
/-- a word whose name is a name's length -/
abbrev NW := { x : Wd // x.name.size ≤ 31 }
theorem headP_name {B : List UInt8} {f y : Nat} {at_ nx : Int} {x : Wd} (h : headP B f y at_ = some (x, nx)) : x.name.size ≤ 31 := by
  unfold headP at h
  split at h
  · split at h
    · injection h with h
      injection h with h _
      subst h
      show (rowL B (at_.toNat + 9) ((B.getD (at_.toNat + 8) 0).toNat % 32)).toArray.size ≤ 31
      rw [List.size_toArray]
      unfold rowL
      rw [List.length_take]
      have := Nat.mod_lt (B.getD (at_.toNat + 8) 0).toNat (show 0 < 32 by decide)
      omega
    · cases h
  · cases h
theorem walkF_names (B : List UInt8) (f y : Nat) : ∀ (n : Nat) (at_ : Int), ∀ x ∈ walkF B f y n at_, x.name.size ≤ 31 := by
  intro n
  induction n with
  | zero => intro at_ x hx; cases hx
  | succ n ih =>
    intro at_ x hx
    rw [walkF] at hx
    cases hp : headP B f y at_ with
    | none => rw [hp] at hx; cases hx
    | some z =>
      obtain ⟨x', nx⟩ := z
      rw [hp] at hx
      simp only [List.mem_cons] at hx
      rcases hx with rfl | hx
      · exact headP_name hp
      · split at hx
        · cases hx
        · exact ih nx x hx
theorem exists_nw : ∀ (X : List Wd), (∀ x ∈ X, x.name.size ≤ 31) → ∃ Z : List NW, Z.map (·.1) = X
  | [], _ => ⟨[], rfl⟩
  | x :: X, h => by
    obtain ⟨Z, hZ⟩ := exists_nw X (fun y hy => h y (List.mem_cons_of_mem _ hy))
    exact ⟨⟨x, h x (List.mem_cons_self ..)⟩ :: Z, by rw [List.map_cons, hZ]⟩
section
variable {w : World} {d p b r f y h l : Nat} {L : Lay} {B : List UInt8} {o s : Bool}
set_option maxRecDepth 100000 in
set_option maxHeartbeats 4000000 in
theorem all_stops (n : Nat) (hn : 1 ≤ n) (bx : Nat) (X : Nat → Prop) (hX : ∀ k, X k → k < w.heap.size) (D : Dc w d p b L r f y B o s h l) (hbx : Bk w bx 30 #[.pointer (some ⟨d, 0, none⟩)]) :
    SeqStopsK Fence.wide n Try.prog 36 #[.pointer (some ⟨bx, 0, none⟩)] (fun x : NW => #[wdV x.1]) (Kc X) (fun ys => ys.map (·.1) = walkP B f y l) (fun pre => pre.map (·.1) <+: walkP B f y l) (walkP B f y l).length w := fun q J Jx W hW hJ hJx hY h0 => by
  have D1 := D.bel hW
  have b1 := hbx.kept hW hbx.lt
  have hwa := walk_any D1
  have hwl : (walkP B f y l).length ≤ 143360 := by have := walkP_len B f y l D.ok.2.2.1; have := D.la; have := D.ok; omega
  obtain ⟨ws, hws⟩ : ∃ ws, walkP B f y l = ws := ⟨_, rfl⟩
  obtain ⟨zs, hzs⟩ := exists_nw (walkP B f y l) (walkF_names B f y (l + 1) l)
  rw [hws] at hY hwa hwl hzs ⊢
  replace hzs := Lib.hid hzs
  have hc0 := b1.cell 0
  simp at hc0
  obtain ⟨m, hm⟩ : ∃ m, ws.length = m := ⟨_, rfl⟩
  rw [hm] at hwa hY hwl
  replace hwl := Lib.hid hwl
  replace hwa := Lib.hid hwa
  have hWz := hW.size
  have HX : Hid (∀ k, X k → k < W.heap.size) := fun k hk => Nat.lt_of_lt_of_le (hX k hk) hWz
  replace hY := Lib.hid hY
  replace hJ := Lib.hid hJ
  replace h0 := Lib.hid h0
  replace hm := Lib.hid hm
  clear D D1 hbx b1 hws hX hWz hW
  refine callsIn_of_wp Try.func36 rfl trivial ?_ rfl
  simp only [Try.ntmps36, List.size_toArray, List.length_cons, List.length_nil, Nat.reduceAdd, Nat.reduceSub, Array.replicate_succ, Array.replicate_zero, List.push_toArray, List.append_toArray, List.nil_append, List.cons_append]
  gi_wp2_with (refine ⟨trivial, ?_⟩; gi_at_call 37; refine (callsIn_wide.2 hwa.out).mono ?_; rintro e w1 ⟨A, c, rfl, hrow, hB1⟩)
  have hJ1 : J (zs.take 0) w1 := hJ.out _ _ _ none h0.out (grown_below hB1) (by simp)
  have hge : ∀ g, (Value.slice A m c).ownBlock = some g → ¬ X g := fun g hg hx => by
    have h1 := own_ge hrow g hg
    have := HX.out g hx
    omega
  replace hge := Lib.hid hge
  have hz1 := hB1.size
  replace hz1 := Lib.hid hz1
  clear hwa hB1 hc0
  gi_loopw [8] (fun i wr => ∃ k : Nat, i = .int .i64 k ∧ k ≤ m ∧ Hid (J (zs.take k) wr ∧ wr.ownsRow W.heap.size 34 6 (.slice A m c) m (wdsC ws) ∧ W.heap.size ≤ wr.heap.size)) (fun i _ => m - (intOf i).toNat)
  case atStart => exact ⟨0, rfl, by omega, hJ1, hrow, hz1.out⟩
  case round =>
    clear hrow hJ1
    obtain ⟨k, rfl, hk, HR⟩ := hrel
    have k0 : (0 : Int) ≤ k := by omega
    by_cases hkm : k < m
    · have k1 : (k : Int) < m := by omega
      have e9 : IntKind.i64.wrap ((k : Int) + 1) = ((k + 1 : Nat) : Int) := by have := hwl.out; rw [IntKind.wrap_i64]; omega
      obtain ⟨hJk, hrow, hzr⟩ := HR.out
      clear HR
      have hzl : zs.length = m := by have := congrArg List.length hzs.out; rw [List.length_map] at this; have := hm.out; omega
      obtain ⟨xx, hxx⟩ : ∃ x, zs[k]? = some x := ⟨_, List.getElem?_eq_getElem (by omega)⟩
      obtain ⟨x, hxe⟩ : ∃ x, xx.1 = x := ⟨_, rfl⟩
      have hx : ws[k]? = some x := by rw [← hzs.out, List.getElem?_map, hxx, ← hxe]; rfl
      obtain ⟨gq, hgq⟩ : ∃ gq, A = some ⟨gq, 0, none⟩ := by
        rcases hrow.2 with ⟨_, h0⟩ | ⟨q, cap, cur, e, _⟩
        · omega
        · injection e with e1 _ _; exact ⟨q, e1⟩
      subst hgq
      have hcell : ∀ j, j < 6 → wr.cell? ⟨gq, k * 6 + j, none⟩ = (wdC x)[j]? := fun j hj => by
        rw [hrow.cellAt _ (by omega)]
        exact wdsC_at ws k x hx j hj
      have y0 : wr.cell? ⟨gq, k * 6, none⟩ = some (.string x.name) := hcell 0 (by omega)
      have y1 : wr.cell? ⟨gq, k * 6 + 1, none⟩ = some (.int .i64 x.hd) := hcell 1 (by omega)
      have y2 : wr.cell? ⟨gq, k * 6 + 2, none⟩ = some (.int .i64 x.xt) := hcell 2 (by omega)
      have y3 : wr.cell? ⟨gq, k * 6 + 3, none⟩ = some (.bool x.imm) := hcell 3 (by omega)
      have y4 : wr.cell? ⟨gq, k * 6 + 4, none⟩ = some (.bool x.hid) := hcell 4 (by omega)
      have y5 : wr.cell? ⟨gq, k * 6 + 5, none⟩ = some (.bool x.inl) := hcell 5 (by omega)
      have htk : zs.take (k + 1) = zs.take k ++ [xx] := by
        obtain ⟨hk3, rfl⟩ := List.getElem?_eq_some_iff.1 hxx
        exact List.take_succ_eq_append_getElem hk3
      -- the round's own variable
      have r0 := Bk.fresh wr 34 (wdC wd0).toArray
      have hrow2 := hrow.alloc (.cells (wdC wd0).toArray 34)
      have hBa : Below wr.heap.size wr (wr.alloc (.cells (wdC wd0).toArray 34)) := (Below.refl _ _).alloc (Nat.le_refl _) _
      have hltr : ∀ q, (Value.slice (some ⟨gq, 0, none⟩) m c).ownBlock = some q → q ≠ wr.heap.size := fun q hq => by have := (hrow.lt q hq).2; omega
      obtain ⟨g, hg⟩ : ∃ g, wr.heap.size = g := ⟨_, rfl⟩
      obtain ⟨V, hV⟩ : ∃ V, wr.alloc (.cells (wdC wd0).toArray 34) = V := ⟨_, rfl⟩
      rw [hV] at r0 hrow2 hBa
      rw [hg] at r0 hltr
      have hV' : wr.alloc (.cells #[.string ⟨#[]⟩, .int .i64 0, .int .i64 0, .bool false, .bool false, .bool false] 34) = V := hV
      have hyc : ∀ j, j < 6 → V.cell? ⟨gq, k * 6 + j, none⟩ = (wdC x)[j]? := fun j hj => (hBa.cell (p := ⟨gq, k * 6 + j, none⟩) (hrow.lt gq rfl).2).trans (hcell j hj)
      have z0 : V.cell? ⟨gq, k * 6, none⟩ = some (.string x.name) := hyc 0 (by omega)
      have z1 : V.cell? ⟨gq, k * 6 + 1, none⟩ = some (.int .i64 x.hd) := hyc 1 (by omega)
      have z2 : V.cell? ⟨gq, k * 6 + 2, none⟩ = some (.int .i64 x.xt) := hyc 2 (by omega)
      have z3 : V.cell? ⟨gq, k * 6 + 3, none⟩ = some (.bool x.imm) := hyc 3 (by omega)
      have z4 : V.cell? ⟨gq, k * 6 + 4, none⟩ = some (.bool x.hid) := hyc 4 (by omega)
      have z5 : V.cell? ⟨gq, k * 6 + 5, none⟩ = some (.bool x.inl) := hyc 5 (by omega)
      have hB6 : Below wr.heap.size wr (set6 V g x) := set6_below hBa (by omega)
      have hrow6 := set6_row (x := x) hrow2 hltr
      have hJ6 := hJ.out _ _ _ none hJk (grown_below hB6) (by simp)
      have hz6 := hB6.size
      have e0 := r0.cell 0
      have e1 := r0.cell 1
      have e2 := r0.cell 2
      have e3 := r0.cell 3
      have e4 := r0.cell 4
      have e5 := r0.cell 5
      simp [wdC, wd0] at e0 e1 e2 e3 e4 e5
      have f0 := r0.free 0
      have f1 := r0.free 1
      have f2 := r0.free 2
      have f3 := r0.free 3
      have f4 := r0.free 4
      have f5 := r0.free 5
      obtain ⟨fn, tmps, assign, body, hy, hR⟩ := hY.out (zs.take k) xx (set6 V g x) hJ6 (by rw [List.length_take]; omega)
      try dsimp only at hy
      rw [hxe] at hy
      unfold set6 at hy hR hrow6
      simp only [wdV] at hy hR
      rw [← htk] at hR
      replace hR := Lib.hid hR
      replace hrow6 := Lib.hid hrow6
      replace htk := Lib.hid htk
      replace hx := Lib.hid hx
      replace hxx := Lib.hid hxx
      replace hxe := Lib.hid hxe
      replace hz6 := Lib.hid hz6
      replace hzr := Lib.hid hzr
      replace hkm := Lib.hid hkm
      clear hcell hyc hrow hrow2 hBa hltr hV hB6 hJ6 hJk r0
      gi_wp2
      refine hR.out.mono ?_
      rintro e W3 (⟨rfl, hJ3, hk3⟩ | ⟨rfl, hJx3⟩)
      · have hrow3 := hk3.row hrow6.out hge.out
        have hz3 : W.heap.size ≤ W3.heap.size := Nat.le_trans hzr.out (Nat.le_trans hz6.out hk3.size)
        replace hrow3 := Lib.hid hrow3
        replace hz3 := Lib.hid hz3
        replace hJ3 := Lib.hid hJ3
        clear hk3 hy e0 e1 e2 e3 e4 e5 f0 f1 f2 f3 f4 f5 y0 y1 y2 y3 y4 y5 z0 z1 z2 z3 z4 z5
        gi_wp2
        go_roundw
        case rel => exact ⟨k + 1, by first | rfl | simp, by have := hkm.out; omega, hJ3.out, hrow3.out, hz3.out⟩
        case measure => have := hkm.out; simp [intOf]; omega
      · clear hy e0 e1 e2 e3 e4 e5 f0 f1 f2 f3 f4 f5 y0 y1 y2 y3 y4 y5 z0 z1 z2 z3 z4 z5
        gi_wp2
        refine bodyPost_ret (results_none rfl _ _ _) rfl ?_
        exact ⟨⟨_, rfl⟩, .inr ⟨zs.take (k + 1), by rw [← hzs.out, List.map_take]; exact List.take_prefix _ _, hJx3⟩⟩
    · obtain rfl : k = m := by omega
      have k1 : ¬ (k : Int) < k := by omega
      gi_wp2
      go_end0
      obtain ⟨hJk, _⟩ := HR.out
      rw [show zs.take k = zs by have := congrArg List.length hzs.out; rw [List.length_map] at this; have := hm.out; exact List.take_of_length_le (by omega)] at hJk
      exact ⟨⟨_, rfl⟩, .inl ⟨zs, hzs.out, hJk⟩⟩
end
end Go.Proofs.Ytoaiiimnfgbcaaa
