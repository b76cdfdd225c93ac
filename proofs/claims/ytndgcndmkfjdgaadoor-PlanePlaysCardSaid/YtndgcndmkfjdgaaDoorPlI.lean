import Derived.Test.YtndgcndmkfjdgaaDoorPlH
namespace Go.Proofs.YtndgcndmkfjdgaaDoor
open Go.RowKit Go.Extern.Stop Go.Stop Go.Extern
set_option linter.unusedVariables false
set_option linter.unusedSimpArgs false
/-! inside, sign -/
theorem wd_min {x y : Nat} {a b : Int} (hx : Wd x a) (hy : Wd y b) : ∃ r, Wd r (min a b) ∧ ∀ ts t (w : World), (Builtin.min_ ts t #[.float .f64 x, .float .f64 y]).run Tryd.prog w = .ok (.float .f64 r) w := by
  have h : FloatKind.f64.format.order x y = some (compare a b) := wd_order hx hy
  rcases Int.lt_trichotomy a b with g | g | g
  · refine ⟨x, by rw [Int.min_eq_left (Int.le_of_lt g)]; exact hx, fun ts t w => ?_⟩
    rw [cmp_lt.2 g] at h
    simp [Builtin.min_, Builtin.min2, h]
  · rw [cmp_eq.2 g] at h
    subst g
    rw [Int.min_self]
    by_cases hn : (FloatKind.f64.decode x).neg = true
    · exact ⟨x, hx, fun ts t w => by simp [Builtin.min_, Builtin.min2, h, hn]⟩
    · exact ⟨y, hy, fun ts t w => by simp [Builtin.min_, Builtin.min2, h, hn]⟩
  · refine ⟨y, by rw [Int.min_eq_right (Int.le_of_lt g)]; exact hy, fun ts t w => ?_⟩
    rw [cmp_gt.2 g] at h
    simp [Builtin.min_, Builtin.min2, h]
theorem wd_max {x y : Nat} {a b : Int} (hx : Wd x a) (hy : Wd y b) : ∃ r, Wd r (max a b) ∧ ∀ ts t (w : World), (Builtin.max_ ts t #[.float .f64 x, .float .f64 y]).run Tryd.prog w = .ok (.float .f64 r) w := by
  have h : FloatKind.f64.format.order x y = some (compare a b) := wd_order hx hy
  rcases Int.lt_trichotomy a b with g | g | g
  · refine ⟨y, by rw [Int.max_eq_right (Int.le_of_lt g)]; exact hy, fun ts t w => ?_⟩
    rw [cmp_lt.2 g] at h
    simp [Builtin.max_, Builtin.max2, h]
  · rw [cmp_eq.2 g] at h
    subst g
    rw [Int.max_self]
    by_cases hn : (FloatKind.f64.decode x).neg = true
    · exact ⟨y, hy, fun ts t w => by simp [Builtin.max_, Builtin.max2, h, hn]⟩
    · exact ⟨x, hx, fun ts t w => by simp [Builtin.max_, Builtin.max2, h, hn]⟩
  · refine ⟨x, by rw [Int.max_eq_left (Int.le_of_lt g)]; exact hx, fun ts t w => ?_⟩
    rw [cmp_gt.2 g] at h
    simp [Builtin.max_, Builtin.max2, h]
theorem wd_lss {x y : Nat} {a b : Int} (hx : Wd x a) (hy : Wd y b) : (FloatKind.f64.format.order x y == some .lt) = decide (a < b) := by
  have h : FloatKind.f64.format.order x y = some (compare a b) := wd_order hx hy
  rw [h]
  by_cases e : a < b
  · have := cmp_lt.2 e
    simp [this, e]
  · have : ¬ compare a b = .lt := fun g => e (cmp_lt.1 g)
    simp [this, e]
theorem wd_gtr {x y : Nat} {a b : Int} (hx : Wd x a) (hy : Wd y b) : (FloatKind.f64.format.order x y == some .gt) = decide (b < a) := by
  have h : FloatKind.f64.format.order x y = some (compare a b) := wd_order hx hy
  rw [h]
  by_cases e : b < a
  · have := cmp_gt.2 e
    simp [this, e]
  · have : ¬ compare a b = .gt := fun g => e (cmp_gt.1 g)
    simp [this, e]
/-- strictly between -/
def betw (x a b : Int) : Prop := (a < x ∧ x < b) ∨ (b < x ∧ x < a)
instance (x a b : Int) : Decidable (betw x a b) := by unfold betw; infer_instance
theorem betw_is (x a b : Int) : betw x a b ↔ min a b < x ∧ x < max a b := by unfold betw; omega
theorem inside_any {x y z : Nat} {a b c : Int} (hx : Wd x a) (hy : Wd y b) (hz : Wd z c) (w : World) : Calls Tryd.prog 63 #[.float .f64 x, .float .f64 y, .float .f64 z] w fun e w' => e = .returned (.bool (decide (betw a b c))) ∧ w' = w := by
  obtain ⟨r, hr, hmin⟩ := wd_min hy hz
  obtain ⟨s, hs, hmax⟩ := wd_max hy hz
  have e1 := wd_lss hr hx
  have e2 := wd_lss hx hs
  obtain ⟨v, hv⟩ : ∃ v, decide (betw a b c) = v := ⟨_, rfl⟩
  rw [hv]
  have hb := betw_is a b c
  clear hx hy hz hr hs
  by_cases g1 : min b c < a
  · by_cases g2 : a < max b c
    · rw [decide_eq_true g1] at e1
      rw [decide_eq_true g2] at e2
      obtain rfl : v = true := by rw [← hv]; exact decide_eq_true (hb.2 ⟨g1, g2⟩)
      clear hb g1 g2 hv
      go_enter Tryd.func63, Tryd.ntmps63
      go_wp2_with (fail)
      go_returns
      exact ⟨rfl, rfl⟩
    · rw [decide_eq_true g1] at e1
      rw [decide_eq_false g2] at e2
      obtain rfl : v = false := by rw [← hv]; exact decide_eq_false (fun h => g2 (hb.1 h).2)
      clear hb g1 g2 hv
      go_enter Tryd.func63, Tryd.ntmps63
      go_wp2_with (fail)
      go_returns
      exact ⟨rfl, rfl⟩
  · rw [decide_eq_false g1] at e1
    obtain rfl : v = false := by rw [← hv]; exact decide_eq_false (fun h => g1 (hb.1 h).1)
    clear hb g1 hv e2
    go_enter Tryd.func63, Tryd.ntmps63
    go_wp2_with (fail)
    go_returns
    exact ⟨rfl, rfl⟩
/-- what stands at a point -/
def signF : List Mk → Pt → Bool → Bool → UInt8
  | [], _, a, u => if a && u then 35 else if a then 45 else if u then 124 else 32
  | m :: l, z, a, u => if m.1 = z ∨ m.2 = z then 43 else
    if m.1.2 = z.2 ∧ m.2.2 = z.2 ∧ betw z.1 m.1.1 m.2.1 then signF l z true u else
    if m.1.1 = z.1 ∧ m.2.1 = z.1 ∧ betw z.2 m.1.2 m.2.2 then signF l z a true else signF l z a u
def signZ (l : List Mk) (z : Pt) : UInt8 := signF l z false false
/-- marks that stand for numbers -/
def Nks (xs : List Mw) (zs : List Mk) : Prop := zs.length = xs.length ∧ ∀ i (h : i < xs.length), Nk xs[i] (zs.getD i m0)
theorem drop_at {zs : List Mk} {j : Nat} (h : j < zs.length) : zs.drop j = zs.getD j m0 :: zs.drop (j + 1) := by
  rw [List.drop_eq_getElem_cons h, List.getD_eq_getElem?_getD, List.getElem?_eq_getElem h]
  rfl
theorem eq2 (a u b v : Bool) (w : World) : (binOp .eql 115 (.agg #[.bool a, .bool u]) (.agg #[.bool b, .bool v])).run Tryd.prog w = .ok (.bool (a == b && u == v)) w := by
  cases a <;> cases u <;> cases b <;> cases v <;> kernel_rfl
/-- one mark more, by what is equal -/
theorem sign_step (a1 a2 b1 b2 p q : Int) (l : List Mk) (a u : Bool) (t1 t2 t3 t4 i1 i2 : Bool) (h1 : decide (a1 = p) = t1) (h2 : decide (a2 = q) = t2) (h3 : decide (b1 = p) = t3) (h4 : decide (b2 = q) = t4) (h5 : decide (betw p a1 b1) = i1) (h6 : decide (betw q a2 b2) = i2) :
    signF (((a1, a2), b1, b2) :: l) (p, q) a u = bif (t1 && t2) || (t3 && t4) then 43 else bif t2 && t4 && i1 then signF l (p, q) true u else bif t1 && t3 && i2 then signF l (p, q) a true else signF l (p, q) a u := by
  subst h1 h2 h3 h4 h5 h6
  rw [signF]
  simp only [Prod.mk.injEq]
  by_cases g1 : (a1 = p ∧ a2 = q) ∨ b1 = p ∧ b2 = q
  · rw [if_pos g1]
    have : ((decide (a1 = p) && decide (a2 = q)) || (decide (b1 = p) && decide (b2 = q))) = true := by simpa using g1
    rw [this]; rfl
  · rw [if_neg g1]
    have : ((decide (a1 = p) && decide (a2 = q)) || (decide (b1 = p) && decide (b2 = q))) = false := by
      rw [Bool.eq_false_iff]; intro h; exact g1 (by simpa using h)
    rw [this, cond_false]
    by_cases g2 : a2 = q ∧ b2 = q ∧ betw p a1 b1
    · rw [if_pos g2]
      have : (decide (a2 = q) && decide (b2 = q) && decide (betw p a1 b1)) = true := by simp [g2]
      rw [this, cond_true]
    · rw [if_neg g2]
      have : (decide (a2 = q) && decide (b2 = q) && decide (betw p a1 b1)) = false := by
        rw [Bool.eq_false_iff]; intro h; exact g2 (by simpa [and_assoc] using h)
      rw [this, cond_false]
      by_cases g3 : a1 = p ∧ b1 = p ∧ betw q a2 b2
      · rw [if_pos g3]
        have : (decide (a1 = p) && decide (b1 = p) && decide (betw q a2 b2)) = true := by simp [g3]
        rw [this, cond_true]
      · rw [if_neg g3]
        have : (decide (a1 = p) && decide (b1 = p) && decide (betw q a2 b2)) = false := by
          rw [Bool.eq_false_iff]; intro h; exact g3 (by simpa [and_assoc] using h)
        rw [this, cond_false]
set_option maxRecDepth 100000 in
set_option maxHeartbeats 8000000 in
theorem sign_any (A : Option Addr) (xs : List Mw) (zs : List Mk) (n c : Nat) (w : World) (hm : xs.length = n) (h : Mks w A xs) (hz : Nks xs zs) (hn : n ≤ 1000000) {x y : Nat} {p q : Int} (hx : Wd x p) (hy : Wd y q) : Calls Tryd.prog 45 #[.slice A n c, .complex .f64 x y] w fun e w' => e = .returned (.string ⟨#[signZ zs (p, q)]⟩) ∧ Below w.heap.size w w' := by
  replace h := Lib.hid h
  replace hz := Lib.hid hz
  replace hm := Lib.hid hm
  replace hx := Lib.hid hx
  replace hy := Lib.hid hy
  have hn4 : (n : Int) ≤ 1000000 := by omega
  obtain ⟨r, hr⟩ : ∃ r, signZ zs (p, q) = r := ⟨_, rfl⟩
  rw [hr]
  replace hr := Lib.hid hr
  go_enter Tryd.func45, Tryd.ntmps45
  go_wp2_with (fail)
  have k0 := Bk.fresh w 115 #[.bool false, .bool false]
  have hB := (Below.refl w.heap.size w).alloc (Nat.le_refl _) (.cells #[.bool false, .bool false] 115)
  obtain ⟨X, hX⟩ : ∃ X, w.alloc (.cells #[.bool false, .bool false] 115) = X := ⟨_, rfl⟩
  obtain ⟨g, hg⟩ : ∃ g, w.heap.size = g := ⟨_, rfl⟩
  have hgw : w.heap.size ≤ g := Nat.le_of_eq hg
  rw [hX, hg] at k0
  rw [hX] at hB
  rw [hX, hg]
  replace hgw := Lib.hid hgw
  clear hX hg
  go_loopw [10] (fun x wr => ∃ j : Nat, x = .int .i64 j ∧ j ≤ n ∧ Hid (∃ a u : Bool, Bk wr g 115 #[.bool a, .bool u] ∧ signF (zs.drop j) (p, q) a u = r ∧ Below w.heap.size w wr)) (fun x _ => n - (intOf x).toNat)
  case atStart => exact ⟨0, rfl, Nat.zero_le _, Lib.hid ⟨false, false, k0, hr.out, hB⟩⟩
  case round =>
    obtain ⟨j, rfl, hj0, hQ⟩ := hrel
    obtain ⟨a, u, kb, hs, hW⟩ := hQ.out
    clear hQ k0 hB
    by_cases hj : j < n
    · have j0 : (j : Int) < (n : Int) := by omega
      have hjl : j < xs.length := by rw [hm.out]; exact hj
      obtain ⟨b, off, rfl, hbl, c0, c1, hL⟩ := h.out j hjl
      obtain ⟨g1, g2⟩ := hz.out.2 j hjl
      rw [drop_at (by rw [hz.out.1]; exact hjl)] at hs
      obtain ⟨⟨⟨p1, p2⟩, q1, q2⟩, hx2⟩ : ∃ p, xs[j] = p := ⟨_, rfl⟩
      obtain ⟨⟨⟨a1, a2⟩, b1, b2⟩, hzz⟩ : ∃ z, zs.getD j m0 = z := ⟨_, rfl⟩
      rw [hx2] at c0 c1 g1 g2
      rw [hzz] at g1 g2 hs
      simp only at c0 c1
      replace c0 := (hW.cell (p := ⟨b, off + j * 2, none⟩) hbl).trans c0
      replace c1 := (hW.cell (p := ⟨b, off + j * 2 + 1, none⟩) hbl).trans c1
      have i1 := Lib.hid (fun w => inside_any hx.out g1.1 g2.1 w)
      have i2 := Lib.hid (fun w => inside_any hy.out g1.2 g2.2 w)
      have e1 := wd_eql g1.1 hx.out
      have e2 := wd_eql g1.2 hy.out
      have e3 := wd_eql g2.1 hx.out
      have e4 := wd_eql g2.2 hy.out
      simp only at e1 e2 e3 e4 i1 i2
      have hst := sign_step a1 a2 b1 b2 p q (zs.drop (j + 1)) a u _ _ _ _ _ _ rfl rfl rfl rfl rfl rfl
      rw [hst] at hs
      obtain ⟨t1, ht1⟩ : ∃ t, decide (a1 = p) = t := ⟨_, rfl⟩
      obtain ⟨t2, ht2⟩ : ∃ t, decide (a2 = q) = t := ⟨_, rfl⟩
      obtain ⟨t3, ht3⟩ : ∃ t, decide (b1 = p) = t := ⟨_, rfl⟩
      obtain ⟨t4, ht4⟩ : ∃ t, decide (b2 = q) = t := ⟨_, rfl⟩
      obtain ⟨v1, hv1⟩ : ∃ t, decide (betw p a1 b1) = t := ⟨_, rfl⟩
      obtain ⟨v2, hv2⟩ : ∃ t, decide (betw q a2 b2) = t := ⟨_, rfl⟩
      rw [ht1, ht2, ht3, ht4, hv1, hv2] at hs
      rw [ht1] at e1
      rw [ht2] at e2
      rw [ht3] at e3
      rw [ht4] at e4
      rw [hv1] at i1
      rw [hv2] at i2
      replace hs := Lib.hid hs
      have hbr : b < wr.heap.size := Nat.lt_of_lt_of_le hbl hW.size
      have kb2 := kb.past (.cells #[.complex .f64 p1 p2, .complex .f64 q1 q2] 65)
      have hW2 := hW.alloc hW.size (.cells #[.complex .f64 p1 p2, .complex .f64 q1 q2] 65)
      have f0 := kb2.free 0
      have f1 := kb2.free 1
      have l0 := kb2.cell 0
      have l1 := kb2.cell 1
      simp at l0 l1
      replace kb2 := Lib.hid kb2
      replace hW2 := Lib.hid hW2
      clear hst ht1 ht2 ht3 ht4 hv1 hv2 g1 g2 hL hzz hx2 hbr kb hW
      have fin0 : ∀ (v : Value), signF (zs.drop (j + 1)) (p, q) a u = r → Hid (∃ a u : Bool, Bk (wr.alloc (.cells #[.complex .f64 p1 p2, .complex .f64 q1 q2] 65)) g 115 #[.bool a, .bool u] ∧ signF (zs.drop (j + 1)) (p, q) a u = r ∧ Below w.heap.size w (wr.alloc (.cells #[.complex .f64 p1 p2, .complex .f64 q1 q2] 65))) := fun _ e => Lib.hid ⟨a, u, kb2.out, e, hW2.out⟩
      have fin1 : signF (zs.drop (j + 1)) (p, q) true u = r → Hid (∃ a u : Bool, Bk ((wr.alloc (.cells #[.complex .f64 p1 p2, .complex .f64 q1 q2] 65)).setCell ⟨g, 0, none⟩ (.bool true)) g 115 #[.bool a, .bool u] ∧ signF (zs.drop (j + 1)) (p, q) a u = r ∧ Below w.heap.size w ((wr.alloc (.cells #[.complex .f64 p1 p2, .complex .f64 q1 q2] 65)).setCell ⟨g, 0, none⟩ (.bool true))) := fun e => Lib.hid ⟨true, u, kb2.out.put 0 _, e, hW2.out.setCell (p := ⟨g, 0, none⟩) hgw.out _⟩
      have fin2 : signF (zs.drop (j + 1)) (p, q) a true = r → Hid (∃ a u : Bool, Bk ((wr.alloc (.cells #[.complex .f64 p1 p2, .complex .f64 q1 q2] 65)).setCell ⟨g, 1, none⟩ (.bool true)) g 115 #[.bool a, .bool u] ∧ signF (zs.drop (j + 1)) (p, q) a u = r ∧ Below w.heap.size w ((wr.alloc (.cells #[.complex .f64 p1 p2, .complex .f64 q1 q2] 65)).setCell ⟨g, 1, none⟩ (.bool true))) := fun e => Lib.hid ⟨a, true, kb2.out.put 1 _, e, hW2.out.setCell (p := ⟨g, 1, none⟩) hgw.out _⟩
      replace fin0 := Lib.hid fin0
      replace fin1 := Lib.hid fin1
      replace fin2 := Lib.hid fin2
      clear kb2
      have hls : (∀ z : UInt8, signF (zs.drop (j + 1)) (p, q) a u = z ↔ signF (zs.drop (j + 1)) (p, q) a u = z) := fun _ => Iff.rfl
      clear hls
      cases t1 <;> cases t2 <;> cases t3 <;> cases t4
      all_goals
        simp only [Bool.true_and, Bool.and_true, Bool.false_and, Bool.and_false, Bool.or_false, Bool.false_or, Bool.or_true, Bool.true_or, cond_true, cond_false] at hs
        go_wp2_with (fail)
        first
          | (go_returns; exact ⟨by rw [← hs.out]; rfl, hW2.out⟩)
          | exact ⟨⟨j + 1, rfl, by omega, fin0.out .nilIface hs.out⟩, by simp [intOf]; omega⟩
          | skip
      · refine (i1.out _).mono ?_
        rintro e w1 ⟨rfl, hw_⟩
        have hw_ := hw_.symm
        subst hw_
        cases v1
        · simp only [cond_false] at hs
          go_wp2_with (fail)
          exact ⟨⟨j + 1, rfl, by omega, fin0.out .nilIface hs.out⟩, by simp [intOf]; omega⟩
        · simp only [cond_true] at hs
          go_wp2_with (fail)
          exact ⟨⟨j + 1, rfl, by omega, fin1.out hs.out⟩, by simp [intOf]; omega⟩
      · refine (i2.out _).mono ?_
        rintro e w1 ⟨rfl, hw_⟩
        have hw_ := hw_.symm
        subst hw_
        cases v2
        · simp only [cond_false] at hs
          go_wp2_with (fail)
          exact ⟨⟨j + 1, rfl, by omega, fin0.out .nilIface hs.out⟩, by simp [intOf]; omega⟩
        · simp only [cond_true] at hs
          go_wp2_with (fail)
          exact ⟨⟨j + 1, rfl, by omega, fin2.out hs.out⟩, by simp [intOf]; omega⟩
    · have j0 : ¬ (j : Int) < (n : Int) := by omega
      have c0 := kb.cell 0
      have c1 := kb.cell 1
      simp at c0 c1
      have q2 := fun a u b v w => eq2 a u b v w
      rw [List.drop_eq_nil_of_le (by rw [hz.out.1, hm.out]; omega)] at hs
      replace hs := Lib.hid hs
      replace hW := Lib.hid hW
      clear kb
      cases a <;> cases u
      all_goals
        go_wp2_with (fail)
        go_returns
        refine ⟨?_, hW.out⟩
        rw [← hs.out]
        rfl
end Go.Proofs.YtndgcndmkfjdgaaDoor
