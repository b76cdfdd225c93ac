import Derived.Test.YtndgcndmkfjdgaaDoorPlR
namespace Go.Proofs.YtndgcndmkfjdgaaDoor
open Go.RowKit Go.Extern.Stop Go.Stop Go.Extern
set_option linter.unusedVariables false
set_option linter.unusedSimpArgs false
/-! PlanePlays: the document's turtle -/
/-- the document's turtle in memory -/
structure Rt_ (W : World) (base r : Nat) (U : Value) (a v : Pt) (dn : Bool) (ms : List Mk) : Prop where
  bk : Bk W r 61 #[.int .i64 a.1, .int .i64 a.2, .int .i64 v.1, .int .i64 v.2, .bool dn, U]
  row : W.ownsRow base 85 4 U ms.length (rksC ms)
section
variable {W W' W'' : World} {base t : Nat} {V : Value} {a v : Pt} {dn : Bool} {ms : List Mk} {row : Option Nat}
theorem Rt_.bel (T : Rt_ W base t V a v dn ms) (hb : Below W.heap.size W W') : Rt_ W' base t V a v dn ms := ⟨T.bk.kept hb T.bk.lt, own_below T.row hb (Nat.le_refl _)⟩
theorem Rt_.draws (T : Rt_ W base t V a v dn ms) (n : Nat) : Rt_ (W.drewN n) base t V a v dn ms := ⟨T.bk.draws n, own_draws T.row n⟩
theorem Rt_.draw (T : Rt_ W base t V a v dn ms) : Rt_ W.drew base t V a v dn ms := T.draws 1
theorem Rt_.row_ne (T : Rt_ W base t V a v dn ms) : V.ownBlock ≠ some t := by
  rcases T.row.2 with ⟨rfl, _⟩ | ⟨g, cap, cur, rfl, _, hg, _⟩
  · simp [Value.ownBlock]
  · simp only [Value.ownBlock]
    intro e
    injection e with e
    subst e
    have := T.bk
    unfold Bk at this
    rw [hg] at this
    injection this with this
    injection this with _ ht
    exact absurd ht (by decide)
theorem Rt_.put (T : Rt_ W base t V a v dn ms) {a' v' : Pt} {dn' : Bool} (hB : Bk W' t 61 #[.int .i64 a'.1, .int .i64 a'.2, .int .i64 v'.1, .int .i64 v'.2, .bool dn', V]) (hO : Only t W W') : Rt_ W' base t V a' v' dn' ms :=
  ⟨hB, own_only T.row hO T.row_ne⟩
end
theorem own_ne_bk {W : World} {base size n b : Nat} {e ty : TypeId} {v : Value} {xs : List Value} {vs : Array Value} (h : W.ownsRow base e size v n xs) (hb : Bk W b ty vs) (hne : e ≠ ty) : v.ownBlock ≠ some b := by
  rcases h.2 with ⟨rfl, _⟩ | ⟨g, cap, cur, rfl, _, hg, _⟩
  · simp [Value.ownBlock]
  · simp only [Value.ownBlock]
    intro e'
    injection e' with e'
    subst e'
    have := hb
    unfold Bk at this
    rw [hg] at this
    injection this with this
    injection this with _ ht
    exact hne ht
theorem rnew (w : World) : Calls Tryd.prog 25 #[] w fun e w' => e = .returned (.pointer (some ⟨w.heap.size, 0, none⟩)) ∧ Rt_ w' w.heap.size w.heap.size (.slice none 0 0) (0, 0) (1, 0) true [] ∧ Below w.heap.size w w' := by
  have key : Rt_ (w.alloc (.cells #[.int .i64 0, .int .i64 0, .int .i64 1, .int .i64 0, .bool true, .slice none 0 0] 61)) w.heap.size w.heap.size (.slice none 0 0) (0, 0) (1, 0) true [] :=
    ⟨Bk.fresh _ _ _, World.ownsRow_nil _ _ _ _⟩
  replace key := Lib.hid key
  go_enter Tryd.func25, Tryd.ntmps25
  go_wp2_with (fail)
  go_returns
  exact ⟨rfl, key.out, (Below.refl _ _).alloc (Nat.le_refl _) _⟩
theorem rkk_append {w : World} {base : Nat} {V : Value} {ms : List Mk} (m : Mk) (h : w.ownsRow base 85 4 V ms.length (rksC ms)) (hb : base ≤ w.heap.size) (hl : ms.length ≤ 100000) :
    ∃ A' c' w2, (Builtin.append_ #[25, 25] 25 #[V, .slice (some ⟨w.heap.size, 0, none⟩) 1 1]).run Tryd.prog (w.alloc (.cells #[.int .i64 m.1.1, .int .i64 m.1.2, .int .i64 m.2.1, .int .i64 m.2.2] 85)) = .ok (.slice A' (ms.length + 1) c') w2 ∧
      w2.ownsRow base 85 4 (.slice A' (ms.length + 1) c') (ms ++ [m]).length (rksC (ms ++ [m])) ∧ w.grownBy w2 V.ownBlock ∧
      ((Value.slice A' (ms.length + 1) c').ownBlock = V.ownBlock ∨ ∀ k, (Value.slice A' (ms.length + 1) c').ownBlock = some k → w.heap.size ≤ k) := by
  obtain ⟨i9, hi, hz0, hz1, hz2⟩ := info_parts info_rmark
  obtain ⟨A', c', w2, hrun, hown, hgr, hnew⟩ := app_one (P := Tryd.prog) (w := w) Tryd.underlying25 hi hz0 hz1 hz2 rfl (by decide) (by decide) (own_base h (Nat.zero_le _)) (rkC m) rfl (rkC_one _) (by omega)
  refine ⟨A', c', w2, hrun, ?_, hgr, hnew⟩
  rw [rksC_push] at hown
  have e2 : (ms ++ [m]).length = ms.length + 1 := by simp
  rw [e2]
  rcases hown.2 with ⟨e3, h0⟩ | ⟨g, cap, cur, e3, hb0, rest⟩
  · omega
  · refine ⟨hown.1, .inr ⟨g, cap, cur, e3, ?_, rest⟩⟩
    rcases hnew with h1 | h1
    · rw [e3] at h1
      exact own_ge h g h1.symm
    · have := h1 g (by rw [e3]; rfl)
      omega
section
variable {w : World} {base t : Nat} {V : Value} {a v : Pt} {dn : Bool} {ms : List Mk}
theorem rfwd_huge (T : Rt_ w base t V a v dn ms) (n : Int) (hn : 40000000 < n ∨ n < -40000000) : Calls Tryd.prog 27 #[.pointer (some ⟨t, 0, none⟩), .int .i64 n] w fun e w' => e = .returned (.int .i64 8) ∧ Below w.heap.size w w' := by
  clear T
  by_cases h1 : 40000000 < n
  · clear hn
    go_enter Tryd.func27, Tryd.ntmps27
    go_wp2_with (fail)
    go_returns
    exact ⟨rfl, Below.refl _ _⟩
  · have h2 : n < -40000000 := by omega
    clear hn
    go_enter Tryd.func27, Tryd.ntmps27
    go_wp2_with (fail)
    go_returns
    exact ⟨rfl, Below.refl _ _⟩

set_option maxRecDepth 100000 in
set_option maxHeartbeats 4000000 in
theorem rfwd_far (T : Rt_ w base t V a v dn ms) (sa : Sm a 16777216) (un : Unit4 v) (n : Int) (hn : ¬ Sm (toZ a v n) 16777216) : Calls Tryd.prog 27 #[.pointer (some ⟨t, 0, none⟩), .int .i64 n] w fun e w' => e = .returned (.int .i64 8) ∧ Below w.heap.size w w' := by
  by_cases h1 : 40000000 < n ∨ n < -40000000
  · exact rfwd_huge T n h1
  · have h2 : n ≤ 40000000 := by omega
    have h3 : -40000000 ≤ n := by omega
    clear h1
    obtain ⟨⟨z1, z2⟩, hz⟩ : ∃ z, toZ a v n = z := ⟨_, rfl⟩
    rw [hz] at hn
    try rw [hz]
    have hq1 : a.1 + n * v.1 = z1 := congrArg Prod.fst hz
    have hq2 : a.2 + n * v.2 = z2 := congrArg Prod.snd hz
    have hmu := mul_unit un n
    have sa' := sa
    unfold Sm at sa'
    obtain ⟨p1, hp1⟩ : ∃ p, n * v.1 = p := ⟨_, rfl⟩
    obtain ⟨p2, hp2⟩ : ∃ p, n * v.2 = p := ⟨_, rfl⟩
    rw [hp1] at hq1 hmu
    rw [hp2] at hq2 hmu
    have hb1 : -40000000 ≤ p1 ∧ p1 ≤ 40000000 := by omega
    have hb2 : -40000000 ≤ p2 ∧ p2 ≤ 40000000 := by omega
    have hw1 : IntKind.i64.wrap (n * v.1) = p1 := by rw [hp1, IntKind.wrap_i64]; omega
    have hw2 : IntKind.i64.wrap (n * v.2) = p2 := by rw [hp2, IntKind.wrap_i64]; omega
    have hw3 : IntKind.i64.wrap (a.1 + p1) = z1 := by rw [hq1, IntKind.wrap_i64]; omega
    have hw4 : IntKind.i64.wrap (a.2 + p2) = z2 := by rw [hq2, IntKind.wrap_i64]; omega
    have c0 := T.bk.draw.cell 0
    have c1 := T.bk.draw.cell 1
    have c2 := T.bk.draw.cell 2
    have c3 := T.bk.draw.cell 3
    simp at c0 c1 c2 c3
    obtain ⟨a1, a2⟩ := a
    obtain ⟨v1, v2⟩ := v
    simp only at hw1 hw2 hw3 hw4 c0 c1 c2 c3
    clear hmu sa' hb1 hb2 hp1 hp2 hq1 hq2
    replace T := Lib.hid T
    replace hz := Lib.hid hz
    replace hn := Lib.hid hn
    go_enter Tryd.func27, Tryd.ntmps27
    go_upto_region 3 with (fail)
    go_region_held3 (fun w' => (w'.cell? ⟨t, 0, none⟩ = some (.int .i64 a1) ∧ w'.cell? ⟨t, 1, none⟩ = some (.int .i64 a2)) ∧ w'.cell? ⟨t, 2, none⟩ = some (.int .i64 v1) ∧ w'.cell? ⟨t, 3, none⟩ = some (.int .i64 v2)) (go_keep) (fail)
    obtain ⟨X, hX⟩ : ∃ X, (w.alloc (.cells #[.int .i64 z1, .int .i64 z2] 58)).drew = X := ⟨_, rfl⟩
    rw [hX]
    have hBX : Below w.heap.size w X := by rw [← hX]; exact below_drew ((Below.refl _ w).alloc (Nat.le_refl _) _)
    have kb : Bk X w.heap.size 58 #[.int .i64 z1, .int .i64 z2] := by rw [← hX]; exact (Bk.fresh w _ _).draw
    have TX := (T.out.bel ((Below.refl _ w).alloc (Nat.le_refl _) (.cells #[.int .i64 z1, .int .i64 z2] 58))).draw
    rw [hX] at TX
    have k0 := kb.cell 0
    have k1 := kb.cell 1
    simp at k0 k1
    have htg : t < w.heap.size := T.out.bk.lt
    replace hBX := Lib.hid hBX
    replace kb := Lib.hid kb
    replace TX := Lib.hid TX
    replace htg := Lib.hid htg
    clear hX hw1 hw2 hw3 hw4 c0 c1 c2 c3
    have hwi := Lib.hid (rwithin_b (z1, z2) false ⟨fun h => absurd h (by decide), fun h => absurd h hn.out⟩ X)
    simp only at hwi
    go_wp2_with (fail)
    refine hwi.out.mono ?_
    rintro e w1_ ⟨rfl, hb⟩
    have T1 := Lib.hid (TX.out.bel hb)
    have kb1 := kb.out.kept hb kb.out.lt
    have hB := Lib.hid (hBX.out.trans (hb.mono hBX.out.size))
    have k0 := kb1.cell 0
    have k1 := kb1.cell 1
    have c0 := T1.out.bk.cell 0
    have c1 := T1.out.bk.cell 1
    have c4 := T1.out.bk.cell 4
    have c5 := T1.out.bk.cell 5
    have f0 := T1.out.bk.free 0
    have f1 := T1.out.bk.free 1
    have f5 := T1.out.bk.free 5
    simp at k0 k1 c0 c1 c4 c5
    clear hwi hb TX kb hBX
    go_wp2_with (fail)
    go_returns
    exact ⟨rfl, hB.out⟩
theorem to_near {a v : Pt} {n : Int} (ha : Sm a 16777216) (hv : Unit4 v) (hn : Sm (toZ a v n) 16777216) : n ≤ 40000000 ∧ -40000000 ≤ n := by
  unfold Sm toZ at *
  rcases hv with rfl | rfl | rfl | rfl <;> simp only at hn <;> omega
set_option maxRecDepth 100000 in
set_option maxHeartbeats 4000000 in
theorem rfwd_go (T : Rt_ w base t V a v dn ms) (sa : Sm a 16777216) (un : Unit4 v) (n : Int) (hn : Sm (toZ a v n) 16777216) (h0 : dn = false ∨ n = 0) : Calls Tryd.prog 27 #[.pointer (some ⟨t, 0, none⟩), .int .i64 n] w fun e w' => e = .returned (.int .i64 0) ∧ Rt_ w' base t V (toZ a v n) v dn ms ∧ Trd t V.ownBlock w w' := by
  obtain ⟨h2, h3⟩ := to_near sa un hn
  obtain ⟨⟨z1, z2⟩, hz⟩ : ∃ z, toZ a v n = z := ⟨_, rfl⟩
  rw [hz] at hn
  try rw [hz]
  have hq1 : a.1 + n * v.1 = z1 := congrArg Prod.fst hz
  have hq2 : a.2 + n * v.2 = z2 := congrArg Prod.snd hz
  have hmu := mul_unit un n
  have sa' := sa
  unfold Sm at sa'
  obtain ⟨p1, hp1⟩ : ∃ p, n * v.1 = p := ⟨_, rfl⟩
  obtain ⟨p2, hp2⟩ : ∃ p, n * v.2 = p := ⟨_, rfl⟩
  rw [hp1] at hq1 hmu
  rw [hp2] at hq2 hmu
  have hb1 : -40000000 ≤ p1 ∧ p1 ≤ 40000000 := by omega
  have hb2 : -40000000 ≤ p2 ∧ p2 ≤ 40000000 := by omega
  have hw1 : IntKind.i64.wrap (n * v.1) = p1 := by rw [hp1, IntKind.wrap_i64]; omega
  have hw2 : IntKind.i64.wrap (n * v.2) = p2 := by rw [hp2, IntKind.wrap_i64]; omega
  have hw3 : IntKind.i64.wrap (a.1 + p1) = z1 := by rw [hq1, IntKind.wrap_i64]; omega
  have hw4 : IntKind.i64.wrap (a.2 + p2) = z2 := by rw [hq2, IntKind.wrap_i64]; omega
  have c0 := T.bk.draw.cell 0
  have c1 := T.bk.draw.cell 1
  have c2 := T.bk.draw.cell 2
  have c3 := T.bk.draw.cell 3
  simp at c0 c1 c2 c3
  obtain ⟨a1, a2⟩ := a
  obtain ⟨v1, v2⟩ := v
  simp only at hw1 hw2 hw3 hw4 c0 c1 c2 c3
  clear hmu sa' hb1 hb2 hp1 hp2 hq1 hq2
  replace T := Lib.hid T
  replace hz := Lib.hid hz
  replace hn := Lib.hid hn
  go_enter Tryd.func27, Tryd.ntmps27
  go_upto_region 3 with (fail)
  go_region_held3 (fun w' => (w'.cell? ⟨t, 0, none⟩ = some (.int .i64 a1) ∧ w'.cell? ⟨t, 1, none⟩ = some (.int .i64 a2)) ∧ w'.cell? ⟨t, 2, none⟩ = some (.int .i64 v1) ∧ w'.cell? ⟨t, 3, none⟩ = some (.int .i64 v2)) (go_keep) (fail)
  obtain ⟨X, hX⟩ : ∃ X, (w.alloc (.cells #[.int .i64 z1, .int .i64 z2] 58)).drew = X := ⟨_, rfl⟩
  rw [hX]
  have hBX : Below w.heap.size w X := by rw [← hX]; exact below_drew ((Below.refl _ w).alloc (Nat.le_refl _) _)
  have kb : Bk X w.heap.size 58 #[.int .i64 z1, .int .i64 z2] := by rw [← hX]; exact (Bk.fresh w _ _).draw
  have TX := (T.out.bel ((Below.refl _ w).alloc (Nat.le_refl _) (.cells #[.int .i64 z1, .int .i64 z2] 58))).draw
  rw [hX] at TX
  have k0 := kb.cell 0
  have k1 := kb.cell 1
  simp at k0 k1
  have htg : t < w.heap.size := T.out.bk.lt
  replace hBX := Lib.hid hBX
  replace kb := Lib.hid kb
  replace TX := Lib.hid TX
  replace htg := Lib.hid htg
  clear hX hw1 hw2 hw3 hw4 c0 c1 c2 c3
  have hwi := Lib.hid (rwithin_b (z1, z2) true ⟨fun _ => hn.out, fun _ => rfl⟩ X)
  simp only at hwi
  by_cases hn0 : n = 0
  · have hn1 : (n != 0) = false := by simpa using hn0
    replace hn0 := Lib.hid hn0
    go_wp2_with (fail)
    refine hwi.out.mono ?_
    rintro e w1_ ⟨rfl, hb⟩
    have T1 := Lib.hid (TX.out.bel hb)
    have kb1 := kb.out.kept hb kb.out.lt
    have hB := Lib.hid (hBX.out.trans (hb.mono hBX.out.size))
    have k0 := kb1.cell 0
    have k1 := kb1.cell 1
    have c0 := T1.out.bk.cell 0
    have c1 := T1.out.bk.cell 1
    have c4 := T1.out.bk.cell 4
    have c5 := T1.out.bk.cell 5
    have f0 := T1.out.bk.free 0
    have f1 := T1.out.bk.free 1
    have f5 := T1.out.bk.free 5
    simp at k0 k1 c0 c1 c4 c5
    clear hwi hb TX kb hBX
    have hfin : Rt_ ((w1_.setCell ⟨t, 0, none⟩ (.int .i64 z1)).setCell ⟨t, 1, none⟩ (.int .i64 z2)) base t V (z1, z2) (v1, v2) dn ms ∧ Trd t V.ownBlock w ((w1_.setCell ⟨t, 0, none⟩ (.int .i64 z1)).setCell ⟨t, 1, none⟩ (.int .i64 z2)) :=
      ⟨T1.out.put ((T1.out.bk.put 0 _).put 1 _) (((Only.refl t w1_).put 0 _).put 1 _), (Trd.of_below hB.out).trans (Trd.of_only (((Only.refl t w1_).put 0 _).put 1 _))⟩
    replace hfin := Lib.hid hfin
    go_wp2_with (fail)
    go_returns
    exact ⟨rfl, hfin.out⟩
  · have hd0 : dn = false := h0.resolve_right hn0
    subst hd0
    have hn1 : (n != 0) = true := by simpa using hn0
    replace hn0 := Lib.hid hn0
    go_wp2_with (fail)
    refine hwi.out.mono ?_
    rintro e w1_ ⟨rfl, hb⟩
    have T1 := Lib.hid (TX.out.bel hb)
    have kb1 := kb.out.kept hb kb.out.lt
    have hB := Lib.hid (hBX.out.trans (hb.mono hBX.out.size))
    have k0 := kb1.cell 0
    have k1 := kb1.cell 1
    have c0 := T1.out.bk.cell 0
    have c1 := T1.out.bk.cell 1
    have c4 := T1.out.bk.cell 4
    have c5 := T1.out.bk.cell 5
    have f0 := T1.out.bk.free 0
    have f1 := T1.out.bk.free 1
    have f5 := T1.out.bk.free 5
    simp at k0 k1 c0 c1 c4 c5
    clear hwi hb TX kb hBX
    have hfin : Rt_ ((w1_.setCell ⟨t, 0, none⟩ (.int .i64 z1)).setCell ⟨t, 1, none⟩ (.int .i64 z2)) base t V (z1, z2) (v1, v2) false ms ∧ Trd t V.ownBlock w ((w1_.setCell ⟨t, 0, none⟩ (.int .i64 z1)).setCell ⟨t, 1, none⟩ (.int .i64 z2)) :=
      ⟨T1.out.put ((T1.out.bk.put 0 _).put 1 _) (((Only.refl t w1_).put 0 _).put 1 _), (Trd.of_below hB.out).trans (Trd.of_only (((Only.refl t w1_).put 0 _).put 1 _))⟩
    replace hfin := Lib.hid hfin
    go_wp2_with (fail)
    go_returns
    exact ⟨rfl, hfin.out⟩
set_option maxRecDepth 100000 in
set_option maxHeartbeats 4000000 in
theorem rfwd_many (T : Rt_ w base t V a v true ms) (sa : Sm a 16777216) (un : Unit4 v) (n : Int) (hn : Sm (toZ a v n) 16777216) (h0 : n ≠ 0) (h4 : ms.length = 4096) : Calls Tryd.prog 27 #[.pointer (some ⟨t, 0, none⟩), .int .i64 n] w fun e w' => e = .returned (.int .i64 3) ∧ Below w.heap.size w w' := by
  obtain ⟨h2, h3⟩ := to_near sa un hn
  obtain ⟨A, c, rfl⟩ := own_form T.row
  rw [h4] at T
  obtain ⟨⟨z1, z2⟩, hz⟩ : ∃ z, toZ a v n = z := ⟨_, rfl⟩
  rw [hz] at hn
  try rw [hz]
  have hq1 : a.1 + n * v.1 = z1 := congrArg Prod.fst hz
  have hq2 : a.2 + n * v.2 = z2 := congrArg Prod.snd hz
  have hmu := mul_unit un n
  have sa' := sa
  unfold Sm at sa'
  obtain ⟨p1, hp1⟩ : ∃ p, n * v.1 = p := ⟨_, rfl⟩
  obtain ⟨p2, hp2⟩ : ∃ p, n * v.2 = p := ⟨_, rfl⟩
  rw [hp1] at hq1 hmu
  rw [hp2] at hq2 hmu
  have hb1 : -40000000 ≤ p1 ∧ p1 ≤ 40000000 := by omega
  have hb2 : -40000000 ≤ p2 ∧ p2 ≤ 40000000 := by omega
  have hw1 : IntKind.i64.wrap (n * v.1) = p1 := by rw [hp1, IntKind.wrap_i64]; omega
  have hw2 : IntKind.i64.wrap (n * v.2) = p2 := by rw [hp2, IntKind.wrap_i64]; omega
  have hw3 : IntKind.i64.wrap (a.1 + p1) = z1 := by rw [hq1, IntKind.wrap_i64]; omega
  have hw4 : IntKind.i64.wrap (a.2 + p2) = z2 := by rw [hq2, IntKind.wrap_i64]; omega
  have c0 := T.bk.draw.cell 0
  have c1 := T.bk.draw.cell 1
  have c2 := T.bk.draw.cell 2
  have c3 := T.bk.draw.cell 3
  simp at c0 c1 c2 c3
  obtain ⟨a1, a2⟩ := a
  obtain ⟨v1, v2⟩ := v
  simp only at hw1 hw2 hw3 hw4 c0 c1 c2 c3
  clear hmu sa' hb1 hb2 hp1 hp2 hq1 hq2
  replace T := Lib.hid T
  replace hz := Lib.hid hz
  replace hn := Lib.hid hn
  go_enter Tryd.func27, Tryd.ntmps27
  go_upto_region 3 with (fail)
  go_region_held3 (fun w' => (w'.cell? ⟨t, 0, none⟩ = some (.int .i64 a1) ∧ w'.cell? ⟨t, 1, none⟩ = some (.int .i64 a2)) ∧ w'.cell? ⟨t, 2, none⟩ = some (.int .i64 v1) ∧ w'.cell? ⟨t, 3, none⟩ = some (.int .i64 v2)) (go_keep) (fail)
  obtain ⟨X, hX⟩ : ∃ X, (w.alloc (.cells #[.int .i64 z1, .int .i64 z2] 58)).drew = X := ⟨_, rfl⟩
  rw [hX]
  have hBX : Below w.heap.size w X := by rw [← hX]; exact below_drew ((Below.refl _ w).alloc (Nat.le_refl _) _)
  have kb : Bk X w.heap.size 58 #[.int .i64 z1, .int .i64 z2] := by rw [← hX]; exact (Bk.fresh w _ _).draw
  have TX := (T.out.bel ((Below.refl _ w).alloc (Nat.le_refl _) (.cells #[.int .i64 z1, .int .i64 z2] 58))).draw
  rw [hX] at TX
  have k0 := kb.cell 0
  have k1 := kb.cell 1
  simp at k0 k1
  have htg : t < w.heap.size := T.out.bk.lt
  replace hBX := Lib.hid hBX
  replace kb := Lib.hid kb
  replace TX := Lib.hid TX
  replace htg := Lib.hid htg
  clear hX hw1 hw2 hw3 hw4 c0 c1 c2 c3
  have hwi := Lib.hid (rwithin_b (z1, z2) true ⟨fun _ => hn.out, fun _ => rfl⟩ X)
  simp only at hwi
  have hn1 : (n != 0) = true := by simpa using h0
  replace h0 := Lib.hid h0
  go_wp2_with (fail)
  refine hwi.out.mono ?_
  rintro e w1_ ⟨rfl, hb⟩
  have T1 := Lib.hid (TX.out.bel hb)
  have kb1 := kb.out.kept hb kb.out.lt
  have hB := Lib.hid (hBX.out.trans (hb.mono hBX.out.size))
  have k0 := kb1.cell 0
  have k1 := kb1.cell 1
  have c0 := T1.out.bk.cell 0
  have c1 := T1.out.bk.cell 1
  have c4 := T1.out.bk.cell 4
  have c5 := T1.out.bk.cell 5
  have f0 := T1.out.bk.free 0
  have f1 := T1.out.bk.free 1
  have f5 := T1.out.bk.free 5
  simp at k0 k1 c0 c1 c4 c5
  clear hwi hb TX kb hBX
  go_wp2_with (fail)
  go_returns
  exact ⟨rfl, hB.out⟩
set_option maxRecDepth 100000 in
set_option maxHeartbeats 4000000 in
theorem rfwd_draw (T : Rt_ w base t V a v true ms) (sa : Sm a 16777216) (un : Unit4 v) (n : Int) (hn : Sm (toZ a v n) 16777216) (h0 : n ≠ 0) (h4 : ms.length < 4096) (hbt : base ≤ w.heap.size) : Calls Tryd.prog 27 #[.pointer (some ⟨t, 0, none⟩), .int .i64 n] w fun e w' => e = .returned (.int .i64 0) ∧ ∃ V', Rt_ w' base t V' (toZ a v n) v true (ms ++ [(a, toZ a v n)]) ∧ Trd t V.ownBlock w w' ∧ (V'.ownBlock = V.ownBlock ∨ ∀ k, V'.ownBlock = some k → w.heap.size ≤ k) := by
  obtain ⟨h2, h3⟩ := to_near sa un hn
  obtain ⟨A, c, rfl⟩ := own_form T.row
  obtain ⟨m, hm⟩ : ∃ m, ms.length = m := ⟨_, rfl⟩
  rw [hm] at T h4 ⊢
  obtain ⟨⟨z1, z2⟩, hz⟩ : ∃ z, toZ a v n = z := ⟨_, rfl⟩
  rw [hz] at hn
  try rw [hz]
  have hq1 : a.1 + n * v.1 = z1 := congrArg Prod.fst hz
  have hq2 : a.2 + n * v.2 = z2 := congrArg Prod.snd hz
  have hmu := mul_unit un n
  have sa' := sa
  unfold Sm at sa'
  obtain ⟨p1, hp1⟩ : ∃ p, n * v.1 = p := ⟨_, rfl⟩
  obtain ⟨p2, hp2⟩ : ∃ p, n * v.2 = p := ⟨_, rfl⟩
  rw [hp1] at hq1 hmu
  rw [hp2] at hq2 hmu
  have hb1 : -40000000 ≤ p1 ∧ p1 ≤ 40000000 := by omega
  have hb2 : -40000000 ≤ p2 ∧ p2 ≤ 40000000 := by omega
  have hw1 : IntKind.i64.wrap (n * v.1) = p1 := by rw [hp1, IntKind.wrap_i64]; omega
  have hw2 : IntKind.i64.wrap (n * v.2) = p2 := by rw [hp2, IntKind.wrap_i64]; omega
  have hw3 : IntKind.i64.wrap (a.1 + p1) = z1 := by rw [hq1, IntKind.wrap_i64]; omega
  have hw4 : IntKind.i64.wrap (a.2 + p2) = z2 := by rw [hq2, IntKind.wrap_i64]; omega
  have c0 := T.bk.draw.cell 0
  have c1 := T.bk.draw.cell 1
  have c2 := T.bk.draw.cell 2
  have c3 := T.bk.draw.cell 3
  simp at c0 c1 c2 c3
  obtain ⟨a1, a2⟩ := a
  obtain ⟨v1, v2⟩ := v
  simp only at hw1 hw2 hw3 hw4 c0 c1 c2 c3
  clear hmu sa' hb1 hb2 hp1 hp2 hq1 hq2
  replace T := Lib.hid T
  replace hz := Lib.hid hz
  replace hn := Lib.hid hn
  go_enter Tryd.func27, Tryd.ntmps27
  go_upto_region 3 with (fail)
  go_region_held3 (fun w' => (w'.cell? ⟨t, 0, none⟩ = some (.int .i64 a1) ∧ w'.cell? ⟨t, 1, none⟩ = some (.int .i64 a2)) ∧ w'.cell? ⟨t, 2, none⟩ = some (.int .i64 v1) ∧ w'.cell? ⟨t, 3, none⟩ = some (.int .i64 v2)) (go_keep) (fail)
  obtain ⟨X, hX⟩ : ∃ X, (w.alloc (.cells #[.int .i64 z1, .int .i64 z2] 58)).drew = X := ⟨_, rfl⟩
  rw [hX]
  have hBX : Below w.heap.size w X := by rw [← hX]; exact below_drew ((Below.refl _ w).alloc (Nat.le_refl _) _)
  have kb : Bk X w.heap.size 58 #[.int .i64 z1, .int .i64 z2] := by rw [← hX]; exact (Bk.fresh w _ _).draw
  have TX := (T.out.bel ((Below.refl _ w).alloc (Nat.le_refl _) (.cells #[.int .i64 z1, .int .i64 z2] 58))).draw
  rw [hX] at TX
  have k0 := kb.cell 0
  have k1 := kb.cell 1
  simp at k0 k1
  have htg : t < w.heap.size := T.out.bk.lt
  replace hBX := Lib.hid hBX
  replace kb := Lib.hid kb
  replace TX := Lib.hid TX
  replace htg := Lib.hid htg
  clear hX hw1 hw2 hw3 hw4 c0 c1 c2 c3
  have hwi := Lib.hid (rwithin_b (z1, z2) true ⟨fun _ => hn.out, fun _ => rfl⟩ X)
  simp only at hwi
  have hn1 : (n != 0) = true := by simpa using h0
  have hm0 : ¬ (4096 : Int) ≤ (m : Int) := by omega
  replace h0 := Lib.hid h0
  replace hm := Lib.hid hm
  go_wp2_with (fail)
  refine hwi.out.mono ?_
  rintro e w1_ ⟨rfl, hb⟩
  have T1 := Lib.hid (TX.out.bel hb)
  have kb1 := kb.out.kept hb kb.out.lt
  have hB := Lib.hid (hBX.out.trans (hb.mono hBX.out.size))
  have k0 := kb1.cell 0
  have k1 := kb1.cell 1
  have c0 := T1.out.bk.cell 0
  have c1 := T1.out.bk.cell 1
  have c4 := T1.out.bk.cell 4
  have c5 := T1.out.bk.cell 5
  have f0 := T1.out.bk.free 0
  have f1 := T1.out.bk.free 1
  have f5 := T1.out.bk.free 5
  simp at k0 k1 c0 c1 c4 c5
  clear hwi hb TX kb hBX
  have hwz : w.heap.size ≤ w1_.heap.size := hB.out.size
  obtain ⟨A', c', w2, hrun, hown, hgr, hnew⟩ := rkk_append (w := w1_.drew) (V := .slice A m c) ((a1, a2), (z1, z2)) T1.out.draw.row (Nat.le_trans hbt hwz) (by rw [hm.out]; omega)
  rw [hm.out] at hrun hown hnew
  simp only at hrun
  have hb3 := T1.out.draw.bk.grown hgr T1.out.row_ne.symm
  have hx3 : Bk w2 w.heap.size 58 #[.int .i64 z1, .int .i64 z2] := kb1.draw.grown hgr (own_ne_bk T1.out.row kb1 (by decide)).symm
  have hB3 : Trd t (Value.slice A m c).ownBlock w w2 := (Trd.of_below (below_drew hB.out)).trans (Trd.of_grown hgr)
  have hrt : (Value.slice A' (m + 1) c').ownBlock ≠ some t := own_ne_bk hown hb3 (by decide)
  have hO := ((Only.refl t w2).put 5 (.slice A' (m + 1) c'))
  have hO2 := (hO.put 0 (.int .i64 z1)).put 1 (.int .i64 z2)
  have hfin : Rt_ (((w2.setCell ⟨t, 5, none⟩ (.slice A' (m + 1) c')).setCell ⟨t, 0, none⟩ (.int .i64 z1)).setCell ⟨t, 1, none⟩ (.int .i64 z2)) base t (.slice A' (m + 1) c') (z1, z2) (v1, v2) true (ms ++ [((a1, a2), (z1, z2))]) :=
    ⟨((hb3.put 5 _).put 0 _).put 1 _, own_only hown hO2 hrt⟩
  have hT2 := hB3.trans (Trd.of_only (row := (Value.slice A m c).ownBlock) hO2)
  have hnew2 : (Value.slice A' (m + 1) c').ownBlock = (Value.slice A m c).ownBlock ∨ ∀ k, (Value.slice A' (m + 1) c').ownBlock = some k → w.heap.size ≤ k := by
    rcases hnew with h1 | h1
    · exact .inl h1
    · exact .inr (fun k hk => Nat.le_trans hwz (h1 k hk))
  have hal : Bk (w1_.drew.alloc (.cells #[.int .i64 a1, .int .i64 a2, .int .i64 z1, .int .i64 z2] 85)) t 61 #[.int .i64 a1, .int .i64 a2, .int .i64 v1, .int .i64 v2, .bool true, .slice A m c] := T1.out.draw.bk.past _
  have hax : Bk (w1_.drew.alloc (.cells #[.int .i64 a1, .int .i64 a2, .int .i64 z1, .int .i64 z2] 85)) w.heap.size 58 #[.int .i64 z1, .int .i64 z2] := kb1.draw.past _
  have hput5 := hb3.put 5 (.slice A' (m + 1) c')
  have hx5 := hx3.other (p := ⟨t, 5, none⟩) (fun e => by have := htg.out; simp only at e; omega) (.slice A' (m + 1) c')
  have S0 : (w1_.drew.cell? ⟨t, 0, none⟩ = some (.int .i64 a1) ∧ w1_.drew.cell? ⟨t, 1, none⟩ = some (.int .i64 a2)) ∧ w1_.drew.cell? ⟨w.heap.size, 0, none⟩ = some (.int .i64 z1) ∧ w1_.drew.cell? ⟨w.heap.size, 1, none⟩ = some (.int .i64 z2) := ⟨⟨T1.out.draw.bk.cell 0, T1.out.draw.bk.cell 1⟩, kb1.draw.cell 0, kb1.draw.cell 1⟩
  have S1 := And.intro (And.intro (hal.cell 0) (hal.cell 1)) (And.intro (hax.cell 0) (hax.cell 1))
  have S2 := And.intro (And.intro (hb3.cell 0) (hb3.cell 1)) (And.intro (hx3.cell 0) (hx3.cell 1))
  have S3 := And.intro (And.intro (hput5.cell 0) (hput5.cell 1)) (And.intro (hx5.cell 0) (hx5.cell 1))
  have c5d : w1_.drew.cell? ⟨t, 5, none⟩ = some (.slice A m c) := T1.out.draw.bk.cell 5
  have c5a := hal.cell 5
  have c5b : (w1_.alloc (.cells #[.int .i64 a1, .int .i64 a2, .int .i64 z1, .int .i64 z2] 85)).cell? ⟨t, 5, none⟩ = some (.slice A m c) := (T1.out.bk.past _).cell 5
  have f52 := hb3.free 5
  have c52 := hb3.cell 5
  have f02 := hput5.free 0
  have f12 := hput5.free 1
  simp at S1 S2 S3 c5a c52
  replace hfin := Lib.hid hfin
  replace hT2 := Lib.hid hT2
  replace hnew2 := Lib.hid hnew2
  replace hrun := Lib.hid hrun
  clear hal hax hput5 hx5 hO hO2 hrt hB3 hx3 hb3 hnew hgr hown hwz
  go_wp2_with (fail)
  clear c0 c1 c4 c5 k0 k1 f0 f1 f5
  refine wp_region_held_drew (S := fun W_ => (W_.cell? ⟨t, 0, none⟩ = some (.int .i64 a1) ∧ W_.cell? ⟨t, 1, none⟩ = some (.int .i64 a2)) ∧ W_.cell? ⟨w.heap.size, 0, none⟩ = some (.int .i64 z1) ∧ W_.cell? ⟨w.heap.size, 1, none⟩ = some (.int .i64 z2)) (by kernel_rfl) S0 (fun hHeld => ?_)
  refine wpAnyH_take (i := 0) (oi := { dst := some 63, op := _, type := _, pos := _, after := _, guard := _ }) (v := ?_) rfl (by kernel_rfl) (by kernel_rfl) (by kernel_rfl) (fun _ _ _ h => h) (Or.inl ⟨by rfl, ?_⟩) (by assumption) ?_
  rotate_left
  focus ((intro w hSw; (try dsimp only at hSw); go_simp; (try (with_reducible rfl))))
  try simp only [Act.put, List.setIfInBounds_toArray, List.set_cons_zero, List.set_cons_succ]
  refine wpAnyH_take (i := 1) (oi := { dst := some 64, op := _, type := _, pos := _, after := _, guard := _ }) (v := ?_) rfl (by kernel_rfl) (by kernel_rfl) (by kernel_rfl) (fun _ _ _ h => h) (Or.inl ⟨by rfl, ?_⟩) (by assumption) ?_
  rotate_left
  focus ((intro w hSw; (try dsimp only at hSw); go_simp; (try (with_reducible rfl))))
  try simp only [Act.put, List.setIfInBounds_toArray, List.set_cons_zero, List.set_cons_succ]
  refine wpAnyH_take (i := 2) (oi := { dst := some 65, op := _, type := _, pos := _, after := _, guard := _ }) (v := ?_) rfl (by kernel_rfl) (by kernel_rfl) (by kernel_rfl) (fun _ _ _ h => h) (Or.inl ⟨by rfl, ?_⟩) (by assumption) ?_
  rotate_left
  focus ((intro w hSw; (try dsimp only at hSw); go_simp; (try (with_reducible rfl))))
  try simp only [Act.put, List.setIfInBounds_toArray, List.set_cons_zero, List.set_cons_succ]
  refine wpAnyH_take (i := 3) (oi := { dst := some 66, op := _, type := _, pos := _, after := _, guard := _ }) (v := ?_) rfl (by kernel_rfl) (by kernel_rfl) (by kernel_rfl) (fun _ _ _ h => h) (Or.inl ⟨by rfl, ?_⟩) (by assumption) ?_
  rotate_left
  focus ((intro w hSw; (try dsimp only at hSw); go_simp; (try (with_reducible rfl))))
  try simp only [Act.put, List.setIfInBounds_toArray, List.set_cons_zero, List.set_cons_succ]
  refine wpAnyH_take (i := 5) (oi := { dst := some 68, op := _, type := _, pos := _, after := _, guard := _ }) (v := ?_) rfl (by kernel_rfl) (by kernel_rfl) (by kernel_rfl) (fun _ _ _ h => h) (Or.inl ⟨by rfl, ?_⟩) (by assumption) ?_
  rotate_left
  focus ((intro w hSw; (try dsimp only at hSw); go_simp; (try (with_reducible rfl))))
  try simp only [Act.put, List.setIfInBounds_toArray, List.set_cons_zero, List.set_cons_succ]
  refine wpAnyH_take (i := 6) (oi := { dst := some 69, op := _, type := _, pos := _, after := _, guard := _ }) (v := ?_) rfl (by kernel_rfl) (by kernel_rfl) (by kernel_rfl) (fun _ _ _ h => h) (Or.inl ⟨by rfl, ?_⟩) (by assumption) ?_
  rotate_left
  focus ((intro w hSw; (try dsimp only at hSw); go_simp; (try (with_reducible rfl))))
  try simp only [Act.put, List.setIfInBounds_toArray, List.set_cons_zero, List.set_cons_succ]
  refine wpAnyH_take (i := 7) (oi := { dst := some 70, op := _, type := _, pos := _, after := _, guard := _ }) (v := ?_) rfl (by kernel_rfl) (by kernel_rfl) (by kernel_rfl) (fun _ _ _ h => h) (Or.inl ⟨by rfl, ?_⟩) (by assumption) ?_
  rotate_left
  focus ((intro w hSw; (try dsimp only at hSw); go_simp; (try (with_reducible rfl))))
  try simp only [Act.put, List.setIfInBounds_toArray, List.set_cons_zero, List.set_cons_succ]
  refine wpAnyH_take (i := 8) (oi := { dst := some 71, op := _, type := _, pos := _, after := _, guard := _ }) (v := ?_) rfl (by kernel_rfl) (by kernel_rfl) (by kernel_rfl) (fun _ _ _ h => h) (Or.inl ⟨by rfl, ?_⟩) (by assumption) ?_
  rotate_left
  focus ((intro w hSw; (try dsimp only at hSw); go_simp; (try (with_reducible rfl))))
  try simp only [Act.put, List.setIfInBounds_toArray, List.set_cons_zero, List.set_cons_succ]
  refine wpAnyH_take (i := 9) (oi := { dst := some 72, op := _, type := _, pos := _, after := _, guard := _ }) (v := ?_) rfl (by kernel_rfl) (by kernel_rfl) (by kernel_rfl) (fun _ _ _ h => h) (Or.inl ⟨by rfl, ?_⟩) (by assumption) ?_
  rotate_left
  focus ((intro w hSw; (try dsimp only at hSw); go_simp; (try (with_reducible rfl))))
  try simp only [Act.put, List.setIfInBounds_toArray, List.set_cons_zero, List.set_cons_succ]
  refine wpAnyH_take (i := 10) (oi := { dst := some 73, op := _, type := _, pos := _, after := _, guard := _ }) (v := ?_) rfl (by kernel_rfl) (by kernel_rfl) (by kernel_rfl) (fun _ _ _ h => h) (Or.inl ⟨by rfl, ?_⟩) (by assumption) ?_
  rotate_left
  focus ((intro w hSw; (try dsimp only at hSw); go_simp; (try (with_reducible rfl))))
  try simp only [Act.put, List.setIfInBounds_toArray, List.set_cons_zero, List.set_cons_succ]
  clear hHeld
  refine wpAnyH_ready (rs := [4, 11]) (by kernel_rfl) (by simp) ?_
  refine AllReadyH.cons (o := { dst := some 67, op := _, type := _, pos := _, after := _, guard := _ }) rfl (fun K hK => ?_) (AllReadyH.cons (o := { dst := some 74, op := _, type := _, pos := _, after := _, guard := _ }) rfl (fun K hK => ?_) AllReadyH.nil)
  · have z := hK
    go_simp
    refine hK _ _ S0 (fun hHeld => ?_)
    clear hK K hHeld z
    try simp only [Act.put, List.setIfInBounds_toArray, List.set_cons_zero, List.set_cons_succ]
    refine wpAnyH_ready (rs := [11]) (by kernel_rfl) (by simp) ?_
    refine AllReadyH.cons (o := { dst := some 74, op := _, type := _, pos := _, after := _, guard := _ }) rfl (fun K hK => ?_) AllReadyH.nil
    go_simp
    refine hK _ _ S1 (fun hHeld => ?_)
    clear hK K hHeld
    try simp only [Act.put, List.setIfInBounds_toArray, List.set_cons_zero, List.set_cons_succ]
    refine wpAnyH_ready (rs := [12]) (by kernel_rfl) (by simp) ?_
    refine AllReadyH.cons (o := { dst := some 75, op := _, type := _, pos := _, after := _, guard := _ }) rfl (fun K hK => ?_) AllReadyH.nil
    refine step_append_run rfl (.tmp 67) (.tmp 74) 25 rfl (.slice A m c) _ _ rfl rfl hrun.out ?_
    refine hK _ _ S2 (fun hHeld => ?_)
    clear hK K
    try simp only [Act.put, List.setIfInBounds_toArray, List.set_cons_zero, List.set_cons_succ]
    refine wpAnyH_take (i := 13) (oi := { dst := some 76, op := _, type := _, pos := _, after := _, guard := _ }) (v := ?_) rfl (by kernel_rfl) (by kernel_rfl) (by kernel_rfl) (fun _ _ _ h => h) (Or.inl ⟨by rfl, ?_⟩) (by assumption) ?_
    rotate_left
    focus ((intro w hSw; (try dsimp only at hSw); go_simp; (try (with_reducible rfl))))
    try simp only [Act.put, List.setIfInBounds_toArray, List.set_cons_zero, List.set_cons_succ]
    refine wpAnyH_take (i := 14) (oi := { dst := some 77, op := _, type := _, pos := _, after := _, guard := _ }) (v := ?_) rfl (by kernel_rfl) (by kernel_rfl) (by kernel_rfl) (fun _ _ _ h => h) (Or.inl ⟨by rfl, ?_⟩) (by assumption) ?_
    rotate_left
    focus ((intro w hSw; (try dsimp only at hSw); go_simp; (try (with_reducible rfl))))
    try simp only [Act.put, List.setIfInBounds_toArray, List.set_cons_zero, List.set_cons_succ]
    clear hHeld
    refine wpAnyH_ready (rs := [15]) (by kernel_rfl) (by simp) ?_
    refine AllReadyH.cons (o := { dst := none, op := _, type := _, pos := _, after := _, guard := _ }) rfl (fun K hK => ?_) AllReadyH.nil
    go_simp
    refine hK _ _ S3 (fun hHeld => ?_)
    clear hK K hHeld
    try simp only [Act.put, List.setIfInBounds_toArray, List.set_cons_zero, List.set_cons_succ]
    refine wpAnyH_done (by kernel_rfl) ?_ _
    go_wp2_with (fail)
    go_returns
    exact ⟨rfl, _, hfin.out, hT2.out, hnew2.out⟩
  · have z := hK
    go_simp
    refine hK _ _ S1 (fun hHeld => ?_)
    clear hK K hHeld z
    try simp only [Act.put, List.setIfInBounds_toArray, List.set_cons_zero, List.set_cons_succ]
    refine wpAnyH_ready (rs := [4]) (by kernel_rfl) (by simp) ?_
    refine AllReadyH.cons (o := { dst := some 67, op := _, type := _, pos := _, after := _, guard := _ }) rfl (fun K hK => ?_) AllReadyH.nil
    go_simp
    refine hK _ _ S1 (fun hHeld => ?_)
    clear hK K hHeld
    try simp only [Act.put, List.setIfInBounds_toArray, List.set_cons_zero, List.set_cons_succ]
    refine wpAnyH_ready (rs := [12]) (by kernel_rfl) (by simp) ?_
    refine AllReadyH.cons (o := { dst := some 75, op := _, type := _, pos := _, after := _, guard := _ }) rfl (fun K hK => ?_) AllReadyH.nil
    refine step_append_run rfl (.tmp 67) (.tmp 74) 25 rfl (.slice A m c) _ _ rfl rfl hrun.out ?_
    refine hK _ _ S2 (fun hHeld => ?_)
    clear hK K
    try simp only [Act.put, List.setIfInBounds_toArray, List.set_cons_zero, List.set_cons_succ]
    refine wpAnyH_take (i := 13) (oi := { dst := some 76, op := _, type := _, pos := _, after := _, guard := _ }) (v := ?_) rfl (by kernel_rfl) (by kernel_rfl) (by kernel_rfl) (fun _ _ _ h => h) (Or.inl ⟨by rfl, ?_⟩) (by assumption) ?_
    rotate_left
    focus ((intro w hSw; (try dsimp only at hSw); go_simp; (try (with_reducible rfl))))
    try simp only [Act.put, List.setIfInBounds_toArray, List.set_cons_zero, List.set_cons_succ]
    refine wpAnyH_take (i := 14) (oi := { dst := some 77, op := _, type := _, pos := _, after := _, guard := _ }) (v := ?_) rfl (by kernel_rfl) (by kernel_rfl) (by kernel_rfl) (fun _ _ _ h => h) (Or.inl ⟨by rfl, ?_⟩) (by assumption) ?_
    rotate_left
    focus ((intro w hSw; (try dsimp only at hSw); go_simp; (try (with_reducible rfl))))
    try simp only [Act.put, List.setIfInBounds_toArray, List.set_cons_zero, List.set_cons_succ]
    clear hHeld
    refine wpAnyH_ready (rs := [15]) (by kernel_rfl) (by simp) ?_
    refine AllReadyH.cons (o := { dst := none, op := _, type := _, pos := _, after := _, guard := _ }) rfl (fun K hK => ?_) AllReadyH.nil
    go_simp
    refine hK _ _ S3 (fun hHeld => ?_)
    clear hK K hHeld
    try simp only [Act.put, List.setIfInBounds_toArray, List.set_cons_zero, List.set_cons_succ]
    refine wpAnyH_done (by kernel_rfl) ?_ _
    go_wp2_with (fail)
    go_returns
    exact ⟨rfl, _, hfin.out, hT2.out, hnew2.out⟩
end
end Go.Proofs.YtndgcndmkfjdgaaDoor
