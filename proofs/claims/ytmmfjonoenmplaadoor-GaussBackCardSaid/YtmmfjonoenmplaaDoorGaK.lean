import Derived.Test.YtmmfjonoenmplaaDoorGaJ
import Derived.Test.YtmmfjonoenmplaaDoorShelf
import Derived.Lib.AppendIntMem
import Derived.Lib.ItoaLen
import Derived.Laws.Concat
namespace Go.Proofs.YtmmfjonoenmplaaDoor
open Go.RowKit Go.Extern.Stop Go.Stop Go.Extern
set_option linter.unusedVariables false
set_option linter.unusedSimpArgs false
/-! gauss.Print; the chapter's examples -/
def Tab (w : World) : Prop := Lib.TabIs Tryd.prog w "internal/strconv.uint64pow10" .u64 Lib.pow10Tab
theorem Tab.bel {w w' : World} (h : Tab w) (hb : Below w.heap.size w w') : Tab w' := Lib.tabBelow_of_tabIs h w' hb
theorem itoa_any (n : Int) (h0 : -9223372036854775808 ≤ n) (h1 : n ≤ 9223372036854775807) (w : World) (hT : Tab w) : Calls Tryd.prog 56 #[.int .i64 n] w fun e w' => e = .returned (.string ⟨(Lib.itoa n).toArray⟩) ∧ Below w.heap.size w w' := by
  refine (Tryd.strconv_Itoa n h0 h1 w hT).mono ?_
  rintro e w' ⟨rfl, k, os, rfl⟩
  refine ⟨rfl, rfl, rfl, rfl, ?_, ?_⟩
  · show w.heap.size ≤ ((w.drewN k).heap ++ os).size
    rw [Array.size_append]; exact Nat.le_add_right _ _
  · intro i hi
    show ((w.drewN k).heap ++ os)[i]? = w.heap[i]?
    exact Array.getElem?_append_left hi
def printL (a : Int × Int) : List UInt8 :=
  if a.2 = 0 then Lib.itoa a.1
  else if a.1 = 0 then Lib.itoa a.2 ++ [105]
  else if 0 < a.2 then Lib.itoa a.1 ++ [43] ++ Lib.itoa a.2 ++ [105]
  else Lib.itoa a.1 ++ Lib.itoa a.2 ++ [105]
theorem cat_run (l m : List UInt8) (hl : l.length ≤ 1000) (hm : m.length ≤ 1000) (w : World) : (Op.stringOp .add ⟨l.toArray⟩ ⟨m.toArray⟩).run Tryd.prog w = .ok (.string ⟨(l ++ m).toArray⟩) w := by
  rw [run_string_add_sum w ⟨l.toArray⟩ ⟨m.toArray⟩ (by show l.length + m.length ≤ _; omega)]
  congr 2
set_option maxRecDepth 100000 in
theorem print_ok (x : Nat × Nat) (a : Int × Int) (hx : Nm x a) (ha : Sm a 16777216) (w : World) (hT : Tab w) : Calls Tryd.prog 42 #[.complex .f64 x.1 x.2] w fun e w' => e = .returned (.tuple #[.string ⟨(printL a).toArray⟩, .int .i64 0]) ∧ Below w.heap.size w w' := by
  have hp := Lib.hid (fun w => parts_ok x a hx ha w)
  obtain ⟨a1, a2⟩ := a
  obtain ⟨h1, h2, h3, h4⟩ := ha
  simp only at h1 h2 h3 h4 hp
  have i1 := Lib.hid (fun w (hT : Tab w) => itoa_any a1 (by omega) (by omega) w hT)
  have i2 := Lib.hid (fun w (hT : Tab w) => itoa_any a2 (by omega) (by omega) w hT)
  have l1 := Lib.itoa_length_le a1 (by omega) (by omega)
  have l2 := Lib.itoa_length_le a2 (by omega) (by omega)
  replace hT := Lib.hid hT
  have hB := Lib.hid (Below.refl w.heap.size w)
  unfold printL
  simp only
  obtain ⟨t1, e1⟩ : ∃ t, Lib.itoa a1 = t := ⟨_, rfl⟩
  obtain ⟨t2, e2⟩ : ∃ t, Lib.itoa a2 = t := ⟨_, rfl⟩
  simp only [e1] at i1 l1 ⊢
  simp only [e2] at i2 l2 ⊢
  have c1 := cat_run t2 [105] (by omega) (by simp)
  have c2 := cat_run t1 [43] (by omega) (by simp)
  have c3 := cat_run (t1 ++ [43]) t2 (by simp; omega) (by omega)
  have c4 := cat_run (t1 ++ [43] ++ t2) [105] (by simp; omega) (by simp)
  have c5 := cat_run t1 t2 (by omega) (by omega)
  have c6 := cat_run (t1 ++ t2) [105] (by simp; omega) (by simp)
  obtain ⟨s1, g1⟩ : ∃ s : ByteArray, ⟨t1.toArray⟩ = s := ⟨_, rfl⟩
  obtain ⟨s2, g2⟩ : ∃ s : ByteArray, ⟨t2.toArray⟩ = s := ⟨_, rfl⟩
  obtain ⟨s3, g3⟩ : ∃ s : ByteArray, ⟨(t2 ++ [105]).toArray⟩ = s := ⟨_, rfl⟩
  obtain ⟨s4, g4⟩ : ∃ s : ByteArray, ⟨(t1 ++ [43]).toArray⟩ = s := ⟨_, rfl⟩
  obtain ⟨s5, g5⟩ : ∃ s : ByteArray, ⟨(t1 ++ [43] ++ t2).toArray⟩ = s := ⟨_, rfl⟩
  obtain ⟨s6, g6⟩ : ∃ s : ByteArray, ⟨(t1 ++ [43] ++ t2 ++ [105]).toArray⟩ = s := ⟨_, rfl⟩
  obtain ⟨s7, g7⟩ : ∃ s : ByteArray, ⟨(t1 ++ t2).toArray⟩ = s := ⟨_, rfl⟩
  obtain ⟨s8, g8⟩ : ∃ s : ByteArray, ⟨(t1 ++ t2 ++ [105]).toArray⟩ = s := ⟨_, rfl⟩
  have k1 : (ByteArray.mk [105].toArray) = ⟨#[105]⟩ := rfl
  have k2 : (ByteArray.mk [43].toArray) = ⟨#[43]⟩ := rfl
  rw [k1, g2, g3] at c1
  rw [k2, g1, g4] at c2
  rw [g4, g2, g5] at c3
  rw [k1, g5, g6] at c4
  rw [g1, g2, g7] at c5
  rw [k1, g7, g8] at c6
  simp only [g1] at i1
  simp only [g2] at i2
  have hfin : Hid (∀ l : List UInt8, True) := Lib.hid fun _ => trivial
  have G := Lib.hid (⟨g1, g3, g6, g8⟩ : (⟨t1.toArray⟩ : ByteArray) = s1 ∧ (⟨(t2 ++ [105]).toArray⟩ : ByteArray) = s3 ∧ (⟨(t1 ++ [43] ++ t2 ++ [105]).toArray⟩ : ByteArray) = s6 ∧ (⟨(t1 ++ t2 ++ [105]).toArray⟩ : ByteArray) = s8)
  clear g1 g2 g3 g4 g5 g6 g7 g8 k1 k2 e1 e2 l1 l2 hx hfin
  by_cases z2 : a2 = 0
  · rw [if_pos z2, G.out.1]
    have z2b : (a2 == 0) = true := by simpa using z2
    clear z2
    go_enter Tryd.func42, Tryd.ntmps42
    go_wp2_with (fail)
    refine (hp.out _).mono ?_
    rintro e w1 ⟨rfl, n, hn_⟩
    have hB := Lib.hid (by rw [hn_]; exact hB.out.trans ⟨rfl, rfl, rfl, Nat.le_refl _, fun _ _ => rfl⟩ : Below w.heap.size w w1)
    clear hn_
    go_wp2_with (fail)
    refine (i1.out _ (hT.out.bel hB.out)).mono ?_
    rintro e w2 ⟨rfl, hb⟩
    replace hB := Lib.hid (hB.out.trans (hb.mono hB.out.size))
    clear hb
    go_wp2_with (fail)
    go_returns
    exact ⟨rfl, hB.out⟩
  · rw [if_neg z2]
    have z2b : (a2 == 0) = false := by simpa using z2
    clear z2
    by_cases z1 : a1 = 0
    · rw [if_pos z1, G.out.2.1]
      have z1b : (a1 == 0) = true := by simpa using z1
      clear z1
      go_enter Tryd.func42, Tryd.ntmps42
      go_wp2_with (fail)
      refine (hp.out _).mono ?_
      rintro e w1 ⟨rfl, n, hn_⟩
      have hB := Lib.hid (by rw [hn_]; exact hB.out.trans ⟨rfl, rfl, rfl, Nat.le_refl _, fun _ _ => rfl⟩ : Below w.heap.size w w1)
      clear hn_
      go_wp2_with (fail)
      refine (i2.out _ (hT.out.bel hB.out)).mono ?_
      rintro e w2 ⟨rfl, hb⟩
      replace hB := Lib.hid (hB.out.trans (hb.mono hB.out.size))
      clear hb
      go_wp2_with (fail)
      go_returns
      exact ⟨rfl, hB.out⟩
    · rw [if_neg z1]
      have z1b : (a1 == 0) = false := by simpa using z1
      clear z1
      by_cases z3 : 0 < a2
      · rw [if_pos z3, G.out.2.2.1]
        go_enter Tryd.func42, Tryd.ntmps42
        go_wp2_with (fail)
        refine (hp.out _).mono ?_
        rintro e w1 ⟨rfl, n, hn_⟩
        have hB := Lib.hid (by rw [hn_]; exact hB.out.trans ⟨rfl, rfl, rfl, Nat.le_refl _, fun _ _ => rfl⟩ : Below w.heap.size w w1)
        clear hn_
        go_wp2_with (fail)
        refine (i1.out _ (hT.out.bel hB.out)).mono ?_
        rintro e w2 ⟨rfl, hb⟩
        replace hB := Lib.hid (hB.out.trans (hb.mono hB.out.size))
        clear hb
        go_wp2_with (fail)
        refine (i2.out _ (hT.out.bel hB.out)).mono ?_
        rintro e w3 ⟨rfl, hb⟩
        replace hB := Lib.hid (hB.out.trans (hb.mono hB.out.size))
        clear hb
        go_wp2_with (fail)
        go_returns
        exact ⟨rfl, hB.out⟩
      · rw [if_neg z3, G.out.2.2.2]
        go_enter Tryd.func42, Tryd.ntmps42
        go_wp2_with (fail)
        refine (hp.out _).mono ?_
        rintro e w1 ⟨rfl, n, hn_⟩
        have hB := Lib.hid (by rw [hn_]; exact hB.out.trans ⟨rfl, rfl, rfl, Nat.le_refl _, fun _ _ => rfl⟩ : Below w.heap.size w w1)
        clear hn_
        go_wp2_with (fail)
        refine (i1.out _ (hT.out.bel hB.out)).mono ?_
        rintro e w2 ⟨rfl, hb⟩
        replace hB := Lib.hid (hB.out.trans (hb.mono hB.out.size))
        clear hb
        go_wp2_with (fail)
        refine (i2.out _ (hT.out.bel hB.out)).mono ?_
        rintro e w3 ⟨rfl, hb⟩
        replace hB := Lib.hid (hB.out.trans (hb.mono hB.out.size))
        clear hb
        go_wp2_with (fail)
        go_returns
        exact ⟨rfl, hB.out⟩
set_option maxRecDepth 100000 in
theorem shown_any (w : World) (hT : Tab w) : Calls Tryd.prog 13 #[] w fun e w' => e = .returned (.bool true) ∧ Below w.heap.size w w' := by
  have c3 : Wd 4613937818241073152 3 := ⟨by decide, false, by decide +kernel, by decide⟩
  have c4 : Wd 4616189618054758400 4 := ⟨by decide, false, by decide +kernel, by decide⟩
  have c2 : Wd 4611686018427387904 2 := ⟨by decide, false, by decide +kernel, by decide⟩
  have c11 : Wd 4622382067542392832 11 := ⟨by decide, false, by decide +kernel, by decide⟩
  have c7 : Wd 4619567317775286272 7 := ⟨by decide, false, by decide +kernel, by decide⟩
  have c8 : Wd 4620693217682128896 8 := ⟨by decide, false, by decide +kernel, by decide⟩
  have cm2 : Wd 13835058055282163712 (-2) := ⟨by decide, true, by decide +kernel, by decide⟩
  have cm4 : Wd 13839561654909534208 (-4) := ⟨by decide, true, by decide +kernel, by decide⟩
  have m := Lib.hid (fun w => mul_ok (4613937818241073152, 4616189618054758400) (4607182418800017408, 13835058055282163712) (3, 4) (1, -2) ⟨c3, c4⟩ ⟨wd_pos1, cm2⟩ (by unfold Sm; decide) (by unfold Sm; decide) w)
  have g := Lib.hid (fun w => gcd_ok (4622382067542392832, 4613937818241073152) (4607182418800017408, 4620693217682128896) (11, 3) (1, 8) ⟨c11, c3⟩ ⟨wd_pos1, c8⟩ (by unfold Sm; decide) (by unfold Sm; decide) w)
  have d := Lib.hid (fun w => div_ok (4619567317775286272, 4613937818241073152) (4611686018427387904, 4607182418800017408) (7, 3) (2, 1) ⟨c7, c3⟩ ⟨c2, wd_pos1⟩ (by unfold Sm; decide) (by unfold Sm; decide) (by decide) w)
  have p := Lib.hid (fun w (hT : Tab w) => print_ok (4613937818241073152, 13839561654909534208) (3, -4) ⟨c3, cm4⟩ (by unfold Sm; decide) w hT)
  have em : res (mulZ (3, 4) (1, -2)) = .tuple #[.complex .f64 4622382067542392832 13835058055282163712, .int .i64 0] := by kernel_rfl
  have eg : cw (firstZ (gcdZ (11, 3) (1, 8))) = .complex .f64 4611686018427387904 4607182418800017408 := by kernel_rfl
  have ed1 : cw (divQ (7, 3) (2, 1)) = .complex .f64 4613937818241073152 0 := by kernel_rfl
  have ed2 : cw (divR (7, 3) (2, 1)) = .complex .f64 4607182418800017408 0 := by kernel_rfl
  have ep : (printL (3, -4)).toArray = #[51, 45, 52, 105] := by decide +kernel
  simp only [em] at m
  simp only [eg] at g
  simp only [ed1, ed2] at d
  simp only [ep] at p
  have o1 : (FloatKind.f64.format.order 4622382067542392832 4622382067542392832 == some .eq) = true := by decide +kernel
  have o2 : (FloatKind.f64.format.order 13835058055282163712 13835058055282163712 == some .eq) = true := by decide +kernel
  have o3 : (FloatKind.f64.format.order 4611686018427387904 4611686018427387904 == some .eq) = true := by decide +kernel
  have o4 : (FloatKind.f64.format.order 4607182418800017408 4607182418800017408 == some .eq) = true := by decide +kernel
  have o5 : (FloatKind.f64.format.order 4613937818241073152 4613937818241073152 == some .eq) = true := by decide +kernel
  have o6 : (FloatKind.f64.format.order 0 0 == some .eq) = true := by decide +kernel
  replace hT := Lib.hid hT
  clear c3 c4 c2 c11 c7 c8 cm2 cm4 em eg ed1 ed2 ep
  go_enter Tryd.func13, Tryd.ntmps13
  go_wp2_with (fail)
  refine (m.out _).mono ?_
  rintro e w1 ⟨rfl, hb⟩
  have hB := Lib.hid hb
  clear hb
  go_wp2_with (fail)
  refine (g.out _).mono ?_
  rintro e w2 ⟨rfl, hb⟩
  replace hB := Lib.hid (hB.out.trans (hb.mono hB.out.size))
  clear hb
  go_wp2_with (fail)
  refine (d.out _).mono ?_
  rintro e w3 ⟨rfl, hb⟩
  replace hB := Lib.hid (hB.out.trans (hb.mono hB.out.size))
  clear hb
  go_wp2_with (fail)
  refine (p.out _ (hT.out.bel hB.out)).mono ?_
  rintro e w4 ⟨rfl, hb⟩
  replace hB := Lib.hid (hB.out.trans (hb.mono hB.out.size))
  clear hb
  go_wp2_with (fail)
  go_returns
  exact ⟨rfl, hB.out⟩
end Go.Proofs.YtmmfjonoenmplaaDoor
