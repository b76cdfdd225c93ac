import Derived.Test.YtpbloennjcjgoaaDoorResC
import Derived.Test.YtpbloennjcjgoaaDoorResE
import Derived.Deep.RegionHeld3
import Derived.Deep.DeepCutAuto
namespace Go.Proofs.YtpbloennjcjgoaaDoor
open Go.RowKit
set_option linter.unusedVariables false
set_option linter.unusedSimpArgs false
theorem carry5 {W W' : World} {b o : Nat} {v : Value} (h : Below W.heap.size W W') (hz : b < W.heap.size) (hc : W.cell? ⟨b, o, none⟩ = some v) : W'.cell? ⟨b, o, none⟩ = some v := (h.cell (p := ⟨b, o, none⟩) hz).trans hc
set_option maxHeartbeats 1000000 in
set_option maxRecDepth 100000 in
theorem rprint_no (st da re : ByteArray) (h l : Int) (w : World) (hf : ¬ Fit st da re) (h1 : st.size ≤ maxLen) (h2 : da.size ≤ maxLen) (h3 : re.size ≤ maxLen) :
    Calls Tryd.prog 11 #[stateV st da re h l] w fun e w' => e = .returned (.tuple #[.string ByteArray.empty, .bool false]) ∧ Below w.heap.size w w' := by
  unfold stateV
  have g1 : st.size ≤ 9223372036854775807 := h1
  have g2 : da.size ≤ 9223372036854775807 := h2
  have g3 : re.size ≤ 9223372036854775807 := h3
  by_cases c1 : st.size ≤ 65536
  · have i1 : ¬ 65536 < (st.size : Int) := by omega
    by_cases c2 : da.size ≤ 4096
    · have i2 : ¬ 4096 < (da.size : Int) := by omega
      have i3 : 4096 < (re.size : Int) := by
        have : ¬ re.size ≤ 4096 := fun c3 => hf ⟨c1, c2, c3⟩
        omega
      go_enter Tryd.func11, Tryd.ntmps11
      go_wp2
      go_returns
      exact ⟨rfl, (Below.refl _ _).alloc (Nat.le_refl _) _⟩
    · have i2 : 4096 < (da.size : Int) := by omega
      go_enter Tryd.func11, Tryd.ntmps11
      go_wp2
      go_returns
      exact ⟨rfl, (Below.refl _ _).alloc (Nat.le_refl _) _⟩
  · have i1 : 65536 < (st.size : Int) := by omega
    go_enter Tryd.func11, Tryd.ntmps11
    go_wp2
    go_returns
    exact ⟨rfl, (Below.refl _ _).alloc (Nat.le_refl _) _⟩
theorem rnumber_of (x : Int) (w : World) : Calls Tryd.prog 36 #[.int .u64 (IntKind.u64.wrap x)] w fun e w' => e = .returned (.string ⟨(le8 (cN x)).toArray⟩) ∧ Below w.heap.size w w' := by
  rw [cN_is x]
  exact rnumber_any (cN x) w (cN_lt x)
theorem rnumber_is (x : Nat) (w : World) (hx : x < 18446744073709551616) : Calls Tryd.prog 36 #[.int .u64 (x : Int)] w fun e w' => e = .returned (.string ⟨(le8 (cN x)).toArray⟩) ∧ Below w.heap.size w w' := by
  rw [cN_nat x hx]
  exact rnumber_any x w hx
theorem body_eq (st da re : ByteArray) (h l : Int) (h1 : st.size < 18446744073709551616) (h2 : da.size < 18446744073709551616) (h3 : re.size < 18446744073709551616) :
    ((⟨#[80, 82, 83, 49]⟩ : ByteArray) ++ ⟨(le8 (cN st.size)).toArray⟩ ++ ⟨(le8 (cN da.size)).toArray⟩ ++ ⟨(le8 (cN re.size)).toArray⟩ ++ ⟨(le8 (cN h)).toArray⟩ ++ ⟨(le8 (cN l)).toArray⟩ ++ st ++ da ++ re) = ⟨(bodyL st da re h l).toArray⟩ := by
  rw [cN_nat _ h1, cN_nat _ h2, cN_nat _ h3]
  apply ByteArray.ext
  unfold bodyL heads mark4
  simp
set_option maxHeartbeats 40000000 in
set_option maxRecDepth 100000 in
theorem rprint_yes (st da re : ByteArray) (h l : Int) (w : World) (hf : Fit st da re) :
    Calls Tryd.prog 11 #[stateV st da re h l] w fun e w' => e = .returned (.tuple #[.string ⟨(printL st da re h l).toArray⟩, .bool true]) ∧ Below w.heap.size w w' := by
  obtain ⟨g1, g2, g3⟩ := hf
  unfold stateV
  have i1 : ¬ 65536 < (st.size : Int) := by omega
  have i2 : ¬ 4096 < (da.size : Int) := by omega
  have i3 : ¬ 4096 < (re.size : Int) := by omega
  go_enter Tryd.func11, Tryd.ntmps11
  go_upto_region 3 with (fail)
  go_cut [4] (fun t wx => ∃ X, t = .string X ∧ X = ⟨(bodyL st da re h l).toArray⟩ ∧ Below w.heap.size w wx)
  case first =>
    have hK := Bk.fresh w 30 #[.string st, .string da, .string re, .int .i64 h, .int .i64 l]
    have hB := (Below.refl w.heap.size w).alloc (Nat.le_refl _) (.cells #[.string st, .string da, .string re, .int .i64 h, .int .i64 l] 30)
    have hz : w.heap.size < (w.alloc (.cells #[.string st, .string da, .string re, .int .i64 h, .int .i64 l] 30)).heap.size := by simp
    obtain ⟨w1, hw1⟩ : ∃ w1, w.alloc (.cells #[.string st, .string da, .string re, .int .i64 h, .int .i64 l] 30) = w1 := ⟨_, rfl⟩
    rw [hw1] at hK hB hz ⊢
    clear hw1
    have c0 : w1.cell? ⟨w.heap.size, 0, none⟩ = some (.string st) := hK.cell 0
    have c1 : w1.cell? ⟨w.heap.size, 1, none⟩ = some (.string da) := hK.cell 1
    have c2 : w1.cell? ⟨w.heap.size, 2, none⟩ = some (.string re) := hK.cell 2
    have c3 : w1.cell? ⟨w.heap.size, 3, none⟩ = some (.int .i64 h) := hK.cell 3
    have c4 : w1.cell? ⟨w.heap.size, 4, none⟩ = some (.int .i64 l) := hK.cell 4
    clear hK
    have h8 : ∀ x, (ByteArray.mk (le8 x).toArray).size = 8 := fun x => rfl
    have n1 : ¬ 9223372036854775807 < 44 + st.size := by omega
    have n2 : ¬ 9223372036854775807 < 44 + st.size + da.size := by omega
    have n3 : ¬ 9223372036854775807 < 44 + st.size + da.size + re.size := by omega
    go_region_held3 (fun w' => w'.cell? ⟨w.heap.size, 0, none⟩ = some (.string st) ∧ w'.cell? ⟨w.heap.size, 1, none⟩ = some (.string da) ∧ w'.cell? ⟨w.heap.size, 2, none⟩ = some (.string re) ∧ w'.cell? ⟨w.heap.size, 3, none⟩ = some (.int .i64 h) ∧ w'.cell? ⟨w.heap.size, 4, none⟩ = some (.int .i64 l)) ((simp [go_sem, *]))
      (first
        | (go_at_call 36; (with_reducible refine (rnumber_of (st.size : Int) _).mono ?_); rintro e w2 ⟨rfl, hb1⟩; have hz1 : w.heap.size < w2.heap.size := (by have := hb1.size; (try simp only [World.size_drew] at this); omega); have hB1 : Below w.heap.size w w2 := Below.trans (by first | assumption | (refine Below.drew ?_; assumption)) (hb1.mono (by first | omega | (simp only [World.size_drew]; omega))); have kS : w2.cell? ⟨w.heap.size, 0, none⟩ = some (.string st) ∧ w2.cell? ⟨w.heap.size, 1, none⟩ = some (.string da) ∧ w2.cell? ⟨w.heap.size, 2, none⟩ = some (.string re) ∧ w2.cell? ⟨w.heap.size, 3, none⟩ = some (.int .i64 h) ∧ w2.cell? ⟨w.heap.size, 4, none⟩ = some (.int .i64 l) := by (refine ⟨?_, ?_, ?_, ?_, ?_⟩ <;> (refine carry5 hb1 (by first | omega | (simp only [World.size_drew]; omega)) ?_; simp [go_sem, *])))
        | (go_at_call 36; (with_reducible refine (rnumber_of (da.size : Int) _).mono ?_); rintro e w2 ⟨rfl, hb1⟩; have hz1 : w.heap.size < w2.heap.size := (by have := hb1.size; (try simp only [World.size_drew] at this); omega); have hB1 : Below w.heap.size w w2 := Below.trans (by first | assumption | (refine Below.drew ?_; assumption)) (hb1.mono (by first | omega | (simp only [World.size_drew]; omega))); have kS : w2.cell? ⟨w.heap.size, 0, none⟩ = some (.string st) ∧ w2.cell? ⟨w.heap.size, 1, none⟩ = some (.string da) ∧ w2.cell? ⟨w.heap.size, 2, none⟩ = some (.string re) ∧ w2.cell? ⟨w.heap.size, 3, none⟩ = some (.int .i64 h) ∧ w2.cell? ⟨w.heap.size, 4, none⟩ = some (.int .i64 l) := by (refine ⟨?_, ?_, ?_, ?_, ?_⟩ <;> (refine carry5 hb1 (by first | omega | (simp only [World.size_drew]; omega)) ?_; simp [go_sem, *])))
        | (go_at_call 36; (with_reducible refine (rnumber_of (re.size : Int) _).mono ?_); rintro e w2 ⟨rfl, hb1⟩; have hz1 : w.heap.size < w2.heap.size := (by have := hb1.size; (try simp only [World.size_drew] at this); omega); have hB1 : Below w.heap.size w w2 := Below.trans (by first | assumption | (refine Below.drew ?_; assumption)) (hb1.mono (by first | omega | (simp only [World.size_drew]; omega))); have kS : w2.cell? ⟨w.heap.size, 0, none⟩ = some (.string st) ∧ w2.cell? ⟨w.heap.size, 1, none⟩ = some (.string da) ∧ w2.cell? ⟨w.heap.size, 2, none⟩ = some (.string re) ∧ w2.cell? ⟨w.heap.size, 3, none⟩ = some (.int .i64 h) ∧ w2.cell? ⟨w.heap.size, 4, none⟩ = some (.int .i64 l) := by (refine ⟨?_, ?_, ?_, ?_, ?_⟩ <;> (refine carry5 hb1 (by first | omega | (simp only [World.size_drew]; omega)) ?_; simp [go_sem, *])))
        | (go_at_call 36; (with_reducible refine (rnumber_of h _).mono ?_); rintro e w2 ⟨rfl, hb1⟩; have hz1 : w.heap.size < w2.heap.size := (by have := hb1.size; (try simp only [World.size_drew] at this); omega); have hB1 : Below w.heap.size w w2 := Below.trans (by first | assumption | (refine Below.drew ?_; assumption)) (hb1.mono (by first | omega | (simp only [World.size_drew]; omega))); have kS : w2.cell? ⟨w.heap.size, 0, none⟩ = some (.string st) ∧ w2.cell? ⟨w.heap.size, 1, none⟩ = some (.string da) ∧ w2.cell? ⟨w.heap.size, 2, none⟩ = some (.string re) ∧ w2.cell? ⟨w.heap.size, 3, none⟩ = some (.int .i64 h) ∧ w2.cell? ⟨w.heap.size, 4, none⟩ = some (.int .i64 l) := by (refine ⟨?_, ?_, ?_, ?_, ?_⟩ <;> (refine carry5 hb1 (by first | omega | (simp only [World.size_drew]; omega)) ?_; simp [go_sem, *])))
        | (go_at_call 36; (with_reducible refine (rnumber_of l _).mono ?_); rintro e w2 ⟨rfl, hb1⟩; have hz1 : w.heap.size < w2.heap.size := (by have := hb1.size; (try simp only [World.size_drew] at this); omega); have hB1 : Below w.heap.size w w2 := Below.trans (by first | assumption | (refine Below.drew ?_; assumption)) (hb1.mono (by first | omega | (simp only [World.size_drew]; omega))); have kS : w2.cell? ⟨w.heap.size, 0, none⟩ = some (.string st) ∧ w2.cell? ⟨w.heap.size, 1, none⟩ = some (.string da) ∧ w2.cell? ⟨w.heap.size, 2, none⟩ = some (.string re) ∧ w2.cell? ⟨w.heap.size, 3, none⟩ = some (.int .i64 h) ∧ w2.cell? ⟨w.heap.size, 4, none⟩ = some (.int .i64 l) := by (refine ⟨?_, ?_, ?_, ?_, ?_⟩ <;> (refine carry5 hb1 (by first | omega | (simp only [World.size_drew]; omega)) ?_; simp [go_sem, *])))
        | (go_at_call 36; (with_reducible refine (rnumber_is st.size _ (by omega)).mono ?_); rintro e w2 ⟨rfl, hb1⟩; have hz1 : w.heap.size < w2.heap.size := (by have := hb1.size; (try simp only [World.size_drew] at this); omega); have hB1 : Below w.heap.size w w2 := Below.trans (by first | assumption | (refine Below.drew ?_; assumption)) (hb1.mono (by first | omega | (simp only [World.size_drew]; omega))); have kS : w2.cell? ⟨w.heap.size, 0, none⟩ = some (.string st) ∧ w2.cell? ⟨w.heap.size, 1, none⟩ = some (.string da) ∧ w2.cell? ⟨w.heap.size, 2, none⟩ = some (.string re) ∧ w2.cell? ⟨w.heap.size, 3, none⟩ = some (.int .i64 h) ∧ w2.cell? ⟨w.heap.size, 4, none⟩ = some (.int .i64 l) := by (refine ⟨?_, ?_, ?_, ?_, ?_⟩ <;> (refine carry5 hb1 (by first | omega | (simp only [World.size_drew]; omega)) ?_; simp [go_sem, *])))
        | (go_at_call 36; (with_reducible refine (rnumber_is da.size _ (by omega)).mono ?_); rintro e w2 ⟨rfl, hb1⟩; have hz1 : w.heap.size < w2.heap.size := (by have := hb1.size; (try simp only [World.size_drew] at this); omega); have hB1 : Below w.heap.size w w2 := Below.trans (by first | assumption | (refine Below.drew ?_; assumption)) (hb1.mono (by first | omega | (simp only [World.size_drew]; omega))); have kS : w2.cell? ⟨w.heap.size, 0, none⟩ = some (.string st) ∧ w2.cell? ⟨w.heap.size, 1, none⟩ = some (.string da) ∧ w2.cell? ⟨w.heap.size, 2, none⟩ = some (.string re) ∧ w2.cell? ⟨w.heap.size, 3, none⟩ = some (.int .i64 h) ∧ w2.cell? ⟨w.heap.size, 4, none⟩ = some (.int .i64 l) := by (refine ⟨?_, ?_, ?_, ?_, ?_⟩ <;> (refine carry5 hb1 (by first | omega | (simp only [World.size_drew]; omega)) ?_; simp [go_sem, *])))
        | (go_at_call 36; (with_reducible refine (rnumber_is re.size _ (by omega)).mono ?_); rintro e w2 ⟨rfl, hb1⟩; have hz1 : w.heap.size < w2.heap.size := (by have := hb1.size; (try simp only [World.size_drew] at this); omega); have hB1 : Below w.heap.size w w2 := Below.trans (by first | assumption | (refine Below.drew ?_; assumption)) (hb1.mono (by first | omega | (simp only [World.size_drew]; omega))); have kS : w2.cell? ⟨w.heap.size, 0, none⟩ = some (.string st) ∧ w2.cell? ⟨w.heap.size, 1, none⟩ = some (.string da) ∧ w2.cell? ⟨w.heap.size, 2, none⟩ = some (.string re) ∧ w2.cell? ⟨w.heap.size, 3, none⟩ = some (.int .i64 h) ∧ w2.cell? ⟨w.heap.size, 4, none⟩ = some (.int .i64 l) := by (refine ⟨?_, ?_, ?_, ?_, ?_⟩ <;> (refine carry5 hb1 (by first | omega | (simp only [World.size_drew]; omega)) ?_; simp [go_sem, *])))
        | (go_at_call 36; (with_reducible refine (rnumber_is (cN h) _ (cN_lt _)).mono ?_); rintro e w2 ⟨rfl, hb1⟩; have hz1 : w.heap.size < w2.heap.size := (by have := hb1.size; (try simp only [World.size_drew] at this); omega); have hB1 : Below w.heap.size w w2 := Below.trans (by first | assumption | (refine Below.drew ?_; assumption)) (hb1.mono (by first | omega | (simp only [World.size_drew]; omega))); have kS : w2.cell? ⟨w.heap.size, 0, none⟩ = some (.string st) ∧ w2.cell? ⟨w.heap.size, 1, none⟩ = some (.string da) ∧ w2.cell? ⟨w.heap.size, 2, none⟩ = some (.string re) ∧ w2.cell? ⟨w.heap.size, 3, none⟩ = some (.int .i64 h) ∧ w2.cell? ⟨w.heap.size, 4, none⟩ = some (.int .i64 l) := by (refine ⟨?_, ?_, ?_, ?_, ?_⟩ <;> (refine carry5 hb1 (by first | omega | (simp only [World.size_drew]; omega)) ?_; simp [go_sem, *])))
        | (go_at_call 36; (with_reducible refine (rnumber_is (cN l) _ (cN_lt _)).mono ?_); rintro e w2 ⟨rfl, hb1⟩; have hz1 : w.heap.size < w2.heap.size := (by have := hb1.size; (try simp only [World.size_drew] at this); omega); have hB1 : Below w.heap.size w w2 := Below.trans (by first | assumption | (refine Below.drew ?_; assumption)) (hb1.mono (by first | omega | (simp only [World.size_drew]; omega))); have kS : w2.cell? ⟨w.heap.size, 0, none⟩ = some (.string st) ∧ w2.cell? ⟨w.heap.size, 1, none⟩ = some (.string da) ∧ w2.cell? ⟨w.heap.size, 2, none⟩ = some (.string re) ∧ w2.cell? ⟨w.heap.size, 3, none⟩ = some (.int .i64 h) ∧ w2.cell? ⟨w.heap.size, 4, none⟩ = some (.int .i64 l) := by (refine ⟨?_, ?_, ?_, ?_, ?_⟩ <;> (refine carry5 hb1 (by first | omega | (simp only [World.size_drew]; omega)) ?_; simp [go_sem, *]))))
    all_goals (go_wp2_with (fail))
    all_goals go_meet
    all_goals exact ⟨_, rfl, body_eq st da re h l (by omega) (by omega) (by omega), hB1⟩
  case rest =>
    obtain ⟨X, rfl, hX, hB⟩ := hcut
    have hXl : X.data.toList = bodyL st da re h l := by rw [hX]
    have hXz : X.size = 44 + (st.size + da.size + re.size) := by
      rw [hX, size_list]
      unfold bodyL
      have e1 : (heads st.size da.size re.size (cN h) (cN l)).length = 44 := rfl
      rw [List.length_append, e1, data_size]
      simp [ByteArray.size_append]
    have hfin : Hid (X ++ ⟨(le8 (sumL (bodyL st da re h l))).toArray⟩ = ⟨(printL st da re h l).toArray⟩) := by
      show X ++ _ = _
      rw [hX]
      apply ByteArray.ext
      unfold printL
      simp
    have hXb : X.size ≤ 1000000 := by omega
    replace hXl := Lib.hid hXl
    replace hX := Lib.hid hX
    replace hXz := Lib.hid hXz
    have h8 : ∀ x, (ByteArray.mk (le8 x).toArray).size = 8 := fun x => rfl
    go_wp2_with (fail)
    refine (rsum_any X _ (by omega)).mono ?_
    rintro e w2 ⟨rfl, rfl⟩
    rw [hXl.out]
    go_wp2_with (fail)
    refine (rnumber_any (sumL (bodyL st da re h l)) _ (sumL_lt _)).mono ?_
    rintro e w3 ⟨rfl, hb⟩
    have h9 := h8 (sumL (bodyL st da re h l))
    go_wp2
    go_returns
    exact ⟨by rw [← hfin.out]; rfl, hB.trans (hb.mono hB.size)⟩
end Go.Proofs.YtpbloennjcjgoaaDoor
