import Derived.Test.YtmmfjonoenmplaaDoorGbG
import Derived.Test.YtmmfjonoenmplaaDoorGaO
import Derived.Test.YtmmfjonoenmplaaDoorGaP
namespace Go.Proofs.YtmmfjonoenmplaaDoor
open Go.RowKit Go.Extern.Stop Go.Stop Go.Extern
set_option linter.unusedVariables false
set_option linter.unusedSimpArgs false
/-! GaussBack -/
theorem printL_len (a : Int × Int) (h : Sm a 16777216) : (printL a).length ≤ 100 := by
  have l1 := Lib.itoa_length_le a.1 (by unfold Sm at h; omega) (by unfold Sm at h; omega)
  have l2 := Lib.itoa_length_le a.2 (by unfold Sm at h; omega) (by unfold Sm at h; omega)
  unfold printL
  split
  · omega
  · split
    · simp; omega
    · split <;> (simp; omega)
theorem res_in {a : Int × Int} (h : Sm a 16777216) : res a = .tuple #[cw a, .int .i64 0] := by
  unfold res toldV
  unfold Sm at h
  rw [if_pos (by omega)]
  rfl
set_option maxRecDepth 100000 in
set_option maxHeartbeats 4000000 in
theorem walk_back (a b : Int) (s : ByteArray) (w : World) (hMq : Mq w) (ha : -9223372036854775808 ≤ a ∧ a ≤ 9223372036854775807) (hb : -9223372036854775808 ≤ b ∧ b ≤ 9223372036854775807) (hsz : s.size ≤ maxLen) (hsz2 : s.data.toList.length ≤ reachBytes) :
    Calls Tryd.prog 12 #[.int .i64 a, .int .i64 b, .string s] w fun e w' => e = .returned (.bool true) ∧ Below w.heap.size w w' := by
  have hs : s.size ≤ 281474976710656 := by rw [data_size] at hsz2; exact Nat.le_trans hsz2 (by decide)
  have hsh := Lib.hid (shown_any w hMq.tab)
  have hmd := Lib.hid (fun W => made_any a b 16777216 ha hb (by decide) W)
  have hM := Lib.hid (fun W (hb : Below w.heap.size w W) => hMq.bel hb)
  have hpa := Lib.hid (fun W (hm : Mq W) => gparse_any s hs W hm)
  have o0 : (FloatKind.f64.format.order 0 0 == some .eq) = true := by decide +kernel
  clear hMq ha hb hsz hsz2 hs
  go_enter Tryd.func12, Tryd.ntmps12
  go_wp2_with (fail)
  refine hsh.out.mono ?_
  rintro e w1 ⟨rfl, hb_⟩
  have hB := Lib.hid hb_
  clear hb_ hsh
  go_wp2_with (fail)
  refine (hmd.out _).mono ?_
  rintro e w2_ ⟨⟨z, rfl, hz⟩, hw_⟩
  have hw_ := hw_.symm
  subst hw_
  have hpr := fun W (hT : Tab W) => print_ok (fi z.1 false, fi z.2 false) z (nm_cw z (by unfold Sm at *; omega)) hz W hT
  have e1 := fi_self z.1 (by unfold Sm at hz; omega)
  have e2 := fi_self z.2 (by unfold Sm at hz; omega)
  obtain ⟨S, hS⟩ : ∃ S : ByteArray, ⟨(printL z).toArray⟩ = S := ⟨_, rfl⟩
  have hSl : S.data.toList = printL z := by rw [← hS]
  have hSz : S.size ≤ 281474976710656 := by
    rw [← data_size, hSl]
    exact Nat.le_trans (printL_len z hz) (by decide)
  have hps := fun W (hm : Mq W) => gparse_any S hSz W hm
  rw [hSl, parse_print, show paV (some z) = res z from rfl, res_in hz] at hps
  simp only [hS] at hpr
  unfold cw at hps ⊢
  try simp only at hpr
  obtain ⟨f1, hf1⟩ : ∃ f, fi z.1 false = f := ⟨_, rfl⟩
  obtain ⟨f2, hf2⟩ : ∃ f, fi z.2 false = f := ⟨_, rfl⟩
  simp only [hf1, hf2] at hpr hps e1 e2
  rw [hf1, hf2]
  replace hpr := Lib.hid hpr
  replace hps := Lib.hid hps
  clear hz hS hSl hSz hf1 hf2 hmd
  go_wp2_with (fail)
  refine (hpr.out _ (hM.out _ hB.out).tab).mono ?_
  rintro e w3 ⟨rfl, hb_⟩
  replace hB := Lib.hid (hB.out.trans (hb_.mono hB.out.size))
  clear hb_
  go_wp2_with (fail)
  refine (hps.out _ (hM.out _ hB.out)).mono ?_
  rintro e w4 ⟨rfl, hb_⟩
  replace hB := Lib.hid (hB.out.trans (hb_.mono hB.out.size))
  clear hb_
  clear hpr hps
  go_wp2_with (fail)
  refine (hpa.out _ (hM.out _ hB.out)).mono ?_
  rintro e w5 ⟨rfl, hb_⟩
  replace hB := Lib.hid (hB.out.trans (hb_.mono hB.out.size))
  clear hb_
  clear hpa e1 e2
  cases hPz : parseZ s.data.toList with
  | none =>
    have hP : Hid (paV none = .tuple #[.complex .f64 0 0, .int .i64 4]) := rfl
    clear hPz
    rw [hP.out]
    go_wp2_with (fail)
    go_returns
    exact ⟨rfl, hB.out⟩
  | some c =>
    have hback := print_parse hPz
    clear hPz
    by_cases hin : c.1.natAbs ≤ 16777216 ∧ c.2.natAbs ≤ 16777216
    · have hc : Sm c 16777216 := by unfold Sm; omega
      have hP : Hid (paV (some c) = .tuple #[cw c, .int .i64 0]) := res_in hc
      have hpr := fun W (hT : Tab W) => print_ok (fi c.1 false, fi c.2 false) c (nm_cw c (by unfold Sm at *; omega)) hc W hT
      rw [hback] at hpr
      rw [hP.out]
      unfold cw
      try simp only at hpr
      obtain ⟨f3, hf3⟩ : ∃ f, fi c.1 false = f := ⟨_, rfl⟩
      obtain ⟨f4, hf4⟩ : ∃ f, fi c.2 false = f := ⟨_, rfl⟩
      simp only [hf3, hf4] at hpr
      rw [hf3, hf4]
      have hss : (⟨s.data.toList.toArray⟩ : ByteArray) = s := by simp
      simp only [hss] at hpr
      replace hpr := Lib.hid hpr
      clear hin hc hP hback hf3 hf4 hss
      go_wp2_with (fail)
      refine (hpr.out _ (hM.out _ hB.out).tab).mono ?_
      rintro e w6 ⟨rfl, hb_⟩
      replace hB := Lib.hid (hB.out.trans (hb_.mono hB.out.size))
      clear hb_
      go_wp2_with (fail)
      go_returns
      exact ⟨by simp, hB.out⟩
    · have hP : Hid (paV (some c) = .tuple #[.complex .f64 0 0, .int .i64 8]) := by
        show res c = _
        unfold res toldV
        rw [if_neg hin]
      clear hin hback
      rw [hP.out]
      go_wp2_with (fail)
      go_returns
      exact ⟨rfl, hB.out⟩
end Go.Proofs.YtmmfjonoenmplaaDoor
