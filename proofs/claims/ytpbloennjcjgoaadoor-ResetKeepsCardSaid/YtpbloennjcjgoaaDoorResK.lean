import Derived.Test.YtpbloennjcjgoaaDoorResJ
import Derived.Test.YtpbloennjcjgoaaDoorResG
namespace Go.Proofs.YtpbloennjcjgoaaDoor
open Go.RowKit
set_option linter.unusedVariables false
set_option linter.unusedSimpArgs false
def zs : ByteArray := ⟨(printL ByteArray.empty ByteArray.empty ByteArray.empty 0 0).toArray⟩
theorem zs_size : zs.size = 52 := by decide +kernel
theorem zs_mark : zs.data.toList.take 4 = mark4 := by decide +kernel
theorem zs_rest : (rdN zs 4 ≤ 65536 ∧ rdN zs 12 ≤ 4096 ∧ rdN zs 20 ≤ 4096) ∧ zs.size = 52 + rdN zs 4 + rdN zs 12 + rdN zs 20 ∧ sumL (zs.data.toList.take (zs.size - 8)) = rdN zs (zs.size - 8) := by decide +kernel
theorem zs_four : zs.extract 0 4 = ⟨#[80, 82, 83, 49]⟩ := by decide +kernel
theorem zs_parsed : parsedV zs = stateV ByteArray.empty ByteArray.empty ByteArray.empty 0 0 := by
  have h4 : rdN zs 4 = 0 := by decide +kernel
  have h12 : rdN zs 12 = 0 := by decide +kernel
  have h20 : rdN zs 20 = 0 := by decide +kernel
  have h28 : rdN zs 28 = 0 := by decide +kernel
  have h36 : rdN zs 36 = 0 := by decide +kernel
  unfold parsedV
  rw [h4, h12, h20, h28, h36]
  have e : zs.extract 44 44 = ByteArray.empty := by ext1; simp
  have hw : wrap64 ((0 : Nat) : Int) = 0 := by simp [wrap64]
  simp only [Nat.add_zero, e, hw]
theorem print_zero (w : World) (hM : Mark w) : Calls Tryd.prog 10 #[.agg #[.string ⟨#[]⟩, .string ⟨#[]⟩, .string ⟨#[]⟩, .int .i64 0, .int .i64 0]] w fun e w' => e = .returned (.tuple #[.string zs, .int .i64 0]) ∧ Below w.heap.size w w' :=
  print_yes ByteArray.empty ByteArray.empty ByteArray.empty 0 0 w ⟨by decide, by decide, by decide⟩ hM
theorem parse_zero (w : World) (hM : Mark w) : Calls Tryd.prog 13 #[.string zs] w fun e w' => e = .returned (.tuple #[.agg #[.string ⟨#[]⟩, .string ⟨#[]⟩, .string ⟨#[]⟩, .int .i64 0, .int .i64 0], .int .i64 0]) ∧ Below w.heap.size w w' := by
  have h := parse_yes zs w hM (by rw [zs_size]; decide) (by rw [zs_size]; decide) zs_mark zs_rest
  rw [zs_parsed] at h
  exact h
theorem parse_prs (w : World) (hM : Mark w) : Calls Tryd.prog 13 #[.string ⟨#[80, 82, 83, 49]⟩] w fun e w' => e = .returned (.tuple #[.agg #[.string ⟨#[]⟩, .string ⟨#[]⟩, .string ⟨#[]⟩, .int .i64 0, .int .i64 0], .int .i64 4]) ∧ Below w.heap.size w w' :=
  parse_short ⟨#[80, 82, 83, 49]⟩ w hM (by decide) (by decide)
theorem differ_eg (w : World) : Calls Tryd.prog 16 #[.agg #[.string ⟨#[97, 98]⟩, .string ⟨#[]⟩, .string ⟨#[]⟩, .int .i64 0, .int .i64 0], .agg #[.string ⟨#[97, 99]⟩, .string ⟨#[]⟩, .string ⟨#[]⟩, .int .i64 0, .int .i64 0]] w fun e w' => e = .returned (.tuple #[.int .i64 3, .int .i64 1]) ∧ Below w.heap.size w w' := by
  refine (differ_any ⟨#[97, 98]⟩ ⟨#[]⟩ ⟨#[]⟩ ⟨#[97, 99]⟩ ⟨#[]⟩ ⟨#[]⟩ 0 0 0 0 w (by decide) (by decide) (by decide) (by decide) (by decide) (by decide)).mono ?_
  rintro e w' ⟨k, d, rfl, hD, hB⟩
  have hne : ¬ (⟨#[97, 98]⟩ : ByteArray) = ⟨#[97, 99]⟩ := by decide
  have hdv : div ⟨#[97, 98]⟩ ⟨#[97, 99]⟩ 0 = 1 := by decide +kernel
  rcases hD with ⟨_, rfl, rfl⟩ | ⟨h, _⟩ | ⟨h, _⟩ | ⟨h, _⟩
  · exact ⟨by rw [hdv]; rfl, hB⟩
  · exact absurd h hne
  · exact absurd h hne
  · exact absurd h hne
set_option maxHeartbeats 2000000 in
set_option maxRecDepth 100000 in
theorem shown_any (w : World) (hM : Mark w) : Calls Tryd.prog 9 #[] w fun e w' => e = .returned (.bool true) ∧ Below w.heap.size w w' := by
  have hz := zs_size
  have h4 := zs_four
  replace hM := Lib.hid hM
  go_enter Tryd.func9, Tryd.ntmps9
  go_wp2_with (fail)
  refine (print_zero w hM.out).mono ?_
  rintro e w1 ⟨rfl, hB1⟩
  have hM1 := Lib.hid (hM.out.kept hB1 hM.out.1)
  go_wp2_with (fail)
  refine (parse_zero w1 hM1.out).mono ?_
  rintro e w2 ⟨rfl, hB2⟩
  have hM2 := Lib.hid (hM1.out.kept hB2 hM1.out.1)
  go_wp2_with (fail)
  have hK := Bk.fresh w2 23 #[.string ⟨#[]⟩, .string ⟨#[]⟩, .string ⟨#[]⟩, .int .i64 0, .int .i64 0]
  have hB3 := ((hB1.trans (hB2.mono hB1.size)).alloc (Nat.le_trans hB1.size hB2.size) (.cells #[.string ⟨#[]⟩, .string ⟨#[]⟩, .string ⟨#[]⟩, .int .i64 0, .int .i64 0] 23))
  obtain ⟨w3, hw3⟩ : ∃ w3, w2.alloc (.cells #[.string ⟨#[]⟩, .string ⟨#[]⟩, .string ⟨#[]⟩, .int .i64 0, .int .i64 0] 23) = w3 := ⟨_, rfl⟩
  rw [hw3] at hK hB3 ⊢
  clear hw3
  obtain ⟨p3, hp3⟩ : ∃ p3, w2.heap.size = p3 := ⟨_, rfl⟩
  rw [hp3] at hK ⊢
  clear hp3
  have hM3 := Lib.hid (hM.out.kept hB3 hM.out.1)
  refine (differ_eg w3).mono ?_
  rintro e w4 ⟨rfl, hB4⟩
  replace hK := hK.kept hB4 hK.lt
  have hM4 := Lib.hid (hM3.out.kept hB4 hM3.out.1)
  go_wp2_with (fail)
  refine (parse_prs w4 hM4.out).mono ?_
  rintro e w5 ⟨rfl, hB5⟩
  replace hK := hK.kept hB5 hK.lt
  replace hK := hK.past (.cells #[.string ⟨#[]⟩, .string ⟨#[]⟩, .string ⟨#[]⟩, .int .i64 0, .int .i64 0] 23)
  have c0 := hK.cell 0
  have c1 := hK.cell 1
  have c2 := hK.cell 2
  have c3 := hK.cell 3
  have c4 := hK.cell 4
  simp at c0 c1 c2 c3 c4
  have heq := fun w => eql_a 23 (.inl rfl) ByteArray.empty ByteArray.empty ByteArray.empty ByteArray.empty ByteArray.empty ByteArray.empty 0 0 0 0 w true (.inl ⟨rfl, rfl, rfl, rfl, rfl, rfl⟩)
  unfold stateV at heq
  go_wp2_with (fail)
  go_returns
  have hB6 := hB3.trans (hB4.mono hB3.size)
  have hB7 := hB6.trans (hB5.mono hB6.size)
  exact ⟨rfl, hB7.alloc hB7.size _⟩
end Go.Proofs.YtpbloennjcjgoaaDoor
