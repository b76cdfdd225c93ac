import Derived.Test.YtbhgjjicmbbjaaaDoorTrC
namespace Go.Proofs.YtbhgjjicmbbjaaaDoor
open Go.RowKit
set_option linter.unusedVariables false
set_option linter.unusedSimpArgs false
/-! chapter 17: right -/
set_option maxRecDepth 100000 in
theorem right_any (f fuel : Int) (s : ByteArray) (w : World) (hM : Mk w) : Calls Tryd.prog 47 #[.int .i64 f, .int .i64 fuel, .string s] w fun e w' => e = .returned (.bool (rightP f fuel s)) ∧ Below w.heap.size w w' := by
  have hf := Lib.hid (word_any f w hM)
  clear hM
  obtain ⟨R, hR⟩ : ∃ R, rightP f fuel s = R := ⟨_, rfl⟩
  rw [hR]
  obtain ⟨W, hW⟩ : ∃ W, wordB f = W := ⟨_, rfl⟩
  rw [hW] at hf
  go_enter Tryd.func47, Tryd.ntmps47
  go_wp2_with (fail)
  refine hf.out.mono ?_
  rintro e w1 ⟨rfl, hb⟩
  replace hb := Lib.hid hb
  clear hf
  replace hR := Lib.hid hR
  replace hW := Lib.hid hW
  go_wp2_with (fail)
  all_goals
    go_returns
    refine ⟨?_, hb.out⟩
    have e1 : wordL f = W.toList := by rw [← hW.out, Lib.toList_data]; rfl
    have e2 : ((s.size : Int) ≤ 65536) ↔ s.size ≤ 65536 := by omega
    rw [← hR.out]
    unfold rightP
    rw [e1]
    clear e1 hW hR hb
    simp_all
    try omega
end Go.Proofs.YtbhgjjicmbbjaaaDoor
