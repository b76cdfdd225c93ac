import Derived.Test.YtfifbkcgaohhbaaCellQ
namespace Go.Proofs.Ytfifbkcgaohhbaa
open Go.RowKit
set_option linter.unusedVariables false
set_option linter.unusedSimpArgs false
set_option maxHeartbeats 1000000 in
theorem law_divides (a b : Int) (w : World)
    (p1 : dvd (zQ a b) (zR a b) (yF b) (rfQ a b) (rfR a b) (rOk b) = true) (p2 : dvd (yQ a b) (yR a b) (yF b) (rQ a b) (rR a b) (rOk b) = true) :
    Calls Try.prog 3 #[.int .i64 a, .int .i64 b] w fun e w' => e = .returned (.bool true) ∧ Below w.heap.size w w' := by
  go_enter Try.func3, Try.ntmps3
  go_wp2_with (fail)
  refine (shown_any _).mono ?_
  rintro e w0 ⟨rfl, hb⟩
  go_wp2_with (first
    | (go_at_call 11; refine (floored_any _ _ _).mono ?_; rintro e w' ⟨rfl, m, rfl⟩)
    | (go_at_call 12; refine (symmetric_any _ _ _).mono ?_; rintro e w' ⟨rfl, m, rfl⟩)
    | (go_at_call 13; refine (rfloored_any _ _ _).mono ?_; rintro e w' ⟨rfl, m, rfl⟩)
    | (go_at_call 14; refine (rsymmetric_any _ _ _).mono ?_; rintro e w' ⟨rfl, m, rfl⟩)
    | (go_at_call 15; refine (divided_any _ _ _ _ _ _ _).mono ?_; rintro e w' ⟨rfl, rfl⟩))
  go_returns
  exact ⟨rfl, by refine below_drewN ?_ _; exact hb⟩
theorem walk_divides (a b : Int) (ha : (Lit.int .i64 a).wf = true) (hb : (Lit.int .i64 b).wf = true) (w : World) :
    Calls Try.prog 3 #[.int .i64 a, .int .i64 b] w fun e w' => e = .returned (.bool true) ∧ Below w.heap.size w w' :=
  law_divides a b w (cell_divides a b ha hb w).1 (cell_divides a b ha hb w).2
end Go.Proofs.Ytfifbkcgaohhbaa
