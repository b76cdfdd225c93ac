import Derived.Test.YtpbloennjcjgoaaDoorResL
namespace Go.Proofs.YtpbloennjcjgoaaDoor
open Go.RowKit
set_option linter.unusedVariables false
theorem walk_differs2 (s1 d1 r1 : ByteArray) (h1 l1 : Int) (s2 d2 r2 : ByteArray) (h2 l2 : Int) (w : World) (hM : Mark w) (z1 : s1.size ≤ maxLen) (z2 : d1.size ≤ maxLen) (z3 : r1.size ≤ maxLen) (u1 : -9223372036854775808 ≤ h1 ∧ h1 ≤ 9223372036854775807) (u2 : -9223372036854775808 ≤ l1 ∧ l1 ≤ 9223372036854775807) (y1 : s2.size ≤ maxLen) (y2 : d2.size ≤ maxLen) (y3 : r2.size ≤ maxLen) (u3 : -9223372036854775808 ≤ h2 ∧ h2 ≤ 9223372036854775807) (u4 : -9223372036854775808 ≤ l2 ∧ l2 ≤ 9223372036854775807) :
    Calls Tryd.prog 5 #[.agg #[.string s1, .string d1, .string r1, .int .i64 h1, .int .i64 l1], .agg #[.string s2, .string d2, .string r2, .int .i64 h2, .int .i64 l2]] w fun e w' => e = .returned (.bool true) ∧ Below w.heap.size w w' :=
  walk_differs s1 d1 r1 s2 d2 r2 h1 l1 h2 l2 w hM z1 z2 z3 y1 y2 y3
end Go.Proofs.YtpbloennjcjgoaaDoor
