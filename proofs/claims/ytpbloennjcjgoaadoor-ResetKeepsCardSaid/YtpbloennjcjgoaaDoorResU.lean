import Derived.Test.YtpbloennjcjgoaaDoorImF
import Derived.Test.YtpbloennjcjgoaaDoorPick
import Derived.Stop.Asserts
import Derived.LaidEql
namespace Go.Proofs.YtpbloennjcjgoaaDoor
open Go.RowKit Go.Extern.Stop Go.Stop Go.Extern
set_option linter.unusedVariables false
set_option linter.unusedSimpArgs false
/-! errors.Is on a number of package api; reset.code -/
theorem eTypeOf (v : Value) (w : World) : (Extern.ReflectliteType.typeOf #[.iface 25 v]).run Tryd.prog w = .ok (.iface 142 (.agg #[.pointer (some ⟨1, 25, none⟩)])) w := by kernel_rfl
theorem eComparable (w : World) : ((Extern.ReflectliteType.method fun t => do Extern.Rtype.noPackHeld "Comparable" t; (fun a => Value.bool a.comparable) <$> typeInfo t) #[.agg #[.pointer (some ⟨1, 25, none⟩)]]).run Tryd.prog w = .ok (.bool true) w := by kernel_rfl
theorem eMethod (v : Value) (w : World) : (Go.method 189 142 v "Comparable").run Tryd.prog w = .ok (102, v) w := by kernel_rfl
theorem eSame (w : World) : (binOp BinOp.eql 97 (.iface 25 (.int .i64 1)) (.iface 25 (.int .i64 1))).run Tryd.prog w = .ok (.bool true) w := by kernel_rfl
set_option maxRecDepth 100000 in
theorem is_arg (w : World) :
    Calls Tryd.prog 58 #[.iface 25 (.int .i64 1), .iface 25 (.int .i64 1)] w fun e w' => e = .returned (.bool true) ∧ w' = w := by
  have h8 := @run_callFunc_extern Tryd.prog 69 _ Extern.ReflectliteType.typeOf Tryd.func69 (by kernel_rfl) (by kernel_rfl) (by kernel_rfl) (by kernel_rfl)
  have h32 := @run_callFunc_extern Tryd.prog 102 _ (Extern.ReflectliteType.method fun t => do Extern.Rtype.noPackHeld "Comparable" t; pure (.bool (← typeInfo t).comparable)) Tryd.func102 (by kernel_rfl) (by kernel_rfl) (by kernel_rfl) (by kernel_rfl)
  have tT := eTypeOf
  have cT := eComparable
  have mR := eMethod
  have eS := eSame
  go_enter Tryd.func58, Tryd.ntmps58
  go_wp2
  refine wp_loop_rounds 1 ?_
  rw [rounds_succ]
  go_wp2
  go_returns
  exact ⟨rfl, rfl⟩
end Go.Proofs.YtpbloennjcjgoaaDoor
