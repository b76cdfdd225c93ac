import Derived.Test.YtmmfjonoenmplaaDoorGaB
import Derived.Stop.Asserts
import Derived.LaidEql
import Derived.RowKitTokens
namespace Go.Proofs.YtmmfjonoenmplaaDoor
open Go.RowKit Go.Extern.Stop Go.Stop Go.Extern
set_option linter.unusedVariables false
set_option linter.unusedSimpArgs false
/-! chapter 2: errors.Is of what Atoi answers -/
theorem sTypeOf (v : Value) (w : World) : (Extern.ReflectliteType.typeOf #[.iface 140 v]).run Tryd.prog w = .ok (.iface 99 (.agg #[.pointer (some ⟨6, 140, none⟩)])) w := by kernel_rfl
theorem sComparable (w : World) : ((Extern.ReflectliteType.method fun t => do Extern.Rtype.noPackHeld "Comparable" t; (fun a => Value.bool a.comparable) <$> typeInfo t) #[.agg #[.pointer (some ⟨6, 140, none⟩)]]).run Tryd.prog w = .ok (.bool true) w := by kernel_rfl
theorem sComp : (Tryd.prog.info? 140).map (·.comparable) = some true := by kernel_rfl
theorem sSize : (Tryd.prog.info? 142).map (·.size) = some 1 := by kernel_rfl
theorem noIsE (v : Value) (xT : TypeId) (w : World) : (Instr.typeAssert (.iface 140 v) xT 101 true).run Tryd.prog w = .ok (.tuple #[.nilIface, .bool false]) w := run_typeAssert_lacksB Tryd.underlying101 (by kernel_rfl) (by kernel_rfl) v xT w
theorem noUnE (v : Value) (xT : TypeId) (w : World) : (Instr.typeAssert (.iface 140 v) xT 104 true).run Tryd.prog w = .ok (.tuple #[.nilIface, .bool false]) w := run_typeAssert_lacksB Tryd.underlying104 (by kernel_rfl) (by kernel_rfl) v xT w
theorem noUnsE (v : Value) (xT : TypeId) (w : World) : (Instr.typeAssert (.iface 140 v) xT 106 true).run Tryd.prog w = .ok (.tuple #[.nilIface, .bool false]) w := run_typeAssert_lacksB Tryd.underlying106 (by kernel_rfl) (by kernel_rfl) v xT w
theorem noIsN (v : Value) (xT : TypeId) (w : World) : (Instr.typeAssert (.iface 120 v) xT 101 true).run Tryd.prog w = .ok (.tuple #[.nilIface, .bool false]) w := run_typeAssert_lacksB Tryd.underlying101 (by kernel_rfl) (by kernel_rfl) v xT w
theorem hasUnN (v : Value) (xT : TypeId) (w : World) : (Instr.typeAssert (.iface 120 v) xT 104 true).run Tryd.prog w = .ok (.tuple #[.iface 120 v, .bool true]) w := run_typeAssert_hasB Tryd.underlying104 (by kernel_rfl) v xT w
theorem mUnN (v : Value) (w : World) : (Go.method 177 120 v "Unwrap").run Tryd.prog w = .ok (125, v) w := by kernel_rfl
def sentV (a : Addr) : Value := .iface 140 (.pointer (some a))
def numV (N : Nat) : Value := .iface 120 (.pointer (some ⟨N, 0, none⟩))
theorem sNil (a : Addr) (w : World) : (binOp BinOp.eql 72 .nilIface (.iface 140 (.pointer (some a)))).run Tryd.prog w = .ok (.bool false) w := run_eql_iface_nil_left (P := Tryd.prog) w _ _ Tryd.underlying72
set_option maxRecDepth 100000 in
theorem is_snil (a : Addr) (w : World) : Calls Tryd.prog 60 #[.nilIface, sentV a] w fun e w' => e = .returned (.bool false) ∧ w' = w := by
  have eN := sNil a
  unfold sentV
  go_enter Tryd.func60, Tryd.ntmps60
  go_wp2
  go_returns
  exact ⟨rfl, rfl⟩
set_option maxRecDepth 100000 in
theorem is_num (N : Nat) (a b : Addr) (f s : ByteArray) {ca cb : Array Value} {ta tb : TypeId} (w : World) (hN : w.heap[N]? = some (.cells #[.string f, .string s, sentV a] 134 (0, 0))) (ha : w.heap[a.block]? = some (.cells ca ta (0, 0))) (hb : w.heap[b.block]? = some (.cells cb tb (0, 0))) :
    Calls Tryd.prog 60 #[numV N, sentV b] w fun e w' => (∃ r : Bool, e = .returned (.bool r) ∧ (r = true ↔ a = b)) ∧ ∃ n, w' = w.drewN n := by
  obtain ⟨i, hi, hcmp⟩ := Option.map_eq_some_iff.1 sComp
  obtain ⟨j, hj, hjs⟩ := Option.map_eq_some_iff.1 sSize
  have h8 := @run_callFunc_extern Tryd.prog 66 _ Extern.ReflectliteType.typeOf Tryd.func66 (by kernel_rfl) (by kernel_rfl) (by kernel_rfl) (by kernel_rfl)
  have h32 := @run_callFunc_extern Tryd.prog 114 _ (Extern.ReflectliteType.method fun t => do Extern.Rtype.noPackHeld "Comparable" t; pure (.bool (← typeInfo t).comparable)) Tryd.func114 (by kernel_rfl) (by kernel_rfl) (by kernel_rfl) (by kernel_rfl)
  have tT := sTypeOf
  have cT := sComparable
  have mR := eMethod
  have nE := noIsE
  have uE := noUnE
  have vE := noUnsE
  have nN := noIsN
  have uN := hasUnN
  have mU := mUnN
  have c2 : w.cell? ⟨N, 2, none⟩ = some (.iface 140 (.pointer (some a))) := by
    unfold World.cell?
    rw [hN]
    rfl
  have hty := run_eql_iface_types (P := Tryd.prog) 120 140 (.pointer (some ⟨N, 0, none⟩)) (.pointer (some b)) Tryd.underlying72 (by decide) w
  unfold numV sentV
  by_cases hab : a = b
  · subst hab
    have heq := run_eql_iface_ptr_same (P := Tryd.prog) w a Tryd.underlying72 Tryd.underlying140 hi hcmp hj
    clear hN ha hb hi hj hcmp hjs
    go_enter Tryd.func60, Tryd.ntmps60
    go_wp2
    refine wp_loop_rounds 2 ?_
    rw [rounds_succ]
    go_wp2
    rw [rounds_succ]
    go_wp2
    go_returns
    exact ⟨⟨true, rfl, by simp⟩, 0, rfl⟩
  · have heq := run_eql_iface_ptr_other (P := Tryd.prog) w Tryd.underlying72 Tryd.underlying140 hi hcmp hj (by rw [hjs]; decide) hab ha hb
    replace hab := Lib.hid hab
    clear hN ha hb hi hj hcmp hjs
    go_enter Tryd.func60, Tryd.ntmps60
    go_wp2
    refine wp_loop_rounds 2 ?_
    rw [rounds_succ]
    go_wp2
    rw [rounds_succ]
    go_wp2
    go_returns
    exact ⟨⟨false, rfl, by have := hab.out; simp [this]⟩, 0, rfl⟩
end Go.Proofs.YtmmfjonoenmplaaDoor
