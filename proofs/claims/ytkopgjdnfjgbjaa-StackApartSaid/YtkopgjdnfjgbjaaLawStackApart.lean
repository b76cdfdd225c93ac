/-
  StackApart: for every input the law answers true and leaves its arguments as they were. No condition.
-/
import Derived.Test.YtkopgjdnfjgbjaaStQ
import Derived.SizedLaws
import Derived.Test.YtkopgjdnfjgbjaaPost
import Derived.Test.YtkopgjdnfjgbjaaPostFit
import Derived.Test.YtkopgjdnfjgbjaaPostInts
import Derived.Test.YtkopgjdnfjgbjaaPostOps4
import Derived.Test.YtkopgjdnfjgbjaaPostRec
namespace Go.Proofs.Ytkopgjdnfjgbjaa.stackApart
open Go.ChangeShapes Go.WideShapes Go.ChangeAt Go.RowKit
open Go.WideMaps Go.WideElems
open Go.ChangeMaps (open_string shut_string)
set_option linter.unusedVariables false
set_option linter.unusedSimpArgs false

set_option maxRecDepth 100000 in
theorem lifted (os : Os) (started : os.Started) (H : Type) (enc : TypeId × Value → H) :
    ReturnsInHanded {} Try.checked os 6 .any (Rows.stackApartSpec.pre6 enc Try.prog Try.f6 Rows.stackApartRow.domain false) (Rows.stackApartSpec.post enc Try.prog Try.f6 false true false false) := by
  refine returnsInHanded_of_change_sized (C := Try.checked) own started (by kernel_rfl) Try.func6
    (ChangeSpec.witness6 (enc := enc) (C := Try.checked) false ⟨#[], #[.int .i64 0, .int .i64 0, .slice none 0 0, .slice none 0 0], []⟩ 8 (by kernel_rfl) (by kernel_rfl) (by kernel_rfl) (by kernel_rfl)) ?_
  intro W base args ds gs before hval0 hW hcnd hsz _
  have hval : ∀ (j : Nat) t v, Try.f6.params[j]? = some t → args[j]? = some v → Value.okWide Try.prog W .any base t v := hval0
  have hW' := hW
  obtain ⟨p, q, hA0, hV, rfl, hfz, hnd⟩ := hW
  have hA : DataW.TrodAll enc Try.prog W 0 (fun _ => true) true Try.f6.params.toList args.toList ds p := hA0
  rw [Try.params6] at hA hval
  obtain ⟨v0, vs0, d0, ds0, p0, q0, hargs, rfl, rfl, h0, r0⟩ := trodAll_cons hA
  obtain ⟨v1, vs1, d1, ds1, p1, q1, rfl, rfl, rfl, h1, r1⟩ := trodAll_cons r0
  obtain ⟨v2, vs2, d2, ds2, p2, q2, rfl, rfl, rfl, h2, r2⟩ := trodAll_cons r1
  obtain ⟨v3, vs3, d3, ds3, p3, q3, rfl, rfl, rfl, h3, r3⟩ := trodAll_cons r2
  obtain ⟨rfl, rfl, rfl⟩ := trodAll_nil r3
  obtain rfl : args = #[v0, v1, v2, v3] := by cases args; simp_all
  obtain ⟨rfl, rfl⟩ := trodVars_none hV
  simp only [List.append_nil] at hW' hA0
  obtain ⟨a0, rfl, _, _, w0⟩ := open_int Try.underlying3 (hval 0 3 v0 rfl rfl) h0
  obtain ⟨a1, rfl, _, _, w1⟩ := open_int Try.underlying3 (hval 1 3 v1 rfl rfl) h1
  obtain ⟨A2, n2, c2, rfl, w2⟩ := open_Ops4 h2 (okWide_slice Try.underlying63 (hval 2 63 v2 rfl rfl)) hsz (j := 2) rfl rfl
  obtain ⟨A3, n3, c3, rfl, w3⟩ := open_Ints h3 (okWide_slice Try.underlying38 (hval 3 38 v3 rfl rfl))
  have y3 := slice_reach Try.underlying38 h3 hsz (j := 3) (t := 38) rfl rfl (by decide +kernel)
  have z3 := slice_cap Try.underlying38 h3
  refine (walk_apart a0 a1 A2 n2 c2 A3 n3 c3 W (rec_int _ w0) (rec_int _ w1) w2 w3 y3 z3).mono fun e W' ⟨he, hg⟩ => ?_
  subst he
  exact ⟨_, rfl, law_post laidOut (by kernel_rfl) rfl rfl (by kernel_rfl) Try.underlying4 hW' hA0 hg⟩

theorem over : Rows.stackApartRow.holds Try.pinned (OpenSpec.ofChange Rows.stackApartSpec) :=
  OpenClaim.holds_of_wide 6 Try.f6 rfl rfl rfl rfl rfl rfl rfl ⟨rfl, rfl, rfl, rfl, rfl⟩ rfl rfl rfl rfl rfl (by kernel_rfl) Try.func6 (by kernel_rfl)
    (of_decide_eq_true (by kernel_rfl)) (by unfold Func.isWrapper; first | (rw [if_pos (by decide +kernel)]; kernel_rfl) | (rw [if_neg (by decide +kernel)]; exact ⟨rfl, rfl⟩))
    (fun os started H enc _ => lifted os started H enc)

/-- the statement -/
theorem proved : Rows.StackApartSaid := over
end Go.Proofs.Ytkopgjdnfjgbjaa.stackApart

