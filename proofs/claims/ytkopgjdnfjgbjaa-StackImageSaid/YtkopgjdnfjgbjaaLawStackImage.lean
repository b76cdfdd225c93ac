/-
  StackImage: for every input the law answers true and leaves its arguments as they were. No condition.
-/
import Derived.Test.YtkopgjdnfjgbjaaStY
import Derived.SizedLaws
import Derived.Test.YtkopgjdnfjgbjaaPost
import Derived.Test.YtkopgjdnfjgbjaaPostFit
import Derived.Test.YtkopgjdnfjgbjaaPostInts
import Derived.Test.YtkopgjdnfjgbjaaPostRec
namespace Go.Proofs.Ytkopgjdnfjgbjaa.stackImage
open Go.ChangeShapes Go.WideShapes Go.ChangeAt Go.RowKit
open Go.WideMaps Go.WideElems
open Go.ChangeMaps (open_string shut_string)
set_option linter.unusedVariables false
set_option linter.unusedSimpArgs false

set_option maxRecDepth 100000 in
theorem lifted (os : Os) (started : os.Started) (H : Type) (enc : TypeId × Value → H) :
    ReturnsInHanded {} Try.checked os 5 .any (Rows.stackImageSpec.pre6 enc Try.prog Try.f5 Rows.stackImageRow.domain false) (Rows.stackImageSpec.post enc Try.prog Try.f5 false true false false) := by
  refine returnsInHanded_of_change_sized (C := Try.checked) own started (by kernel_rfl) Try.func5
    (ChangeSpec.witness6 (enc := enc) (C := Try.checked) false ⟨#[], #[.int .i64 0, .slice none 0 0, .string ⟨#[]⟩], []⟩ 8 (by kernel_rfl) (by kernel_rfl) (by kernel_rfl) (by kernel_rfl)) ?_
  intro W base args ds gs before hval0 hW hcnd hsz _
  have hval : ∀ (j : Nat) t v, Try.f5.params[j]? = some t → args[j]? = some v → Value.okWide Try.prog W .any base t v := hval0
  have hW' := hW
  obtain ⟨p, q, hA0, hV, rfl, hfz, hnd⟩ := hW
  have hA : DataW.TrodAll enc Try.prog W 0 (fun _ => true) true Try.f5.params.toList args.toList ds p := hA0
  rw [Try.params5] at hA hval
  obtain ⟨v0, vs0, d0, ds0, p0, q0, hargs, rfl, rfl, h0, r0⟩ := trodAll_cons hA
  obtain ⟨v1, vs1, d1, ds1, p1, q1, rfl, rfl, rfl, h1, r1⟩ := trodAll_cons r0
  obtain ⟨v2, vs2, d2, ds2, p2, q2, rfl, rfl, rfl, h2, r2⟩ := trodAll_cons r1
  obtain ⟨rfl, rfl, rfl⟩ := trodAll_nil r2
  obtain rfl : args = #[v0, v1, v2] := by cases args; simp_all
  obtain ⟨rfl, rfl⟩ := trodVars_none hV
  simp only [List.append_nil] at hW' hA0
  obtain ⟨a0, rfl, _, _, w0⟩ := open_int Try.underlying3 (hval 0 3 v0 rfl rfl) h0
  obtain ⟨A1, n1, c1, rfl, w1⟩ := open_Ints h1 (okWide_slice Try.underlying38 (hval 1 38 v1 rfl rfl))
  have y1 := slice_reach Try.underlying38 h1 hsz (j := 1) (t := 38) rfl rfl (by decide +kernel)
  have z1 := slice_cap Try.underlying38 h1
  obtain ⟨a2, rfl, e2_, _, w2⟩ := open_string Try.underlying9 (hval 2 9 v2 rfl rfl) h2
  subst e2_
  have y2 := sized_string hsz (j := 2) (t := 9) rfl rfl
  refine (walk_image a0 A1 n1 c1 a2 W (rec_int _ w0) w1 y1 z1 (reach_str y2)).mono fun e W' ⟨he, hg⟩ => ?_
  subst he
  exact ⟨_, rfl, law_post laidOut (by kernel_rfl) rfl rfl (by kernel_rfl) Try.underlying4 hW' hA0 hg⟩

theorem over : Rows.stackImageRow.holds Try.pinned (OpenSpec.ofChange Rows.stackImageSpec) :=
  OpenClaim.holds_of_wide 5 Try.f5 rfl rfl rfl rfl rfl rfl rfl ⟨rfl, rfl, rfl, rfl, rfl⟩ rfl rfl rfl rfl rfl (by kernel_rfl) Try.func5 (by kernel_rfl)
    (of_decide_eq_true (by kernel_rfl)) (by unfold Func.isWrapper; first | (rw [if_pos (by decide +kernel)]; kernel_rfl) | (rw [if_neg (by decide +kernel)]; exact ⟨rfl, rfl⟩))
    (fun os started H enc _ => lifted os started H enc)

/-- the statement -/
theorem proved : Rows.StackImageSaid := over
end Go.Proofs.Ytkopgjdnfjgbjaa.stackImage

