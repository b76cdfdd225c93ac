/-
  ImagePlays: for every input the law answers true and leaves its arguments as they were. No condition.
-/
import Derived.Test.YteldbkdfphkdbaaImZo
import Derived.SizedLaws
import Derived.Test.YteldbkdfphkdbaaPost
import Derived.Test.YteldbkdfphkdbaaPostOps3
import Derived.Test.YteldbkdfphkdbaaPostRec
import Derived.Test.YteldbkdfphkdbaaPostShape
namespace Go.Proofs.Yteldbkdfphkdbaa.imagePlays
open Go.ChangeShapes Go.WideShapes Go.ChangeAt Go.RowKit
open Go.WideMaps Go.WideElems
open Go.ChangeMaps (open_string shut_string)
set_option linter.unusedVariables false
set_option linter.unusedSimpArgs false

set_option maxRecDepth 100000 in
theorem lifted (os : Os) (started : os.Started) (H : Type) (enc : TypeId × Value → H) :
    ReturnsInHanded {} Try.checked os 9 .any (Rows.imagePlaysSpec.pre6 enc Try.prog Try.f9 Rows.imagePlaysRow.domain false) (Rows.imagePlaysSpec.post enc Try.prog Try.f9 false true false false) := by
  refine returnsInHanded_of_change_sized (C := Try.checked) own started (by kernel_rfl) Try.func9
    (ChangeSpec.witness6 (enc := enc) (C := Try.checked) false ⟨#[], #[.agg #[.int .i64 0, .int .i64 0, .int .i64 0, .int .i64 0, .int .i64 0], .slice none 0 0], []⟩ 8 (by kernel_rfl) (by kernel_rfl) (by kernel_rfl) (by kernel_rfl)) ?_
  intro W base args ds gs before hval0 hW hcnd hsz _
  have hval : ∀ (j : Nat) t v, Try.f9.params[j]? = some t → args[j]? = some v → Value.okWide Try.prog W .any base t v := hval0
  have hW' := hW
  obtain ⟨p, q, hA0, hV, rfl, hfz, hnd⟩ := hW
  have hA : DataW.TrodAll enc Try.prog W 0 (fun _ => true) true Try.f9.params.toList args.toList ds p := hA0
  rw [Try.params9] at hA hval
  obtain ⟨v0, vs0, d0, ds0, p0, q0, hargs, rfl, rfl, h0, r0⟩ := trodAll_cons hA
  obtain ⟨v1, vs1, d1, ds1, p1, q1, rfl, rfl, rfl, h1, r1⟩ := trodAll_cons r0
  obtain ⟨rfl, rfl, rfl⟩ := trodAll_nil r1
  obtain rfl : args = #[v0, v1] := by cases args; simp_all
  obtain ⟨rfl, rfl⟩ := trodVars_none hV
  simp only [List.append_nil] at hW' hA0
  obtain ⟨s0x0, s0x1, s0x2, s0x3, s0x4, rfl, f0x0, f0x1, f0x2, f0x3, f0x4⟩ := open_shape h0 (hval 0 39 v0 rfl rfl)
  obtain ⟨A1, n1, c1, rfl, w1⟩ := open_Ops3 h1 (okWide_slice Try.underlying57 (hval 1 57 v1 rfl rfl)) hsz (j := 1) rfl rfl
  refine (walk_iplays s0x0 s0x1 s0x2 s0x3 s0x4 A1 n1 c1 W f0x0 f0x1 f0x2 f0x3 f0x4 w1).mono fun e W' ⟨he, hg⟩ => ?_
  subst he
  exact ⟨_, rfl, law_post laidOut (by kernel_rfl) rfl rfl (by kernel_rfl) Try.underlying4 hW' hA0 hg⟩

theorem over : Rows.imagePlaysRow.holds Try.pinned (OpenSpec.ofChange Rows.imagePlaysSpec) :=
  OpenClaim.holds_of_wide 9 Try.f9 rfl rfl rfl rfl rfl rfl rfl ⟨rfl, rfl, rfl, rfl, rfl⟩ rfl rfl rfl rfl rfl (by kernel_rfl) Try.func9 (by kernel_rfl)
    (of_decide_eq_true (by kernel_rfl)) (by unfold Func.isWrapper; first | (rw [if_pos (by decide +kernel)]; kernel_rfl) | (rw [if_neg (by decide +kernel)]; exact ⟨rfl, rfl⟩))
    (fun os started H enc _ => lifted os started H enc)

/-- the statement -/
theorem proved : Rows.ImagePlaysSaid := over
end Go.Proofs.Yteldbkdfphkdbaa.imagePlays

