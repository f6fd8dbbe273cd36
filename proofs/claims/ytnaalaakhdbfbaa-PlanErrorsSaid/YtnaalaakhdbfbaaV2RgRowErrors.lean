/- PlanErrors answers true at every input, and leaves its arguments as they were; no condition. -/
import Derived.Test.YtnaalaakhdbfbaaV2RgJob
import Derived.Test.YtnaalaakhdbfbaaV2RgNoPlan
set_option linter.unusedVariables false
set_option linter.unusedSimpArgs false
namespace Go.Proofs.Ytnaalaakhdbfbaa
open Go.ChangeShapes Go.WideShapes Go.ChangeAt Go.RowKit Go.Deep Go.Proofs.Ytnaalaakhdbfbaa.XP
set_option maxRecDepth 100000 in
theorem planErrors_lifted (os : Os) (started : os.Started) (H : Type) (enc : TypeId × Value → H) :
    ReturnsInHanded {} Try.checked os 8 .any (Rows.planErrorsSpec.pre6 enc Try.prog Try.f8 Rows.planErrorsRow.domain false) (Rows.planErrorsSpec.post enc Try.prog Try.f8 false true false false) := by
  refine returnsInHanded_of_change (C := Try.checked) Try.own started (by kernel_rfl) Try.func8
    (ChangeSpec.witness6 (enc := enc) (C := Try.checked) false ⟨#[], #[.int .i64 0, .agg #[.int .i64 0, .int .i64 0, .int .i64 0, .int .i64 0, .int .i64 0, .int .i64 0, .int .i64 0, .int .i64 0, .int .i64 0, .int .i64 0], .agg #[.int .i64 0, .int .i64 0]], []⟩ 8 (by kernel_rfl) (by kernel_rfl) (by kernel_rfl) (by kernel_rfl)) ?_
  intro W base args ds gs before hval0 hW hcnd _
  have hval : ∀ (j : Nat) t v, Try.f8.params[j]? = some t → args[j]? = some v → Value.okWide Try.prog W .any base t v := hval0
  have hW' := hW
  obtain ⟨p, q, hA0, hV, rfl, hfz, hnd⟩ := hW
  have hA : DataW.TrodAll enc Try.prog W 0 (fun _ => true) true Try.f8.params.toList args.toList ds p := hA0
  rw [Try.params8] at hA hval
  obtain ⟨v0, v1, v2, d0, d1, d2, p0, p1, p2, rfl, rfl, rfl, h0, h1, h2⟩ := trodAll_three hA
  obtain ⟨ln, rfl⟩ := okWide_int Try.underlying2 (hval 0 _ v0 rfl rfl)
  obtain ⟨c0, c1, c2, c3, c4, c5, c6, c7, c8, c9, rfl⟩ := config_open (hval 1 _ v1 rfl rfl) h1
  obtain ⟨x, rfl⟩ := span_open (hval 2 _ v2 rfl rfl) h2
  obtain ⟨kq, hk⟩ := errors_f ln c0 c1 c2 c3 c4 c5 c6 c7 c8 c9 x
  have hq := hk kq (Nat.le_refl _)
  refine (mandolinelaw35_PlanErrors.calls kq ln c0 c1 c2 c3 c4 c5 c6 c7 c8 c9 x.f0 x.f1 true W hq).mono fun e W' ⟨he, hB⟩ => ?_
  subst he
  exact ⟨_, rfl, law_post Try.laidOut hW' rfl rfl rfl Try.underlying4 (by kernel_rfl) hB⟩
theorem planErrors_holds : Rows.PlanErrorsSaid :=
  OpenClaim.holds_of_wide 8 Try.f8 rfl rfl rfl rfl rfl rfl rfl ⟨rfl, rfl, rfl, rfl, rfl⟩ rfl rfl rfl rfl rfl (by kernel_rfl) Try.func8 (by kernel_rfl)
    (of_decide_eq_true (by kernel_rfl)) (by unfold Func.isWrapper; rw [if_neg (by decide +kernel)]; exact ⟨rfl, rfl⟩)
    (fun os started H enc _ => planErrors_lifted os started H enc)
end Go.Proofs.Ytnaalaakhdbfbaa
