/- PlanFewest answers true at every input, and leaves its arguments as they were; no condition. -/
import Derived.Test.YtnaalaakhdbfbaaV4RgJob
import Derived.Test.YtnaalaakhdbfbaaV4RgFewest
set_option linter.unusedVariables false
set_option linter.unusedSimpArgs false
namespace Go.Proofs.Ytnaalaakhdbfbaa
open Go.ChangeShapes Go.WideShapes Go.ChangeAt Go.RowKit Go.Deep Go.Proofs.Ytnaalaakhdbfbaa.XP
set_option maxRecDepth 100000 in
theorem planFewest_lifted (os : Os) (started : os.Started) (H : Type) (enc : TypeId × Value → H) :
  ReturnsInHanded {} Try.checked os 4 .any (Rows.planFewestSpec.pre6 enc Try.prog Try.f4 Rows.planFewestRow.domain false) (Rows.planFewestSpec.post enc Try.prog Try.f4 false true false false) := by
 refine returnsInHanded_of_change (C := Try.checked) Try.own started (by kernel_rfl) Try.func4
  (ChangeSpec.witness6 (enc := enc) (C := Try.checked) false ⟨#[], #[.agg #[.slice none 0 0, .slice none 0 0, .int .i64 0, .int .i64 0, .int .i64 0, .int .i64 0, .int .i64 0, .int .i64 0, .int .i64 0, .int .i64 0, .int .i64 0, .int .i64 0, .int .i64 0]], []⟩ 8 (by kernel_rfl) (by kernel_rfl) (by kernel_rfl) (by kernel_rfl)) ?_
 intro W base args ds gs before hval0 hW hcnd _
 have hval : ∀ (j : Nat) t v, Try.f4.params[j]? = some t → args[j]? = some v → Value.okWide Try.prog W .any base t v := hval0
 have hW' := hW
 obtain ⟨p, q, hA0, hV, rfl, hfz, hnd⟩ := hW
 have hA : DataW.TrodAll enc Try.prog W 0 (fun _ => true) true Try.f4.params.toList args.toList ds p := hA0
 rw [Try.params4] at hA hval
 obtain ⟨v0, d0, rfl, rfl, h0⟩ := trodAll_one hA
 obtain ⟨A0, m0, l0, A1, m1, l1, ln, c0, c1, c2, c3, c4, c5, c6, c7, c8, c9, rfl, ⟨q0, q1⟩, q2, q3⟩ := job_open (hval 0 _ v0 rfl rfl) h0
 obtain ⟨kq, hk⟩ := fewest_f l0 l1 (by have := q1.2.1; omega) (by have := q3.2.1; omega) ln c0 c1 c2 c3 c4 c5 c6 c7 c8 c9
 have hq := hk kq (Nat.le_refl _)
 refine (mandolinelaw35_PlanFewest.calls kq A0 m0 l0 A1 m1 l1 ln c0 c1 c2 c3 c4 c5 c6 c7 c8 c9 true W q1 q0 q3 q2 hq).mono fun e W' ⟨he, hB⟩ => ?_
 subst he
 exact ⟨_, rfl, law_post Try.laidOut hW' rfl rfl rfl Try.underlying4 (by kernel_rfl) hB⟩
theorem planFewest_holds : Rows.PlanFewestSaid :=
 OpenClaim.holds_of_wide 4 Try.f4 rfl rfl rfl rfl rfl rfl rfl ⟨rfl, rfl, rfl, rfl, rfl⟩ rfl rfl rfl rfl rfl (by kernel_rfl) Try.func4 (by kernel_rfl)
  (of_decide_eq_true (by kernel_rfl)) (by unfold Func.isWrapper; rw [if_neg (by decide +kernel)]; exact ⟨rfl, rfl⟩)
  (fun os started H enc _ => planFewest_lifted os started H enc)
end Go.Proofs.Ytnaalaakhdbfbaa
