/- Which arguments may be; the chapter's examples hold; small laws of sets. -/
import Derived.Test.YtnaalaakhdbfbaaV4RgWiden
import Derived.Test.YtnaalaakhdbfbaaV4RgAlive
set_option linter.unusedVariables false
set_option linter.unusedSimpArgs false
namespace Go.Proofs.Ytnaalaakhdbfbaa.XP
open Go.RowKit Go.Proofs.YtnaalaakhdbfbaaW.PrintWords Go.Proofs.YtnaalaakhdbfbaaW.PrintLast Go.Proofs.YtnaalaakhdbfbaaW.PrintMore
theorem alive_ev : Ev (fun k => mandolinelaw35_alive.f k) true := by
 refine ⟨60, fun k hk => ?_⟩
 obtain ⟨j, rfl⟩ : ∃ j, k = 60 + j := ⟨k - 60, by omega⟩
 clear hk
 induction j with
 | zero => exact alive_f
 | succ j ih => exact mandolinelaw35_alive.mono _ _ ih
def okB (len u F M : Int) : Bool := uB u 2 19 && lenOk len && decide (0 ≤ F) && decide (u ≤ M)
theorem lengthMay_f (len : Int) : plan_lengthMay.f len = some (lenOk len) := by
 unfold plan_lengthMay.f lenOk
 by_cases h : len ≥ -1
 ·rw [if_pos h]; congr 1; by_cases h2 : len ≤ 1099511627776 <;> simp [h2] <;> omega
 ·rw [if_neg h]; congr 1; simp; omega
theorem lengthOk_f (len : Int) : mandolineref35_lengthOk.f len = some (lenOk len) := by
 unfold mandolineref35_lengthOk.f lenOk
 by_cases h : len ≥ -1
 ·rw [if_pos h]; congr 1; by_cases h2 : len ≤ 1099511627776 <;> simp [h2] <;> omega
 ·rw [if_neg h]; congr 1; simp; omega
theorem may_f (len u F M c3 c4 c5 c6 c7 c8 c9 : Int) : plan_may.f len u F M c3 c4 c5 c6 c7 c8 c9 = some (okB len u F M) := by
 unfold plan_may.f okB
 rw [unitMay_f, lengthMay_f]
 cases uB u 2 19
 ·rfl
 ·by_cases h1 : F ≥ 0
  ·by_cases h2 : M ≥ u
   ·simp [h1, h2]
   ·have h2' : ¬ u ≤ M := h2
    simp [h1, h2']
  ·have h1' : ¬ 0 ≤ F := h1
   simp [h1']
theorem argOk_f (len u F M c3 c4 c5 c6 c7 c8 c9 : Int) : Ev (fun k => mandolineref35_argOk.f k len u F M c3 c4 c5 c6 c7 c8 c9) (okB len u F M) := by
 refine Ev.bind (f := fun k => mandolineref35_unitOk.f k u) (g := fun k t => if t = true then (if F ≥ 0 then (if M ≥ u then (mandolineref35_lengthOk.f len).bind fun t393 => some t393 else some false) else some false) else some false) (unitOk_f u) (Ev.all fun k => ?_)
 unfold okB
 rw [lengthOk_f]
 cases uB u 2 19
 ·rfl
 ·by_cases h1 : F ≥ 0
  ·by_cases h2 : M ≥ u
   ·simp [h1, h2]
   ·have h2' : ¬ u ≤ M := h2
    simp [h1, h2']
  ·have h1' : ¬ 0 ≤ F := h1
   simp [h1']
theorem spans_f {l : List Sp} (hl : l.length < 1000000) : ranges_Set_Spans.f l = some l := by
 unfold ranges_Set_Spans.f api_Span_48.f
 rw [if_pos (by omega)]; rfl
theorem nil_of {lo : Int} {l : List Sp} (h : Canon lo l) (hn : ∀ z, ¬ InS l z) : l = [] := canon_ext h (lo' := 0) trivial fun z => ⟨fun hz => absurd hz (hn z), fun hz => absurd hz (inS_nil z)⟩
end Go.Proofs.Ytnaalaakhdbfbaa.XP
