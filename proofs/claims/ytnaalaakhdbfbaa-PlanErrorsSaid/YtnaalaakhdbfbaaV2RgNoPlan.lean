/- PlanErrors: its plain law. -/
import Derived.Test.YtnaalaakhdbfbaaV2RgMay
import Derived.Test.YtnaalaakhdbfbaaV2XP29
set_option linter.unusedVariables false
set_option linter.unusedSimpArgs false
namespace Go.Proofs.Ytnaalaakhdbfbaa.XP
open Go.RowKit Go.Proofs.YtnaalaakhdbfbaaW.PrintWords Go.Proofs.YtnaalaakhdbfbaaW.PrintLast Go.Proofs.YtnaalaakhdbfbaaW.PrintMore
theorem units_nil (len u : Int) : Ev (fun k => plan_Units.f k [] len u) [] ∧ Ev (fun k => mandolineref35_Units.f k [] len u) [] := by
  obtain ⟨r, h1, h2, h3, h4, h5, h6⟩ := units_full [] len u (by simp) trivial
  have : r = [] := by
    cases hb : (uB u 2 19 && lenOk len) with
    | false => exact h6 hb
    | true =>
      obtain ⟨l, l1, l2, l3, l4⟩ := h5 hb
      have hl : l = [] := nil_of l1 fun z hz => inS_nil z ((l2 z).1 hz).1
      refine nil_of h3 fun z hz => ?_
      have := (l4 z).1 hz
      rw [hl] at this; exact inS_nil z this
  rw [this] at h1 h2; exact ⟨h1, h2⟩
theorem less_nil : Ev (fun k => ranges_Set_Less.f k [] []) [] ∧ Ev (fun k => mandolineref02_Less.f k [] []) [] := by
  obtain ⟨r, h1, h2, h3, h4, h5⟩ := less_same [] [] (by simp) (by simp) trivial trivial
  have : r = [] := nil_of h3 fun z hz => inS_nil z ((h4 z).1 hz).1
  rw [this] at h1 h2; exact ⟨h1, h2⟩
theorem len_nil : Ev (fun k => ranges_Set_Len.f k []) 0 := len_f (l := []) (by simp) trivial
theorem pplan_nil (len u F M c3 c4 c5 c6 c7 c8 c9 : Int) : Ev (fun k => plan_Plan.f k [] [] len u F M c3 c4 c5 c6 c7 c8 c9) ([], if okB len u F M = true then 0 else 1) := by
  cases hb : okB len u F M with
  | false => exact Ev.all fun k => by unfold plan_Plan.f; rw [may_f, hb]; rfl
  | true =>
    refine Ev.congr (g := fun k => (plan_Units.f k [] len u).bind fun t219 => (ranges_Set_Less.f k t219 []).bind fun t223 => (ranges_Set_Len.f k t223).bind fun t226 => if t226 > 0 then some ([], 15) else plan_Plan.l0 k [] [] u F M c3 c4 c5 c6 c7 c8 c9 t219) (fun k => by unfold plan_Plan.f; rw [may_f, hb]; rfl) ?_
    refine Ev.bind (f := fun k => plan_Units.f k [] len u) (g := fun k t219 => (ranges_Set_Less.f k t219 []).bind fun t223 => (ranges_Set_Len.f k t223).bind fun t226 => if t226 > 0 then some ([], 15) else plan_Plan.l0 k [] [] u F M c3 c4 c5 c6 c7 c8 c9 t219) (units_nil len u).1 ?_
    refine Ev.bind (f := fun k => ranges_Set_Less.f k [] []) (g := fun k t223 => (ranges_Set_Len.f k t223).bind fun t226 => if t226 > 0 then some ([], 15) else plan_Plan.l0 k [] [] u F M c3 c4 c5 c6 c7 c8 c9 []) less_nil.1 ?_
    refine Ev.bind (f := fun k => ranges_Set_Len.f k []) (g := fun k t226 => if t226 > 0 then some ([], 15) else plan_Plan.l0 k [] [] u F M c3 c4 c5 c6 c7 c8 c9 []) len_nil ?_
    refine Ev.now fun k => ?_
    show (if (0 : Int) > 0 then _ else _) = _
    rw [if_neg (by omega), plan_Plan.l0, spans_f (by simp)]; rfl
theorem rplan_nil (len u F M c3 c4 c5 c6 c7 c8 c9 : Int) : Ev (fun k => mandolineref35_Plan.f k [] [] len u F M c3 c4 c5 c6 c7 c8 c9) ([], if okB len u F M = true then 0 else 1) := by
  refine Ev.bind (f := fun k => mandolineref35_argOk.f k len u F M c3 c4 c5 c6 c7 c8 c9) (g := fun k t441 => if t441 = true then ((mandolineref35_Units.f k [] len u).bind fun t442 => ((mandolineref35_held.f k t442 []).bind fun t445 => (if t445 = true then (some ([], 15)) else (mandolineref35_Plan.l0 k [] len t442 [] t442 u F M c3 c4 c5 c6 c7 c8 c9)))) else (some ([], 1))) (argOk_f len u F M c3 c4 c5 c6 c7 c8 c9) ?_
  cases okB len u F M with
  | false => exact Ev.all fun k => rfl
  | true =>
    refine Ev.bind (f := fun k => mandolineref35_Units.f k [] len u) (g := fun k t442 => ((mandolineref35_held.f k t442 []).bind fun t445 => (if t445 = true then (some ([], 15)) else (mandolineref35_Plan.l0 k [] len t442 [] t442 u F M c3 c4 c5 c6 c7 c8 c9)))) (units_nil len u).2 ?_
    refine Ev.bind (f := fun k => mandolineref35_held.f k [] []) (a := false) (g := fun k t445 => (if t445 = true then (some ([], 15)) else (mandolineref35_Plan.l0 k [] len [] [] [] u F M c3 c4 c5 c6 c7 c8 c9))) ?_ ?_
    · exact Ev.bind (f := fun k => mandolineref02_Less.f k [] []) (g := fun k t397 => some (decide ((t397.length : Int) > 0))) less_nil.2 (Ev.all fun k => rfl)
    · exact Ev.now fun k => by rw [if_neg (by simp), mandolineref35_Plan.l0, if_neg (by simp)]; rfl
theorem pright_nil (len u F M c3 c4 c5 c6 c7 c8 c9 : Int) : Ev (fun k => plan_Right.f k [] [] [] len u F M c3 c4 c5 c6 c7 c8 c9) (okB len u F M) := by
  refine Ev.bind (f := fun k => plan_Plan.f k [] [] len u F M c3 c4 c5 c6 c7 c8 c9) (g := fun k bt673 => (if bt673.2 = 0 then ((plan_Units.f k [] len u).bind fun t677 => (plan_Right.l0 k [] len 0 [] (([] : List Sp).length : Int) 0 [] u F M c3 c4 c5 c6 c7 c8 c9 t677)) else (some false))) (pplan_nil len u F M c3 c4 c5 c6 c7 c8 c9) ?_
  cases okB len u F M with
  | false => exact Ev.all fun k => rfl
  | true =>
    refine Ev.bind (f := fun k => plan_Units.f k [] len u) (g := fun k t677 => plan_Right.l0 k [] len 0 [] (([] : List Sp).length : Int) 0 [] u F M c3 c4 c5 c6 c7 c8 c9 t677) (units_nil len u).1 ?_
    obtain ⟨o, o1, o2, o3, o4, o5⟩ := of_same [] (by simp)
    have ho : o = [] := nil_of o3 fun z hz => inS_nil z ((o4 z).1 hz)
    subst ho
    refine Ev.step (g := fun k => (ranges_Of.f k []).bind fun t681 => ((ranges_Set_Less.f k [] t681).bind fun t684 => ((ranges_Set_Len.f k t684).bind fun t687 => (some (t687 == 0))))) (fun k => ?_) ?_
    · rw [plan_Right.l0, if_neg (by simp)]
    · refine Ev.bind (f := fun k => ranges_Of.f k []) (g := fun k t681 => ((ranges_Set_Less.f k [] t681).bind fun t684 => ((ranges_Set_Len.f k t684).bind fun t687 => (some (t687 == 0))))) o1 ?_
      refine Ev.bind (f := fun k => ranges_Set_Less.f k [] []) (g := fun k t684 => ((ranges_Set_Len.f k t684).bind fun t687 => (some (t687 == 0)))) less_nil.1 ?_
      exact Ev.bind (f := fun k => ranges_Set_Len.f k []) (g := fun k t687 => (some (t687 == 0))) len_nil (Ev.all fun k => rfl)
theorem errors_f (len u F M c3 c4 c5 c6 c7 c8 c9 : Int) (x : Sp) : Ev (fun k => mandolinelaw35_PlanErrors.f k len u F M c3 c4 c5 c6 c7 c8 c9 x.f0 x.f1) true := by
  obtain ⟨g, g1, g2, g3, g4, g5⟩ := of_same [x] (by simp)
  have g5 : g.length ≤ 1 := g5
  obtain ⟨r, r1, r2, r3, r4⟩ := units_same g len u (by omega) g3
  have hj : Ev (fun k => mandolinelaw35_PlanErrors.j0 k len false u F M c3 c4 c5 c6 c7 c8 c9 x.f0 x.f1) true := by
    refine Ev.step (g := fun k => ((ranges_Of.f k [x]).bind fun t712 => ((plan_Units.f k t712 len u).bind fun t715 => ((ranges_Set_Spans.f t715).bind fun t719 => ((mandolineref02_Of.f k [x]).bind fun t725 => ((mandolineref35_Units.f k t725 len u).bind fun t728 => ((mandolineref02_List.f k t719 t728).bind fun t731 => (some t731)))))))) (fun k => ?_) ?_
    · rw [mandolinelaw35_PlanErrors.j0, if_neg (by simp)]
    · refine Ev.bind (f := fun k => ranges_Of.f k [x]) (g := fun k t712 => ((plan_Units.f k t712 len u).bind fun t715 => ((ranges_Set_Spans.f t715).bind fun t719 => ((mandolineref02_Of.f k [x]).bind fun t725 => ((mandolineref35_Units.f k t725 len u).bind fun t728 => ((mandolineref02_List.f k t719 t728).bind fun t731 => (some t731))))))) g1 ?_
      refine Ev.bind (f := fun k => plan_Units.f k g len u) (g := fun k t715 => ((ranges_Set_Spans.f t715).bind fun t719 => ((mandolineref02_Of.f k [x]).bind fun t725 => ((mandolineref35_Units.f k t725 len u).bind fun t728 => ((mandolineref02_List.f k t719 t728).bind fun t731 => (some t731)))))) r1 ?_
      rw [spans_f (by omega)]
      refine Ev.bind (f := fun k => mandolineref02_Of.f k [x]) (g := fun k t725 => ((mandolineref35_Units.f k t725 len u).bind fun t728 => ((mandolineref02_List.f k r t728).bind fun t731 => (some t731)))) g2 ?_
      refine Ev.bind (f := fun k => mandolineref35_Units.f k g len u) (g := fun k t728 => ((mandolineref02_List.f k r t728).bind fun t731 => (some t731))) r2 ?_
      exact Ev.bind (f := fun k => mandolineref02_List.f k r r) (g := fun k t731 => (some t731)) (list_same r (by omega)) (Ev.all fun k => rfl)
  refine Ev.bind (f := fun k => mandolinelaw35_alive.f k) (g := fun k t697 => (if t697 = true then ((plan_Plan.f k ([] : List Sp) ([] : List Sp) len u F M c3 c4 c5 c6 c7 c8 c9).bind fun bt700 => ((mandolineref35_Plan.f k ([] : List Sp) ([] : List Sp) len u F M c3 c4 c5 c6 c7 c8 c9).bind fun bt704 => (if bt700.2 = bt704.2 then (if (bt700.1.length : Int) = 0 then ((plan_Right.f k ([] : List Sp) ([] : List Sp) ([] : List Sp) len u F M c3 c4 c5 c6 c7 c8 c9).bind fun t708 => (mandolinelaw35_PlanErrors.j0 k len (t708 != (bt704.2 == 0)) u F M c3 c4 c5 c6 c7 c8 c9 x.f0 x.f1)) else (mandolinelaw35_PlanErrors.j0 k len true u F M c3 c4 c5 c6 c7 c8 c9 x.f0 x.f1)) else (mandolinelaw35_PlanErrors.j0 k len true u F M c3 c4 c5 c6 c7 c8 c9 x.f0 x.f1)))) else (some false))) alive_ev ?_
  show Ev (fun k => ((plan_Plan.f k ([] : List Sp) ([] : List Sp) len u F M c3 c4 c5 c6 c7 c8 c9).bind _)) true
  refine Ev.bind (f := fun k => plan_Plan.f k ([] : List Sp) ([] : List Sp) len u F M c3 c4 c5 c6 c7 c8 c9) (pplan_nil len u F M c3 c4 c5 c6 c7 c8 c9) ?_
  refine Ev.bind (f := fun k => mandolineref35_Plan.f k ([] : List Sp) ([] : List Sp) len u F M c3 c4 c5 c6 c7 c8 c9) (rplan_nil len u F M c3 c4 c5 c6 c7 c8 c9) ?_
  simp only [if_true, List.length_nil, Int.natCast_zero]
  refine Ev.bind (f := fun k => plan_Right.f k ([] : List Sp) ([] : List Sp) ([] : List Sp) len u F M c3 c4 c5 c6 c7 c8 c9) (pright_nil len u F M c3 c4 c5 c6 c7 c8 c9) ?_
  have hz : (okB len u F M != ((if okB len u F M = true then (0 : Int) else 1) == 0)) = false := by cases okB len u F M <;> rfl
  show Ev (fun k => mandolinelaw35_PlanErrors.j0 k len (okB len u F M != ((if okB len u F M = true then (0 : Int) else 1) == 0)) u F M c3 c4 c5 c6 c7 c8 c9 x.f0 x.f1) true
  rw [hz]; exact hj
end Go.Proofs.Ytnaalaakhdbfbaa.XP
