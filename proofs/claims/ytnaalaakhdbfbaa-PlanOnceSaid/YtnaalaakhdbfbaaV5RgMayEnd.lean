/- Where a fetch may end, one after the other (of gaps that end); which fetch may be: plain laws of Ends and Fetch. -/
import Derived.Test.YtnaalaakhdbfbaaV5RgHolds
import Derived.Test.YtnaalaakhdbfbaaV5RgLoop
import Derived.Test.YtnaalaakhdbfbaaV5RgCount
import Derived.Test.YtnaalaakhdbfbaaV5XP17
set_option linter.unusedVariables false
set_option linter.unusedSimpArgs false
namespace Go.Proofs.Ytnaalaakhdbfbaa.XP
open Go.RowKit Go.Proofs.YtnaalaakhdbfbaaW.PrintWords Go.Proofs.YtnaalaakhdbfbaaW.PrintLast Go.Proofs.YtnaalaakhdbfbaaW.PrintMore
/-- The waste of a span whose end is no more than the last byte that may be. -/
theorem waste_val (a e : Int) (w : List Sp) (hw : w.length < 50000) (cw : Canon (-1) w) (h0 : 0 ≤ a) (h1 : a < e) (h2 : e ≤ 4611686018427387904) (h3 : e < 4611686018427387904 ∨ ∃ x ∈ w, x.f0 < e ∧ e ≤ x.f1) :
  Ev (fun k => plan_Waste.f k a e w) (nW w e - nW w a) ∧ Ev (fun k => mandolineref35_Waste.f k a e w) (nW w e - nW w a) := by
 have hv : ∀ n, Ev (fun k => plan_Waste.f k a e w) n → n = nW w e - nW w a := by
  intro n hn
  obtain ⟨d, d1, d2, d3, d4⟩ := less_f [⟨a, e⟩] w (by simp) (by omega) ⟨show -1 < a by omega, h1, h2, trivial⟩ cw
  have hL := less_spec [⟨a, e⟩] (-1) (-1) w ⟨show -1 < a by omega, h1, h2, trivial⟩ cw
  have hd : d = lessL [⟨a, e⟩] w := canon_ext d2 hL.1 fun z => by rw [d3, hL.2]
  have hdl : d.length < 100000000000 := by simp at d4; omega
  have h5 : Ev (fun k => plan_Waste.f k a e w) (lenL 0 d) := by
   have hr : (0 ≤ a ∧ a ≤ e ∧ e ≤ 4611686018427387904) := by omega
   refine Ev.congr (g := fun k => (ranges_Of.f k [⟨a, e⟩]).bind fun t => (ranges_Set_Less.f k t w).bind fun t => (ranges_Set_Len.f k t).bind fun t => some t) (fun k => by unfold plan_Waste.f; rw [right_f, decide_eq_true hr]; rfl) ?_
   refine Ev.bind (f := fun k => ranges_Of.f k [⟨a, e⟩]) (g := fun k t => (ranges_Set_Less.f k t w).bind fun t => (ranges_Set_Len.f k t).bind fun t => some t) (of_one h0 h1 h2) ?_
   refine Ev.bind (f := fun k => ranges_Set_Less.f k [⟨a, e⟩] w) (g := fun k t => (ranges_Set_Len.f k t).bind fun t => some t) d1 ?_
   exact Ev.bind (f := fun k => ranges_Set_Len.f k d) (g := fun _ t => some t) (len_f hdl d2) (Ev.all fun _ => rfl)
  rw [hn.unique h5, hd]
  show lenL 0 (cutS e a (skipS a w) ++ []) = _
  rw [List.append_nil, skip_count a e w 0 0 cw h0 h1 h3]
  unfold nW; omega
 obtain ⟨m, m1, m2⟩ := waste_same ⟨a, e⟩ w hw cw
 have := hv m m1
 subst this
 exact ⟨m1, m2⟩
end Go.Proofs.Ytnaalaakhdbfbaa.XP
