/- PlanRight: its plain law. -/
import Derived.Test.YtnaalaakhdbfbaaV3RgFine
import Derived.Test.YtnaalaakhdbfbaaV3RgHolds
import Derived.Test.YtnaalaakhdbfbaaV3XP23
import Derived.Test.YtnaalaakhdbfbaaV3XP28
import Derived.Test.YtnaalaakhdbfbaaV3XP30
set_option linter.unusedVariables false
set_option linter.unusedSimpArgs false
namespace Go.Proofs.Ytnaalaakhdbfbaa.XP
open Go.RowKit Go.Proofs.YtnaalaakhdbfbaaW.PrintWords Go.Proofs.YtnaalaakhdbfbaaW.PrintLast Go.Proofs.YtnaalaakhdbfbaaW.PrintMore
section
variable {u F M len : Int} {w fr : List Sp}
/-- One fetch is tried: the program's tests and the document's agree. -/
theorem try_same (c3 c4 c5 c6 c7 c8 c9 : Int) (hu : 4 ≤ u) (hl0 : -1 ≤ len) (hl1 : len ≤ 1099511627776) (cw : Canon (-1) w) (cf : Canon (-1) fr) (hwl : w.length < 1000) (hfl : fr.length < 1000) (l : List Sp) (n i at0 : Int) (s : Sp) :
  ∃ b : Bool, Ev (fun k => mandolineref35_Fetch.f k s.f0 s.f1 w fr len u F M c3 c4 c5 c6 c7 c8 c9) b ∧
   (b = false ∨ s.f0 < at0 → ∀ long : Bool, long = (if s.f1 = 4611686018427387904 then false else decide (wrap64 (s.f1 - s.f0) > M)) → Ev (fun k => plan_Right.j1 k l len at0 long l n i fr u F M c3 c4 c5 c6 c7 c8 c9 w s.f0 s.f1) false) ∧
   (b = true → at0 ≤ s.f0 → ∀ long : Bool, long = (if s.f1 = 4611686018427387904 then false else decide (wrap64 (s.f1 - s.f0) > M)) → ∀ r, Ev (fun k => plan_Right.l0 k l len s.f1 l n (wrap64 (i + 1)) fr u F M c3 c4 c5 c6 c7 c8 c9 w) r → Ev (fun k => plan_Right.j1 k l len at0 long l n i fr u F M c3 c4 c5 c6 c7 c8 c9 w s.f0 s.f1) r) := by
 have hobj : plan_object.f len = some (0, endL len) := by unfold plan_object.f endL; split <;> rfl
 obtain ⟨b1, w1, w2, w3⟩ := whole_same s len u hu hl0 hl1
 have hj : ∀ (long : Bool) k, plan_Right.j1 (k + 1) l len at0 long l n i fr u F M c3 c4 c5 c6 c7 c8 c9 w s.f0 s.f1 = if b1 = true then (if s.f0 < at0 then some false else if long = true then some false else (ranges_Set_Holds.f fr s.f0 s.f1).bind fun t693 => if t693 = true then (plan_Waste.f k s.f0 s.f1 w).bind fun t694 => if t694 > F then some false else plan_Right.l0 k l len s.f1 l n (wrap64 (i + 1)) fr u F M c3 c4 c5 c6 c7 c8 c9 w else some false) else some false := by
  intro long k
  rw [plan_Right.j1, hobj]
  simp only [Option.bind_some, w2]
 have hf : ∀ k, mandolineref35_Fetch.f k s.f0 s.f1 w fr len u F M c3 c4 c5 c6 c7 c8 c9 = if b1 = true then (mandolineref02_Holds.f k fr s.f0 s.f1).bind fun t437 => if t437 = true then (if s.f1 = 4611686018427387904 then (mandolineref35_Waste.f k s.f0 s.f1 w).bind fun t438 => some (decide (t438 ≤ F)) else if wrap64 (s.f1 - s.f0) ≤ M then (mandolineref35_Waste.f k s.f0 s.f1 w).bind fun t439 => some (decide (t439 ≤ F)) else some false) else some false else some false := by
  intro k
  unfold mandolineref35_Fetch.f
  rw [w3]; rfl
 cases b1 with
 | false =>
  refine ⟨false, Ev.all fun k => by rw [hf]; rfl, fun _ long _ => Ev.now fun k => by rw [hj]; rfl, fun h => by cases h⟩
 | true =>
  obtain ⟨hs, _⟩ := w1 rfl
  obtain ⟨g0, g1, g2⟩ := goodS_iff.1 hs
  obtain ⟨b2, _, h2, h3⟩ := holds_same fr s hfl cf hs
  obtain ⟨m, m1, m2⟩ := waste_same s w (by omega) cw
  simp only [if_true, h2, Option.bind_some] at hj
  simp only [if_true] at hf
  cases b2 with
  | false =>
   refine ⟨false, ?_, fun _ long _ => Ev.now fun k => ?_, fun h => by cases h⟩
   ·refine Ev.congr hf (Ev.bind (f := fun k => mandolineref02_Holds.f k fr s.f0 s.f1) (a := false) (g := fun k t437 => if t437 = true then (if s.f1 = 4611686018427387904 then (mandolineref35_Waste.f k s.f0 s.f1 w).bind fun t438 => some (decide (t438 ≤ F)) else if wrap64 (s.f1 - s.f0) ≤ M then (mandolineref35_Waste.f k s.f0 s.f1 w).bind fun t439 => some (decide (t439 ≤ F)) else some false) else some false) h3 (Ev.all fun k => rfl))
   ·rw [hj]
    split
    ·rfl
    ·split
     ·rfl
     ·rfl
  | true =>
   simp only [if_true] at hj
   -- what the document's test comes to
   have hF : ∀ c : Bool, (c = (decide (s.f1 = 4611686018427387904) || decide (wrap64 (s.f1 - s.f0) ≤ M))) → Ev (fun k => mandolineref35_Fetch.f k s.f0 s.f1 w fr len u F M c3 c4 c5 c6 c7 c8 c9) (c && decide (m ≤ F)) := by
    intro c hc
    refine Ev.congr hf (Ev.bind (f := fun k => mandolineref02_Holds.f k fr s.f0 s.f1) (a := true) (g := fun k t437 => if t437 = true then (if s.f1 = 4611686018427387904 then (mandolineref35_Waste.f k s.f0 s.f1 w).bind fun t438 => some (decide (t438 ≤ F)) else if wrap64 (s.f1 - s.f0) ≤ M then (mandolineref35_Waste.f k s.f0 s.f1 w).bind fun t439 => some (decide (t439 ≤ F)) else some false) else some false) h3 ?_)
    simp only [if_true]
    have hW : Ev (fun k => (mandolineref35_Waste.f k s.f0 s.f1 w).bind fun t438 => some (decide (t438 ≤ F))) (decide (m ≤ F)) := Ev.bind (f := fun k => mandolineref35_Waste.f k s.f0 s.f1 w) (g := fun _ t438 => some (decide (t438 ≤ F))) m2 (Ev.all fun k => rfl)
    by_cases ht : s.f1 = 4611686018427387904
    ·rw [hc]; simp only [ht, decide_true, Bool.true_or, Bool.true_and, if_true] at hW ⊢; exact hW
    ·by_cases hm : wrap64 (s.f1 - s.f0) ≤ M
     ·rw [hc, decide_eq_true hm, decide_eq_false ht]
      simp only [if_neg ht, if_pos hm, Bool.false_or, Bool.true_and]; exact hW
     ·rw [hc, decide_eq_false hm, decide_eq_false ht]
      simp only [if_neg ht, if_neg hm]; exact Ev.all fun k => rfl
   refine ⟨_, hF _ rfl, fun hb long hlong => ?_, fun hb hat long hlong r hr => ?_⟩
   ·by_cases hat : s.f0 < at0
    ·exact Ev.now fun k => by rw [hj, if_pos hat]
    ·have hb := hb.resolve_right hat
     by_cases hl : long = true
     ·exact Ev.now fun k => by rw [hj, if_neg hat, if_pos hl]
     ·refine Ev.step (g := fun k => (plan_Waste.f k s.f0 s.f1 w).bind fun t694 => if t694 > F then some false else plan_Right.l0 k l len s.f1 l n (wrap64 (i + 1)) fr u F M c3 c4 c5 c6 c7 c8 c9 w) (fun k => by rw [hj, if_neg hat, if_neg hl]) ?_
      refine Ev.bind (f := fun k => plan_Waste.f k s.f0 s.f1 w) (g := fun k t694 => if t694 > F then some false else plan_Right.l0 k l len s.f1 l n (wrap64 (i + 1)) fr u F M c3 c4 c5 c6 c7 c8 c9 w) m1 ?_
      have hmF : m > F := by
       rw [hlong] at hl
       by_cases ht : s.f1 = 4611686018427387904
       ·simp [ht] at hb; omega
       ·rw [if_neg ht] at hl
        have hm : wrap64 (s.f1 - s.f0) ≤ M := by simp at hl; omega
        simp [ht, hm] at hb; omega
      exact Ev.all fun k => by rw [if_pos hmF]
   ·have hl : ¬ long = true := by
     rw [hlong]
     by_cases ht : s.f1 = 4611686018427387904
     ·rw [if_pos ht]; simp
     ·rw [if_neg ht]
      simp [ht] at hb
      simp; omega
    have hmF : ¬ m > F := by
     have := (Bool.and_eq_true_iff.1 hb).2
     have := of_decide_eq_true this; omega
    refine Ev.step (g := fun k => (plan_Waste.f k s.f0 s.f1 w).bind fun t694 => if t694 > F then some false else plan_Right.l0 k l len s.f1 l n (wrap64 (i + 1)) fr u F M c3 c4 c5 c6 c7 c8 c9 w) (fun k => by rw [hj, if_neg (by omega), if_neg hl]) ?_
    refine Ev.bind (f := fun k => plan_Waste.f k s.f0 s.f1 w) (g := fun k t694 => if t694 > F then some false else plan_Right.l0 k l len s.f1 l n (wrap64 (i + 1)) fr u F M c3 c4 c5 c6 c7 c8 c9 w) m1 ?_
    simp only [if_neg hmF]; exact hr
theorem right_loop (c3 c4 c5 c6 c7 c8 c9 : Int) (hu : 4 ≤ u) (hl0 : -1 ≤ len) (hl1 : len ≤ 1099511627776) (cw : Canon (-1) w) (cf : Canon (-1) fr) (hwl : w.length < 1000) (hfl : fr.length < 1000) {hb : Bool} (hh : Ev (fun k => mandolineref35_held.f k w fr) hb)
  (l : List Sp) (hl : l.length < 1000) (suf : List Sp) : ∀ (pre : List Sp) (at0 : Int), l = pre ++ suf →
  ∃ r : Bool, Ev (fun k => plan_Right.l0 k l len at0 l (l.length : Int) (pre.length : Int) fr u F M c3 c4 c5 c6 c7 c8 c9 w) r ∧ Ev (fun k => mandolineref35_Right.l0 k l fr len w at0 l (l.length : Int) (pre.length : Int) u F M c3 c4 c5 c6 c7 c8 c9) (r && !hb) := by
 induction suf with
 | nil =>
  intro pre at0 e
  have ee : pre = l := by rw [e, List.append_nil]
  subst ee
  obtain ⟨o, o1, o2, o3, o4⟩ := of_f pre (by omega)
  obtain ⟨d, d1, d2, d3, d4⟩ := less_f w o (by omega) (by omega) cw o2
  obtain ⟨d', e1, e2, e3⟩ := rLess_f w pre (by omega)
  have hd : d' = d := canon_ext e2 d2 fun z => by
   rw [e3, d3, o3, inB_canon (canon_good cw (Int.le_refl _)), inB_iff]
  subst hd
  have hdl : d'.length < 100000000000 := by
   have h1 : w.length * (o.length + 1) ≤ 1000 * (o.length + 1) := Nat.mul_le_mul_right _ (by omega)
   omega
  have hz : (lenL 0 d' == 0) = ((d'.length : Int) == 0) := by
   cases d' with
   | nil => rfl
   | cons x y =>
    have := lenL_pos (acc := 0) e2 (Int.le_refl _) (.inr (by simp))
    rw [beq_eq_false_iff_ne.2 (by omega), beq_eq_false_iff_ne.2 (by simp; omega)]
  refine ⟨lenL 0 d' == 0, ?_, ?_⟩
  ·refine Ev.step (g := fun k => (ranges_Of.f k pre).bind fun t681 => (ranges_Set_Less.f k w t681).bind fun t684 => (ranges_Set_Len.f k t684).bind fun t687 => some (t687 == 0)) (fun k => by rw [plan_Right.l0, if_neg (by simp)]) ?_
   refine Ev.bind (f := fun k => ranges_Of.f k pre) (g := fun k t681 => (ranges_Set_Less.f k w t681).bind fun t684 => (ranges_Set_Len.f k t684).bind fun t687 => some (t687 == 0)) o1 ?_
   refine Ev.bind (f := fun k => ranges_Set_Less.f k w o) (g := fun k t684 => (ranges_Set_Len.f k t684).bind fun t687 => some (t687 == 0)) d1 ?_
   exact Ev.bind (f := fun k => ranges_Set_Len.f k d') (g := fun k t687 => some (t687 == 0)) (len_f hdl e2) (Ev.all fun k => rfl)
  ·refine Ev.step (g := fun k => (mandolineref35_held.f k w fr).bind fun t498 => if t498 = true then some false else (mandolineref02_Less.f k w pre).bind fun t499 => some ((t499.length : Int) == 0)) (fun k => by rw [mandolineref35_Right.l0, if_neg (by simp)]) ?_
   refine Ev.bind (f := fun k => mandolineref35_held.f k w fr) (g := fun k t498 => if t498 = true then some false else (mandolineref02_Less.f k w pre).bind fun t499 => some ((t499.length : Int) == 0)) hh ?_
   cases hb with
   | true => rw [Bool.not_true, Bool.and_false]; exact Ev.all fun k => rfl
   | false =>
    rw [Bool.not_false, Bool.and_true, hz]
    exact Ev.bind (f := fun k => mandolineref02_Less.f k w pre) (g := fun k t499 => some ((t499.length : Int) == 0)) e1 (Ev.all fun k => rfl)
 | cons s suf ih =>
  intro pre at0 e
  have hlt : pre.length < l.length := by rw [e]; simp
  have hrd : rd_T48 l (pre.length : Int) = s := by rw [e]; exact rdS_at _ _ _
  have hw : wrap64 ((pre.length : Int) + 1) = ((pre ++ [s]).length : Int) := by rw [wrap_small (by omega) (by omega)]; simp
  obtain ⟨b, b1, b2, b3⟩ := try_same (F := F) (M := M) c3 c4 c5 c6 c7 c8 c9 hu hl0 hl1 cw cf hwl hfl l (l.length : Int) (pre.length : Int) at0 s
  have hp : ∀ k, plan_Right.l0 (k + 1) l len at0 l (l.length : Int) (pre.length : Int) fr u F M c3 c4 c5 c6 c7 c8 c9 w = plan_Right.j1 k l len at0 (if s.f1 = 4611686018427387904 then false else decide (wrap64 (s.f1 - s.f0) > M)) l (l.length : Int) (pre.length : Int) fr u F M c3 c4 c5 c6 c7 c8 c9 w s.f0 s.f1 := by
   intro k
   rw [plan_Right.l0, if_pos (by omega), if_pos (by omega), if_pos (by omega), hrd]
   split <;> rfl
  have hq : ∀ k, mandolineref35_Right.l0 (k + 1) l fr len w at0 l (l.length : Int) (pre.length : Int) u F M c3 c4 c5 c6 c7 c8 c9 = (mandolineref35_Fetch.f k s.f0 s.f1 w fr len u F M c3 c4 c5 c6 c7 c8 c9).bind fun t497 => if t497 = true then (if s.f0 < at0 then some false else mandolineref35_Right.l0 k l fr len w s.f1 l (l.length : Int) ((pre ++ [s]).length : Int) u F M c3 c4 c5 c6 c7 c8 c9) else some false := by
   intro k
   rw [mandolineref35_Right.l0, if_pos (by omega), if_pos (by omega), if_pos (by omega), hrd, hw]
  by_cases hc : b = true ∧ at0 ≤ s.f0
  ·obtain ⟨r, r1, r2⟩ := ih (pre ++ [s]) s.f1 (by simp [e])
   refine ⟨r, Ev.step hp (b3 hc.1 hc.2 _ rfl r (by rw [hw]; exact r1)), Ev.step hq (Ev.bind (f := fun k => mandolineref35_Fetch.f k s.f0 s.f1 w fr len u F M c3 c4 c5 c6 c7 c8 c9) (g := fun k t497 => if t497 = true then (if s.f0 < at0 then some false else mandolineref35_Right.l0 k l fr len w s.f1 l (l.length : Int) ((pre ++ [s]).length : Int) u F M c3 c4 c5 c6 c7 c8 c9) else some false) b1 ?_)⟩
   have h1 : ¬ s.f0 < at0 := by omega
   simp only [hc.1, if_true, if_neg h1]
   exact r2
  ·refine ⟨false, Ev.step hp (b2 (by rcases Bool.eq_false_or_eq_true b with h | h; exact .inr (by have : ¬ at0 ≤ s.f0 := fun h2 => hc ⟨h, h2⟩; omega); exact .inl h) _ rfl), Ev.step hq (Ev.bind (f := fun k => mandolineref35_Fetch.f k s.f0 s.f1 w fr len u F M c3 c4 c5 c6 c7 c8 c9) (g := fun k t497 => if t497 = true then (if s.f0 < at0 then some false else mandolineref35_Right.l0 k l fr len w s.f1 l (l.length : Int) ((pre ++ [s]).length : Int) u F M c3 c4 c5 c6 c7 c8 c9) else some false) b1 ?_)⟩
   rw [Bool.false_and]
   cases b with
   | false => exact Ev.all fun k => rfl
   | true =>
    have h1 : s.f0 < at0 := by have : ¬ at0 ≤ s.f0 := fun h2 => hc ⟨rfl, h2⟩; omega
    simp only [if_true, if_pos h1]
    exact Ev.all fun k => rfl
end
theorem planRight_f (l0 l1 : List Sp) (hl0 : l0.length ≤ 9223372036854775807) (hl1 : l1.length ≤ 9223372036854775807) (len u F M c3 c4 c5 c6 c7 c8 c9 : Int) (l2 : List Sp) : Ev (fun k => mandolinelaw35_PlanRight.f k l0 l1 len u F M c3 c4 c5 c6 c7 c8 c9 l2) true := by
 obtain ⟨b, b1, b2⟩ := fine_f l0 l1 hl0 hl1 len u F M c3 c4 c5 c6 c7 c8 c9 100
 refine Ev.bind (f := fun k => mandolinelaw35_alive.f k) alive_ev ?_
 simp only [if_true]
 refine Ev.bind (f := fun k => mandolinelaw35_fine.f k l0 l1 len u F M c3 c4 c5 c6 c7 c8 c9 100) b1 ?_
 have hdone : Ev (fun k => mandolinelaw35_PlanRight.j0 k l2 true l0 l1 len u F M c3 c4 c5 c6 c7 c8 c9) true := Ev.now fun k => by rw [mandolinelaw35_PlanRight.j0, if_pos rfl]
 cases b with
 | false => exact hdone
 | true =>
  simp only [if_true]
  by_cases hlong : (l2.length : Int) > 20
  ·rw [decide_eq_true hlong]; exact hdone
  ·rw [decide_eq_false hlong]
   obtain ⟨s0, s1, s2, s3, s4⟩ := b2 rfl
   obtain ⟨g, f, w, K⟩ := known_of (len := len) (F := F) (M := M) (show (0 : Int) ≤ 100 by omega) (Int.le_refl _) s0 s1
   obtain ⟨d, d1, d2, d3, r, st, p1, p2, p3, p4⟩ := K.plan s3 c3 c4 c5 c6 c7 c8 c9
   have hheld : Ev (fun k => mandolineref35_held.f k w f) (decide ((d.length : Int) > 0)) := Ev.bind (f := fun k => mandolineref02_Less.f k w f) (g := fun k t397 => some (decide ((t397.length : Int) > 0))) d1 (Ev.all fun k => rfl)
   have hloop : okB len u F M = true → ∃ q : Bool, Ev (fun k => plan_Right.l0 k l2 len 0 l2 (l2.length : Int) 0 f u F M c3 c4 c5 c6 c7 c8 c9 w) q ∧ Ev (fun k => mandolineref35_Right.l0 k l2 f len w 0 l2 (l2.length : Int) 0 u F M c3 c4 c5 c6 c7 c8 c9) (q && !(decide ((d.length : Int) > 0))) := by
    intro hok
    obtain ⟨o1, o2, o3, o4⟩ := okB_iff hok
    have o2' : -1 ≤ len ∧ len ≤ 1099511627776 := of_decide_eq_true o2
    have hw4 := K.w4
    have hf5 := K.f5
    exact right_loop c3 c4 c5 c6 c7 c8 c9 (uB_range o1).1 o2'.1 o2'.2 K.w3 K.f3 (by omega) (by omega) hheld l2 (by omega) l2 [] 0 rfl
   -- both answers
   obtain ⟨q, q1, q2⟩ : ∃ q : Bool, Ev (fun k => plan_Right.f k l2 g f len u F M c3 c4 c5 c6 c7 c8 c9) q ∧ Ev (fun k => mandolineref35_Right.f k l2 g f len u F M c3 c4 c5 c6 c7 c8 c9) q := by
    have hprog : ∀ q : Bool, Ev (fun k => if st = 0 then (plan_Units.f k g len u).bind fun t677 => plan_Right.l0 k l2 len 0 l2 (l2.length : Int) 0 f u F M c3 c4 c5 c6 c7 c8 c9 t677 else some false) q → Ev (fun k => plan_Right.f k l2 g f len u F M c3 c4 c5 c6 c7 c8 c9) q := fun q h =>
     Ev.bind (f := fun k => plan_Plan.f k g f len u F M c3 c4 c5 c6 c7 c8 c9) (g := fun k bt673 => if bt673.2 = 0 then (plan_Units.f k g len u).bind fun t677 => plan_Right.l0 k l2 len 0 l2 (l2.length : Int) 0 f u F M c3 c4 c5 c6 c7 c8 c9 t677 else some false) p1 h
    have href : ∀ q : Bool, Ev (fun k => if okB len u F M = true then (mandolineref35_Units.f k g len u).bind fun t492 => mandolineref35_Right.l0 k l2 f len t492 0 l2 (l2.length : Int) 0 u F M c3 c4 c5 c6 c7 c8 c9 else some false) q → Ev (fun k => mandolineref35_Right.f k l2 g f len u F M c3 c4 c5 c6 c7 c8 c9) q := fun q h =>
     Ev.bind (f := fun k => mandolineref35_argOk.f k len u F M c3 c4 c5 c6 c7 c8 c9) (g := fun k t491 => if t491 = true then (mandolineref35_Units.f k g len u).bind fun t492 => mandolineref35_Right.l0 k l2 f len t492 0 l2 (l2.length : Int) 0 u F M c3 c4 c5 c6 c7 c8 c9 else some false) (argOk_f len u F M c3 c4 c5 c6 c7 c8 c9) h
    cases hok : okB len u F M with
    | false =>
     refine ⟨false, hprog _ ?_, href _ ?_⟩
     ·rw [(p2 hok).1]; exact Ev.all fun k => rfl
     ·rw [hok]; exact Ev.all fun k => rfl
    | true =>
     obtain ⟨q, q1, q2⟩ := hloop hok
     have href' : ∀ q : Bool, Ev (fun k => mandolineref35_Right.l0 k l2 f len w 0 l2 (l2.length : Int) 0 u F M c3 c4 c5 c6 c7 c8 c9) q → Ev (fun k => mandolineref35_Right.f k l2 g f len u F M c3 c4 c5 c6 c7 c8 c9) q := fun q h => href q (by
      rw [hok]; simp only [if_true]
      exact Ev.bind (f := fun k => mandolineref35_Units.f k g len u) (g := fun k t492 => mandolineref35_Right.l0 k l2 f len t492 0 l2 (l2.length : Int) 0 u F M c3 c4 c5 c6 c7 c8 c9) K.w2 h)
     by_cases hd : d = []
     ·refine ⟨q, hprog _ ?_, href' _ ?_⟩
      ·rw [(p4 hok hd).1]; simp only [if_true]
       exact Ev.bind (f := fun k => plan_Units.f k g len u) (g := fun k t677 => plan_Right.l0 k l2 len 0 l2 (l2.length : Int) 0 f u F M c3 c4 c5 c6 c7 c8 c9 t677) K.w1 q1
      ·have : (q && !(decide ((d.length : Int) > 0))) = q := by rw [hd]; cases q <;> rfl
       rw [this] at q2; exact q2
     ·refine ⟨false, hprog _ ?_, href' _ ?_⟩
      ·rw [(p3 hok hd).1]; exact Ev.all fun k => rfl
      ·have hpos : (d.length : Int) > 0 := by
        cases d with
        | nil => exact absurd rfl hd
        | cons x y => simp
       have : (q && !(decide ((d.length : Int) > 0))) = false := by rw [decide_eq_true hpos]; cases q <;> rfl
       rw [this] at q2; exact q2
   refine Ev.step (g := fun k => (mandolinelaw35_sets.f k l0 l1 len u F M c3 c4 c5 c6 c7 c8 c9).bind fun bt735 => (plan_Right.f k l2 bt735.1 bt735.2 len u F M c3 c4 c5 c6 c7 c8 c9).bind fun t743 => (mandolineref02_Of.f k l0).bind fun t744 => (mandolineref02_Of.f k l1).bind fun t747 => (mandolineref35_Right.f k l2 t744 t747 len u F M c3 c4 c5 c6 c7 c8 c9).bind fun t750 => some (t743 == t750)) (fun k => by rw [mandolinelaw35_PlanRight.j0, if_neg (by simp)]) ?_
   refine Ev.bind (f := fun k => mandolinelaw35_sets.f k l0 l1 len u F M c3 c4 c5 c6 c7 c8 c9) (a := (g, f)) (g := fun k bt735 => (plan_Right.f k l2 bt735.1 bt735.2 len u F M c3 c4 c5 c6 c7 c8 c9).bind fun t743 => (mandolineref02_Of.f k l0).bind fun t744 => (mandolineref02_Of.f k l1).bind fun t747 => (mandolineref35_Right.f k l2 t744 t747 len u F M c3 c4 c5 c6 c7 c8 c9).bind fun t750 => some (t743 == t750)) ?_ ?_
   ·refine Ev.bind (f := fun k => ranges_Of.f k l0) (g := fun k t291 => (ranges_Of.f k l1).bind fun t294 => some (t291, t294)) K.g1 ?_
    exact Ev.bind (f := fun k => ranges_Of.f k l1) (g := fun k t294 => some (g, t294)) K.f1 (Ev.all fun k => rfl)
   ·refine Ev.bind (f := fun k => plan_Right.f k l2 g f len u F M c3 c4 c5 c6 c7 c8 c9) (g := fun k t743 => (mandolineref02_Of.f k l0).bind fun t744 => (mandolineref02_Of.f k l1).bind fun t747 => (mandolineref35_Right.f k l2 t744 t747 len u F M c3 c4 c5 c6 c7 c8 c9).bind fun t750 => some (t743 == t750)) q1 ?_
    refine Ev.bind (f := fun k => mandolineref02_Of.f k l0) (g := fun k t744 => (mandolineref02_Of.f k l1).bind fun t747 => (mandolineref35_Right.f k l2 t744 t747 len u F M c3 c4 c5 c6 c7 c8 c9).bind fun t750 => some (q == t750)) K.g2 ?_
    refine Ev.bind (f := fun k => mandolineref02_Of.f k l1) (g := fun k t747 => (mandolineref35_Right.f k l2 g t747 len u F M c3 c4 c5 c6 c7 c8 c9).bind fun t750 => some (q == t750)) K.f2 ?_
    exact Ev.bind (f := fun k => mandolineref35_Right.f k l2 g f len u F M c3 c4 c5 c6 c7 c8 c9) (g := fun k t750 => some (q == t750)) q2 (Ev.all fun k => by cases q <;> rfl)
end Go.Proofs.Ytnaalaakhdbfbaa.XP
