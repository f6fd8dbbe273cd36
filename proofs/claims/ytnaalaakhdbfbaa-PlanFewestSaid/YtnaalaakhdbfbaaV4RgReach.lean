/- How far a fetch reaches: the program's function is the plain one. -/
import Derived.Test.YtnaalaakhdbfbaaV4RgFirst
set_option linter.unusedVariables false
set_option linter.unusedSimpArgs false
namespace Go.Proofs.Ytnaalaakhdbfbaa.XP
open Go.RowKit Go.Proofs.YtnaalaakhdbfbaaW.PrintWords Go.Proofs.YtnaalaakhdbfbaaW.PrintLast Go.Proofs.YtnaalaakhdbfbaaW.PrintMore
theorem reach_l0 {u F M fr a : Int} (hu : 0 < u) (hu20 : u ≤ 1048576) (hM0 : 0 ≤ M) (hM : M ≤ 1099511627776) (ha0 : 0 ≤ a) (hfr : fr ≤ 4611686018427387904) (c3 c4 c5 c6 c7 c8 c9 : Int)
  (l : List Sp) (hl : l.length < 1000000) (hsub : ∀ x ∈ l, x.f0 < fr → x.f1 ≤ fr) (suf : List Sp) : ∀ (pre : List Sp) (best ws prev : Int), l = pre ++ suf →
  (pre = [] → prev = a ∧ ws = 0 ∧ ∀ x r, suf = x :: r → x.f0 = a) → (∀ p y, pre = p ++ [y] → prev = y.f1) → Canon (prev - 1) suf → a ≤ prev → 0 ≤ ws → ws ≤ prev - a →
  Ev (fun k => plan_reach.l0 k l fr a best ws l (l.length : Int) (pre.length : Int) u F M c3 c4 c5 c6 c7 c8 c9) (rL u F M fr a best ws prev suf) := by
 induction suf with
 | nil =>
  intro pre best ws prev e _ _ _ _ _ _
  refine Ev.now fun k => ?_
  rw [plan_reach.l0, if_neg (by rw [e]; simp)]; rfl
 | cons x suf ih =>
  intro pre best ws prev e hp0 hp1 hc hap hw0 hw1
  obtain ⟨q1, q2, q3, q4⟩ := hc
  unfold top at q3
  have hlt : pre.length < l.length := by rw [e]; simp
  have hrd : rd_T48 l (pre.length : Int) = x := by rw [e]; exact rdS_at _ _ _
  have hw : wrap64 ((pre.length : Int) + 1) = ((pre ++ [x]).length : Int) := by rw [wrap_small (by omega) (by omega)]; simp
  have hxs := hsub x (by rw [e]; simp)
  have h1 : ∀ k, plan_reach.l0 (k + 1) l fr a best ws l (l.length : Int) (pre.length : Int) u F M c3 c4 c5 c6 c7 c8 c9 = plan_reach.j1 k l fr a best (ws + (x.f0 - prev)) l (l.length : Int) (pre.length : Int) u F M c3 c4 c5 c6 c7 c8 c9 x.f0 x.f1 := by
   intro k
   rw [plan_reach.l0, if_pos (by omega), if_pos (by omega), if_pos (by omega), hrd]
   rcases List.eq_nil_or_concat pre with hp | ⟨p, y, hp⟩
   ·obtain ⟨z1, z2, z3⟩ := hp0 hp
    have z3 := z3 x suf rfl
    rw [if_neg (by rw [hp]; simp), z1, z3, z2]; simp
   ·rw [List.concat_eq_append] at hp
    have hpv := hp1 p y hp
    have hpl : (pre.length : Int) = (p.length : Int) + 1 := by rw [hp]; simp
    have hw1 : wrap64 ((pre.length : Int) - 1) = (p.length : Int) := by rw [wrap_small (by omega) (by omega)]; omega
    have hrd1 : rd_T48 l (p.length : Int) = y := by rw [e, hp, List.append_assoc]; exact rdS_at _ _ _
    rw [if_pos (by omega), hw1, if_pos (by omega), if_pos (by omega), hrd1, ← hpv, wrap_small (z := x.f0 - prev) (by omega) (by omega), wrap_small (z := ws + (x.f0 - prev)) (by omega) (by omega)]
  refine Ev.step h1 ?_
  rw [rL]
  generalize hws : ws + (x.f0 - prev) = ws'
  by_cases hbr : ws' > F ∨ fr ≤ x.f0
  ·rw [if_pos hbr]
   refine Ev.step (g := fun k => plan_reach.j2 k l fr a best ws' l (l.length : Int) (pre.length : Int) true u F M c3 c4 c5 c6 c7 c8 c9 x.f0 x.f1) (fun k => ?_) (Ev.now fun k => ?_)
   ·rw [plan_reach.j1]
    by_cases h : ws' > F
    ·rw [if_pos h]
    ·rw [if_neg h, decide_eq_true (show x.f0 ≥ fr by omega)]
   ·rw [plan_reach.j2, if_pos rfl]
  ·rw [if_neg hbr]
   have hxf := hxs (by omega)
   refine Ev.step (g := fun k => plan_reach.j2 k l fr a best ws' l (l.length : Int) (pre.length : Int) false u F M c3 c4 c5 c6 c7 c8 c9 x.f0 x.f1) (fun k => ?_) ?_
   ·rw [plan_reach.j1, if_neg (by omega), decide_eq_false (by omega)]
   by_cases ht : x.f1 = 4611686018427387904
   ·rw [if_pos ht]
    refine Ev.step (g := fun k => plan_reach.j3 k l fr a best ws' l (l.length : Int) (pre.length : Int) true u F M c3 c4 c5 c6 c7 c8 c9 x.f0 x.f1) (fun k => ?_) (Ev.now fun k => ?_)
    ·rw [plan_reach.j2, if_neg (by simp), if_pos ht, show fr = 4611686018427387904 by omega]; rfl
    ·rw [plan_reach.j3, if_pos rfl]
   ·rw [if_neg ht]
    refine Ev.step (g := fun k => plan_reach.j3 k l fr a best ws' l (l.length : Int) (pre.length : Int) false u F M c3 c4 c5 c6 c7 c8 c9 x.f0 x.f1) (fun k => ?_) ?_
    ·rw [plan_reach.j2, if_neg (by simp), if_neg ht]
    have hmn : mn x.f1 fr = x.f1 := by unfold mn; split <;> omega
    have hwa : wrap64 (x.f1 - a) = x.f1 - a := wrap_small (by omega) (by omega)
    have hwb : wrap64 (a + M) = a + M := wrap_small (by omega) (by omega)
    by_cases hm : a + M < x.f1
    ·rw [if_pos hm]
     have t0 := Int.tmod_lt_of_pos (a + M) hu
     have t1 := Int.tmod_nonneg u (show 0 ≤ a + M by omega)
     refine Ev.step (g := fun k => plan_reach.j4 k l fr a best ws' (a + M) l (l.length : Int) (pre.length : Int) u F M c3 c4 c5 c6 c7 c8 c9 x.f0 x.f1) (fun k => ?_) ?_
     ·rw [plan_reach.j3, if_neg (by simp), hmn, hwa, hwb, if_pos (by omega)]
     refine Ev.step (g := fun k => plan_reach.j5 k l fr a best ws' (a + M - Int.tmod (a + M) u) l (l.length : Int) (pre.length : Int) u F M c3 c4 c5 c6 c7 c8 c9 x.f0 x.f1) (fun k => ?_) (Ev.now fun k => ?_)
     ·rw [plan_reach.j4, if_pos hm, if_neg (by omega), wrap_small (z := a + M - Int.tmod (a + M) u) (by omega) (by omega)]
     ·rw [plan_reach.j5]
      by_cases hb : a + M - Int.tmod (a + M) u > x.f0
      ·rw [if_pos hb, if_pos hb, if_pos (by omega)]
      ·rw [if_neg hb, if_neg hb, if_pos (by omega)]
    ·rw [if_neg hm]
     refine Ev.step (g := fun k => plan_reach.j4 k l fr a best ws' x.f1 l (l.length : Int) (pre.length : Int) u F M c3 c4 c5 c6 c7 c8 c9 x.f0 x.f1) (fun k => ?_) ?_
     ·rw [plan_reach.j3, if_neg (by simp), hmn, hwa, if_neg (by omega)]
     refine Ev.step (g := fun k => plan_reach.j5 k l fr a best ws' x.f1 l (l.length : Int) (pre.length : Int) u F M c3 c4 c5 c6 c7 c8 c9 x.f0 x.f1) (fun k => ?_) ?_
     ·rw [plan_reach.j4, if_neg (by omega)]
     refine Ev.step (fun k => ?_) (ih (pre ++ [x]) x.f1 ws' x.f1 (by simp [e]) (fun h => by simp at h) (fun p y h => ?_) (canon_weak q4 (by omega)) (by omega) (by omega) (by omega))
     ·rw [plan_reach.j5, if_pos (by omega), if_neg (by omega), hw]
     ·have := (List.append_inj_right' h rfl); simp at this; rw [this]
theorem reach_f {u F M fr a : Int} (hu : 0 < u) (hu20 : u ≤ 1048576) (hM0 : 0 ≤ M) (hM : M ≤ 1099511627776) (ha0 : 0 ≤ a) (hfr : fr ≤ 4611686018427387904) (c3 c4 c5 c6 c7 c8 c9 : Int)
  (x : Sp) (l : List Sp) (hx : x.f0 = a) (hl : (x :: l).length < 1000000) (hsub : ∀ y ∈ x :: l, y.f0 < fr → y.f1 ≤ fr) (hc : Canon (a - 1) (x :: l)) :
  Ev (fun k => plan_reach.f k (x :: l) fr u F M c3 c4 c5 c6 c7 c8 c9) (rL u F M fr a a 0 a (x :: l)) := by
 refine Ev.congr (fun k => ?_) (reach_l0 hu hu20 hM0 hM ha0 hfr c3 c4 c5 c6 c7 c8 c9 (x :: l) hl hsub (x :: l) [] a 0 a rfl (fun _ => ⟨rfl, rfl, fun y r h => by simp at h; rw [← h.1]; exact hx⟩) (fun p y h => by simp at h) hc (Int.le_refl _) (Int.le_refl _) (by omega))
 unfold plan_reach.f
 have hr : rd_T48 (x :: l) 0 = x := rdS_at [] l x
 rw [if_pos (by simp), hr, hx]; rfl
end Go.Proofs.Ytnaalaakhdbfbaa.XP
