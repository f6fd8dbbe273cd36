/- How many bytes: the program's and the document's; the document's sets by name; lists that are the same. -/
import Derived.Test.YtnaalaakhdbfbaaV4XP7
import Derived.Test.YtnaalaakhdbfbaaV4XP19
import Derived.Test.YtnaalaakhdbfbaaV4XP12
import Derived.Test.YtnaalaakhdbfbaaV4RgLess
import Derived.Test.YtnaalaakhdbfbaaV4RgRefOf
set_option linter.unusedVariables false
set_option linter.unusedSimpArgs false
namespace Go.Proofs.Ytnaalaakhdbfbaa.XP
open Go.RowKit Go.Proofs.YtnaalaakhdbfbaaW.PrintWords Go.Proofs.YtnaalaakhdbfbaaW.PrintLast Go.Proofs.YtnaalaakhdbfbaaW.PrintMore
def lenL : Int → List Sp → Int
 | acc, [] => acc
 | acc, x :: l => if x.f1 = 4611686018427387904 then 4611686018427387904 else lenL (acc + (x.f1 - x.f0)) l
theorem len_l0 (l : List Sp) (hl : l.length < 100000000000) (suf : List Sp) : ∀ (pre : List Sp) (acc lo : Int), l = pre ++ suf → Canon lo suf → -1 ≤ lo → 0 ≤ acc → acc ≤ lo + 1 →
  Ev (fun k => ranges_Set_Len.l0 k acc l (l.length : Int) (pre.length : Int)) (lenL acc suf) := by
 induction suf with
 | nil =>
  intro pre acc lo e _ _ _ _
  refine Ev.now fun k => ?_
  rw [ranges_Set_Len.l0, if_neg (by rw [e]; simp)]; rfl
 | cons x suf ih =>
  intro pre acc lo e hc hlo h0 h1
  obtain ⟨c1, c2, c3, c4⟩ := hc
  unfold top at c3
  have hlt : pre.length < l.length := by rw [e]; simp
  have hrd : rd_T48 l (pre.length : Int) = x := by rw [e]; exact rdS_at _ _ _
  have hw : wrap64 ((pre.length : Int) + 1) = ((pre ++ [x]).length : Int) := by rw [wrap_small (by omega) (by omega)]; simp
  by_cases h : x.f1 = 4611686018427387904
  ·rw [lenL, if_pos h]
   refine Ev.now fun k => ?_
   rw [ranges_Set_Len.l0, if_pos (by omega), if_pos (by omega), if_pos (by omega), hrd, if_pos h]
  ·rw [lenL, if_neg h]
   refine Ev.step (fun k => ?_) (ih (pre ++ [x]) (acc + (x.f1 - x.f0)) x.f1 (by simp [e]) c4 (by omega) (by omega) (by omega))
   rw [ranges_Set_Len.l0, if_pos (by omega), if_pos (by omega), if_pos (by omega), hrd, if_neg h, hw, wrap_small (z := x.f1 - x.f0) (by omega) (by omega), wrap_small (by omega) (by omega)]
theorem len_f {l : List Sp} (hl : l.length < 100000000000) (hc : Canon (-1) l) : Ev (fun k => ranges_Set_Len.f k l) (lenL 0 l) :=
 len_l0 l hl l [] 0 (-1) rfl hc (Int.le_refl _) (Int.le_refl _) (Int.le_refl _)
theorem reflen_l0 (l : List Sp) (hl : l.length < 100000000000) (suf : List Sp) : ∀ (pre : List Sp) (acc lo : Int), l = pre ++ suf → Canon lo suf → -1 ≤ lo → 0 ≤ acc → acc ≤ lo + 1 →
  Ev (fun k => mandolineref02_Len.l0 k l acc (pre.length : Int)) (lenL acc suf) := by
 induction suf with
 | nil =>
  intro pre acc lo e _ _ _ _
  refine Ev.now fun k => ?_
  rw [mandolineref02_Len.l0, if_neg (by rw [e]; simp)]; rfl
 | cons x suf ih =>
  intro pre acc lo e hc hlo h0 h1
  obtain ⟨c1, c2, c3, c4⟩ := hc
  unfold top at c3
  have hlt : pre.length < l.length := by rw [e]; simp
  have hrd : rd_T48 l (pre.length : Int) = x := by rw [e]; exact rdS_at _ _ _
  have hw : wrap64 ((pre.length : Int) + 1) = ((pre ++ [x]).length : Int) := by rw [wrap_small (by omega) (by omega)]; simp
  by_cases h : x.f1 = 4611686018427387904
  ·rw [lenL, if_pos h]
   refine Ev.now fun k => ?_
   rw [mandolineref02_Len.l0, if_pos (by omega), if_pos (by omega), hrd, if_pos h]
  ·rw [lenL, if_neg h]
   refine Ev.step (fun k => ?_) (ih (pre ++ [x]) (acc + (x.f1 - x.f0)) x.f1 (by simp [e]) c4 (by omega) (by omega) (by omega))
   rw [mandolineref02_Len.l0, if_pos (by omega), if_pos (by omega), hrd, if_neg h, hw, show wrap64 (wrap64 (acc + x.f1) - x.f0) = acc + (x.f1 - x.f0) by rw [wrap_small (z := acc + x.f1) (by omega) (by omega), wrap_small (by omega) (by omega)]; omega]
theorem reflen_f {l : List Sp} (hl : l.length < 100000000000) (hc : Canon (-1) l) : Ev (fun k => mandolineref02_Len.f k l) (lenL 0 l) :=
 reflen_l0 l hl l [] 0 (-1) rfl hc (Int.le_refl _) (Int.le_refl _) (Int.le_refl _)
theorem lenL_pos {l : List Sp} : ∀ {lo acc : Int}, Canon lo l → 0 ≤ acc → (0 < acc ∨ l ≠ []) → 0 < lenL acc l := by
 induction l with
 | nil => intro lo acc _ _ h; exact h.elim id fun h => absurd rfl h
 | cons x l ih =>
  intro lo acc hc h0 _
  rw [lenL]
  split
  ·decide
  ·have := hc.2.1
   exact ih hc.2.2.2 (by omega) (.inl (by omega))
theorem inB_canon {l : List Sp} (h : ∀ x ∈ l, goodS x = true) (z : Int) : inB l z = true ↔ InS l z := by
 rw [inB_iff, List.filter_eq_self.2 h]
theorem inB_nil (z : Int) : inB [] z = false := rfl
theorem rOf_f (l : List Sp) (hl : l.length < 1000000) : ∃ r, Ev (fun k => mandolineref02_Of.f k l) r ∧ Canon (-1) r ∧ (∀ z, InS r z ↔ InS (l.filter goodS) z) ∧ r.length ≤ 2 * l.length := by
 obtain ⟨r, h1, h2, h3, h4⟩ := refof_f l [] 1 (.inl rfl) (by simp; omega)
 refine ⟨r, Ev.congr (fun k => ?_) h1, h2, fun z => ?_, by simpa using h4⟩
 ·unfold mandolineref02_Of.f; cases mandolineref02_of.f k l [] 1 <;> rfl
 ·rw [h3, ← inB_iff]; simp [opB, inB_nil]
/-- **The program's set of any spans is the document's.** -/
theorem of_same (l : List Sp) (hl : l.length < 1000000) : ∃ r, Ev (fun k => ranges_Of.f k l) r ∧ Ev (fun k => mandolineref02_Of.f k l) r ∧ Canon (-1) r ∧ (∀ z, InS r z ↔ InS (l.filter goodS) z) ∧ r.length ≤ l.length := by
 obtain ⟨r, h1, h2, h3, h4⟩ := of_f l hl
 obtain ⟨r', g1, g2, g3, g4⟩ := rOf_f l hl
 have e : r = r' := canon_ext h2 g2 fun a => (h3 a).trans (g3 a).symm
 subst e
 exact ⟨r, h1, g1, h2, h3, h4⟩
theorem rAnd_f (a b : List Sp) (hl : a.length + b.length < 2000000) : ∃ r, Ev (fun k => mandolineref02_And.f k a b) r ∧ Canon (-1) r ∧ (∀ z, InS r z ↔ inB a z = true ∧ inB b z = true) := by
 obtain ⟨r, h1, h2, h3, h4⟩ := refof_f a b 2 (.inr (.inl rfl)) hl
 refine ⟨r, Ev.congr (fun k => ?_) h1, h2, fun z => ?_⟩
 ·unfold mandolineref02_And.f; cases mandolineref02_of.f k a b 2 <;> rfl
 ·rw [h3]; simp [opB]
theorem rLess_f (a b : List Sp) (hl : a.length + b.length < 2000000) : ∃ r, Ev (fun k => mandolineref02_Less.f k a b) r ∧ Canon (-1) r ∧ (∀ z, InS r z ↔ inB a z = true ∧ ¬ inB b z = true) := by
 obtain ⟨r, h1, h2, h3, h4⟩ := refof_f a b 3 (.inr (.inr rfl)) hl
 refine ⟨r, Ev.congr (fun k => ?_) h1, h2, fun z => ?_⟩
 ·unfold mandolineref02_Less.f; cases mandolineref02_of.f k a b 3 <;> rfl
 ·rw [h3]; simp [opB]
theorem and_same (a b : List Sp) (ha : a.length < 100000) (hb : b.length < 100000) (ca : Canon (-1) a) (cb : Canon (-1) b) :
  ∃ r, Ev (fun k => ranges_Set_And.f k a b) r ∧ Ev (fun k => mandolineref02_And.f k a b) r ∧ Canon (-1) r ∧ (∀ z, InS r z ↔ InS a z ∧ InS b z) ∧ r.length ≤ a.length + b.length := by
 obtain ⟨r, h1, h2, h3, h4⟩ := and_f a b (by omega) (by omega) ca cb
 obtain ⟨r', g1, g2, g3⟩ := rAnd_f a b (by omega)
 have e : r = r' := canon_ext h2 g2 fun z => by rw [h3, g3, inB_canon (canon_good ca (Int.le_refl _)), inB_canon (canon_good cb (Int.le_refl _))]
 subst e
 exact ⟨r, h1, g1, h2, h3, h4⟩
theorem less_same (a b : List Sp) (ha : a.length < 100000) (hb : b.length < 100000) (ca : Canon (-1) a) (cb : Canon (-1) b) :
  ∃ r, Ev (fun k => ranges_Set_Less.f k a b) r ∧ Ev (fun k => mandolineref02_Less.f k a b) r ∧ Canon (-1) r ∧ (∀ z, InS r z ↔ InS a z ∧ ¬ InS b z) ∧ r.length ≤ a.length * (b.length + 1) := by
 obtain ⟨r, h1, h2, h3, h4⟩ := less_f a b (by omega) (by omega) ca cb
 obtain ⟨r', g1, g2, g3⟩ := rLess_f a b (by omega)
 have e : r = r' := canon_ext h2 g2 fun z => by rw [h3, g3, inB_canon (canon_good ca (Int.le_refl _)), inB_canon (canon_good cb (Int.le_refl _))]
 subst e
 exact ⟨r, h1, g1, h2, h3, h4⟩
end Go.Proofs.Ytnaalaakhdbfbaa.XP
