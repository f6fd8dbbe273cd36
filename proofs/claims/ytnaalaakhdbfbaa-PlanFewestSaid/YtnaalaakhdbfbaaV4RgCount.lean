/- How many bytes below a byte a set hasn't: plain Lean; the waste of a span is a difference of two such. -/
import Derived.Test.YtnaalaakhdbfbaaV4RgLen
import Derived.Test.YtnaalaakhdbfbaaV4RgFirst
set_option linter.unusedVariables false
set_option linter.unusedSimpArgs false
namespace Go.Proofs.Ytnaalaakhdbfbaa.XP
open Go.RowKit Go.Proofs.YtnaalaakhdbfbaaW.PrintWords Go.Proofs.YtnaalaakhdbfbaaW.PrintLast Go.Proofs.YtnaalaakhdbfbaaW.PrintMore
/-- So many bytes from `p` on, below `z`, are in none of the spans. -/
def nonW : Int → List Sp → Int → Int
 | p, [], z => z - p
 | p, x :: l, z => if z ≤ x.f0 then z - p else (x.f0 - p) + (if z ≤ x.f1 then 0 else nonW x.f1 l z)
theorem nonW_mono (w : List Sp) : ∀ p z z', Canon (p - 1) w → p ≤ z → z ≤ z' → nonW p w z ≤ nonW p w z' ∧ nonW p w z' - nonW p w z ≤ z' - z ∧ 0 ≤ nonW p w z := by
 induction w with
 | nil => intro p z z' _ _ _; simp only [nonW]; omega
 | cons x l ih =>
  intro p z z' hc h0 h1
  obtain ⟨c1, c2, c3, c4⟩ := hc
  have hc' : Canon (x.f1 - 1) l := canon_weak c4 (by omega)
  simp only [nonW]
  by_cases a1 : z' ≤ x.f0
  ·rw [if_pos a1, if_pos (by omega)]; omega
  ·rw [if_neg a1]
   by_cases a2 : z' ≤ x.f1
   ·rw [if_pos a2]
    by_cases a3 : z ≤ x.f0
    ·rw [if_pos a3]; omega
    ·rw [if_neg a3, if_pos (by omega)]; omega
   ·rw [if_neg a2]
    by_cases a3 : z ≤ x.f0
    ·rw [if_pos a3]
     have := ih x.f1 x.f1 z' hc' (Int.le_refl _) (by omega)
     have h0 : nonW x.f1 l x.f1 = 0 := by
      cases l with
      | nil => simp [nonW]
      | cons y l => simp only [nonW]; rw [if_pos (by have := c4.1; omega)]; omega
     omega
    ·rw [if_neg a3]
     by_cases a4 : z ≤ x.f1
     ·rw [if_pos a4]
      have := ih x.f1 x.f1 z' hc' (Int.le_refl _) (by omega)
      have h0 : nonW x.f1 l x.f1 = 0 := by
       cases l with
       | nil => simp [nonW]
       | cons y l => simp only [nonW]; rw [if_pos (by have := c4.1; omega)]; omega
      omega
     ·rw [if_neg a4]
      have := ih x.f1 z z' hc' (by omega) h1
      omega
theorem nonW_in (w : List Sp) : ∀ p x z, Canon (p - 1) w → x ∈ w → x.f0 ≤ z → z ≤ x.f1 → nonW p w z = nonW p w x.f0 := by
 induction w with
 | nil => intro p x z _ h; simp at h
 | cons y l ih =>
  intro p x z hc hx h0 h1
  obtain ⟨c1, c2, c3, c4⟩ := hc
  have hc' : Canon (y.f1 - 1) l := canon_weak c4 (by omega)
  rcases List.mem_cons.1 hx with rfl | hx
  ·simp only [nonW]
   rw [if_pos (Int.le_refl _)]
   by_cases a1 : z ≤ x.f0
   ·rw [if_pos a1]; omega
   ·rw [if_neg a1, if_pos h1]; omega
  ·have hb := canon_behind c4 x hx
   have := ih y.f1 x z hc' hx h0 h1
   simp only [nonW]
   rw [if_neg (by omega), if_neg (by omega), if_neg (by omega), if_neg (by omega), this]
theorem nonW_gap (w : List Sp) : ∀ p z z', Canon (p - 1) w → p ≤ z → z ≤ z' → (∀ y, z ≤ y → y < z' → ¬ InS w y) → nonW p w z' = nonW p w z + (z' - z) := by
 induction w with
 | nil => intro p z z' _ _ _ _; simp only [nonW]; omega
 | cons x l ih =>
  intro p z z' hc h0 h1 hg
  obtain ⟨c1, c2, c3, c4⟩ := hc
  have hc' : Canon (x.f1 - 1) l := canon_weak c4 (by omega)
  simp only [nonW]
  by_cases a1 : z' ≤ x.f0
  ·rw [if_pos a1, if_pos (by omega)]; omega
  ·by_cases a3 : z < x.f1
   ·by_cases e : z = z'
    ·subst e; omega
    ·exact absurd ((inS_cons _ _ _).2 (.inl ⟨by omega, by omega⟩)) (hg (max z x.f0) (by omega) (by omega))
   ·have h := ih x.f1 z z' hc' (by omega) h1 (fun y h2 h3 h4 => hg y h2 h3 ((inS_cons _ _ _).2 (.inr h4)))
    rw [if_neg a1, if_neg (show ¬ z ≤ x.f0 by omega)]
    by_cases e : z' ≤ x.f1
    ·rw [if_pos e, if_pos (show z ≤ x.f1 by omega)]; omega
    ·rw [if_neg e]
     by_cases e2 : z ≤ x.f1
     ·rw [if_pos e2]
      have ez : z = x.f1 := by omega
      subst ez
      have h0 : nonW x.f1 l x.f1 = 0 := by
       cases l with
       | nil => simp [nonW]
       | cons y l => simp only [nonW]; rw [if_pos (by have := c4.1; omega)]; omega
      omega
     ·rw [if_neg e2]; omega
/-- What is cut out of a span, counted. -/
theorem cut_count (e : Int) (b : List Sp) : ∀ p acc, Canon (p - 1) b → p ≤ e → (e < 4611686018427387904 ∨ ∃ x ∈ b, x.f0 < e ∧ e ≤ x.f1) → lenL acc (cutS e p b) = acc + nonW p b e := by
 induction b with
 | nil =>
  intro p acc _ hp he
  have he : e < 4611686018427387904 := he.elim id (fun ⟨x, h, _⟩ => by simp at h)
  simp only [cutS, nonW]
  by_cases h : p < e
  ·rw [if_pos h]; simp only [lenL]; rw [if_neg (show ¬ e = 4611686018427387904 by omega)]
  ·rw [if_neg h]; simp only [lenL]; omega
 | cons t r ih =>
  intro p acc hc hp he
  obtain ⟨c1, c2, c3, c4⟩ := hc
  unfold top at c3
  have hc' : Canon (t.f1 - 1) r := canon_weak c4 (by omega)
  simp only [cutS, nonW]
  by_cases h : t.f0 < e
  ·rw [if_pos h, if_neg (show ¬ e ≤ t.f0 by omega)]
   have hcat : ∀ m, lenL acc ((if p < t.f0 then [⟨p, t.f0⟩] else []) ++ m) = lenL (acc + (t.f0 - p)) m := by
    intro m
    by_cases hq : p < t.f0
    ·rw [if_pos hq]
     show lenL acc (⟨p, t.f0⟩ :: m) = _
     simp only [lenL]; rw [if_neg (show ¬ t.f0 = 4611686018427387904 by omega)]
    ·rw [if_neg hq]
     have : t.f0 - p = 0 := by omega
     rw [this, Int.add_zero]; rfl
   rw [hcat]
   by_cases h2 : e ≤ t.f1
   ·rw [if_pos h2, Int.min_eq_right h2]
    have : cutS e e r = [] := by
     cases r with
     | nil => simp [cutS]
     | cons y r => simp only [cutS]; rw [if_neg (by have := c4.1; omega), if_neg (by omega)]
    rw [this]; simp only [lenL]; omega
   ·rw [if_neg h2, Int.min_eq_left (by omega), ih t.f1 _ hc' (by omega) ?_]
    ·omega
    ·rcases he with he | ⟨x, hx, h3, h4⟩
     ·exact .inl he
     ·rcases List.mem_cons.1 hx with rfl | hx
      ·omega
      ·exact .inr ⟨x, hx, h3, h4⟩
  ·have he : e < 4611686018427387904 := by omega
   rw [if_neg h, if_pos (show e ≤ t.f0 by omega)]
   by_cases h3 : p < e
   ·rw [if_pos h3]; simp only [lenL]; rw [if_neg (show ¬ e = 4611686018427387904 by omega)]
   ·rw [if_neg h3]; simp only [lenL]; omega
theorem skip_count (a e : Int) (b : List Sp) : ∀ p acc, Canon (p - 1) b → p ≤ a → a < e → (e < 4611686018427387904 ∨ ∃ x ∈ b, x.f0 < e ∧ e ≤ x.f1) → lenL acc (cutS e a (skipS a b)) = acc + (nonW p b e - nonW p b a) := by
 induction b with
 | nil =>
  intro p acc _ hp hae he
  simp only [skipS]
  rw [cut_count e [] a acc trivial (by omega) he]; simp only [nonW]; omega
 | cons t r ih =>
  intro p acc hc hp hae he
  have hcc := hc
  obtain ⟨c1, c2, c3, c4⟩ := hc
  unfold top at c3
  have hc' : Canon (t.f1 - 1) r := canon_weak c4 (by omega)
  simp only [skipS]
  by_cases h : t.f1 ≤ a
  ·rw [if_pos h]
   rw [ih t.f1 acc hc' h hae ?_]
   ·simp only [nonW]
    rw [if_neg (by omega), if_neg (by omega), if_neg (show ¬ a ≤ t.f0 by omega)]
    by_cases h2 : a ≤ t.f1
    ·rw [if_pos h2]
     have : a = t.f1 := by omega
     subst this
     have hz : nonW t.f1 r t.f1 = 0 := by
      cases r with
      | nil => simp [nonW]
      | cons y r => simp only [nonW]; rw [if_pos (by have := c4.1; omega)]; omega
     omega
    ·rw [if_neg h2]; omega
   ·rcases he with he | ⟨x, hx, h3, h4⟩
    ·exact .inl he
    ·rcases List.mem_cons.1 hx with rfl | hx
     ·omega
     ·exact .inr ⟨x, hx, h3, h4⟩
  ·rw [if_neg h]
   by_cases h2 : a ≤ t.f0
   ·rw [cut_count e (t :: r) a acc (canon_weak (lo := a - 1) ⟨by omega, c2, c3, c4⟩ (Int.le_refl _)) (by omega) he]
    simp only [nonW]
    rw [if_pos h2]
    by_cases h3 : e ≤ t.f0
    ·rw [if_pos h3, if_pos h3]; omega
    ·rw [if_neg h3, if_neg h3]; omega
   ·simp only [cutS, nonW]
    by_cases h5 : t.f0 < e
    ·rw [if_pos h5, if_neg (show ¬ a < t.f0 by omega), if_neg (show ¬ e ≤ t.f0 by omega), if_neg h2, if_pos (show a ≤ t.f1 by omega)]
     show lenL acc (cutS e (min t.f1 e) r) = _
     by_cases h6 : e ≤ t.f1
     ·rw [if_pos h6, Int.min_eq_right h6]
      have : cutS e e r = [] := by
       cases r with
       | nil => simp [cutS]
       | cons y r => simp only [cutS]; rw [if_neg (by have := c4.1; omega), if_neg (by omega)]
      rw [this]; simp only [lenL]; omega
     ·rw [if_neg h6, Int.min_eq_left (by omega), cut_count e r t.f1 acc hc' (by omega) ?_]
      ·omega
      ·rcases he with he | ⟨x, hx, h3, h4⟩
       ·exact .inl he
       ·rcases List.mem_cons.1 hx with rfl | hx
        ·omega
        ·exact .inr ⟨x, hx, h3, h4⟩
    ·omega
end Go.Proofs.Ytnaalaakhdbfbaa.XP
