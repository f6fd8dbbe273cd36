/- How many bytes below a byte a set hasn't: plain Lean; the waste of a span is a difference of two such. -/
import Derived.Test.YtnaalaakhdbfbaaV3RgLen
import Derived.Test.YtnaalaakhdbfbaaV3RgFirst
set_option linter.unusedVariables false
set_option linter.unusedSimpArgs false
namespace Go.Proofs.Ytnaalaakhdbfbaa.XP
open Go.RowKit Go.Proofs.YtnaalaakhdbfbaaW.PrintWords Go.Proofs.YtnaalaakhdbfbaaW.PrintLast Go.Proofs.YtnaalaakhdbfbaaW.PrintMore
/-- So many bytes from `p` on, below `z`, are in none of the spans. -/
def nonW : Int → List Sp → Int → Int
 | p, [], z => z - p
 | p, x :: l, z => if z ≤ x.f0 then z - p else (x.f0 - p) + (if z ≤ x.f1 then 0 else nonW x.f1 l z)
theorem nonW_mono (w : List Sp) : ∀ p z z', Canon (p - 1) w → p ≤ z → z ≤ z' → nonW p w z ≤ nonW p w z' ∧ nonW p w z' - nonW p w z ≤ z' - z ∧ 0 ≤ nonW p w z := by
 induction w with
 | nil => intro p z z' _ _ _; simp only [nonW]; omega
 | cons x l ih =>
  intro p z z' hc h0 h1
  obtain ⟨c1, c2, c3, c4⟩ := hc
  have hc' : Canon (x.f1 - 1) l := canon_weak c4 (by omega)
  simp only [nonW]
  by_cases a1 : z' ≤ x.f0
  ·rw [if_pos a1, if_pos (by omega)]; omega
  ·rw [if_neg a1]
   by_cases a2 : z' ≤ x.f1
   ·rw [if_pos a2]
    by_cases a3 : z ≤ x.f0
    ·rw [if_pos a3]; omega
    ·rw [if_neg a3, if_pos (by omega)]; omega
   ·rw [if_neg a2]
    by_cases a3 : z ≤ x.f0
    ·rw [if_pos a3]
     have := ih x.f1 x.f1 z' hc' (Int.le_refl _) (by omega)
     have h0 : nonW x.f1 l x.f1 = 0 := by
      cases l with
      | nil => simp [nonW]
      | cons y l => simp only [nonW]; rw [if_pos (by have := c4.1; omega)]; omega
     omega
    ·rw [if_neg a3]
     by_cases a4 : z ≤ x.f1
     ·rw [if_pos a4]
      have := ih x.f1 x.f1 z' hc' (Int.le_refl _) (by omega)
      have h0 : nonW x.f1 l x.f1 = 0 := by
       cases l with
       | nil => simp [nonW]
       | cons y l => simp only [nonW]; rw [if_pos (by have := c4.1; omega)]; omega
      omega
     ·rw [if_neg a4]
      have := ih x.f1 z z' hc' (by omega) h1
      omega
theorem nonW_in (w : List Sp) : ∀ p x z, Canon (p - 1) w → x ∈ w → x.f0 ≤ z → z ≤ x.f1 → nonW p w z = nonW p w x.f0 := by
 induction w with
 | nil => intro p x z _ h; simp at h
 | cons y l ih =>
  intro p x z hc hx h0 h1
  obtain ⟨c1, c2, c3, c4⟩ := hc
  have hc' : Canon (y.f1 - 1) l := canon_weak c4 (by omega)
  rcases List.mem_cons.1 hx with rfl | hx
  ·simp only [nonW]
   rw [if_pos (Int.le_refl _)]
   by_cases a1 : z ≤ x.f0
   ·rw [if_pos a1]; omega
   ·rw [if_neg a1, if_pos h1]; omega
  ·have hb := canon_behind c4 x hx
   have := ih y.f1 x z hc' hx h0 h1
   simp only [nonW]
   rw [if_neg (by omega), if_neg (by omega), if_neg (by omega), if_neg (by omega), this]
theorem nonW_gap (w : List Sp) : ∀ p z z', Canon (p - 1) w → p ≤ z → z ≤ z' → (∀ y, z ≤ y → y < z' → ¬ InS w y) → nonW p w z' = nonW p w z + (z' - z) := by
 induction w with
 | nil => intro p z z' _ _ _ _; simp only [nonW]; omega
 | cons x l ih =>
  intro p z z' hc h0 h1 hg
  obtain ⟨c1, c2, c3, c4⟩ := hc
  have hc' : Canon (x.f1 - 1) l := canon_weak c4 (by omega)
  simp only [nonW]
  by_cases a1 : z' ≤ x.f0
  ·rw [if_pos a1, if_pos (by omega)]; omega
  ·by_cases a3 : z < x.f1
   ·by_cases e : z = z'
    ·subst e; omega
    ·exact absurd ((inS_cons _ _ _).2 (.inl ⟨by omega, by omega⟩)) (hg (max z x.f0) (by omega) (by omega))
   ·have h := ih x.f1 z z' hc' (by omega) h1 (fun y h2 h3 h4 => hg y h2 h3 ((inS_cons _ _ _).2 (.inr h4)))
    rw [if_neg a1, if_neg (show ¬ z ≤ x.f0 by omega)]
    by_cases e : z' ≤ x.f1
    ·rw [if_pos e, if_pos (show z ≤ x.f1 by omega)]; omega
    ·rw [if_neg e]
     by_cases e2 : z ≤ x.f1
     ·rw [if_pos e2]
      have ez : z = x.f1 := by omega
      subst ez
      have h0 : nonW x.f1 l x.f1 = 0 := by
       cases l with
       | nil => simp [nonW]
       | cons y l => simp only [nonW]; rw [if_pos (by have := c4.1; omega)]; omega
      omega
     ·rw [if_neg e2]; omega
end Go.Proofs.Ytnaalaakhdbfbaa.XP
