/- Chains of fetches: each byte left begins one; a later start needs no more of them; how many there are. Plain Lean. -/
import Derived.Test.YtnaalaakhdbfbaaV5RgFine
set_option linter.unusedVariables false
set_option linter.unusedSimpArgs false
namespace Go.Proofs.Ytnaalaakhdbfbaa.XP
open Go.RowKit Go.Proofs.YtnaalaakhdbfbaaW.PrintWords Go.Proofs.YtnaalaakhdbfbaaW.PrintLast Go.Proofs.YtnaalaakhdbfbaaW.PrintMore
section
variable {u F M B : Int} {w fr : List Sp}
/-- How many fetches: each begins at least a unit behind the one ahead. -/
theorem chain_len (hu : 0 < u) {T : Int} (hT : ∀ z, InS w z → z < T) : ∀ (r : List Sp) (p : Int), 0 ≤ p → Chain u F M w fr p r → ∀ s t, r = s :: t → (r.length : Int) * u ≤ T - s.f0 + u - 1 := by
 intro r
 induction r with
 | nil => intro p _ _ s t e; cases e
 | cons s r ih =>
  intro p hp h s' t e
  injection e with e1 e2
  subst e1 e2
  obtain ⟨a1, a2, a3, a4, a5, a6, a7, a8, a9, ⟨y, hy, y1, y2, y3⟩, a11, a12⟩ := h
  have h1 := hT _ a4
  cases r with
  | nil => simp; omega
  | cons s2 r2 =>
   have h2 := ih s.f1 (by omega) a12 s2 r2 rfl
   obtain ⟨b1, b2, b3, b4, b5, b6⟩ := a12
   have h3 : s.f0 + u ≤ s2.f0 := by
    have e1 : Int.tmod s2.f0 u = s2.f0 % u := Int.tmod_eq_emod_of_nonneg (by omega)
    have e2 : Int.tmod s.f0 u = s.f0 % u := Int.tmod_eq_emod_of_nonneg (by omega)
    rw [e1] at b5; rw [e2] at a5
    have p1 := Int.mul_ediv_add_emod s2.f0 u
    have p2 := Int.mul_ediv_add_emod s.f0 u
    have p3 : s.f0 / u < s2.f0 / u := by
     refine Int.not_le.1 fun h => ?_
     have := Int.mul_le_mul_of_nonneg_left h (show 0 ≤ u by omega)
     omega
    have p4 := Int.mul_le_mul_of_nonneg_left (show s.f0 / u + 1 ≤ s2.f0 / u by omega) (show 0 ≤ u by omega)
    rw [Int.mul_add, Int.mul_one] at p4
    omega
   have h4 : (((s :: s2 :: r2).length : Nat) : Int) * u = (((s2 :: r2).length : Nat) : Int) * u + u := by
    rw [List.length_cons (a := s)]
    rw [Int.natCast_add, Int.add_mul]; simp
   omega
/-- A chain has all bytes of the set behind where it begins. -/
theorem chain_all : ∀ (r : List Sp) (p : Int), 0 ≤ p → Chain u F M w fr p r → ∀ z, p ≤ z → InS w z → InS (r.filter goodS) z := by
 intro r
 induction r with
 | nil => intro p _ h z hz hw; exact absurd hw (h z hz)
 | cons s r ih =>
  intro p hp h z hz hw
  obtain ⟨a1, a2, a3, a4, a5, a6, a7, a8, a9, a10, a11, a12⟩ := h
  have hg : goodS s = true := goodS_iff.2 ⟨by omega, a2, a3⟩
  rw [List.filter_cons_of_pos hg, inS_cons]
  by_cases h1 : z < s.f0
  ·exact absurd hw (a6 z hz h1)
  ·by_cases h2 : z < s.f1
   ·exact .inl ⟨by omega, h2⟩
   ·exact .inr (ih s.f1 (by omega) a12 z (by omega) hw)
end
end Go.Proofs.Ytnaalaakhdbfbaa.XP
