/- What is left of a set behind a byte. Plain Lean. -/
import Derived.Test.YtnaalaakhdbfbaaV4RgGreed
set_option linter.unusedVariables false
set_option linter.unusedSimpArgs false
namespace Go.Proofs.Ytnaalaakhdbfbaa.XP
open Go.RowKit Go.Proofs.YtnaalaakhdbfbaaW.PrintWords Go.Proofs.YtnaalaakhdbfbaaW.PrintLast Go.Proofs.YtnaalaakhdbfbaaW.PrintMore
def dropTo (e : Int) : List Sp → List Sp
 | [] => []
 | x :: l => if x.f1 ≤ e then dropTo e l else ⟨max x.f0 e, x.f1⟩ :: l
theorem drop_in (e : Int) (l : List Sp) : ∀ lo, Canon lo l → ∀ z, InS (dropTo e l) z ↔ InS l z ∧ e ≤ z := by
 induction l with
 | nil => intro lo _ z; simp [dropTo, InS]
 | cons x l ih =>
  intro lo hc z
  obtain ⟨c1, c2, c3, c4⟩ := hc
  simp only [dropTo]
  by_cases h : x.f1 ≤ e
  ·rw [if_pos h, ih x.f1 c4 z, inS_cons]
   constructor
   ·rintro ⟨h1, h2⟩; exact ⟨.inr h1, h2⟩
   ·rintro ⟨h1 | h1, h2⟩
    ·omega
    ·exact ⟨h1, h2⟩
  ·rw [if_neg h, inS_cons, inS_cons]
   constructor
   ·rintro (h1 | h1)
    ·have h1 : max x.f0 e ≤ z ∧ z < x.f1 := h1
     exact ⟨.inl (by omega), by omega⟩
    ·have := canon_lb c4 h1; exact ⟨.inr h1, by omega⟩
   ·rintro ⟨h1 | h1, h2⟩
    ·exact .inl (show max x.f0 e ≤ z ∧ z < x.f1 by omega)
    ·exact .inr h1
theorem drop_canon (e : Int) (l : List Sp) : ∀ lo, Canon lo l → Canon (max lo (e - 1)) (dropTo e l) := by
 induction l with
 | nil => intro lo _; trivial
 | cons x l ih =>
  intro lo hc
  obtain ⟨c1, c2, c3, c4⟩ := hc
  simp only [dropTo]
  by_cases h : x.f1 ≤ e
  ·rw [if_pos h]; exact canon_weak (ih x.f1 c4) (by omega)
  ·rw [if_neg h]; exact ⟨show max lo (e - 1) < max x.f0 e by omega, show max x.f0 e < x.f1 by omega, c3, c4⟩
theorem drop_len (e : Int) (l : List Sp) : (dropTo e l).length ≤ l.length := by
 induction l with
 | nil => exact Nat.le_refl _
 | cons x l ih => simp only [dropTo]; split <;> simp <;> omega
theorem drop_mem (e : Int) (l : List Sp) : ∀ lo, Canon lo l → ∀ x ∈ dropTo e l, ∃ y ∈ l, y.f0 ≤ x.f0 ∧ y.f1 = x.f1 ∧ e < y.f1 ∧ (x.f0 = y.f0 ∨ x.f0 = e) := by
 induction l with
 | nil => intro lo _ x hx; simp [dropTo] at hx
 | cons y l ih =>
  intro lo hc x hx
  obtain ⟨c1, c2, c3, c4⟩ := hc
  simp only [dropTo] at hx
  by_cases h : y.f1 ≤ e
  ·rw [if_pos h] at hx
   obtain ⟨z, hz, h1⟩ := ih y.f1 c4 x hx
   exact ⟨z, List.mem_cons_of_mem _ hz, h1⟩
  ·rw [if_neg h] at hx
   rcases List.mem_cons.1 hx with rfl | hx
   ·exact ⟨y, List.mem_cons_self .., show y.f0 ≤ max y.f0 e by omega, rfl, by omega, show max y.f0 e = y.f0 ∨ max y.f0 e = e by omega⟩
   ·exact ⟨x, List.mem_cons_of_mem _ hx, Int.le_refl _, rfl, by have := canon_behind c4 x hx; omega, .inl rfl⟩
theorem canon_gap {lo : Int} {fp fs : List Sp} {b : Sp} (h : Canon lo (fp ++ b :: fs)) : ¬ InS (fp ++ b :: fs) b.f1 := by
 rintro ⟨x, hx, h1, h2⟩
 have hc := (canon_append.1 h).2
 rcases List.mem_append.1 hx with hx | hx
 ·have := canon_before h x hx; have := hc.2.1; omega
 ·rcases List.mem_cons.1 hx with rfl | hx
  ·omega
  ·have := canon_behind hc.2.2.2 x hx; omega
theorem in_split {l : List Sp} {z : Int} (h : InS l z) : ∃ p b s, l = p ++ b :: s ∧ b.f0 ≤ z ∧ z < b.f1 := by
 obtain ⟨x, hx, h1, h2⟩ := h
 obtain ⟨p, s, e⟩ := List.append_of_mem hx
 exact ⟨p, x, s, e, h1, h2⟩
theorem canon_uniq {l : List Sp} : ∀ {lo : Int}, Canon lo l → ∀ {x y : Sp} {z : Int}, x ∈ l → y ∈ l → x.f0 ≤ z → z < x.f1 → y.f0 ≤ z → z < y.f1 → x = y := by
 induction l with
 | nil => intro lo _ x y z hx; simp at hx
 | cons v l ih =>
  intro lo hc x y z hx hy h1 h2 h3 h4
  obtain ⟨c1, c2, c3, c4⟩ := hc
  rcases List.mem_cons.1 hx with rfl | hx1
  ·rcases List.mem_cons.1 hy with rfl | hy1
   ·rfl
   ·have := canon_behind c4 y hy1; omega
  ·rcases List.mem_cons.1 hy with rfl | hy1
   ·have := canon_behind c4 x hx1; omega
   ·exact ih c4 hx1 hy1 h1 h2 h3 h4
theorem rL_ge {u F M fr a : Int} (l : List Sp) : ∀ best ws prev, best ≤ prev → Canon (prev - 1) l → best ≤ rL u F M fr a best ws prev l := by
 induction l with
 | nil => intro best ws prev _ _; exact Int.le_refl _
 | cons x l ih =>
  intro best ws prev hb hc
  obtain ⟨c1, c2, c3, c4⟩ := hc
  unfold top at c3
  rw [rL]
  split
  ·exact Int.le_refl _
  ·split
   ·omega
   ·split
    ·split <;> omega
    ·have := ih x.f1 (ws + (x.f0 - prev)) x.f1 (Int.le_refl _) (canon_weak c4 (by omega)); omega
end Go.Proofs.Ytnaalaakhdbfbaa.XP
