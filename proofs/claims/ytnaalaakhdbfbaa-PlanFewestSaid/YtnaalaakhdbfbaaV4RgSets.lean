/- Sets of spans: plain Lean. -/
import Derived.Test.YtnaalaakhdbfbaaV4XP0
set_option linter.unusedVariables false
set_option linter.unusedSimpArgs false
namespace Go.Proofs.Ytnaalaakhdbfbaa.XP
open Go.RowKit Go.Proofs.YtnaalaakhdbfbaaW.PrintWords Go.Proofs.YtnaalaakhdbfbaaW.PrintLast Go.Proofs.YtnaalaakhdbfbaaW.PrintMore
abbrev Sp := S48
/-- With fuel enough it comes to this answer. -/
def Ev {α : Type} (f : Nat → Option α) (r : α) : Prop := ∃ k0, ∀ k, k0 ≤ k → f k = some r
theorem Ev.step {α : Type} {f g : Nat → Option α} {r : α} (h : ∀ k, f (k + 1) = g k) (hg : Ev g r) : Ev f r := by
 obtain ⟨k0, hg⟩ := hg
 refine ⟨k0 + 1, fun k hk => ?_⟩
 obtain ⟨j, rfl⟩ : ∃ j, k = j + 1 := ⟨k - 1, by omega⟩
 rw [h]; exact hg j (by omega)
theorem Ev.now {α : Type} {f : Nat → Option α} {r : α} (h : ∀ k, f (k + 1) = some r) : Ev f r := by
 refine ⟨1, fun k hk => ?_⟩
 obtain ⟨j, rfl⟩ : ∃ j, k = j + 1 := ⟨k - 1, by omega⟩
 exact h j
theorem Ev.all {α : Type} {f : Nat → Option α} {r : α} (h : ∀ k, f k = some r) : Ev f r := ⟨0, fun k _ => h k⟩
theorem Ev.bind {α β : Type} {f : Nat → Option α} {g : Nat → α → Option β} {a : α} {r : β} (hf : Ev f a) (hg : Ev (fun k => g k a) r) : Ev (fun k => (f k).bind (g k)) r := by
 obtain ⟨k0, h0⟩ := hf; obtain ⟨k1, h1⟩ := hg
 refine ⟨max k0 k1, fun k hk => ?_⟩
 simp only [h0 k (by omega), Option.bind_some]
 exact h1 k (by omega)
theorem Ev.congr {α : Type} {f g : Nat → Option α} {r : α} (h : ∀ k, f k = g k) (hg : Ev g r) : Ev f r := by
 obtain ⟨k0, hg⟩ := hg; exact ⟨k0, fun k hk => (h k).trans (hg k hk)⟩
theorem Ev.unique {α : Type} {f : Nat → Option α} {r r' : α} (h : Ev f r) (h' : Ev f r') : r = r' := by
 obtain ⟨k0, h0⟩ := h; obtain ⟨k1, h1⟩ := h'
 have a := h0 (max k0 k1) (by omega); have b := h1 (max k0 k1) (by omega)
 rw [a] at b; exact Option.some.inj b
def top : Int := 4611686018427387904
def InS (l : List Sp) (a : Int) : Prop := ∃ x ∈ l, x.f0 ≤ a ∧ a < x.f1
theorem inS_nil (a : Int) : ¬ InS [] a := by rintro ⟨x, h, _⟩; simp at h
theorem inS_cons (x : Sp) (l : List Sp) (a : Int) : InS (x :: l) a ↔ (x.f0 ≤ a ∧ a < x.f1) ∨ InS l a := by simp [InS]
theorem inS_append (l m : List Sp) (a : Int) : InS (l ++ m) a ↔ InS l a ∨ InS m a := by
 constructor
 ·rintro ⟨x, h, hx⟩
  rcases List.mem_append.1 h with h | h
  ·exact .inl ⟨x, h, hx⟩
  ·exact .inr ⟨x, h, hx⟩
 ·rintro (⟨x, h, hx⟩ | ⟨x, h, hx⟩)
  ·exact ⟨x, List.mem_append.2 (.inl h), hx⟩
  ·exact ⟨x, List.mem_append.2 (.inr h), hx⟩
/-- Rising, apart, none empty, within the bytes that may be. -/
def Canon : Int → List Sp → Prop
 | _, [] => True
 | lo, x :: l => lo < x.f0 ∧ x.f0 < x.f1 ∧ x.f1 ≤ top ∧ Canon x.f1 l
def endOf : Int → List Sp → Int
 | lo, [] => lo
 | _, x :: l => endOf x.f1 l
theorem canon_append {lo : Int} {l m : List Sp} : Canon lo (l ++ m) ↔ Canon lo l ∧ Canon (endOf lo l) m := by
 induction l generalizing lo with
 | nil => simp [Canon, endOf]
 | cons x l ih => simp only [List.cons_append, Canon, endOf, ih]; constructor <;> (intro h; simp_all)
theorem endOf_append (lo : Int) (l m : List Sp) : endOf lo (l ++ m) = endOf (endOf lo l) m := by
 induction l generalizing lo with
 | nil => rfl
 | cons x l ih => exact ih _
theorem canon_lb {lo a : Int} {l : List Sp} (h : Canon lo l) (ha : InS l a) : lo < a := by
 induction l generalizing lo with
 | nil => exact absurd ha (inS_nil a)
 | cons x l ih =>
  obtain ⟨h1, h2, h3, h4⟩ := h
  rcases (inS_cons x l a).1 ha with h | h
  ·omega
  ·have := ih h4 h; omega
theorem canon_weak {lo lo' : Int} {l : List Sp} (h : Canon lo l) (hl : lo' ≤ lo) : Canon lo' l := by
 cases l with
 | nil => trivial
 | cons x l => exact ⟨by have := h.1; omega, h.2⟩
/-- **What bytes are in it says which canonical list it is.** -/
theorem canon_ext {lo lo' : Int} {l m : List Sp} (hl : Canon lo l) (hm : Canon lo' m) (h : ∀ a, InS l a ↔ InS m a) : l = m := by
 induction l generalizing lo lo' m with
 | nil =>
  cases m with
  | nil => rfl
  | cons y m => exact absurd ((h y.f0).2 ((inS_cons _ _ _).2 (.inl ⟨Int.le_refl _, hm.2.1⟩))) (inS_nil _)
 | cons x l ih =>
  cases m with
  | nil => exact absurd ((h x.f0).1 ((inS_cons _ _ _).2 (.inl ⟨Int.le_refl _, hl.2.1⟩))) (inS_nil _)
  | cons y m =>
   obtain ⟨x1, x2, x3, x4⟩ := hl
   obtain ⟨y1, y2, y3, y4⟩ := hm
   have hx0 := (inS_cons _ _ _).1 ((h x.f0).1 ((inS_cons _ _ _).2 (.inl ⟨Int.le_refl _, x2⟩)))
   have hy0 := (inS_cons _ _ _).1 ((h y.f0).2 ((inS_cons _ _ _).2 (.inl ⟨Int.le_refl _, y2⟩)))
   have e0 : x.f0 = y.f0 := by
    rcases hx0 with hx0 | hx0 <;> rcases hy0 with hy0 | hy0
    ·omega
    ·have := canon_lb x4 hy0; omega
    ·have := canon_lb y4 hx0; omega
    ·have := canon_lb x4 hy0; have := canon_lb y4 hx0; omega
   have e1 : x.f1 = y.f1 := by
    rcases Int.lt_trichotomy x.f1 y.f1 with hh | hh | hh
    ·rcases (inS_cons _ _ _).1 ((h x.f1).2 ((inS_cons _ _ _).2 (.inl ⟨by omega, hh⟩))) with h' | h'
     ·omega
     ·have := canon_lb x4 h'; omega
    ·exact hh
    ·rcases (inS_cons _ _ _).1 ((h y.f1).1 ((inS_cons _ _ _).2 (.inl ⟨by omega, hh⟩))) with h' | h'
     ·omega
     ·have := canon_lb y4 h'; omega
   have exy : x = y := by cases x; cases y; simp at e0 e1; rw [e0, e1]
   subst exy
   rw [ih x4 y4 fun a => ⟨fun ha => ?_, fun ha => ?_⟩]
   ·have := canon_lb x4 ha
    rcases (inS_cons _ _ _).1 ((h a).1 ((inS_cons _ _ _).2 (.inr ha))) with h' | h'
    ·omega
    ·exact h'
   ·have := canon_lb y4 ha
    rcases (inS_cons _ _ _).1 ((h a).2 ((inS_cons _ _ _).2 (.inr ha))) with h' | h'
    ·omega
    ·exact h'
/-- Reading a list at a place. -/
theorem rdS_at (pre suf : List Sp) (x : Sp) : rd_T48 (pre ++ x :: suf) (pre.length : Int) = x := by
 simp [rd_T48]
def goodS (x : Sp) : Bool := decide (0 ≤ x.f0) && decide (x.f0 < x.f1) && decide (x.f1 ≤ top)
theorem wrap_small {z : Int} (h0 : -9223372036854775808 ≤ z) (h1 : z < 9223372036854775808) : wrap64 z = z := by
 unfold wrap64; omega
end Go.Proofs.Ytnaalaakhdbfbaa.XP
