/- ranges.Of: what it comes to. -/
import Derived.Test.YtnaalaakhdbfbaaV4XP3
import Derived.Test.YtnaalaakhdbfbaaV4RgSets
set_option linter.unusedVariables false
set_option linter.unusedSimpArgs false
namespace Go.Proofs.Ytnaalaakhdbfbaa.XP
open Go.RowKit Go.Sort Go.Shelf Go.Proofs.YtnaalaakhdbfbaaW.PrintWords Go.Proofs.YtnaalaakhdbfbaaW.PrintLast Go.Proofs.YtnaalaakhdbfbaaW.PrintMore
theorem right_f (a b : Int) : span_Right.f a b = some (decide (0 ≤ a ∧ a ≤ b ∧ b ≤ 4611686018427387904)) := by
 unfold span_Right.f
 by_cases h1 : 0 ≤ a <;> by_cases h2 : a ≤ b <;> simp [h1, h2]
theorem goodS_iff {x : Sp} : goodS x = true ↔ 0 ≤ x.f0 ∧ x.f0 < x.f1 ∧ x.f1 ≤ 4611686018427387904 := by
 unfold goodS top
 simp only [Bool.and_eq_true, decide_eq_true_eq, and_assoc]
theorem of_l0 (l : List Sp) (hl : l.length < 1000000) (r : List Sp) (suf : List Sp) : ∀ (pre acc : List Sp), l = pre ++ suf → acc.length ≤ pre.length →
  Ev (fun k => ranges_Of.l1 k [] (sortS (acc ++ suf.filter goodS)) ((acc ++ suf.filter goodS).length : Int) 0) r → Ev (fun k => ranges_Of.l0 k acc l (l.length : Int) (pre.length : Int)) r := by
 induction suf with
 | nil =>
  intro pre acc e ha h
  refine Ev.step (g := fun k => ranges_Of.l1 k [] (sortS acc) (acc.length : Int) 0) (fun k => ?_) (by simpa using h)
  subst e
  have hlt : acc.length < 1000000 := by simp at hl; omega
  simp [ranges_Of.l0, api_Span_50.f, hlt]
 | cons x suf ih =>
  intro pre acc e ha h
  have hlt : pre.length < l.length := by rw [e]; simp
  have hrd : rd_T48 l (pre.length : Int) = x := by rw [e]; exact rdS_at _ _ _
  have hw : wrap64 ((pre.length : Int) + 1) = ((pre ++ [x]).length : Int) := by rw [wrap_small (by omega) (by omega)]; simp
  have ha' : acc.length < 8796093022208 := by omega
  refine Ev.step (g := fun k => ranges_Of.l0 k (if goodS x then acc ++ [x] else acc) l (l.length : Int) ((pre ++ [x]).length : Int)) (fun k => ?_) (ih (pre ++ [x]) _ (by simp [e]) (by split <;> simp <;> omega) ?_)
  ·rw [ranges_Of.l0, if_pos (by omega), if_pos (by omega), if_pos (by omega)]
   simp only [hrd, right_f, Option.bind_some, hw]
   by_cases h1 : (0 ≤ x.f0 ∧ x.f0 ≤ x.f1 ∧ x.f1 ≤ 4611686018427387904)
   ·by_cases h2 : x.f0 < x.f1
    ·have hg : goodS x = true := goodS_iff.2 ⟨h1.1, h2, h1.2.2⟩
     rw [hg]; simp [h1, h2, ha']
    ·have hg : goodS x = false := Bool.eq_false_iff.2 fun h => h2 (goodS_iff.1 h).2.1
     rw [hg]; simp [h1, h2]
   ·have hg : goodS x = false := Bool.eq_false_iff.2 fun h => h1 (by have := goodS_iff.1 h; omega)
    rw [hg]; simp [h1]
  ·by_cases hg : goodS x = true
   ·rw [if_pos hg]; rw [List.filter_cons_of_pos hg] at h; simpa using h
   ·rw [if_neg hg]; rw [List.filter_cons_of_neg hg] at h; exact h
theorem mergeStep {s : List Sp} {suf pre out : List Sp} {x : Sp} (hs : s.length < 1000000) (e : s = pre ++ x :: suf) (ho : out.length ≤ pre.length) :
  (∀ k, ranges_Of.l1 (k + 1) out s (s.length : Int) (pre.length : Int) = ranges_Of.l1 k (match out.getLast? with | none => out ++ [x] | some y => if x.f0 ≤ y.f1 then out.dropLast ++ [⟨y.f0, max y.f1 x.f1⟩] else out ++ [x]) s (s.length : Int) ((pre ++ [x]).length : Int)) := by
 intro k
 have hlt : pre.length < s.length := by rw [e]; simp
 have hrd : rd_T48 s (pre.length : Int) = x := by rw [e]; exact rdS_at _ _ _
 have hw : wrap64 ((pre.length : Int) + 1) = ((pre ++ [x]).length : Int) := by rw [wrap_small (by omega) (by omega)]; simp
 have ha' : out.length < 8796093022208 := by omega
 rw [ranges_Of.l1, if_pos (by omega), if_pos (by omega), if_pos (by omega)]
 simp only [hrd, hw]
 rcases List.eq_nil_or_concat out with rfl | ⟨o, y, rfl⟩
 ·have hm : wrap64 (((([] : List Sp).length : Nat) : Int) - 1) = -1 := by simp [wrap64]
  rw [hm]; simp
 ·have hol : o.length + 1 ≤ pre.length := by simpa using ho
  have hm : wrap64 ((((o.concat y).length : Nat) : Int) - 1) = (o.length : Int) := by rw [wrap_small (by simp <;> omega) (by simp <;> omega)]; simp
  have hr : rd_T48 (o.concat y) (o.length : Int) = y := by rw [List.concat_eq_append]; exact rdS_at _ _ _
  rw [hm, hr]
  have hmx : mx y.f1 x.f1 = max y.f1 x.f1 := by unfold mx; omega
  simp only [List.concat_eq_append] at *
  have hol2 : o.length + 1 < 8796093022208 := by omega
  by_cases h : x.f0 ≤ y.f1 <;> simp [h, hmx, hol2] <;> omega
theorem of_l1 {s : List Sp} (hs : s.length < 1000000) (suf : List Sp) : ∀ (pre out : List Sp), s = pre ++ suf → out.length ≤ pre.length → Canon (-1) out → (∀ x ∈ suf, goodS x = true) →
  List.Pairwise (fun a b : Sp => a.f0 ≤ b.f0) suf → (∀ y, out.getLast? = some y → ∀ x ∈ suf, y.f0 ≤ x.f0) →
  ∃ r, Ev (fun k => ranges_Of.l1 k out s (s.length : Int) (pre.length : Int)) r ∧ Canon (-1) r ∧ (∀ a, InS r a ↔ InS out a ∨ InS suf a) ∧ r.length ≤ s.length := by
 induction suf with
 | nil =>
  intro pre out e ho hc _ _ _
  refine ⟨out, Ev.now fun k => ?_, hc, fun a => ⟨.inl, fun h => h.elim id fun h => absurd h (inS_nil a)⟩, by rw [e]; simpa using ho⟩
  rw [ranges_Of.l1, if_neg (by rw [e]; simp)]
 | cons x suf ih =>
  intro pre out e ho hc hg hp hl
  have hgx := goodS_iff.1 (hg x (by simp))
  have hp' := List.pairwise_cons.1 hp
  obtain ⟨out', hout⟩ : ∃ out', out' = (match out.getLast? with | none => out ++ [x] | some y => if x.f0 ≤ y.f1 then out.dropLast ++ [(⟨y.f0, max y.f1 x.f1⟩ : Sp)] else out ++ [x]) := ⟨_, rfl⟩
  have key : Canon (-1) out' ∧ (∀ a, InS out' a ↔ InS out a ∨ (x.f0 ≤ a ∧ a < x.f1)) ∧ out'.length ≤ out.length + 1 ∧ (∀ y, out'.getLast? = some y → ∀ z ∈ suf, y.f0 ≤ z.f0) := by
   rcases List.eq_nil_or_concat out with rfl | ⟨o, y, rfl⟩
   ·simp at hout; subst hout
    refine ⟨⟨by omega, hgx.2.1, hgx.2.2, trivial⟩, fun a => by simp [InS], by simp, fun y hy z hz => ?_⟩
    simp at hy; subst hy; exact hp'.1 z hz
   ·rw [List.concat_eq_append] at *
    simp only [List.getLast?_append, List.getLast?_singleton, Option.some_or, List.dropLast_concat] at hout hl
    have hc' := canon_append.1 hc
    obtain ⟨c1, c2, c3, c4, _⟩ := hc'
    have hyx := hl y rfl x (by simp)
    by_cases h : x.f0 ≤ y.f1
    ·rw [if_pos h] at hout; subst hout
     refine ⟨canon_append.2 ⟨c1, c2, by show y.f0 < max y.f1 x.f1; omega, by show max y.f1 x.f1 ≤ top; unfold top at *; omega, trivial⟩, fun a => ?_, by simp, fun z hz u hu => ?_⟩
     ·simp only [inS_append, inS_cons, inS_nil, or_false]
      constructor
      ·rintro (h' | h')
       ·exact .inl (.inl h')
       ·omega
      ·rintro ((h' | h') | h')
       ·exact .inl h'
       ·exact .inr (by omega)
       ·exact .inr (by omega)
     ·simp at hz; subst hz; exact hl y rfl u (by simp [hu])
    ·rw [if_neg h] at hout; subst hout
     refine ⟨canon_append.2 ⟨hc, by rw [endOf_append]; show y.f1 < x.f0; omega, hgx.2.1, hgx.2.2, trivial⟩, fun a => ?_, by simp, fun z hz u hu => ?_⟩
     ·rw [inS_append, inS_cons]
      constructor
      ·rintro (h' | h' | h')
       ·exact .inl h'
       ·exact .inr h'
       ·exact absurd h' (inS_nil a)
      ·rintro (h' | h')
       ·exact .inl h'
       ·exact .inr (.inl h')
     ·simp at hz; subst hz; exact hp'.1 u hu
  obtain ⟨k1, k2, k3, k4⟩ := key
  obtain ⟨r, hr, hrc, hri, hrl⟩ := ih (pre ++ [x]) out' (by simp [e]) (by simp; omega) k1 (fun z hz => hg z (by simp [hz])) hp'.2 k4
  refine ⟨r, Ev.step (fun k => ?_) hr, hrc, fun a => ?_, hrl⟩
  ·rw [mergeStep hs e ho k, ← hout]
  ·rw [hri, k2, inS_cons, or_assoc]
theorem sortS_perm (l : List Sp) : (sortS l).Perm l := by
 have h := (pdq_sorts (ltOf cfSp) swoSp l.toArray 0 l.length (Lib.bitLen l.length) true true (Nat.zero_le _) (by simp) (Or.inl rfl)).1
 have hs := pdq_size l
 have hp := h.2.2
 have e1 : ∀ d : Array Sp, d.size = l.length → (d.extract 0 l.length).toList = d.toList := by
  intro d hd
  rw [← hd]; simp
 rw [e1 _ hs, e1 _ (by simp)] at hp
 exact hp
theorem sortS_sorted (l : List Sp) : List.Pairwise (fun a b : Sp => a.f0 ≤ b.f0) (sortS l) := by
 have h := (pdq_sorts (ltOf cfSp) swoSp l.toArray 0 l.length (Lib.bitLen l.length) true true (Nat.zero_le _) (by simp) (Or.inl rfl)).2
 have hs := pdq_size l
 refine List.pairwise_iff_getElem.2 fun i j hi hj hij => ?_
 have hi' : i < (pdq (ltOf cfSp) l.toArray 0 l.length (Lib.bitLen l.length) true true).size := by simpa [sortS] using hi
 have hj' : j < (pdq (ltOf cfSp) l.toArray 0 l.length (Lib.bitLen l.length) true true).size := by simpa [sortS] using hj
 have hh := h i j (Nat.zero_le _) hij (by omega)
 rw [getElem!_pos (pdq (ltOf cfSp) l.toArray 0 l.length (Lib.bitLen l.length) true true) i hi', getElem!_pos (pdq (ltOf cfSp) l.toArray 0 l.length (Lib.bitLen l.length) true true) j hj', ltSp] at hh
 have hh := of_decide_eq_false hh
 show (sortS l)[i].f0 ≤ (sortS l)[j].f0
 simp only [sortS, Array.getElem_toList]
 omega
/-- **ranges.Of**: the canonical set of the bytes of the spans that may be. -/
theorem of_f (l : List Sp) (hl : l.length < 1000000) : ∃ r, Ev (fun k => ranges_Of.f k l) r ∧ Canon (-1) r ∧ (∀ a, InS r a ↔ InS (l.filter goodS) a) ∧ r.length ≤ l.length := by
 have hfl : (l.filter goodS).length ≤ l.length := List.length_filter_le _ _
 have hsl : (sortS (l.filter goodS)).length = (l.filter goodS).length := sortS_length _
 obtain ⟨r, hr, hc, hi, hrl⟩ := of_l1 (s := sortS (l.filter goodS)) (by omega) (sortS (l.filter goodS)) [] [] rfl (Nat.le_refl _) trivial
  (fun x hx => (List.mem_filter.1 ((sortS_perm _).mem_iff.1 hx)).2) (sortS_sorted _) (fun y hy => by simp at hy)
 refine ⟨r, of_l0 l hl r l [] [] rfl (Nat.le_refl _) ?_, hc, fun a => ?_, by omega⟩
 ·rw [List.nil_append, ← hsl]; exact hr
 ·rw [hi]
  constructor
  ·rintro (h | ⟨x, hx, h⟩)
   ·exact absurd h (inS_nil a)
   ·exact ⟨x, (sortS_perm _).mem_iff.1 hx, h⟩
  ·rintro ⟨x, hx, h⟩
   exact .inr ⟨x, (sortS_perm _).mem_iff.2 hx, h⟩
end Go.Proofs.Ytnaalaakhdbfbaa.XP
