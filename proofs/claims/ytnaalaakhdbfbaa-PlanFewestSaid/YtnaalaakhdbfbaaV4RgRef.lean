/- The document's sets (mandolineref02): what they come to. -/
import Derived.Test.YtnaalaakhdbfbaaV4XP15
import Derived.Test.YtnaalaakhdbfbaaV4RgSets
set_option linter.unusedVariables false
set_option linter.unusedSimpArgs false
namespace Go.Proofs.Ytnaalaakhdbfbaa.XP
open Go.RowKit Go.Proofs.YtnaalaakhdbfbaaW.PrintWords Go.Proofs.YtnaalaakhdbfbaaW.PrintLast Go.Proofs.YtnaalaakhdbfbaaW.PrintMore
def rightB (x : Sp) : Bool := decide (0 ≤ x.f0 ∧ x.f0 ≤ x.f1 ∧ x.f1 ≤ 4611686018427387904)
theorem right01_f (x : Sp) : mandolineref01_Right.f x.f0 x.f1 = some (rightB x) := by
 unfold mandolineref01_Right.f rightB mandolineref01_end.f
 by_cases h1 : 0 ≤ x.f0 <;> by_cases h2 : x.f0 ≤ x.f1 <;> simp [h1, h2]
def inB (l : List Sp) (a : Int) : Bool := l.any fun x => rightB x && decide (x.f0 ≤ a) && decide (a < x.f1)
theorem rightB_iff {x : Sp} : rightB x = true ↔ 0 ≤ x.f0 ∧ x.f0 ≤ x.f1 ∧ x.f1 ≤ 4611686018427387904 := by unfold rightB; rw [decide_eq_true_eq]
theorem goodS_iff' {x : Sp} : goodS x = true ↔ 0 ≤ x.f0 ∧ x.f0 < x.f1 ∧ x.f1 ≤ 4611686018427387904 := by
 unfold goodS top
 simp only [Bool.and_eq_true, decide_eq_true_eq, and_assoc]
theorem inB_iff {l : List Sp} {a : Int} : inB l a = true ↔ InS (l.filter goodS) a := by
 unfold inB InS
 rw [List.any_eq_true]
 constructor
 ·rintro ⟨x, hx, h⟩
  rw [Bool.and_eq_true, Bool.and_eq_true, decide_eq_true_eq, decide_eq_true_eq, rightB_iff] at h
  exact ⟨x, List.mem_filter.2 ⟨hx, goodS_iff'.2 ⟨h.1.1.1, by omega, h.1.1.2.2⟩⟩, h.1.2, h.2⟩
 ·rintro ⟨x, hx, h⟩
  obtain ⟨hx, hg⟩ := List.mem_filter.1 hx
  have hg := goodS_iff'.1 hg
  refine ⟨x, hx, ?_⟩
  rw [Bool.and_eq_true, Bool.and_eq_true, decide_eq_true_eq, decide_eq_true_eq, rightB_iff]
  exact ⟨⟨⟨hg.1, by omega, hg.2.2⟩, h.1⟩, h.2⟩
theorem in_l0 (l : List Sp) (a : Int) (hl : l.length < 10000000) (suf : List Sp) : ∀ pre, l = pre ++ suf → Ev (fun k => mandolineref02_In.l0 k l a (pre.length : Int)) (inB suf a) := by
 induction suf with
 | nil =>
  intro pre e
  refine Ev.now fun k => ?_
  rw [mandolineref02_In.l0, if_neg (by rw [e]; simp)]; rfl
 | cons x suf ih =>
  intro pre e
  have hlt : pre.length < l.length := by rw [e]; simp
  have hrd : rd_T48 l (pre.length : Int) = x := by rw [e]; exact rdS_at _ _ _
  have hw : wrap64 ((pre.length : Int) + 1) = ((pre ++ [x]).length : Int) := by rw [wrap_small (by omega) (by omega)]; simp
  have h := ih (pre ++ [x]) (by simp [e])
  have eq : ∀ k, mandolineref02_In.l0 (k + 1) l a (pre.length : Int) = if (rightB x && decide (x.f0 ≤ a) && decide (a < x.f1)) = true then some true else mandolineref02_In.l0 k l a ((pre ++ [x]).length : Int) := by
   intro k
   rw [mandolineref02_In.l0, if_pos (by omega), if_pos (by omega)]
   simp only [hrd, right01_f, Option.bind_some, hw]
   by_cases h1 : rightB x = true <;> by_cases h2 : x.f0 ≤ a <;> by_cases h3 : a < x.f1 <;> simp [h1, h2, h3]
  have hin : inB (x :: suf) a = (((rightB x && decide (x.f0 ≤ a) && decide (a < x.f1))) || inB suf a) := by simp [inB]
  by_cases hc : (rightB x && decide (x.f0 ≤ a) && decide (a < x.f1)) = true
  ·rw [hin, hc]; exact Ev.now fun k => by rw [eq, if_pos hc]; rfl
  ·rw [hin, Bool.eq_false_iff.2 hc]; exact Ev.step (fun k => by rw [eq, if_neg hc]) (by simpa using h)
theorem in_f (l : List Sp) (a : Int) (hl : l.length < 10000000) : Ev (fun k => mandolineref02_In.f k l a) (inB l a) := in_l0 l a hl l [] rfl
/-- A number into a rising list. -/
def insI (n : Int) : List Int → List Int
 | [] => [n]
 | y :: r => if y < n then y :: insI n r else if n < y then n :: y :: r else y :: r
theorem rd_at (pre suf : List Int) (x : Int) : rd (pre ++ x :: suf) (pre.length : Int) = x := by simp [rd]
theorem ins_l0 (l : List Int) (n : Int) (hl : l.length < 10000000) (suf : List Int) : ∀ (pre out : List Int) (put : Bool), l = pre ++ suf → out.length ≤ pre.length + (if put then 1 else 0) →
  Ev (fun k => mandolineref02_insert.l0 k l n out put (pre.length : Int)) (out ++ if put then suf else insI n suf) := by
 induction suf with
 | nil =>
  intro pre out put e ho
  refine Ev.now fun k => ?_
  have hlo : out.length < 17592186044416 := by rw [e] at hl; simp at hl; split at ho <;> omega
  rw [mandolineref02_insert.l0, if_neg (by rw [e]; simp)]
  cases put <;> simp [hlo, insI]
 | cons x suf ih =>
  intro pre out put e ho
  have hlt : pre.length < l.length := by rw [e]; simp
  have hrd : rd l (pre.length : Int) = x := by rw [e]; exact rd_at _ _ _
  have hw : wrap64 ((pre.length : Int) + 1) = ((pre ++ [x]).length : Int) := by rw [wrap_small (by omega) (by omega)]; simp
  have ho1 : out.length ≤ pre.length + 1 := by split at ho <;> omega
  have hlo : out.length < 17592186044416 := by omega
  have hlo2 : out.length + 1 < 17592186044416 := by omega
  have eqT : ∀ k, mandolineref02_insert.l0 (k + 1) l n out true (pre.length : Int) = mandolineref02_insert.j1 k l n out true (pre.length : Int) false := by
   intro k
   rw [mandolineref02_insert.l0, if_pos (by omega), if_pos rfl]
  have eqF : ∀ k, mandolineref02_insert.l0 (k + 1) l n out false (pre.length : Int) = mandolineref02_insert.j1 k l n out false (pre.length : Int) (decide (x ≥ n)) := by
   intro k
   rw [mandolineref02_insert.l0, if_pos (by omega), if_neg (by simp), if_pos (by omega), hrd]
  have eqj : ∀ k p, mandolineref02_insert.j1 (k + 1) l n out p (pre.length : Int) false = mandolineref02_insert.l0 k l n (out ++ [x]) p ((pre ++ [x]).length : Int) := by
   intro k p
   rw [mandolineref02_insert.j1, if_neg (by simp), if_pos (by omega), if_pos (by omega), if_pos hlo, hrd, hw]
  have eqj2 : ∀ k p, mandolineref02_insert.j1 (k + 1) l n out p (pre.length : Int) true = mandolineref02_insert.l0 k l n (if n < x then out ++ [n] ++ [x] else out ++ [x]) true ((pre ++ [x]).length : Int) := by
   intro k p
   rw [mandolineref02_insert.j1, if_pos rfl, if_pos (by omega), if_pos (by omega), hrd, hw]
   by_cases h : n < x
   ·rw [if_pos h, if_pos hlo, if_pos h]; simp [hlo2]
   ·rw [if_neg h, if_pos hlo, if_neg h]
  cases put with
  | true =>
   have h := ih (pre ++ [x]) (out ++ [x]) true (by simp [e]) (by simp at ho ⊢; try omega)
   refine Ev.step eqT (Ev.step (fun k => eqj k true) ?_)
   simpa using h
  | false =>
   by_cases hx : x ≥ n
   ·have h := ih (pre ++ [x]) (if n < x then out ++ [n] ++ [x] else out ++ [x]) true (by simp [e]) (by simp at ho; split <;> simp <;> omega)
    rw [decide_eq_true hx] at eqF
    refine Ev.step eqF (Ev.step (fun k => eqj2 k false) ?_)
    have hn : ¬ x < n := by omega
    by_cases hnx : n < x
    ·have e1 : insI n (x :: suf) = n :: x :: suf := by unfold insI; rw [if_neg hn, if_pos hnx]
     simp only [Bool.false_eq_true, ↓reduceIte]
     rw [e1]
     simpa [hnx] using h
    ·have e1 : insI n (x :: suf) = x :: suf := by unfold insI; rw [if_neg hn, if_neg hnx]
     simp only [Bool.false_eq_true, ↓reduceIte]
     rw [e1]
     simpa [hnx] using h
   ·have h := ih (pre ++ [x]) (out ++ [x]) false (by simp [e]) (by simp at ho ⊢; try omega)
    rw [decide_eq_false hx] at eqF
    refine Ev.step eqF (Ev.step (fun k => eqj k false) ?_)
    have hn : x < n := by omega
    have e1 : insI n (x :: suf) = x :: insI n suf := by rw [insI, if_pos hn]
    simp only [Bool.false_eq_true, ↓reduceIte]
    rw [e1]
    simpa using h
theorem ins_f (l : List Int) (n : Int) (hl : l.length < 10000000) : Ev (fun k => mandolineref02_insert.f k l n) (insI n l) := by
 have h := ins_l0 l n hl l [] [] false rfl (Nat.zero_le _)
 simp only [Bool.false_eq_true, ↓reduceIte, List.nil_append] at h
 exact h
theorem insI_mem {n z : Int} {l : List Int} : z ∈ insI n l ↔ z = n ∨ z ∈ l := by
 induction l with
 | nil => simp [insI]
 | cons y r ih =>
  unfold insI
  split
  ·simp only [List.mem_cons, ih]; constructor
   ·rintro (h | h | h) <;> simp [h]
   ·rintro (h | h | h) <;> simp [h]
  ·split
   ·simp
   ·have e : n = y := by omega
    subst e; simp
theorem insI_len (n : Int) (l : List Int) : (insI n l).length ≤ l.length + 1 := by
 induction l with
 | nil => simp [insI]
 | cons y r ih =>
  unfold insI
  split
  ·simp; omega
  ·split <;> simp
theorem insI_sorted {n : Int} {l : List Int} (h : List.Pairwise (· < ·) l) : List.Pairwise (· < ·) (insI n l) := by
 induction l with
 | nil => simp [insI]
 | cons y r ih =>
  obtain ⟨h1, h2⟩ := List.pairwise_cons.1 h
  unfold insI
  split
  ·refine List.pairwise_cons.2 ⟨fun z hz => ?_, ih h2⟩
   rcases insI_mem.1 hz with e | hz
   ·omega
   ·exact h1 z hz
  ·split
   ·refine List.pairwise_cons.2 ⟨fun z hz => ?_, h⟩
    rcases List.mem_cons.1 hz with e | hz
    ·omega
    ·have := h1 z hz; omega
   ·exact h
def stepE (acc : List Int) (x : Sp) : List Int := if rightB x = true then insI x.f1 (insI x.f0 acc) else acc
theorem stepE_len (acc : List Int) (x : Sp) : (stepE acc x).length ≤ acc.length + 2 := by
 unfold stepE
 split
 ·have := insI_len x.f1 (insI x.f0 acc); have := insI_len x.f0 acc; omega
 ·omega
theorem ends_l0 (l : List Sp) (hl : l.length < 2000000) (suf : List Sp) : ∀ (pre : List Sp) (acc : List Int), l = pre ++ suf → acc.length ≤ 2 * pre.length →
  Ev (fun k => mandolineref02_ends.l0 k acc l (pre.length : Int)) (suf.foldl stepE acc) := by
 induction suf with
 | nil =>
  intro pre acc e ha
  refine Ev.now fun k => ?_
  rw [mandolineref02_ends.l0, if_neg (by rw [e]; simp)]; rfl
 | cons x suf ih =>
  intro pre acc e ha
  have hlt : pre.length < l.length := by rw [e]; simp
  have hrd : rd_T48 l (pre.length : Int) = x := by rw [e]; exact rdS_at _ _ _
  have hw : wrap64 ((pre.length : Int) + 1) = ((pre ++ [x]).length : Int) := by rw [wrap_small (by omega) (by omega)]; simp
  have hs := stepE_len acc x
  have h := ih (pre ++ [x]) (stepE acc x) (by simp [e]) (by simp; omega)
  rw [List.foldl_cons]
  by_cases hr : rightB x = true
  ·have eq : ∀ k, mandolineref02_ends.l0 (k + 1) acc l (pre.length : Int) = (mandolineref02_insert.f k acc x.f0).bind fun t => (mandolineref02_insert.f k t x.f1).bind fun t' => mandolineref02_ends.l0 k t' l ((pre ++ [x]).length : Int) := by
    intro k
    rw [mandolineref02_ends.l0, if_pos (by omega), if_pos (by omega)]
    simp only [hrd, right01_f, Option.bind_some, hw, hr, if_true]
   have h1 := ins_f acc x.f0 (by omega)
   have h2 := ins_f (insI x.f0 acc) x.f1 (by have := insI_len x.f0 acc; omega)
   have e1 : stepE acc x = insI x.f1 (insI x.f0 acc) := if_pos hr
   rw [e1] at h ⊢
   refine Ev.step eq (Ev.bind (f := fun k => mandolineref02_insert.f k acc x.f0) (g := fun k t => (mandolineref02_insert.f k t x.f1).bind fun t' => mandolineref02_ends.l0 k t' l ((pre ++ [x]).length : Int)) h1 ?_)
   exact Ev.bind (f := fun k => mandolineref02_insert.f k (insI x.f0 acc) x.f1) (g := fun k t' => mandolineref02_ends.l0 k t' l ((pre ++ [x]).length : Int)) h2 h
  ·have eq : ∀ k, mandolineref02_ends.l0 (k + 1) acc l (pre.length : Int) = mandolineref02_ends.l0 k acc l ((pre ++ [x]).length : Int) := by
    intro k
    rw [mandolineref02_ends.l0, if_pos (by omega), if_pos (by omega)]
    simp only [hrd, right01_f, Option.bind_some, hw]
    rw [if_neg hr]
   have e1 : stepE acc x = acc := if_neg hr
   rw [e1] at h ⊢
   exact Ev.step eq h
def endsL (a b : List Sp) : List Int := (a ++ b).foldl stepE []
theorem ends_f (a b : List Sp) (h : a.length + b.length < 2000000) : Ev (fun k => mandolineref02_ends.f k a b) (endsL a b) := by
 have hh := ends_l0 (a ++ b) (by simpa using h) (a ++ b) [] [] rfl (Nat.zero_le _)
 refine Ev.congr (fun k => ?_) hh
 have h1 : a.length < 8796093022208 := by omega
 have h2 : a.length + b.length < 8796093022208 := by omega
 simp [mandolineref02_ends.f, h1, h2]
theorem ends_fold (l : List Sp) : ∀ acc : List Int, List.Pairwise (· < ·) acc → List.Pairwise (· < ·) (l.foldl stepE acc) ∧ (∀ z, z ∈ l.foldl stepE acc ↔ z ∈ acc ∨ ∃ x ∈ l, rightB x = true ∧ (z = x.f0 ∨ z = x.f1)) ∧ (l.foldl stepE acc).length ≤ acc.length + 2 * l.length := by
 induction l with
 | nil => intro acc h; exact ⟨h, fun z => by simp, by simp⟩
 | cons x l ih =>
  intro acc h
  rw [List.foldl_cons]
  have hs : List.Pairwise (· < ·) (stepE acc x) := by 
   unfold stepE
   split
   ·exact insI_sorted (insI_sorted h)
   ·exact h
  obtain ⟨i1, i2, i3⟩ := ih _ hs
  refine ⟨i1, fun z => ?_, by have := stepE_len acc x; simp; omega⟩
  rw [i2]
  by_cases hr : rightB x = true
  ·rw [show stepE acc x = insI x.f1 (insI x.f0 acc) from if_pos hr, insI_mem, insI_mem]
   constructor
   ·rintro ((h | h | h) | ⟨y, hy, h⟩)
    ·exact .inr ⟨x, by simp, hr, .inr h⟩
    ·exact .inr ⟨x, by simp, hr, .inl h⟩
    ·exact .inl h
    ·exact .inr ⟨y, by simp [hy], h⟩
   ·rintro (h | ⟨y, hy, hry, h⟩)
    ·exact .inl (.inr (.inr h))
    ·rcases List.mem_cons.1 hy with e | hy
     ·subst e; rcases h with h | h
      ·exact .inl (.inr (.inl h))
      ·exact .inl (.inl h)
     ·exact .inr ⟨y, hy, hry, h⟩
  ·rw [show stepE acc x = acc from if_neg hr]
   constructor
   ·rintro (h | ⟨y, hy, h⟩)
    ·exact .inl h
    ·exact .inr ⟨y, by simp [hy], h⟩
   ·rintro (h | ⟨y, hy, hry, h⟩)
    ·exact .inl h
    ·rcases List.mem_cons.1 hy with e | hy
     ·subst e; exact absurd hry hr
     ·exact .inr ⟨y, hy, hry, h⟩
end Go.Proofs.Ytnaalaakhdbfbaa.XP
