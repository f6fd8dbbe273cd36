/- The document's sets, by operation: what they come to. -/
import Derived.Test.YtnaalaakhdbfbaaV4RgRef
set_option linter.unusedVariables false
set_option linter.unusedSimpArgs false
namespace Go.Proofs.Ytnaalaakhdbfbaa.XP
open Go.RowKit Go.Proofs.YtnaalaakhdbfbaaW.PrintWords Go.Proofs.YtnaalaakhdbfbaaW.PrintLast Go.Proofs.YtnaalaakhdbfbaaW.PrintMore
def addS (out : List Sp) (x y : Int) : List Sp :=
 match out.getLast? with
 | none => out ++ [⟨x, y⟩]
 | some z => if z.f1 = x then out.dropLast ++ [⟨z.f0, y⟩] else out ++ [⟨x, y⟩]
def segs (P : Int → Bool) : List Sp → List Int → List Sp
 | out, x :: y :: r => segs P (if P x = true then addS out x y else out) (y :: r)
 | out, _ => out
def lastOf : Int → List Int → Int
 | x, [] => x
 | _, y :: r => lastOf y r
def Const (P : Int → Bool) : List Int → Prop
 | x :: y :: r => (∀ z, x ≤ z → z < y → P z = P x) ∧ Const P (y :: r)
 | _ => True
theorem addS_len (out : List Sp) (x y : Int) : (addS out x y).length ≤ out.length + 1 := by
 rcases List.eq_nil_or_concat out with rfl | ⟨o, w, rfl⟩
 ·simp [addS]
 ·rw [List.concat_eq_append]
  simp only [addS, List.getLast?_append, List.getLast?_singleton, Option.some_or, List.dropLast_concat]
  split <;> simp
theorem addS_spec {out : List Sp} {x y : Int} (hc : Canon (-1) out) (he : endOf (-1) out ≤ x) (h0 : 0 ≤ x) (hxy : x < y) (hy : y ≤ top) :
  Canon (-1) (addS out x y) ∧ endOf (-1) (addS out x y) = y ∧ ∀ z, InS (addS out x y) z ↔ InS out z ∨ (x ≤ z ∧ z < y) := by
 rcases List.eq_nil_or_concat out with rfl | ⟨o, w, rfl⟩
 ·refine ⟨⟨by show (-1 : Int) < x; omega, hxy, hy, trivial⟩, rfl, fun z => by simp [addS, InS]⟩
 ·rw [List.concat_eq_append] at *
  obtain ⟨c1, c2, c3, c4, _⟩ := canon_append.1 hc
  rw [endOf_append] at he
  have he : w.f1 ≤ x := he
  simp only [addS, List.getLast?_append, List.getLast?_singleton, Option.some_or, List.dropLast_concat]
  by_cases h : w.f1 = x
  ·rw [if_pos h]
   refine ⟨canon_append.2 ⟨c1, c2, by show w.f0 < y; omega, hy, trivial⟩, by rw [endOf_append]; rfl, fun z => ?_⟩
   simp only [inS_append, inS_cons, inS_nil, or_false]
   constructor
   ·rintro (h' | h')
    ·exact .inl (.inl h')
    ·omega
   ·rintro ((h' | h') | h')
    ·exact .inl h'
    ·exact .inr (by omega)
    ·exact .inr (by omega)
  ·rw [if_neg h]
   refine ⟨canon_append.2 ⟨hc, by rw [endOf_append]; show w.f1 < x; omega, hxy, hy, trivial⟩, by rw [endOf_append]; rfl, fun z => ?_⟩
   rw [inS_append, inS_cons]
   constructor
   ·rintro (h' | h' | h')
    ·exact .inl h'
    ·exact .inr h'
    ·exact absurd h' (inS_nil z)
   ·rintro (h' | h')
    ·exact .inl h'
    ·exact .inr (.inl h')
theorem lastOf_ge {x : Int} {r : List Int} (h : List.Pairwise (· < ·) (x :: r)) : x ≤ lastOf x r := by
 induction r generalizing x with
 | nil => exact Int.le_refl _
 | cons y r ih =>
  obtain ⟨h1, h2⟩ := List.pairwise_cons.1 h
  have := ih h2; have := h1 y (by simp); simp only [lastOf]; omega
theorem segs_spec (P : Int → Bool) (r : List Int) : ∀ (x : Int) (out : List Sp), List.Pairwise (· < ·) (x :: r) → (∀ z ∈ x :: r, 0 ≤ z ∧ z ≤ top) → Canon (-1) out → endOf (-1) out ≤ x → Const P (x :: r) →
  Canon (-1) (segs P out (x :: r)) ∧ (∀ z, InS (segs P out (x :: r)) z ↔ InS out z ∨ (P z = true ∧ x ≤ z ∧ z < lastOf x r)) ∧ (segs P out (x :: r)).length ≤ out.length + r.length := by
 induction r with
 | nil =>
  intro x out _ _ hc _ _
  refine ⟨hc, fun z => ⟨.inl, fun h => h.elim id fun h => ?_⟩, Nat.le_refl _⟩
  have := h.2; simp only [lastOf] at this; omega
 | cons y r ih =>
  intro x out hp hb hc he hk
  obtain ⟨h1, h2⟩ := List.pairwise_cons.1 hp
  have hxy := h1 y (by simp)
  have hx := hb x (by simp)
  have hy := hb y (by simp)
  obtain ⟨k1, k2⟩ := hk
  have hl := lastOf_ge h2
  by_cases hP : P x = true
  ·obtain ⟨s1, s2, s3⟩ := addS_spec hc he hx.1 hxy hy.2
   obtain ⟨t1, t2, t3⟩ := ih y (addS out x y) h2 (fun z hz => hb z (by simp [hz])) s1 (by omega) k2
   have e : segs P out (x :: y :: r) = segs P (addS out x y) (y :: r) := by rw [segs, if_pos hP]
   rw [e]
   refine ⟨t1, fun z => ?_, by have := addS_len out x y; simp; omega⟩
   rw [t2, s3]
   simp only [lastOf]
   constructor
   ·rintro ((h | h) | h)
    ·exact .inl h
    ·exact .inr ⟨by rw [k1 z h.1 h.2]; exact hP, h.1, by omega⟩
    ·exact .inr ⟨h.1, by omega, h.2.2⟩
   ·rintro (h | h)
    ·exact .inl (.inl h)
    ·by_cases hz : z < y
     ·exact .inl (.inr ⟨h.2.1, hz⟩)
     ·exact .inr ⟨h.1, by omega, h.2.2⟩
  ·obtain ⟨t1, t2, t3⟩ := ih y out h2 (fun z hz => hb z (by simp [hz])) hc (by omega) k2
   have e : segs P out (x :: y :: r) = segs P out (y :: r) := by rw [segs, if_neg hP]
   rw [e]
   refine ⟨t1, fun z => ?_, by simp; omega⟩
   rw [t2]
   simp only [lastOf]
   constructor
   ·rintro (h | h)
    ·exact .inl h
    ·exact .inr ⟨h.1, by omega, h.2.2⟩
   ·rintro (h | h)
    ·exact .inl h
    ·refine .inr ⟨h.1, ?_, h.2.2⟩
     rcases Int.lt_or_le z y with hz | hz
     ·exact absurd ((k1 z h.2.1 hz).symm.trans h.1) hP
     ·exact hz
theorem const_of (P : Int → Bool) {E : List Int} (hs : List.Pairwise (· < ·) E) (h : ∀ x y z, (∀ w ∈ E, w ≤ x ∨ y ≤ w) → x ≤ z → z < y → P z = P x) (suf : List Int) : ∀ pre, E = pre ++ suf → Const P suf := by
 induction suf with
 | nil => intro _ _; trivial
 | cons x suf ih =>
  intro pre e
  cases suf with
  | nil => trivial
  | cons y r =>
   refine ⟨fun z => h x y z fun w hw => ?_, ih (pre ++ [x]) (by simp [e])⟩
   rw [e] at hs hw
   obtain ⟨p1, p2, p3⟩ := List.pairwise_append.1 hs
   obtain ⟨q1, q2⟩ := List.pairwise_cons.1 p2
   obtain ⟨r1, r2⟩ := List.pairwise_cons.1 q2
   rcases List.mem_append.1 hw with hw | hw
   ·have := p3 w hw x (by simp); exact .inl (by omega)
   ·rcases List.mem_cons.1 hw with hw | hw
    ·exact .inl (by omega)
    ·rcases List.mem_cons.1 hw with hw | hw
     ·exact .inr (by omega)
     ·have := r1 w hw; exact .inr (by omega)
def opB (op : Int) (p q : Bool) : Bool := if op = 1 then p || q else if op = 2 then p && q else p && !q
theorem of_loop (a b : List Sp) (op : Int) (hop : op = 1 ∨ op = 2 ∨ op = 3) (ha : a.length < 10000000) (hb : b.length < 10000000) (E : List Int) (hE : E.length < 10000000) (suf : List Int) :
  ∀ (pre : List Int) (out : List Sp), E = pre ++ suf → out.length ≤ pre.length → Ev (fun k => mandolineref02_of.l0 k a b op out E (pre.length : Int)) (segs (fun z => opB op (inB a z) (inB b z)) out suf) := by
 induction suf with
 | nil =>
  intro pre out e ho
  refine Ev.now fun k => ?_
  rw [mandolineref02_of.l0, if_neg (by rw [wrap_small (by omega) (by rw [e] at hE; simp at hE; omega), e]; simp <;> omega)]; rfl
 | cons x suf ih =>
  intro pre out e ho
  have hlt : pre.length < E.length := by rw [e]; simp
  have hw : wrap64 ((pre.length : Int) + 1) = ((pre ++ [x]).length : Int) := by rw [wrap_small (by omega) (by omega)]; simp
  cases suf with
  | nil =>
   refine Ev.now fun k => ?_
   rw [mandolineref02_of.l0, hw, if_neg (by rw [e]; simp)]; rfl
  | cons y r =>
   have hlt2 : (pre ++ [x]).length < E.length := by rw [e]; simp
   have hrd : rd E (pre.length : Int) = x := by rw [e]; exact rd_at _ _ _
   have hrd2 : rd E ((pre ++ [x]).length : Int) = y := by rw [e, show pre ++ x :: y :: r = (pre ++ [x]) ++ y :: r by simp]; exact rd_at _ _ _
   have hlo : out.length < 8796093022208 := by omega
   have ej : ∀ k f, mandolineref02_of.j1 (k + 1) a b op out E (pre.length : Int) f = mandolineref02_of.l0 k a b op (if f = true then addS out x y else out) E ((pre ++ [x]).length : Int) := by
    intro k f
    rw [mandolineref02_of.j1]
    cases f with
    | false => rw [if_neg (by simp), if_neg (by simp), hw]
    | true =>
     rw [if_pos rfl, if_pos rfl]
     simp only [hw, hrd, hrd2]
     rcases List.eq_nil_or_concat out with rfl | ⟨o, w, rfl⟩
     ·have hm : wrap64 (((([] : List Sp).length : Nat) : Int) - 1) = -1 := by simp [wrap64]
      rw [hm, if_neg (by omega), if_pos (by omega), if_pos (by omega), if_pos (by omega), if_pos (by omega), if_pos (by simp)]
      rfl
     ·have hol : o.length + 1 ≤ pre.length := by simpa using ho
      have hm : wrap64 ((((o.concat w).length : Nat) : Int) - 1) = (o.length : Int) := by rw [wrap_small (by simp <;> omega) (by simp <;> omega)]; simp
      have hr : rd_T48 (o.concat w) (o.length : Int) = w := by rw [List.concat_eq_append]; exact rdS_at _ _ _
      rw [hm, hr, if_pos (by omega), if_pos (by omega), if_pos (by simp <;> omega), if_pos (by omega), if_pos (by omega)]
      rw [List.concat_eq_append] at hlo ⊢
      simp only [addS, List.getLast?_append, List.getLast?_singleton, Option.some_or, List.dropLast_concat]
      by_cases h : w.f1 = x
      ·rw [if_pos h, if_pos (by omega), if_pos (by omega), if_pos h]; simp
      ·rw [if_neg h, if_pos (by omega), if_pos (by omega), if_pos hlo, if_neg h]
   have el : ∀ k, mandolineref02_of.l0 (k + 1) a b op out E (pre.length : Int) = (mandolineref02_In.f k a x).bind fun p => (mandolineref02_In.f k b x).bind fun q => mandolineref02_of.j1 k a b op out E (pre.length : Int) (opB op p q) := by
    intro k
    rw [mandolineref02_of.l0, hw, if_pos (by omega), if_pos (by omega), if_pos (by omega), hrd]
    congr 1; funext p; congr 1; funext q
    rcases hop with rfl | rfl | rfl <;> cases p <;> cases q <;> simp [opB]
   have h := ih (pre ++ [x]) (if opB op (inB a x) (inB b x) = true then addS out x y else out) (by simp [e]) (by have := addS_len out x y; split <;> simp <;> omega)
   refine Ev.step el (Ev.bind (f := fun k => mandolineref02_In.f k a x) (g := fun k p => (mandolineref02_In.f k b x).bind fun q => mandolineref02_of.j1 k a b op out E (pre.length : Int) (opB op p q)) (in_f a x ha) ?_)
   refine Ev.bind (f := fun k => mandolineref02_In.f k b x) (g := fun k q => mandolineref02_of.j1 k a b op out E (pre.length : Int) (opB op (inB a x) q)) (in_f b x hb) ?_
   exact Ev.step (fun k => ej k _) h
theorem le_lastOf {x w : Int} {r : List Int} (h : List.Pairwise (· < ·) (x :: r)) (hw : w ∈ x :: r) : w ≤ lastOf x r := by
 induction r generalizing x with
 | nil => simp at hw; subst hw; exact Int.le_refl _
 | cons y r ih =>
  obtain ⟨h1, h2⟩ := List.pairwise_cons.1 h
  rcases List.mem_cons.1 hw with e | hw
  ·have := lastOf_ge h2; have := h1 y (by simp); simp only [lastOf]; omega
  ·exact ih h2 hw
theorem inB_const {l : List Sp} {E : List Int} (h : ∀ s ∈ l, rightB s = true → s.f0 ∈ E ∧ s.f1 ∈ E) {x y z : Int} (hw : ∀ w ∈ E, w ≤ x ∨ y ≤ w) (h1 : x ≤ z) (h2 : z < y) : inB l z = inB l x := by
 unfold inB
 rw [Bool.eq_iff_iff, List.any_eq_true, List.any_eq_true]
 constructor
 ·rintro ⟨s, hs, hh⟩
  rw [Bool.and_eq_true, Bool.and_eq_true, decide_eq_true_eq, decide_eq_true_eq] at hh
  obtain ⟨e0, e1⟩ := h s hs hh.1.1
  refine ⟨s, hs, ?_⟩
  rw [Bool.and_eq_true, Bool.and_eq_true, decide_eq_true_eq, decide_eq_true_eq]
  refine ⟨⟨hh.1.1, ?_⟩, by have := hh.2; omega⟩
  have := hh.1.2; rcases hw _ e0 with h | h <;> omega
 ·rintro ⟨s, hs, hh⟩
  rw [Bool.and_eq_true, Bool.and_eq_true, decide_eq_true_eq, decide_eq_true_eq] at hh
  obtain ⟨e0, e1⟩ := h s hs hh.1.1
  refine ⟨s, hs, ?_⟩
  rw [Bool.and_eq_true, Bool.and_eq_true, decide_eq_true_eq, decide_eq_true_eq]
  refine ⟨⟨hh.1.1, by have := hh.1.2; omega⟩, ?_⟩
  have := hh.2; rcases hw _ e1 with h | h <;> omega
/-- **mandolineref02.of**: the canonical set of the bytes for which the operation says so. -/
theorem refof_f (a b : List Sp) (op : Int) (hop : op = 1 ∨ op = 2 ∨ op = 3) (hl : a.length + b.length < 2000000) :
  ∃ r, Ev (fun k => mandolineref02_of.f k a b op) r ∧ Canon (-1) r ∧ (∀ z, InS r z ↔ opB op (inB a z) (inB b z) = true) ∧ r.length ≤ 2 * (a.length + b.length) := by
 obtain ⟨f1, f2, f3⟩ := ends_fold (a ++ b) [] List.Pairwise.nil
 have hE : (a ++ b).foldl stepE [] = endsL a b := rfl
 rw [hE] at f1 f2 f3
 have hin : ∀ s ∈ a ++ b, rightB s = true → s.f0 ∈ endsL a b ∧ s.f1 ∈ endsL a b := fun s hs hr => ⟨(f2 _).2 (.inr ⟨s, hs, hr, .inl rfl⟩), (f2 _).2 (.inr ⟨s, hs, hr, .inr rfl⟩)⟩
 have hP : ∀ z, opB op (inB a z) (inB b z) = true → ∃ s ∈ a ++ b, rightB s = true ∧ s.f0 ≤ z ∧ z < s.f1 := by
  intro z hz
  have hab : inB a z = true ∨ inB b z = true := by
   rcases hop with rfl | rfl | rfl <;> simp [opB] at hz
   ·exact hz
   ·exact .inl hz.1
   ·exact .inl hz.1
  rcases hab with h | h
  ·obtain ⟨s, hs, hh⟩ := List.any_eq_true.1 h
   rw [Bool.and_eq_true, Bool.and_eq_true, decide_eq_true_eq, decide_eq_true_eq] at hh
   exact ⟨s, List.mem_append.2 (.inl hs), hh.1.1, hh.1.2, hh.2⟩
  ·obtain ⟨s, hs, hh⟩ := List.any_eq_true.1 h
   rw [Bool.and_eq_true, Bool.and_eq_true, decide_eq_true_eq, decide_eq_true_eq] at hh
   exact ⟨s, List.mem_append.2 (.inr hs), hh.1.1, hh.1.2, hh.2⟩
 have hb : ∀ z ∈ endsL a b, 0 ≤ z ∧ z ≤ top := by
  intro z hz
  rcases (f2 z).1 hz with h | ⟨s, _, hr, h⟩
  ·simp at h
  ·have := rightB_iff.1 hr; unfold top; rcases h with h | h <;> omega
 have hlen : (endsL a b).length < 10000000 := by simp at f3; omega
 have hloop := of_loop a b op hop (by omega) (by omega) (endsL a b) hlen (endsL a b) [] [] rfl (Nat.le_refl _)
 have hev : Ev (fun k => mandolineref02_of.f k a b op) (segs (fun z => opB op (inB a z) (inB b z)) [] (endsL a b)) :=
  Ev.bind (f := fun k => mandolineref02_ends.f k a b) (g := fun k t => mandolineref02_of.l0 k a b op [] t 0) (ends_f a b hl) hloop
 refine ⟨_, hev, ?_⟩
 cases hEe : endsL a b with
 | nil =>
  refine ⟨trivial, fun z => ⟨fun h => absurd h (inS_nil z), fun h => ?_⟩, Nat.zero_le _⟩
  obtain ⟨s, hs, hr, _⟩ := hP z h
  have := (hin s hs hr).1
  rw [hEe] at this; simp at this
 | cons x r =>
  rw [hEe] at f1 f2 f3 hin hb
  have hc : Const (fun z => opB op (inB a z) (inB b z)) (x :: r) := const_of _ (E := x :: r) f1 (fun x' y' z hw h1 h2 => by
   have e1 := inB_const (l := a) (E := x :: r) (fun s hs => hin s (List.mem_append.2 (.inl hs))) hw h1 h2
   have e2 := inB_const (l := b) (E := x :: r) (fun s hs => hin s (List.mem_append.2 (.inr hs))) hw h1 h2
   show opB op (inB a z) (inB b z) = opB op (inB a x') (inB b x')
   rw [e1, e2]) (x :: r) [] rfl
  obtain ⟨s1, s2, s3⟩ := segs_spec (fun z => opB op (inB a z) (inB b z)) r x [] f1 hb trivial (by have := (hb x (by simp)).1; show (-1 : Int) ≤ x; omega) hc
  refine ⟨s1, fun z => ?_, by simp at f3 s3; omega⟩
  rw [s2]
  constructor
  ·rintro (h | h)
   ·exact absurd h (inS_nil z)
   ·exact h.1
  ·intro h
   obtain ⟨s, hs, hr, h0, h1⟩ := hP z h
   obtain ⟨m0, m1⟩ := hin s hs hr
   have l1 := le_lastOf f1 m1
   have l0 : x ≤ s.f0 := by
    rcases List.mem_cons.1 m0 with e | m0
    ·omega
    ·have := (List.pairwise_cons.1 f1).1 _ m0; omega
   exact .inr ⟨h, by omega, by omega⟩
end Go.Proofs.Ytnaalaakhdbfbaa.XP
