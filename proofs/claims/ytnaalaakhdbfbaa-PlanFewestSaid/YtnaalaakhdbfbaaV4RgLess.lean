/- ranges.(Set).Less: what it comes to. -/
import Derived.Test.YtnaalaakhdbfbaaV4XP8
import Derived.Test.YtnaalaakhdbfbaaV4RgAnd
set_option linter.unusedVariables false
set_option linter.unusedSimpArgs false
namespace Go.Proofs.Ytnaalaakhdbfbaa.XP
open Go.RowKit Go.Proofs.YtnaalaakhdbfbaaW.PrintWords Go.Proofs.YtnaalaakhdbfbaaW.PrintLast Go.Proofs.YtnaalaakhdbfbaaW.PrintMore
/-- What is left of a span x0 to x1 when some spans are taken off. -/
def cutS (x1 : Int) : Int → List Sp → List Sp
 | x0, [] => if x0 < x1 then [⟨x0, x1⟩] else []
 | x0, t :: r => if t.f0 < x1 then (if x0 < t.f0 then [⟨x0, t.f0⟩] else []) ++ cutS x1 (min t.f1 x1) r else if x0 < x1 then [⟨x0, x1⟩] else []
def skipS (x0 : Int) : List Sp → List Sp
 | [] => []
 | t :: r => if t.f1 ≤ x0 then skipS x0 r else t :: r
def lessL : List Sp → List Sp → List Sp
 | [], _ => []
 | x :: sa, b => cutS x.f1 x.f0 (skipS x.f0 b) ++ lessL sa (skipS x.f0 b)
theorem skip_spec (x0 : Int) (b : List Sp) : ∀ lo, Canon lo b → (∃ lo', Canon lo' (skipS x0 b)) ∧ (∀ t r, skipS x0 b = t :: r → x0 < t.f1) ∧ (∀ z, x0 ≤ z → (InS (skipS x0 b) z ↔ InS b z)) ∧ ∃ p, b = p ++ skipS x0 b := by
 induction b with
 | nil => intro lo h; exact ⟨⟨lo, h⟩, fun t r e => (by simp [skipS] at e), fun z _ => Iff.rfl, [], rfl⟩
 | cons t r ih =>
  intro lo h
  by_cases ht : t.f1 ≤ x0
  ·obtain ⟨i1, i2, i3, p, i4⟩ := ih t.f1 h.2.2.2
   rw [skipS, if_pos ht]
   refine ⟨i1, i2, fun z hz => ?_, t :: p, by rw [List.cons_append, ← i4]⟩
   rw [i3 z hz, inS_cons]
   constructor
   ·exact .inr
   ·rintro (h | h)
    ·omega
    ·exact h
  ·rw [skipS, if_neg ht]
   refine ⟨⟨lo, h⟩, fun t' r' e => ?_, fun z _ => Iff.rfl, [], rfl⟩
   injection e with e1 e2
   subst e1; omega
theorem cut_in (x1 : Int) (b : List Sp) : ∀ x0 lo, x0 ≤ x1 → Canon lo b → (∀ t r, b = t :: r → x0 < t.f1) → ∀ z, InS (cutS x1 x0 b) z ↔ (x0 ≤ z ∧ z < x1) ∧ ¬ InS b z := by
 induction b with
 | nil =>
  intro x0 lo h0 _ _ z
  rw [cutS]
  split
  ·simp [InS]
  ·simp [InS]; omega
 | cons t r ih =>
  intro x0 lo h0 hc hd z
  have ht := hd t r rfl
  obtain ⟨c1, c2, c3, c4⟩ := hc
  rw [cutS]
  by_cases h : t.f0 < x1
  ·rw [if_pos h, inS_append, ih (min t.f1 x1) t.f1 (by omega) c4 (fun t' r' e => by subst e; have := c4.1; have := c4.2.1; omega) z, inS_cons]
   have hs : InS (if x0 < t.f0 then [(⟨x0, t.f0⟩ : Sp)] else []) z ↔ x0 ≤ z ∧ z < t.f0 := by
    split
    ·simp [InS]
    ·simp [InS]; omega
   rw [hs]
   constructor
   ·rintro (h' | ⟨h', hn⟩)
    ·refine ⟨by omega, ?_⟩
     rintro (h2 | h2)
     ·omega
     ·have := canon_lb c4 h2; omega
    ·exact ⟨by omega, fun h2 => h2.elim (fun h2 => by omega) hn⟩
   ·rintro ⟨h', hn⟩
    by_cases hz : z < t.f0
    ·exact .inl ⟨h'.1, hz⟩
    ·have hz2 : ¬ z < t.f1 := fun h2 => hn (.inl ⟨by omega, h2⟩)
     exact .inr ⟨by omega, fun h2 => hn (.inr h2)⟩
  ·rw [if_neg h, inS_cons]
   split
   ·simp only [inS_cons, inS_nil, or_false]
    constructor
    ·intro h'
     refine ⟨h', ?_⟩
     have h' : x0 ≤ z ∧ z < x1 := h'
     rintro (h2 | h2)
     ·omega
     ·have := canon_lb c4 h2; omega
    ·intro h'; exact h'.1
   ·simp only [inS_nil, false_iff]
    intro h'; omega
theorem cut_canon (x1 : Int) (hx : x1 ≤ top) (b : List Sp) : ∀ x0 lo lo', x0 ≤ x1 → lo < x0 → Canon lo' b → (∀ t r, b = t :: r → x0 < t.f1) → Canon lo (cutS x1 x0 b) ∧ endOf lo (cutS x1 x0 b) ≤ x1 := by
 induction b with
 | nil =>
  intro x0 lo lo' h0 hl _ _
  rw [cutS]
  split
  ·exact ⟨⟨hl, by assumption, hx, trivial⟩, Int.le_refl _⟩
  ·exact ⟨trivial, by show lo ≤ x1; omega⟩
 | cons t r ih =>
  intro x0 lo lo' h0 hl hc hd
  have ht := hd t r rfl
  obtain ⟨c1, c2, c3, c4⟩ := hc
  rw [cutS]
  by_cases h : t.f0 < x1
  ·rw [if_pos h]
   have hd' : ∀ t' r', r = t' :: r' → min t.f1 x1 < t'.f1 := fun t' r' e => by subst e; have := c4.1; have := c4.2.1; omega
   by_cases h2 : x0 < t.f0
   ·rw [if_pos h2]
    obtain ⟨i1, i2⟩ := ih (min t.f1 x1) t.f0 t.f1 (by omega) (by omega) c4 hd'
    exact ⟨⟨hl, h2, by show t.f0 ≤ top; omega, i1⟩, i2⟩
   ·rw [if_neg h2, List.nil_append]
    by_cases h3 : x0 < x1
    ·exact ih (min t.f1 x1) lo t.f1 (by omega) (by omega) c4 hd'
    ·exact ih (min t.f1 x1) lo t.f1 (by omega) (by omega) c4 hd'
  ·rw [if_neg h]
   split
   ·exact ⟨⟨hl, by assumption, hx, trivial⟩, Int.le_refl _⟩
   ·exact ⟨trivial, by show lo ≤ x1; omega⟩
theorem less_spec (a : List Sp) : ∀ lo lo' b, Canon lo a → Canon lo' b → Canon lo (lessL a b) ∧ ∀ z, InS (lessL a b) z ↔ InS a z ∧ ¬ InS b z := by
 induction a with
 | nil => intro lo lo' b _ _; exact ⟨trivial, fun z => by simp [lessL, InS]⟩
 | cons x a ih =>
  intro lo lo' b ha hb
  obtain ⟨a1, a2, a3, a4⟩ := ha
  obtain ⟨⟨lo2, s1⟩, s2, s3, _⟩ := skip_spec x.f0 b lo' hb
  obtain ⟨i1, i2⟩ := ih x.f1 lo2 _ a4 s1
  obtain ⟨c1, c2⟩ := cut_canon x.f1 a3 (skipS x.f0 b) x.f0 lo lo2 (by omega) a1 s1 s2
  refine ⟨canon_append.2 ⟨c1, canon_weak i1 c2⟩, fun z => ?_⟩
  rw [lessL, inS_append, cut_in x.f1 _ x.f0 lo2 (by omega) s1 s2 z, i2, inS_cons]
  constructor
  ·rintro (⟨h, hn⟩ | ⟨h, hn⟩)
   ·exact ⟨.inl h, fun h' => hn ((s3 z h.1).2 h')⟩
   ·have := canon_lb a4 h
    exact ⟨.inr h, fun h' => hn ((s3 z (by omega)).2 h')⟩
  ·rintro ⟨h | h, hn⟩
   ·exact .inl ⟨h, fun h' => hn ((s3 z h.1).1 h')⟩
   ·have := canon_lb a4 h
    exact .inr ⟨h, fun h' => hn ((s3 z (by omega)).1 h')⟩
theorem cut_len (x1 : Int) (b : List Sp) : ∀ x0, (cutS x1 x0 b).length ≤ b.length + 1 := by
 induction b with
 | nil => intro x0; rw [cutS]; split <;> simp
 | cons t r ih =>
  intro x0
  rw [cutS]
  split
  ·rw [List.length_append]; have := ih (min t.f1 x1); split <;> simp <;> omega
  ·split <;> simp
theorem skip_len (x0 : Int) (b : List Sp) : (skipS x0 b).length ≤ b.length := by
 induction b with
 | nil => simp [skipS]
 | cons t r ih => rw [skipS]; split <;> simp <;> omega
theorem less_len (a : List Sp) : ∀ b, (lessL a b).length ≤ a.length * (b.length + 1) := by
 induction a with
 | nil => intro b; simp [lessL]
 | cons x a ih =>
  intro b
  rw [lessL, List.length_append, List.length_cons, Nat.succ_mul]
  have h1 := cut_len x.f1 (skipS x.f0 b) x.f0
  have h2 := ih (skipS x.f0 b)
  have h3 := skip_len x.f0 b
  have h4 : a.length * ((skipS x.f0 b).length + 1) ≤ a.length * (b.length + 1) := Nat.mul_le_mul_left _ (by omega)
  omega
section
variable (a b : List Sp) (ha : a.length < 100000) (hb : b.length < 100000)
include ha hb
/-- The inner loop. -/
theorem less_l2 (x1 : Int) (j i : Int) (r : List Sp) (suf : List Sp) (hw0 : ∀ out : List Sp, out.length < 10000000000 → True) : ∀ (pre out : List Sp) (x0 : Int), b = pre ++ suf → out.length + 2 * suf.length + 2 < 8000000000000 →
  Ev (fun k => ranges_Set_Less.l0 k (out ++ cutS x1 x0 suf) j a (a.length : Int) (wrap64 (i + 1)) b) r → Ev (fun k => ranges_Set_Less.l2 k out j (pre.length : Int) a (a.length : Int) i b x0 x1) r := by
 have _ := ha
 induction suf with
 | nil =>
  intro pre out x0 e ho h
  have e0 : ∀ k, ranges_Set_Less.l2 (k + 1) out j (pre.length : Int) a (a.length : Int) i b x0 x1 = ranges_Set_Less.j4 k out j (pre.length : Int) a (a.length : Int) i false b x0 x1 := by
   intro k; rw [ranges_Set_Less.l2, if_neg (by rw [e]; simp)]
  have e1 : ∀ k, ranges_Set_Less.j4 (k + 1) out j (pre.length : Int) a (a.length : Int) i false b x0 x1 = ranges_Set_Less.l0 k (out ++ cutS x1 x0 []) j a (a.length : Int) (wrap64 (i + 1)) b := by
   intro k
   rw [ranges_Set_Less.j4, if_neg (by simp), cutS]
   by_cases h : x0 < x1
   ·rw [if_pos h, if_pos (by omega), if_pos h]
   ·rw [if_neg h, if_neg h, List.append_nil]
  exact Ev.step e0 (Ev.step e1 h)
 | cons t suf ih =>
  intro pre out x0 e ho h
  have hlt : pre.length < b.length := by rw [e]; simp
  have hrd : rd_T48 b (pre.length : Int) = t := by rw [e]; exact rdS_at _ _ _
  have hw : wrap64 ((pre.length : Int) + 1) = ((pre ++ [t]).length : Int) := by rw [wrap_small (by omega) (by omega)]; simp
  have e0 : ∀ k, ranges_Set_Less.l2 (k + 1) out j (pre.length : Int) a (a.length : Int) i b x0 x1 = ranges_Set_Less.j4 k out j (pre.length : Int) a (a.length : Int) i (decide (t.f0 < x1)) b x0 x1 := by
   intro k; rw [ranges_Set_Less.l2, if_pos (by omega), if_pos (by omega), hrd]
  rw [cutS] at h
  simp only [List.length_cons] at ho
  by_cases hc : t.f0 < x1
  ·rw [if_pos hc] at h
   rw [decide_eq_true hc] at e0
   have emn : mn t.f1 x1 = min t.f1 x1 := by unfold mn; omega
   have e1 : ∀ k, ranges_Set_Less.j4 (k + 1) out j (pre.length : Int) a (a.length : Int) i true b x0 x1 = ranges_Set_Less.l2 k (out ++ if x0 < t.f0 then [⟨x0, t.f0⟩] else []) j ((pre ++ [t]).length : Int) a (a.length : Int) i b (min t.f1 x1) x1 := by
    intro k
    rw [ranges_Set_Less.j4, if_pos rfl, if_pos (by omega), if_pos (by omega), hrd, hw, emn]
    by_cases h2 : x0 < t.f0
    ·rw [if_pos (by omega), if_pos (by omega), if_pos h2]
    ·rw [if_neg (by omega), if_neg h2, List.append_nil]
   refine Ev.step e0 (Ev.step e1 (ih (pre ++ [t]) _ (min t.f1 x1) (by simp [e]) (by split <;> simp <;> omega) ?_))
   rw [List.append_assoc]; exact h
  ·rw [if_neg hc] at h
   rw [decide_eq_false hc] at e0
   have e1 : ∀ k, ranges_Set_Less.j4 (k + 1) out j (pre.length : Int) a (a.length : Int) i false b x0 x1 = ranges_Set_Less.l0 k (out ++ if x0 < x1 then [⟨x0, x1⟩] else []) j a (a.length : Int) (wrap64 (i + 1)) b := by
    intro k
    rw [ranges_Set_Less.j4, if_neg (by simp)]
    by_cases h : x0 < x1
    ·rw [if_pos h, if_pos (by omega), if_pos h]
    ·rw [if_neg h, if_neg h, List.append_nil]
   exact Ev.step e0 (Ev.step e1 h)
/-- The loop that passes over what lies ahead. -/
theorem less_l1 (out : List Sp) (i x0 x1 : Int) (r : List Sp) (suf : List Sp) : ∀ (pre : List Sp), b = pre ++ suf →
  (∀ pre', b = pre' ++ skipS x0 suf → Ev (fun k => ranges_Set_Less.l2 k out (pre'.length : Int) (pre'.length : Int) a (a.length : Int) i b x0 x1) r) → Ev (fun k => ranges_Set_Less.l1 k out (pre.length : Int) a (a.length : Int) i b x0 x1) r := by
 have _ := ha
 induction suf with
 | nil =>
  intro pre e h
  have e0 : ∀ k, ranges_Set_Less.l1 (k + 1) out (pre.length : Int) a (a.length : Int) i b x0 x1 = ranges_Set_Less.j2 k out (pre.length : Int) a (a.length : Int) i b x0 x1 := by
   intro k; rw [ranges_Set_Less.l1, if_neg (by rw [e]; simp)]
  exact Ev.step e0 (Ev.step (fun k => by rw [ranges_Set_Less.j2]) (h pre e))
 | cons t suf ih =>
  intro pre e h
  have hlt : pre.length < b.length := by rw [e]; simp
  have hrd : rd_T48 b (pre.length : Int) = t := by rw [e]; exact rdS_at _ _ _
  have hw : wrap64 ((pre.length : Int) + 1) = ((pre ++ [t]).length : Int) := by rw [wrap_small (by omega) (by omega)]; simp
  rw [skipS] at h
  by_cases hc : t.f1 ≤ x0
  ·rw [if_pos hc] at h
   refine Ev.step (fun k => ?_) (ih (pre ++ [t]) (by simp [e]) h)
   rw [ranges_Set_Less.l1, if_pos (by omega), if_pos (by omega), hrd, if_pos hc, hw]
  ·rw [if_neg hc] at h
   have e0 : ∀ k, ranges_Set_Less.l1 (k + 1) out (pre.length : Int) a (a.length : Int) i b x0 x1 = ranges_Set_Less.j2 k out (pre.length : Int) a (a.length : Int) i b x0 x1 := by
    intro k; rw [ranges_Set_Less.l1, if_pos (by omega), if_pos (by omega), hrd, if_neg hc]
   exact Ev.step e0 (Ev.step (fun k => by rw [ranges_Set_Less.j2]) (h pre e))
theorem less_l0 (suf : List Sp) : ∀ (pre out pb sb : List Sp), a = pre ++ suf → b = pb ++ sb → out.length ≤ pre.length * 100001 →
  Ev (fun k => ranges_Set_Less.l0 k out (pb.length : Int) a (a.length : Int) (pre.length : Int) b) (out ++ lessL suf sb) := by
 induction suf with
 | nil =>
  intro pre out pb sb e eb ho
  refine Ev.now fun k => ?_
  rw [ranges_Set_Less.l0, if_neg (by rw [e]; simp), lessL, List.append_nil]
 | cons x suf ih =>
  intro pre out pb sb e eb ho
  have hlt : pre.length < a.length := by rw [e]; simp
  have hrd : rd_T48 a (pre.length : Int) = x := by rw [e]; exact rdS_at _ _ _
  have hw : wrap64 ((pre.length : Int) + 1) = ((pre ++ [x]).length : Int) := by rw [wrap_small (by omega) (by omega)]; simp
  have e0 : ∀ k, ranges_Set_Less.l0 (k + 1) out (pb.length : Int) a (a.length : Int) (pre.length : Int) b = ranges_Set_Less.l1 k out (pb.length : Int) a (a.length : Int) (pre.length : Int) b x.f0 x.f1 := by
   intro k; rw [ranges_Set_Less.l0, if_pos (by omega), if_pos (by omega), if_pos (by omega), hrd]
  have hpl : pre.length * 100001 ≤ 100000 * 100001 := Nat.mul_le_mul_right _ (by omega)
  refine Ev.step e0 (less_l1 a b ha hb out _ x.f0 x.f1 _ sb pb eb fun pre' e' => ?_)
  have hsl : (skipS x.f0 sb).length ≤ b.length := by rw [e']; simp
  have hcl := cut_len x.f1 (skipS x.f0 sb) x.f0
  refine less_l2 a b ha hb x.f1 _ _ _ (skipS x.f0 sb) (fun _ _ => trivial) pre' out x.f0 e' (by omega) ?_
  rw [hw, lessL, ← List.append_assoc]
  refine ih (pre ++ [x]) (out ++ cutS x.f1 x.f0 (skipS x.f0 sb)) pre' (skipS x.f0 sb) (by simp [e]) e' ?_
  rw [List.length_append, List.length_append, Nat.add_mul]
  simp; omega
end
/-- **(Set).Less**. -/
theorem less_f (a b : List Sp) (ha : a.length < 100000) (hb : b.length < 100000) (ca : Canon (-1) a) (cb : Canon (-1) b) :
  ∃ r, Ev (fun k => ranges_Set_Less.f k a b) r ∧ Canon (-1) r ∧ (∀ z, InS r z ↔ InS a z ∧ ¬ InS b z) ∧ r.length ≤ a.length * (b.length + 1) :=
 ⟨lessL a b, by have h := less_l0 a b ha hb a [] [] [] b rfl rfl (Nat.zero_le _); simpa [ranges_Set_Less.f] using h, (less_spec a _ _ b ca cb).1, (less_spec a _ _ b ca cb).2, less_len a b⟩
end Go.Proofs.Ytnaalaakhdbfbaa.XP
