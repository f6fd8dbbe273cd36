/- ranges.(Set).And: what it comes to. -/
import Derived.Test.YtnaalaakhdbfbaaV4XP5
import Derived.Test.YtnaalaakhdbfbaaV4RgOf
set_option linter.unusedVariables false
set_option linter.unusedSimpArgs false
namespace Go.Proofs.Ytnaalaakhdbfbaa.XP
open Go.RowKit Go.Proofs.YtnaalaakhdbfbaaW.PrintWords Go.Proofs.YtnaalaakhdbfbaaW.PrintLast Go.Proofs.YtnaalaakhdbfbaaW.PrintMore
def andL : List Sp → List Sp → List Sp
 | x :: sa, y :: sb => (if max x.f0 y.f0 < min x.f1 y.f1 then [⟨max x.f0 y.f0, min x.f1 y.f1⟩] else []) ++ (if x.f1 < y.f1 then andL sa (y :: sb) else andL (x :: sa) sb)
 | [], _ => []
 | _ :: _, [] => []
termination_by a b => a.length + b.length
theorem canon_good {lo : Int} {l : List Sp} (h : Canon lo l) (h0 : -1 ≤ lo) : ∀ x ∈ l, goodS x = true := by
 induction l generalizing lo with
 | nil => intro x hx; simp at hx
 | cons y l ih =>
  intro x hx
  obtain ⟨h1, h2, h3, h4⟩ := h
  rcases List.mem_cons.1 hx with e | hx
  ·subst e; exact goodS_iff.2 ⟨by omega, h2, h3⟩
  ·exact ih h4 (by omega) x hx
theorem and_canon (a b : List Sp) : ∀ lo lo', Canon lo a → Canon lo' b → Canon (max lo lo') (andL a b) := by
 induction a, b using andL.induct with
 | case1 x sa y sb ih1 ih2 =>
  rintro lo lo' ⟨a1, a2, a3, a4⟩ ⟨b1, b2, b3, b4⟩
  rw [andL]
  refine canon_append.2 ⟨?_, ?_⟩
  ·split
   ·exact ⟨by show max lo lo' < max x.f0 y.f0; omega, by show max x.f0 y.f0 < min x.f1 y.f1; assumption, by show min x.f1 y.f1 ≤ top; omega, trivial⟩
   ·trivial
  ·by_cases h : x.f1 < y.f1
   ·rw [if_pos h]
    have := ih1 x.f1 lo' a4 ⟨b1, b2, b3, b4⟩
    refine canon_weak this ?_
    split
    ·show min x.f1 y.f1 ≤ _; omega
    ·show max lo lo' ≤ _; omega
   ·rw [if_neg h]
    have := ih2 lo y.f1 ⟨a1, a2, a3, a4⟩ b4
    refine canon_weak this ?_
    split
    ·show min x.f1 y.f1 ≤ _; omega
    ·show max lo lo' ≤ _; omega
 | case2 => intro _ _ _ _; simp [andL, Canon]
 | case3 => intro _ _ _ _; simp [andL, Canon]
theorem and_in (a b : List Sp) : ∀ lo lo', Canon lo a → Canon lo' b → ∀ z, InS (andL a b) z ↔ InS a z ∧ InS b z := by
 induction a, b using andL.induct with
 | case1 x sa y sb ih1 ih2 =>
  intro lo lo' ha hb z
  have ha' := ha; have hb' := hb
  obtain ⟨a1, a2, a3, a4⟩ := ha
  obtain ⟨b1, b2, b3, b4⟩ := hb
  rw [andL, inS_append]
  have hd : InS (if max x.f0 y.f0 < min x.f1 y.f1 then [(⟨max x.f0 y.f0, min x.f1 y.f1⟩ : Sp)] else []) z ↔ (x.f0 ≤ z ∧ z < x.f1) ∧ (y.f0 ≤ z ∧ z < y.f1) := by
   split
   ·rw [inS_cons]
    constructor
    ·rintro (h | h)
     ·have h : max x.f0 y.f0 ≤ z ∧ z < min x.f1 y.f1 := h
      omega
     ·exact absurd h (inS_nil z)
    ·intro h; exact .inl (by show max x.f0 y.f0 ≤ z ∧ z < min x.f1 y.f1; omega)
   ·constructor
    ·intro h; exact absurd h (inS_nil z)
    ·intro h; omega
  rw [hd]
  by_cases h : x.f1 < y.f1
  ·rw [if_pos h, ih1 x.f1 lo' a4 hb' z, inS_cons x sa, inS_cons y sb]
   constructor
   ·rintro (h' | h')
    ·exact ⟨.inl h'.1, .inl h'.2⟩
    ·exact ⟨.inr h'.1, h'.2⟩
   ·rintro ⟨h1 | h1, h2⟩
    ·rcases h2 with h2 | h2
     ·exact .inl ⟨h1, h2⟩
     ·have := canon_lb b4 h2; omega
    ·exact .inr ⟨h1, h2⟩
  ·rw [if_neg h, ih2 lo y.f1 ha' b4 z, inS_cons x sa, inS_cons y sb]
   constructor
   ·rintro (h' | h')
    ·exact ⟨.inl h'.1, .inl h'.2⟩
    ·exact ⟨h'.1, .inr h'.2⟩
   ·rintro ⟨h1, h2 | h2⟩
    ·rcases h1 with h1 | h1
     ·exact .inl ⟨h1, h2⟩
     ·have := canon_lb a4 h1; omega
    ·exact .inr ⟨h1, h2⟩
 | case2 => intro _ _ _ _ z; simp [andL, InS]
 | case3 => intro _ _ _ _ z; simp [andL, InS]
theorem and_len (a b : List Sp) : (andL a b).length ≤ a.length + b.length := by
 induction a, b using andL.induct with
 | case1 x sa y sb ih1 ih2 =>
  rw [andL, List.length_append]
  by_cases h : x.f1 < y.f1
  ·rw [if_pos h]; have := ih1; split <;> simp at * <;> omega
  ·rw [if_neg h]; have := ih2; split <;> simp at * <;> omega
 | case2 => simp [andL]
 | case3 => simp [andL]
theorem meet_f {x y : Sp} (hx : goodS x = true) (hy : goodS y = true) : span_Meet.f x.f0 x.f1 y.f0 y.f1 = some (if max x.f0 y.f0 < min x.f1 y.f1 then (max x.f0 y.f0, min x.f1 y.f1, true) else (0, 0, false)) := by
 have hx := goodS_iff.1 hx; have hy := goodS_iff.1 hy
 have e1 : mx x.f0 y.f0 = max x.f0 y.f0 := by unfold mx; omega
 have e2 : mn x.f1 y.f1 = min x.f1 y.f1 := by unfold mn; omega
 have r1 : (0 ≤ x.f0 ∧ x.f0 ≤ x.f1 ∧ x.f1 ≤ 4611686018427387904) := by omega
 have r2 : (0 ≤ y.f0 ∧ y.f0 ≤ y.f1 ∧ y.f1 ≤ 4611686018427387904) := by omega
 unfold span_Meet.f
 rw [right_f, right_f]
 simp only [Option.bind_some, decide_eq_true r1, decide_eq_true r2, if_true, e1, e2]
 by_cases h : max x.f0 y.f0 < min x.f1 y.f1
 ·rw [if_neg (by omega), if_pos h]
 ·rw [if_pos (by omega), if_neg h]
theorem and_l0 (a b : List Sp) (ha : a.length < 1000000) (hb : b.length < 1000000) (ga : ∀ x ∈ a, goodS x = true) (gb : ∀ x ∈ b, goodS x = true) (sa sb : List Sp) :
  ∀ (pa pb out : List Sp), a = pa ++ sa → b = pb ++ sb → out.length ≤ pa.length + pb.length → Ev (fun k => ranges_Set_And.l0 k out (pa.length : Int) (pb.length : Int) a b) (out ++ andL sa sb) := by
 induction sa, sb using andL.induct with
 | case1 x sa y sb ih1 ih2 =>
  intro pa pb out ea eb ho
  have hla : pa.length < a.length := by rw [ea]; simp
  have hlb : pb.length < b.length := by rw [eb]; simp
  have hra : rd_T48 a (pa.length : Int) = x := by rw [ea]; exact rdS_at _ _ _
  have hrb : rd_T48 b (pb.length : Int) = y := by rw [eb]; exact rdS_at _ _ _
  have hwa : wrap64 ((pa.length : Int) + 1) = ((pa ++ [x]).length : Int) := by rw [wrap_small (by omega) (by omega)]; simp
  have hwb : wrap64 ((pb.length : Int) + 1) = ((pb ++ [y]).length : Int) := by rw [wrap_small (by omega) (by omega)]; simp
  have hm := meet_f (ga x (by rw [ea]; simp)) (gb y (by rw [eb]; simp))
  have hlo : out.length < 8796093022208 := by omega
  obtain ⟨out', hout⟩ : ∃ out', out' = out ++ (if max x.f0 y.f0 < min x.f1 y.f1 then [(⟨max x.f0 y.f0, min x.f1 y.f1⟩ : Sp)] else []) := ⟨_, rfl⟩
  have hol : out'.length ≤ out.length + 1 := by rw [hout]; split <;> simp
  obtain ⟨cond, hcond⟩ : ∃ cond, cond = decide (max x.f0 y.f0 < min x.f1 y.f1) := ⟨_, rfl⟩
  have e0 : ∀ k, ranges_Set_And.l0 (k + 1) out (pa.length : Int) (pb.length : Int) a b = ranges_Set_And.j1 k out (pa.length : Int) (pb.length : Int) true a b := by
   intro k
   rw [ranges_Set_And.l0, if_pos (by omega), decide_eq_true (by omega)]
  have e1 : ∀ k, ranges_Set_And.j1 (k + 1) out (pa.length : Int) (pb.length : Int) true a b = ranges_Set_And.j2 k out (pa.length : Int) (pb.length : Int) cond a b (if cond = true then max x.f0 y.f0 else 0) (if cond = true then min x.f1 y.f1 else 0) := by
   intro k
   rw [ranges_Set_And.j1, if_pos rfl, if_pos (by omega), if_pos (by omega), if_pos (by omega), if_pos (by omega), hra, hrb, hm]
   by_cases h : max x.f0 y.f0 < min x.f1 y.f1
   ·simp [h, hcond]
   ·simp [h, hcond]
  have e2 : ∀ k, ranges_Set_And.j2 (k + 1) out (pa.length : Int) (pb.length : Int) cond a b (if cond = true then max x.f0 y.f0 else 0) (if cond = true then min x.f1 y.f1 else 0) =
    if x.f1 < y.f1 then ranges_Set_And.l0 k out' ((pa ++ [x]).length : Int) (pb.length : Int) a b else ranges_Set_And.l0 k out' (pa.length : Int) ((pb ++ [y]).length : Int) a b := by
   intro k
   rw [ranges_Set_And.j2, hra, hrb, hwa, hwb]
   by_cases h : max x.f0 y.f0 < min x.f1 y.f1
   ·rw [decide_eq_true h] at hcond; subst hcond
    rw [if_pos h] at hout
    rw [if_pos rfl, if_pos hlo]
    simp only [Option.bind_some, if_true]
    rw [if_pos (by omega), if_pos (by omega), if_pos (by omega), if_pos (by omega), hout]
   ·rw [decide_eq_false h] at hcond; subst hcond
    rw [if_neg h, List.append_nil] at hout
    rw [if_neg (by simp), if_pos (by omega), if_pos (by omega), if_pos (by omega), if_pos (by omega), hout]
  have er : out ++ andL (x :: sa) (y :: sb) = out' ++ (if x.f1 < y.f1 then andL sa (y :: sb) else andL (x :: sa) sb) := by rw [andL, hout, List.append_assoc]
  rw [er]
  refine Ev.step e0 (Ev.step e1 ?_)
  by_cases h : x.f1 < y.f1
  ·rw [if_pos h]
   refine Ev.step (fun k => (e2 k).trans (if_pos h)) (ih1 (pa ++ [x]) pb out' (by simp [ea]) eb (by simp; omega))
  ·rw [if_neg h]
   refine Ev.step (fun k => (e2 k).trans (if_neg h)) (ih2 pa (pb ++ [y]) out' ea (by simp [eb]) (by simp; omega))
 | case2 sb =>
  intro pa pb out ea eb ho
  have e0 : ∀ k, ranges_Set_And.l0 (k + 1) out (pa.length : Int) (pb.length : Int) a b = ranges_Set_And.j1 k out (pa.length : Int) (pb.length : Int) false a b := by
   intro k; rw [ranges_Set_And.l0, if_neg (by rw [ea]; simp)]
  refine Ev.step e0 (Ev.now fun k => ?_)
  rw [ranges_Set_And.j1, if_neg (by simp)]; simp [andL]
 | case3 x sa =>
  intro pa pb out ea eb ho
  have e0 : ∀ k, ranges_Set_And.l0 (k + 1) out (pa.length : Int) (pb.length : Int) a b = ranges_Set_And.j1 k out (pa.length : Int) (pb.length : Int) false a b := by
   intro k; rw [ranges_Set_And.l0, if_pos (by rw [ea]; simp <;> omega), decide_eq_false (by rw [eb]; simp)]
  refine Ev.step e0 (Ev.now fun k => ?_)
  rw [ranges_Set_And.j1, if_neg (by simp)]; simp [andL]
/-- **(Set).And**. -/
theorem and_f (a b : List Sp) (ha : a.length < 1000000) (hb : b.length < 1000000) (ca : Canon (-1) a) (cb : Canon (-1) b) :
  ∃ r, Ev (fun k => ranges_Set_And.f k a b) r ∧ Canon (-1) r ∧ (∀ z, InS r z ↔ InS a z ∧ InS b z) ∧ r.length ≤ a.length + b.length :=
 ⟨andL a b, by simpa [ranges_Set_And.f] using and_l0 a b ha hb (canon_good ca (Int.le_refl _)) (canon_good cb (Int.le_refl _)) a b [] [] [] rfl rfl (Nat.zero_le _), and_canon a b _ _ ca cb, and_in a b _ _ ca cb, and_len a b⟩
end Go.Proofs.Ytnaalaakhdbfbaa.XP
