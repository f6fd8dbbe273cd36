/- Gaps, widened: the program's and the document's; how many bytes of a span aren't in a set. -/
import Derived.Test.YtnaalaakhdbfbaaV4RgUnits
import Derived.Test.YtnaalaakhdbfbaaV4XP25
set_option linter.unusedVariables false
set_option linter.unusedSimpArgs false
namespace Go.Proofs.Ytnaalaakhdbfbaa.XP
open Go.RowKit Go.Proofs.YtnaalaakhdbfbaaW.PrintWords Go.Proofs.YtnaalaakhdbfbaaW.PrintLast Go.Proofs.YtnaalaakhdbfbaaW.PrintMore
def alignEnd (u t : Int) : Int := if Int.tmod t u > 0 ∧ t < 4611686018427387904 then mn (t - Int.tmod t u + u) 4611686018427387904 else t
def widS (u e : Int) (x : Sp) : Sp := ⟨x.f0 - Int.tmod x.f0 u, if x.f1 < 4611686018427387904 then mn (x.f1 + Int.tmod (u - Int.tmod x.f1 u) u) e else 4611686018427387904⟩
theorem align_f {x : Sp} (hx : goodS x = true) {u : Int} (h4 : 4 ≤ u) (h20 : u ≤ 1048576) : Ev (fun k => span_Align.f k x.f0 x.f1 u) (x.f0 - Int.tmod x.f0 u, alignEnd u x.f1, 0) := by
 have hg := goodS_iff.1 hx
 have a0 := Int.tmod_lt_of_pos x.f0 (show 0 < u by omega)
 have a1 := Int.tmod_nonneg u hg.1
 have b0 := Int.tmod_lt_of_pos x.f1 (show 0 < u by omega)
 have b1 := Int.tmod_nonneg u (show 0 ≤ x.f1 by omega)
 have hr : (0 ≤ x.f0 ∧ x.f0 ≤ x.f1 ∧ x.f1 ≤ 4611686018427387904) := by omega
 refine Ev.congr (g := fun k => span_Align.j0 k u false x.f0 x.f1) (fun k => ?_) (Ev.now fun k => ?_)
 ·unfold span_Align.f
  rw [right_f, decide_eq_true hr]
  simp only [Option.bind_some, if_true]
  rw [if_neg (by omega), decide_eq_false (by omega)]
 ·rw [span_Align.j0, if_neg (by simp), if_neg (by omega)]
  have e0 : wrap64 (x.f0 - Int.tmod x.f0 u) = x.f0 - Int.tmod x.f0 u := wrap_small (by omega) (by omega)
  have e1 : wrap64 (x.f1 - Int.tmod x.f1 u) = x.f1 - Int.tmod x.f1 u := wrap_small (by omega) (by omega)
  have e2 : wrap64 (x.f1 - Int.tmod x.f1 u + u) = x.f1 - Int.tmod x.f1 u + u := wrap_small (by omega) (by omega)
  rw [e0, e1, e2]
  unfold alignEnd
  by_cases h1 : Int.tmod x.f1 u > 0
  ·by_cases h2 : x.f1 < 4611686018427387904
   ·rw [if_pos h1, if_pos h2, if_pos ⟨h1, h2⟩]
   ·rw [if_pos h1, if_neg h2, if_neg (fun h => h2 h.2)]
  ·rw [if_neg h1, if_neg (fun h => h1 h.1)]
theorem align_end {x : Sp} (hx : goodS x = true) {u e : Int} (h4 : 4 ≤ u) (h20 : u ≤ 1048576) (he : x.f1 ≤ e) (hT : e ≤ 4611686018427387904) : mn (alignEnd u x.f1) e = (widS u e x).f1 := by
 have hg := goodS_iff.1 hx
 have b0 := Int.tmod_lt_of_pos x.f1 (show 0 < u by omega)
 have b1 := Int.tmod_nonneg u (show 0 ≤ x.f1 by omega)
 unfold alignEnd widS
 by_cases h2 : x.f1 < 4611686018427387904
 ·by_cases h1 : Int.tmod x.f1 u > 0
  ·rw [if_pos ⟨h1, h2⟩]
   show _ = (if x.f1 < 4611686018427387904 then _ else _)
   rw [if_pos h2, Int.tmod_eq_of_lt (a := u - Int.tmod x.f1 u) (by omega) (by omega)]
   unfold mn; omega
  ·rw [if_neg (fun h => h1 h.1)]
   show _ = (if x.f1 < 4611686018427387904 then _ else _)
   have h0 : Int.tmod x.f1 u = 0 := by omega
   rw [if_pos h2, h0, Int.sub_zero, Int.tmod_self, Int.add_zero]
 ·rw [if_neg (fun h => h2 h.2)]
  show _ = (if x.f1 < 4611686018427387904 then _ else _)
  rw [if_neg h2]; unfold mn; omega
theorem punits_l0 (u e o : Int) (h4 : 4 ≤ u) (h20 : u ≤ 1048576) (hT : e ≤ 4611686018427387904) (l : List Sp) (hl : l.length < 1000000) (hg : ∀ x ∈ l, goodS x = true ∧ x.f1 ≤ e) (r : List Sp) (hr : Ev (fun k => ranges_Of.f k (l.map (widS u e))) r) (suf : List Sp) :
  ∀ pre, l = pre ++ suf → Ev (fun k => plan_Units.l0 k u (pre.map (widS u e)) l (l.length : Int) (pre.length : Int) o e) r := by
 induction suf with
 | nil =>
  intro pre ee
  have ee' : l = pre := by simpa using ee
  subst ee'
  have h : Ev (fun k => (ranges_Of.f k (l.map (widS u e))).bind fun t => some t) r := Ev.congr (fun k => by cases ranges_Of.f k (l.map (widS u e)) <;> rfl) hr
  refine Ev.step (fun k => ?_) h
  rw [plan_Units.l0, if_neg (by simp)]
 | cons x suf ih =>
  intro pre ee
  have hlt : pre.length < l.length := by rw [ee]; simp
  have hrd : rd_T48 l (pre.length : Int) = x := by rw [ee]; exact rdS_at _ _ _
  have hw : wrap64 ((pre.length : Int) + 1) = ((pre ++ [x]).length : Int) := by rw [wrap_small (by omega) (by omega)]; simp
  obtain ⟨hgx, hex⟩ := hg x (by rw [ee]; simp)
  have hend := align_end hgx h4 h20 hex hT
  have hplen : (pre.map (widS u e)).length < 8796093022208 := by simp; omega
  have ih' := ih (pre ++ [x]) (by simp [ee])
  have e0 : ∀ k, plan_Units.l0 (k + 1) u (pre.map (widS u e)) l (l.length : Int) (pre.length : Int) o e = (span_Align.f k x.f0 x.f1 u).bind fun bt => plan_Units.l0 k u (pre.map (widS u e) ++ [⟨bt.1, mn bt.2.1 e⟩]) l (l.length : Int) ((pre ++ [x]).length : Int) o e := by
   intro k
   rw [plan_Units.l0, if_pos (by omega), if_pos (by omega), if_pos (by omega), hrd, hw]
   congr 1; funext bt
   rw [if_pos hplen]
  refine Ev.step e0 (Ev.bind (f := fun k => span_Align.f k x.f0 x.f1 u) (g := fun k bt => plan_Units.l0 k u (pre.map (widS u e) ++ [⟨bt.1, mn bt.2.1 e⟩]) l (l.length : Int) ((pre ++ [x]).length : Int) o e) (align_f hgx h4 h20) ?_)
  have em : (pre ++ [x]).map (widS u e) = pre.map (widS u e) ++ [⟨x.f0 - Int.tmod x.f0 u, mn (alignEnd u x.f1) e⟩] := by
   rw [List.map_append, hend]; rfl
  rw [em] at ih'
  exact ih'
theorem runits_l0 (u e len : Int) (h4 : 4 ≤ u) (h20 : u ≤ 1048576) (he : mandolineref35_end.f len = some e) (l : List Sp) (hl : l.length < 1000000) (hg : ∀ x ∈ l, goodS x = true ∧ x.f1 ≤ e) (r : List Sp) (hr : Ev (fun k => mandolineref02_Of.f k (l.map (widS u e))) r) (suf : List Sp) :
  ∀ pre, l = pre ++ suf → Ev (fun k => mandolineref35_Units.l0 k len u (pre.map (widS u e)) l (l.length : Int) (pre.length : Int)) r := by
 induction suf with
 | nil =>
  intro pre ee
  have ee' : l = pre := by simpa using ee
  subst ee'
  have h : Ev (fun k => (mandolineref02_Of.f k (l.map (widS u e))).bind fun t => some t) r := Ev.congr (fun k => by cases mandolineref02_Of.f k (l.map (widS u e)) <;> rfl) hr
  refine Ev.step (fun k => ?_) h
  rw [mandolineref35_Units.l0, if_neg (by simp)]
 | cons x suf ih =>
  intro pre ee
  have hlt : pre.length < l.length := by rw [ee]; simp
  have hrd : rd_T48 l (pre.length : Int) = x := by rw [ee]; exact rdS_at _ _ _
  have hw : wrap64 ((pre.length : Int) + 1) = ((pre ++ [x]).length : Int) := by rw [wrap_small (by omega) (by omega)]; simp
  obtain ⟨hgx, hex⟩ := hg x (by rw [ee]; simp)
  have hgi := goodS_iff.1 hgx
  have a0 := Int.tmod_lt_of_pos x.f0 (show 0 < u by omega)
  have a1 := Int.tmod_nonneg u hgi.1
  have b0 := Int.tmod_lt_of_pos x.f1 (show 0 < u by omega)
  have b1 := Int.tmod_nonneg u (show 0 ≤ x.f1 by omega)
  have c0 := Int.tmod_lt_of_pos (u - Int.tmod x.f1 u) (show 0 < u by omega)
  have c1 := Int.tmod_nonneg u (show 0 ≤ u - Int.tmod x.f1 u by omega)
  have e0 : wrap64 (x.f0 - Int.tmod x.f0 u) = x.f0 - Int.tmod x.f0 u := wrap_small (by omega) (by omega)
  have e1 : wrap64 (u - Int.tmod x.f1 u) = u - Int.tmod x.f1 u := wrap_small (by omega) (by omega)
  have e2 : wrap64 (x.f1 + Int.tmod (u - Int.tmod x.f1 u) u) = x.f1 + Int.tmod (u - Int.tmod x.f1 u) u := wrap_small (by omega) (by omega)
  have hplen : (pre.map (widS u e)).length < 8796093022208 := by simp; omega
  have ih' := ih (pre ++ [x]) (by simp [ee])
  have em : (pre ++ [x]).map (widS u e) = pre.map (widS u e) ++ [widS u e x] := by simp
  rw [em] at ih'
  refine Ev.step (fun k => ?_) ih'
  rw [mandolineref35_Units.l0, if_pos (by omega), if_pos (by omega), if_pos (by omega), if_neg (by omega), hrd, hw, e0, e1, e2, he]
  by_cases h2 : x.f1 < 4611686018427387904
  ·have ew : widS u e x = ⟨x.f0 - Int.tmod x.f0 u, mn (x.f1 + Int.tmod (u - Int.tmod x.f1 u) u) e⟩ := by unfold widS; rw [if_pos h2]
   rw [if_pos h2, ew]
   simp only [Option.bind_some]
   rw [if_pos hplen]
  ·have ew : widS u e x = ⟨x.f0 - Int.tmod x.f0 u, 4611686018427387904⟩ := by unfold widS; rw [if_neg h2]
   rw [if_neg h2, ew, if_pos hplen]
def endL (len : Int) : Int := if len < 0 then 4611686018427387904 else len
def lenOk (len : Int) : Bool := decide (-1 ≤ len ∧ len ≤ 1099511627776)
/-- **Gaps, widened, are the document's**, and what they are. -/
theorem units_full (g : List Sp) (len u : Int) (hg : g.length < 50000) (cg : Canon (-1) g) :
  ∃ r, Ev (fun k => plan_Units.f k g len u) r ∧ Ev (fun k => mandolineref35_Units.f k g len u) r ∧ Canon (-1) r ∧ r.length ≤ g.length + 1 ∧
   ((uB u 2 19 && lenOk len) = true → ∃ l : List Sp, Canon (-1) l ∧ (∀ z, InS l z ↔ InS g z ∧ 0 ≤ z ∧ z < endL len) ∧ (∀ x ∈ l, goodS x = true ∧ x.f1 ≤ endL len) ∧ ∀ z, InS r z ↔ InS ((l.map (widS u (endL len))).filter goodS) z) ∧ ((uB u 2 19 && lenOk len) = false → r = []) := by
 have hrest : ∀ b : Bool, b = true → (Ev (fun k => plan_Units.j0 k len u b g) []) ∧ Ev (fun k => mandolineref35_Units.j0 k g len u b) [] := by
  intro b hb; subst hb
  exact ⟨Ev.now fun k => by rw [plan_Units.j0, if_pos rfl], Ev.now fun k => by rw [mandolineref35_Units.j0, if_pos rfl]⟩
 have hl : plan_lengthMay.f len = some (decide (-1 ≤ len ∧ len ≤ 1099511627776)) := by
  unfold plan_lengthMay.f
  by_cases h : len ≥ -1
  ·rw [if_pos h]; congr 1; by_cases h2 : len ≤ 1099511627776 <;> simp [h2] <;> omega
  ·rw [if_neg h]; congr 1; simp; omega
 have hl' : mandolineref35_lengthOk.f len = some (decide (-1 ≤ len ∧ len ≤ 1099511627776)) := by
  unfold mandolineref35_lengthOk.f
  by_cases h : len ≥ -1
  ·rw [if_pos h]; congr 1; by_cases h2 : len ≤ 1099511627776 <;> simp [h2] <;> omega
  ·rw [if_neg h]; congr 1; simp; omega
 have hp : ∀ k, plan_Units.f k g len u = plan_Units.j0 k len u (!(uB u 2 19 && decide (-1 ≤ len ∧ len ≤ 1099511627776))) g := by
  intro k
  unfold plan_Units.f
  rw [unitMay_f, hl]
  cases uB u 2 19 <;> simp
 have hr : Ev (fun k => mandolineref35_unitOk.f k u) (uB u 2 19) := unitOk_f u
 have hr2 : ∀ r, Ev (fun k => mandolineref35_Units.j0 k g len u (!(uB u 2 19 && decide (-1 ≤ len ∧ len ≤ 1099511627776)))) r → Ev (fun k => mandolineref35_Units.f k g len u) r := by
  intro r h
  refine Ev.bind (f := fun k => mandolineref35_unitOk.f k u) (g := fun k t => if t = true then (mandolineref35_lengthOk.f len).bind fun t370 => mandolineref35_Units.j0 k g len u (!t370) else mandolineref35_Units.j0 k g len u true) hr ?_
  refine Ev.congr (fun k => ?_) h
  rw [hl']
  cases uB u 2 19 <;> simp
 by_cases hok : (uB u 2 19 && decide (-1 ≤ len ∧ len ≤ 1099511627776)) = true
 ·obtain ⟨hu, hln⟩ := Bool.and_eq_true_iff.1 hok
  have hln := of_decide_eq_true hln
  obtain ⟨p, p1, p2, eu⟩ := uB_iff.1 hu
  have h4 : 4 ≤ u := by
   have : 2 ^ 2 ≤ 2 ^ p := Nat.pow_le_pow_right (by decide) p1
   generalize 2 ^ p = q at this eu
   omega
  have h20 : u ≤ 1048576 := by
   have : 2 ^ p ≤ 2 ^ 20 := Nat.pow_le_pow_right (by decide) p2
   generalize 2 ^ p = q at this eu
   omega
  rw [hok] at hp hr2
  obtain ⟨e, he⟩ : ∃ e, e = if len < 0 then (4611686018427387904 : Int) else len := ⟨_, rfl⟩
  have heT : e ≤ 4611686018427387904 := by rw [he]; split <;> omega
  have he0 : 0 ≤ e := by rw [he]; split <;> omega
  have hobj : plan_object.f len = some (0, e) := by unfold plan_object.f; rw [he]; split <;> rfl
  have hend : mandolineref35_end.f len = some e := by unfold mandolineref35_end.f; rw [he]; split <;> rfl
  obtain ⟨o, o1, o2, o3, o4, o5⟩ := of_same [⟨0, e⟩] (by simp)
  have o5 : o.length ≤ 1 := o5
  have hin1 : ∀ z, InS o z ↔ 0 ≤ z ∧ z < e := by
   intro z
   rw [o4, ← inB_iff]
   simp [inB, rightB, he0, heT]
  obtain ⟨l, l1, l2, l3, l4, l5⟩ := and_same g o (by omega) (by omega) cg o3
  have hlin : ∀ z, InS l z ↔ InS g z ∧ 0 ≤ z ∧ z < e := fun z => by rw [l4, hin1]
  have l2' : Ev (fun k => mandolineref02_And.f k g [⟨0, e⟩]) l := by
   obtain ⟨m, m1, m2, m3⟩ := rAnd_f g [⟨0, e⟩] (by simp; omega)
   have : m = l := canon_ext m2 l3 fun z => by
    rw [m3, hlin, inB_canon (canon_good cg (Int.le_refl _))]
    simp [inB, rightB, he0, heT]
   rw [← this]; exact m1
  have hgood : ∀ x ∈ l, goodS x = true ∧ x.f1 ≤ e := by
   intro x hx
   have hgx := canon_good l3 (Int.le_refl _) x hx
   have := goodS_iff.1 hgx
   have h := (hlin (x.f1 - 1)).1 ⟨x, hx, by omega, by omega⟩
   exact ⟨hgx, by omega⟩
  obtain ⟨r, r1, r2, r3, r4, r5⟩ := of_same (l.map (widS u e)) (by simp; omega)
  have hA := punits_l0 u e 0 h4 h20 heT l (by omega) hgood r r1 l [] rfl
  have hB := runits_l0 u e len h4 h20 hend l (by omega) hgood r r2 l [] rfl
  refine ⟨r, ?_, hr2 r ?_, r3, by simp at r5; omega, fun _ => ⟨l, l3, by rw [show endL len = e from he.symm]; exact hlin, by rw [show endL len = e from he.symm]; exact hgood, by rw [show endL len = e from he.symm]; exact r4⟩, fun h => by rw [show lenOk len = decide (-1 ≤ len ∧ len ≤ 1099511627776) from rfl, hok] at h; cases h⟩
  ·refine Ev.congr hp (Ev.step (g := fun k => (ranges_Of.f k [⟨0, e⟩]).bind fun t161 => (ranges_Set_And.f k g t161).bind fun t164 => (ranges_Set_Spans.f t164).bind fun t167 => plan_Units.l0 k u [] t167 (t167.length : Int) 0 0 e) (fun k => ?_) ?_)
   ·rw [plan_Units.j0, if_neg (by simp), hobj]; rfl
   ·refine Ev.bind (f := fun k => ranges_Of.f k [⟨0, e⟩]) (g := fun k t161 => (ranges_Set_And.f k g t161).bind fun t164 => (ranges_Set_Spans.f t164).bind fun t167 => plan_Units.l0 k u [] t167 (t167.length : Int) 0 0 e) o1 ?_
    refine Ev.bind (f := fun k => ranges_Set_And.f k g o) (g := fun k t164 => (ranges_Set_Spans.f t164).bind fun t167 => plan_Units.l0 k u [] t167 (t167.length : Int) 0 0 e) l1 ?_
    have hsp : ranges_Set_Spans.f l = some l := by
     unfold ranges_Set_Spans.f api_Span_48.f
     rw [if_pos (by omega)]; rfl
    rw [hsp]; exact hA
  ·refine Ev.step (g := fun k => (mandolineref02_And.f k g [⟨0, e⟩]).bind fun t375 => mandolineref35_Units.l0 k len u [] t375 (t375.length : Int) 0) (fun k => ?_) ?_
   ·rw [mandolineref35_Units.j0, if_neg (by simp), hend]; rfl
   ·exact Ev.bind (f := fun k => mandolineref02_And.f k g [⟨0, e⟩]) (g := fun k t375 => mandolineref35_Units.l0 k len u [] t375 (t375.length : Int) 0) l2' hB
 ·have hf := Bool.eq_false_iff.2 hok
  rw [hf] at hp hr2
  obtain ⟨h1, h2⟩ := hrest (!false) rfl
  exact ⟨[], Ev.congr hp h1, hr2 _ h2, trivial, Nat.zero_le _, fun h => absurd h hok, fun _ => rfl⟩
/-- **How many bytes of a span aren't in a set: as the document says.** -/
theorem waste_same (x : Sp) (g : List Sp) (hg : g.length < 50000) (cg : Canon (-1) g) : ∃ n, Ev (fun k => plan_Waste.f k x.f0 x.f1 g) n ∧ Ev (fun k => mandolineref35_Waste.f k x.f0 x.f1 g) n := by
 by_cases hr : (0 ≤ x.f0 ∧ x.f0 ≤ x.f1 ∧ x.f1 ≤ 4611686018427387904)
 ·obtain ⟨o, o1, o2, o3, o4, o5⟩ := of_same [x] (by simp)
  have o5 : o.length ≤ 1 := o5
  obtain ⟨l, l1, l2, l3, l4, l5⟩ := less_same o g (by omega) (by omega) o3 cg
  have hll : l.length < 100000 := by
   have : o.length * (g.length + 1) ≤ 1 * (g.length + 1) := Nat.mul_le_mul_right _ o5
   omega
  have l2' : Ev (fun k => mandolineref02_Less.f k [x] g) l := by
   obtain ⟨m, m1, m2, m3⟩ := rLess_f [x] g (by simp; omega)
   have : m = l := canon_ext m2 l3 fun z => by rw [m3, l4, o4, inB_iff, inB_canon (canon_good cg (Int.le_refl _))]
   rw [← this]; exact m1
  refine ⟨lenL 0 l, ?_, ?_⟩
  ·refine Ev.congr (g := fun k => (ranges_Of.f k [x]).bind fun t => (ranges_Set_Less.f k t g).bind fun t => (ranges_Set_Len.f k t).bind fun t => some t) (fun k => ?_) ?_
   ·unfold plan_Waste.f; rw [right_f, decide_eq_true hr]; rfl
   ·refine Ev.bind (f := fun k => ranges_Of.f k [x]) (g := fun k t => (ranges_Set_Less.f k t g).bind fun t => (ranges_Set_Len.f k t).bind fun t => some t) o1 ?_
    refine Ev.bind (f := fun k => ranges_Set_Less.f k o g) (g := fun k t => (ranges_Set_Len.f k t).bind fun t => some t) l1 ?_
    exact Ev.bind (f := fun k => ranges_Set_Len.f k l) (g := fun _ t => some t) (len_f (by omega) l3) (Ev.all fun _ => rfl)
  ·have hrb : rightB x = true := rightB_iff.2 hr
   refine Ev.congr (g := fun k => (mandolineref02_Less.f k [x] g).bind fun t => (mandolineref02_Len.f k t).bind fun t => some t) (fun k => ?_) ?_
   ·unfold mandolineref35_Waste.f; rw [right01_f, hrb]; rfl
   ·refine Ev.bind (f := fun k => mandolineref02_Less.f k [x] g) (g := fun k t => (mandolineref02_Len.f k t).bind fun t => some t) l2' ?_
    exact Ev.bind (f := fun k => mandolineref02_Len.f k l) (g := fun _ t => some t) (reflen_f (by omega) l3) (Ev.all fun _ => rfl)
 ·have hrb : rightB x = false := Bool.eq_false_iff.2 fun h => hr (rightB_iff.1 h)
  refine ⟨0, Ev.all fun k => ?_, Ev.all fun k => ?_⟩
  ·unfold plan_Waste.f; rw [right_f, decide_eq_false hr]; rfl
  ·unfold mandolineref35_Waste.f; rw [right01_f, hrb]; rfl
end Go.Proofs.Ytnaalaakhdbfbaa.XP
