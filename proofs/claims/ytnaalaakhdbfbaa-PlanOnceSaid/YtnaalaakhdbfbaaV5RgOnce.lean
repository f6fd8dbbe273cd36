/- PlanOnce: its plain law. -/
import Derived.Test.YtnaalaakhdbfbaaV5RgChain
import Derived.Test.YtnaalaakhdbfbaaV5RgMayEnd
import Derived.Test.YtnaalaakhdbfbaaV5XP26
set_option linter.unusedVariables false
set_option linter.unusedSimpArgs false
namespace Go.Proofs.Ytnaalaakhdbfbaa.XP
open Go.RowKit Go.Proofs.YtnaalaakhdbfbaaW.PrintWords Go.Proofs.YtnaalaakhdbfbaaW.PrintLast Go.Proofs.YtnaalaakhdbfbaaW.PrintMore
theorem nonW_step (w : List Sp) {p z : Int} (hw : Canon (p - 1) w) (hz : p ≤ z) : (InS w z → nonW p w (z + 1) = nonW p w z) ∧ (¬ InS w z → nonW p w (z + 1) = nonW p w z + 1) := by
 constructor
 ·rintro ⟨x, hx, h1, h2⟩
  rw [nonW_in w p x (z + 1) hw hx (by omega) (by omega), nonW_in w p x z hw hx h1 (by omega)]
 ·intro h
  rw [nonW_gap w p z (z + 1) hw hz (by omega) (fun y h1 h2 => by rw [show y = z by omega]; exact h)]; omega
theorem nonW_at (w : List Sp) {p : Int} (hw : Canon (p - 1) w) : nonW p w p = 0 := by
 cases w with
 | nil => simp [nonW]
 | cons y l => simp only [nonW]; rw [if_pos (by have := hw.1; omega)]; omega
theorem nonW_congr (w w' : List Sp) {p : Int} (hw : Canon (p - 1) w) (hw' : Canon (p - 1) w') (n : Nat) : (∀ z, p ≤ z → z < p + n → (InS w z ↔ InS w' z)) → nonW p w (p + n) = nonW p w' (p + n) := by
 induction n with
 | zero => intro _; simp; rw [nonW_at w hw, nonW_at w' hw']
 | succ n ih =>
  intro h
  have h1 := ih fun z z1 z2 => h z z1 (by omega)
  have h2 := h (p + n) (by omega) (by omega)
  obtain ⟨a1, a2⟩ := nonW_step w (z := p + n) hw (by omega)
  obtain ⟨b1, b2⟩ := nonW_step w' (z := p + n) hw' (by omega)
  rw [show p + ((n + 1 : Nat) : Int) = p + (n : Int) + 1 by omega]
  by_cases hc : InS w (p + n)
  ·rw [a1 hc, b1 (h2.1 hc), h1]
  ·rw [a2 hc, b2 (fun h3 => hc (h2.2 h3)), h1]
theorem len_count (P : Int) (hP : P < 4611686018427387904) (l : List Sp) : ∀ p acc, Canon (p - 1) l → p ≤ P → (∀ x ∈ l, x.f1 ≤ P) → lenL acc l = acc + (P - p) - nonW p l P := by
 induction l with
 | nil => intro p acc _ _ _; simp only [lenL, nonW]; omega
 | cons x l ih =>
  intro p acc hc hp h
  obtain ⟨c1, c2, c3, c4⟩ := hc
  have hx := h x (List.mem_cons_self ..)
  simp only [lenL, nonW]
  rw [if_neg (show ¬ x.f1 = 4611686018427387904 by omega), if_neg (show ¬ P ≤ x.f0 by omega), ih x.f1 _ (canon_weak c4 (by omega)) hx fun y hy => h y (List.mem_cons_of_mem _ hy)]
  by_cases hq : P ≤ x.f1
  ·rw [if_pos hq]
   have : P = x.f1 := by omega
   subst this
   rw [nonW_at l (canon_weak c4 (by omega))]; omega
  ·rw [if_neg hq]; omega
theorem len_open (l : List Sp) : ∀ acc, (∃ x ∈ l, x.f1 = 4611686018427387904) → lenL acc l = 4611686018427387904 := by
 induction l with
 | nil => rintro acc ⟨x, hx, _⟩; simp at hx
 | cons y l ih =>
  rintro acc ⟨x, hx, h⟩
  simp only [lenL]
  by_cases hy : y.f1 = 4611686018427387904
  ·rw [if_pos hy]
  ·rw [if_neg hy]
   rcases List.mem_cons.1 hx with rfl | hx
   ·exact absurd h hy
   ·exact ih _ ⟨x, hx, h⟩
/-- A set each of whose spans begins where one of another begins has no more of them. -/
theorem starts_len (w : List Sp) : ∀ lo lo' (a : List Sp), Canon lo a → Canon lo' w → (∀ x ∈ a, ∃ y ∈ w, y.f0 = x.f0) → a.length ≤ w.length := by
 induction w with
 | nil =>
  intro lo lo' a _ _ h
  cases a with
  | nil => simp
  | cons x a => obtain ⟨y, hy, _⟩ := h x (List.mem_cons_self ..); simp at hy
 | cons y w ih =>
  intro lo lo' a ha hw h
  obtain ⟨c1, c2, c3, c4⟩ := hw
  cases a with
  | nil => simp
  | cons x a =>
   obtain ⟨d1, d2, d3, d4⟩ := ha
   by_cases hxy : x.f0 = y.f0
   ·have := ih x.f1 y.f1 a d4 c4 fun z hz => by
     obtain ⟨v, hv, e⟩ := h z (List.mem_cons_of_mem _ hz)
     rcases List.mem_cons.1 hv with rfl | hv
     ·have := (canon_behind d4 z hz).1; omega
     ·exact ⟨v, hv, e⟩
    simp; omega
   ·have hgt : y.f1 < x.f0 := by
     obtain ⟨v, hv, e⟩ := h x (List.mem_cons_self ..)
     rcases List.mem_cons.1 hv with rfl | hv
     ·omega
     ·have := (canon_behind c4 v hv).1; omega
    have := ih lo y.f1 (x :: a) ⟨d1, d2, d3, d4⟩ c4 fun z hz => by
     obtain ⟨v, hv, e⟩ := h z hz
     rcases List.mem_cons.1 hv with rfl | hv
     ·rcases List.mem_cons.1 hz with rfl | hz
      ·omega
      ·have := (canon_behind d4 z hz).1; omega
     ·exact ⟨v, hv, e⟩
    simp at this ⊢; omega
theorem len_none : Ev (fun k => ranges_Set_Len.f k []) 0 := len_f (l := []) (by simp) trivial
/-- What is known of the fetches ahead: `all` their union, `n` their bytes. -/
structure Ahead (w fr : List Sp) (p n : Int) (pre all : List Sp) : Prop where
 c : Canon (-1) all
 ins : ∀ z, InS all z ↔ InS (pre.filter goodS) z
 lt : ∀ z, InS all z → z < p
 free : ∀ z, InS all z → InS fr z
 st : ∀ x ∈ all, ∃ y ∈ w, y.f0 = x.f0
 last : p = 0 ∨ InS all (p - 1)
 n0 : 0 ≤ n ∧ n ≤ p
 cnt : p < 4611686018427387904 → lenL 0 all = n
 opn : p = 4611686018427387904 → lenL 0 all = 4611686018427387904
section
variable {u F M B len : Int} {w fr : List Sp}
theorem ahead_next (J : Job u F M B w fr) {p n : Int} {pre all : List Sp} {s : Sp} {r : List Sp} (hp0 : 0 ≤ p) (A : Ahead w fr p n pre all) (h : Chain u F M w fr p (s :: r)) :
  ∃ all', Ev (fun k => ranges_Set_Or.f k all [s]) all' ∧ Ahead w fr s.f1 (if s.f1 < 4611686018427387904 then n + (s.f1 - s.f0) else n) (pre ++ [s]) all' := by
 obtain ⟨a1, a2, a3, a4, a5, a6, a7, a8, a9, a10, a11, a12⟩ := h
 have hwl := J.wl
 have hal : all.length ≤ w.length := starts_len w (-1) (-1) all A.c J.cw A.st
 have hg : goodS s = true := goodS_iff.2 ⟨by omega, a2, a3⟩
 obtain ⟨o, o1, o2, o3, o4, o5⟩ := of_same (all ++ [s]) (by simp; omega)
 have hin : ∀ z, InS o z ↔ InS all z ∨ (s.f0 ≤ z ∧ z < s.f1) := by
  intro z
  have hf : (all ++ [s]).filter goodS = all ++ [s] := List.filter_eq_self.2 fun x hx => (List.mem_append.1 hx).elim (fun h => canon_good A.c (Int.le_refl _) x h) (fun h => by simp at h; rw [h]; exact hg)
  rw [o4, hf, inS_append]
  constructor
  ·rintro (h | h)
   ·exact .inl h
   ·rcases (inS_cons _ _ _).1 h with h | h
    ·exact .inr h
    ·exact absurd h (inS_nil _)
  ·rintro (h | h)
   ·exact .inl h
   ·exact .inr ((inS_cons _ _ _).2 (.inl h))
 have hall : ∀ x ∈ all, x.f1 ≤ p := fun x hx => by
  have hb := canon_behind A.c x hx
  have := A.lt (x.f1 - 1) ⟨x, hx, by omega, by omega⟩
  omega
 refine ⟨o, ?_, o3, fun z => ?_, fun z hz => ?_, fun z hz => ?_, fun x hx => ?_, .inr ?_, ?_, fun hlt => ?_, fun hop => ?_⟩
 ·refine Ev.congr (fun k => ?_) o1
  unfold ranges_Set_Or.f
  rw [if_pos (by simp; omega)]
 ·rw [hin, A.ins, List.filter_append, inS_append, List.filter_cons_of_pos hg]
  exact ⟨fun h => h.elim .inl fun h => .inr ((inS_cons _ _ _).2 (.inl h)), fun h => h.elim .inl fun h => ((inS_cons _ _ _).1 h).elim .inr fun h => absurd h (inS_nil _)⟩
 ·rcases (hin z).1 hz with h | h
  ·have := A.lt z h; omega
  ·exact h.2
 ·rcases (hin z).1 hz with h | h
  ·exact A.free z h
  ·exact a9 z h.1 h.2
 ·-- where x begins
  have hxb := canon_behind o3 x hx
  have hsn := start_not o3 hx
  rw [hin] at hsn
  rcases (hin x.f0).1 ⟨x, hx, Int.le_refl _, hxb.2.1⟩ with h | h
  ·obtain ⟨v, hv, v1, v2⟩ := h
   have hv0 : v.f0 = x.f0 := by
    have h3 : ¬ (v.f0 ≤ x.f0 - 1 ∧ x.f0 - 1 < v.f1) := fun h4 => hsn (.inl ⟨v, hv, h4⟩)
    omega
   rw [← hv0]; exact A.st v hv
  ·have hx0 : x.f0 = s.f0 := by
    have h3 : ¬ (s.f0 ≤ x.f0 - 1 ∧ x.f0 - 1 < s.f1) := fun h4 => hsn (.inr h4)
    omega
   rw [hx0] at hsn ⊢
   have hnw : ¬ InS w (s.f0 - 1) := by
    by_cases hc : p ≤ s.f0 - 1
    ·exact a6 _ hc (by omega)
    ·have hps : s.f0 = p := by omega
     rcases A.last with h0 | h0
     ·intro h5; have := canon_lb J.cw h5; omega
     ·exact absurd (.inl (by rw [hps]; exact h0)) hsn
   obtain ⟨v, hv, v1, v2⟩ := a4
   refine ⟨v, hv, ?_⟩
   have h3 : ¬ (v.f0 ≤ s.f0 - 1 ∧ s.f0 - 1 < v.f1) := fun h4 => hnw ⟨v, hv, h4⟩
   omega
 ·exact (hin _).2 (.inr ⟨by omega, by omega⟩)
 ·have := A.n0
  split <;> omega
 ·rw [if_pos hlt]
  have hp : p < 4611686018427387904 := by omega
  have h1 := A.cnt hp
  have h2 := len_count s.f0 (by omega) all 0 0 A.c (by omega) (fun x hx => by have := hall x hx; omega)
  have h3 := len_count s.f1 hlt o 0 0 o3 (by omega) (fun x hx => by
   have hb := canon_behind o3 x hx
   rcases (hin (x.f1 - 1)).1 ⟨x, hx, by omega, by omega⟩ with h | h
   ·have := A.lt _ h; omega
   ·omega)
  -- below s nothing has changed, and s is all there
  have h4 : nonW 0 o s.f0 = nonW 0 all s.f0 := by
   obtain ⟨m, hm⟩ : ∃ m : Nat, s.f0 = 0 + (m : Int) := ⟨s.f0.toNat, by omega⟩
   rw [hm]
   refine nonW_congr o all o3 A.c m fun z z1 z2 => ?_
   rw [hin]
   exact ⟨fun h => h.resolve_right fun h5 => by omega, .inl⟩
  have h5 : nonW 0 o s.f1 = nonW 0 o s.f0 := by
   obtain ⟨v, hv, v1, v2⟩ := (hin s.f0).2 (.inr ⟨Int.le_refl _, a2⟩)
   have hvn := end_not o3 hv
   rw [hin] at hvn
   have hv1 : s.f1 ≤ v.f1 := by
    have : ¬ (s.f0 ≤ v.f1 ∧ v.f1 < s.f1) := fun h => hvn (.inr h)
    omega
   rw [nonW_in o 0 v s.f1 o3 hv (by omega) hv1, nonW_in o 0 v s.f0 o3 hv v1 (by omega)]
  omega
 ·refine len_open o 0 ?_
  obtain ⟨v, hv, v1, v2⟩ := (hin (s.f1 - 1)).2 (.inr ⟨by omega, by omega⟩)
  have := canon_behind o3 v hv
  unfold top at this
  exact ⟨v, hv, by omega⟩
/-- The loop over the fetches, and what is asked behind it. -/
theorem once_l0 (J : Job u F M B w fr) (c3 c4 c5 c6 c7 c8 c9 : Int) (l0 l1 : List Sp) {g : List Sp} (cg : Canon (-1) g) (hgl : g.length < 1000) (hU : Ev (fun k => plan_Units.f k g len u) w) (hlen : len ≤ 1099511627776) (hgw : ∀ z, InS g z → 0 ≤ z → z < endL len → InS w z) (l : List Sp) (hl : l.length ≤ 9223372036854775807) (hch0 : Chain u F M w fr 0 l) (suf : List Sp) :
  ∀ (pre : List Sp) (p n : Int) (all : List Sp), l = pre ++ suf → 0 ≤ p → Chain u F M w fr p suf → Ahead w fr p n pre all →
  Ev (fun k => mandolinelaw35_PlanOnce.l0 k n l (l.length : Int) (pre.length : Int) l0 l1 len u F M c3 c4 c5 c6 c7 c8 c9 g fr all) true := by
 have hwl := J.wl
 have hfl := J.fl
 induction suf with
 | nil =>
  intro pre p n all e hp hch A
  have ee : pre = l := by rw [e, List.append_nil]
  subst ee
  have hal : all.length ≤ w.length := starts_len w (-1) (-1) all A.c J.cw A.st
  obtain ⟨d, d1, d2, d3, d4⟩ := less_f all fr (by omega) (by omega) A.c J.cf
  have hd : d = [] := nil_of d2 fun z hz => ((d3 z).1 hz).2 (A.free z ((d3 z).1 hz).1)
  subst hd
  -- what of the gaps is here
  have hj2 : ∀ h : List Sp, Canon (-1) h → h.length ≤ 1 → (∀ z, InS h z → 0 ≤ z ∧ z < endL len) → Ev (fun k => mandolinelaw35_PlanOnce.j2 k n g fr all h) true := by
   intro h ch hh hz
   obtain ⟨a, a1, a2, a3, a4, a5⟩ := and_same g h (by omega) (by omega) cg ch
   obtain ⟨v, v1, v2, v3, v4⟩ := less_f a all (by omega) (by omega) a3 A.c
   have hv : v = [] := nil_of v2 fun z hzz => by
    obtain ⟨z1, z2⟩ := (v3 z).1 hzz
    obtain ⟨z3, z4⟩ := (a4 z).1 z1
    obtain ⟨z5, z6⟩ := hz z z4
    exact z2 ((A.ins z).2 (chain_all _ 0 (Int.le_refl _) hch0 z z5 (hgw z z3 z5 z6)))
   subst hv
   have hla := len_f (l := all) (by omega) A.c
   refine Ev.step (g := fun k => (ranges_Set_Less.f k all fr).bind fun t644 => (ranges_Set_Len.f k t644).bind fun t647 => if t647 = 0 then (ranges_Set_And.f k g h).bind fun t648 => (ranges_Set_Less.f k t648 all).bind fun t651 => (ranges_Set_Len.f k t651).bind fun t654 => if t654 = 0 then (ranges_Set_Len.f k all).bind fun t655 => if t655 = 4611686018427387904 then some true else (ranges_Set_Len.f k all).bind fun t656 => some (t656 == n) else some false else some false) (fun k => by rw [mandolinelaw35_PlanOnce.j2]) ?_
   refine Ev.bind (f := fun k => ranges_Set_Less.f k all fr) (g := fun k t644 => (ranges_Set_Len.f k t644).bind fun t647 => if t647 = 0 then (ranges_Set_And.f k g h).bind fun t648 => (ranges_Set_Less.f k t648 all).bind fun t651 => (ranges_Set_Len.f k t651).bind fun t654 => if t654 = 0 then (ranges_Set_Len.f k all).bind fun t655 => if t655 = 4611686018427387904 then some true else (ranges_Set_Len.f k all).bind fun t656 => some (t656 == n) else some false else some false) d1 ?_
   refine Ev.bind (f := fun k => ranges_Set_Len.f k []) (g := fun k t647 => if t647 = 0 then (ranges_Set_And.f k g h).bind fun t648 => (ranges_Set_Less.f k t648 all).bind fun t651 => (ranges_Set_Len.f k t651).bind fun t654 => if t654 = 0 then (ranges_Set_Len.f k all).bind fun t655 => if t655 = 4611686018427387904 then some true else (ranges_Set_Len.f k all).bind fun t656 => some (t656 == n) else some false else some false) len_none ?_
   simp only [if_true]
   refine Ev.bind (f := fun k => ranges_Set_And.f k g h) (g := fun k t648 => (ranges_Set_Less.f k t648 all).bind fun t651 => (ranges_Set_Len.f k t651).bind fun t654 => if t654 = 0 then (ranges_Set_Len.f k all).bind fun t655 => if t655 = 4611686018427387904 then some true else (ranges_Set_Len.f k all).bind fun t656 => some (t656 == n) else some false) a1 ?_
   refine Ev.bind (f := fun k => ranges_Set_Less.f k a all) (g := fun k t651 => (ranges_Set_Len.f k t651).bind fun t654 => if t654 = 0 then (ranges_Set_Len.f k all).bind fun t655 => if t655 = 4611686018427387904 then some true else (ranges_Set_Len.f k all).bind fun t656 => some (t656 == n) else some false) v1 ?_
   refine Ev.bind (f := fun k => ranges_Set_Len.f k []) (g := fun k t654 => if t654 = 0 then (ranges_Set_Len.f k all).bind fun t655 => if t655 = 4611686018427387904 then some true else (ranges_Set_Len.f k all).bind fun t656 => some (t656 == n) else some false) len_none ?_
   simp only [if_true]
   refine Ev.bind (f := fun k => ranges_Set_Len.f k all) (g := fun k t655 => if t655 = 4611686018427387904 then some true else (ranges_Set_Len.f k all).bind fun t656 => some (t656 == n)) hla ?_
   by_cases hT : lenL 0 all = 4611686018427387904
   ·simp only [if_pos hT]; exact Ev.all fun k => rfl
   ·simp only [if_neg hT]
    refine Ev.bind (f := fun k => ranges_Set_Len.f k all) (g := fun k t656 => some (t656 == n)) hla (Ev.all fun k => ?_)
    have hpT : p < 4611686018427387904 := by
     rcases A.last with h0 | h0
     ·omega
     ·obtain ⟨x, hx, x1, x2⟩ := h0
      have hb := canon_behind A.c x hx
      unfold top at hb
      refine Int.not_le.1 fun h => hT (A.opn ?_)
      omega
    rw [A.cnt hpT]; simp
  obtain ⟨o, o1, o2, o3, o4, o5⟩ := of_same [⟨0, 4611686018427387904⟩] (by simp)
  obtain ⟨q, q1, q2, q3, q4, q5⟩ := of_same [⟨0, len⟩] (by simp)
  refine Ev.step (g := fun k => (ranges_Of.f k [⟨0, 4611686018427387904⟩]).bind fun t634 => if len ≥ 0 then (ranges_Of.f k [⟨0, len⟩]).bind fun t641 => mandolinelaw35_PlanOnce.j2 k n g fr all t641 else mandolinelaw35_PlanOnce.j2 k n g fr all t634) (fun k => by rw [mandolinelaw35_PlanOnce.l0, if_neg (by simp)]) ?_
  refine Ev.bind (f := fun k => ranges_Of.f k [⟨0, 4611686018427387904⟩]) (g := fun k t634 => if len ≥ 0 then (ranges_Of.f k [⟨0, len⟩]).bind fun t641 => mandolinelaw35_PlanOnce.j2 k n g fr all t641 else mandolinelaw35_PlanOnce.j2 k n g fr all t634) o1 ?_
  by_cases hneg : len ≥ 0
  ·simp only [if_pos hneg]
   refine Ev.bind (f := fun k => ranges_Of.f k [⟨0, len⟩]) (g := fun k t641 => mandolinelaw35_PlanOnce.j2 k n g fr all t641) q1 (hj2 q q3 q5 fun z hz => ?_)
   obtain ⟨x, hx, x1, x2⟩ := (q4 z).1 hz
   obtain ⟨hx, _⟩ := List.mem_filter.1 hx
   simp at hx
   subst hx
   have x1 : 0 ≤ z := x1
   have x2 : z < len := x2
   exact ⟨x1, by unfold endL; split <;> omega⟩
  ·simp only [if_neg hneg]
   refine hj2 o o3 o5 fun z hz => ?_
   obtain ⟨x, hx, x1, x2⟩ := (o4 z).1 hz
   obtain ⟨hx, _⟩ := List.mem_filter.1 hx
   simp at hx
   subst hx
   have x1 : 0 ≤ z := x1
   have x2 : z < 4611686018427387904 := x2
   exact ⟨x1, by unfold endL; split <;> omega⟩
 | cons s suf ih =>
  intro pre p n all e hp hch A
  have hlt : pre.length < l.length := by rw [e]; simp
  have hrd : rd_T48 l (pre.length : Int) = s := by rw [e]; exact rdS_at _ _ _
  have hw : wrap64 ((pre.length : Int) + 1) = ((pre ++ [s]).length : Int) := by rw [wrap_small (by omega) (by omega)]; simp
  have hal : all.length ≤ w.length := starts_len w (-1) (-1) all A.c J.cw A.st
  obtain ⟨all', o1, A'⟩ := ahead_next J hp A hch
  obtain ⟨a1, a2, a3, a4, a5, a6, a7, a8, a9, ⟨y, hy, y1, y2, y3⟩, a11, a12⟩ := hch
  obtain ⟨d, d1, d2, d3, d4, d5⟩ := and_same all [s] (by omega) (by simp) A.c ⟨show -1 < s.f0 by omega, a2, a3, trivial⟩
  have hd : d = [] := nil_of d3 fun z hz => by
   obtain ⟨z1, z2⟩ := (d4 z).1 hz
   have := A.lt z z1
   rcases (inS_cons _ _ _).1 z2 with h | h
   ·omega
   ·exact inS_nil _ h
  subst hd
  have hW := (waste_val s.f0 s.f1 w (by omega) J.cw (by omega) a2 a3 (.inr ⟨y, hy, y1, y2⟩)).1
  have hn := A.n0
  have hwn : wrap64 (s.f1 - s.f0) = s.f1 - s.f0 := wrap_small (by omega) (by omega)
  have hwn2 : wrap64 (n + (s.f1 - s.f0)) = n + (s.f1 - s.f0) := wrap_small (by omega) (by omega)
  have ih' := ih (pre ++ [s]) s.f1 _ all' (by simp [e]) (by omega) a12 A'
  have hone := of_one (a := s.f0) (e := s.f1) (by omega) a2 a3
  have hes : (⟨s.f0, s.f1⟩ : Sp) = s := by cases s; rfl
  rw [hes] at hone
  refine Ev.step (g := fun k => (ranges_Of.f k [s]).bind fun t616 => (ranges_Set_And.f k all t616).bind fun t620 => (ranges_Set_Len.f k t620).bind fun t623 => if t623 = 0 then (plan_Units.f k g len u).bind fun t624 => (plan_Waste.f k s.f0 s.f1 t624).bind fun t627 => mandolinelaw35_PlanOnce.j1 k n l (l.length : Int) (pre.length : Int) (decide (t627 > F)) l0 l1 len u F M c3 c4 c5 c6 c7 c8 c9 g fr all s.f0 s.f1 t616 else mandolinelaw35_PlanOnce.j1 k n l (l.length : Int) (pre.length : Int) true l0 l1 len u F M c3 c4 c5 c6 c7 c8 c9 g fr all s.f0 s.f1 t616) (fun k => by rw [mandolinelaw35_PlanOnce.l0, if_pos (by omega), if_pos (by omega), if_pos (by omega), hrd, hes]) ?_
  refine Ev.bind (f := fun k => ranges_Of.f k [s]) (g := fun k t616 => (ranges_Set_And.f k all t616).bind fun t620 => (ranges_Set_Len.f k t620).bind fun t623 => if t623 = 0 then (plan_Units.f k g len u).bind fun t624 => (plan_Waste.f k s.f0 s.f1 t624).bind fun t627 => mandolinelaw35_PlanOnce.j1 k n l (l.length : Int) (pre.length : Int) (decide (t627 > F)) l0 l1 len u F M c3 c4 c5 c6 c7 c8 c9 g fr all s.f0 s.f1 t616 else mandolinelaw35_PlanOnce.j1 k n l (l.length : Int) (pre.length : Int) true l0 l1 len u F M c3 c4 c5 c6 c7 c8 c9 g fr all s.f0 s.f1 t616) hone ?_
  refine Ev.bind (f := fun k => ranges_Set_And.f k all [s]) (g := fun k t620 => (ranges_Set_Len.f k t620).bind fun t623 => if t623 = 0 then (plan_Units.f k g len u).bind fun t624 => (plan_Waste.f k s.f0 s.f1 t624).bind fun t627 => mandolinelaw35_PlanOnce.j1 k n l (l.length : Int) (pre.length : Int) (decide (t627 > F)) l0 l1 len u F M c3 c4 c5 c6 c7 c8 c9 g fr all s.f0 s.f1 [s] else mandolinelaw35_PlanOnce.j1 k n l (l.length : Int) (pre.length : Int) true l0 l1 len u F M c3 c4 c5 c6 c7 c8 c9 g fr all s.f0 s.f1 [s]) d1 ?_
  refine Ev.bind (f := fun k => ranges_Set_Len.f k []) (g := fun k t623 => if t623 = 0 then (plan_Units.f k g len u).bind fun t624 => (plan_Waste.f k s.f0 s.f1 t624).bind fun t627 => mandolinelaw35_PlanOnce.j1 k n l (l.length : Int) (pre.length : Int) (decide (t627 > F)) l0 l1 len u F M c3 c4 c5 c6 c7 c8 c9 g fr all s.f0 s.f1 [s] else mandolinelaw35_PlanOnce.j1 k n l (l.length : Int) (pre.length : Int) true l0 l1 len u F M c3 c4 c5 c6 c7 c8 c9 g fr all s.f0 s.f1 [s]) len_none ?_
  simp only [if_true]
  refine Ev.bind (f := fun k => plan_Units.f k g len u) (g := fun k t624 => (plan_Waste.f k s.f0 s.f1 t624).bind fun t627 => mandolinelaw35_PlanOnce.j1 k n l (l.length : Int) (pre.length : Int) (decide (t627 > F)) l0 l1 len u F M c3 c4 c5 c6 c7 c8 c9 g fr all s.f0 s.f1 [s]) hU ?_
  refine Ev.bind (f := fun k => plan_Waste.f k s.f0 s.f1 w) (g := fun k t627 => mandolinelaw35_PlanOnce.j1 k n l (l.length : Int) (pre.length : Int) (decide (t627 > F)) l0 l1 len u F M c3 c4 c5 c6 c7 c8 c9 g fr all s.f0 s.f1 [s]) hW ?_
  rw [decide_eq_false (show ¬ nW w s.f1 - nW w s.f0 > F by omega)]
  refine Ev.step (g := fun k => (ranges_Set_Or.f k all [s]).bind fun t628 => if s.f1 < 4611686018427387904 then mandolinelaw35_PlanOnce.l0 k (n + (s.f1 - s.f0)) l (l.length : Int) ((pre ++ [s]).length : Int) l0 l1 len u F M c3 c4 c5 c6 c7 c8 c9 g fr t628 else mandolinelaw35_PlanOnce.l0 k n l (l.length : Int) ((pre ++ [s]).length : Int) l0 l1 len u F M c3 c4 c5 c6 c7 c8 c9 g fr t628) (fun k => by rw [mandolinelaw35_PlanOnce.j1, if_neg (by simp), hw, hwn, hwn2]) ?_
  refine Ev.bind (f := fun k => ranges_Set_Or.f k all [s]) (g := fun k t628 => if s.f1 < 4611686018427387904 then mandolinelaw35_PlanOnce.l0 k (n + (s.f1 - s.f0)) l (l.length : Int) ((pre ++ [s]).length : Int) l0 l1 len u F M c3 c4 c5 c6 c7 c8 c9 g fr t628 else mandolinelaw35_PlanOnce.l0 k n l (l.length : Int) ((pre ++ [s]).length : Int) l0 l1 len u F M c3 c4 c5 c6 c7 c8 c9 g fr t628) o1 ?_
  by_cases hT : s.f1 < 4611686018427387904
  ·simp only [if_pos hT] at ih' ⊢; exact ih'
  ·simp only [if_neg hT] at ih' ⊢; exact ih'
end
theorem once_f (l0 l1 : List Sp) (hl0 : l0.length ≤ 9223372036854775807) (hl1 : l1.length ≤ 9223372036854775807) (len u F M c3 c4 c5 c6 c7 c8 c9 : Int) : Ev (fun k => mandolinelaw35_PlanOnce.f k l0 l1 len u F M c3 c4 c5 c6 c7 c8 c9) true := by
 obtain ⟨b, b1, b2⟩ := fine_f l0 l1 hl0 hl1 len u F M c3 c4 c5 c6 c7 c8 c9 100
 refine Ev.bind (f := fun k => mandolinelaw35_alive.f k) alive_ev ?_
 simp only [if_true]
 refine Ev.bind (f := fun k => mandolinelaw35_fine.f k l0 l1 len u F M c3 c4 c5 c6 c7 c8 c9 100) b1 ?_
 cases b with
 | false => exact Ev.all fun k => rfl
 | true =>
  simp only [if_true]
  obtain ⟨s0, s1, s2, s3, s4⟩ := b2 rfl
  obtain ⟨g, f, w, K⟩ := known_of (len := len) (F := F) (M := M) (show (0 : Int) ≤ 100 by omega) (Int.le_refl _) s0 s1
  obtain ⟨d, d1, d2, d3, r, st, p1, p2, p3, p4⟩ := K.plan s3 c3 c4 c5 c6 c7 c8 c9
  refine Ev.bind (f := fun k => mandolinelaw35_sets.f k l0 l1 len u F M c3 c4 c5 c6 c7 c8 c9) (a := (g, f)) ?_ ?_
  ·refine Ev.bind (f := fun k => ranges_Of.f k l0) (g := fun k t291 => (ranges_Of.f k l1).bind fun t294 => some (t291, t294)) K.g1 ?_
   exact Ev.bind (f := fun k => ranges_Of.f k l1) (g := fun k t294 => some (g, t294)) K.f1 (Ev.all fun k => rfl)
  refine Ev.bind (f := fun k => plan_Plan.f k g f len u F M c3 c4 c5 c6 c7 c8 c9) p1 ?_
  cases hok : okB len u F M with
  | false => rw [(p2 hok).1]; exact Ev.all fun k => rfl
  | true =>
   by_cases hd : d = []
   ·obtain ⟨e1, hch⟩ := p4 hok hd
    subst e1
    simp only [if_true]
    have hsub : ∀ z, InS w z → InS f z := fun z hz => Classical.byContradiction fun hn => by
     have := (d3 z).2 ⟨hz, hn⟩; rw [hd] at this; exact inS_nil z this
    have J := K.job hok s3 hsub
    obtain ⟨o1, o2, o3, o4⟩ := okB_iff hok
    have o2' : -1 ≤ len ∧ len ≤ 1099511627776 := of_decide_eq_true o2
    have hu4 := (uB_range o1).1
    have hrl : r.length ≤ 9223372036854775807 := by
     cases hr : r with
     | nil => simp
     | cons s t =>
      have h1 := chain_len (u := u) (T := 4611686018427387904) (by omega) (fun z hz => by have := canon_ub K.w3 hz; unfold top at this; exact this) r 0 (Int.le_refl _) hch s t hr
      have h2 : 0 ≤ s.f0 := by rw [hr] at hch; exact hch.1
      have h3 : (r.length : Int) * 4 ≤ (r.length : Int) * u := Int.mul_le_mul_of_nonneg_left (by omega) (by omega)
      have h4 := (uB_range o1).2
      rw [← hr]; omega
    have hg5 := K.g5
    exact once_l0 J c3 c4 c5 c6 c7 c8 c9 l0 l1 K.g3 (by omega) K.w1 o2'.2 (K.w6 hok) r hrl hch r [] 0 0 [] rfl (Int.le_refl _) hch ⟨trivial, fun z => Iff.rfl, fun z hz => absurd hz (inS_nil z), fun z hz => absurd hz (inS_nil z), fun x hx => by simp at hx, .inl rfl, by omega, fun _ => rfl, fun h => by omega⟩
   ·rw [(p3 hok hd).1]; exact Ev.all fun k => rfl
end Go.Proofs.Ytnaalaakhdbfbaa.XP
