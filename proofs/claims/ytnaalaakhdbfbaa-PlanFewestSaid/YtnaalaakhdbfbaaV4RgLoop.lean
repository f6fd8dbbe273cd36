/- The program's plan: it comes to an end, and what it tells is a chain of fetches. -/
import Derived.Test.YtnaalaakhdbfbaaV4RgDrop
import Derived.Test.YtnaalaakhdbfbaaV4RgMay
import Derived.Test.YtnaalaakhdbfbaaV4XP11
set_option linter.unusedVariables false
set_option linter.unusedSimpArgs false
namespace Go.Proofs.Ytnaalaakhdbfbaa.XP
open Go.RowKit Go.Proofs.YtnaalaakhdbfbaaW.PrintWords Go.Proofs.YtnaalaakhdbfbaaW.PrintLast Go.Proofs.YtnaalaakhdbfbaaW.PrintMore
/-- What a plan's loop is about: the gaps, widened, and what is free. -/
structure Job (u F M B : Int) (w fr : List Sp) : Prop where
 u4 : 4 ≤ u
 u20 : u ≤ 1048576
 F0 : 0 ≤ F
 M0 : u ≤ M
 M1 : M ≤ 1099511627776
 B1 : B ≤ 1099511627776
 cw : Canon (-1) w
 cf : Canon (-1) fr
 wl : w.length < 1000
 fl : fr.length < 1000
 sub : ∀ z, InS w z → InS fr z
 al : ∀ x ∈ w, Int.tmod x.f0 u = 0 ∧ x.f0 ≤ B ∧ (x.f1 = 4611686018427387904 ∨ x.f1 ≤ B)
/-- What is left of the gaps behind `p`. -/
structure Left (u B : Int) (w : List Sp) (p : Int) (l : List Sp) : Prop where
 p0 : 0 ≤ p
 c : Canon (p - 1) l
 ins : ∀ z, p ≤ z → (InS w z ↔ InS l z)
 mem : ∀ x ∈ l, ∃ y ∈ w, y.f0 ≤ x.f0 ∧ y.f1 = x.f1
 al : ∀ x ∈ l, Int.tmod x.f0 u = 0 ∧ x.f0 ≤ B
 len : l.length ≤ w.length
/-- How far the free span goes that a byte lies in. -/
def FrTo (fr : List Sp) (a e : Int) : Prop := ∃ p b s, fr = p ++ b :: s ∧ b.f0 ≤ a ∧ a < b.f1 ∧ b.f1 = e
section
variable {u F M B : Int} {w fr : List Sp}
/-- One step: from the first byte that is left to where the fetch ends. -/
theorem step_spec (J : Job u F M B w fr) {p : Int} {x : Sp} {l : List Sp} (L : Left u B w p (x :: l)) {e : Int} (he : FrTo fr x.f0 e) :
  x.f0 < rL u F M e x.f0 x.f0 0 x.f0 (x :: l) ∧ rL u F M e x.f0 x.f0 0 x.f0 (x :: l) ≤ e ∧ e ≤ 4611686018427387904 ∧
  (rL u F M e x.f0 x.f0 0 x.f0 (x :: l) = 4611686018427387904 ∨ rL u F M e x.f0 x.f0 0 x.f0 (x :: l) - x.f0 ≤ M) ∧ nW w (rL u F M e x.f0 x.f0 0 x.f0 (x :: l)) - nW w x.f0 ≤ F ∧
  (∃ y ∈ x :: l, Cand u y (rL u F M e x.f0 x.f0 0 x.f0 (x :: l))) ∧
  (∀ y ∈ x :: l, ∀ z, Cand u y z → z ≤ e → z - x.f0 ≤ M → nW w z - nW w x.f0 ≤ F → z ≤ rL u F M e x.f0 x.f0 0 x.f0 (x :: l)) ∧
  (∀ y ∈ x :: l, y.f0 < e → y.f1 ≤ e) ∧ Left u B w (rL u F M e x.f0 x.f0 0 x.f0 (x :: l)) (dropTo (rL u F M e x.f0 x.f0 0 x.f0 (x :: l)) (x :: l)) := by
 obtain ⟨fp, b, fs, hfr, hb0, hb1, rfl⟩ := he
 obtain ⟨c1, c2, c3, c4⟩ := L.c
 have hp0 := L.p0
 unfold top at c3
 have h4 := J.u4
 have hbT : b.f1 ≤ 4611686018427387904 := (canon_behind J.cf b (by rw [hfr]; simp)).2.2
 have hsub : ∀ y ∈ x :: l, y.f0 < b.f1 → y.f1 ≤ b.f1 := by
  intro y hy h
  refine Classical.byContradiction fun hn => ?_
  have hyp : p ≤ y.f0 := by
   have := canon_behind L.c y hy; omega
  have h1 : InS (x :: l) b.f1 := ⟨y, hy, by omega, by omega⟩
  have h2 := J.sub _ ((L.ins _ (by omega)).2 h1)
  rw [hfr] at h2
  exact canon_gap (by rw [← hfr]; exact J.cf) h2
 have hins : ∀ z, x.f0 ≤ z → (InS w z ↔ InS (x :: l) z) := fun z hz => L.ins z (by omega)
 have hmem : ∀ y ∈ x :: l, y ∈ w ∨ ∃ z ∈ w, z.f0 ≤ y.f0 ∧ z.f1 = y.f1 := fun y hy => .inr (L.mem y hy)
 have hcx : Canon (x.f0 - 1) (x :: l) := ⟨by omega, c2, c3, c4⟩
 have h0 : (0 : Int) = nW w x.f0 - nW w x.f0 := by omega
 obtain ⟨k1, k2, k3⟩ := rL_spec (u := u) (F := F) (M := M) (fr := b.f1) (a := x.f0) J.cw (by omega) (by have := J.M0; omega) (by omega) (x :: l) x.f0 0 x.f0 hcx (Int.le_refl _) (by omega) hmem hsub hins h0
 have hgt : x.f0 < rL u F M b.f1 x.f0 x.f0 0 x.f0 (x :: l) := by
  refine rL_gt (by omega) J.F0 J.M0 (by omega) (L.al x (List.mem_cons_self ..)).1 rfl c2 c3 hb1 (fun best ws prev h1 h2 => ?_)
  subst h2
  exact rL_ge l best ws x.f1 h1 (canon_weak c4 (by omega))
 generalize rL u F M b.f1 x.f0 x.f0 0 x.f0 (x :: l) = E at k1 k2 k3 hgt ⊢
 obtain ⟨y, hy, k4, k5, k6, k7, k8⟩ : ∃ y ∈ x :: l, Cand u y E ∧ (y.f1 = 4611686018427387904 → E = 4611686018427387904) ∧ E ≤ b.f1 ∧ (E = 4611686018427387904 ∨ E - x.f0 ≤ M) ∧ nW w E - nW w x.f0 ≤ F := by
  rcases k1 with k1 | k1
  ·omega
  ·exact k1
 refine ⟨hgt, k6, hbT, k7, k8, ⟨y, hy, k4⟩, k3 (Int.le_refl _), hsub, ?_⟩
 have hdc := drop_canon E (x :: l) (x.f0 - 1) hcx
 refine ⟨by omega, by rw [show max (x.f0 - 1) (E - 1) = E - 1 by omega] at hdc; exact hdc, fun z hz => ?_, fun z hz => ?_, fun z hz => ?_, by have := drop_len E (x :: l); have := L.len; omega⟩
 ·rw [drop_in E (x :: l) _ hcx, hins z (by omega)]; exact ⟨fun h => ⟨h, hz⟩, fun h => h.1⟩
 ·obtain ⟨v, hv, v1, v2, v3, v4⟩ := drop_mem E (x :: l) _ hcx z hz
  obtain ⟨y', hy', y1, y2⟩ := L.mem v hv
  exact ⟨y', hy', by omega, by omega⟩
 ·obtain ⟨v, hv, v1, v2, v3, v4⟩ := drop_mem E (x :: l) _ hcx z hz
  obtain ⟨a1, a2⟩ := L.al v hv
  rcases v4 with v4 | v4
  ·rw [v4]; exact ⟨a1, a2⟩
  ·rw [v4]
   by_cases hv0 : v.f0 = E
   ·rw [← hv0]; exact ⟨a1, a2⟩
   ·have hvE : v.f0 ≤ E := by omega
    have hvy : v = y := canon_uniq hcx hv hy (z := E - 1) (by omega) (by omega) (by have := k4.1; omega) (by have := k4.2.1; omega)
    subst hvy
    obtain ⟨y', hy', y1, y2⟩ := L.mem v hv
    have hend := (J.al y' hy').2.2
    refine ⟨?_, ?_⟩
    ·rcases k4.2.2 with h | h
     ·exact h
     ·omega
    ·rcases hend with h | h
     ·have := k5 (by omega); omega
     ·omega
/-- A chain of fetches from `p` on: each begins at the first byte of the gaps that is left, goes as far as it may; at the end nothing is left. -/
def Chain (u F M : Int) (w fr : List Sp) : Int → List Sp → Prop
 | p, [] => ∀ z, p ≤ z → ¬ InS w z
 | p, s :: r => p ≤ s.f0 ∧ s.f0 < s.f1 ∧ s.f1 ≤ 4611686018427387904 ∧ InS w s.f0 ∧ Int.tmod s.f0 u = 0 ∧ (∀ z, p ≤ z → z < s.f0 → ¬ InS w z) ∧ (s.f1 = 4611686018427387904 ∨ s.f1 - s.f0 ≤ M) ∧ nW w s.f1 - nW w s.f0 ≤ F ∧
   (∀ z, s.f0 ≤ z → z < s.f1 → InS fr z) ∧ (∃ y ∈ w, y.f0 < s.f1 ∧ s.f1 ≤ y.f1 ∧ (Int.tmod s.f1 u = 0 ∨ s.f1 = y.f1)) ∧
   (∀ y ∈ w, ∀ z, s.f0 < z → Cand u y z → (∀ v, s.f0 ≤ v → v < z → InS fr v) → z - s.f0 ≤ M → nW w z - nW w s.f0 ≤ F → z ≤ s.f1) ∧ Chain u F M w fr s.f1 r
theorem of_one {a e : Int} (h0 : 0 ≤ a) (h1 : a < e) (h2 : e ≤ 4611686018427387904) : Ev (fun k => ranges_Of.f k [⟨a, e⟩]) [⟨a, e⟩] := by
 obtain ⟨o, o1, o2, o3, o4, o5⟩ := of_same [⟨a, e⟩] (by simp)
 have hg : goodS ⟨a, e⟩ = true := goodS_iff.2 ⟨h0, h1, h2⟩
 have : o = [⟨a, e⟩] := by
  refine canon_ext o3 (lo' := a - 1) ⟨show a - 1 < a by omega, h1, h2, trivial⟩ fun z => ?_
  rw [o4, List.filter_cons_of_pos hg]; rfl
 rw [this] at o1; exact o1
theorem less_drop {a e : Int} {l : List Sp} {lo : Int} (hl : l.length < 100000) (hlo : -1 ≤ lo) (hc : Canon lo l) (hla : ∀ z, InS l z → a ≤ z) (h0 : 0 ≤ a) (h1 : a < e) (h2 : e ≤ 4611686018427387904) :
  Ev (fun k => ranges_Set_Less.f k l [⟨a, e⟩]) (dropTo e l) ∧ Ev (fun k => mandolineref02_Less.f k l [⟨a, e⟩]) (dropTo e l) := by
 obtain ⟨r, r1, r2, r3, r4, r5⟩ := less_same l [⟨a, e⟩] hl (by simp) (canon_weak hc hlo) ⟨show -1 < a by omega, h1, h2, trivial⟩
 have : r = dropTo e l := by
  refine canon_ext r3 (drop_canon e l _ hc) fun z => ?_
  rw [r4, drop_in e l _ hc]
  constructor
  ·rintro ⟨h3, h4⟩
   refine ⟨h3, Int.not_lt.1 fun h5 => h4 ((inS_cons _ _ _).2 (.inl ⟨hla z h3, h5⟩))⟩
  ·rintro ⟨h3, h4⟩
   refine ⟨h3, fun h5 => ?_⟩
   rcases (inS_cons _ _ _).1 h5 with h6 | h6
   ·have h7 : z < e := h6.2
    omega
   ·exact inS_nil _ h6
 rw [this] at r1 r2; exact ⟨r1, r2⟩
theorem step_chain (J : Job u F M B w fr) {p : Int} {x : Sp} {l : List Sp} (L : Left u B w p (x :: l)) : ∃ E, (∀ c3 c4 c5 c6 c7 c8 c9 : Int, ∃ b0 b2, ranges_Set_First.f fr x.f0 = some (x.f0, b0, b2) ∧ Ev (fun k => plan_reach.f k (x :: l) b0 u F M c3 c4 c5 c6 c7 c8 c9) E) ∧
  x.f0 < E ∧ E ≤ 4611686018427387904 ∧ Left u B w E (dropTo E (x :: l)) ∧ ∀ r, Chain u F M w fr E r → Chain u F M w fr p (⟨x.f0, E⟩ :: r) := by
 obtain ⟨c1, c2, c3', c4'⟩ := L.c
 have hp0 := L.p0
 have h4 := J.u4
 have hxw : InS w x.f0 := (L.ins _ (by omega)).2 ((inS_cons _ _ _).2 (.inl ⟨Int.le_refl _, c2⟩))
 obtain ⟨fp, b, fs, hfr, hb0, hb1⟩ := in_split (J.sub _ hxw)
 obtain ⟨s1, s2, s3, s4, s5, ⟨y, hy, s6⟩, s7, s8, s9⟩ := step_spec J L ⟨fp, b, fs, hfr, hb0, hb1, rfl⟩
 refine ⟨_, fun c3 c4 c5 c6 c7 c8 c9 => ⟨b.f1, true, by rw [hfr]; exact first_f (by rw [← hfr]; have := J.fl; omega) (by rw [← hfr]; exact J.cf) hb0 hb1,
  reach_f (by omega) J.u20 (by have := J.M0; omega) J.M1 (by omega) s3 c3 c4 c5 c6 c7 c8 c9 x l rfl (Nat.lt_of_le_of_lt L.len (by have := J.wl; omega)) s8 ⟨by omega, c2, c3', c4'⟩⟩, s1, by omega, s9, ?_⟩
 have hal := (L.al x (List.mem_cons_self ..)).1
 generalize rL u F M b.f1 x.f0 x.f0 0 x.f0 (x :: l) = E at *
 intro r hr
 have hfree : ∀ z, x.f0 ≤ z → z < E → InS fr z := fun z h1 h2 => ⟨b, by rw [hfr]; simp, by omega, by omega⟩
 refine ⟨show p ≤ x.f0 by omega, s1, show E ≤ _ by omega, hxw, hal, fun z h1 h2 h3 => ?_, s4, s5, hfree, ?_, fun v hv z h0 h1 h2 h3 h5 => ?_, hr⟩
 ·have h2 : z < x.f0 := h2
  have h6 := (L.ins z h1).1 h3
  rcases (inS_cons _ _ _).1 h6 with h7 | h7
  ·omega
  ·have := canon_lb c4' h7; omega
 ·obtain ⟨y', hy', y1, y2⟩ := L.mem y hy
  exact ⟨y', hy', show y'.f0 < E by have := s6.1; omega, show E ≤ y'.f1 by have := s6.2.1; omega, s6.2.2.elim .inl fun h => .inr (show E = y'.f1 by omega)⟩
 ·have h0 : x.f0 < z := h0
  obtain ⟨q1, q2, q3⟩ := h1
  -- the span that z lies in, among what is left
  have hz1 : InS (x :: l) (z - 1) := (L.ins _ (by omega)).1 ⟨v, hv, by omega, by omega⟩
  obtain ⟨t, ht, t1, t2⟩ := hz1
  obtain ⟨t', ht', t3, t5⟩ := L.mem t ht
  have hvt : v = t' := canon_uniq J.cw hv ht' (z := z - 1) (by omega) (by omega) (by omega) (by omega)
  subst hvt
  refine s7 t ht z ⟨by omega, by omega, q3.elim .inl fun h => .inr (by omega)⟩ ?_ h3 h5
  refine Int.not_lt.1 fun h6 => ?_
  have h7 := h2 b.f1 (show x.f0 ≤ b.f1 by omega) (by omega)
  rw [hfr] at h7
  exact canon_gap (by rw [← hfr]; exact J.cf) h7
theorem pplan_l0 (J : Job u F M B w fr) (c3 c4 c5 c6 c7 c8 c9 : Int) : ∀ (n : Nat) (p : Int) (l out : List Sp), Left u B w p l → (∀ x r, l = x :: r → (B + 1 - x.f0).toNat ≤ n) → out.length + n < 8000000000000 →
  ∃ r, Ev (fun k => plan_Plan.l0 k out fr u F M c3 c4 c5 c6 c7 c8 c9 l) (out ++ r, 0) ∧ Chain u F M w fr p r := by
 intro n
 induction n with
 | zero =>
  intro p l out L hn _
  cases l with
  | nil =>
   refine ⟨[], Ev.now fun k => ?_, fun z hz h => inS_nil z ((L.ins z hz).1 h)⟩
   rw [plan_Plan.l0, spans_f (by simp)]; simp
  | cons x r =>
   have h1 := hn x r rfl
   have h2 := (L.al x (List.mem_cons_self ..)).2
   omega
 | succ n ih =>
  intro p l out L hn ho
  cases l with
  | nil =>
   refine ⟨[], Ev.now fun k => ?_, fun z hz h => inS_nil z ((L.ins z hz).1 h)⟩
   rw [plan_Plan.l0, spans_f (by simp)]; simp
  | cons x r =>
   have h1 := hn x r rfl
   have h2 := (L.al x (List.mem_cons_self ..)).2
   obtain ⟨cc1, cc2, cc3, cc4⟩ := L.c
   have hp0 := L.p0
   have hlw := L.len
   have hwl := J.wl
   obtain ⟨E, hE, e1, e2, e3, e4⟩ := step_chain J L
   obtain ⟨b0, b2, f1, f2⟩ := hE c3 c4 c5 c6 c7 c8 c9
   obtain ⟨rest, g1, g2⟩ := ih E (dropTo E (x :: r)) (out ++ [⟨x.f0, E⟩]) e3 (fun y s hy => by
    have hm : y ∈ dropTo E (x :: r) := by rw [hy]; exact List.mem_cons_self ..
    have := (canon_behind e3.c y hm).1
    omega) (by simp; omega)
   refine ⟨⟨x.f0, E⟩ :: rest, ?_, e4 rest g2⟩
   have hrd : rd_T48 (x :: r) 0 = x := rdS_at [] r x
   refine Ev.step (g := fun k => (plan_reach.f k (x :: r) b0 u F M c3 c4 c5 c6 c7 c8 c9).bind fun t => (ranges_Of.f k [⟨x.f0, t⟩]).bind fun o => (ranges_Set_Less.f k (x :: r) o).bind fun l' => plan_Plan.l0 k (out ++ [⟨x.f0, t⟩]) fr u F M c3 c4 c5 c6 c7 c8 c9 l') (fun k => ?_) ?_
   ·rw [plan_Plan.l0, spans_f (by omega)]
    simp only [Option.bind_some]
    rw [if_neg (by simp; try omega), if_pos (by simp; try omega), hrd, f1]
    simp only [Option.bind_some]
    congr 1; funext t
    rw [if_pos (show out.length < 8796093022208 by omega)]
   ·refine Ev.bind (f := fun k => plan_reach.f k (x :: r) b0 u F M c3 c4 c5 c6 c7 c8 c9) (g := fun k t => (ranges_Of.f k [⟨x.f0, t⟩]).bind fun o => (ranges_Set_Less.f k (x :: r) o).bind fun l' => plan_Plan.l0 k (out ++ [⟨x.f0, t⟩]) fr u F M c3 c4 c5 c6 c7 c8 c9 l') f2 ?_
    refine Ev.bind (f := fun k => ranges_Of.f k [⟨x.f0, E⟩]) (g := fun k o => (ranges_Set_Less.f k (x :: r) o).bind fun l' => plan_Plan.l0 k (out ++ [⟨x.f0, E⟩]) fr u F M c3 c4 c5 c6 c7 c8 c9 l') (of_one (by omega) e1 e2) ?_
    refine Ev.bind (f := fun k => ranges_Set_Less.f k (x :: r) [⟨x.f0, E⟩]) (g := fun k l' => plan_Plan.l0 k (out ++ [⟨x.f0, E⟩]) fr u F M c3 c4 c5 c6 c7 c8 c9 l') (less_drop (lo := p - 1) (by omega) (by omega) L.c (fun z hz => ?_) (by omega) e1 e2).1 ?_
    ·rcases (inS_cons _ _ _).1 hz with h | h
     ·exact h.1
     ·have := canon_lb cc4 h; omega
    ·rw [List.append_assoc] at g1; exact g1
end
end Go.Proofs.Ytnaalaakhdbfbaa.XP
