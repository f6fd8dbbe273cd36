/- Which jobs are small, and what is known of a small job's sets. -/
import Derived.Test.YtnaalaakhdbfbaaV4RgLoop
set_option linter.unusedVariables false
set_option linter.unusedSimpArgs false
namespace Go.Proofs.Ytnaalaakhdbfbaa.XP
open Go.RowKit Go.Proofs.YtnaalaakhdbfbaaW.PrintWords Go.Proofs.YtnaalaakhdbfbaaW.PrintLast Go.Proofs.YtnaalaakhdbfbaaW.PrintMore
def SmallL (u q : Int) (l : List Sp) : Prop := uB u 2 19 = true ∧ l.length ≤ 12 ∧ ∀ x ∈ l, 0 ≤ x.f0 ∧ x.f0 ≤ q ∧ (x.f1 ≤ q ∨ x.f1 = 4611686018427387904)
theorem small_l0 (u n : Int) (l : List Sp) (hl : l.length ≤ 9223372036854775807) (suf : List Sp) : ∀ pre, l = pre ++ suf →
  ∃ b : Bool, Ev (fun k => mandolineref35_Small.l0 k l u n l (l.length : Int) (pre.length : Int)) b ∧ (b = true → uB u 2 19 = true ∧ l.length ≤ 12 ∧ ∀ x ∈ suf, 0 ≤ x.f0 ∧ x.f0 ≤ wrap64 (u * n) ∧ (x.f1 ≤ wrap64 (u * n) ∨ x.f1 = 4611686018427387904)) := by
 induction suf with
 | nil =>
  intro pre e
  have ee : pre = l := by rw [e, List.append_nil]
  subst ee
  by_cases h : (pre.length : Int) ≤ 12
  ·refine ⟨uB u 2 19, Ev.step (g := fun k => (mandolineref35_unitOk.f k u).bind fun t284 => some t284) (fun k => by rw [mandolineref35_Small.l0, if_neg (by simp), if_pos h]) (Ev.bind (f := fun k => mandolineref35_unitOk.f k u) (g := fun _ t284 => some t284) (unitOk_f u) (Ev.all fun k => rfl)), fun hb => ⟨hb, by omega, by simp⟩⟩
  ·exact ⟨false, Ev.now fun k => by rw [mandolineref35_Small.l0, if_neg (by simp), if_neg h], fun h => by cases h⟩
 | cons x suf ih =>
  intro pre e
  have hlt : pre.length < l.length := by rw [e]; simp
  have hrd : rd_T48 l (pre.length : Int) = x := by rw [e]; exact rdS_at _ _ _
  have hw : wrap64 ((pre.length : Int) + 1) = ((pre ++ [x]).length : Int) := by rw [wrap_small (by omega) (by omega)]; simp
  obtain ⟨b, b1, b2⟩ := ih (pre ++ [x]) (by simp [e])
  have h0 : ∀ k, mandolineref35_Small.l0 (k + 1) l u n l (l.length : Int) (pre.length : Int) = if x.f0 < 0 then some false else if x.f0 > wrap64 (u * n) then some false else if x.f1 > wrap64 (u * n) then (if x.f1 = 4611686018427387904 then mandolineref35_Small.l0 k l u n l (l.length : Int) ((pre ++ [x]).length : Int) else some false) else mandolineref35_Small.l0 k l u n l (l.length : Int) ((pre ++ [x]).length : Int) := by
   intro k
   rw [mandolineref35_Small.l0, if_pos (by omega), if_pos (by omega), if_pos (by omega), hrd, hw]
  by_cases h1 : x.f0 < 0
  ·exact ⟨false, Ev.now fun k => by rw [h0, if_pos h1], fun h => by cases h⟩
  ·by_cases h2 : x.f0 > wrap64 (u * n)
   ·exact ⟨false, Ev.now fun k => by rw [h0, if_neg h1, if_pos h2], fun h => by cases h⟩
   ·by_cases h3 : x.f1 > wrap64 (u * n)
    ·by_cases h4 : x.f1 = 4611686018427387904
     ·refine ⟨b, Ev.step (fun k => by rw [h0, if_neg h1, if_neg h2, if_pos h3, if_pos h4]) b1, fun hb => ?_⟩
      obtain ⟨c1, c2, c3⟩ := b2 hb
      exact ⟨c1, c2, fun y hy => (List.mem_cons.1 hy).elim (fun e => e ▸ ⟨by omega, by omega, .inr h4⟩) (c3 y)⟩
     ·exact ⟨false, Ev.now fun k => by rw [h0, if_neg h1, if_neg h2, if_pos h3, if_neg h4], fun h => by cases h⟩
    ·refine ⟨b, Ev.step (fun k => by rw [h0, if_neg h1, if_neg h2, if_neg h3]) b1, fun hb => ?_⟩
     obtain ⟨c1, c2, c3⟩ := b2 hb
     exact ⟨c1, c2, fun y hy => (List.mem_cons.1 hy).elim (fun e => e ▸ ⟨by omega, by omega, .inl (by omega)⟩) (c3 y)⟩
theorem small_f (u n : Int) (l : List Sp) (hl : l.length ≤ 9223372036854775807) : ∃ b : Bool, Ev (fun k => mandolineref35_Small.f k l u n) b ∧ (b = true → SmallL u (wrap64 (u * n)) l) := small_l0 u n l hl l [] rfl
/-- A row of spans that memory holds is no longer than that. -/
theorem fine_f (l0 l1 : List Sp) (hl0 : l0.length ≤ 9223372036854775807) (hl1 : l1.length ≤ 9223372036854775807) (len u F M c3 c4 c5 c6 c7 c8 c9 n : Int) : ∃ b : Bool, Ev (fun k => mandolinelaw35_fine.f k l0 l1 len u F M c3 c4 c5 c6 c7 c8 c9 n) b ∧
  (b = true → SmallL u (wrap64 (u * n)) l0 ∧ SmallL u (wrap64 (u * wrap64 (4 * n))) l1 ∧ (len ≤ wrap64 (u * n) ∨ len > 1099511627776) ∧ M ≤ wrap64 (u * 300) ∧ F ≤ 1099511627776) := by
 obtain ⟨b0, p0, q0⟩ := small_f u n l0 hl0
 obtain ⟨b1, p1, q1⟩ := small_f u (wrap64 (4 * n)) l1 hl1
 cases b0 with
 | false => exact ⟨false, Ev.bind (f := fun k => mandolineref35_Small.f k l0 u n) p0 (Ev.all fun k => rfl), fun h => by cases h⟩
 | true =>
  cases b1 with
  | false =>
   refine ⟨false, Ev.bind (f := fun k => mandolineref35_Small.f k l0 u n) p0 ?_, fun h => by cases h⟩
   simp only [if_true]
   exact Ev.bind (f := fun k => mandolineref35_Small.f k l1 u (wrap64 (4 * n))) p1 (Ev.all fun k => rfl)
  | true =>
   have q0 := q0 rfl
   have q1 := q1 rfl
   refine ⟨(decide (len ≤ wrap64 (u * n)) || decide (len > 1099511627776)) && (decide (M ≤ wrap64 (u * 300)) && decide (F ≤ 1099511627776)), Ev.bind (f := fun k => mandolineref35_Small.f k l0 u n) p0 ?_, fun h => ?_⟩
   ·simp only [if_true]
    refine Ev.bind (f := fun k => mandolineref35_Small.f k l1 u (wrap64 (4 * n))) p1 (Ev.all fun k => ?_)
    simp only [if_true]
    by_cases h1 : len ≤ wrap64 (u * n)
    ·rw [if_pos h1]
     by_cases h2 : M ≤ wrap64 (u * 300)
     ·rw [if_pos h2]; simp [h1, h2]
     ·rw [if_neg h2]; simp [h2]
    ·rw [if_neg h1]
     by_cases h3 : len > 1099511627776
     ·rw [if_pos h3]
      by_cases h2 : M ≤ wrap64 (u * 300)
      ·rw [if_pos h2]; simp [h3, h2]
      ·rw [if_neg h2]; simp [h2]
     ·rw [if_neg h3]; simp [h1]; omega
   ·simp only [Bool.and_eq_true, Bool.or_eq_true, decide_eq_true_eq] at h
    exact ⟨q0, q1, h.1, h.2.1, h.2.2⟩
theorem canon_gap0 {lo : Int} {fp fs : List Sp} {b : Sp} (h : Canon lo (fp ++ b :: fs)) : ¬ InS (fp ++ b :: fs) (b.f0 - 1) := by
 rintro ⟨x, hx, h1, h2⟩
 have hc := (canon_append.1 h).2
 rcases List.mem_append.1 hx with hx | hx
 ·have := canon_before h x hx; omega
 ·rcases List.mem_cons.1 hx with rfl | hx
  ·omega
  ·have := canon_behind hc.2.2.2 x hx; have := hc.2.1; omega
theorem start_not {lo : Int} {r : List Sp} (hc : Canon lo r) {x : Sp} (hx : x ∈ r) : ¬ InS r (x.f0 - 1) := by
 obtain ⟨p, s, e⟩ := List.append_of_mem hx
 rw [e] at hc ⊢; exact canon_gap0 hc
theorem end_not {lo : Int} {r : List Sp} (hc : Canon lo r) {x : Sp} (hx : x ∈ r) : ¬ InS r x.f1 := by
 obtain ⟨p, s, e⟩ := List.append_of_mem hx
 rw [e] at hc ⊢; exact canon_gap hc
theorem start_of {lo : Int} {r l : List Sp} (hc : Canon lo r) (h : ∀ z, InS r z ↔ InS l z) {x : Sp} (hx : x ∈ r) : ∃ y ∈ l, y.f0 = x.f0 := by
 have hb := canon_behind hc x hx
 obtain ⟨y, hy, y1, y2⟩ := (h x.f0).1 ⟨x, hx, Int.le_refl _, hb.2.1⟩
 refine ⟨y, hy, ?_⟩
 have h2 := start_not hc hx
 rw [h] at h2
 have h3 : ¬ (y.f0 ≤ x.f0 - 1 ∧ x.f0 - 1 < y.f1) := fun h4 => h2 ⟨y, hy, h4⟩
 omega
theorem end_of {lo : Int} {r l : List Sp} (hc : Canon lo r) (h : ∀ z, InS r z ↔ InS l z) {x : Sp} (hx : x ∈ r) : ∃ y ∈ l, y.f1 = x.f1 := by
 have hb := canon_behind hc x hx
 obtain ⟨y, hy, y1, y2⟩ := (h (x.f1 - 1)).1 ⟨x, hx, by omega, by omega⟩
 refine ⟨y, hy, ?_⟩
 have h2 := end_not hc hx
 rw [h] at h2
 have h3 : ¬ (y.f0 ≤ x.f1 ∧ x.f1 < y.f1) := fun h4 => h2 ⟨y, hy, h4⟩
 omega
/-- The gaps, widened, of a small job: whole units. -/
theorem wide_al {gaps g l w : List Sp} {u len q : Int} (hu4 : 4 ≤ u) (hu20 : u ≤ 1048576) (hq : q ≤ 1048576000) (hlen : lenOk len = true) (hsm : ∀ x ∈ gaps, 0 ≤ x.f0 ∧ x.f0 ≤ q ∧ (x.f1 ≤ q ∨ x.f1 = 4611686018427387904)) (cg : Canon (-1) g) (hg : ∀ z, InS g z ↔ InS (gaps.filter goodS) z)
  (cl : Canon (-1) l) (hl : ∀ z, InS l z ↔ InS g z ∧ 0 ≤ z ∧ z < endL len) (hle : ∀ x ∈ l, goodS x = true ∧ x.f1 ≤ endL len) (cw : Canon (-1) w) (hw : ∀ z, InS w z ↔ InS ((l.map (widS u (endL len))).filter goodS) z) :
  ∀ x ∈ w, (Int.tmod x.f0 u = 0 ∧ x.f0 ≤ 1099511627776 ∧ (x.f1 = 4611686018427387904 ∨ x.f1 ≤ 1099511627776)) ∧ x.f1 ≤ endL len ∧ (Int.tmod x.f1 u = 0 ∨ x.f1 = endL len ∨ x.f1 = 4611686018427387904) := by
 have hlen' : -1 ≤ len ∧ len ≤ 1099511627776 := of_decide_eq_true hlen
 have hE : endL len = 4611686018427387904 ∨ endL len ≤ 1099511627776 := by unfold endL; split <;> omega
 intro x hx
 have hxb := canon_behind cw x hx
 unfold top at hxb
 obtain ⟨y, hy, y1⟩ := start_of cw hw hx
 obtain ⟨t, ht, t1⟩ := end_of cw hw hx
 obtain ⟨hy, hyg⟩ := List.mem_filter.1 hy
 obtain ⟨ht, htg⟩ := List.mem_filter.1 ht
 obtain ⟨v, hv, rfl⟩ := List.mem_map.1 hy
 obtain ⟨s, hs, rfl⟩ := List.mem_map.1 ht
 have hvg := goodS_iff.1 (hle v hv).1
 have hsg := goodS_iff.1 (hle s hs).1
 have hse := (hle s hs).2
 -- where v begins
 have hv0 : v.f0 ≤ 1048576000 := by
  by_cases h0 : v.f0 = 0
  ·omega
  ·have h1 := (hl v.f0).1 ⟨v, hv, Int.le_refl _, hvg.2.1⟩
   have h2 := start_not cl hv
   rw [hl] at h2
   have h3 : ¬ InS g (v.f0 - 1) := fun h => h2 ⟨h, by omega, by omega⟩
   obtain ⟨a, ha, a1, a2⟩ := (hg _).1 h1.1
   rw [hg] at h3
   have h4 : ¬ (a.f0 ≤ v.f0 - 1 ∧ v.f0 - 1 < a.f1) := fun h => h3 ⟨a, ha, h⟩
   have := (hsm a (List.mem_filter.1 ha).1).2.1
   omega
 -- where s ends
 have hs1 : s.f1 = 4611686018427387904 ∨ s.f1 ≤ 1048576000 ∨ s.f1 = endL len := by
  have h1 := (hl (s.f1 - 1)).1 ⟨s, hs, by omega, by omega⟩
  have h2 := end_not cl hs
  rw [hl] at h2
  by_cases h0 : s.f1 = endL len
  ·exact .inr (.inr h0)
  ·have h3 : ¬ InS g s.f1 := fun h => h2 ⟨h, by omega, by omega⟩
   obtain ⟨a, ha, a1, a2⟩ := (hg _).1 h1.1
   rw [hg] at h3
   have h4 : ¬ (a.f0 ≤ s.f1 ∧ s.f1 < a.f1) := fun h => h3 ⟨a, ha, h⟩
   have := (hsm a (List.mem_filter.1 ha).1).2.2
   omega
 obtain ⟨f1, f2, f3⟩ := tmod_floor (show 0 < u by omega) hvg.1
 have ey : (widS u (endL len) v).f0 = v.f0 - Int.tmod v.f0 u := rfl
 rw [ey] at y1
 have b0 := Int.tmod_lt_of_pos s.f1 (show 0 < u by omega)
 have b1 := Int.tmod_nonneg u (show 0 ≤ s.f1 by omega)
 have et : (widS u (endL len) s).f1 = if s.f1 < 4611686018427387904 then mn (s.f1 + Int.tmod (u - Int.tmod s.f1 u) u) (endL len) else 4611686018427387904 := rfl
 rw [et] at t1
 have hmod : Int.tmod (s.f1 + Int.tmod (u - Int.tmod s.f1 u) u) u = 0 ∧ Int.tmod (u - Int.tmod s.f1 u) u < u ∧ 0 ≤ Int.tmod (u - Int.tmod s.f1 u) u := by
  have e1 : Int.tmod s.f1 u = s.f1 % u := Int.tmod_eq_emod_of_nonneg (by omega)
  have e2 : Int.tmod (u - s.f1 % u) u = (u - s.f1 % u) % u := Int.tmod_eq_emod_of_nonneg (by omega)
  have p0 := Int.emod_nonneg (u - s.f1 % u) (show u ≠ 0 by omega)
  have p1 := Int.emod_lt_of_pos (u - s.f1 % u) (show 0 < u by omega)
  rw [e1, e2, Int.tmod_eq_emod_of_nonneg (by omega)]
  refine ⟨?_, p1, p0⟩
  rw [Int.add_emod, Int.emod_emod_of_dvd _ (Int.dvd_refl u), Int.sub_emod, Int.emod_self, Int.emod_emod_of_dvd _ (Int.dvd_refl u)]
  have p2 := Int.emod_nonneg s.f1 (show u ≠ 0 by omega)
  have p3 := Int.emod_lt_of_pos s.f1 (show 0 < u by omega)
  by_cases hz : s.f1 % u = 0
  ·rw [hz]; simp
  ·have e3 : (0 - s.f1 % u) % u = u - s.f1 % u := by
    rw [show (0 - s.f1 % u) = (u - s.f1 % u) + u * (-1) by omega, Int.add_mul_emod_self_left, Int.emod_eq_of_lt (by omega) (by omega)]
   rw [e3, show s.f1 % u + (u - s.f1 % u) = u by omega, Int.emod_self]
 obtain ⟨m0, m1, m2⟩ := hmod
 generalize hz : s.f1 + Int.tmod (u - Int.tmod s.f1 u) u = z at m0 t1
 refine ⟨⟨by rw [← y1]; exact f1, by omega, ?_⟩, ?_, ?_⟩
 ·by_cases h : s.f1 < 4611686018427387904
  ·rw [if_pos h] at t1
   unfold mn at t1
   split at t1 <;> omega
  ·rw [if_neg h] at t1; exact .inl t1.symm
 ·by_cases h : s.f1 < 4611686018427387904
  ·rw [if_pos h] at t1
   unfold mn at t1
   split at t1 <;> omega
  ·rw [if_neg h] at t1; omega
 ·by_cases h : s.f1 < 4611686018427387904
  ·rw [if_pos h] at t1
   unfold mn at t1
   split at t1
   ·exact .inr (.inl t1.symm)
   ·rw [← t1]; exact .inl m0
  ·rw [if_neg h] at t1; exact .inr (.inr t1.symm)
theorem endL_ge {len : Int} (h : lenOk len = true) : 0 ≤ endL len ∧ endL len ≤ 4611686018427387904 := by
 have h' : -1 ≤ len ∧ len ≤ 1099511627776 := of_decide_eq_true h
 unfold endL; split <;> omega
theorem uB_range {u : Int} (h : uB u 2 19 = true) : 4 ≤ u ∧ u ≤ 1048576 := by
 obtain ⟨p, p1, p2, eu⟩ := uB_iff.1 h
 have h1 : 2 ^ 2 ≤ 2 ^ p := Nat.pow_le_pow_right (by decide) p1
 have h2 : 2 ^ p ≤ 2 ^ 20 := Nat.pow_le_pow_right (by decide) p2
 generalize 2 ^ p = q at h1 h2 eu
 omega
theorem okB_iff {len u F M : Int} (h : okB len u F M = true) : uB u 2 19 = true ∧ lenOk len = true ∧ 0 ≤ F ∧ u ≤ M := by
 unfold okB at h
 simp only [Bool.and_eq_true, decide_eq_true_eq] at h
 exact ⟨h.1.1.1, h.1.1.2, h.1.2, h.2⟩
/-- All that is known of a small job that may be: its sets, its gaps widened. -/
structure Known (l0 l1 : List Sp) (len u F M : Int) (g f w : List Sp) : Prop where
 g1 : Ev (fun k => ranges_Of.f k l0) g
 g2 : Ev (fun k => mandolineref02_Of.f k l0) g
 g3 : Canon (-1) g
 g4 : ∀ z, InS g z ↔ InS (l0.filter goodS) z
 g5 : g.length ≤ 12
 f1 : Ev (fun k => ranges_Of.f k l1) f
 f2 : Ev (fun k => mandolineref02_Of.f k l1) f
 f3 : Canon (-1) f
 f4 : ∀ z, InS f z ↔ InS (l1.filter goodS) z
 f5 : f.length ≤ 12
 w1 : Ev (fun k => plan_Units.f k g len u) w
 w2 : Ev (fun k => mandolineref35_Units.f k g len u) w
 w3 : Canon (-1) w
 w4 : w.length ≤ 13
 w5 : okB len u F M = true → (∀ x ∈ w, (Int.tmod x.f0 u = 0 ∧ x.f0 ≤ 1099511627776 ∧ (x.f1 = 4611686018427387904 ∨ x.f1 ≤ 1099511627776)) ∧ x.f1 ≤ endL len ∧ (Int.tmod x.f1 u = 0 ∨ x.f1 = endL len ∨ x.f1 = 4611686018427387904))
 w6 : okB len u F M = true → ∀ z, InS g z → 0 ≤ z → z < endL len → InS w z
theorem known_of {l0 l1 : List Sp} {n len u F M : Int} (hn0 : 0 ≤ n) (hn : n ≤ 100) (h0 : SmallL u (wrap64 (u * n)) l0) (h1 : SmallL u (wrap64 (u * wrap64 (4 * n))) l1) : ∃ g f w, Known l0 l1 len u F M g f w := by
 obtain ⟨a0, a1, a2⟩ := h0
 obtain ⟨b0, b1, b2⟩ := h1
 obtain ⟨u4, u20⟩ := uB_range a0
 obtain ⟨g, g1, g2, g3, g4, g5⟩ := of_same l0 (by omega)
 obtain ⟨f, f1, f2, f3, f4, f5⟩ := of_same l1 (by omega)
 obtain ⟨w, w1, w2, w3, w4, w5, w6⟩ := units_full g len u (by omega) g3
 have hq0 : 0 ≤ u * n := Int.mul_nonneg (by omega) hn0
 have hq1 : u * n ≤ 1048576 * 100 := Int.mul_le_mul u20 hn hn0 (by omega)
 have hq : wrap64 (u * n) = u * n := wrap_small (by omega) (by omega)
 rw [hq] at a2
 refine ⟨g, f, w, g1, g2, g3, g4, by omega, f1, f2, f3, f4, by omega, w1, w2, w3, by omega, fun hok => ?_, fun hok z hz z0 z1 => ?_⟩
 ·obtain ⟨o1, o2, o3, o4⟩ := okB_iff hok
  obtain ⟨l, c1, c2, c3, c4⟩ := w5 (by rw [o1, o2]; rfl)
  exact wide_al u4 u20 (by omega) o2 a2 g3 g4 c1 c2 c3 w3 c4
 ·obtain ⟨o1, o2, o3, o4⟩ := okB_iff hok
  obtain ⟨l, c1, c2, c3, c4⟩ := w5 (by rw [o1, o2]; rfl)
  obtain ⟨v, hv, v1, v2⟩ := (c2 z).2 ⟨hz, z0, z1⟩
  obtain ⟨hvg, hve⟩ := c3 v hv
  have hvi := goodS_iff.1 hvg
  obtain ⟨e0, e1⟩ := endL_ge o2
  have t0 := Int.tmod_lt_of_pos v.f0 (show 0 < u by omega)
  have t1 := Int.tmod_nonneg u hvi.1
  have t2 := Int.tmod_nonneg u (show 0 ≤ v.f1 by omega)
  have t3 := Int.tmod_lt_of_pos v.f1 (show 0 < u by omega)
  have t4 := Int.tmod_nonneg u (show 0 ≤ u - Int.tmod v.f1 u by omega)
  have hs0 : (widS u (endL len) v).f0 = v.f0 - Int.tmod v.f0 u := rfl
  have hs1 : (widS u (endL len) v).f1 = if v.f1 < 4611686018427387904 then mn (v.f1 + Int.tmod (u - Int.tmod v.f1 u) u) (endL len) else 4611686018427387904 := rfl
  have t5 : 0 ≤ v.f0 - Int.tmod v.f0 u := by
   have := mult_le_floor (u := u) (a := 0) (z := v.f0) (by omega) (Int.zero_tmod u) (Int.le_refl _) hvi.1; exact this
  have hge : v.f1 ≤ (widS u (endL len) v).f1 := by
   rw [hs1]; split
   ·unfold mn; split <;> omega
   ·omega
  have hle : (widS u (endL len) v).f1 ≤ 4611686018427387904 := by
   rw [hs1]; split
   ·unfold mn; split <;> omega
   ·omega
  refine (c4 z).2 ⟨widS u (endL len) v, List.mem_filter.2 ⟨List.mem_map.2 ⟨v, hv, rfl⟩, goodS_iff.2 ⟨by rw [hs0]; exact t5, by rw [hs0]; omega, hle⟩⟩, by rw [hs0]; omega, by omega⟩
theorem Known.job {l0 l1 : List Sp} {len u F M : Int} {g f w : List Sp} (K : Known l0 l1 len u F M g f w) (hok : okB len u F M = true) (hM : M ≤ wrap64 (u * 300)) (hsub : ∀ z, InS w z → InS f z) : Job u F M 1099511627776 w f := by
 obtain ⟨o1, o2, o3, o4⟩ := okB_iff hok
 obtain ⟨u4, u20⟩ := uB_range o1
 have hq : wrap64 (u * 300) = u * 300 := wrap_small (by omega) (by omega)
 rw [hq] at hM
 exact ⟨u4, u20, o3, o4, by omega, by omega, K.w3, K.f3, by have := K.w4; omega, by have := K.f5; omega, hsub, fun x hx => (K.w5 hok x hx).1⟩
theorem Known.left {l0 l1 : List Sp} {len u F M : Int} {g f w : List Sp} (K : Known l0 l1 len u F M g f w) (hok : okB len u F M = true) : Left u 1099511627776 w 0 w :=
 ⟨Int.le_refl _, K.w3, fun z _ => Iff.rfl, fun x hx => ⟨x, hx, Int.le_refl _, rfl⟩, fun x hx => ⟨(K.w5 hok x hx).1.1, (K.w5 hok x hx).1.2.1⟩, Nat.le_refl _⟩
/-- The program's plan of a small job: an error, or a chain of fetches. -/
theorem Known.plan {l0 l1 : List Sp} {len u F M : Int} {g f w : List Sp} (K : Known l0 l1 len u F M g f w) (hM : M ≤ wrap64 (u * 300)) (c3 c4 c5 c6 c7 c8 c9 : Int) :
  ∃ d, Ev (fun k => mandolineref02_Less.f k w f) d ∧ Canon (-1) d ∧ (∀ z, InS d z ↔ InS w z ∧ ¬ InS f z) ∧ ∃ r st, Ev (fun k => plan_Plan.f k g f len u F M c3 c4 c5 c6 c7 c8 c9) (r, st) ∧
   (okB len u F M = false → st = 1 ∧ r = []) ∧ (okB len u F M = true → d ≠ [] → st = 15 ∧ r = []) ∧ (okB len u F M = true → d = [] → st = 0 ∧ Chain u F M w f 0 r) := by
 have hf5 := K.f5
 have hw4 := K.w4
 obtain ⟨d, d1, d2, d3, d4, d5⟩ := less_same w f (by omega) (by omega) K.w3 K.f3
 have hdl : d.length < 100000000000 := by
  have h1 : w.length * (f.length + 1) ≤ 13 * (f.length + 1) := Nat.mul_le_mul_right _ hw4
  omega
 refine ⟨d, d2, d3, d4, ?_⟩
 cases hok : okB len u F M with
 | false => exact ⟨[], 1, Ev.all fun k => by unfold plan_Plan.f; rw [may_f, hok]; rfl, fun _ => ⟨rfl, rfl⟩, fun h => (by cases h), fun h => (by cases h)⟩
 | true =>
  have hpl : ∀ {r : List Sp × Int}, Ev (fun k => if lenL 0 d > 0 then some ([], 15) else plan_Plan.l0 k [] f u F M c3 c4 c5 c6 c7 c8 c9 w) r → Ev (fun k => plan_Plan.f k g f len u F M c3 c4 c5 c6 c7 c8 c9) r := by
   intro r h
   refine Ev.congr (g := fun k => (plan_Units.f k g len u).bind fun t219 => (ranges_Set_Less.f k t219 f).bind fun t223 => (ranges_Set_Len.f k t223).bind fun t226 => if t226 > 0 then some ([], 15) else plan_Plan.l0 k [] f u F M c3 c4 c5 c6 c7 c8 c9 t219) (fun k => by unfold plan_Plan.f; rw [may_f, hok]; rfl) ?_
   refine Ev.bind (f := fun k => plan_Units.f k g len u) (g := fun k t219 => (ranges_Set_Less.f k t219 f).bind fun t223 => (ranges_Set_Len.f k t223).bind fun t226 => if t226 > 0 then some ([], 15) else plan_Plan.l0 k [] f u F M c3 c4 c5 c6 c7 c8 c9 t219) K.w1 ?_
   refine Ev.bind (f := fun k => ranges_Set_Less.f k w f) (g := fun k t223 => (ranges_Set_Len.f k t223).bind fun t226 => if t226 > 0 then some ([], 15) else plan_Plan.l0 k [] f u F M c3 c4 c5 c6 c7 c8 c9 w) d1 ?_
   exact Ev.bind (f := fun k => ranges_Set_Len.f k d) (g := fun k t226 => if t226 > 0 then some ([], 15) else plan_Plan.l0 k [] f u F M c3 c4 c5 c6 c7 c8 c9 w) (len_f hdl d3) h
  by_cases hd : d = []
  ·have hsub : ∀ z, InS w z → InS f z := fun z hz => Classical.byContradiction fun hn => by
    have := (d4 z).2 ⟨hz, hn⟩; rw [hd] at this; exact inS_nil z this
   obtain ⟨r, r1, r2⟩ := pplan_l0 (K.job hok hM hsub) c3 c4 c5 c6 c7 c8 c9 1099511627777 0 w [] (K.left hok) (fun x t e => by
    have := (canon_behind K.w3 x (by rw [e]; exact List.mem_cons_self ..)).1
    omega) (by simp)
   refine ⟨r, 0, hpl ?_, fun h => (by cases h), fun _ h => absurd hd h, fun _ _ => ⟨rfl, r2⟩⟩
   have h0 : ¬ lenL 0 d > 0 := by rw [hd]; simp [lenL]
   simp only [if_neg h0]
   exact r1
  ·have h0 : lenL 0 d > 0 := lenL_pos d3 (Int.le_refl _) (.inr hd)
   refine ⟨[], 15, hpl ?_, fun h => (by cases h), fun _ _ => ⟨rfl, rfl⟩, fun _ h => absurd h hd⟩
   simp only [if_pos h0]
   exact Ev.all fun k => rfl
end Go.Proofs.Ytnaalaakhdbfbaa.XP
