/- Chains of fetches: each byte left begins one; a later start needs no more of them; how many there are. Plain Lean. -/
import Derived.Test.YtnaalaakhdbfbaaV4RgFine
set_option linter.unusedVariables false
set_option linter.unusedSimpArgs false
namespace Go.Proofs.Ytnaalaakhdbfbaa.XP
open Go.RowKit Go.Proofs.YtnaalaakhdbfbaaW.PrintWords Go.Proofs.YtnaalaakhdbfbaaW.PrintLast Go.Proofs.YtnaalaakhdbfbaaW.PrintMore
section
variable {u F M B : Int} {w fr : List Sp}
theorem left_drop (J : Job u F M B w fr) {p : Int} {x : Sp} {l : List Sp} (L : Left u B w p (x :: l)) {y : Sp} {E : Int} (hy : y ∈ x :: l) (k4 : Cand u y E) (hxE : x.f0 < E) (hnt : ∀ v ∈ w, v.f1 < 4611686018427387904) : Left u B w E (dropTo E (x :: l)) := by
 obtain ⟨c1, c2, c3, c4⟩ := L.c
 have hp0 := L.p0
 have hcx : Canon (x.f0 - 1) (x :: l) := ⟨by omega, c2, c3, c4⟩
 have hins : ∀ z, x.f0 ≤ z → (InS w z ↔ InS (x :: l) z) := fun z hz => L.ins z (by omega)
 have hdc := drop_canon E (x :: l) (x.f0 - 1) hcx
 refine ⟨by omega, by rw [show max (x.f0 - 1) (E - 1) = E - 1 by omega] at hdc; exact hdc, fun z hz => ?_, fun z hz => ?_, fun z hz => ?_, by have := drop_len E (x :: l); have := L.len; omega⟩
 ·rw [drop_in E (x :: l) _ hcx, hins z (by omega)]; exact ⟨fun h => ⟨h, hz⟩, fun h => h.1⟩
 ·obtain ⟨v, hv, v1, v2, v3, v4⟩ := drop_mem E (x :: l) _ hcx z hz
  obtain ⟨y', hy', y1, y2⟩ := L.mem v hv
  exact ⟨y', hy', by omega, by omega⟩
 ·obtain ⟨v, hv, v1, v2, v3, v4⟩ := drop_mem E (x :: l) _ hcx z hz
  obtain ⟨a1, a2⟩ := L.al v hv
  rcases v4 with v4 | v4
  ·rw [v4]; exact ⟨a1, a2⟩
  ·rw [v4]
   by_cases hv0 : v.f0 = E
   ·rw [← hv0]; exact ⟨a1, a2⟩
   ·have hvE : v.f0 ≤ E := by omega
    have hvy : v = y := canon_uniq hcx hv hy (z := E - 1) (by omega) (by omega) (by have := k4.1; omega) (by have := k4.2.1; omega)
    subst hvy
    obtain ⟨y', hy', y1, y2⟩ := L.mem v hv
    have hend := (J.al y' hy').2.2
    have hny := hnt y' hy'
    refine ⟨?_, ?_⟩
    ·rcases k4.2.2 with h | h
     ·exact h
     ·omega
    ·omega
theorem chain_ex (J : Job u F M B w fr) : ∀ (n : Nat) (p : Int) (l : List Sp), Left u B w p l → (∀ x r, l = x :: r → (B + 1 - x.f0).toNat ≤ n) → ∃ r, Chain u F M w fr p r := by
 intro n
 induction n with
 | zero =>
  intro p l L hn
  cases l with
  | nil => exact ⟨[], fun z hz h => inS_nil z ((L.ins z hz).1 h)⟩
  | cons x r =>
   have h1 := hn x r rfl
   have h2 := (L.al x (List.mem_cons_self ..)).2
   omega
 | succ n ih =>
  intro p l L hn
  cases l with
  | nil => exact ⟨[], fun z hz h => inS_nil z ((L.ins z hz).1 h)⟩
  | cons x r =>
   have h1 := hn x r rfl
   have h2 := (L.al x (List.mem_cons_self ..)).2
   obtain ⟨E, hE, e1, e2, e3, e4⟩ := step_chain J L
   obtain ⟨rest, g2⟩ := ih E (dropTo E (x :: r)) e3 (fun y s hy => by
    have hm : y ∈ dropTo E (x :: r) := by rw [hy]; exact List.mem_cons_self ..
    have := (canon_behind e3.c y hm).1
    omega)
   exact ⟨_, e4 rest g2⟩
theorem chain_up {p q : Int} {s : Sp} {r : List Sp} (h : Chain u F M w fr p (s :: r)) (hpq : p ≤ q) (hq : q ≤ s.f0) : Chain u F M w fr q (s :: r) := by
 obtain ⟨h1, h2, h3, h4, h5, h6, h7⟩ := h
 exact ⟨hq, h2, h3, h4, h5, fun z z1 z2 => h6 z (by omega) z2, h7⟩
/-- Begun later, a chain is no longer. -/
theorem chain_mono (hw : Canon (-1) w) (hnt : ∀ v ∈ w, v.f1 < 4611686018427387904) : ∀ (n : Nat) (r r' : List Sp) (p q : Int), r.length + r'.length ≤ n → 0 ≤ p → p ≤ q → Chain u F M w fr p r → Chain u F M w fr q r' → r'.length ≤ r.length := by
 intro n
 induction n with
 | zero => intro r r' p q hn _ _ _ _; omega
 | succ n ih =>
  intro r r' p q hn hp0 hpq h h'
  cases r' with
  | nil => exact Nat.zero_le _
  | cons s' t' =>
   obtain ⟨b1, b2, b3, b4, b5, b6, b7, b8, b9, b10, b11, b12⟩ := h'
   cases r with
   | nil => exact absurd b4 (h _ (by omega))
   | cons s t =>
    have hh := h
    obtain ⟨a1, a2, a3, a4, a5, a6, a7, a8, a9, ⟨y, hy, y1, y2, y3⟩, a11, a12⟩ := h
    have hss : s.f0 ≤ s'.f0 := Int.not_lt.1 fun hlt => a6 s'.f0 (by omega) hlt b4
    simp only [List.length_cons] at hn ⊢
    by_cases hc : s.f1 ≤ s'.f0
    ·have := ih t (s' :: t') s.f1 (max q s.f1) (by simp; omega) (by omega) (by omega) a12 (chain_up ⟨b1, b2, b3, b4, b5, b6, b7, b8, b9, b10, b11, b12⟩ (by omega) (by omega))
     simp at this; omega
    ·have hynt := hnt y hy
     have hmono := nonW_mono w 0 s.f0 s'.f0 hw (by omega) hss
     have hge := b11 y hy s.f1 (by omega) ⟨y1, y2, y3⟩ (fun v v1 v2 => a9 v (by omega) v2) (by omega) (by unfold nW at a8 ⊢; omega)
     have := ih t t' s.f1 s'.f1 (by omega) (by omega) hge a12 b12
     omega
/-- How many fetches: each begins at least a unit behind the one ahead. -/
theorem chain_len (hu : 0 < u) {T : Int} (hT : ∀ z, InS w z → z < T) : ∀ (r : List Sp) (p : Int), 0 ≤ p → Chain u F M w fr p r → ∀ s t, r = s :: t → (r.length : Int) * u ≤ T - s.f0 + u - 1 := by
 intro r
 induction r with
 | nil => intro p _ _ s t e; cases e
 | cons s r ih =>
  intro p hp h s' t e
  injection e with e1 e2
  subst e1 e2
  obtain ⟨a1, a2, a3, a4, a5, a6, a7, a8, a9, ⟨y, hy, y1, y2, y3⟩, a11, a12⟩ := h
  have h1 := hT _ a4
  cases r with
  | nil => simp; omega
  | cons s2 r2 =>
   have h2 := ih s.f1 (by omega) a12 s2 r2 rfl
   obtain ⟨b1, b2, b3, b4, b5, b6⟩ := a12
   have h3 : s.f0 + u ≤ s2.f0 := by
    have e1 : Int.tmod s2.f0 u = s2.f0 % u := Int.tmod_eq_emod_of_nonneg (by omega)
    have e2 : Int.tmod s.f0 u = s.f0 % u := Int.tmod_eq_emod_of_nonneg (by omega)
    rw [e1] at b5; rw [e2] at a5
    have p1 := Int.mul_ediv_add_emod s2.f0 u
    have p2 := Int.mul_ediv_add_emod s.f0 u
    have p3 : s.f0 / u < s2.f0 / u := by
     refine Int.not_le.1 fun h => ?_
     have := Int.mul_le_mul_of_nonneg_left h (show 0 ≤ u by omega)
     omega
    have p4 := Int.mul_le_mul_of_nonneg_left (show s.f0 / u + 1 ≤ s2.f0 / u by omega) (show 0 ≤ u by omega)
    rw [Int.mul_add, Int.mul_one] at p4
    omega
   have h4 : (((s :: s2 :: r2).length : Nat) : Int) * u = (((s2 :: r2).length : Nat) : Int) * u + u := by
    rw [List.length_cons (a := s)]
    rw [Int.natCast_add, Int.add_mul]; simp
   omega
/-- A chain has all bytes of the set behind where it begins. -/
theorem chain_all : ∀ (r : List Sp) (p : Int), 0 ≤ p → Chain u F M w fr p r → ∀ z, p ≤ z → InS w z → InS (r.filter goodS) z := by
 intro r
 induction r with
 | nil => intro p _ h z hz hw; exact absurd hw (h z hz)
 | cons s r ih =>
  intro p hp h z hz hw
  obtain ⟨a1, a2, a3, a4, a5, a6, a7, a8, a9, a10, a11, a12⟩ := h
  have hg : goodS s = true := goodS_iff.2 ⟨by omega, a2, a3⟩
  rw [List.filter_cons_of_pos hg, inS_cons]
  by_cases h1 : z < s.f0
  ·exact absurd hw (a6 z hz h1)
  ·by_cases h2 : z < s.f1
   ·exact .inl ⟨by omega, h2⟩
   ·exact .inr (ih s.f1 (by omega) a12 z (by omega) hw)
end
end Go.Proofs.Ytnaalaakhdbfbaa.XP
