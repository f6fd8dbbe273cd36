/- The greedy step: where it ends, and that nothing that may be fetched ends behind it. Plain Lean. -/
import Derived.Test.YtnaalaakhdbfbaaV4RgReach
import Derived.Test.YtnaalaakhdbfbaaV4RgCount
set_option linter.unusedVariables false
set_option linter.unusedSimpArgs false
namespace Go.Proofs.Ytnaalaakhdbfbaa.XP
open Go.RowKit Go.Proofs.YtnaalaakhdbfbaaW.PrintWords Go.Proofs.YtnaalaakhdbfbaaW.PrintLast Go.Proofs.YtnaalaakhdbfbaaW.PrintMore
/-- So many bytes below `z` are not in the set. -/
def nW (w : List Sp) (z : Int) : Int := nonW 0 w z
/-- A fetch may end at `e`, as far as a span `x` of the set is concerned. -/
def Cand (u : Int) (x : Sp) (e : Int) : Prop := x.f0 < e ∧ e ≤ x.f1 ∧ (Int.tmod e u = 0 ∨ e = x.f1)
theorem tmod_floor {u z : Int} (hu : 0 < u) (hz : 0 ≤ z) : Int.tmod (z - Int.tmod z u) u = 0 ∧ z - Int.tmod z u ≤ z ∧ z < z - Int.tmod z u + u := by
 have h1 := Int.emod_nonneg z (show u ≠ 0 by omega)
 have h2 := Int.emod_lt_of_pos z hu
 have e : Int.tmod z u = z % u := Int.tmod_eq_emod_of_nonneg hz
 rw [e]
 have h3 : z - z % u = u * (z / u) := by have := Int.mul_ediv_add_emod z u; omega
 refine ⟨?_, by omega, by omega⟩
 rw [h3]; exact Int.mul_tmod_right _ _
theorem mult_le_floor {u a z : Int} (hu : 0 < u) (ha : Int.tmod a u = 0) (h0 : 0 ≤ a) (h : a ≤ z) : a ≤ z - Int.tmod z u := by
 have ea : Int.tmod a u = a % u := Int.tmod_eq_emod_of_nonneg h0
 have ez : Int.tmod z u = z % u := Int.tmod_eq_emod_of_nonneg (by omega)
 rw [ea] at ha; rw [ez]
 have h1 : a / u ≤ z / u := Int.ediv_le_ediv hu h
 have h2 := Int.mul_ediv_add_emod a u
 have h3 := Int.mul_ediv_add_emod z u
 have h4 : u * (a / u) ≤ u * (z / u) := Int.mul_le_mul_of_nonneg_left h1 (by omega)
 omega
section
variable {w : List Sp} {u F M fr a : Int}
/-- What the greedy step shows of its end: reached from `best`, over the spans `l` behind `prev`. -/
theorem rL_spec (hw : Canon (-1) w) (hu : 0 < u) (hM : 0 ≤ M) (ha0 : 0 ≤ a) (suf : List Sp) : ∀ (best ws prev : Int), Canon (prev - 1) suf → a ≤ prev → 0 ≤ prev →
  (∀ x ∈ suf, x ∈ w ∨ ∃ y ∈ w, y.f0 ≤ x.f0 ∧ y.f1 = x.f1) → (∀ x ∈ suf, x.f0 < fr → x.f1 ≤ fr) → (∀ z, prev ≤ z → (InS w z ↔ InS suf z)) → ws = nW w prev - nW w a →
  (rL u F M fr a best ws prev suf = best ∨ ∃ x ∈ suf, Cand u x (rL u F M fr a best ws prev suf) ∧ (x.f1 = 4611686018427387904 → rL u F M fr a best ws prev suf = 4611686018427387904) ∧ rL u F M fr a best ws prev suf ≤ fr ∧ (rL u F M fr a best ws prev suf = 4611686018427387904 ∨ rL u F M fr a best ws prev suf - a ≤ M) ∧ nW w (rL u F M fr a best ws prev suf) - nW w a ≤ F) ∧
  (best ≤ prev → best ≤ rL u F M fr a best ws prev suf) ∧
  (best ≤ prev → ∀ x ∈ suf, ∀ e, Cand u x e → e ≤ fr → e - a ≤ M → nW w e - nW w a ≤ F → e ≤ rL u F M fr a best ws prev suf) := by
 induction suf with
 | nil => intro best ws prev _ _ _ _ _ _ _; exact ⟨.inl rfl, fun _ => Int.le_refl _, fun _ x hx => by simp at hx⟩
 | cons x l ih =>
  intro best ws prev hc hap hp0 hmem hsub hin hws
  obtain ⟨c1, c2, c3, c4⟩ := hc
  unfold top at c3
  have hw' : Canon (0 - 1) w := hw
  -- the gap ahead of x, and x itself
  have hgap : nW w x.f0 = nW w prev + (x.f0 - prev) := by
   refine nonW_gap w 0 prev x.f0 hw' hp0 (by omega) (fun y h1 h2 h3 => ?_)
   rcases (inS_cons _ _ _).1 ((hin y h1).1 h3) with h | h
   ·omega
   ·have := canon_lb c4 h; omega
  have hflat : ∀ z, x.f0 ≤ z → z ≤ x.f1 → nW w z = nW w x.f0 := by
   intro z h1 h2
   rcases hmem x (List.mem_cons_self ..) with h | ⟨y, hy, h3, h4⟩
   ·exact nonW_in w 0 x z hw' h h1 h2
   ·have e1 := nonW_in w 0 y z hw' hy (by omega) (by omega)
    have e2 := nonW_in w 0 y x.f0 hw' hy (by omega) (by omega)
    exact e1.trans e2.symm
  have hmono : ∀ z z', 0 ≤ z → z ≤ z' → nW w z ≤ nW w z' := fun z z' h1 h2 => (nonW_mono w 0 z z' hw' h1 h2).1
  have hbehind : ∀ y ∈ l, x.f1 < y.f0 := fun y hy => (canon_behind c4 y hy).1
  have hws' : ws + (x.f0 - prev) = nW w x.f0 - nW w a := by rw [hgap, hws]; omega
  rw [rL]
  by_cases h1 : ws + (x.f0 - prev) > F ∨ fr ≤ x.f0
  ·rw [if_pos h1]
   refine ⟨.inl rfl, fun _ => Int.le_refl _, fun _ y hy e he h2 h3 h4 => ?_⟩
   exfalso
   have hxe : x.f0 < e := by
    rcases List.mem_cons.1 hy with rfl | hy
    ·exact he.1
    ·have := hbehind y hy; have := he.1; omega
   rcases h1 with h1 | h1
   ·have := hmono x.f0 e (by omega) (by omega); omega
   ·omega
  ·rw [if_neg h1]
   have hxf := hsub x (List.mem_cons_self ..) (by omega)
   by_cases ht : x.f1 = 4611686018427387904
   ·rw [if_pos ht]
    refine ⟨.inr ⟨x, List.mem_cons_self .., ⟨by omega, by omega, .inr ht.symm⟩, fun _ => rfl, by omega, .inl rfl, by rw [hflat _ (by omega) (by omega)]; omega⟩, fun _ => by omega, fun _ y hy e he _ _ _ => ?_⟩
    rcases List.mem_cons.1 hy with rfl | hy
    ·have := he.2.1; omega
    ·have := canon_behind c4 y hy; unfold top at this; omega
   ·rw [if_neg ht]
    by_cases hm : a + M < x.f1
    ·rw [if_pos hm]
     obtain ⟨t1, t2, t3⟩ := tmod_floor hu (show 0 ≤ a + M by omega)
     have hbest : best ≤ prev → ∀ y ∈ x :: l, ∀ e, Cand u y e → e ≤ fr → e - a ≤ M → nW w e - nW w a ≤ F → e ≤ a + M - Int.tmod (a + M) u ∧ x.f0 < e := by
      intro _ y hy e he h2 h3 h4
      rcases List.mem_cons.1 hy with rfl | hy
      ·refine ⟨?_, he.1⟩
       rcases he.2.2 with h5 | h5
       ·exact mult_le_floor hu h5 (by have := he.1; omega) (by omega)
       ·omega
      ·have := hbehind y hy; have := he.1; omega
     by_cases hb : a + M - Int.tmod (a + M) u > x.f0
     ·rw [if_pos hb]
      exact ⟨.inr ⟨x, List.mem_cons_self .., ⟨hb, by omega, .inl t1⟩, fun h => absurd h ht, by omega, .inr (by omega), by rw [hflat _ (by omega) (by omega)]; omega⟩, fun _ => by omega, fun hp y hy e he h2 h3 h4 => (hbest hp y hy e he h2 h3 h4).1⟩
     ·rw [if_neg hb]
      exact ⟨.inl rfl, fun _ => Int.le_refl _, fun hp y hy e he h2 h3 h4 => by have := hbest hp y hy e he h2 h3 h4; omega⟩
    ·rw [if_neg hm]
     have hnx : nW w x.f1 = nW w x.f0 := hflat _ (by omega) (Int.le_refl _)
     obtain ⟨k1, k2, k3⟩ := ih x.f1 (ws + (x.f0 - prev)) x.f1 (canon_weak c4 (by omega)) (by omega) (by omega) (fun y hy => hmem y (List.mem_cons_of_mem _ hy)) (fun y hy => hsub y (List.mem_cons_of_mem _ hy))
      (fun z hz => ⟨fun h => ((inS_cons _ _ _).1 ((hin z (by omega)).1 h)).elim (fun h => by omega) id, fun h => (hin z (by omega)).2 ((inS_cons _ _ _).2 (.inr h))⟩) (by rw [hnx]; exact hws')
     have k2 := k2 (Int.le_refl _)
     have k3 := k3 (Int.le_refl _)
     refine ⟨.inr ?_, fun _ => by omega, fun _ y hy e he h2 h3 h4 => ?_⟩
     ·rcases k1 with k1 | ⟨y, hy, k1⟩
      ·rw [k1]
       exact ⟨x, List.mem_cons_self .., ⟨c2, Int.le_refl _, .inr rfl⟩, fun h => h, hxf, .inr (by omega), by rw [hnx]; omega⟩
      ·exact ⟨y, List.mem_cons_of_mem _ hy, k1⟩
     ·rcases List.mem_cons.1 hy with rfl | hy
      ·have := he.2.1; omega
      ·exact k3 y hy e he h2 h3 h4
/-- It goes on at least by a unit, or to the end of the span. -/
theorem rL_gt (hu : 0 < u) (hF : 0 ≤ F) (hM : u ≤ M) (ha0 : 0 ≤ a) (hau : Int.tmod a u = 0) {x : Sp} {l : List Sp} (hx : x.f0 = a) (hx1 : x.f0 < x.f1) (hxt : x.f1 ≤ 4611686018427387904) (hfr : a < fr)
  (hrest : ∀ best ws prev, best ≤ prev → prev = x.f1 → best ≤ rL u F M fr a best ws prev l) : a < rL u F M fr a a 0 a (x :: l) := by
 rw [rL, if_neg (by omega)]
 by_cases ht : x.f1 = 4611686018427387904
 ·rw [if_pos ht]; omega
 ·rw [if_neg ht]
  by_cases hm : a + M < x.f1
  ·rw [if_pos hm]
   have h := mult_le_floor (z := a + M) (a := a + u) hu (by
    have e1 : Int.tmod a u = a % u := Int.tmod_eq_emod_of_nonneg ha0
    have e2 : Int.tmod (a + u) u = (a + u) % u := Int.tmod_eq_emod_of_nonneg (by omega)
    rw [e2, Int.add_emod_right]; omega) (by omega) (by omega)
   rw [if_pos (by omega)]; omega
  ·rw [if_neg hm]
   have := hrest x.f1 (0 + (x.f0 - a)) x.f1 (Int.le_refl _) rfl
   omega
end
end Go.Proofs.Ytnaalaakhdbfbaa.XP
