/- The free span that a byte lies in: plain law of First; how far a fetch reaches, as a plain function. -/
import Derived.Test.YtnaalaakhdbfbaaV4XP9
import Derived.Test.YtnaalaakhdbfbaaV4XP10
import Derived.Test.YtnaalaakhdbfbaaV4RgSets
set_option linter.unusedVariables false
set_option linter.unusedSimpArgs false
namespace Go.Proofs.Ytnaalaakhdbfbaa.XP
open Go.RowKit Go.Proofs.YtnaalaakhdbfbaaW.PrintWords Go.Proofs.YtnaalaakhdbfbaaW.PrintLast Go.Proofs.YtnaalaakhdbfbaaW.PrintMore
theorem bsGo_spec (l : List Sp) (a : Int) (p : Nat) (hp : p ≤ l.length) (h1 : ∀ i, i < p → (l.getD i z48).f1 ≤ a) (h2 : ∀ i, p ≤ i → i < l.length → a < (l.getD i z48).f1) :
  ∀ n i j, i ≤ p → p ≤ j → j ≤ l.length → j - i ≤ n → bsGo l a n i j = p := by
 intro n
 induction n with
 | zero => intro i j hi hj _ hn; unfold bsGo; omega
 | succ n ih =>
  intro i j hi hj hl hn
  unfold bsGo
  by_cases hij : i < j
  ·rw [if_pos hij]
   by_cases hm : (i + j) / 2 < p
   ·rw [if_pos (h1 _ hm)]
    exact ih _ _ (by omega) hj hl (by omega)
   ·rw [if_neg (by have := h2 ((i + j) / 2) (by omega) (by omega); omega)]
    exact ih _ _ hi (by omega) (by omega) (by omega)
  ·rw [if_neg hij]; omega
theorem canon_before {lo : Int} {l m : List Sp} {b : Sp} (h : Canon lo (l ++ b :: m)) : ∀ x ∈ l, x.f1 < b.f0 := by
 induction l generalizing lo with
 | nil => intro x hx; simp at hx
 | cons y l ih =>
  obtain ⟨y1, y2, y3, y4⟩ := h
  intro x hx
  rcases List.mem_cons.1 hx with rfl | hx
  ·exact canon_lb (l := l ++ b :: m) y4 ((inS_append _ _ _).2 (.inr ((inS_cons _ _ _).2 (.inl ⟨Int.le_refl _, ((canon_append.1 y4).2).2.1⟩))))
  ·exact ih y4 x hx
theorem canon_behind {lo : Int} {m : List Sp} (h : Canon lo m) : ∀ x ∈ m, lo < x.f0 ∧ x.f0 < x.f1 ∧ x.f1 ≤ top := by
 induction m generalizing lo with
 | nil => intro x hx; simp at hx
 | cons y l ih =>
  obtain ⟨y1, y2, y3, y4⟩ := h
  intro x hx
  rcases List.mem_cons.1 hx with rfl | hx
  ·exact ⟨y1, y2, y3⟩
  ·have := ih y4 x hx; omega
theorem bsFrom_at {lo : Int} {fp fs : List Sp} {b : Sp} {a : Int} (h : Canon lo (fp ++ b :: fs)) (h0 : b.f0 ≤ a) (h1 : a < b.f1) : bsFrom (fp ++ b :: fs) a = fp.length := by
 unfold bsFrom
 refine bsGo_spec _ _ fp.length (by simp) (fun i hi => ?_) (fun i hi hl => ?_) _ _ _ (Nat.zero_le _) (by simp) (Nat.le_refl _) (by omega)
 ·have hm : (fp ++ b :: fs).getD i z48 = fp[i] := by rw [List.getD_eq_getElem?_getD, List.getElem?_append_left hi, List.getElem?_eq_getElem hi]; rfl
  rw [hm]
  have := canon_before h _ (List.getElem_mem hi); omega
 ·have hc := (canon_append.1 h).2
  obtain ⟨c1, c2, c3, c4⟩ := hc
  have hm : (fp ++ b :: fs).getD i z48 ∈ b :: fs := by
   rw [List.getD_eq_getElem?_getD, List.getElem?_append_right hi]
   have : i - fp.length < (b :: fs).length := by simp at hl ⊢; omega
   rw [List.getElem?_eq_getElem this]
   exact List.getElem_mem _
  rcases List.mem_cons.1 hm with e | hm
  ·rw [e]; exact h1
  ·have := canon_behind c4 _ hm; omega
theorem first_f {lo : Int} {fp fs : List Sp} {b : Sp} {a : Int} (hl : (fp ++ b :: fs).length < 1000000) (h : Canon lo (fp ++ b :: fs)) (h0 : b.f0 ≤ a) (h1 : a < b.f1) : ranges_Set_First.f (fp ++ b :: fs) a = some (a, b.f1, true) := by
 unfold ranges_Set_First.f ranges_Set_from.f
 rw [if_pos hl, bsFrom_at h h0 h1]
 have hlt : fp.length < (fp ++ b :: fs).length := by simp
 simp only [Option.bind_some]
 rw [if_neg (by omega), if_pos (by omega), if_pos (by omega), rdS_at]
 have : mx b.f0 a = a := by unfold mx; split <;> omega
 rw [this]
/-- How far one fetch reaches: of the spans `l` (behind `prev`), so much waste before, the best end so far. -/
def rL (u F M fr a : Int) : Int → Int → Int → List Sp → Int
 | best, _, _, [] => best
 | best, ws, prev, x :: l =>
  if ws + (x.f0 - prev) > F ∨ fr ≤ x.f0 then best
  else if x.f1 = 4611686018427387904 then 4611686018427387904
  else if a + M < x.f1 then (if a + M - Int.tmod (a + M) u > x.f0 then a + M - Int.tmod (a + M) u else best)
  else rL u F M fr a x.f1 (ws + (x.f0 - prev)) x.f1 l
end Go.Proofs.Ytnaalaakhdbfbaa.XP
