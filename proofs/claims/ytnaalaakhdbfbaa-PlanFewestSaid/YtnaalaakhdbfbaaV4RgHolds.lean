/- Are all bytes of a span in a set; may a span be one of whole units: the program's tests and the document's. -/
import Derived.Test.YtnaalaakhdbfbaaV4RgDrop
import Derived.Test.YtnaalaakhdbfbaaV4RgMay
import Derived.Test.YtnaalaakhdbfbaaV4XP20
import Derived.Test.YtnaalaakhdbfbaaV4XP27
set_option linter.unusedVariables false
set_option linter.unusedSimpArgs false
namespace Go.Proofs.Ytnaalaakhdbfbaa.XP
open Go.RowKit Go.Proofs.YtnaalaakhdbfbaaW.PrintWords Go.Proofs.YtnaalaakhdbfbaaW.PrintLast Go.Proofs.YtnaalaakhdbfbaaW.PrintMore
theorem bsFrom_split {fp rest : List Sp} {a : Int} (h0 : ∀ x ∈ fp, x.f1 ≤ a) (h1 : ∀ x ∈ rest, a < x.f1) : bsFrom (fp ++ rest) a = fp.length := by
 unfold bsFrom
 refine bsGo_spec _ _ fp.length (by simp) (fun i hi => ?_) (fun i hi hl => ?_) _ _ _ (Nat.zero_le _) (by simp) (Nat.le_refl _) (by omega)
 ·have hm : (fp ++ rest).getD i z48 = fp[i] := by rw [List.getD_eq_getElem?_getD, List.getElem?_append_left hi, List.getElem?_eq_getElem hi]; rfl
  rw [hm]; exact h0 _ (List.getElem_mem hi)
 ·have hm : (fp ++ rest).getD i z48 ∈ rest := by
   rw [List.getD_eq_getElem?_getD, List.getElem?_append_right hi]
   have : i - fp.length < rest.length := by simp at hl; omega
   rw [List.getElem?_eq_getElem this]
   exact List.getElem_mem _
  exact h1 _ hm
theorem split_at (a : Int) (l : List Sp) : ∀ lo, Canon lo l → ∃ fp rest, l = fp ++ rest ∧ (∀ x ∈ fp, x.f1 ≤ a) ∧ ∀ x ∈ rest, a < x.f1 := by
 induction l with
 | nil => intro lo _; exact ⟨[], [], rfl, by simp, by simp⟩
 | cons x l ih =>
  intro lo hc
  obtain ⟨c1, c2, c3, c4⟩ := hc
  by_cases h : x.f1 ≤ a
  ·obtain ⟨fp, rest, e, h0, h1⟩ := ih x.f1 c4
   exact ⟨x :: fp, rest, by rw [e]; rfl, fun y hy => (List.mem_cons.1 hy).elim (fun e => e ▸ h) (h0 y), h1⟩
  ·refine ⟨[], x :: l, rfl, by simp, fun y hy => ?_⟩
   rcases List.mem_cons.1 hy with rfl | hy
   ·omega
   ·have := canon_behind c4 y hy; omega
theorem holds_same (fr : List Sp) (s : Sp) (hfl : fr.length < 1000) (cf : Canon (-1) fr) (hs : goodS s = true) :
  ∃ b : Bool, (b = true ↔ ∀ z, s.f0 ≤ z → z < s.f1 → InS fr z) ∧ ranges_Set_Holds.f fr s.f0 s.f1 = some b ∧ Ev (fun k => mandolineref02_Holds.f k fr s.f0 s.f1) b := by
 obtain ⟨g0, g1, g2⟩ := goodS_iff.1 hs
 obtain ⟨r, r1, r2, r3⟩ := rLess_f [s] fr (by simp; omega)
 have hin : ∀ z, inB [s] z = true ↔ s.f0 ≤ z ∧ z < s.f1 := by
  intro z; rw [inB_iff, List.filter_cons_of_pos hs]; simp [InS]
 have hb : ((r.length : Int) == 0) = true ↔ ∀ z, s.f0 ≤ z → z < s.f1 → InS fr z := by
  rw [beq_iff_eq]
  constructor
  ·intro h z h1 h2
   have hr : r = [] := List.length_eq_zero_iff.1 (by omega)
   refine Classical.byContradiction fun hn => ?_
   have := (r3 z).2 ⟨(hin z).2 ⟨h1, h2⟩, fun h => hn ((inB_canon (canon_good cf (Int.le_refl _)) z).1 h)⟩
   rw [hr] at this; exact inS_nil z this
  ·intro h
   have hr : r = [] := nil_of r2 fun z hz => by
    obtain ⟨h1, h2⟩ := (r3 z).1 hz
    obtain ⟨h3, h4⟩ := (hin z).1 h1
    exact h2 ((inB_canon (canon_good cf (Int.le_refl _)) z).2 (h z h3 h4))
   rw [hr]; rfl
 refine ⟨_, hb, ?_, ?_⟩
 ·obtain ⟨fp, rest, e, h0, h1⟩ := split_at s.f0 fr (-1) cf
  unfold ranges_Set_Holds.f ranges_Set_from.f
  rw [right_f, decide_eq_true (by omega)]
  simp only [Option.bind_some, if_true]
  rw [if_neg (by omega), if_pos (by omega)]
  simp only [Option.bind_some]
  rw [e, bsFrom_split h0 h1]
  cases rest with
  | nil =>
   rw [if_neg (by simp)]
   congr 1
   refine (Bool.eq_false_iff.2 fun h => ?_).symm
   obtain ⟨x, hx, x1, x2⟩ := hb.1 h s.f0 (Int.le_refl _) g1
   rw [e, List.append_nil] at hx
   have := h0 x hx; omega
  | cons b fs =>
   rw [if_pos (by simp; omega), if_pos (by omega), rdS_at]
   have hbm : b ∈ fr := by rw [e]; simp
   have hbb := canon_behind cf b hbm
   unfold top at hbb
   have hab := h1 b (List.mem_cons_self ..)
   unfold span_Within.f
   rw [right_f, right_f, decide_eq_true (by omega), decide_eq_true (by omega)]
   simp only [Option.bind_some, if_true]
   rw [if_neg (by omega)]
   by_cases h2 : b.f0 ≤ s.f0
   ·rw [if_pos h2]
    simp only [Option.bind_some]
    congr 1
    by_cases h3 : s.f1 ≤ b.f1
    ·rw [decide_eq_true h3]
     exact (hb.2 fun z z1 z2 => ⟨b, hbm, by omega, by omega⟩).symm
    ·rw [decide_eq_false h3]
     refine (Bool.eq_false_iff.2 fun h => ?_).symm
     have := hb.1 h b.f1 (by omega) (by omega)
     rw [e] at this
     exact canon_gap (by rw [← e]; exact cf) this
   ·rw [if_neg h2]
    simp only [Option.bind_some]
    congr 1
    refine (Bool.eq_false_iff.2 fun h => ?_).symm
    obtain ⟨x, hx, x1, x2⟩ := hb.1 h s.f0 (Int.le_refl _) g1
    rw [e] at hx
    rcases List.mem_append.1 hx with hx | hx
    ·have := h0 x hx; omega
    ·rcases List.mem_cons.1 hx with rfl | hx
     ·omega
     ·have hc := (canon_append.1 (by rw [← e]; exact cf : Canon (-1) (fp ++ b :: fs))).2
      have := canon_behind hc.2.2.2 x hx; omega
 ·refine Ev.congr (g := fun k => (mandolineref02_Less.f k [s] fr).bind fun t => some ((t.length : Int) == 0)) (fun k => ?_) (Ev.bind (f := fun k => mandolineref02_Less.f k [s] fr) (g := fun k t => some ((t.length : Int) == 0)) r1 (Ev.all fun k => rfl))
  unfold mandolineref02_Holds.f
  have hr : rightB s = true := rightB_iff.2 (by omega)
  rw [right01_f, hr]; rfl
/-- Is a span one of whole units of an object, not empty? -/
theorem whole_same (s : Sp) (len u : Int) (hu : 4 ≤ u) (hl0 : -1 ≤ len) (hl1 : len ≤ 1099511627776) : ∃ b : Bool, (b = true → goodS s = true ∧ Int.tmod s.f0 u = 0 ∧ s.f1 ≤ endL len ∧ (s.f1 = endL len ∨ Int.tmod s.f1 u = 0)) ∧
  plan_whole.f s.f0 s.f1 0 (endL len) u = some b ∧ mandolineref35_whole.f s.f0 s.f1 len u = some b := by
 have hend : mandolineref35_end.f len = some (endL len) := by unfold mandolineref35_end.f endL; split <;> rfl
 unfold plan_whole.f mandolineref35_whole.f
 rw [right_f, right01_f]
 by_cases hr : (0 ≤ s.f0 ∧ s.f0 ≤ s.f1 ∧ s.f1 ≤ 4611686018427387904)
 ·have hrb : rightB s = true := rightB_iff.2 hr
  rw [decide_eq_true hr, hrb]
  simp only [Option.bind_some, if_true]
  by_cases h1 : s.f0 < s.f1
  ·rw [if_pos h1, if_neg (show ¬ s.f0 ≥ s.f1 by omega), if_neg (show ¬ u = 0 by omega), if_neg (show ¬ u = 0 by omega)]
   by_cases h2 : Int.tmod s.f0 u = 0
   ·rw [if_pos h2, if_pos h2, hend]
    simp only [Option.bind_some]
    by_cases h3 : s.f1 ≤ endL len
    ·rw [if_pos h3, if_neg (show ¬ s.f1 > endL len by omega)]
     by_cases h4 : s.f1 = endL len
     ·rw [if_pos h4]
      refine ⟨true, fun _ => ⟨goodS_iff.2 ⟨hr.1, h1, hr.2.2⟩, h2, h3, .inl h4⟩, rfl, ?_⟩
      by_cases h5 : s.f1 = 4611686018427387904
      ·rw [if_pos h5]
      ·rw [if_neg h5]
       by_cases h6 : Int.tmod s.f1 u = 0
       ·rw [if_pos h6]
       ·rw [if_neg h6]
        congr 1
        rw [beq_iff_eq]
        unfold endL at h4; split at h4 <;> omega
     ·rw [if_neg h4]
      have h5 : ¬ s.f1 = 4611686018427387904 := by intro h5; unfold endL at h3 h4; split at h3 <;> split at h4 <;> omega
      rw [if_neg h5]
      by_cases h6 : Int.tmod s.f1 u = 0
      ·rw [if_pos h6]
       exact ⟨true, fun _ => ⟨goodS_iff.2 ⟨hr.1, h1, hr.2.2⟩, h2, h3, .inr h6⟩, by rw [h6]; rfl, rfl⟩
      ·rw [if_neg h6]
       refine ⟨false, by simp, by congr 1; rw [beq_eq_false_iff_ne]; exact h6, ?_⟩
       congr 1
       rw [beq_eq_false_iff_ne]
       intro h7
       unfold endL at h4 h3; split at h4 <;> omega
    ·rw [if_neg h3, if_pos (show s.f1 > endL len by omega)]
     exact ⟨false, by simp, rfl, rfl⟩
   ·rw [if_neg h2, if_neg h2]
    exact ⟨false, by simp, by split <;> rfl, rfl⟩
  ·rw [if_neg h1, if_pos (show s.f0 ≥ s.f1 by omega)]
   exact ⟨false, by simp, rfl, rfl⟩
 ·have hrb : rightB s = false := Bool.eq_false_iff.2 fun h => hr (rightB_iff.1 h)
  rw [decide_eq_false hr, hrb]
  exact ⟨false, by simp, rfl, rfl⟩
end Go.Proofs.Ytnaalaakhdbfbaa.XP
