-- Go functions of this seat as plain functions, and proofs that the code comes to these answers: written by a program (wip/tools/xprint.py over the kit's print).
import Derived.Test.YtnaalaakhdbfbaaV2XP0
import Derived.Test.YtnaalaakhdbfbaaV2XP2
import Derived.Test.YtnaalaakhdbfbaaV2XP3
import Derived.Test.YtnaalaakhdbfbaaV2XP7
import Derived.Test.YtnaalaakhdbfbaaV2XP11
import Derived.Test.YtnaalaakhdbfbaaV2XP12
import Derived.Test.YtnaalaakhdbfbaaV2XP16
import Derived.Test.YtnaalaakhdbfbaaV2XP21
import Derived.Test.YtnaalaakhdbfbaaV2XP28
namespace Go.Proofs.Ytnaalaakhdbfbaa.XP
open Go.RowKit Go.Proofs.YtnaalaakhdbfbaaW.PrintWords Go.Proofs.YtnaalaakhdbfbaaW.PrintLast Go.Proofs.YtnaalaakhdbfbaaW.PrintMore
attribute [local go_sem] max2_int min2_int max_two min_two max_three min_three max_four min_four   -- for this text's walks alone
set_option linter.unusedVariables false
set_option linter.unusedSimpArgs false

/-! ### mandolinelaw35_PlanErrors: function 8 -/
def mandolinelaw35_PlanErrors.j0 : Nat → Int → Bool → Int → Int → Int → Int → Int → Int → Int → Int → Int → Int → Int → Int → Option (Bool)
 | 0, _, _, _, _, _, _, _, _, _, _, _, _, _, _ => none
 | k + 1, x0, x47, x696000, x696001, x696002, x696003, x696004, x696005, x696006, x696007, x696008, x696009, x697000, x697001 => if x47 = true then (some false) else ((ranges_Of.f k (([(⟨x697000, x697001⟩ : S48)] : List (S48)))).bind fun t712 => ((plan_Units.f k t712 x0 x696000).bind fun t715 => ((ranges_Set_Spans.f t715).bind fun t719 => ((mandolineref02_Of.f k (([(⟨x697000, x697001⟩ : S48)] : List (S48)))).bind fun t725 => ((mandolineref35_Units.f k t725 x0 x696000).bind fun t728 => ((mandolineref02_List.f k t719 t728).bind fun t731 => (some t731)))))))
def mandolinelaw35_PlanErrors.f (k : Nat) (a0 : Int) (a1_0 : Int) (a1_1 : Int) (a1_2 : Int) (a1_3 : Int) (a1_4 : Int) (a1_5 : Int) (a1_6 : Int) (a1_7 : Int) (a1_8 : Int) (a1_9 : Int) (a2_0 : Int) (a2_1 : Int) : Option (Bool) := (mandolinelaw35_alive.f k).bind fun t697 => (if t697 = true then ((plan_Plan.f k ([] : List (S48)) ([] : List (S48)) a0 a1_0 a1_1 a1_2 a1_3 a1_4 a1_5 a1_6 a1_7 a1_8 a1_9).bind fun bt700 => ((mandolineref35_Plan.f k ([] : List (S48)) ([] : List (S48)) a0 a1_0 a1_1 a1_2 a1_3 a1_4 a1_5 a1_6 a1_7 a1_8 a1_9).bind fun bt704 => (if bt700.2 = bt704.2 then (if (bt700.1.length : Int) = 0 then ((plan_Right.f k ([] : List (S48)) ([] : List (S48)) ([] : List (S48)) a0 a1_0 a1_1 a1_2 a1_3 a1_4 a1_5 a1_6 a1_7 a1_8 a1_9).bind fun t708 => (mandolinelaw35_PlanErrors.j0 k a0 (t708 != (bt704.2 == 0)) a1_0 a1_1 a1_2 a1_3 a1_4 a1_5 a1_6 a1_7 a1_8 a1_9 a2_0 a2_1)) else (mandolinelaw35_PlanErrors.j0 k a0 true a1_0 a1_1 a1_2 a1_3 a1_4 a1_5 a1_6 a1_7 a1_8 a1_9 a2_0 a2_1)) else (mandolinelaw35_PlanErrors.j0 k a0 true a1_0 a1_1 a1_2 a1_3 a1_4 a1_5 a1_6 a1_7 a1_8 a1_9 a2_0 a2_1)))) else (some false))
def mandolinelaw35_PlanErrors.T8 : Bool × List (List Nat × List Nat) := (true, [([], []), ([0], [0]), ([1], [1]), ([], []), ([], []), ([4], [4]), ([2, 3, 5, 2], [2, 3, 5]), ([], []), ([7, 6, 6, 0, 1, 2, 3, 4, 5, 6, 7], [6, 7])])
def mandolinelaw35_PlanErrors.B8 : List Nat := [0, 1, 3, 0, 0, 16, 63, 0, 255]
theorem mandolinelaw35_PlanErrors.tab8 : rtab .any (opsOf Try.f8 8) = mandolinelaw35_PlanErrors.T8 := by kernel_rfl
theorem mandolinelaw35_PlanErrors.bits8 : waitsOk mandolinelaw35_PlanErrors.T8.2 mandolinelaw35_PlanErrors.B8 = true := by kernel_rfl
def mandolinelaw35_PlanErrors.T9 : Bool × List (List Nat × List Nat) := (true, [([], []), ([0], [0]), ([], []), ([2], [2]), ([3, 1], [3]), ([], []), ([], []), ([6], [6]), ([4, 5, 7, 4], [4, 5, 7]), ([1, 8, 8], [1, 8]), ([9, 9, 0, 1, 2, 3, 4, 5, 6, 7, 8, 9], [9])])
def mandolinelaw35_PlanErrors.B9 : List Nat := [0, 1, 0, 4, 15, 0, 0, 64, 255, 511, 1023]
theorem mandolinelaw35_PlanErrors.tab9 : rtab .any (opsOf Try.f8 9) = mandolinelaw35_PlanErrors.T9 := by kernel_rfl
theorem mandolinelaw35_PlanErrors.bits9 : waitsOk mandolinelaw35_PlanErrors.T9.2 mandolinelaw35_PlanErrors.B9 = true := by kernel_rfl
set_option maxHeartbeats 8000000 in
set_option maxRecDepth 100000 in
theorem mandolinelaw35_PlanErrors.calls (k : Nat) (a0 : Int) (a1_0 : Int) (a1_1 : Int) (a1_2 : Int) (a1_3 : Int) (a1_4 : Int) (a1_5 : Int) (a1_6 : Int) (a1_7 : Int) (a1_8 : Int) (a1_9 : Int) (a2_0 : Int) (a2_1 : Int) (r : Bool) (w : World) (h : mandolinelaw35_PlanErrors.f k a0 a1_0 a1_1 a1_2 a1_3 a1_4 a1_5 a1_6 a1_7 a1_8 a1_9 a2_0 a2_1 = some r) :
  Calls Try.prog 8 #[.int .i64 a0, .agg #[.int .i64 a1_0, .int .i64 a1_1, .int .i64 a1_2, .int .i64 a1_3, .int .i64 a1_4, .int .i64 a1_5, .int .i64 a1_6, .int .i64 a1_7, .int .i64 a1_8, .int .i64 a1_9], .agg #[.int .i64 a2_0, .int .i64 a2_1]] w fun e w' => e = .returned (.bool r) ∧ Below w.heap.size w w' := by
 have hu24 := Try.underlying24
 have hu48 := Try.underlying48
 have hu30 := Try.underlying30
 have HB := Aside0.mk (Below.refl w.heap.size w)
 unfold mandolinelaw35_PlanErrors.f at h
 have H := h
 clear h
 obtain ⟨t697, A4, H⟩ := bO H
 by_cases c5 : t697 = true
 ·subst c5
  rw [if_pos rfl] at H
  replace H := Option.bind_eq_some_iff.mp H
  obtain ⟨⟨t700, t703⟩, A60, H⟩ := H
  dsimp only at H
  have A6 := Aside0.mk A60
  clear A60
  replace H := Option.bind_eq_some_iff.mp H
  obtain ⟨⟨t704, t707⟩, A70, H⟩ := H
  dsimp only at H
  have A7 := Aside0.mk A70
  clear A70
  have HC8 := Aside0.mk H
  clear H
  go_enter Try.func8, Try.ntmps8
  go_upto_region 6 with (first | ((with_reducible refine gate_dst (N := 4) rfl ?_); (try (refine gate_guard (by rfl) ?_; dsimp only)); refine bX (N := 4) (cs := #[.int .i64 a1_0, .int .i64 a1_1, .int .i64 a1_2, .int .i64 a1_3, .int .i64 a1_4, .int .i64 a1_5, .int .i64 a1_6, .int .i64 a1_7, .int .i64 a1_8, .int .i64 a1_9]) (t := 24) ?_; intro gb695 hg w9 hbox hb; have BK695 := Aside0.mk (hbox); have GE695 := sG HB hg; replace HB := sL HB hb; clear hb hbox hg) | ((with_reducible refine gate_dst (N := 5) rfl ?_); (try (refine gate_guard (by rfl) ?_; dsimp only)); refine bX (N := 5) (cs := #[.int .i64 a2_0, .int .i64 a2_1]) (t := 48) ?_; intro gb696 hg w10 hbox hb; have BK696 := Aside0.mk (hbox); have GE696 := sG HB hg; have NB695_696 := sN BK695 hg; have NB696_695 := sM BK695 hg; replace BK695 := sB BK695 hb; replace HB := sL HB hb; clear hb hbox hg) | ((with_reducible refine gate_callee (f := 10) rfl ?_); refine gL (some 14) rfl rfl Try.func10 #[] rfl ?_; (with_reducible refine (mandolinelaw35_alive.calls k  true _ A4.out).mono ?_); rintro e w11 ⟨rfl, hb⟩; refine ⟨_, rfl, ?_⟩; replace BK695 := sB BK695 hb; replace BK696 := sB BK696 hb; replace HB := sL HB hb; (try clear hb); (try clear hb2); (try clear hk); (try clear hi)) | ((with_reducible refine gate_dst (N := 7) rfl ?_); (try (refine gate_guard (by rfl) ?_; dsimp only)); refine bX (N := 7) (cs := #[.slice none 0 0]) (t := 30) ?_; intro gb698 hg w12 hbox hb; have BK698 := Aside0.mk (hbox); have GE698 := sG HB hg; have NB695_698 := sN BK695 hg; have NB698_695 := sM BK695 hg; have NB696_698 := sN BK696 hg; have NB698_696 := sM BK696 hg; replace BK695 := sB BK695 hb; replace BK696 := sB BK696 hb; replace HB := sL HB hb; clear hb hbox hg) | ((with_reducible refine gate_dst (N := 8) rfl ?_); (try (refine gate_guard (by rfl) ?_; dsimp only)); refine bX (N := 8) (cs := #[.slice none 0 0]) (t := 30) ?_; intro gb699 hg w13 hbox hb; have BK699 := Aside0.mk (hbox); have GE699 := sG HB hg; have NB695_699 := sN BK695 hg; have NB699_695 := sM BK695 hg; have NB696_699 := sN BK696 hg; have NB699_696 := sM BK696 hg; have NB698_699 := sN BK698 hg; have NB699_698 := sM BK698 hg; replace BK695 := sB BK695 hb; replace BK696 := sB BK696 hb; replace BK698 := sB BK698 hb; replace HB := sL HB hb; clear hb hbox hg; have hnb14 := NB698_695.out; have hnc14 := NB695_698.out; have hnb15 := NB698_696.out; have hnc15 := NB696_698.out; have hnb16 := NB698_699.out; have hnc16 := NB699_698.out; have hcz17_0 := q1 BK698; have hfz17_0 := blk_frozen BK698.out 0; have hnb18 := NB699_695.out; have hnc18 := NB695_699.out; have hnb19 := NB699_696.out; have hnc19 := NB696_699.out; have hcz20_0 := q1 BK699; have hfz20_0 := blk_frozen BK699.out 0; have hnb21 := NB695_696.out; have hnc21 := NB696_695.out; obtain ⟨hcz22_0, hcz22_1, hcz22_2, hcz22_3, hcz22_4, hcz22_5, hcz22_6, hcz22_7, hcz22_8, hcz22_9⟩ := q10 BK695; obtain ⟨hfz22_0, hfz22_1, hfz22_2, hfz22_3, hfz22_4, hfz22_5, hfz22_6, hfz22_7, hfz22_8, hfz22_9⟩ := z10 BK695) | ((with_reducible refine gate_callee (f := 13) rfl ?_); refine gL (some 21) rfl rfl Try.func13 #[.agg #[.slice none 0 0], .agg #[.slice none 0 0], .int .i64 a0, .agg #[.int .i64 a1_0, .int .i64 a1_1, .int .i64 a1_2, .int .i64 a1_3, .int .i64 a1_4, .int .i64 a1_5, .int .i64 a1_6, .int .i64 a1_7, .int .i64 a1_8, .int .i64 a1_9]] rfl ?_; (refine (plan_Plan.calls k _ _ ([] : List (S48)) _ _ ([] : List (S48)) a0 a1_0 a1_1 a1_2 a1_3 a1_4 a1_5 a1_6 a1_7 a1_8 a1_9 t700 t703 _ (Kd.C_nil _ _) (Nat.le_refl _) (Kd.C_nil _ _) (Nat.le_refl _) A6.out).mono ?_); rintro e w23 ⟨v701, rfl, ho0, hb⟩; refine ⟨_, rfl, ?_⟩; have HO702 := Aside0.mk (Kd.R_lower (Kd.R_newB ho0 (g := gb696) (o := .cells #[.int .i64 a2_0, .int .i64 a2_1] 48 (0, 0)) (bU BK696)) (below_size (lU HB))); replace BK695 := sB BK695 hb; replace BK696 := sB BK696 hb; replace BK698 := sB BK698 hb; replace BK699 := sB BK699 hb; replace HB := sL HB hb; (try clear hb); (try clear hb2); (try clear hk); (try clear hi); (try clear ho0); obtain ⟨hcz24_0, hcz24_1, hcz24_2, hcz24_3, hcz24_4, hcz24_5, hcz24_6, hcz24_7, hcz24_8, hcz24_9⟩ := q10 BK695; obtain ⟨hfz24_0, hfz24_1, hfz24_2, hfz24_3, hfz24_4, hfz24_5, hfz24_6, hfz24_7, hfz24_8, hfz24_9⟩ := z10 BK695) | ((with_reducible refine gate_callee (f := 14) rfl ?_); refine gL (some 27) rfl rfl Try.func14 #[.slice none 0 0, .slice none 0 0, .int .i64 a0, .agg #[.int .i64 a1_0, .int .i64 a1_1, .int .i64 a1_2, .int .i64 a1_3, .int .i64 a1_4, .int .i64 a1_5, .int .i64 a1_6, .int .i64 a1_7, .int .i64 a1_8, .int .i64 a1_9]] rfl ?_; (refine (mandolineref35_Plan.calls k _ _ ([] : List (S48)) _ _ ([] : List (S48)) a0 a1_0 a1_1 a1_2 a1_3 a1_4 a1_5 a1_6 a1_7 a1_8 a1_9 t704 t707 _ (Kd.C_nil _ _) (Nat.le_refl _) (Kd.C_nil _ _) (Nat.le_refl _) A7.out).mono ?_); rintro e w25 ⟨v705, rfl, ho0, hb⟩; refine ⟨_, rfl, ?_⟩; have HO706 := Aside0.mk (Kd.R_lower (Kd.R_newB (Kd.R_new' ho0 (Kd.R_lt (rU HO702.out))) (g := gb696) (o := .cells #[.int .i64 a2_0, .int .i64 a2_1] 48 (0, 0)) (bU BK696)) (below_size (lU HB))); replace HO702 := rE HO702 ho0 hb; replace BK695 := sB BK695 hb; replace BK696 := sB BK696 hb; replace BK698 := sB BK698 hb; replace BK699 := sB BK699 hb; replace HB := sL HB hb; (try clear hb); (try clear hb2); (try clear hk); (try clear hi); (try clear ho0)))
  (try simp only [Act.put, List.setIfInBounds_toArray, List.set_cons_zero, List.set_cons_succ])
  go_cut [47] (fun v47 wc => ∃ (kq : Nat) (x47_7 : Bool), v47 = .bool x47_7 ∧ Aside0 (mandolinelaw35_PlanErrors.j0 kq a0 x47_7 a1_0 a1_1 a1_2 a1_3 a1_4 a1_5 a1_6 a1_7 a1_8 a1_9 a2_0 a2_1 = some r) ∧ Aside0 (kq ≤ k) ∧ Aside0 (wc.heap[gb695]? = some (.cells #[.int .i64 a1_0, .int .i64 a1_1, .int .i64 a1_2, .int .i64 a1_3, .int .i64 a1_4, .int .i64 a1_5, .int .i64 a1_6, .int .i64 a1_7, .int .i64 a1_8, .int .i64 a1_9] 24 (0, 0))) ∧ Aside0 (wc.heap[gb696]? = some (.cells #[.int .i64 a2_0, .int .i64 a2_1] 48 (0, 0))) ∧ Aside0 (wc.heap[gb698]? = some (.cells #[(.slice none 0 0)] 30 (0, 0))) ∧ Aside0 (wc.heap[gb699]? = some (.cells #[(.slice none 0 0)] 30 (0, 0))) ∧ Aside0 (Below w.heap.size w wc))
  case first =>
   have H := HC8.out
   clear HC8
   by_cases c26 : t703 = t707
   ·rw [if_pos c26] at H
    have c26b0 : (t703 == t707) = true := beq_iff_eq.mpr c26
    have c26b1 : (t703 != t707) = false := bne_eq_false_iff_eq.mpr c26
    clear c26
    (first | rw [c26b0] | (simp only [i64_w, i32_w]; rw [c26b0]) | skip)
    by_cases c27 : (t700.length : Int) = 0
    ·rw [if_pos c27] at H
     have c27b0 : ((t700.length : Int) == 0) = true := beq_iff_eq.mpr c27
     have c27b1 : ((t700.length : Int) != 0) = false := bne_eq_false_iff_eq.mpr c27
     clear c27
     obtain ⟨t708, A28, H⟩ := bO H
     have H' := Aside0.mk H
     clear H
     obtain ⟨Ao29, co29, eo29⟩ := Kd.R_slice HO702.out
     subst eo29
     have hnb30 := NB698_695.out
     have hnc30 := NB695_698.out
     have hnb31 := NB698_696.out
     have hnc31 := NB696_698.out
     have hnb32 := NB698_699.out
     have hnc32 := NB699_698.out
     have hcz33_0 := q1 BK698
     have hfz33_0 := blk_frozen BK698.out 0
     have hnb34 := NB699_695.out
     have hnc34 := NB695_699.out
     have hnb35 := NB699_696.out
     have hnc35 := NB696_699.out
     have hcz36_0 := q1 BK699
     have hfz36_0 := blk_frozen BK699.out 0
     have hnb37 := NB695_696.out
     have hnc37 := NB696_695.out
     obtain ⟨hcz38_0, hcz38_1, hcz38_2, hcz38_3, hcz38_4, hcz38_5, hcz38_6, hcz38_7, hcz38_8, hcz38_9⟩ := q10 BK695
     obtain ⟨hfz38_0, hfz38_1, hfz38_2, hfz38_3, hfz38_4, hfz38_5, hfz38_6, hfz38_7, hfz38_8, hfz38_9⟩ := z10 BK695
     go_wp2_with (first | (go_at_call 29; (refine (plan_Right.calls k _ _ ([] : List (S48)) _ _ ([] : List (S48)) _ _ ([] : List (S48)) a0 a1_0 a1_1 a1_2 a1_3 a1_4 a1_5 a1_6 a1_7 a1_8 a1_9 t708 _ (Kd.C_nil _ _) (Nat.le_refl _) (Kd.C_nil _ _) (Nat.le_refl _) (Kd.C_nil _ _) (Nat.le_refl _) A28.out).mono ?_); rintro e w39 ⟨rfl, hb⟩; replace HO702 := rB HO702 hb; replace HO706 := rB HO706 hb; replace BK695 := sB BK695 hb; replace BK696 := sB BK696 hb; replace BK698 := sB BK698 hb; replace BK699 := sB BK699 hb; replace HB := sL HB hb; (try clear hb); (try clear hb2); (try clear hk); (try clear hi)))
     go_meet
     case rel => exact ⟨_, ((t708 != (t707 == 0))), eR, H', ⟨by first | omega | exact Nat.le_refl _⟩, ⟨bU BK695⟩, ⟨bU BK696⟩, ⟨bU BK698⟩, ⟨bU BK699⟩, ⟨lU HB⟩⟩
    ·rw [if_neg c27] at H
     have c27b0 : ((t700.length : Int) == 0) = false := beq_eq_false_iff_ne.mpr c27
     have c27b1 : ((t700.length : Int) != 0) = true := bne_iff_ne.mpr c27
     have c27b2 : ¬ (t700 = []) := fun h_ => c27 (by rw [h_]; rfl)
     have H' := Aside0.mk H
     clear H
     obtain ⟨Ao40, co40, eo40⟩ := Kd.R_slice HO702.out
     subst eo40
     go_wp2
     go_meet
     case rel => exact ⟨_, (true), eR, H', ⟨by first | omega | exact Nat.le_refl _⟩, ⟨bU BK695⟩, ⟨bU BK696⟩, ⟨bU BK698⟩, ⟨bU BK699⟩, ⟨lU HB⟩⟩
   ·rw [if_neg c26] at H
    have c26b0 : (t703 == t707) = false := beq_eq_false_iff_ne.mpr c26
    have c26b1 : (t703 != t707) = true := bne_iff_ne.mpr c26
    (first | rw [c26b0] | (simp only [i64_w, i32_w]; rw [c26b0]) | skip)
    have H' := Aside0.mk H
    clear H
    go_wp2
    go_meet
    case rel => exact ⟨_, (true), eR, H', ⟨by first | omega | exact Nat.le_refl _⟩, ⟨bU BK695⟩, ⟨bU BK696⟩, ⟨bU BK698⟩, ⟨bU BK699⟩, ⟨lU HB⟩⟩
  case rest =>
   clear HC8
   try clear c1
   try clear c2
   try clear p2
   try clear c3
   try clear c5
   try clear c8
   try clear c10
   try clear c13
   try clear c14
   try clear c15
   try clear c16
   try clear c18
   try clear c19
   try clear c21
   try clear c26
   try clear c26b0
   try clear c26b1
   try clear c27
   try clear c27b0
   try clear c27b1
   try clear c27b2
   try clear c30
   try clear c31
   try clear c32
   try clear c34
   try clear c35
   try clear c37
   try clear hcz17_0
   try clear hcz20_0
   try clear hcz22_0
   try clear hcz22_1
   try clear hcz22_2
   try clear hcz22_3
   try clear hcz22_4
   try clear hcz22_5
   try clear hcz22_6
   try clear hcz22_7
   try clear hcz22_8
   try clear hcz22_9
   try clear hcz24_0
   try clear hcz24_1
   try clear hcz24_2
   try clear hcz24_3
   try clear hcz24_4
   try clear hcz24_5
   try clear hcz24_6
   try clear hcz24_7
   try clear hcz24_8
   try clear hcz24_9
   try clear hcz33_0
   try clear hcz36_0
   try clear hcz38_0
   try clear hcz38_1
   try clear hcz38_2
   try clear hcz38_3
   try clear hcz38_4
   try clear hcz38_5
   try clear hcz38_6
   try clear hcz38_7
   try clear hcz38_8
   try clear hcz38_9
   try clear hfz17_0
   try clear hfz20_0
   try clear hfz22_0
   try clear hfz22_1
   try clear hfz22_2
   try clear hfz22_3
   try clear hfz22_4
   try clear hfz22_5
   try clear hfz22_6
   try clear hfz22_7
   try clear hfz22_8
   try clear hfz22_9
   try clear hfz24_0
   try clear hfz24_1
   try clear hfz24_2
   try clear hfz24_3
   try clear hfz24_4
   try clear hfz24_5
   try clear hfz24_6
   try clear hfz24_7
   try clear hfz24_8
   try clear hfz24_9
   try clear hfz33_0
   try clear hfz36_0
   try clear hfz38_0
   try clear hfz38_1
   try clear hfz38_2
   try clear hfz38_3
   try clear hfz38_4
   try clear hfz38_5
   try clear hfz38_6
   try clear hfz38_7
   try clear hfz38_8
   try clear hfz38_9
   obtain ⟨kq, x47_7, rfl, HA, HJ7, BK695, BK696, BK698, BK699, HB⟩ := hcut
   cases kq with
   | zero => exact absurd HA.out (by simp [mandolinelaw35_PlanErrors.j0])
   | succ kj7 =>
    have H := HA.out
    clear HA
    simp only [mandolinelaw35_PlanErrors.j0] at H
    by_cases c41 : x47_7 = true
    ·subst c41
     rw [if_pos rfl] at H
     obtain rfl := Option.some.inj H
     go_wp2
     go_ret
     exact ⟨eW, lU HB⟩
    ·replace c41 := Bool.eq_false_iff.mpr c41
     subst c41
     rw [if_neg (show ¬ (false = true) by decide)] at H
     obtain ⟨y709, hy709⟩ : ∃ y_ : List (S48), y_ = (([(⟨a2_0, a2_1⟩ : S48)] : List (S48))) := ⟨_, rfl⟩
     replace H : ((ranges_Of.f kj7 y709).bind fun t712 => ((plan_Units.f kj7 t712 a0 a1_0).bind fun t715 => ((ranges_Set_Spans.f t715).bind fun t719 => ((mandolineref02_Of.f kj7 (([(⟨a2_0, a2_1⟩ : S48)] : List (S48)))).bind fun t725 => ((mandolineref35_Units.f kj7 t725 a0 a1_0).bind fun t728 => ((mandolineref02_List.f kj7 t719 t728).bind fun t731 => (some t731))))))) = some r := by first | (rw [hy709]; with_reducible exact H) | (have H2_ := (Option.bind_some _ _).symm.trans H; rw [hy709]; with_reducible exact H2_) | (have H2_ := (Option.bind_some _ _).symm.trans H; with_reducible exact H2_) | with_reducible exact H | (rw [hy709]; exact H) | exact H
     have Ny709 := Aside0.mk hy709
     clear hy709
     obtain ⟨t712, A42, H⟩ := bO H
     obtain ⟨t715, A43, H⟩ := bO H
     obtain ⟨t719, A44, H⟩ := bO H
     obtain ⟨y722, hy722⟩ : ∃ y_ : List (S48), y_ = (([(⟨a2_0, a2_1⟩ : S48)] : List (S48))) := ⟨_, rfl⟩
     replace H : ((mandolineref02_Of.f kj7 y722).bind fun t725 => ((mandolineref35_Units.f kj7 t725 a0 a1_0).bind fun t728 => ((mandolineref02_List.f kj7 t719 t728).bind fun t731 => (some t731)))) = some r := by first | (rw [hy722]; with_reducible exact H) | (have H2_ := (Option.bind_some _ _).symm.trans H; rw [hy722]; with_reducible exact H2_) | (have H2_ := (Option.bind_some _ _).symm.trans H; with_reducible exact H2_) | with_reducible exact H | (rw [hy722]; exact H) | exact H
     have Ny722 := Aside0.mk hy722
     clear hy722
     obtain ⟨t725, A45, H⟩ := bO H
     obtain ⟨t728, A46, H⟩ := bO H
     obtain ⟨t731, A47, H⟩ := bO H
     obtain rfl := Option.some.inj H
     try go_wp2
     replace BK695 := Aside0.mk (blk_drew BK695.out)
     replace BK696 := Aside0.mk (blk_drew BK696.out)
     replace BK698 := Aside0.mk (blk_drew BK698.out)
     replace BK699 := Aside0.mk (blk_drew BK699.out)
     replace HB := Aside0.mk (below_drew1 HB.out)
     refine start_ (n := 9) (S := fun w' => w'.cell? ⟨gb696, 0, none⟩ = some (.int .i64 a2_0) ∧ w'.cell? ⟨gb696, 1, none⟩ = some (.int .i64 a2_1) ∧ w'.cell? ⟨gb695, 0, none⟩ = some (.int .i64 a1_0) ∧ w'.cell? ⟨gb695, 1, none⟩ = some (.int .i64 a1_1) ∧ w'.cell? ⟨gb695, 2, none⟩ = some (.int .i64 a1_2) ∧ w'.cell? ⟨gb695, 3, none⟩ = some (.int .i64 a1_3) ∧ w'.cell? ⟨gb695, 4, none⟩ = some (.int .i64 a1_4) ∧ w'.cell? ⟨gb695, 5, none⟩ = some (.int .i64 a1_5) ∧ w'.cell? ⟨gb695, 6, none⟩ = some (.int .i64 a1_6) ∧ w'.cell? ⟨gb695, 7, none⟩ = some (.int .i64 a1_7) ∧ w'.cell? ⟨gb695, 8, none⟩ = some (.int .i64 a1_8) ∧ w'.cell? ⟨gb695, 9, none⟩ = some (.int .i64 a1_9)) (ds := []) #[false, false, false, false, false, false, false, false, false] (by kernel_rfl) rfl rfl ⟨(blk_cell BK696.out 0).trans rfl, (blk_cell BK696.out 1).trans rfl, (blk_cell BK695.out 0).trans rfl, (blk_cell BK695.out 1).trans rfl, (blk_cell BK695.out 2).trans rfl, (blk_cell BK695.out 3).trans rfl, (blk_cell BK695.out 4).trans rfl, (blk_cell BK695.out 5).trans rfl, (blk_cell BK695.out 6).trans rfl, (blk_cell BK695.out 7).trans rfl, (blk_cell BK695.out 8).trans rfl, (blk_cell BK695.out 9).trans rfl⟩ (fun hHeld => ?_); refine with_tabW mandolinelaw35_PlanErrors.tab8 mandolinelaw35_PlanErrors.bits8 (fun HT_ HW_ => ?_)
     generalize wc.drew = w48 at BK695 BK696 BK698 BK699 HB hHeld ⊢
     refine pS (i := 3) (N := some 51) (ma 9 8) rfl rfl HT_.out ?_
     refine pS (i := 4) (N := some 52) (ma 9 24) rfl rfl HT_.out ?_
     refine tS (i := 0) (N := some 48) (ma 9 25) rfl rfl HT_.out HW_.out hHeld ?_
     refine tS (i := 5) (N := some 53) (ma 9 57) rfl rfl HT_.out HW_.out hHeld ?_
     refine join_ (σ := Value × Value × Value × Nat) 1 #[true, true, true, true, true, true, true, true, false] (fun s_ => [(49, s_.1), (50, .agg #[s_.2.1]), (54, .agg #[s_.2.2.1]), (13, .pointer (some ⟨s_.2.2.2, 0, none⟩))]) (fun s_ w' => (w'.cell? ⟨gb696, 0, none⟩ = some (.int .i64 a2_0) ∧ w'.cell? ⟨gb696, 1, none⟩ = some (.int .i64 a2_1) ∧ w'.cell? ⟨gb695, 0, none⟩ = some (.int .i64 a1_0) ∧ w'.cell? ⟨gb695, 1, none⟩ = some (.int .i64 a1_1) ∧ w'.cell? ⟨gb695, 2, none⟩ = some (.int .i64 a1_2) ∧ w'.cell? ⟨gb695, 3, none⟩ = some (.int .i64 a1_3) ∧ w'.cell? ⟨gb695, 4, none⟩ = some (.int .i64 a1_4) ∧ w'.cell? ⟨gb695, 5, none⟩ = some (.int .i64 a1_5) ∧ w'.cell? ⟨gb695, 6, none⟩ = some (.int .i64 a1_6) ∧ w'.cell? ⟨gb695, 7, none⟩ = some (.int .i64 a1_7) ∧ w'.cell? ⟨gb695, 8, none⟩ = some (.int .i64 a1_8) ∧ w'.cell? ⟨gb695, 9, none⟩ = some (.int .i64 a1_9)) ∧ (Kd.R k48 48 w' w.heap.size (fun k_ => some k_ ≠ (s_.2.1 : Value).ownBlock ∧ some k_ ≠ (s_.2.2.1 : Value).ownBlock ∧ k_ ≠ gb696) s_.1 y709) ∧ (Kd.R k48 48 w' w.heap.size (fun k_ => some k_ ≠ (s_.1 : Value).ownBlock ∧ some k_ ≠ (s_.2.2.1 : Value).ownBlock ∧ k_ ≠ gb696) s_.2.1 t712) ∧ (Kd.R k48 48 w' w.heap.size (fun k_ => some k_ ≠ (s_.1 : Value).ownBlock ∧ some k_ ≠ (s_.2.1 : Value).ownBlock ∧ k_ ≠ gb696) s_.2.2.1 t715) ∧ (w'.heap[gb695]? = some (.cells #[.int .i64 a1_0, .int .i64 a1_1, .int .i64 a1_2, .int .i64 a1_3, .int .i64 a1_4, .int .i64 a1_5, .int .i64 a1_6, .int .i64 a1_7, .int .i64 a1_8, .int .i64 a1_9] 24 (0, 0))) ∧ (w'.heap[gb696]? = some (.cells #[.int .i64 a2_0, .int .i64 a2_1] 48 (0, 0))) ∧ (w'.heap[gb698]? = some (.cells #[.slice none 0 0] 30 (0, 0))) ∧ (w'.heap[gb699]? = some (.cells #[.slice none 0 0] 30 (0, 0))) ∧ (w'.heap[s_.2.2.2]? = some (.cells #[.slice none 0 0] 30 (0, 0))) ∧ (w.heap.size ≤ s_.2.2.2) ∧ (w.heap.size ≤ s_.2.2.2) ∧ (gb695 ≠ s_.2.2.2) ∧ (s_.2.2.2 ≠ gb695) ∧ (gb696 ≠ s_.2.2.2) ∧ (s_.2.2.2 ≠ gb696) ∧ (gb698 ≠ s_.2.2.2) ∧ (s_.2.2.2 ≠ gb698) ∧ (gb699 ≠ s_.2.2.2) ∧ (s_.2.2.2 ≠ gb699) ∧ (Below w.heap.size w w')) ?_ ?_
     rotate_left
     ·intro hCont
      refine two_ (i := 1) (j := 7) (Ni := some 49) (Nj := some 13) #[true, true, false, true, true, true, false, false, false] #[true, false, false, true, true, true, false, true, false] rfl rfl rfl rfl (two_of HT_.out (by kernel_rfl)) (by decide) (by decide) (fun K hK => ?_) (fun K hK => ?_)
      ·skip
       refine Kd.R_lit_step k48 _ 48 ?hg (N := 49) ?hd (xs := ([(⟨a2_0, a2_1⟩ : S48)] : List (S48))) (inner := [.int .i64 a2_0, .int .i64 a2_1]) (ok := fun _ => True) (okp := fun _ => True) ?hr ?hp (fun _ hk => hk) trivial (Below.refl _ _) (Nat.le_refl _) (by simp) ?_; (case hd => rfl); (case hg => rfl); (case hr => first | (go_simp; done) | (go_simp; rfl)); (case hp => exact (Reps.c2 (show Kd.M k48 _ _ _ (⟨a2_0, a2_1⟩ : S48) [.int .i64 a2_0, .int .i64 a2_1] from (k48_mkM _ _ _ (⟨a2_0, a2_1⟩ : S48) )) (Reps.none _ _)))
       intro v710 w49 ho50 hb hg_ hnew_
       clear hg_ hnew_
       (first | rw [← Ny709.out] at ho50 | (simp only [Int.reduceToNat] at ho50; rw [← Ny709.out] at ho50))
       have HO711 := Aside0.mk (Kd.R_lower (Kd.R_newB ho50 (g := gb696) (o := .cells #[.int .i64 a2_0, .int .i64 a2_1] 48 (0, 0)) (bU BK696)) (below_size (lU HB)))
       replace BK695 := sB BK695 hb
       replace BK696 := sB BK696 hb
       replace BK698 := sB BK698 hb
       replace BK699 := sB BK699 hb
       replace HB := sL HB hb
       clear hb ho50
       obtain ⟨Ao51, co51, eo51⟩ := Kd.R_slice HO711.out
       (first | subst eo51 | (injection eo51 with f1_ f2_ f3_; have f4_ := f1_.symm; have f5_ := f3_.symm; clear f1_ f2_ f3_; subst f4_; subst f5_))
       refine hK.out _ _ ⟨(blk_cell BK696.out 0).trans rfl, (blk_cell BK696.out 1).trans rfl, (blk_cell BK695.out 0).trans rfl, (blk_cell BK695.out 1).trans rfl, (blk_cell BK695.out 2).trans rfl, (blk_cell BK695.out 3).trans rfl, (blk_cell BK695.out 4).trans rfl, (blk_cell BK695.out 5).trans rfl, (blk_cell BK695.out 6).trans rfl, (blk_cell BK695.out 7).trans rfl, (blk_cell BK695.out 8).trans rfl, (blk_cell BK695.out 9).trans rfl⟩ (fun hHeld => ?_)
       clear hK K
       refine nP (some 49) ?_
       refine two_ (i := 2) (j := 7) (Ni := some 50) (Nj := some 13) #[true, true, true, true, true, true, false, false, false] #[true, true, false, true, true, true, false, true, false] rfl rfl rfl rfl (two_of HT_.out (by kernel_rfl)) (by decide) (by decide) (fun K hK => ?_) (fun K hK => ?_)
       ·skip
        refine gO Try.func22 #[.slice Ao51 y709.length co51] rfl rfl ?_
        with_reducible refine (ranges_Of.calls kj7 _ _ y709 t712 _ (cU (rC HO711)) (rN HO711) A42.out).mono ?_
        rintro e w52 ⟨v713, rfl, ho0, hb⟩
        refine ⟨_, rfl, ?_⟩
        have HO714 := Aside0.mk (Kd.R_lower (Kd.R_newB (Kd.R_new' ho0 (Kd.R_lt (rU HO711.out))) (g := gb696) (o := .cells #[.int .i64 a2_0, .int .i64 a2_1] 48 (0, 0)) (bU BK696)) (below_size (lU HB)))
        replace HO711 := rE HO711 ho0 hb
        replace BK695 := sB BK695 hb
        replace BK696 := sB BK696 hb
        replace BK698 := sB BK698 hb
        replace BK699 := sB BK699 hb
        replace HB := sL HB hb
        (try clear hb)
        (try clear hb2)
        (try clear hk)
        (try clear hi)
        (try clear ho0)
        obtain ⟨Ao53, co53, eo53⟩ := Kd.R_slice HO714.out
        (first | subst eo53 | (injection eo53 with f1_ f2_ f3_; have f4_ := f1_.symm; have f5_ := f3_.symm; clear f1_ f2_ f3_; subst f4_; subst f5_))
        refine hK.out _ _ ⟨(blk_cell BK696.out 0).trans rfl, (blk_cell BK696.out 1).trans rfl, (blk_cell BK695.out 0).trans rfl, (blk_cell BK695.out 1).trans rfl, (blk_cell BK695.out 2).trans rfl, (blk_cell BK695.out 3).trans rfl, (blk_cell BK695.out 4).trans rfl, (blk_cell BK695.out 5).trans rfl, (blk_cell BK695.out 6).trans rfl, (blk_cell BK695.out 7).trans rfl, (blk_cell BK695.out 8).trans rfl, (blk_cell BK695.out 9).trans rfl⟩ (fun hHeld => ?_)
        clear hK K
        refine nP (some 50) ?_
        refine two_ (i := 6) (j := 7) (Ni := some 54) (Nj := some 13) #[true, true, true, true, true, true, true, false, false] #[true, true, true, true, true, true, false, true, false] rfl rfl rfl rfl (two_of HT_.out (by kernel_rfl)) (by decide) (by decide) (fun K hK => ?_) (fun K hK => ?_)
        ·skip
         refine gO Try.func20 #[.agg #[.slice Ao53 t712.length co53], .int .i64 a0, .int .i64 a1_0] rfl rfl ?_
         with_reducible refine (plan_Units.calls kj7 _ _ t712 a0 a1_0 t715 _ (cU (rC HO714)) (rN HO714) A43.out).mono ?_
         rintro e w54 ⟨v716, rfl, ho0, hb⟩
         refine ⟨_, rfl, ?_⟩
         have HO717 := Aside0.mk (Kd.R_lower (Kd.R_newB (Kd.R_new' (Kd.R_new' ho0 (Kd.R_lt (rU HO711.out))) (Kd.R_lt (rU HO714.out))) (g := gb696) (o := .cells #[.int .i64 a2_0, .int .i64 a2_1] 48 (0, 0)) (bU BK696)) (below_size (lU HB)))
         replace HO711 := rE HO711 ho0 hb
         replace HO714 := rE HO714 ho0 hb
         replace BK695 := sB BK695 hb
         replace BK696 := sB BK696 hb
         replace BK698 := sB BK698 hb
         replace BK699 := sB BK699 hb
         replace HB := sL HB hb
         (try clear hb)
         (try clear hb2)
         (try clear hk)
         (try clear hi)
         (try clear ho0)
         refine hK.out _ _ ⟨(blk_cell BK696.out 0).trans rfl, (blk_cell BK696.out 1).trans rfl, (blk_cell BK695.out 0).trans rfl, (blk_cell BK695.out 1).trans rfl, (blk_cell BK695.out 2).trans rfl, (blk_cell BK695.out 3).trans rfl, (blk_cell BK695.out 4).trans rfl, (blk_cell BK695.out 5).trans rfl, (blk_cell BK695.out 6).trans rfl, (blk_cell BK695.out 7).trans rfl, (blk_cell BK695.out 8).trans rfl, (blk_cell BK695.out 9).trans rfl⟩ (fun hHeld => ?_)
         clear hK K
         refine nP (some 54) ?_
         refine one_ (i := 7) (N := some 13) (ma 9 255) rfl rfl (one_of HT_.out (by kernel_rfl)) (by decide) (fun K hK => ?_)
         refine bY (N := 13) (cs := #[.slice none 0 0]) (t := 30) ?_
         intro gb718 hg w55 hbox hb
         have BK718 := Aside0.mk (hbox)
         have GW718 := sG HB hg
         have GE718 := sG HB hg
         have NB695_718 := sN BK695 hg
         have NB718_695 := sM BK695 hg
         have NB696_718 := sN BK696 hg
         have NB718_696 := sM BK696 hg
         have NB698_718 := sN BK698 hg
         have NB718_698 := sM BK698 hg
         have NB699_718 := sN BK699 hg
         have NB718_699 := sM BK699 hg
         replace HO711 := rB HO711 hb
         replace HO714 := rB HO714 hb
         replace HO717 := rB HO717 hb
         replace BK695 := sB BK695 hb
         replace BK696 := sB BK696 hb
         replace BK698 := sB BK698 hb
         replace BK699 := sB BK699 hb
         replace HB := sL HB hb
         clear hb hbox hg
         refine hK.out _ _ ⟨(blk_cell BK696.out 0).trans rfl, (blk_cell BK696.out 1).trans rfl, (blk_cell BK695.out 0).trans rfl, (blk_cell BK695.out 1).trans rfl, (blk_cell BK695.out 2).trans rfl, (blk_cell BK695.out 3).trans rfl, (blk_cell BK695.out 4).trans rfl, (blk_cell BK695.out 5).trans rfl, (blk_cell BK695.out 6).trans rfl, (blk_cell BK695.out 7).trans rfl, (blk_cell BK695.out 8).trans rfl, (blk_cell BK695.out 9).trans rfl⟩ (fun hHeld => ?_)
         clear hK K
         refine nP (some 13) ?_
         exact norm_ (by simp only [putAll, Act.put, List.setIfInBounds_toArray, List.set_cons_zero, List.set_cons_succ]) (hCont (.slice Ao51 y709.length co51, .slice Ao53 t712.length co53, v716, gb718) _ ⟨hHeld, (rU (Kd.R_mono HO711.out (fun _ hk => ⟨hk.1.2, ⟨hk.2, hk.1.1.2⟩⟩))), (rU (Kd.R_mono HO714.out (fun _ hk => ⟨hk.1.1.2, ⟨hk.2, hk.1.2⟩⟩))), (rU (Kd.R_mono HO717.out (fun _ hk => ⟨hk.1.1.2, ⟨hk.1.2, hk.2⟩⟩))), (bU BK695), (bU BK696), (bU BK698), (bU BK699), (bU BK718), GW718.out, GE718.out, NB695_718.out, NB718_695.out, NB696_718.out, NB718_696.out, NB698_718.out, NB718_698.out, NB699_718.out, NB718_699.out, (lU HB)⟩)
        ·skip
         refine bY (N := 13) (cs := #[.slice none 0 0]) (t := 30) ?_
         intro gb718 hg w53 hbox hb
         have BK718 := Aside0.mk (hbox)
         have GW718 := sG HB hg
         have GE718 := sG HB hg
         have NB695_718 := sN BK695 hg
         have NB718_695 := sM BK695 hg
         have NB696_718 := sN BK696 hg
         have NB718_696 := sM BK696 hg
         have NB698_718 := sN BK698 hg
         have NB718_698 := sM BK698 hg
         have NB699_718 := sN BK699 hg
         have NB718_699 := sM BK699 hg
         replace HO711 := rB HO711 hb
         replace HO714 := rB HO714 hb
         replace BK695 := sB BK695 hb
         replace BK696 := sB BK696 hb
         replace BK698 := sB BK698 hb
         replace BK699 := sB BK699 hb
         replace HB := sL HB hb
         clear hb hbox hg
         obtain ⟨Ao54, co54, eo54⟩ := Kd.R_slice HO714.out
         (first | subst eo54 | (injection eo54 with f1_ f2_ f3_; have f4_ := f1_.symm; have f5_ := f3_.symm; clear f1_ f2_ f3_; subst f4_; subst f5_))
         refine hK.out _ _ ⟨(blk_cell BK696.out 0).trans rfl, (blk_cell BK696.out 1).trans rfl, (blk_cell BK695.out 0).trans rfl, (blk_cell BK695.out 1).trans rfl, (blk_cell BK695.out 2).trans rfl, (blk_cell BK695.out 3).trans rfl, (blk_cell BK695.out 4).trans rfl, (blk_cell BK695.out 5).trans rfl, (blk_cell BK695.out 6).trans rfl, (blk_cell BK695.out 7).trans rfl, (blk_cell BK695.out 8).trans rfl, (blk_cell BK695.out 9).trans rfl⟩ (fun hHeld => ?_)
         clear hK K
         refine nP (some 13) ?_
         refine one_ (i := 6) (N := some 54) (ma 9 255) rfl rfl (one_of HT_.out (by kernel_rfl)) (by decide) (fun K hK => ?_)
         refine gO Try.func20 #[.agg #[.slice Ao54 t712.length co54], .int .i64 a0, .int .i64 a1_0] rfl rfl ?_
         with_reducible refine (plan_Units.calls kj7 _ _ t712 a0 a1_0 t715 _ (cU (rC HO714)) (rN HO714) A43.out).mono ?_
         rintro e w55 ⟨v716, rfl, ho0, hb⟩
         refine ⟨_, rfl, ?_⟩
         have HO717 := Aside0.mk (Kd.R_lower (Kd.R_newB (Kd.R_new' (Kd.R_new' ho0 (Kd.R_lt (rU HO711.out))) (Kd.R_lt (rU HO714.out))) (g := gb696) (o := .cells #[.int .i64 a2_0, .int .i64 a2_1] 48 (0, 0)) (bU BK696)) (below_size (lU HB)))
         replace HO711 := rE HO711 ho0 hb
         replace HO714 := rE HO714 ho0 hb
         replace BK695 := sB BK695 hb
         replace BK696 := sB BK696 hb
         replace BK698 := sB BK698 hb
         replace BK699 := sB BK699 hb
         replace BK718 := sB BK718 hb
         replace HB := sL HB hb
         (try clear hb)
         (try clear hb2)
         (try clear hk)
         (try clear hi)
         (try clear ho0)
         refine hK.out _ _ ⟨(blk_cell BK696.out 0).trans rfl, (blk_cell BK696.out 1).trans rfl, (blk_cell BK695.out 0).trans rfl, (blk_cell BK695.out 1).trans rfl, (blk_cell BK695.out 2).trans rfl, (blk_cell BK695.out 3).trans rfl, (blk_cell BK695.out 4).trans rfl, (blk_cell BK695.out 5).trans rfl, (blk_cell BK695.out 6).trans rfl, (blk_cell BK695.out 7).trans rfl, (blk_cell BK695.out 8).trans rfl, (blk_cell BK695.out 9).trans rfl⟩ (fun hHeld => ?_)
         clear hK K
         refine nP (some 54) ?_
         exact norm_ (by simp only [putAll, Act.put, List.setIfInBounds_toArray, List.set_cons_zero, List.set_cons_succ]) (hCont (.slice Ao51 y709.length co51, .slice Ao54 t712.length co54, v716, gb718) _ ⟨hHeld, (rU (Kd.R_mono HO711.out (fun _ hk => ⟨hk.1.2, ⟨hk.2, hk.1.1.2⟩⟩))), (rU (Kd.R_mono HO714.out (fun _ hk => ⟨hk.1.1.2, ⟨hk.2, hk.1.2⟩⟩))), (rU (Kd.R_mono HO717.out (fun _ hk => ⟨hk.1.1.2, ⟨hk.1.2, hk.2⟩⟩))), (bU BK695), (bU BK696), (bU BK698), (bU BK699), (bU BK718), GW718.out, GE718.out, NB695_718.out, NB718_695.out, NB696_718.out, NB718_696.out, NB698_718.out, NB718_698.out, NB699_718.out, NB718_699.out, (lU HB)⟩)
       ·skip
        refine bY (N := 13) (cs := #[.slice none 0 0]) (t := 30) ?_
        intro gb718 hg w51 hbox hb
        have BK718 := Aside0.mk (hbox)
        have GW718 := sG HB hg
        have GE718 := sG HB hg
        have NB695_718 := sN BK695 hg
        have NB718_695 := sM BK695 hg
        have NB696_718 := sN BK696 hg
        have NB718_696 := sM BK696 hg
        have NB698_718 := sN BK698 hg
        have NB718_698 := sM BK698 hg
        have NB699_718 := sN BK699 hg
        have NB718_699 := sM BK699 hg
        replace HO711 := rB HO711 hb
        replace BK695 := sB BK695 hb
        replace BK696 := sB BK696 hb
        replace BK698 := sB BK698 hb
        replace BK699 := sB BK699 hb
        replace HB := sL HB hb
        clear hb hbox hg
        obtain ⟨Ao52, co52, eo52⟩ := Kd.R_slice HO711.out
        (first | subst eo52 | (injection eo52 with f1_ f2_ f3_; have f4_ := f1_.symm; have f5_ := f3_.symm; clear f1_ f2_ f3_; subst f4_; subst f5_))
        refine hK.out _ _ ⟨(blk_cell BK696.out 0).trans rfl, (blk_cell BK696.out 1).trans rfl, (blk_cell BK695.out 0).trans rfl, (blk_cell BK695.out 1).trans rfl, (blk_cell BK695.out 2).trans rfl, (blk_cell BK695.out 3).trans rfl, (blk_cell BK695.out 4).trans rfl, (blk_cell BK695.out 5).trans rfl, (blk_cell BK695.out 6).trans rfl, (blk_cell BK695.out 7).trans rfl, (blk_cell BK695.out 8).trans rfl, (blk_cell BK695.out 9).trans rfl⟩ (fun hHeld => ?_)
        clear hK K
        refine nP (some 13) ?_
        refine one_ (i := 2) (N := some 50) (ma 9 191) rfl rfl (one_of HT_.out (by kernel_rfl)) (by decide) (fun K hK => ?_)
        refine gO Try.func22 #[.slice Ao52 y709.length co52] rfl rfl ?_
        with_reducible refine (ranges_Of.calls kj7 _ _ y709 t712 _ (cU (rC HO711)) (rN HO711) A42.out).mono ?_
        rintro e w53 ⟨v713, rfl, ho0, hb⟩
        refine ⟨_, rfl, ?_⟩
        have HO714 := Aside0.mk (Kd.R_lower (Kd.R_newB (Kd.R_new' ho0 (Kd.R_lt (rU HO711.out))) (g := gb696) (o := .cells #[.int .i64 a2_0, .int .i64 a2_1] 48 (0, 0)) (bU BK696)) (below_size (lU HB)))
        replace HO711 := rE HO711 ho0 hb
        replace BK695 := sB BK695 hb
        replace BK696 := sB BK696 hb
        replace BK698 := sB BK698 hb
        replace BK699 := sB BK699 hb
        replace BK718 := sB BK718 hb
        replace HB := sL HB hb
        (try clear hb)
        (try clear hb2)
        (try clear hk)
        (try clear hi)
        (try clear ho0)
        obtain ⟨Ao54, co54, eo54⟩ := Kd.R_slice HO714.out
        (first | subst eo54 | (injection eo54 with f1_ f2_ f3_; have f4_ := f1_.symm; have f5_ := f3_.symm; clear f1_ f2_ f3_; subst f4_; subst f5_))
        refine hK.out _ _ ⟨(blk_cell BK696.out 0).trans rfl, (blk_cell BK696.out 1).trans rfl, (blk_cell BK695.out 0).trans rfl, (blk_cell BK695.out 1).trans rfl, (blk_cell BK695.out 2).trans rfl, (blk_cell BK695.out 3).trans rfl, (blk_cell BK695.out 4).trans rfl, (blk_cell BK695.out 5).trans rfl, (blk_cell BK695.out 6).trans rfl, (blk_cell BK695.out 7).trans rfl, (blk_cell BK695.out 8).trans rfl, (blk_cell BK695.out 9).trans rfl⟩ (fun hHeld => ?_)
        clear hK K
        refine nP (some 50) ?_
        refine one_ (i := 6) (N := some 54) (ma 9 255) rfl rfl (one_of HT_.out (by kernel_rfl)) (by decide) (fun K hK => ?_)
        refine gO Try.func20 #[.agg #[.slice Ao54 t712.length co54], .int .i64 a0, .int .i64 a1_0] rfl rfl ?_
        with_reducible refine (plan_Units.calls kj7 _ _ t712 a0 a1_0 t715 _ (cU (rC HO714)) (rN HO714) A43.out).mono ?_
        rintro e w55 ⟨v716, rfl, ho0, hb⟩
        refine ⟨_, rfl, ?_⟩
        have HO717 := Aside0.mk (Kd.R_lower (Kd.R_newB (Kd.R_new' (Kd.R_new' ho0 (Kd.R_lt (rU HO711.out))) (Kd.R_lt (rU HO714.out))) (g := gb696) (o := .cells #[.int .i64 a2_0, .int .i64 a2_1] 48 (0, 0)) (bU BK696)) (below_size (lU HB)))
        replace HO711 := rE HO711 ho0 hb
        replace HO714 := rE HO714 ho0 hb
        replace BK695 := sB BK695 hb
        replace BK696 := sB BK696 hb
        replace BK698 := sB BK698 hb
        replace BK699 := sB BK699 hb
        replace BK718 := sB BK718 hb
        replace HB := sL HB hb
        (try clear hb)
        (try clear hb2)
        (try clear hk)
        (try clear hi)
        (try clear ho0)
        refine hK.out _ _ ⟨(blk_cell BK696.out 0).trans rfl, (blk_cell BK696.out 1).trans rfl, (blk_cell BK695.out 0).trans rfl, (blk_cell BK695.out 1).trans rfl, (blk_cell BK695.out 2).trans rfl, (blk_cell BK695.out 3).trans rfl, (blk_cell BK695.out 4).trans rfl, (blk_cell BK695.out 5).trans rfl, (blk_cell BK695.out 6).trans rfl, (blk_cell BK695.out 7).trans rfl, (blk_cell BK695.out 8).trans rfl, (blk_cell BK695.out 9).trans rfl⟩ (fun hHeld => ?_)
        clear hK K
        refine nP (some 54) ?_
        exact norm_ (by simp only [putAll, Act.put, List.setIfInBounds_toArray, List.set_cons_zero, List.set_cons_succ]) (hCont (.slice Ao52 y709.length co52, .slice Ao54 t712.length co54, v716, gb718) _ ⟨hHeld, (rU (Kd.R_mono HO711.out (fun _ hk => ⟨hk.1.2, ⟨hk.2, hk.1.1.2⟩⟩))), (rU (Kd.R_mono HO714.out (fun _ hk => ⟨hk.1.1.2, ⟨hk.2, hk.1.2⟩⟩))), (rU (Kd.R_mono HO717.out (fun _ hk => ⟨hk.1.1.2, ⟨hk.1.2, hk.2⟩⟩))), (bU BK695), (bU BK696), (bU BK698), (bU BK699), (bU BK718), GW718.out, GE718.out, NB695_718.out, NB718_695.out, NB696_718.out, NB718_696.out, NB698_718.out, NB718_698.out, NB699_718.out, NB718_699.out, (lU HB)⟩)
      ·skip
       refine bY (N := 13) (cs := #[.slice none 0 0]) (t := 30) ?_
       intro gb718 hg w49 hbox hb
       have BK718 := Aside0.mk (hbox)
       have GW718 := sG HB hg
       have GE718 := sG HB hg
       have NB695_718 := sN BK695 hg
       have NB718_695 := sM BK695 hg
       have NB696_718 := sN BK696 hg
       have NB718_696 := sM BK696 hg
       have NB698_718 := sN BK698 hg
       have NB718_698 := sM BK698 hg
       have NB699_718 := sN BK699 hg
       have NB718_699 := sM BK699 hg
       replace BK695 := sB BK695 hb
       replace BK696 := sB BK696 hb
       replace BK698 := sB BK698 hb
       replace BK699 := sB BK699 hb
       replace HB := sL HB hb
       clear hb hbox hg
       refine hK.out _ _ ⟨(blk_cell BK696.out 0).trans rfl, (blk_cell BK696.out 1).trans rfl, (blk_cell BK695.out 0).trans rfl, (blk_cell BK695.out 1).trans rfl, (blk_cell BK695.out 2).trans rfl, (blk_cell BK695.out 3).trans rfl, (blk_cell BK695.out 4).trans rfl, (blk_cell BK695.out 5).trans rfl, (blk_cell BK695.out 6).trans rfl, (blk_cell BK695.out 7).trans rfl, (blk_cell BK695.out 8).trans rfl, (blk_cell BK695.out 9).trans rfl⟩ (fun hHeld => ?_)
       clear hK K
       refine nP (some 13) ?_
       refine one_ (i := 1) (N := some 49) (ma 9 187) rfl rfl (one_of HT_.out (by kernel_rfl)) (by decide) (fun K hK => ?_)
       refine Kd.R_lit_step k48 _ 48 ?hg (N := 49) ?hd (xs := ([(⟨a2_0, a2_1⟩ : S48)] : List (S48))) (inner := [.int .i64 a2_0, .int .i64 a2_1]) (ok := fun _ => True) (okp := fun _ => True) ?hr ?hp (fun _ hk => hk) trivial (Below.refl _ _) (Nat.le_refl _) (by simp) ?_; (case hd => rfl); (case hg => rfl); (case hr => first | (go_simp; done) | (go_simp; rfl)); (case hp => exact (Reps.c2 (show Kd.M k48 _ _ _ (⟨a2_0, a2_1⟩ : S48) [.int .i64 a2_0, .int .i64 a2_1] from (k48_mkM _ _ _ (⟨a2_0, a2_1⟩ : S48) )) (Reps.none _ _)))
       intro v710 w50 ho51 hb hg_ hnew_
       clear hg_ hnew_
       (first | rw [← Ny709.out] at ho51 | (simp only [Int.reduceToNat] at ho51; rw [← Ny709.out] at ho51))
       have HO711 := Aside0.mk (Kd.R_lower (Kd.R_newB ho51 (g := gb696) (o := .cells #[.int .i64 a2_0, .int .i64 a2_1] 48 (0, 0)) (bU BK696)) (below_size (lU HB)))
       replace BK695 := sB BK695 hb
       replace BK696 := sB BK696 hb
       replace BK698 := sB BK698 hb
       replace BK699 := sB BK699 hb
       replace BK718 := sB BK718 hb
       replace HB := sL HB hb
       clear hb ho51
       obtain ⟨Ao52, co52, eo52⟩ := Kd.R_slice HO711.out
       (first | subst eo52 | (injection eo52 with f1_ f2_ f3_; have f4_ := f1_.symm; have f5_ := f3_.symm; clear f1_ f2_ f3_; subst f4_; subst f5_))
       refine hK.out _ _ ⟨(blk_cell BK696.out 0).trans rfl, (blk_cell BK696.out 1).trans rfl, (blk_cell BK695.out 0).trans rfl, (blk_cell BK695.out 1).trans rfl, (blk_cell BK695.out 2).trans rfl, (blk_cell BK695.out 3).trans rfl, (blk_cell BK695.out 4).trans rfl, (blk_cell BK695.out 5).trans rfl, (blk_cell BK695.out 6).trans rfl, (blk_cell BK695.out 7).trans rfl, (blk_cell BK695.out 8).trans rfl, (blk_cell BK695.out 9).trans rfl⟩ (fun hHeld => ?_)
       clear hK K
       refine nP (some 49) ?_
       refine one_ (i := 2) (N := some 50) (ma 9 191) rfl rfl (one_of HT_.out (by kernel_rfl)) (by decide) (fun K hK => ?_)
       refine gO Try.func22 #[.slice Ao52 y709.length co52] rfl rfl ?_
       with_reducible refine (ranges_Of.calls kj7 _ _ y709 t712 _ (cU (rC HO711)) (rN HO711) A42.out).mono ?_
       rintro e w53 ⟨v713, rfl, ho0, hb⟩
       refine ⟨_, rfl, ?_⟩
       have HO714 := Aside0.mk (Kd.R_lower (Kd.R_newB (Kd.R_new' ho0 (Kd.R_lt (rU HO711.out))) (g := gb696) (o := .cells #[.int .i64 a2_0, .int .i64 a2_1] 48 (0, 0)) (bU BK696)) (below_size (lU HB)))
       replace HO711 := rE HO711 ho0 hb
       replace BK695 := sB BK695 hb
       replace BK696 := sB BK696 hb
       replace BK698 := sB BK698 hb
       replace BK699 := sB BK699 hb
       replace BK718 := sB BK718 hb
       replace HB := sL HB hb
       (try clear hb)
       (try clear hb2)
       (try clear hk)
       (try clear hi)
       (try clear ho0)
       obtain ⟨Ao54, co54, eo54⟩ := Kd.R_slice HO714.out
       (first | subst eo54 | (injection eo54 with f1_ f2_ f3_; have f4_ := f1_.symm; have f5_ := f3_.symm; clear f1_ f2_ f3_; subst f4_; subst f5_))
       refine hK.out _ _ ⟨(blk_cell BK696.out 0).trans rfl, (blk_cell BK696.out 1).trans rfl, (blk_cell BK695.out 0).trans rfl, (blk_cell BK695.out 1).trans rfl, (blk_cell BK695.out 2).trans rfl, (blk_cell BK695.out 3).trans rfl, (blk_cell BK695.out 4).trans rfl, (blk_cell BK695.out 5).trans rfl, (blk_cell BK695.out 6).trans rfl, (blk_cell BK695.out 7).trans rfl, (blk_cell BK695.out 8).trans rfl, (blk_cell BK695.out 9).trans rfl⟩ (fun hHeld => ?_)
       clear hK K
       refine nP (some 50) ?_
       refine one_ (i := 6) (N := some 54) (ma 9 255) rfl rfl (one_of HT_.out (by kernel_rfl)) (by decide) (fun K hK => ?_)
       refine gO Try.func20 #[.agg #[.slice Ao54 t712.length co54], .int .i64 a0, .int .i64 a1_0] rfl rfl ?_
       with_reducible refine (plan_Units.calls kj7 _ _ t712 a0 a1_0 t715 _ (cU (rC HO714)) (rN HO714) A43.out).mono ?_
       rintro e w55 ⟨v716, rfl, ho0, hb⟩
       refine ⟨_, rfl, ?_⟩
       have HO717 := Aside0.mk (Kd.R_lower (Kd.R_newB (Kd.R_new' (Kd.R_new' ho0 (Kd.R_lt (rU HO711.out))) (Kd.R_lt (rU HO714.out))) (g := gb696) (o := .cells #[.int .i64 a2_0, .int .i64 a2_1] 48 (0, 0)) (bU BK696)) (below_size (lU HB)))
       replace HO711 := rE HO711 ho0 hb
       replace HO714 := rE HO714 ho0 hb
       replace BK695 := sB BK695 hb
       replace BK696 := sB BK696 hb
       replace BK698 := sB BK698 hb
       replace BK699 := sB BK699 hb
       replace BK718 := sB BK718 hb
       replace HB := sL HB hb
       (try clear hb)
       (try clear hb2)
       (try clear hk)
       (try clear hi)
       (try clear ho0)
       refine hK.out _ _ ⟨(blk_cell BK696.out 0).trans rfl, (blk_cell BK696.out 1).trans rfl, (blk_cell BK695.out 0).trans rfl, (blk_cell BK695.out 1).trans rfl, (blk_cell BK695.out 2).trans rfl, (blk_cell BK695.out 3).trans rfl, (blk_cell BK695.out 4).trans rfl, (blk_cell BK695.out 5).trans rfl, (blk_cell BK695.out 6).trans rfl, (blk_cell BK695.out 7).trans rfl, (blk_cell BK695.out 8).trans rfl, (blk_cell BK695.out 9).trans rfl⟩ (fun hHeld => ?_)
       clear hK K
       refine nP (some 54) ?_
       exact norm_ (by simp only [putAll, Act.put, List.setIfInBounds_toArray, List.set_cons_zero, List.set_cons_succ]) (hCont (.slice Ao52 y709.length co52, .slice Ao54 t712.length co54, v716, gb718) _ ⟨hHeld, (rU (Kd.R_mono HO711.out (fun _ hk => ⟨hk.1.2, ⟨hk.2, hk.1.1.2⟩⟩))), (rU (Kd.R_mono HO714.out (fun _ hk => ⟨hk.1.1.2, ⟨hk.2, hk.1.2⟩⟩))), (rU (Kd.R_mono HO717.out (fun _ hk => ⟨hk.1.1.2, ⟨hk.1.2, hk.2⟩⟩))), (bU BK695), (bU BK696), (bU BK698), (bU BK699), (bU BK718), GW718.out, GE718.out, NB695_718.out, NB718_695.out, NB696_718.out, NB718_696.out, NB698_718.out, NB718_698.out, NB699_718.out, NB718_699.out, (lU HB)⟩)
     rintro ⟨v710, v713, v716, gb718⟩ w56 ⟨hS_, h0_, h1_, h2_, h3_, h4_, h5_, h6_, h7_, h8_, h9_, h10_, h11_, h12_, h13_, h14_, h15_, h16_, h17_, h18_⟩
     have n0_ := Aside0.mk h0_
     have n1_ := Aside0.mk h1_
     have n2_ := Aside0.mk h2_
     have n3_ := Aside0.mk h3_
     have n4_ := Aside0.mk h4_
     have n5_ := Aside0.mk h5_
     have n6_ := Aside0.mk h6_
     have n7_ := Aside0.mk h7_
     have n8_ := Aside0.mk h8_
     have n9_ := Aside0.mk h9_
     have n10_ := Aside0.mk h10_
     have n11_ := Aside0.mk h11_
     have n12_ := Aside0.mk h12_
     have n13_ := Aside0.mk h13_
     have n14_ := Aside0.mk h14_
     have n15_ := Aside0.mk h15_
     have n16_ := Aside0.mk h16_
     have n17_ := Aside0.mk h17_
     have n18_ := Aside0.mk h18_
     clear BK695
     clear BK696
     clear BK698
     clear BK699
     clear HB
     clear h0_ h1_ h2_ h3_ h4_ h5_ h6_ h7_ h8_ h9_ h10_ h11_ h12_ h13_ h14_ h15_ h16_ h17_ h18_
     have HO711 := n0_
     have HO714 := n1_
     have HO717 := n2_
     have BK695 := n3_
     have BK696 := n4_
     have BK698 := n5_
     have BK699 := n6_
     have BK718 := n7_
     have GW718 := n8_
     have GE718 := n9_
     have NB695_718 := n10_
     have NB718_695 := n11_
     have NB696_718 := n12_
     have NB718_696 := n13_
     have NB698_718 := n14_
     have NB718_698 := n15_
     have NB699_718 := n16_
     have NB718_699 := n17_
     have HB := n18_
     clear n0_ n1_ n2_ n3_ n4_ n5_ n6_ n7_ n8_ n9_ n10_ n11_ n12_ n13_ n14_ n15_ n16_ n17_ n18_
     have hHeld : w56.cell? ⟨gb696, 0, none⟩ = some (.int .i64 a2_0) ∧ w56.cell? ⟨gb696, 1, none⟩ = some (.int .i64 a2_1) ∧ w56.cell? ⟨gb695, 0, none⟩ = some (.int .i64 a1_0) ∧ w56.cell? ⟨gb695, 1, none⟩ = some (.int .i64 a1_1) ∧ w56.cell? ⟨gb695, 2, none⟩ = some (.int .i64 a1_2) ∧ w56.cell? ⟨gb695, 3, none⟩ = some (.int .i64 a1_3) ∧ w56.cell? ⟨gb695, 4, none⟩ = some (.int .i64 a1_4) ∧ w56.cell? ⟨gb695, 5, none⟩ = some (.int .i64 a1_5) ∧ w56.cell? ⟨gb695, 6, none⟩ = some (.int .i64 a1_6) ∧ w56.cell? ⟨gb695, 7, none⟩ = some (.int .i64 a1_7) ∧ w56.cell? ⟨gb695, 8, none⟩ = some (.int .i64 a1_8) ∧ w56.cell? ⟨gb695, 9, none⟩ = some (.int .i64 a1_9) := hS_
     obtain ⟨Ao57, co57, eo57⟩ := Kd.R_slice HO717.out
     (first | subst eo57 | (injection eo57 with f1_ f2_ f3_; have f4_ := f1_.symm; have f5_ := f3_.symm; clear f1_ f2_ f3_; subst f4_; subst f5_))
     refine norm_ (a' := ?_) ?_ ?_
     rotate_left
     ·simp only [putAll, Act.put, List.setIfInBounds_toArray, List.set_cons_zero, List.set_cons_succ]
      rfl
     refine one_ (i := 8) (N := none) (ma 9 511) rfl rfl (one_of HT_.out (by kernel_rfl)) (by decide) (fun K hK => ?_)
     have hs58 : w56.cell? ⟨gb718, 0, none⟩ = some (.slice none 0 0) := (blk_cell BK718.out 0).trans rfl
     have hfs58 := blk_frozen BK718.out 0
     have hns58_0 := NB695_718.out
     have hns58_1 := NB696_718.out
     have hns58_2 := NB698_718.out
     have hns58_3 := NB699_718.out
     have hms58_0 := NB718_695.out
     have hms58_1 := NB718_696.out
     have hms58_2 := NB718_698.out
     have hms58_3 := NB718_699.out
     refine skip_ (w1 := ?_) (by rfl) rfl ?_ ?_
     rotate_left
     ·go_simp
      rfl
     refine hK.out _ _ ⟨((cell_far (p := ⟨gb718, _, none⟩) NB696_718.out _).trans (hHeld.1)), ((cell_far (p := ⟨gb718, _, none⟩) NB696_718.out _).trans (hHeld.2.1)), ((cell_far (p := ⟨gb718, _, none⟩) NB695_718.out _).trans (hHeld.2.2.1)), ((cell_far (p := ⟨gb718, _, none⟩) NB695_718.out _).trans (hHeld.2.2.2.1)), ((cell_far (p := ⟨gb718, _, none⟩) NB695_718.out _).trans (hHeld.2.2.2.2.1)), ((cell_far (p := ⟨gb718, _, none⟩) NB695_718.out _).trans (hHeld.2.2.2.2.2.1)), ((cell_far (p := ⟨gb718, _, none⟩) NB695_718.out _).trans (hHeld.2.2.2.2.2.2.1)), ((cell_far (p := ⟨gb718, _, none⟩) NB695_718.out _).trans (hHeld.2.2.2.2.2.2.2.1)), ((cell_far (p := ⟨gb718, _, none⟩) NB695_718.out _).trans (hHeld.2.2.2.2.2.2.2.2.1)), ((cell_far (p := ⟨gb718, _, none⟩) NB695_718.out _).trans (hHeld.2.2.2.2.2.2.2.2.2.1)), ((cell_far (p := ⟨gb718, _, none⟩) NB695_718.out _).trans (hHeld.2.2.2.2.2.2.2.2.2.2.1)), ((cell_far (p := ⟨gb718, _, none⟩) NB695_718.out _).trans (hHeld.2.2.2.2.2.2.2.2.2.2.2))⟩ (fun hHeld => ?_)
     clear hK K
     refine done_ (done_of HT_.out (by kernel_rfl)) ?_
     try go_wp2
     have n0_ : Aside0 (Kd.R k48 48 (w56.setCell ⟨gb718, 0, none⟩ (.slice Ao57 t715.length co57)) w.heap.size (fun k_ => some k_ ≠ (v713 : Value).ownBlock ∧ some k_ ≠ (.slice Ao57 t715.length co57 : Value).ownBlock ∧ k_ ≠ gb696) v710 y709) := ⟨rU (Kd.R_mono (Kd.R_far (p := ⟨gb718, 0, none⟩) (Kd.R_types HO711.out BK718.out (by decide)) (fun _ hk => hk.2) (.slice Ao57 t715.length co57)) (fun _ hk => ⟨hk.1.1, ⟨hk.1.2.1, hk.1.2.2⟩⟩))⟩
     have n1_ : Aside0 (Kd.R k48 48 (w56.setCell ⟨gb718, 0, none⟩ (.slice Ao57 t715.length co57)) w.heap.size (fun k_ => some k_ ≠ (v710 : Value).ownBlock ∧ some k_ ≠ (.slice Ao57 t715.length co57 : Value).ownBlock ∧ k_ ≠ gb696) v713 t712) := ⟨rU (Kd.R_mono (Kd.R_far (p := ⟨gb718, 0, none⟩) (Kd.R_types HO714.out BK718.out (by decide)) (fun _ hk => hk.2) (.slice Ao57 t715.length co57)) (fun _ hk => ⟨hk.1.1, ⟨hk.1.2.1, hk.1.2.2⟩⟩))⟩
     have n2_ : Aside0 (Kd.R k48 48 (w56.setCell ⟨gb718, 0, none⟩ (.slice Ao57 t715.length co57)) w.heap.size (fun k_ => some k_ ≠ (v710 : Value).ownBlock ∧ some k_ ≠ (v713 : Value).ownBlock ∧ k_ ≠ gb696) (.slice Ao57 t715.length co57) t715) := ⟨rU (Kd.R_mono (Kd.R_far (p := ⟨gb718, 0, none⟩) (Kd.R_types HO717.out BK718.out (by decide)) (fun _ hk => hk.2) (.slice Ao57 t715.length co57)) (fun _ hk => ⟨hk.1.1, ⟨hk.1.2.1, hk.1.2.2⟩⟩))⟩
     have n3_ : Aside0 ((w56.setCell ⟨gb718, 0, none⟩ (.slice Ao57 t715.length co57)).heap[gb695]? = some (.cells #[.int .i64 a1_0, .int .i64 a1_1, .int .i64 a1_2, .int .i64 a1_3, .int .i64 a1_4, .int .i64 a1_5, .int .i64 a1_6, .int .i64 a1_7, .int .i64 a1_8, .int .i64 a1_9] 24 (0, 0))) := ⟨bF BK695⟩
     have n4_ : Aside0 ((w56.setCell ⟨gb718, 0, none⟩ (.slice Ao57 t715.length co57)).heap[gb696]? = some (.cells #[.int .i64 a2_0, .int .i64 a2_1] 48 (0, 0))) := ⟨bF BK696⟩
     have n5_ : Aside0 ((w56.setCell ⟨gb718, 0, none⟩ (.slice Ao57 t715.length co57)).heap[gb698]? = some (.cells #[.slice none 0 0] 30 (0, 0))) := ⟨bF BK698⟩
     have n6_ : Aside0 ((w56.setCell ⟨gb718, 0, none⟩ (.slice Ao57 t715.length co57)).heap[gb699]? = some (.cells #[.slice none 0 0] 30 (0, 0))) := ⟨bF BK699⟩
     have n7_ : Aside0 ((w56.setCell ⟨gb718, 0, none⟩ (.slice Ao57 t715.length co57)).heap[gb718]? = some (.cells #[.slice Ao57 t715.length co57] 30 (0, 0))) := ⟨by (with_reducible repeat (first | refine blk_drewN ?_ _ | refine blk_drew ?_ | refine blk_alloc ?_ _)); refine blk_put (cs := #[.slice none 0 0]) ?_ 0 _ rfl; (with_reducible repeat (first | refine blk_drewN ?_ _ | refine blk_drew ?_ | refine blk_alloc ?_ _)); exact BK718.out⟩
     have n8_ : Aside0 (Below w.heap.size w (w56.setCell ⟨gb718, 0, none⟩ (.slice Ao57 t715.length co57))) := ⟨lU HB⟩
     (try clear HO711)
     (try clear HO714)
     (try clear HO717)
     (try clear BK695)
     (try clear BK696)
     (try clear BK698)
     (try clear BK699)
     (try clear BK718)
     (try clear HB)
     generalize (w56.setCell ⟨gb718, 0, none⟩ (.slice Ao57 t715.length co57)) = w59 at n0_ n1_ n2_ n3_ n4_ n5_ n6_ n7_ n8_ ⊢
     have HO711 := n0_
     have HO714 := n1_
     have HO717 := n2_
     have BK695 := n3_
     have BK696 := n4_
     have BK698 := n5_
     have BK699 := n6_
     have BK718 := n7_
     have HB := n8_
     clear n0_ n1_ n2_ n3_ n4_ n5_ n6_ n7_ n8_
     replace HO711 := Aside0.mk (Kd.R_drew HO711.out)
     replace HO714 := Aside0.mk (Kd.R_drew HO714.out)
     replace HO717 := Aside0.mk (Kd.R_drew HO717.out)
     replace BK695 := Aside0.mk (blk_drew BK695.out)
     replace BK696 := Aside0.mk (blk_drew BK696.out)
     replace BK698 := Aside0.mk (blk_drew BK698.out)
     replace BK699 := Aside0.mk (blk_drew BK699.out)
     replace BK718 := Aside0.mk (blk_drew BK718.out)
     replace HB := Aside0.mk (below_drew1 HB.out)
     refine start_ (n := 11) (S := fun w' => w'.cell? ⟨gb718, 0, none⟩ = some (.slice Ao57 t715.length co57) ∧ w'.cell? ⟨gb696, 0, none⟩ = some (.int .i64 a2_0) ∧ w'.cell? ⟨gb696, 1, none⟩ = some (.int .i64 a2_1) ∧ w'.cell? ⟨gb695, 0, none⟩ = some (.int .i64 a1_0) ∧ w'.cell? ⟨gb695, 1, none⟩ = some (.int .i64 a1_1) ∧ w'.cell? ⟨gb695, 2, none⟩ = some (.int .i64 a1_2) ∧ w'.cell? ⟨gb695, 3, none⟩ = some (.int .i64 a1_3) ∧ w'.cell? ⟨gb695, 4, none⟩ = some (.int .i64 a1_4) ∧ w'.cell? ⟨gb695, 5, none⟩ = some (.int .i64 a1_5) ∧ w'.cell? ⟨gb695, 6, none⟩ = some (.int .i64 a1_6) ∧ w'.cell? ⟨gb695, 7, none⟩ = some (.int .i64 a1_7) ∧ w'.cell? ⟨gb695, 8, none⟩ = some (.int .i64 a1_8) ∧ w'.cell? ⟨gb695, 9, none⟩ = some (.int .i64 a1_9)) (ds := []) #[false, false, false, false, false, false, false, false, false, false, false] (by kernel_rfl) rfl rfl ⟨(blk_cell BK718.out 0).trans rfl, (blk_cell BK696.out 0).trans rfl, (blk_cell BK696.out 1).trans rfl, (blk_cell BK695.out 0).trans rfl, (blk_cell BK695.out 1).trans rfl, (blk_cell BK695.out 2).trans rfl, (blk_cell BK695.out 3).trans rfl, (blk_cell BK695.out 4).trans rfl, (blk_cell BK695.out 5).trans rfl, (blk_cell BK695.out 6).trans rfl, (blk_cell BK695.out 7).trans rfl, (blk_cell BK695.out 8).trans rfl, (blk_cell BK695.out 9).trans rfl⟩ (fun hHeld => ?_); refine with_tabW mandolinelaw35_PlanErrors.tab9 mandolinelaw35_PlanErrors.bits9 (fun HT_ HW_ => ?_)
     generalize w59.drew = w60 at HO711 HO714 HO717 BK695 BK696 BK698 BK699 BK718 HB hHeld ⊢
     refine pS (i := 5) (N := some 60) (ma 11 32) rfl rfl HT_.out ?_
     refine pS (i := 6) (N := some 61) (ma 11 96) rfl rfl HT_.out ?_
     refine tS (i := 0) (N := some 55) (ma 11 97) rfl rfl HT_.out HW_.out hHeld ?_
     refine tS (i := 2) (N := some 57) (ma 11 101) rfl rfl HT_.out HW_.out hHeld ?_
     refine tS (i := 7) (N := some 62) (ma 11 229) rfl rfl HT_.out HW_.out hHeld ?_
     refine join_ (σ := Value × Value) 4 #[true, true, true, true, false, true, true, true, false, false, false] (fun s_ => [(56, s_.1), (58, s_.2)]) (fun s_ w' => (w'.cell? ⟨gb718, 0, none⟩ = some (.slice Ao57 t715.length co57) ∧ w'.cell? ⟨gb696, 0, none⟩ = some (.int .i64 a2_0) ∧ w'.cell? ⟨gb696, 1, none⟩ = some (.int .i64 a2_1) ∧ w'.cell? ⟨gb695, 0, none⟩ = some (.int .i64 a1_0) ∧ w'.cell? ⟨gb695, 1, none⟩ = some (.int .i64 a1_1) ∧ w'.cell? ⟨gb695, 2, none⟩ = some (.int .i64 a1_2) ∧ w'.cell? ⟨gb695, 3, none⟩ = some (.int .i64 a1_3) ∧ w'.cell? ⟨gb695, 4, none⟩ = some (.int .i64 a1_4) ∧ w'.cell? ⟨gb695, 5, none⟩ = some (.int .i64 a1_5) ∧ w'.cell? ⟨gb695, 6, none⟩ = some (.int .i64 a1_6) ∧ w'.cell? ⟨gb695, 7, none⟩ = some (.int .i64 a1_7) ∧ w'.cell? ⟨gb695, 8, none⟩ = some (.int .i64 a1_8) ∧ w'.cell? ⟨gb695, 9, none⟩ = some (.int .i64 a1_9)) ∧ (Kd.R k48 48 w' w.heap.size (fun k_ => some k_ ≠ (v713 : Value).ownBlock ∧ some k_ ≠ (.slice Ao57 t715.length co57 : Value).ownBlock ∧ some k_ ≠ (s_.1 : Value).ownBlock ∧ some k_ ≠ (s_.2 : Value).ownBlock ∧ k_ ≠ gb696) v710 y709) ∧ (Kd.R k48 48 w' w.heap.size (fun k_ => some k_ ≠ (v710 : Value).ownBlock ∧ some k_ ≠ (.slice Ao57 t715.length co57 : Value).ownBlock ∧ some k_ ≠ (s_.1 : Value).ownBlock ∧ some k_ ≠ (s_.2 : Value).ownBlock ∧ k_ ≠ gb696) v713 t712) ∧ (Kd.R k48 48 w' w.heap.size (fun k_ => some k_ ≠ (v710 : Value).ownBlock ∧ some k_ ≠ (v713 : Value).ownBlock ∧ some k_ ≠ (s_.1 : Value).ownBlock ∧ some k_ ≠ (s_.2 : Value).ownBlock ∧ k_ ≠ gb696) (.slice Ao57 t715.length co57) t715) ∧ (Kd.R k48 48 w' w.heap.size (fun k_ => some k_ ≠ (v710 : Value).ownBlock ∧ some k_ ≠ (v713 : Value).ownBlock ∧ some k_ ≠ (.slice Ao57 t715.length co57 : Value).ownBlock ∧ some k_ ≠ (s_.2 : Value).ownBlock ∧ k_ ≠ gb696) s_.1 t719) ∧ (Kd.R k48 48 w' w.heap.size (fun k_ => some k_ ≠ (v710 : Value).ownBlock ∧ some k_ ≠ (v713 : Value).ownBlock ∧ some k_ ≠ (.slice Ao57 t715.length co57 : Value).ownBlock ∧ some k_ ≠ (s_.1 : Value).ownBlock ∧ k_ ≠ gb696) s_.2 y722) ∧ (w'.heap[gb695]? = some (.cells #[.int .i64 a1_0, .int .i64 a1_1, .int .i64 a1_2, .int .i64 a1_3, .int .i64 a1_4, .int .i64 a1_5, .int .i64 a1_6, .int .i64 a1_7, .int .i64 a1_8, .int .i64 a1_9] 24 (0, 0))) ∧ (w'.heap[gb696]? = some (.cells #[.int .i64 a2_0, .int .i64 a2_1] 48 (0, 0))) ∧ (w'.heap[gb698]? = some (.cells #[.slice none 0 0] 30 (0, 0))) ∧ (w'.heap[gb699]? = some (.cells #[.slice none 0 0] 30 (0, 0))) ∧ (w'.heap[gb718]? = some (.cells #[.slice Ao57 t715.length co57] 30 (0, 0))) ∧ (Below w.heap.size w w')) ?_ ?_
     rotate_left
     ·intro hCont
      refine two_ (i := 1) (j := 3) (Ni := some 56) (Nj := some 58) #[true, true, true, false, false, true, true, true, false, false, false] #[true, false, true, true, false, true, true, true, false, false, false] rfl rfl rfl rfl (two_of HT_.out (by kernel_rfl)) (by decide) (by decide) (fun K hK => ?_) (fun K hK => ?_)
      ·skip
       refine gO Try.func21 #[.agg #[.slice Ao57 t715.length co57]] rfl rfl ?_
       with_reducible refine (ranges_Set_Spans.calls _ _ t715 t719 _ (cU (rC HO717)) (rN HO717) A44.out).mono ?_
       rintro e w61 ⟨v720, rfl, ho0, hb⟩
       refine ⟨_, rfl, ?_⟩
       have HO721 := Aside0.mk (Kd.R_lower (Kd.R_newB (Kd.R_new' (Kd.R_new' (Kd.R_new' ho0 (Kd.R_lt (rU HO711.out))) (Kd.R_lt (rU HO714.out))) (Kd.R_lt (rU HO717.out))) (g := gb696) (o := .cells #[.int .i64 a2_0, .int .i64 a2_1] 48 (0, 0)) (bU BK696)) (below_size (lU HB)))
       replace HO711 := rE HO711 ho0 hb
       replace HO714 := rE HO714 ho0 hb
       replace HO717 := rE HO717 ho0 hb
       replace BK695 := sB BK695 hb
       replace BK696 := sB BK696 hb
       replace BK698 := sB BK698 hb
       replace BK699 := sB BK699 hb
       replace BK718 := sB BK718 hb
       replace HB := sL HB hb
       (try clear hb)
       (try clear hb2)
       (try clear hk)
       (try clear hi)
       (try clear ho0)
       refine hK.out _ _ ⟨(blk_cell BK718.out 0).trans rfl, (blk_cell BK696.out 0).trans rfl, (blk_cell BK696.out 1).trans rfl, (blk_cell BK695.out 0).trans rfl, (blk_cell BK695.out 1).trans rfl, (blk_cell BK695.out 2).trans rfl, (blk_cell BK695.out 3).trans rfl, (blk_cell BK695.out 4).trans rfl, (blk_cell BK695.out 5).trans rfl, (blk_cell BK695.out 6).trans rfl, (blk_cell BK695.out 7).trans rfl, (blk_cell BK695.out 8).trans rfl, (blk_cell BK695.out 9).trans rfl⟩ (fun hHeld => ?_)
       clear hK K
       refine nP (some 56) ?_
       refine one_ (i := 3) (N := some 58) (ma 11 239) rfl rfl (one_of HT_.out (by kernel_rfl)) (by decide) (fun K hK => ?_)
       refine Kd.R_lit_step k48 _ 48 ?hg (N := 58) ?hd (xs := ([(⟨a2_0, a2_1⟩ : S48)] : List (S48))) (inner := [.int .i64 a2_0, .int .i64 a2_1]) (ok := fun _ => True) (okp := fun _ => True) ?hr ?hp (fun _ hk => hk) trivial (Below.refl _ _) (Nat.le_refl _) (by simp) ?_; (case hd => rfl); (case hg => rfl); (case hr => first | (go_simp; done) | (go_simp; rfl)); (case hp => exact (Reps.c2 (show Kd.M k48 _ _ _ (⟨a2_0, a2_1⟩ : S48) [.int .i64 a2_0, .int .i64 a2_1] from (k48_mkM _ _ _ (⟨a2_0, a2_1⟩ : S48) )) (Reps.none _ _)))
       intro v723 w62 ho63 hb hg_ hnew_
       clear hg_ hnew_
       (first | rw [← Ny722.out] at ho63 | (simp only [Int.reduceToNat] at ho63; rw [← Ny722.out] at ho63))
       have HO724 := Aside0.mk (Kd.R_lower (Kd.R_newB (Kd.R_new' (Kd.R_new' (Kd.R_new' (Kd.R_new' ho63 (Kd.R_lt (rU HO711.out))) (Kd.R_lt (rU HO714.out))) (Kd.R_lt (rU HO717.out))) (Kd.R_lt (rU HO721.out))) (g := gb696) (o := .cells #[.int .i64 a2_0, .int .i64 a2_1] 48 (0, 0)) (bU BK696)) (below_size (lU HB)))
       replace HO711 := rE HO711 ho63 hb
       replace HO714 := rE HO714 ho63 hb
       replace HO717 := rE HO717 ho63 hb
       replace HO721 := rE HO721 ho63 hb
       replace BK695 := sB BK695 hb
       replace BK696 := sB BK696 hb
       replace BK698 := sB BK698 hb
       replace BK699 := sB BK699 hb
       replace BK718 := sB BK718 hb
       replace HB := sL HB hb
       clear hb ho63
       refine hK.out _ _ ⟨(blk_cell BK718.out 0).trans rfl, (blk_cell BK696.out 0).trans rfl, (blk_cell BK696.out 1).trans rfl, (blk_cell BK695.out 0).trans rfl, (blk_cell BK695.out 1).trans rfl, (blk_cell BK695.out 2).trans rfl, (blk_cell BK695.out 3).trans rfl, (blk_cell BK695.out 4).trans rfl, (blk_cell BK695.out 5).trans rfl, (blk_cell BK695.out 6).trans rfl, (blk_cell BK695.out 7).trans rfl, (blk_cell BK695.out 8).trans rfl, (blk_cell BK695.out 9).trans rfl⟩ (fun hHeld => ?_)
       clear hK K
       refine nP (some 58) ?_
       exact norm_ (by simp only [putAll, Act.put, List.setIfInBounds_toArray, List.set_cons_zero, List.set_cons_succ]) (hCont (v720, v723) _ ⟨hHeld, (rU (Kd.R_mono HO711.out (fun _ hk => ⟨hk.1.1.1, ⟨hk.1.1.2.1, ⟨hk.1.2, ⟨hk.2, hk.1.1.2.2⟩⟩⟩⟩))), (rU (Kd.R_mono HO714.out (fun _ hk => ⟨hk.1.1.1, ⟨hk.1.1.2.1, ⟨hk.1.2, ⟨hk.2, hk.1.1.2.2⟩⟩⟩⟩))), (rU (Kd.R_mono HO717.out (fun _ hk => ⟨hk.1.1.1, ⟨hk.1.1.2.1, ⟨hk.1.2, ⟨hk.2, hk.1.1.2.2⟩⟩⟩⟩))), (rU (Kd.R_mono HO721.out (fun _ hk => ⟨hk.1.1.1.1.2, ⟨hk.1.1.1.2, ⟨hk.1.1.2, ⟨hk.2, hk.1.2⟩⟩⟩⟩))), (rU (Kd.R_mono HO724.out (fun _ hk => ⟨hk.1.1.1.1.2, ⟨hk.1.1.1.2, ⟨hk.1.1.2, ⟨hk.1.2, hk.2⟩⟩⟩⟩))), (bU BK695), (bU BK696), (bU BK698), (bU BK699), (bU BK718), (lU HB)⟩)
      ·skip
       refine Kd.R_lit_step k48 _ 48 ?hg (N := 58) ?hd (xs := ([(⟨a2_0, a2_1⟩ : S48)] : List (S48))) (inner := [.int .i64 a2_0, .int .i64 a2_1]) (ok := fun _ => True) (okp := fun _ => True) ?hr ?hp (fun _ hk => hk) trivial (Below.refl _ _) (Nat.le_refl _) (by simp) ?_; (case hd => rfl); (case hg => rfl); (case hr => first | (go_simp; done) | (go_simp; rfl)); (case hp => exact (Reps.c2 (show Kd.M k48 _ _ _ (⟨a2_0, a2_1⟩ : S48) [.int .i64 a2_0, .int .i64 a2_1] from (k48_mkM _ _ _ (⟨a2_0, a2_1⟩ : S48) )) (Reps.none _ _)))
       intro v723 w61 ho62 hb hg_ hnew_
       clear hg_ hnew_
       (first | rw [← Ny722.out] at ho62 | (simp only [Int.reduceToNat] at ho62; rw [← Ny722.out] at ho62))
       have HO724 := Aside0.mk (Kd.R_lower (Kd.R_newB (Kd.R_new' (Kd.R_new' (Kd.R_new' ho62 (Kd.R_lt (rU HO711.out))) (Kd.R_lt (rU HO714.out))) (Kd.R_lt (rU HO717.out))) (g := gb696) (o := .cells #[.int .i64 a2_0, .int .i64 a2_1] 48 (0, 0)) (bU BK696)) (below_size (lU HB)))
       replace HO711 := rE HO711 ho62 hb
       replace HO714 := rE HO714 ho62 hb
       replace HO717 := rE HO717 ho62 hb
       replace BK695 := sB BK695 hb
       replace BK696 := sB BK696 hb
       replace BK698 := sB BK698 hb
       replace BK699 := sB BK699 hb
       replace BK718 := sB BK718 hb
       replace HB := sL HB hb
       clear hb ho62
       refine hK.out _ _ ⟨(blk_cell BK718.out 0).trans rfl, (blk_cell BK696.out 0).trans rfl, (blk_cell BK696.out 1).trans rfl, (blk_cell BK695.out 0).trans rfl, (blk_cell BK695.out 1).trans rfl, (blk_cell BK695.out 2).trans rfl, (blk_cell BK695.out 3).trans rfl, (blk_cell BK695.out 4).trans rfl, (blk_cell BK695.out 5).trans rfl, (blk_cell BK695.out 6).trans rfl, (blk_cell BK695.out 7).trans rfl, (blk_cell BK695.out 8).trans rfl, (blk_cell BK695.out 9).trans rfl⟩ (fun hHeld => ?_)
       clear hK K
       refine nP (some 58) ?_
       refine one_ (i := 1) (N := some 56) (ma 11 239) rfl rfl (one_of HT_.out (by kernel_rfl)) (by decide) (fun K hK => ?_)
       refine gO Try.func21 #[.agg #[.slice Ao57 t715.length co57]] rfl rfl ?_
       with_reducible refine (ranges_Set_Spans.calls _ _ t715 t719 _ (cU (rC HO717)) (rN HO717) A44.out).mono ?_
       rintro e w63 ⟨v720, rfl, ho0, hb⟩
       refine ⟨_, rfl, ?_⟩
       have HO721 := Aside0.mk (Kd.R_lower (Kd.R_newB (Kd.R_new' (Kd.R_new' (Kd.R_new' (Kd.R_new' ho0 (Kd.R_lt (rU HO711.out))) (Kd.R_lt (rU HO714.out))) (Kd.R_lt (rU HO717.out))) (Kd.R_lt (rU HO724.out))) (g := gb696) (o := .cells #[.int .i64 a2_0, .int .i64 a2_1] 48 (0, 0)) (bU BK696)) (below_size (lU HB)))
       replace HO711 := rE HO711 ho0 hb
       replace HO714 := rE HO714 ho0 hb
       replace HO717 := rE HO717 ho0 hb
       replace HO724 := rE HO724 ho0 hb
       replace BK695 := sB BK695 hb
       replace BK696 := sB BK696 hb
       replace BK698 := sB BK698 hb
       replace BK699 := sB BK699 hb
       replace BK718 := sB BK718 hb
       replace HB := sL HB hb
       (try clear hb)
       (try clear hb2)
       (try clear hk)
       (try clear hi)
       (try clear ho0)
       refine hK.out _ _ ⟨(blk_cell BK718.out 0).trans rfl, (blk_cell BK696.out 0).trans rfl, (blk_cell BK696.out 1).trans rfl, (blk_cell BK695.out 0).trans rfl, (blk_cell BK695.out 1).trans rfl, (blk_cell BK695.out 2).trans rfl, (blk_cell BK695.out 3).trans rfl, (blk_cell BK695.out 4).trans rfl, (blk_cell BK695.out 5).trans rfl, (blk_cell BK695.out 6).trans rfl, (blk_cell BK695.out 7).trans rfl, (blk_cell BK695.out 8).trans rfl, (blk_cell BK695.out 9).trans rfl⟩ (fun hHeld => ?_)
       clear hK K
       refine nP (some 56) ?_
       exact norm_ (by simp only [putAll, Act.put, List.setIfInBounds_toArray, List.set_cons_zero, List.set_cons_succ]) (hCont (v720, v723) _ ⟨hHeld, (rU (Kd.R_mono HO711.out (fun _ hk => ⟨hk.1.1.1, ⟨hk.1.1.2.1, ⟨hk.2, ⟨hk.1.2, hk.1.1.2.2⟩⟩⟩⟩))), (rU (Kd.R_mono HO714.out (fun _ hk => ⟨hk.1.1.1, ⟨hk.1.1.2.1, ⟨hk.2, ⟨hk.1.2, hk.1.1.2.2⟩⟩⟩⟩))), (rU (Kd.R_mono HO717.out (fun _ hk => ⟨hk.1.1.1, ⟨hk.1.1.2.1, ⟨hk.2, ⟨hk.1.2, hk.1.1.2.2⟩⟩⟩⟩))), (rU (Kd.R_mono HO721.out (fun _ hk => ⟨hk.1.1.1.1.2, ⟨hk.1.1.1.2, ⟨hk.1.1.2, ⟨hk.1.2, hk.2⟩⟩⟩⟩))), (rU (Kd.R_mono HO724.out (fun _ hk => ⟨hk.1.1.1.1.2, ⟨hk.1.1.1.2, ⟨hk.1.1.2, ⟨hk.2, hk.1.2⟩⟩⟩⟩))), (bU BK695), (bU BK696), (bU BK698), (bU BK699), (bU BK718), (lU HB)⟩)
     rintro ⟨v720, v723⟩ w64 ⟨hS_, h0_, h1_, h2_, h3_, h4_, h5_, h6_, h7_, h8_, h9_, h10_⟩
     have n0_ := Aside0.mk h0_
     have n1_ := Aside0.mk h1_
     have n2_ := Aside0.mk h2_
     have n3_ := Aside0.mk h3_
     have n4_ := Aside0.mk h4_
     have n5_ := Aside0.mk h5_
     have n6_ := Aside0.mk h6_
     have n7_ := Aside0.mk h7_
     have n8_ := Aside0.mk h8_
     have n9_ := Aside0.mk h9_
     have n10_ := Aside0.mk h10_
     clear HO711
     clear HO714
     clear HO717
     clear BK695
     clear BK696
     clear BK698
     clear BK699
     clear BK718
     clear HB
     clear h0_ h1_ h2_ h3_ h4_ h5_ h6_ h7_ h8_ h9_ h10_
     have HO711 := n0_
     have HO714 := n1_
     have HO717 := n2_
     have HO721 := n3_
     have HO724 := n4_
     have BK695 := n5_
     have BK696 := n6_
     have BK698 := n7_
     have BK699 := n8_
     have BK718 := n9_
     have HB := n10_
     clear n0_ n1_ n2_ n3_ n4_ n5_ n6_ n7_ n8_ n9_ n10_
     have hHeld : w64.cell? ⟨gb718, 0, none⟩ = some (.slice Ao57 t715.length co57) ∧ w64.cell? ⟨gb696, 0, none⟩ = some (.int .i64 a2_0) ∧ w64.cell? ⟨gb696, 1, none⟩ = some (.int .i64 a2_1) ∧ w64.cell? ⟨gb695, 0, none⟩ = some (.int .i64 a1_0) ∧ w64.cell? ⟨gb695, 1, none⟩ = some (.int .i64 a1_1) ∧ w64.cell? ⟨gb695, 2, none⟩ = some (.int .i64 a1_2) ∧ w64.cell? ⟨gb695, 3, none⟩ = some (.int .i64 a1_3) ∧ w64.cell? ⟨gb695, 4, none⟩ = some (.int .i64 a1_4) ∧ w64.cell? ⟨gb695, 5, none⟩ = some (.int .i64 a1_5) ∧ w64.cell? ⟨gb695, 6, none⟩ = some (.int .i64 a1_6) ∧ w64.cell? ⟨gb695, 7, none⟩ = some (.int .i64 a1_7) ∧ w64.cell? ⟨gb695, 8, none⟩ = some (.int .i64 a1_8) ∧ w64.cell? ⟨gb695, 9, none⟩ = some (.int .i64 a1_9) := hS_
     obtain ⟨Ao65, co65, eo65⟩ := Kd.R_slice HO724.out
     (first | subst eo65 | (injection eo65 with f1_ f2_ f3_; have f4_ := f1_.symm; have f5_ := f3_.symm; clear f1_ f2_ f3_; subst f4_; subst f5_))
     refine norm_ (a' := ?_) ?_ ?_
     rotate_left
     ·simp only [putAll, Act.put, List.setIfInBounds_toArray, List.set_cons_zero, List.set_cons_succ]
      rfl
     refine one_ (i := 4) (N := some 59) (ma 11 255) rfl rfl (one_of HT_.out (by kernel_rfl)) (by decide) (fun K hK => ?_)
     refine gO Try.func15 #[.slice Ao65 y722.length co65] rfl rfl ?_
     with_reducible refine (mandolineref02_Of.calls kj7 _ _ y722 t725 _ (cU (rC HO724)) (rN HO724) A45.out).mono ?_
     rintro e w66 ⟨v726, rfl, ho0, hb⟩
     refine ⟨_, rfl, ?_⟩
     have HO727 := Aside0.mk (Kd.R_lower (Kd.R_newB (Kd.R_new' (Kd.R_new' (Kd.R_new' (Kd.R_new' (Kd.R_new' ho0 (Kd.R_lt (rU HO711.out))) (Kd.R_lt (rU HO714.out))) (Kd.R_lt (rU HO717.out))) (Kd.R_lt (rU HO721.out))) (Kd.R_lt (rU HO724.out))) (g := gb696) (o := .cells #[.int .i64 a2_0, .int .i64 a2_1] 48 (0, 0)) (bU BK696)) (below_size (lU HB)))
     replace HO711 := rE HO711 ho0 hb
     replace HO714 := rE HO714 ho0 hb
     replace HO717 := rE HO717 ho0 hb
     replace HO721 := rE HO721 ho0 hb
     replace HO724 := rE HO724 ho0 hb
     replace BK695 := sB BK695 hb
     replace BK696 := sB BK696 hb
     replace BK698 := sB BK698 hb
     replace BK699 := sB BK699 hb
     replace BK718 := sB BK718 hb
     replace HB := sL HB hb
     (try clear hb)
     (try clear hb2)
     (try clear hk)
     (try clear hi)
     (try clear ho0)
     obtain ⟨Ao67, co67, eo67⟩ := Kd.R_slice HO727.out
     (first | subst eo67 | (injection eo67 with f1_ f2_ f3_; have f4_ := f1_.symm; have f5_ := f3_.symm; clear f1_ f2_ f3_; subst f4_; subst f5_))
     refine hK.out _ _ ⟨(blk_cell BK718.out 0).trans rfl, (blk_cell BK696.out 0).trans rfl, (blk_cell BK696.out 1).trans rfl, (blk_cell BK695.out 0).trans rfl, (blk_cell BK695.out 1).trans rfl, (blk_cell BK695.out 2).trans rfl, (blk_cell BK695.out 3).trans rfl, (blk_cell BK695.out 4).trans rfl, (blk_cell BK695.out 5).trans rfl, (blk_cell BK695.out 6).trans rfl, (blk_cell BK695.out 7).trans rfl, (blk_cell BK695.out 8).trans rfl, (blk_cell BK695.out 9).trans rfl⟩ (fun hHeld => ?_)
     clear hK K
     refine nP (some 59) ?_
     refine one_ (i := 8) (N := some 63) (ma 11 511) rfl rfl (one_of HT_.out (by kernel_rfl)) (by decide) (fun K hK => ?_)
     refine gO Try.func17 #[.slice Ao67 t725.length co67, .int .i64 a0, .int .i64 a1_0] rfl rfl ?_
     with_reducible refine (mandolineref35_Units.calls kj7 _ _ t725 a0 a1_0 t728 _ (cU (rC HO727)) (rN HO727) A46.out).mono ?_
     rintro e w68 ⟨v729, rfl, ho0, hb⟩
     refine ⟨_, rfl, ?_⟩
     have HO730 := Aside0.mk (Kd.R_lower (Kd.R_newB (Kd.R_new' (Kd.R_new' (Kd.R_new' (Kd.R_new' (Kd.R_new' (Kd.R_new' ho0 (Kd.R_lt (rU HO711.out))) (Kd.R_lt (rU HO714.out))) (Kd.R_lt (rU HO717.out))) (Kd.R_lt (rU HO721.out))) (Kd.R_lt (rU HO724.out))) (Kd.R_lt (rU HO727.out))) (g := gb696) (o := .cells #[.int .i64 a2_0, .int .i64 a2_1] 48 (0, 0)) (bU BK696)) (below_size (lU HB)))
     replace HO711 := rE HO711 ho0 hb
     replace HO714 := rE HO714 ho0 hb
     replace HO717 := rE HO717 ho0 hb
     replace HO721 := rE HO721 ho0 hb
     replace HO724 := rE HO724 ho0 hb
     replace HO727 := rE HO727 ho0 hb
     replace BK695 := sB BK695 hb
     replace BK696 := sB BK696 hb
     replace BK698 := sB BK698 hb
     replace BK699 := sB BK699 hb
     replace BK718 := sB BK718 hb
     replace HB := sL HB hb
     (try clear hb)
     (try clear hb2)
     (try clear hk)
     (try clear hi)
     (try clear ho0)
     obtain ⟨Ao69, co69, eo69⟩ := Kd.R_slice HO721.out
     (first | subst eo69 | (injection eo69 with f1_ f2_ f3_; have f4_ := f1_.symm; have f5_ := f3_.symm; clear f1_ f2_ f3_; subst f4_; subst f5_))
     obtain ⟨Ao70, co70, eo70⟩ := Kd.R_slice HO730.out
     (first | subst eo70 | (injection eo70 with f1_ f2_ f3_; have f4_ := f1_.symm; have f5_ := f3_.symm; clear f1_ f2_ f3_; subst f4_; subst f5_))
     refine hK.out _ _ ⟨(blk_cell BK718.out 0).trans rfl, (blk_cell BK696.out 0).trans rfl, (blk_cell BK696.out 1).trans rfl, (blk_cell BK695.out 0).trans rfl, (blk_cell BK695.out 1).trans rfl, (blk_cell BK695.out 2).trans rfl, (blk_cell BK695.out 3).trans rfl, (blk_cell BK695.out 4).trans rfl, (blk_cell BK695.out 5).trans rfl, (blk_cell BK695.out 6).trans rfl, (blk_cell BK695.out 7).trans rfl, (blk_cell BK695.out 8).trans rfl, (blk_cell BK695.out 9).trans rfl⟩ (fun hHeld => ?_)
     clear hK K
     refine nP (some 63) ?_
     refine one_ (i := 9) (N := some 64) (ma 11 1023) rfl rfl (one_of HT_.out (by kernel_rfl)) (by decide) (fun K hK => ?_)
     refine gO Try.func16 #[.slice Ao69 t719.length co69, .slice Ao70 t728.length co70] rfl rfl ?_
     with_reducible refine (mandolineref02_List.calls kj7 _ _ t719 _ _ t728 t731 _ (cU (rC HO721)) (rN HO721) (cU (rC HO730)) (rN HO730) A47.out).mono ?_
     rintro e w' ⟨rfl, ⟨nd, rfl⟩⟩
     refine ⟨_, rfl, ?_⟩
     refine hK.out _ _ ⟨(blk_cell BK718.out 0).trans rfl, (blk_cell BK696.out 0).trans rfl, (blk_cell BK696.out 1).trans rfl, (blk_cell BK695.out 0).trans rfl, (blk_cell BK695.out 1).trans rfl, (blk_cell BK695.out 2).trans rfl, (blk_cell BK695.out 3).trans rfl, (blk_cell BK695.out 4).trans rfl, (blk_cell BK695.out 5).trans rfl, (blk_cell BK695.out 6).trans rfl, (blk_cell BK695.out 7).trans rfl, (blk_cell BK695.out 8).trans rfl, (blk_cell BK695.out 9).trans rfl⟩ (fun hHeld => ?_)
     clear hK K
     refine nP (some 64) ?_
     refine pS (i := 10) (N := some 6) (ma 11 2047) rfl rfl HT_.out ?_
     refine done_ (done_of HT_.out (by kernel_rfl)) ?_
     try go_wp2
     go_ret
     exact ⟨eW, lU HB⟩
 ·replace c5 := Bool.eq_false_iff.mpr c5
  subst c5
  rw [if_neg (show ¬ (false = true) by decide)] at H
  obtain rfl := Option.some.inj H
  go_enter Try.func8, Try.ntmps8
  go_wp2_with (first | ((with_reducible refine gate_dst (N := 4) rfl ?_); (try (refine gate_guard (by rfl) ?_; dsimp only)); refine bX (N := 4) (cs := #[.int .i64 a1_0, .int .i64 a1_1, .int .i64 a1_2, .int .i64 a1_3, .int .i64 a1_4, .int .i64 a1_5, .int .i64 a1_6, .int .i64 a1_7, .int .i64 a1_8, .int .i64 a1_9]) (t := 24) ?_; intro gb695 hg w71 hbox hb; have BK695 := Aside0.mk (hbox); have GE695 := sG HB hg; replace HB := sL HB hb; clear hb hbox hg) | ((with_reducible refine gate_dst (N := 5) rfl ?_); (try (refine gate_guard (by rfl) ?_; dsimp only)); refine bX (N := 5) (cs := #[.int .i64 a2_0, .int .i64 a2_1]) (t := 48) ?_; intro gb696 hg w72 hbox hb; have BK696 := Aside0.mk (hbox); have GE696 := sG HB hg; have NB695_696 := sN BK695 hg; have NB696_695 := sM BK695 hg; replace BK695 := sB BK695 hb; replace HB := sL HB hb; clear hb hbox hg) | ((with_reducible refine gate_callee (f := 10) rfl ?_); refine gL (some 14) rfl rfl Try.func10 #[] rfl ?_; (with_reducible refine (mandolinelaw35_alive.calls k  false _ A4.out).mono ?_); rintro e w73 ⟨rfl, hb⟩; refine ⟨_, rfl, ?_⟩; replace BK695 := sB BK695 hb; replace BK696 := sB BK696 hb; replace HB := sL HB hb; (try clear hb); (try clear hb2); (try clear hk); (try clear hi)))
  go_ret
  exact ⟨eW, lU HB⟩

end Go.Proofs.Ytnaalaakhdbfbaa.XP
