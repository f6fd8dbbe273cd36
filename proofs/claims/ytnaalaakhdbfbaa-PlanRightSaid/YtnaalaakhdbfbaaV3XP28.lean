-- Go functions as plain functions, and that the code comes to these answers (printed by a program).
import Derived.Test.YtnaalaakhdbfbaaV3XP0
import Derived.Test.YtnaalaakhdbfbaaV3XP3
import Derived.Test.YtnaalaakhdbfbaaV3XP6
import Derived.Test.YtnaalaakhdbfbaaV3XP7
import Derived.Test.YtnaalaakhdbfbaaV3XP8
import Derived.Test.YtnaalaakhdbfbaaV3XP11
import Derived.Test.YtnaalaakhdbfbaaV3XP25
import Derived.Test.YtnaalaakhdbfbaaV3XP27
namespace Go.Proofs.Ytnaalaakhdbfbaa.XP
open Go.RowKit Go.Proofs.YtnaalaakhdbfbaaW.PrintWords Go.Proofs.YtnaalaakhdbfbaaW.PrintLast Go.Proofs.YtnaalaakhdbfbaaW.PrintMore
attribute [local go_sem] max2_int min2_int max_two min_two max_three min_three max_four min_four
set_option linter.unusedVariables false
set_option linter.unusedSimpArgs false
mutual
def plan_Right.l0 : Nat → List (S48) → Int → Int → List (S48) → Int → Int → List (S48) → Int → Int → Int → Int → Int → Int → Int → Int → Int → Int → List (S48) → Option (Bool)
 | 0, _, _, _, _, _, _, _, _, _, _, _, _, _, _, _, _, _, _ => none
 | k + 1, x0, x3, x14, x33, x34, x35, x672000, x673000, x673001, x673002, x673003, x673004, x673005, x673006, x673007, x673008, x673009, x681000 => if x35 < x34 then (if 0 ≤ x35 then (if x35 < (x33.length : Int) then (if ((rd_T48 x33 x35).f1) = 4611686018427387904 then (plan_Right.j1 k x0 x3 x14 false x33 x34 x35 x672000 x673000 x673001 x673002 x673003 x673004 x673005 x673006 x673007 x673008 x673009 x681000 ((rd_T48 x33 x35).f0) ((rd_T48 x33 x35).f1)) else (plan_Right.j1 k x0 x3 x14 (decide ((wrap64 (((rd_T48 x33 x35).f1) - ((rd_T48 x33 x35).f0))) > x673002)) x33 x34 x35 x672000 x673000 x673001 x673002 x673003 x673004 x673005 x673006 x673007 x673008 x673009 x681000 ((rd_T48 x33 x35).f0) ((rd_T48 x33 x35).f1))) else (none)) else (none)) else ((ranges_Of.f k x0).bind fun t681 => ((ranges_Set_Less.f k x681000 t681).bind fun t684 => ((ranges_Set_Len.f k t684).bind fun t687 => (some (t687 == 0)))))
def plan_Right.j1 : Nat → List (S48) → Int → Int → Bool → List (S48) → Int → Int → List (S48) → Int → Int → Int → Int → Int → Int → Int → Int → Int → Int → List (S48) → Int → Int → Option (Bool)
 | 0, _, _, _, _, _, _, _, _, _, _, _, _, _, _, _, _, _, _, _, _, _ => none
 | k + 1, x0, x3, x14, x17, x33, x34, x35, x672000, x673000, x673001, x673002, x673003, x673004, x673005, x673006, x673007, x673008, x673009, x681000, x690000, x690001 => (plan_object.f x3).bind fun bt690 => ((plan_whole.f x690000 x690001 bt690.1 bt690.2 x673000).bind fun t692 => (if t692 = true then (if x690000 < x14 then (some false) else (if x17 = true then (some false) else ((ranges_Set_Holds.f x672000 x690000 x690001).bind fun t693 => (if t693 = true then ((plan_Waste.f k x690000 x690001 x681000).bind fun t694 => (if t694 > x673001 then (some false) else (plan_Right.l0 k x0 x3 x690001 x33 x34 (wrap64 (x35 + 1)) x672000 x673000 x673001 x673002 x673003 x673004 x673005 x673006 x673007 x673008 x673009 x681000))) else (some false))))) else (some false)))
end
def plan_Right.f (k : Nat) (l0 : List (S48)) (l1_0 : List (S48)) (l2_0 : List (S48)) (a3 : Int) (a4_0 : Int) (a4_1 : Int) (a4_2 : Int) (a4_3 : Int) (a4_4 : Int) (a4_5 : Int) (a4_6 : Int) (a4_7 : Int) (a4_8 : Int) (a4_9 : Int) : Option (Bool) := (plan_Plan.f k l1_0 l2_0 a3 a4_0 a4_1 a4_2 a4_3 a4_4 a4_5 a4_6 a4_7 a4_8 a4_9).bind fun bt673 => (if bt673.2 = 0 then ((plan_Units.f k l1_0 a3 a4_0).bind fun t677 => (plan_Right.l0 k l0 a3 0 l0 (l0.length : Int) 0 l2_0 a4_0 a4_1 a4_2 a4_3 a4_4 a4_5 a4_6 a4_7 a4_8 a4_9 t677)) else (some false))
def plan_Right.T10 : Bool × List (List Nat × List Nat) := (true, [([], []), ([], []), ([1], [1]), ([], []), ([3], [3]), ([0, 2, 4, 2], [0, 2, 4]), ([5], [5]), ([6, 5], [6]), ([7], [7]), ([8, 7], [7, 8]), ([7], [7]), ([9, 10, 7], [7, 9, 10]), ([7, 11], [7, 11]), ([12, 7], [12]), ([13], [13]), ([13, 14], [13, 14]), ([15, 13], [15]), ([16], [16]), ([16], [16]), ([17, 18, 16, 16], [16, 17, 18]), ([19, 16], [16, 19]), ([16, 20], [16, 20]), ([21, 19], [21]), ([22], [22]), ([22], [22]), ([23, 24, 22, 22], [22, 23, 24]), ([22], [22]), ([26, 22], [22, 26]), ([25, 27, 22], [22, 25, 27]), ([22, 28], [22, 28])])
def plan_Right.B10 : List Nat := [0, 0, 2, 0, 8, 31, 63, 127, 255, 511, 255, 2047, 4095, 8191, 16383, 32767, 65535, 131071, 131071, 524287, 1048575, 2097151, 4194303, 8388607, 8388607, 33554431, 8388607, 75497471, 268435455, 536870911]
theorem plan_Right.tab10 : rtab .any (opsOf Try.f29 10) = plan_Right.T10 := by kernel_rfl
theorem plan_Right.bits10 : waitsOk plan_Right.T10.2 plan_Right.B10 = true := by kernel_rfl
set_option maxHeartbeats 8000000 in
set_option maxRecDepth 100000 in
theorem plan_Right.calls (k : Nat) (A0 : Option Addr) (c0 : Nat) (l0 : List (S48)) (A1_0 : Option Addr) (c1_0 : Nat) (l1_0 : List (S48)) (A2_0 : Option Addr) (c2_0 : Nat) (l2_0 : List (S48)) (a3 : Int) (a4_0 : Int) (a4_1 : Int) (a4_2 : Int) (a4_3 : Int) (a4_4 : Int) (a4_5 : Int) (a4_6 : Int) (a4_7 : Int) (a4_8 : Int) (a4_9 : Int) (r : Bool) (w : World) (hr0 : Kd.C k48 w A0 l0.length l0) (hc0 : l0.length ≤ c0) (hr1_0 : Kd.C k48 w A1_0 l1_0.length l1_0) (hc1_0 : l1_0.length ≤ c1_0) (hr2_0 : Kd.C k48 w A2_0 l2_0.length l2_0) (hc2_0 : l2_0.length ≤ c2_0) (h : plan_Right.f k l0 l1_0 l2_0 a3 a4_0 a4_1 a4_2 a4_3 a4_4 a4_5 a4_6 a4_7 a4_8 a4_9 = some r) :
  Calls Try.prog 29 #[.slice A0 l0.length c0, .agg #[.slice A1_0 l1_0.length c1_0], .agg #[.slice A2_0 l2_0.length c2_0], .int .i64 a3, .agg #[.int .i64 a4_0, .int .i64 a4_1, .int .i64 a4_2, .int .i64 a4_3, .int .i64 a4_4, .int .i64 a4_5, .int .i64 a4_6, .int .i64 a4_7, .int .i64 a4_8, .int .i64 a4_9]] w fun e w' => e = .returned (.bool r) ∧ Below w.heap.size w w' := by
 have hu30 := Try.underlying30
 have hu24 := Try.underlying24
 have hu48 := Try.underlying48
 have HR0 := Aside0.mk hr0
 have HC0 := Aside0.mk hc0
 clear hr0 hc0
 have HR1_0 := Aside0.mk hr1_0
 have HC1_0 := Aside0.mk hc1_0
 clear hr1_0 hc1_0
 have HR2_0 := Aside0.mk hr2_0
 have HC2_0 := Aside0.mk hc2_0
 clear hr2_0 hc2_0
 have HB := Aside0.mk (Below.refl w.heap.size w)
 unfold plan_Right.f at h
 have H := h
 clear h
 replace H := Option.bind_eq_some_iff.mp H
 obtain ⟨⟨t673, t676⟩, A60, H⟩ := H
 dsimp only at H
 have A6 := Aside0.mk A60
 clear A60
 by_cases c7 : t676 = 0
 ·rw [if_pos c7] at H
  have c7b0 : (t676 == 0) = true := beq_iff_eq.mpr c7
  have c7b1 : (t676 != 0) = false := bne_eq_false_iff_eq.mpr c7
  clear c7
  obtain ⟨t677, A8, H⟩ := bO H
  have H' := Aside0.mk H
  clear H
  go_enter Try.func29, Try.ntmps29
  go_wp2_with (first | ((with_reducible refine gate_dst (N := 6) rfl ?_); refine bX (N := 6) (cs := #[.slice A1_0 l1_0.length c1_0]) (t := 30) ?_; intro gb670 hg w9 hbox hb; have BK670 := Aside0.mk (hbox); have GE670 := sG HB hg; replace HB := sL HB hb; clear hb hbox hg) | ((with_reducible refine gate_dst (N := 7) rfl ?_); refine bX (N := 7) (cs := #[.slice A2_0 l2_0.length c2_0]) (t := 30) ?_; intro gb671 hg w10 hbox hb; have BK671 := Aside0.mk (hbox); have GE671 := sG HB hg; have NB670_671 := sN BK670 hg; have NB671_670 := sM BK670 hg; replace BK670 := sB BK670 hb; replace HB := sL HB hb; clear hb hbox hg) | ((with_reducible refine gate_dst (N := 9) rfl ?_); refine bX (N := 9) (cs := #[.int .i64 a4_0, .int .i64 a4_1, .int .i64 a4_2, .int .i64 a4_3, .int .i64 a4_4, .int .i64 a4_5, .int .i64 a4_6, .int .i64 a4_7, .int .i64 a4_8, .int .i64 a4_9]) (t := 24) ?_; intro gb672 hg w11 hbox hb; have BK672 := Aside0.mk (hbox); have GE672 := sG HB hg; have NB670_672 := sN BK670 hg; have NB672_670 := sM BK670 hg; have NB671_672 := sN BK671 hg; have NB672_671 := sM BK671 hg; replace BK670 := sB BK670 hb; replace BK671 := sB BK671 hb; replace HB := sL HB hb; clear hb hbox hg; have hnb12 := NB670_671.out; have hnc12 := NB671_670.out; have hnb13 := NB670_672.out; have hnc13 := NB672_670.out; have hcz14_0 := q1 BK670; have hfz14_0 := blk_frozen BK670.out 0; have hnb15 := NB671_672.out; have hnc15 := NB672_671.out; have hcz16_0 := q1 BK671; have hfz16_0 := blk_frozen BK671.out 0; obtain ⟨hcz17_0, hcz17_1, hcz17_2, hcz17_3, hcz17_4, hcz17_5, hcz17_6, hcz17_7, hcz17_8, hcz17_9⟩ := q10 BK672; obtain ⟨hfz17_0, hfz17_1, hfz17_2, hfz17_3, hfz17_4, hfz17_5, hfz17_6, hfz17_7, hfz17_8, hfz17_9⟩ := z10 BK672) | ((with_reducible refine gate_callee (f := 13) rfl ?_); refine gL (some 23) rfl rfl Try.func13 #[.agg #[.slice A1_0 l1_0.length c1_0], .agg #[.slice A2_0 l2_0.length c2_0], .int .i64 a3, .agg #[.int .i64 a4_0, .int .i64 a4_1, .int .i64 a4_2, .int .i64 a4_3, .int .i64 a4_4, .int .i64 a4_5, .int .i64 a4_6, .int .i64 a4_7, .int .i64 a4_8, .int .i64 a4_9]] rfl ?_; (with_reducible refine (plan_Plan.calls k _ _ l1_0 _ _ l2_0 a3 a4_0 a4_1 a4_2 a4_3 a4_4 a4_5 a4_6 a4_7 a4_8 a4_9 t673 t676 _ (cU (Kd.C_below HR1_0.out HB.out)) HC1_0.out (cU (Kd.C_below HR2_0.out HB.out)) HC2_0.out A6.out).mono ?_); rintro e w18 ⟨v674, rfl, ho0, hb⟩; refine ⟨_, rfl, ?_⟩; have HO675 := Aside0.mk (Kd.R_lower ho0 (below_size (lU HB))); replace BK670 := sB BK670 hb; replace BK671 := sB BK671 hb; replace BK672 := sB BK672 hb; replace HB := sL HB hb; (try clear hb); (try clear hb2); (try clear hk); (try clear hi); (try clear ho0); have hcz19_0 := q1 BK670; have hfz19_0 := blk_frozen BK670.out 0; obtain ⟨hcz20_0, hcz20_1, hcz20_2, hcz20_3, hcz20_4, hcz20_5, hcz20_6, hcz20_7, hcz20_8, hcz20_9⟩ := q10 BK672; obtain ⟨hfz20_0, hfz20_1, hfz20_2, hfz20_3, hfz20_4, hfz20_5, hfz20_6, hfz20_7, hfz20_8, hfz20_9⟩ := z10 BK672) | ((with_reducible refine gate_callee (f := 20) rfl ?_); refine gL (some 32) rfl rfl Try.func20 #[.agg #[.slice A1_0 l1_0.length c1_0], .int .i64 a3, .int .i64 a4_0] rfl ?_; (with_reducible refine (plan_Units.calls k _ _ l1_0 a3 a4_0 t677 _ (cU (Kd.C_below HR1_0.out HB.out)) HC1_0.out A8.out).mono ?_); rintro e w21 ⟨v678, rfl, ho0, hb⟩; refine ⟨_, rfl, ?_⟩; have HO679 := Aside0.mk (Kd.R_lower (Kd.R_new' ho0 (Kd.R_lt (rU HO675.out))) (below_size (lU HB))); replace HO675 := rE HO675 ho0 hb; replace BK670 := sB BK670 hb; replace BK671 := sB BK671 hb; replace BK672 := sB BK672 hb; replace HB := sL HB hb; (try clear hb); (try clear hb2); (try clear hk); (try clear hi); (try clear ho0)) | ((with_reducible refine gate_dst (N := 13) rfl ?_); refine bX (N := 13) (cs := #[.slice none 0 0]) (t := 30) ?_; intro gb680 hg w22 hbox hb; have BK680 := Aside0.mk (hbox); have GE680 := sG HB hg; have NB670_680 := sN BK670 hg; have NB680_670 := sM BK670 hg; have NB671_680 := sN BK671 hg; have NB680_671 := sM BK671 hg; have NB672_680 := sN BK672 hg; have NB680_672 := sM BK672 hg; replace HO675 := rB HO675 hb; replace HO679 := rB HO679 hb; replace BK670 := sB BK670 hb; replace BK671 := sB BK671 hb; replace BK672 := sB BK672 hb; replace HB := sL HB hb; clear hb hbox hg; obtain ⟨Ao23, co23, eo23⟩ := Kd.R_slice HO679.out; subst eo23; have hnb24 := NB680_670.out; have hnc24 := NB670_680.out; have hnb25 := NB680_671.out; have hnc25 := NB671_680.out; have hnb26 := NB680_672.out; have hnc26 := NB672_680.out; have hcz27_0 := q1 BK680; have hfz27_0 := blk_frozen BK680.out 0))
  go_loopg [14, 35] k (fun kq v14 v35 w' => ∃ (x14_1 : Int) (x35_1 : Int), v14 = .int .i64 x14_1 ∧ v35 = .int .i64 x35_1 ∧ Aside0 (plan_Right.l0 kq l0 a3 x14_1 l0 (l0.length : Int) x35_1 l2_0 a4_0 a4_1 a4_2 a4_3 a4_4 a4_5 a4_6 a4_7 a4_8 a4_9 t677 = some r) ∧ Aside0 (kq ≤ k) ∧ Aside0 (Kd.R k48 48 w' w.heap.size (fun _ => True) (.slice Ao23 t677.length co23) t677) ∧ Aside0 (w'.heap[gb670]? = some (.cells #[(.slice A1_0 l1_0.length c1_0)] 30 (0, 0))) ∧ Aside0 (w'.heap[gb671]? = some (.cells #[(.slice A2_0 l2_0.length c2_0)] 30 (0, 0))) ∧ Aside0 (w'.heap[gb672]? = some (.cells #[.int .i64 a4_0, .int .i64 a4_1, .int .i64 a4_2, .int .i64 a4_3, .int .i64 a4_4, .int .i64 a4_5, .int .i64 a4_6, .int .i64 a4_7, .int .i64 a4_8, .int .i64 a4_9] 24 (0, 0))) ∧ Aside0 (w'.heap[gb680]? = some (.cells #[(.slice Ao23 t677.length co23)] 30 (0, 0))) ∧ Aside0 (Below w.heap.size w w'))
  case atStart => exact ⟨(0), (0), eR, eR, H', ⟨Nat.le_refl _⟩, ⟨rU (Kd.R_mono (Kd.R_far (p := ⟨gb680, 0, none⟩) (Kd.R_types HO679.out BK680.out (by decide)) (fun _ hk => hk.2) (.slice Ao23 t677.length co23)) (fun _ hk => trivial))⟩, ⟨bF BK670⟩, ⟨bF BK671⟩, ⟨bF BK672⟩, ⟨by (with_reducible repeat (first | refine blk_drewN ?_ _ | refine blk_drew ?_ | refine blk_alloc ?_ _)); refine blk_put (cs := #[.slice none 0 0]) ?_ 0 _ rfl; (with_reducible repeat (first | refine blk_drewN ?_ _ | refine blk_drew ?_ | refine blk_alloc ?_ _)); exact BK680.out⟩, ⟨lU HB⟩⟩
  case round =>
   clear H'
   try clear c1
   try clear c2
   try clear p2
   try clear c7
   try clear c7b0
   try clear c7b1
   try clear c12
   try clear c13
   try clear c15
   try clear c20
   try clear c24
   try clear c25
   try clear c26
   try clear hcz14_0
   try clear hcz16_0
   try clear hcz17_0
   try clear hcz17_1
   try clear hcz17_2
   try clear hcz17_3
   try clear hcz17_4
   try clear hcz17_5
   try clear hcz17_6
   try clear hcz17_7
   try clear hcz17_8
   try clear hcz17_9
   try clear hcz19_0
   try clear hcz20_0
   try clear hcz20_1
   try clear hcz20_2
   try clear hcz20_3
   try clear hcz20_4
   try clear hcz20_5
   try clear hcz20_6
   try clear hcz20_7
   try clear hcz20_8
   try clear hcz20_9
   try clear hcz27_0
   try clear hfz14_0
   try clear hfz16_0
   try clear hfz17_0
   try clear hfz17_1
   try clear hfz17_2
   try clear hfz17_3
   try clear hfz17_4
   try clear hfz17_5
   try clear hfz17_6
   try clear hfz17_7
   try clear hfz17_8
   try clear hfz17_9
   try clear hfz19_0
   try clear hfz20_0
   try clear hfz20_1
   try clear hfz20_2
   try clear hfz20_3
   try clear hfz20_4
   try clear hfz20_5
   try clear hfz20_6
   try clear hfz20_7
   try clear hfz20_8
   try clear hfz20_9
   try clear hfz27_0
   obtain ⟨x14_1, x35_1, rfl, rfl, HA, HK1, HO_681000, BK670, BK671, BK672, BK680, HB⟩ := hrel
   cases gk with
   | zero => exact absurd HA.out (by simp [plan_Right.l0])
   | succ k1 =>
    have H := HA.out
    clear HA
    simp only [plan_Right.l0] at H
    by_cases c28 : x35_1 < (l0.length : Int)
    ·rw [if_pos c28] at H
     have c28b0 : decide (x35_1 < (l0.length : Int)) = true := decide_eq_true c28
     clear c28
     by_cases c29 : 0 ≤ x35_1
     ·rw [if_pos c29] at H
      have c29b0 : decide (0 ≤ x35_1) = true := decide_eq_true c29
      clear c29
      by_cases c30 : x35_1 < (l0.length : Int)
      ·rw [if_pos c30] at H
       have c30b0 : decide (x35_1 < (l0.length : Int)) = true := decide_eq_true c30
       clear c30
       have HC31 := Aside0.mk H
       clear H
       have p688 : 0 ≤ (x35_1 : Int) := of_decide_eq_true (by first | (with_reducible assumption) | assumption)
       have q688 : x35_1 < (l0.length : Int) := of_decide_eq_true (by first | (with_reducible assumption) | assumption)
       obtain ⟨ad688, e688, hx688_0, hx688_1⟩ := at_T48 HR0.out x35_1 p688 q688
       cases e688
       replace hx688_0 := cB HB hx688_0
       replace hx688_1 := cB HB hx688_1
       replace p688 := eq_true p688
       replace q688 := eq_true q688
       go_upto_region 9 with (first | ((with_reducible refine gate_dst (N := 16) rfl ?_); refine bX (N := 16) (cs := #[.int .i64 0, .int .i64 0]) (t := 48) ?_; intro gb689 hg w32 hbox hb; have BK689 := Aside0.mk (hbox); have GE689 := sG HB hg; have NB670_689 := sN BK670 hg; have NB689_670 := sM BK670 hg; have NB671_689 := sN BK671 hg; have NB689_671 := sM BK671 hg; have NB672_689 := sN BK672 hg; have NB689_672 := sM BK672 hg; have NB680_689 := sN BK680 hg; have NB689_680 := sM BK680 hg; replace HO_681000 := Aside0.mk (Kd.R_below (Kd.R_elderB (rU HO_681000.out) gb689 (Nat.le_of_eq hg.symm)) hb); replace BK670 := sB BK670 hb; replace BK671 := sB BK671 hb; replace BK672 := sB BK672 hb; replace BK680 := sB BK680 hb; replace HB := sL HB hb; clear hb hbox hg; have hnb33 := NB689_670.out; have hnc33 := NB670_689.out; have hnb34 := NB689_671.out; have hnc34 := NB671_689.out; have hnb35 := NB689_672.out; have hnc35 := NB672_689.out; have hnb36 := NB689_680.out; have hnc36 := NB680_689.out; obtain ⟨hcz37_0, hcz37_1⟩ := q2 BK689; obtain ⟨hfz37_0, hfz37_1⟩ := z2 BK689))
       (try simp only [Act.put, List.setIfInBounds_toArray, List.set_cons_zero, List.set_cons_succ])
       go_cut [17] (fun v17 wc => ∃ (kq : Nat) (x17_30 : Bool), v17 = .bool x17_30 ∧ Aside0 (plan_Right.j1 kq l0 a3 x14_1 x17_30 l0 (l0.length : Int) x35_1 l2_0 a4_0 a4_1 a4_2 a4_3 a4_4 a4_5 a4_6 a4_7 a4_8 a4_9 t677 ((rd_T48 l0 x35_1).f0) ((rd_T48 l0 x35_1).f1) = some r) ∧ Aside0 (kq ≤ k1) ∧ Aside0 (Kd.R k48 48 wc w.heap.size (fun k_ => k_ ≠ gb689) (.slice Ao23 t677.length co23) t677) ∧ Aside0 (wc.heap[gb670]? = some (.cells #[(.slice A1_0 l1_0.length c1_0)] 30 (0, 0))) ∧ Aside0 (wc.heap[gb671]? = some (.cells #[(.slice A2_0 l2_0.length c2_0)] 30 (0, 0))) ∧ Aside0 (wc.heap[gb672]? = some (.cells #[.int .i64 a4_0, .int .i64 a4_1, .int .i64 a4_2, .int .i64 a4_3, .int .i64 a4_4, .int .i64 a4_5, .int .i64 a4_6, .int .i64 a4_7, .int .i64 a4_8, .int .i64 a4_9] 24 (0, 0))) ∧ Aside0 (wc.heap[gb680]? = some (.cells #[(.slice Ao23 t677.length co23)] 30 (0, 0))) ∧ Aside0 (wc.heap[gb689]? = some (.cells #[.int .i64 ((rd_T48 l0 x35_1).f0), .int .i64 ((rd_T48 l0 x35_1).f1)] 48 (0, 0))) ∧ Aside0 (Below w.heap.size w wc))
       case first =>
        have H := HC31.out
        clear HC31
        by_cases c38 : ((rd_T48 l0 x35_1).f1) = 4611686018427387904
        ·rw [if_pos c38] at H
         have c38b0 : (((rd_T48 l0 x35_1).f1) == 4611686018427387904) = true := beq_iff_eq.mpr c38
         have c38b1 : (((rd_T48 l0 x35_1).f1) != 4611686018427387904) = false := bne_eq_false_iff_eq.mpr c38
         clear c38
         (first | rw [c38b0] | (simp only [i64_w, i32_w]; rw [c38b0]) | skip)
         have H' := Aside0.mk H
         clear H
         have hnb39 := NB689_670.out
         have hnc39 := NB670_689.out
         have hnb40 := NB689_671.out
         have hnc40 := NB671_689.out
         have hnb41 := NB689_672.out
         have hnc41 := NB672_689.out
         have hnb42 := NB689_680.out
         have hnc42 := NB680_689.out
         obtain ⟨hcz43_0, hcz43_1⟩ := q2 BK689
         obtain ⟨hfz43_0, hfz43_1⟩ := z2 BK689
         go_wp2
         go_meet
         case rel => exact ⟨_, (false), eR, H', ⟨by have := HK1.out; first | omega | exact Nat.le_refl _⟩, ⟨rU (Kd.R_mono (Kd.R_far (p := ⟨gb689, 1, none⟩) (Kd.R_far (p := ⟨gb689, 0, none⟩) (Kd.R_mono HO_681000.out (fun k_ hk => (⟨hk, hk.2⟩ : _ ∧ k_ ≠ gb689))) (fun _ hk => hk.2) (.int .i64 ((rd_T48 l0 x35_1).f0))) (fun _ hk => hk.2) (.int .i64 ((rd_T48 l0 x35_1).f1))) (fun _ hk => hk.1.2))⟩, ⟨bF BK670⟩, ⟨bF BK671⟩, ⟨bF BK672⟩, ⟨bF BK680⟩, ⟨by (with_reducible repeat (first | refine blk_drewN ?_ _ | refine blk_drew ?_ | refine blk_alloc ?_ _)); refine blk_put (cs := #[.int .i64 ((rd_T48 l0 x35_1).f0), .int .i64 0]) ?_ 1 _ rfl; (with_reducible repeat (first | refine blk_drewN ?_ _ | refine blk_drew ?_ | refine blk_alloc ?_ _)); refine blk_put (cs := #[.int .i64 0, .int .i64 0]) ?_ 0 _ rfl; (with_reducible repeat (first | refine blk_drewN ?_ _ | refine blk_drew ?_ | refine blk_alloc ?_ _)); exact BK689.out⟩, ⟨lU HB⟩⟩
        ·rw [if_neg c38] at H
         have c38b0 : (((rd_T48 l0 x35_1).f1) == 4611686018427387904) = false := beq_eq_false_iff_ne.mpr c38
         have c38b1 : (((rd_T48 l0 x35_1).f1) != 4611686018427387904) = true := bne_iff_ne.mpr c38
         (first | rw [c38b0] | (simp only [i64_w, i32_w]; rw [c38b0]) | skip)
         have H' := Aside0.mk H
         clear H
         have hnb44 := NB689_670.out
         have hnc44 := NB670_689.out
         have hnb45 := NB689_671.out
         have hnc45 := NB671_689.out
         have hnb46 := NB689_672.out
         have hnc46 := NB672_689.out
         have hnb47 := NB689_680.out
         have hnc47 := NB680_689.out
         obtain ⟨hcz48_0, hcz48_1⟩ := q2 BK689
         obtain ⟨hfz48_0, hfz48_1⟩ := z2 BK689
         have hnb49 := NB672_670.out
         have hnc49 := NB670_672.out
         have hnb50 := NB672_671.out
         have hnc50 := NB671_672.out
         have hnb51 := NB672_680.out
         have hnc51 := NB680_672.out
         obtain ⟨hcz52_0, hcz52_1, hcz52_2, hcz52_3, hcz52_4, hcz52_5, hcz52_6, hcz52_7, hcz52_8, hcz52_9⟩ := q10 BK672
         obtain ⟨hfz52_0, hfz52_1, hfz52_2, hfz52_3, hfz52_4, hfz52_5, hfz52_6, hfz52_7, hfz52_8, hfz52_9⟩ := z10 BK672
         go_wp2
         go_meet
         case rel => exact ⟨_, (decide ((wrap64 (((rd_T48 l0 x35_1).f1) - ((rd_T48 l0 x35_1).f0))) > a4_2)), eR, H', ⟨by have := HK1.out; first | omega | exact Nat.le_refl _⟩, ⟨rU (Kd.R_mono (Kd.R_far (p := ⟨gb689, 1, none⟩) (Kd.R_far (p := ⟨gb689, 0, none⟩) (Kd.R_mono HO_681000.out (fun k_ hk => (⟨hk, hk.2⟩ : _ ∧ k_ ≠ gb689))) (fun _ hk => hk.2) (.int .i64 ((rd_T48 l0 x35_1).f0))) (fun _ hk => hk.2) (.int .i64 ((rd_T48 l0 x35_1).f1))) (fun _ hk => hk.1.2))⟩, ⟨bF BK670⟩, ⟨bF BK671⟩, ⟨bF BK672⟩, ⟨bF BK680⟩, ⟨by (with_reducible repeat (first | refine blk_drewN ?_ _ | refine blk_drew ?_ | refine blk_alloc ?_ _)); refine blk_put (cs := #[.int .i64 ((rd_T48 l0 x35_1).f0), .int .i64 0]) ?_ 1 _ rfl; (with_reducible repeat (first | refine blk_drewN ?_ _ | refine blk_drew ?_ | refine blk_alloc ?_ _)); refine blk_put (cs := #[.int .i64 0, .int .i64 0]) ?_ 0 _ rfl; (with_reducible repeat (first | refine blk_drewN ?_ _ | refine blk_drew ?_ | refine blk_alloc ?_ _)); exact BK689.out⟩, ⟨lU HB⟩⟩
       case rest =>
        clear HC31
        try clear c1
        try clear c2
        try clear p2
        try clear c3
        try clear c4
        try clear c5
        try clear p6
        try clear q6
        try clear hx6
        try clear c7
        try clear c7b0
        try clear c7b1
        try clear c12
        try clear c13
        try clear c15
        try clear c20
        try clear c24
        try clear c25
        try clear c26
        try clear c28
        try clear c28b0
        try clear c29
        try clear c29b0
        try clear c30
        try clear c30b0
        try clear c33
        try clear c34
        try clear c35
        try clear c36
        try clear c38
        try clear c38b0
        try clear c38b1
        try clear c39
        try clear c40
        try clear c41
        try clear c42
        try clear c44
        try clear c45
        try clear c46
        try clear c47
        try clear c49
        try clear c50
        try clear c51
        try clear hcz14_0
        try clear hcz16_0
        try clear hcz17_0
        try clear hcz17_1
        try clear hcz17_2
        try clear hcz17_3
        try clear hcz17_4
        try clear hcz17_5
        try clear hcz17_6
        try clear hcz17_7
        try clear hcz17_8
        try clear hcz17_9
        try clear hcz19_0
        try clear hcz20_0
        try clear hcz20_1
        try clear hcz20_2
        try clear hcz20_3
        try clear hcz20_4
        try clear hcz20_5
        try clear hcz20_6
        try clear hcz20_7
        try clear hcz20_8
        try clear hcz20_9
        try clear hcz27_0
        try clear hcz37_0
        try clear hcz37_1
        try clear hcz43_0
        try clear hcz43_1
        try clear hcz48_0
        try clear hcz48_1
        try clear hcz52_0
        try clear hcz52_1
        try clear hcz52_2
        try clear hcz52_3
        try clear hcz52_4
        try clear hcz52_5
        try clear hcz52_6
        try clear hcz52_7
        try clear hcz52_8
        try clear hcz52_9
        try clear hfz14_0
        try clear hfz16_0
        try clear hfz17_0
        try clear hfz17_1
        try clear hfz17_2
        try clear hfz17_3
        try clear hfz17_4
        try clear hfz17_5
        try clear hfz17_6
        try clear hfz17_7
        try clear hfz17_8
        try clear hfz17_9
        try clear hfz19_0
        try clear hfz20_0
        try clear hfz20_1
        try clear hfz20_2
        try clear hfz20_3
        try clear hfz20_4
        try clear hfz20_5
        try clear hfz20_6
        try clear hfz20_7
        try clear hfz20_8
        try clear hfz20_9
        try clear hfz27_0
        try clear hfz37_0
        try clear hfz37_1
        try clear hfz43_0
        try clear hfz43_1
        try clear hfz48_0
        try clear hfz48_1
        try clear hfz52_0
        try clear hfz52_1
        try clear hfz52_2
        try clear hfz52_3
        try clear hfz52_4
        try clear hfz52_5
        try clear hfz52_6
        try clear hfz52_7
        try clear hfz52_8
        try clear hfz52_9
        try clear hx688_0
        try clear hx688_1
        try clear p2
        try clear p688
        try clear q688
        obtain ⟨kq, x17_30, rfl, HA, HJ30, HO_681000, BK670, BK671, BK672, BK680, BK689, HB⟩ := hcut
        cases kq with
        | zero => exact absurd HA.out (by simp [plan_Right.j1])
        | succ kj30 =>
         have H := HA.out
         clear HA
         simp only [plan_Right.j1] at H
         replace H := Option.bind_eq_some_iff.mp H
         obtain ⟨⟨t690, t691⟩, A530, H⟩ := H
         dsimp only at H
         have A53 := Aside0.mk A530
         clear A530
         obtain ⟨t692, A54, H⟩ := bO H
         by_cases c55 : t692 = true
         ·subst c55
          rw [if_pos rfl] at H
          by_cases c56 : ((rd_T48 l0 x35_1).f0) < x14_1
          ·rw [if_pos c56] at H
           have c56b0 : decide (((rd_T48 l0 x35_1).f0) < x14_1) = true := decide_eq_true c56
           clear c56
           obtain rfl := Option.some.inj H
           try go_wp2
           replace HO_681000 := Aside0.mk (Kd.R_drew HO_681000.out)
           replace BK670 := Aside0.mk (blk_drew BK670.out)
           replace BK671 := Aside0.mk (blk_drew BK671.out)
           replace BK672 := Aside0.mk (blk_drew BK672.out)
           replace BK680 := Aside0.mk (blk_drew BK680.out)
           replace BK689 := Aside0.mk (blk_drew BK689.out)
           replace HB := Aside0.mk (below_drew1 HB.out)
           refine start_ (n := 30) (S := fun w' => w'.cell? ⟨gb689, 0, none⟩ = some (.int .i64 ((rd_T48 l0 x35_1).f0)) ∧ w'.cell? ⟨gb689, 1, none⟩ = some (.int .i64 ((rd_T48 l0 x35_1).f1)) ∧ w'.cell? ⟨gb672, 0, none⟩ = some (.int .i64 a4_0) ∧ w'.cell? ⟨gb672, 1, none⟩ = some (.int .i64 a4_1) ∧ w'.cell? ⟨gb672, 2, none⟩ = some (.int .i64 a4_2) ∧ w'.cell? ⟨gb672, 3, none⟩ = some (.int .i64 a4_3) ∧ w'.cell? ⟨gb672, 4, none⟩ = some (.int .i64 a4_4) ∧ w'.cell? ⟨gb672, 5, none⟩ = some (.int .i64 a4_5) ∧ w'.cell? ⟨gb672, 6, none⟩ = some (.int .i64 a4_6) ∧ w'.cell? ⟨gb672, 7, none⟩ = some (.int .i64 a4_7) ∧ w'.cell? ⟨gb672, 8, none⟩ = some (.int .i64 a4_8) ∧ w'.cell? ⟨gb672, 9, none⟩ = some (.int .i64 a4_9)) (ds := []) #[false, false, false, false, false, false, false, false, false, false, false, false, false, false, false, false, false, false, false, false, false, false, false, false, false, false, false, false, false, false] (by kernel_rfl) rfl rfl ⟨(blk_cell BK689.out 0).trans rfl, (blk_cell BK689.out 1).trans rfl, (blk_cell BK672.out 0).trans rfl, (blk_cell BK672.out 1).trans rfl, (blk_cell BK672.out 2).trans rfl, (blk_cell BK672.out 3).trans rfl, (blk_cell BK672.out 4).trans rfl, (blk_cell BK672.out 5).trans rfl, (blk_cell BK672.out 6).trans rfl, (blk_cell BK672.out 7).trans rfl, (blk_cell BK672.out 8).trans rfl, (blk_cell BK672.out 9).trans rfl⟩ (fun hHeld => ?_); refine with_tabW plan_Right.tab10 plan_Right.bits10 (fun HT_ HW_ => ?_)
           generalize wc.drew = w57 at HO_681000 BK670 BK671 BK672 BK680 BK689 HB hHeld ⊢
           refine pS (i := 1) (N := some 53) (ma 30 2) rfl rfl HT_.out ?_
           refine pS (i := 3) (N := some 55) (ma 30 10) rfl rfl HT_.out ?_
           refine tS (i := 0) (N := some 52) (ma 30 11) rfl rfl HT_.out HW_.out hHeld ?_
           refine tS (i := 4) (N := some 56) (ma 30 27) rfl rfl HT_.out HW_.out hHeld ?_
           refine one_ (i := 2) (N := some 54) (ma 30 31) rfl rfl (one_of HT_.out (by kernel_rfl)) (by decide) (fun K hK => ?_)
           refine gO Try.func46 #[.int .i64 a3] rfl rfl ?_
           with_reducible refine (plan_object.calls a3 t690 t691 _ A53.out).mono ?_
           rintro e w58 ⟨rfl, hb⟩
           refine ⟨_, rfl, ?_⟩
           replace HO_681000 := rB HO_681000 hb
           replace BK670 := sB BK670 hb
           replace BK671 := sB BK671 hb
           replace BK672 := sB BK672 hb
           replace BK680 := sB BK680 hb
           replace BK689 := sB BK689 hb
           replace HB := sL HB hb
           (try clear hb)
           (try clear hb2)
           (try clear hk)
           (try clear hi)
           refine hK.out _ _ ⟨(blk_cell BK689.out 0).trans rfl, (blk_cell BK689.out 1).trans rfl, (blk_cell BK672.out 0).trans rfl, (blk_cell BK672.out 1).trans rfl, (blk_cell BK672.out 2).trans rfl, (blk_cell BK672.out 3).trans rfl, (blk_cell BK672.out 4).trans rfl, (blk_cell BK672.out 5).trans rfl, (blk_cell BK672.out 6).trans rfl, (blk_cell BK672.out 7).trans rfl, (blk_cell BK672.out 8).trans rfl, (blk_cell BK672.out 9).trans rfl⟩ (fun hHeld => ?_)
           clear hK K
           refine nP (some 54) ?_
           refine one_ (i := 5) (N := some 57) (ma 30 63) rfl rfl (one_of HT_.out (by kernel_rfl)) (by decide) (fun K hK => ?_)
           refine gO Try.func57 #[.agg #[.int .i64 ((rd_T48 l0 x35_1).f0), .int .i64 ((rd_T48 l0 x35_1).f1)], .agg #[.int .i64 t690, .int .i64 t691], .int .i64 a4_0] rfl rfl ?_
           with_reducible refine (plan_whole.calls ((rd_T48 l0 x35_1).f0) ((rd_T48 l0 x35_1).f1) t690 t691 a4_0 true _ A54.out).mono ?_
           rintro e w59 ⟨rfl, hb⟩
           refine ⟨_, rfl, ?_⟩
           replace HO_681000 := rB HO_681000 hb
           replace BK670 := sB BK670 hb
           replace BK671 := sB BK671 hb
           replace BK672 := sB BK672 hb
           replace BK680 := sB BK680 hb
           replace BK689 := sB BK689 hb
           replace HB := sL HB hb
           (try clear hb)
           (try clear hb2)
           (try clear hk)
           (try clear hi)
           refine hK.out _ _ ⟨(blk_cell BK689.out 0).trans rfl, (blk_cell BK689.out 1).trans rfl, (blk_cell BK672.out 0).trans rfl, (blk_cell BK672.out 1).trans rfl, (blk_cell BK672.out 2).trans rfl, (blk_cell BK672.out 3).trans rfl, (blk_cell BK672.out 4).trans rfl, (blk_cell BK672.out 5).trans rfl, (blk_cell BK672.out 6).trans rfl, (blk_cell BK672.out 7).trans rfl, (blk_cell BK672.out 8).trans rfl, (blk_cell BK672.out 9).trans rfl⟩ (fun hHeld => ?_)
           clear hK K
           refine nP (some 57) ?_
           refine pS (i := 6) (N := some 58) (ma 30 127) rfl rfl HT_.out ?_
           refine pS (i := 7) (N := some 59) (ma 30 255) rfl rfl HT_.out ?_
           refine pS (i := 8) (N := some 60) (ma 30 511) rfl rfl HT_.out ?_
           refine pS (i := 10) (N := some 62) (ma 30 1535) rfl rfl HT_.out ?_
           refine tS (i := 9) (N := some 61) (ma 30 2047) rfl rfl HT_.out HW_.out hHeld ?_
           refine pS (i := 11) (N := some 63) (ma 30 4095) rfl rfl HT_.out ?_
           refine pS (i := 12) (N := some 64) (ma 30 8191) rfl rfl HT_.out ?_
           refine pS (i := 13) (N := some 65) (ma 30 16383) rfl rfl HT_.out ?_
           refine pU (i := 14) (N := some 66) (ma 30 32767) rfl rfl HT_.out ?_
           refine pS (i := 15) (N := some 67) (ma 30 65535) rfl rfl HT_.out ?_
           refine pS (i := 16) (N := some 68) (ma 30 131071) rfl rfl HT_.out ?_
           refine pU (i := 17) (N := some 69) (ma 30 262143) rfl rfl HT_.out ?_
           refine pU (i := 18) (N := some 70) (ma 30 524287) rfl rfl HT_.out ?_
           refine pU (i := 19) (N := some 71) (ma 30 1048575) rfl rfl HT_.out ?_
           refine pU (i := 20) (N := some 72) (ma 30 2097151) rfl rfl HT_.out ?_
           refine pS (i := 21) (N := some 73) (ma 30 4194303) rfl rfl HT_.out ?_
           refine pS (i := 22) (N := some 74) (ma 30 8388607) rfl rfl HT_.out ?_
           refine pU (i := 23) (N := some 75) (ma 30 16777215) rfl rfl HT_.out ?_
           refine pU (i := 24) (N := some 76) (ma 30 33554431) rfl rfl HT_.out ?_
           refine pU (i := 25) (N := some 77) (ma 30 67108863) rfl rfl HT_.out ?_
           refine pU (i := 26) (N := some 78) (ma 30 134217727) rfl rfl HT_.out ?_
           refine pU (i := 27) (N := some 79) (ma 30 268435455) rfl rfl HT_.out ?_
           refine pU (i := 28) (N := some 80) (ma 30 536870911) rfl rfl HT_.out ?_
           refine pS (i := 29) (N := some 81) (ma 30 1073741823) rfl rfl HT_.out ?_
           refine done_ (done_of HT_.out (by kernel_rfl)) ?_
           try go_wp2
           go_ret
           exact ⟨eW, lU HB⟩
          ·rw [if_neg c56] at H
           have c56b0 : decide (((rd_T48 l0 x35_1).f0) < x14_1) = false := decide_eq_false c56
           clear c56
           by_cases c60 : x17_30 = true
           ·subst c60
            rw [if_pos rfl] at H
            obtain rfl := Option.some.inj H
            try go_wp2
            replace HO_681000 := Aside0.mk (Kd.R_drew HO_681000.out)
            replace BK670 := Aside0.mk (blk_drew BK670.out)
            replace BK671 := Aside0.mk (blk_drew BK671.out)
            replace BK672 := Aside0.mk (blk_drew BK672.out)
            replace BK680 := Aside0.mk (blk_drew BK680.out)
            replace BK689 := Aside0.mk (blk_drew BK689.out)
            replace HB := Aside0.mk (below_drew1 HB.out)
            refine start_ (n := 30) (S := fun w' => w'.cell? ⟨gb689, 0, none⟩ = some (.int .i64 ((rd_T48 l0 x35_1).f0)) ∧ w'.cell? ⟨gb689, 1, none⟩ = some (.int .i64 ((rd_T48 l0 x35_1).f1)) ∧ w'.cell? ⟨gb672, 0, none⟩ = some (.int .i64 a4_0) ∧ w'.cell? ⟨gb672, 1, none⟩ = some (.int .i64 a4_1) ∧ w'.cell? ⟨gb672, 2, none⟩ = some (.int .i64 a4_2) ∧ w'.cell? ⟨gb672, 3, none⟩ = some (.int .i64 a4_3) ∧ w'.cell? ⟨gb672, 4, none⟩ = some (.int .i64 a4_4) ∧ w'.cell? ⟨gb672, 5, none⟩ = some (.int .i64 a4_5) ∧ w'.cell? ⟨gb672, 6, none⟩ = some (.int .i64 a4_6) ∧ w'.cell? ⟨gb672, 7, none⟩ = some (.int .i64 a4_7) ∧ w'.cell? ⟨gb672, 8, none⟩ = some (.int .i64 a4_8) ∧ w'.cell? ⟨gb672, 9, none⟩ = some (.int .i64 a4_9)) (ds := []) #[false, false, false, false, false, false, false, false, false, false, false, false, false, false, false, false, false, false, false, false, false, false, false, false, false, false, false, false, false, false] (by kernel_rfl) rfl rfl ⟨(blk_cell BK689.out 0).trans rfl, (blk_cell BK689.out 1).trans rfl, (blk_cell BK672.out 0).trans rfl, (blk_cell BK672.out 1).trans rfl, (blk_cell BK672.out 2).trans rfl, (blk_cell BK672.out 3).trans rfl, (blk_cell BK672.out 4).trans rfl, (blk_cell BK672.out 5).trans rfl, (blk_cell BK672.out 6).trans rfl, (blk_cell BK672.out 7).trans rfl, (blk_cell BK672.out 8).trans rfl, (blk_cell BK672.out 9).trans rfl⟩ (fun hHeld => ?_); refine with_tabW plan_Right.tab10 plan_Right.bits10 (fun HT_ HW_ => ?_)
            generalize wc.drew = w61 at HO_681000 BK670 BK671 BK672 BK680 BK689 HB hHeld ⊢
            refine pS (i := 1) (N := some 53) (ma 30 2) rfl rfl HT_.out ?_
            refine pS (i := 3) (N := some 55) (ma 30 10) rfl rfl HT_.out ?_
            refine tS (i := 0) (N := some 52) (ma 30 11) rfl rfl HT_.out HW_.out hHeld ?_
            refine tS (i := 4) (N := some 56) (ma 30 27) rfl rfl HT_.out HW_.out hHeld ?_
            refine one_ (i := 2) (N := some 54) (ma 30 31) rfl rfl (one_of HT_.out (by kernel_rfl)) (by decide) (fun K hK => ?_)
            refine gO Try.func46 #[.int .i64 a3] rfl rfl ?_
            with_reducible refine (plan_object.calls a3 t690 t691 _ A53.out).mono ?_
            rintro e w62 ⟨rfl, hb⟩
            refine ⟨_, rfl, ?_⟩
            replace HO_681000 := rB HO_681000 hb
            replace BK670 := sB BK670 hb
            replace BK671 := sB BK671 hb
            replace BK672 := sB BK672 hb
            replace BK680 := sB BK680 hb
            replace BK689 := sB BK689 hb
            replace HB := sL HB hb
            (try clear hb)
            (try clear hb2)
            (try clear hk)
            (try clear hi)
            refine hK.out _ _ ⟨(blk_cell BK689.out 0).trans rfl, (blk_cell BK689.out 1).trans rfl, (blk_cell BK672.out 0).trans rfl, (blk_cell BK672.out 1).trans rfl, (blk_cell BK672.out 2).trans rfl, (blk_cell BK672.out 3).trans rfl, (blk_cell BK672.out 4).trans rfl, (blk_cell BK672.out 5).trans rfl, (blk_cell BK672.out 6).trans rfl, (blk_cell BK672.out 7).trans rfl, (blk_cell BK672.out 8).trans rfl, (blk_cell BK672.out 9).trans rfl⟩ (fun hHeld => ?_)
            clear hK K
            refine nP (some 54) ?_
            refine one_ (i := 5) (N := some 57) (ma 30 63) rfl rfl (one_of HT_.out (by kernel_rfl)) (by decide) (fun K hK => ?_)
            refine gO Try.func57 #[.agg #[.int .i64 ((rd_T48 l0 x35_1).f0), .int .i64 ((rd_T48 l0 x35_1).f1)], .agg #[.int .i64 t690, .int .i64 t691], .int .i64 a4_0] rfl rfl ?_
            with_reducible refine (plan_whole.calls ((rd_T48 l0 x35_1).f0) ((rd_T48 l0 x35_1).f1) t690 t691 a4_0 true _ A54.out).mono ?_
            rintro e w63 ⟨rfl, hb⟩
            refine ⟨_, rfl, ?_⟩
            replace HO_681000 := rB HO_681000 hb
            replace BK670 := sB BK670 hb
            replace BK671 := sB BK671 hb
            replace BK672 := sB BK672 hb
            replace BK680 := sB BK680 hb
            replace BK689 := sB BK689 hb
            replace HB := sL HB hb
            (try clear hb)
            (try clear hb2)
            (try clear hk)
            (try clear hi)
            refine hK.out _ _ ⟨(blk_cell BK689.out 0).trans rfl, (blk_cell BK689.out 1).trans rfl, (blk_cell BK672.out 0).trans rfl, (blk_cell BK672.out 1).trans rfl, (blk_cell BK672.out 2).trans rfl, (blk_cell BK672.out 3).trans rfl, (blk_cell BK672.out 4).trans rfl, (blk_cell BK672.out 5).trans rfl, (blk_cell BK672.out 6).trans rfl, (blk_cell BK672.out 7).trans rfl, (blk_cell BK672.out 8).trans rfl, (blk_cell BK672.out 9).trans rfl⟩ (fun hHeld => ?_)
            clear hK K
            refine nP (some 57) ?_
            refine pS (i := 6) (N := some 58) (ma 30 127) rfl rfl HT_.out ?_
            refine pS (i := 7) (N := some 59) (ma 30 255) rfl rfl HT_.out ?_
            refine pS (i := 8) (N := some 60) (ma 30 511) rfl rfl HT_.out ?_
            refine pS (i := 10) (N := some 62) (ma 30 1535) rfl rfl HT_.out ?_
            refine tS (i := 9) (N := some 61) (ma 30 2047) rfl rfl HT_.out HW_.out hHeld ?_
            refine pS (i := 11) (N := some 63) (ma 30 4095) rfl rfl HT_.out ?_
            refine pS (i := 12) (N := some 64) (ma 30 8191) rfl rfl HT_.out ?_
            refine pS (i := 13) (N := some 65) (ma 30 16383) rfl rfl HT_.out ?_
            refine pS (i := 14) (N := some 66) (ma 30 32767) rfl rfl HT_.out ?_
            refine pS (i := 15) (N := some 67) (ma 30 65535) rfl rfl HT_.out ?_
            refine pS (i := 16) (N := some 68) (ma 30 131071) rfl rfl HT_.out ?_
            refine pU (i := 17) (N := some 69) (ma 30 262143) rfl rfl HT_.out ?_
            refine pU (i := 18) (N := some 70) (ma 30 524287) rfl rfl HT_.out ?_
            refine pU (i := 19) (N := some 71) (ma 30 1048575) rfl rfl HT_.out ?_
            refine pU (i := 20) (N := some 72) (ma 30 2097151) rfl rfl HT_.out ?_
            refine pS (i := 21) (N := some 73) (ma 30 4194303) rfl rfl HT_.out ?_
            refine pS (i := 22) (N := some 74) (ma 30 8388607) rfl rfl HT_.out ?_
            refine pU (i := 23) (N := some 75) (ma 30 16777215) rfl rfl HT_.out ?_
            refine pU (i := 24) (N := some 76) (ma 30 33554431) rfl rfl HT_.out ?_
            refine pU (i := 25) (N := some 77) (ma 30 67108863) rfl rfl HT_.out ?_
            refine pU (i := 26) (N := some 78) (ma 30 134217727) rfl rfl HT_.out ?_
            refine pU (i := 27) (N := some 79) (ma 30 268435455) rfl rfl HT_.out ?_
            refine pU (i := 28) (N := some 80) (ma 30 536870911) rfl rfl HT_.out ?_
            refine pS (i := 29) (N := some 81) (ma 30 1073741823) rfl rfl HT_.out ?_
            refine done_ (done_of HT_.out (by kernel_rfl)) ?_
            try go_wp2
            go_ret
            exact ⟨eW, lU HB⟩
           ·replace c60 := Bool.eq_false_iff.mpr c60
            subst c60
            rw [if_neg (show ¬ (false = true) by decide)] at H
            obtain ⟨t693, A64, H⟩ := bO H
            by_cases c65 : t693 = true
            ·subst c65
             rw [if_pos rfl] at H
             obtain ⟨t694, A66, H⟩ := bO H
             by_cases c67 : t694 > a4_1
             ·rw [if_pos c67] at H
              have c67b0 : decide (a4_1 < t694) = true := decide_eq_true c67
              clear c67
              obtain rfl := Option.some.inj H
              try go_wp2
              replace HO_681000 := Aside0.mk (Kd.R_drew HO_681000.out)
              replace BK670 := Aside0.mk (blk_drew BK670.out)
              replace BK671 := Aside0.mk (blk_drew BK671.out)
              replace BK672 := Aside0.mk (blk_drew BK672.out)
              replace BK680 := Aside0.mk (blk_drew BK680.out)
              replace BK689 := Aside0.mk (blk_drew BK689.out)
              replace HB := Aside0.mk (below_drew1 HB.out)
              refine start_ (n := 30) (S := fun w' => w'.cell? ⟨gb689, 0, none⟩ = some (.int .i64 ((rd_T48 l0 x35_1).f0)) ∧ w'.cell? ⟨gb689, 1, none⟩ = some (.int .i64 ((rd_T48 l0 x35_1).f1)) ∧ w'.cell? ⟨gb672, 0, none⟩ = some (.int .i64 a4_0) ∧ w'.cell? ⟨gb672, 1, none⟩ = some (.int .i64 a4_1) ∧ w'.cell? ⟨gb672, 2, none⟩ = some (.int .i64 a4_2) ∧ w'.cell? ⟨gb672, 3, none⟩ = some (.int .i64 a4_3) ∧ w'.cell? ⟨gb672, 4, none⟩ = some (.int .i64 a4_4) ∧ w'.cell? ⟨gb672, 5, none⟩ = some (.int .i64 a4_5) ∧ w'.cell? ⟨gb672, 6, none⟩ = some (.int .i64 a4_6) ∧ w'.cell? ⟨gb672, 7, none⟩ = some (.int .i64 a4_7) ∧ w'.cell? ⟨gb672, 8, none⟩ = some (.int .i64 a4_8) ∧ w'.cell? ⟨gb672, 9, none⟩ = some (.int .i64 a4_9) ∧ w'.cell? ⟨gb671, 0, none⟩ = some (.slice A2_0 l2_0.length c2_0) ∧ w'.cell? ⟨gb680, 0, none⟩ = some (.slice Ao23 t677.length co23)) (ds := []) #[false, false, false, false, false, false, false, false, false, false, false, false, false, false, false, false, false, false, false, false, false, false, false, false, false, false, false, false, false, false] (by kernel_rfl) rfl rfl ⟨(blk_cell BK689.out 0).trans rfl, (blk_cell BK689.out 1).trans rfl, (blk_cell BK672.out 0).trans rfl, (blk_cell BK672.out 1).trans rfl, (blk_cell BK672.out 2).trans rfl, (blk_cell BK672.out 3).trans rfl, (blk_cell BK672.out 4).trans rfl, (blk_cell BK672.out 5).trans rfl, (blk_cell BK672.out 6).trans rfl, (blk_cell BK672.out 7).trans rfl, (blk_cell BK672.out 8).trans rfl, (blk_cell BK672.out 9).trans rfl, (blk_cell BK671.out 0).trans rfl, (blk_cell BK680.out 0).trans rfl⟩ (fun hHeld => ?_); refine with_tabW plan_Right.tab10 plan_Right.bits10 (fun HT_ HW_ => ?_)
              generalize wc.drew = w68 at HO_681000 BK670 BK671 BK672 BK680 BK689 HB hHeld ⊢
              refine pS (i := 1) (N := some 53) (ma 30 2) rfl rfl HT_.out ?_
              refine pS (i := 3) (N := some 55) (ma 30 10) rfl rfl HT_.out ?_
              refine tS (i := 0) (N := some 52) (ma 30 11) rfl rfl HT_.out HW_.out hHeld ?_
              refine tS (i := 4) (N := some 56) (ma 30 27) rfl rfl HT_.out HW_.out hHeld ?_
              refine one_ (i := 2) (N := some 54) (ma 30 31) rfl rfl (one_of HT_.out (by kernel_rfl)) (by decide) (fun K hK => ?_)
              refine gO Try.func46 #[.int .i64 a3] rfl rfl ?_
              with_reducible refine (plan_object.calls a3 t690 t691 _ A53.out).mono ?_
              rintro e w69 ⟨rfl, hb⟩
              refine ⟨_, rfl, ?_⟩
              replace HO_681000 := rB HO_681000 hb
              replace BK670 := sB BK670 hb
              replace BK671 := sB BK671 hb
              replace BK672 := sB BK672 hb
              replace BK680 := sB BK680 hb
              replace BK689 := sB BK689 hb
              replace HB := sL HB hb
              (try clear hb)
              (try clear hb2)
              (try clear hk)
              (try clear hi)
              refine hK.out _ _ ⟨(blk_cell BK689.out 0).trans rfl, (blk_cell BK689.out 1).trans rfl, (blk_cell BK672.out 0).trans rfl, (blk_cell BK672.out 1).trans rfl, (blk_cell BK672.out 2).trans rfl, (blk_cell BK672.out 3).trans rfl, (blk_cell BK672.out 4).trans rfl, (blk_cell BK672.out 5).trans rfl, (blk_cell BK672.out 6).trans rfl, (blk_cell BK672.out 7).trans rfl, (blk_cell BK672.out 8).trans rfl, (blk_cell BK672.out 9).trans rfl, (blk_cell BK671.out 0).trans rfl, (blk_cell BK680.out 0).trans rfl⟩ (fun hHeld => ?_)
              clear hK K
              refine nP (some 54) ?_
              refine one_ (i := 5) (N := some 57) (ma 30 63) rfl rfl (one_of HT_.out (by kernel_rfl)) (by decide) (fun K hK => ?_)
              refine gO Try.func57 #[.agg #[.int .i64 ((rd_T48 l0 x35_1).f0), .int .i64 ((rd_T48 l0 x35_1).f1)], .agg #[.int .i64 t690, .int .i64 t691], .int .i64 a4_0] rfl rfl ?_
              with_reducible refine (plan_whole.calls ((rd_T48 l0 x35_1).f0) ((rd_T48 l0 x35_1).f1) t690 t691 a4_0 true _ A54.out).mono ?_
              rintro e w70 ⟨rfl, hb⟩
              refine ⟨_, rfl, ?_⟩
              replace HO_681000 := rB HO_681000 hb
              replace BK670 := sB BK670 hb
              replace BK671 := sB BK671 hb
              replace BK672 := sB BK672 hb
              replace BK680 := sB BK680 hb
              replace BK689 := sB BK689 hb
              replace HB := sL HB hb
              (try clear hb)
              (try clear hb2)
              (try clear hk)
              (try clear hi)
              refine hK.out _ _ ⟨(blk_cell BK689.out 0).trans rfl, (blk_cell BK689.out 1).trans rfl, (blk_cell BK672.out 0).trans rfl, (blk_cell BK672.out 1).trans rfl, (blk_cell BK672.out 2).trans rfl, (blk_cell BK672.out 3).trans rfl, (blk_cell BK672.out 4).trans rfl, (blk_cell BK672.out 5).trans rfl, (blk_cell BK672.out 6).trans rfl, (blk_cell BK672.out 7).trans rfl, (blk_cell BK672.out 8).trans rfl, (blk_cell BK672.out 9).trans rfl, (blk_cell BK671.out 0).trans rfl, (blk_cell BK680.out 0).trans rfl⟩ (fun hHeld => ?_)
              clear hK K
              refine nP (some 57) ?_
              refine pS (i := 6) (N := some 58) (ma 30 127) rfl rfl HT_.out ?_
              refine pS (i := 7) (N := some 59) (ma 30 255) rfl rfl HT_.out ?_
              refine pS (i := 8) (N := some 60) (ma 30 511) rfl rfl HT_.out ?_
              refine pS (i := 10) (N := some 62) (ma 30 1535) rfl rfl HT_.out ?_
              refine tS (i := 9) (N := some 61) (ma 30 2047) rfl rfl HT_.out HW_.out hHeld ?_
              refine pS (i := 11) (N := some 63) (ma 30 4095) rfl rfl HT_.out ?_
              refine pS (i := 12) (N := some 64) (ma 30 8191) rfl rfl HT_.out ?_
              refine pS (i := 13) (N := some 65) (ma 30 16383) rfl rfl HT_.out ?_
              refine pS (i := 14) (N := some 66) (ma 30 32767) rfl rfl HT_.out ?_
              refine pS (i := 15) (N := some 67) (ma 30 65535) rfl rfl HT_.out ?_
              refine pS (i := 16) (N := some 68) (ma 30 131071) rfl rfl HT_.out ?_
              refine tS (i := 17) (N := some 69) (ma 30 262143) rfl rfl HT_.out HW_.out hHeld ?_
              refine tS (i := 18) (N := some 70) (ma 30 524287) rfl rfl HT_.out HW_.out hHeld ?_
              refine one_ (i := 19) (N := some 71) (ma 30 1048575) rfl rfl (one_of HT_.out (by kernel_rfl)) (by decide) (fun K hK => ?_)
              refine gO Try.func58 #[.agg #[.slice A2_0 l2_0.length c2_0], .agg #[.int .i64 ((rd_T48 l0 x35_1).f0), .int .i64 ((rd_T48 l0 x35_1).f1)]] rfl rfl ?_
              with_reducible refine (ranges_Set_Holds.calls _ _ l2_0 ((rd_T48 l0 x35_1).f0) ((rd_T48 l0 x35_1).f1) true _ (cU (Kd.C_below HR2_0.out HB.out)) HC2_0.out A64.out).mono ?_
              rintro e w71 ⟨rfl, hb⟩
              refine ⟨_, rfl, ?_⟩
              replace HO_681000 := rB HO_681000 hb
              replace BK670 := sB BK670 hb
              replace BK671 := sB BK671 hb
              replace BK672 := sB BK672 hb
              replace BK680 := sB BK680 hb
              replace BK689 := sB BK689 hb
              replace HB := sL HB hb
              (try clear hb)
              (try clear hb2)
              (try clear hk)
              (try clear hi)
              refine hK.out _ _ ⟨(blk_cell BK689.out 0).trans rfl, (blk_cell BK689.out 1).trans rfl, (blk_cell BK672.out 0).trans rfl, (blk_cell BK672.out 1).trans rfl, (blk_cell BK672.out 2).trans rfl, (blk_cell BK672.out 3).trans rfl, (blk_cell BK672.out 4).trans rfl, (blk_cell BK672.out 5).trans rfl, (blk_cell BK672.out 6).trans rfl, (blk_cell BK672.out 7).trans rfl, (blk_cell BK672.out 8).trans rfl, (blk_cell BK672.out 9).trans rfl, (blk_cell BK671.out 0).trans rfl, (blk_cell BK680.out 0).trans rfl⟩ (fun hHeld => ?_)
              clear hK K
              refine nP (some 71) ?_
              refine pS (i := 20) (N := some 72) (ma 30 2097151) rfl rfl HT_.out ?_
              refine pS (i := 21) (N := some 73) (ma 30 4194303) rfl rfl HT_.out ?_
              refine pS (i := 22) (N := some 74) (ma 30 8388607) rfl rfl HT_.out ?_
              refine pS (i := 26) (N := some 78) (ma 30 75497471) rfl rfl HT_.out ?_
              refine tS (i := 23) (N := some 75) (ma 30 83886079) rfl rfl HT_.out HW_.out hHeld ?_
              refine tS (i := 24) (N := some 76) (ma 30 100663295) rfl rfl HT_.out HW_.out hHeld ?_
              refine tS (i := 27) (N := some 79) (ma 30 234881023) rfl rfl HT_.out HW_.out hHeld ?_
              refine one_ (i := 25) (N := some 77) (ma 30 268435455) rfl rfl (one_of HT_.out (by kernel_rfl)) (by decide) (fun K hK => ?_)
              refine gO Try.func23 #[.agg #[.int .i64 ((rd_T48 l0 x35_1).f0), .int .i64 ((rd_T48 l0 x35_1).f1)], .agg #[.slice Ao23 t677.length co23]] rfl rfl ?_
              with_reducible refine (plan_Waste.calls kj30 ((rd_T48 l0 x35_1).f0) ((rd_T48 l0 x35_1).f1) _ _ t677 t694 _ (cU (rC HO_681000)) (rN HO_681000) A66.out).mono ?_
              rintro e w72 ⟨rfl, hb⟩
              refine ⟨_, rfl, ?_⟩
              replace HO_681000 := rB HO_681000 hb
              replace BK670 := sB BK670 hb
              replace BK671 := sB BK671 hb
              replace BK672 := sB BK672 hb
              replace BK680 := sB BK680 hb
              replace BK689 := sB BK689 hb
              replace HB := sL HB hb
              (try clear hb)
              (try clear hb2)
              (try clear hk)
              (try clear hi)
              refine hK.out _ _ ⟨(blk_cell BK689.out 0).trans rfl, (blk_cell BK689.out 1).trans rfl, (blk_cell BK672.out 0).trans rfl, (blk_cell BK672.out 1).trans rfl, (blk_cell BK672.out 2).trans rfl, (blk_cell BK672.out 3).trans rfl, (blk_cell BK672.out 4).trans rfl, (blk_cell BK672.out 5).trans rfl, (blk_cell BK672.out 6).trans rfl, (blk_cell BK672.out 7).trans rfl, (blk_cell BK672.out 8).trans rfl, (blk_cell BK672.out 9).trans rfl, (blk_cell BK671.out 0).trans rfl, (blk_cell BK680.out 0).trans rfl⟩ (fun hHeld => ?_)
              clear hK K
              refine nP (some 77) ?_
              refine pS (i := 28) (N := some 80) (ma 30 536870911) rfl rfl HT_.out ?_
              refine pS (i := 29) (N := some 81) (ma 30 1073741823) rfl rfl HT_.out ?_
              refine done_ (done_of HT_.out (by kernel_rfl)) ?_
              try go_wp2
              go_ret
              exact ⟨eW, lU HB⟩
             ·rw [if_neg c67] at H
              have c67b0 : decide (a4_1 < t694) = false := decide_eq_false c67
              clear c67
              have H' := Aside0.mk H
              clear H
              try go_wp2
              replace HO_681000 := Aside0.mk (Kd.R_drew HO_681000.out)
              replace BK670 := Aside0.mk (blk_drew BK670.out)
              replace BK671 := Aside0.mk (blk_drew BK671.out)
              replace BK672 := Aside0.mk (blk_drew BK672.out)
              replace BK680 := Aside0.mk (blk_drew BK680.out)
              replace BK689 := Aside0.mk (blk_drew BK689.out)
              replace HB := Aside0.mk (below_drew1 HB.out)
              refine start_ (n := 30) (S := fun w' => w'.cell? ⟨gb689, 0, none⟩ = some (.int .i64 ((rd_T48 l0 x35_1).f0)) ∧ w'.cell? ⟨gb689, 1, none⟩ = some (.int .i64 ((rd_T48 l0 x35_1).f1)) ∧ w'.cell? ⟨gb672, 0, none⟩ = some (.int .i64 a4_0) ∧ w'.cell? ⟨gb672, 1, none⟩ = some (.int .i64 a4_1) ∧ w'.cell? ⟨gb672, 2, none⟩ = some (.int .i64 a4_2) ∧ w'.cell? ⟨gb672, 3, none⟩ = some (.int .i64 a4_3) ∧ w'.cell? ⟨gb672, 4, none⟩ = some (.int .i64 a4_4) ∧ w'.cell? ⟨gb672, 5, none⟩ = some (.int .i64 a4_5) ∧ w'.cell? ⟨gb672, 6, none⟩ = some (.int .i64 a4_6) ∧ w'.cell? ⟨gb672, 7, none⟩ = some (.int .i64 a4_7) ∧ w'.cell? ⟨gb672, 8, none⟩ = some (.int .i64 a4_8) ∧ w'.cell? ⟨gb672, 9, none⟩ = some (.int .i64 a4_9) ∧ w'.cell? ⟨gb671, 0, none⟩ = some (.slice A2_0 l2_0.length c2_0) ∧ w'.cell? ⟨gb680, 0, none⟩ = some (.slice Ao23 t677.length co23)) (ds := []) #[false, false, false, false, false, false, false, false, false, false, false, false, false, false, false, false, false, false, false, false, false, false, false, false, false, false, false, false, false, false] (by kernel_rfl) rfl rfl ⟨(blk_cell BK689.out 0).trans rfl, (blk_cell BK689.out 1).trans rfl, (blk_cell BK672.out 0).trans rfl, (blk_cell BK672.out 1).trans rfl, (blk_cell BK672.out 2).trans rfl, (blk_cell BK672.out 3).trans rfl, (blk_cell BK672.out 4).trans rfl, (blk_cell BK672.out 5).trans rfl, (blk_cell BK672.out 6).trans rfl, (blk_cell BK672.out 7).trans rfl, (blk_cell BK672.out 8).trans rfl, (blk_cell BK672.out 9).trans rfl, (blk_cell BK671.out 0).trans rfl, (blk_cell BK680.out 0).trans rfl⟩ (fun hHeld => ?_); refine with_tabW plan_Right.tab10 plan_Right.bits10 (fun HT_ HW_ => ?_)
              generalize wc.drew = w73 at HO_681000 BK670 BK671 BK672 BK680 BK689 HB hHeld ⊢
              refine pS (i := 1) (N := some 53) (ma 30 2) rfl rfl HT_.out ?_
              refine pS (i := 3) (N := some 55) (ma 30 10) rfl rfl HT_.out ?_
              refine tS (i := 0) (N := some 52) (ma 30 11) rfl rfl HT_.out HW_.out hHeld ?_
              refine tS (i := 4) (N := some 56) (ma 30 27) rfl rfl HT_.out HW_.out hHeld ?_
              refine one_ (i := 2) (N := some 54) (ma 30 31) rfl rfl (one_of HT_.out (by kernel_rfl)) (by decide) (fun K hK => ?_)
              refine gO Try.func46 #[.int .i64 a3] rfl rfl ?_
              with_reducible refine (plan_object.calls a3 t690 t691 _ A53.out).mono ?_
              rintro e w74 ⟨rfl, hb⟩
              refine ⟨_, rfl, ?_⟩
              replace HO_681000 := rB HO_681000 hb
              replace BK670 := sB BK670 hb
              replace BK671 := sB BK671 hb
              replace BK672 := sB BK672 hb
              replace BK680 := sB BK680 hb
              replace BK689 := sB BK689 hb
              replace HB := sL HB hb
              (try clear hb)
              (try clear hb2)
              (try clear hk)
              (try clear hi)
              refine hK.out _ _ ⟨(blk_cell BK689.out 0).trans rfl, (blk_cell BK689.out 1).trans rfl, (blk_cell BK672.out 0).trans rfl, (blk_cell BK672.out 1).trans rfl, (blk_cell BK672.out 2).trans rfl, (blk_cell BK672.out 3).trans rfl, (blk_cell BK672.out 4).trans rfl, (blk_cell BK672.out 5).trans rfl, (blk_cell BK672.out 6).trans rfl, (blk_cell BK672.out 7).trans rfl, (blk_cell BK672.out 8).trans rfl, (blk_cell BK672.out 9).trans rfl, (blk_cell BK671.out 0).trans rfl, (blk_cell BK680.out 0).trans rfl⟩ (fun hHeld => ?_)
              clear hK K
              refine nP (some 54) ?_
              refine one_ (i := 5) (N := some 57) (ma 30 63) rfl rfl (one_of HT_.out (by kernel_rfl)) (by decide) (fun K hK => ?_)
              refine gO Try.func57 #[.agg #[.int .i64 ((rd_T48 l0 x35_1).f0), .int .i64 ((rd_T48 l0 x35_1).f1)], .agg #[.int .i64 t690, .int .i64 t691], .int .i64 a4_0] rfl rfl ?_
              with_reducible refine (plan_whole.calls ((rd_T48 l0 x35_1).f0) ((rd_T48 l0 x35_1).f1) t690 t691 a4_0 true _ A54.out).mono ?_
              rintro e w75 ⟨rfl, hb⟩
              refine ⟨_, rfl, ?_⟩
              replace HO_681000 := rB HO_681000 hb
              replace BK670 := sB BK670 hb
              replace BK671 := sB BK671 hb
              replace BK672 := sB BK672 hb
              replace BK680 := sB BK680 hb
              replace BK689 := sB BK689 hb
              replace HB := sL HB hb
              (try clear hb)
              (try clear hb2)
              (try clear hk)
              (try clear hi)
              refine hK.out _ _ ⟨(blk_cell BK689.out 0).trans rfl, (blk_cell BK689.out 1).trans rfl, (blk_cell BK672.out 0).trans rfl, (blk_cell BK672.out 1).trans rfl, (blk_cell BK672.out 2).trans rfl, (blk_cell BK672.out 3).trans rfl, (blk_cell BK672.out 4).trans rfl, (blk_cell BK672.out 5).trans rfl, (blk_cell BK672.out 6).trans rfl, (blk_cell BK672.out 7).trans rfl, (blk_cell BK672.out 8).trans rfl, (blk_cell BK672.out 9).trans rfl, (blk_cell BK671.out 0).trans rfl, (blk_cell BK680.out 0).trans rfl⟩ (fun hHeld => ?_)
              clear hK K
              refine nP (some 57) ?_
              refine pS (i := 6) (N := some 58) (ma 30 127) rfl rfl HT_.out ?_
              refine pS (i := 7) (N := some 59) (ma 30 255) rfl rfl HT_.out ?_
              refine pS (i := 8) (N := some 60) (ma 30 511) rfl rfl HT_.out ?_
              refine pS (i := 10) (N := some 62) (ma 30 1535) rfl rfl HT_.out ?_
              refine tS (i := 9) (N := some 61) (ma 30 2047) rfl rfl HT_.out HW_.out hHeld ?_
              refine pS (i := 11) (N := some 63) (ma 30 4095) rfl rfl HT_.out ?_
              refine pS (i := 12) (N := some 64) (ma 30 8191) rfl rfl HT_.out ?_
              refine pS (i := 13) (N := some 65) (ma 30 16383) rfl rfl HT_.out ?_
              refine pS (i := 14) (N := some 66) (ma 30 32767) rfl rfl HT_.out ?_
              refine pS (i := 15) (N := some 67) (ma 30 65535) rfl rfl HT_.out ?_
              refine pS (i := 16) (N := some 68) (ma 30 131071) rfl rfl HT_.out ?_
              refine tS (i := 17) (N := some 69) (ma 30 262143) rfl rfl HT_.out HW_.out hHeld ?_
              refine tS (i := 18) (N := some 70) (ma 30 524287) rfl rfl HT_.out HW_.out hHeld ?_
              refine one_ (i := 19) (N := some 71) (ma 30 1048575) rfl rfl (one_of HT_.out (by kernel_rfl)) (by decide) (fun K hK => ?_)
              refine gO Try.func58 #[.agg #[.slice A2_0 l2_0.length c2_0], .agg #[.int .i64 ((rd_T48 l0 x35_1).f0), .int .i64 ((rd_T48 l0 x35_1).f1)]] rfl rfl ?_
              with_reducible refine (ranges_Set_Holds.calls _ _ l2_0 ((rd_T48 l0 x35_1).f0) ((rd_T48 l0 x35_1).f1) true _ (cU (Kd.C_below HR2_0.out HB.out)) HC2_0.out A64.out).mono ?_
              rintro e w76 ⟨rfl, hb⟩
              refine ⟨_, rfl, ?_⟩
              replace HO_681000 := rB HO_681000 hb
              replace BK670 := sB BK670 hb
              replace BK671 := sB BK671 hb
              replace BK672 := sB BK672 hb
              replace BK680 := sB BK680 hb
              replace BK689 := sB BK689 hb
              replace HB := sL HB hb
              (try clear hb)
              (try clear hb2)
              (try clear hk)
              (try clear hi)
              refine hK.out _ _ ⟨(blk_cell BK689.out 0).trans rfl, (blk_cell BK689.out 1).trans rfl, (blk_cell BK672.out 0).trans rfl, (blk_cell BK672.out 1).trans rfl, (blk_cell BK672.out 2).trans rfl, (blk_cell BK672.out 3).trans rfl, (blk_cell BK672.out 4).trans rfl, (blk_cell BK672.out 5).trans rfl, (blk_cell BK672.out 6).trans rfl, (blk_cell BK672.out 7).trans rfl, (blk_cell BK672.out 8).trans rfl, (blk_cell BK672.out 9).trans rfl, (blk_cell BK671.out 0).trans rfl, (blk_cell BK680.out 0).trans rfl⟩ (fun hHeld => ?_)
              clear hK K
              refine nP (some 71) ?_
              refine pS (i := 20) (N := some 72) (ma 30 2097151) rfl rfl HT_.out ?_
              refine pS (i := 21) (N := some 73) (ma 30 4194303) rfl rfl HT_.out ?_
              refine pS (i := 22) (N := some 74) (ma 30 8388607) rfl rfl HT_.out ?_
              refine pS (i := 26) (N := some 78) (ma 30 75497471) rfl rfl HT_.out ?_
              refine tS (i := 23) (N := some 75) (ma 30 83886079) rfl rfl HT_.out HW_.out hHeld ?_
              refine tS (i := 24) (N := some 76) (ma 30 100663295) rfl rfl HT_.out HW_.out hHeld ?_
              refine tS (i := 27) (N := some 79) (ma 30 234881023) rfl rfl HT_.out HW_.out hHeld ?_
              refine one_ (i := 25) (N := some 77) (ma 30 268435455) rfl rfl (one_of HT_.out (by kernel_rfl)) (by decide) (fun K hK => ?_)
              refine gO Try.func23 #[.agg #[.int .i64 ((rd_T48 l0 x35_1).f0), .int .i64 ((rd_T48 l0 x35_1).f1)], .agg #[.slice Ao23 t677.length co23]] rfl rfl ?_
              with_reducible refine (plan_Waste.calls kj30 ((rd_T48 l0 x35_1).f0) ((rd_T48 l0 x35_1).f1) _ _ t677 t694 _ (cU (rC HO_681000)) (rN HO_681000) A66.out).mono ?_
              rintro e w77 ⟨rfl, hb⟩
              refine ⟨_, rfl, ?_⟩
              replace HO_681000 := rB HO_681000 hb
              replace BK670 := sB BK670 hb
              replace BK671 := sB BK671 hb
              replace BK672 := sB BK672 hb
              replace BK680 := sB BK680 hb
              replace BK689 := sB BK689 hb
              replace HB := sL HB hb
              (try clear hb)
              (try clear hb2)
              (try clear hk)
              (try clear hi)
              refine hK.out _ _ ⟨(blk_cell BK689.out 0).trans rfl, (blk_cell BK689.out 1).trans rfl, (blk_cell BK672.out 0).trans rfl, (blk_cell BK672.out 1).trans rfl, (blk_cell BK672.out 2).trans rfl, (blk_cell BK672.out 3).trans rfl, (blk_cell BK672.out 4).trans rfl, (blk_cell BK672.out 5).trans rfl, (blk_cell BK672.out 6).trans rfl, (blk_cell BK672.out 7).trans rfl, (blk_cell BK672.out 8).trans rfl, (blk_cell BK672.out 9).trans rfl, (blk_cell BK671.out 0).trans rfl, (blk_cell BK680.out 0).trans rfl⟩ (fun hHeld => ?_)
              clear hK K
              refine nP (some 77) ?_
              refine pS (i := 28) (N := some 80) (ma 30 536870911) rfl rfl HT_.out ?_
              refine pS (i := 29) (N := some 81) (ma 30 1073741823) rfl rfl HT_.out ?_
              refine done_ (done_of HT_.out (by kernel_rfl)) ?_
              have hnb78 := NB689_670.out
              have hnc78 := NB670_689.out
              have hnb79 := NB689_671.out
              have hnc79 := NB671_689.out
              have hnb80 := NB689_672.out
              have hnc80 := NB672_689.out
              have hnb81 := NB689_680.out
              have hnc81 := NB680_689.out
              obtain ⟨hcz82_0, hcz82_1⟩ := q2 BK689
              obtain ⟨hfz82_0, hfz82_1⟩ := z2 BK689
              try go_wp2
              go_roundg kj30
              case measure => have := HK1.out; have := HJ30.out; omega
              case rel => exact ⟨(((rd_T48 l0 x35_1).f1)), (wrap64 (x35_1 + 1)), eR, eR, H', ⟨by have := HK1.out; have := HJ30.out; omega⟩, ⟨rU (Kd.R_mono HO_681000.out (fun _ hk => trivial))⟩, ⟨bU BK670⟩, ⟨bU BK671⟩, ⟨bU BK672⟩, ⟨bU BK680⟩, ⟨lU HB⟩⟩
            ·replace c65 := Bool.eq_false_iff.mpr c65
             subst c65
             rw [if_neg (show ¬ (false = true) by decide)] at H
             obtain rfl := Option.some.inj H
             try go_wp2
             replace HO_681000 := Aside0.mk (Kd.R_drew HO_681000.out)
             replace BK670 := Aside0.mk (blk_drew BK670.out)
             replace BK671 := Aside0.mk (blk_drew BK671.out)
             replace BK672 := Aside0.mk (blk_drew BK672.out)
             replace BK680 := Aside0.mk (blk_drew BK680.out)
             replace BK689 := Aside0.mk (blk_drew BK689.out)
             replace HB := Aside0.mk (below_drew1 HB.out)
             refine start_ (n := 30) (S := fun w' => w'.cell? ⟨gb689, 0, none⟩ = some (.int .i64 ((rd_T48 l0 x35_1).f0)) ∧ w'.cell? ⟨gb689, 1, none⟩ = some (.int .i64 ((rd_T48 l0 x35_1).f1)) ∧ w'.cell? ⟨gb672, 0, none⟩ = some (.int .i64 a4_0) ∧ w'.cell? ⟨gb672, 1, none⟩ = some (.int .i64 a4_1) ∧ w'.cell? ⟨gb672, 2, none⟩ = some (.int .i64 a4_2) ∧ w'.cell? ⟨gb672, 3, none⟩ = some (.int .i64 a4_3) ∧ w'.cell? ⟨gb672, 4, none⟩ = some (.int .i64 a4_4) ∧ w'.cell? ⟨gb672, 5, none⟩ = some (.int .i64 a4_5) ∧ w'.cell? ⟨gb672, 6, none⟩ = some (.int .i64 a4_6) ∧ w'.cell? ⟨gb672, 7, none⟩ = some (.int .i64 a4_7) ∧ w'.cell? ⟨gb672, 8, none⟩ = some (.int .i64 a4_8) ∧ w'.cell? ⟨gb672, 9, none⟩ = some (.int .i64 a4_9) ∧ w'.cell? ⟨gb671, 0, none⟩ = some (.slice A2_0 l2_0.length c2_0)) (ds := []) #[false, false, false, false, false, false, false, false, false, false, false, false, false, false, false, false, false, false, false, false, false, false, false, false, false, false, false, false, false, false] (by kernel_rfl) rfl rfl ⟨(blk_cell BK689.out 0).trans rfl, (blk_cell BK689.out 1).trans rfl, (blk_cell BK672.out 0).trans rfl, (blk_cell BK672.out 1).trans rfl, (blk_cell BK672.out 2).trans rfl, (blk_cell BK672.out 3).trans rfl, (blk_cell BK672.out 4).trans rfl, (blk_cell BK672.out 5).trans rfl, (blk_cell BK672.out 6).trans rfl, (blk_cell BK672.out 7).trans rfl, (blk_cell BK672.out 8).trans rfl, (blk_cell BK672.out 9).trans rfl, (blk_cell BK671.out 0).trans rfl⟩ (fun hHeld => ?_); refine with_tabW plan_Right.tab10 plan_Right.bits10 (fun HT_ HW_ => ?_)
             generalize wc.drew = w83 at HO_681000 BK670 BK671 BK672 BK680 BK689 HB hHeld ⊢
             refine pS (i := 1) (N := some 53) (ma 30 2) rfl rfl HT_.out ?_
             refine pS (i := 3) (N := some 55) (ma 30 10) rfl rfl HT_.out ?_
             refine tS (i := 0) (N := some 52) (ma 30 11) rfl rfl HT_.out HW_.out hHeld ?_
             refine tS (i := 4) (N := some 56) (ma 30 27) rfl rfl HT_.out HW_.out hHeld ?_
             refine one_ (i := 2) (N := some 54) (ma 30 31) rfl rfl (one_of HT_.out (by kernel_rfl)) (by decide) (fun K hK => ?_)
             refine gO Try.func46 #[.int .i64 a3] rfl rfl ?_
             with_reducible refine (plan_object.calls a3 t690 t691 _ A53.out).mono ?_
             rintro e w84 ⟨rfl, hb⟩
             refine ⟨_, rfl, ?_⟩
             replace HO_681000 := rB HO_681000 hb
             replace BK670 := sB BK670 hb
             replace BK671 := sB BK671 hb
             replace BK672 := sB BK672 hb
             replace BK680 := sB BK680 hb
             replace BK689 := sB BK689 hb
             replace HB := sL HB hb
             (try clear hb)
             (try clear hb2)
             (try clear hk)
             (try clear hi)
             refine hK.out _ _ ⟨(blk_cell BK689.out 0).trans rfl, (blk_cell BK689.out 1).trans rfl, (blk_cell BK672.out 0).trans rfl, (blk_cell BK672.out 1).trans rfl, (blk_cell BK672.out 2).trans rfl, (blk_cell BK672.out 3).trans rfl, (blk_cell BK672.out 4).trans rfl, (blk_cell BK672.out 5).trans rfl, (blk_cell BK672.out 6).trans rfl, (blk_cell BK672.out 7).trans rfl, (blk_cell BK672.out 8).trans rfl, (blk_cell BK672.out 9).trans rfl, (blk_cell BK671.out 0).trans rfl⟩ (fun hHeld => ?_)
             clear hK K
             refine nP (some 54) ?_
             refine one_ (i := 5) (N := some 57) (ma 30 63) rfl rfl (one_of HT_.out (by kernel_rfl)) (by decide) (fun K hK => ?_)
             refine gO Try.func57 #[.agg #[.int .i64 ((rd_T48 l0 x35_1).f0), .int .i64 ((rd_T48 l0 x35_1).f1)], .agg #[.int .i64 t690, .int .i64 t691], .int .i64 a4_0] rfl rfl ?_
             with_reducible refine (plan_whole.calls ((rd_T48 l0 x35_1).f0) ((rd_T48 l0 x35_1).f1) t690 t691 a4_0 true _ A54.out).mono ?_
             rintro e w85 ⟨rfl, hb⟩
             refine ⟨_, rfl, ?_⟩
             replace HO_681000 := rB HO_681000 hb
             replace BK670 := sB BK670 hb
             replace BK671 := sB BK671 hb
             replace BK672 := sB BK672 hb
             replace BK680 := sB BK680 hb
             replace BK689 := sB BK689 hb
             replace HB := sL HB hb
             (try clear hb)
             (try clear hb2)
             (try clear hk)
             (try clear hi)
             refine hK.out _ _ ⟨(blk_cell BK689.out 0).trans rfl, (blk_cell BK689.out 1).trans rfl, (blk_cell BK672.out 0).trans rfl, (blk_cell BK672.out 1).trans rfl, (blk_cell BK672.out 2).trans rfl, (blk_cell BK672.out 3).trans rfl, (blk_cell BK672.out 4).trans rfl, (blk_cell BK672.out 5).trans rfl, (blk_cell BK672.out 6).trans rfl, (blk_cell BK672.out 7).trans rfl, (blk_cell BK672.out 8).trans rfl, (blk_cell BK672.out 9).trans rfl, (blk_cell BK671.out 0).trans rfl⟩ (fun hHeld => ?_)
             clear hK K
             refine nP (some 57) ?_
             refine pS (i := 6) (N := some 58) (ma 30 127) rfl rfl HT_.out ?_
             refine pS (i := 7) (N := some 59) (ma 30 255) rfl rfl HT_.out ?_
             refine pS (i := 8) (N := some 60) (ma 30 511) rfl rfl HT_.out ?_
             refine pS (i := 10) (N := some 62) (ma 30 1535) rfl rfl HT_.out ?_
             refine tS (i := 9) (N := some 61) (ma 30 2047) rfl rfl HT_.out HW_.out hHeld ?_
             refine pS (i := 11) (N := some 63) (ma 30 4095) rfl rfl HT_.out ?_
             refine pS (i := 12) (N := some 64) (ma 30 8191) rfl rfl HT_.out ?_
             refine pS (i := 13) (N := some 65) (ma 30 16383) rfl rfl HT_.out ?_
             refine pS (i := 14) (N := some 66) (ma 30 32767) rfl rfl HT_.out ?_
             refine pS (i := 15) (N := some 67) (ma 30 65535) rfl rfl HT_.out ?_
             refine pS (i := 16) (N := some 68) (ma 30 131071) rfl rfl HT_.out ?_
             refine tS (i := 17) (N := some 69) (ma 30 262143) rfl rfl HT_.out HW_.out hHeld ?_
             refine tS (i := 18) (N := some 70) (ma 30 524287) rfl rfl HT_.out HW_.out hHeld ?_
             refine one_ (i := 19) (N := some 71) (ma 30 1048575) rfl rfl (one_of HT_.out (by kernel_rfl)) (by decide) (fun K hK => ?_)
             refine gO Try.func58 #[.agg #[.slice A2_0 l2_0.length c2_0], .agg #[.int .i64 ((rd_T48 l0 x35_1).f0), .int .i64 ((rd_T48 l0 x35_1).f1)]] rfl rfl ?_
             with_reducible refine (ranges_Set_Holds.calls _ _ l2_0 ((rd_T48 l0 x35_1).f0) ((rd_T48 l0 x35_1).f1) false _ (cU (Kd.C_below HR2_0.out HB.out)) HC2_0.out A64.out).mono ?_
             rintro e w86 ⟨rfl, hb⟩
             refine ⟨_, rfl, ?_⟩
             replace HO_681000 := rB HO_681000 hb
             replace BK670 := sB BK670 hb
             replace BK671 := sB BK671 hb
             replace BK672 := sB BK672 hb
             replace BK680 := sB BK680 hb
             replace BK689 := sB BK689 hb
             replace HB := sL HB hb
             (try clear hb)
             (try clear hb2)
             (try clear hk)
             (try clear hi)
             refine hK.out _ _ ⟨(blk_cell BK689.out 0).trans rfl, (blk_cell BK689.out 1).trans rfl, (blk_cell BK672.out 0).trans rfl, (blk_cell BK672.out 1).trans rfl, (blk_cell BK672.out 2).trans rfl, (blk_cell BK672.out 3).trans rfl, (blk_cell BK672.out 4).trans rfl, (blk_cell BK672.out 5).trans rfl, (blk_cell BK672.out 6).trans rfl, (blk_cell BK672.out 7).trans rfl, (blk_cell BK672.out 8).trans rfl, (blk_cell BK672.out 9).trans rfl, (blk_cell BK671.out 0).trans rfl⟩ (fun hHeld => ?_)
             clear hK K
             refine nP (some 71) ?_
             refine pS (i := 20) (N := some 72) (ma 30 2097151) rfl rfl HT_.out ?_
             refine pS (i := 21) (N := some 73) (ma 30 4194303) rfl rfl HT_.out ?_
             refine pS (i := 22) (N := some 74) (ma 30 8388607) rfl rfl HT_.out ?_
             refine pU (i := 23) (N := some 75) (ma 30 16777215) rfl rfl HT_.out ?_
             refine pU (i := 24) (N := some 76) (ma 30 33554431) rfl rfl HT_.out ?_
             refine pU (i := 25) (N := some 77) (ma 30 67108863) rfl rfl HT_.out ?_
             refine pU (i := 26) (N := some 78) (ma 30 134217727) rfl rfl HT_.out ?_
             refine pU (i := 27) (N := some 79) (ma 30 268435455) rfl rfl HT_.out ?_
             refine pU (i := 28) (N := some 80) (ma 30 536870911) rfl rfl HT_.out ?_
             refine pS (i := 29) (N := some 81) (ma 30 1073741823) rfl rfl HT_.out ?_
             refine done_ (done_of HT_.out (by kernel_rfl)) ?_
             try go_wp2
             go_ret
             exact ⟨eW, lU HB⟩
         ·replace c55 := Bool.eq_false_iff.mpr c55
          subst c55
          rw [if_neg (show ¬ (false = true) by decide)] at H
          obtain rfl := Option.some.inj H
          try go_wp2
          replace HO_681000 := Aside0.mk (Kd.R_drew HO_681000.out)
          replace BK670 := Aside0.mk (blk_drew BK670.out)
          replace BK671 := Aside0.mk (blk_drew BK671.out)
          replace BK672 := Aside0.mk (blk_drew BK672.out)
          replace BK680 := Aside0.mk (blk_drew BK680.out)
          replace BK689 := Aside0.mk (blk_drew BK689.out)
          replace HB := Aside0.mk (below_drew1 HB.out)
          refine start_ (n := 30) (S := fun w' => w'.cell? ⟨gb689, 0, none⟩ = some (.int .i64 ((rd_T48 l0 x35_1).f0)) ∧ w'.cell? ⟨gb689, 1, none⟩ = some (.int .i64 ((rd_T48 l0 x35_1).f1)) ∧ w'.cell? ⟨gb672, 0, none⟩ = some (.int .i64 a4_0) ∧ w'.cell? ⟨gb672, 1, none⟩ = some (.int .i64 a4_1) ∧ w'.cell? ⟨gb672, 2, none⟩ = some (.int .i64 a4_2) ∧ w'.cell? ⟨gb672, 3, none⟩ = some (.int .i64 a4_3) ∧ w'.cell? ⟨gb672, 4, none⟩ = some (.int .i64 a4_4) ∧ w'.cell? ⟨gb672, 5, none⟩ = some (.int .i64 a4_5) ∧ w'.cell? ⟨gb672, 6, none⟩ = some (.int .i64 a4_6) ∧ w'.cell? ⟨gb672, 7, none⟩ = some (.int .i64 a4_7) ∧ w'.cell? ⟨gb672, 8, none⟩ = some (.int .i64 a4_8) ∧ w'.cell? ⟨gb672, 9, none⟩ = some (.int .i64 a4_9)) (ds := []) #[false, false, false, false, false, false, false, false, false, false, false, false, false, false, false, false, false, false, false, false, false, false, false, false, false, false, false, false, false, false] (by kernel_rfl) rfl rfl ⟨(blk_cell BK689.out 0).trans rfl, (blk_cell BK689.out 1).trans rfl, (blk_cell BK672.out 0).trans rfl, (blk_cell BK672.out 1).trans rfl, (blk_cell BK672.out 2).trans rfl, (blk_cell BK672.out 3).trans rfl, (blk_cell BK672.out 4).trans rfl, (blk_cell BK672.out 5).trans rfl, (blk_cell BK672.out 6).trans rfl, (blk_cell BK672.out 7).trans rfl, (blk_cell BK672.out 8).trans rfl, (blk_cell BK672.out 9).trans rfl⟩ (fun hHeld => ?_); refine with_tabW plan_Right.tab10 plan_Right.bits10 (fun HT_ HW_ => ?_)
          generalize wc.drew = w87 at HO_681000 BK670 BK671 BK672 BK680 BK689 HB hHeld ⊢
          refine pS (i := 1) (N := some 53) (ma 30 2) rfl rfl HT_.out ?_
          refine pS (i := 3) (N := some 55) (ma 30 10) rfl rfl HT_.out ?_
          refine tS (i := 0) (N := some 52) (ma 30 11) rfl rfl HT_.out HW_.out hHeld ?_
          refine tS (i := 4) (N := some 56) (ma 30 27) rfl rfl HT_.out HW_.out hHeld ?_
          refine one_ (i := 2) (N := some 54) (ma 30 31) rfl rfl (one_of HT_.out (by kernel_rfl)) (by decide) (fun K hK => ?_)
          refine gO Try.func46 #[.int .i64 a3] rfl rfl ?_
          with_reducible refine (plan_object.calls a3 t690 t691 _ A53.out).mono ?_
          rintro e w88 ⟨rfl, hb⟩
          refine ⟨_, rfl, ?_⟩
          replace HO_681000 := rB HO_681000 hb
          replace BK670 := sB BK670 hb
          replace BK671 := sB BK671 hb
          replace BK672 := sB BK672 hb
          replace BK680 := sB BK680 hb
          replace BK689 := sB BK689 hb
          replace HB := sL HB hb
          (try clear hb)
          (try clear hb2)
          (try clear hk)
          (try clear hi)
          refine hK.out _ _ ⟨(blk_cell BK689.out 0).trans rfl, (blk_cell BK689.out 1).trans rfl, (blk_cell BK672.out 0).trans rfl, (blk_cell BK672.out 1).trans rfl, (blk_cell BK672.out 2).trans rfl, (blk_cell BK672.out 3).trans rfl, (blk_cell BK672.out 4).trans rfl, (blk_cell BK672.out 5).trans rfl, (blk_cell BK672.out 6).trans rfl, (blk_cell BK672.out 7).trans rfl, (blk_cell BK672.out 8).trans rfl, (blk_cell BK672.out 9).trans rfl⟩ (fun hHeld => ?_)
          clear hK K
          refine nP (some 54) ?_
          refine one_ (i := 5) (N := some 57) (ma 30 63) rfl rfl (one_of HT_.out (by kernel_rfl)) (by decide) (fun K hK => ?_)
          refine gO Try.func57 #[.agg #[.int .i64 ((rd_T48 l0 x35_1).f0), .int .i64 ((rd_T48 l0 x35_1).f1)], .agg #[.int .i64 t690, .int .i64 t691], .int .i64 a4_0] rfl rfl ?_
          with_reducible refine (plan_whole.calls ((rd_T48 l0 x35_1).f0) ((rd_T48 l0 x35_1).f1) t690 t691 a4_0 false _ A54.out).mono ?_
          rintro e w89 ⟨rfl, hb⟩
          refine ⟨_, rfl, ?_⟩
          replace HO_681000 := rB HO_681000 hb
          replace BK670 := sB BK670 hb
          replace BK671 := sB BK671 hb
          replace BK672 := sB BK672 hb
          replace BK680 := sB BK680 hb
          replace BK689 := sB BK689 hb
          replace HB := sL HB hb
          (try clear hb)
          (try clear hb2)
          (try clear hk)
          (try clear hi)
          refine hK.out _ _ ⟨(blk_cell BK689.out 0).trans rfl, (blk_cell BK689.out 1).trans rfl, (blk_cell BK672.out 0).trans rfl, (blk_cell BK672.out 1).trans rfl, (blk_cell BK672.out 2).trans rfl, (blk_cell BK672.out 3).trans rfl, (blk_cell BK672.out 4).trans rfl, (blk_cell BK672.out 5).trans rfl, (blk_cell BK672.out 6).trans rfl, (blk_cell BK672.out 7).trans rfl, (blk_cell BK672.out 8).trans rfl, (blk_cell BK672.out 9).trans rfl⟩ (fun hHeld => ?_)
          clear hK K
          refine nP (some 57) ?_
          refine pS (i := 6) (N := some 58) (ma 30 127) rfl rfl HT_.out ?_
          refine pS (i := 7) (N := some 59) (ma 30 255) rfl rfl HT_.out ?_
          refine pU (i := 8) (N := some 60) (ma 30 511) rfl rfl HT_.out ?_
          refine pU (i := 9) (N := some 61) (ma 30 1023) rfl rfl HT_.out ?_
          refine pU (i := 10) (N := some 62) (ma 30 2047) rfl rfl HT_.out ?_
          refine pU (i := 11) (N := some 63) (ma 30 4095) rfl rfl HT_.out ?_
          refine pS (i := 12) (N := some 64) (ma 30 8191) rfl rfl HT_.out ?_
          refine pS (i := 13) (N := some 65) (ma 30 16383) rfl rfl HT_.out ?_
          refine pU (i := 14) (N := some 66) (ma 30 32767) rfl rfl HT_.out ?_
          refine pS (i := 15) (N := some 67) (ma 30 65535) rfl rfl HT_.out ?_
          refine pS (i := 16) (N := some 68) (ma 30 131071) rfl rfl HT_.out ?_
          refine pU (i := 17) (N := some 69) (ma 30 262143) rfl rfl HT_.out ?_
          refine pU (i := 18) (N := some 70) (ma 30 524287) rfl rfl HT_.out ?_
          refine pU (i := 19) (N := some 71) (ma 30 1048575) rfl rfl HT_.out ?_
          refine pU (i := 20) (N := some 72) (ma 30 2097151) rfl rfl HT_.out ?_
          refine pS (i := 21) (N := some 73) (ma 30 4194303) rfl rfl HT_.out ?_
          refine pS (i := 22) (N := some 74) (ma 30 8388607) rfl rfl HT_.out ?_
          refine pU (i := 23) (N := some 75) (ma 30 16777215) rfl rfl HT_.out ?_
          refine pU (i := 24) (N := some 76) (ma 30 33554431) rfl rfl HT_.out ?_
          refine pU (i := 25) (N := some 77) (ma 30 67108863) rfl rfl HT_.out ?_
          refine pU (i := 26) (N := some 78) (ma 30 134217727) rfl rfl HT_.out ?_
          refine pU (i := 27) (N := some 79) (ma 30 268435455) rfl rfl HT_.out ?_
          refine pU (i := 28) (N := some 80) (ma 30 536870911) rfl rfl HT_.out ?_
          refine pS (i := 29) (N := some 81) (ma 30 1073741823) rfl rfl HT_.out ?_
          refine done_ (done_of HT_.out (by kernel_rfl)) ?_
          try go_wp2
          go_ret
          exact ⟨eW, lU HB⟩
      ·rw [if_neg c30] at H
       exact absurd H (by simp)
     ·rw [if_neg c29] at H
      exact absurd H (by simp)
    ·rw [if_neg c28] at H
     have c28b0 : decide (x35_1 < (l0.length : Int)) = false := decide_eq_false c28
     clear c28
     obtain ⟨t681, A90, H⟩ := bO H
     obtain ⟨t684, A91, H⟩ := bO H
     obtain ⟨t687, A92, H⟩ := bO H
     obtain rfl := Option.some.inj H
     try go_wp2
     replace HO_681000 := Aside0.mk (Kd.R_drew HO_681000.out)
     replace BK670 := Aside0.mk (blk_drew BK670.out)
     replace BK671 := Aside0.mk (blk_drew BK671.out)
     replace BK672 := Aside0.mk (blk_drew BK672.out)
     replace BK680 := Aside0.mk (blk_drew BK680.out)
     replace HB := Aside0.mk (below_drew1 HB.out)
     refine start_ (n := 7) (S := fun w' => w'.cell? ⟨gb680, 0, none⟩ = some (.slice Ao23 t677.length co23)) (ds := []) #[false, false, false, false, false, false, false] (by kernel_rfl) rfl rfl ((blk_cell BK680.out 0).trans rfl) (fun hHeld => ?_)
     generalize wr.drew = w93 at HO_681000 BK670 BK671 BK672 BK680 HB hHeld ⊢
     refine pure_ (i := 1) (N := some 86) (v := ?_) (a' := ?_) #[false, true, false, false, false, false, false] rfl rfl (by kernel_rfl) (fun _ _ _ h => h) (Or.inl ⟨by rfl, ?_⟩) ?_ ?_
     rotate_left
     ·intro w'
      go_simp
      with_reducible rfl
     rotate_left
     ·simp only [Act.put, List.setIfInBounds_toArray, List.set_cons_zero, List.set_cons_succ, i64_w, i32_w]
      rfl
     refine take_ (i := 0) (N := some 85) (v := ?_) (a' := ?_) #[true, true, false, false, false, false, false] rfl rfl (by kernel_rfl) (fun _ _ _ h => h) (Or.inl ⟨by rfl, ?_⟩) hHeld ?_ ?_
     rotate_left
     ·intro w' s0
      go_simp
      with_reducible rfl
     rotate_left
     ·simp only [Act.put, List.setIfInBounds_toArray, List.set_cons_zero, List.set_cons_succ, i64_w, i32_w]
      rfl
     refine one_ (i := 2) (N := some 87) (ma 7 7) rfl rfl (by kernel_rfl) (by decide) (fun K hK => ?_)
     refine gO Try.func22 #[.slice A0 l0.length c0] rfl rfl ?_
     with_reducible refine (ranges_Of.calls k1 _ _ l0 t681 _ (cU (Kd.C_below HR0.out HB.out)) HC0.out A90.out).mono ?_
     rintro e w94 ⟨v682, rfl, ho0, hb⟩
     refine ⟨_, rfl, ?_⟩
     have HO683 := Aside0.mk (Kd.R_lower (Kd.R_new' ho0 (Kd.R_lt (rU HO_681000.out))) (below_size (lU HB)))
     replace HO_681000 := rE HO_681000 ho0 hb
     replace BK670 := sB BK670 hb
     replace BK671 := sB BK671 hb
     replace BK672 := sB BK672 hb
     replace BK680 := sB BK680 hb
     replace HB := sL HB hb
     (try clear hb)
     (try clear hb2)
     (try clear hk)
     (try clear hi)
     (try clear ho0)
     obtain ⟨Ao95, co95, eo95⟩ := Kd.R_slice HO683.out
     (first | subst eo95 | (injection eo95 with f1_ f2_ f3_; have f4_ := f1_.symm; have f5_ := f3_.symm; clear f1_ f2_ f3_; subst f4_; subst f5_))
     refine hK.out _ _ ((blk_cell BK680.out 0).trans rfl) (fun hHeld => ?_)
     clear hK K
     refine nP (some 87) ?_
     refine one_ (i := 3) (N := some 88) (ma 7 15) rfl rfl (by kernel_rfl) (by decide) (fun K hK => ?_)
     refine gO Try.func28 #[.agg #[.slice Ao23 t677.length co23], .agg #[.slice Ao95 t681.length co95]] rfl rfl ?_
     with_reducible refine (ranges_Set_Less.calls k1 _ _ t677 _ _ t681 t684 _ (cU (rC HO_681000)) (rN HO_681000) (cU (rC HO683)) (rN HO683) A91.out).mono ?_
     rintro e w96 ⟨v685, rfl, ho0, hb⟩
     refine ⟨_, rfl, ?_⟩
     have HO686 := Aside0.mk (Kd.R_lower (Kd.R_new' (Kd.R_new' ho0 (Kd.R_lt (rU HO_681000.out))) (Kd.R_lt (rU HO683.out))) (below_size (lU HB)))
     replace HO_681000 := rE HO_681000 ho0 hb
     replace HO683 := rE HO683 ho0 hb
     replace BK670 := sB BK670 hb
     replace BK671 := sB BK671 hb
     replace BK672 := sB BK672 hb
     replace BK680 := sB BK680 hb
     replace HB := sL HB hb
     (try clear hb)
     (try clear hb2)
     (try clear hk)
     (try clear hi)
     (try clear ho0)
     obtain ⟨Ao97, co97, eo97⟩ := Kd.R_slice HO686.out
     (first | subst eo97 | (injection eo97 with f1_ f2_ f3_; have f4_ := f1_.symm; have f5_ := f3_.symm; clear f1_ f2_ f3_; subst f4_; subst f5_))
     refine hK.out _ _ ((blk_cell BK680.out 0).trans rfl) (fun hHeld => ?_)
     clear hK K
     refine nP (some 88) ?_
     refine one_ (i := 4) (N := some 89) (ma 7 31) rfl rfl (by kernel_rfl) (by decide) (fun K hK => ?_)
     refine gO Try.func26 #[.agg #[.slice Ao97 t684.length co97]] rfl rfl ?_
     with_reducible refine (ranges_Set_Len.calls k1 _ _ t684 t687 _ (cU (rC HO686)) (rN HO686) A92.out).mono ?_
     rintro e w98 ⟨rfl, hb⟩
     refine ⟨_, rfl, ?_⟩
     replace HO_681000 := rB HO_681000 hb
     replace HO683 := rB HO683 hb
     replace HO686 := rB HO686 hb
     replace BK670 := sB BK670 hb
     replace BK671 := sB BK671 hb
     replace BK672 := sB BK672 hb
     replace BK680 := sB BK680 hb
     replace HB := sL HB hb
     (try clear hb)
     (try clear hb2)
     (try clear hk)
     (try clear hi)
     refine hK.out _ _ ((blk_cell BK680.out 0).trans rfl) (fun hHeld => ?_)
     clear hK K
     refine nP (some 89) ?_
     refine pure_ (i := 5) (N := some 90) (v := ?_) (a' := ?_) #[true, true, true, true, true, true, false] rfl rfl (by kernel_rfl) (fun _ _ _ h => h) (Or.inl ⟨by rfl, ?_⟩) ?_ ?_
     rotate_left
     ·intro w'
      go_simp
      with_reducible rfl
     rotate_left
     ·simp only [Act.put, List.setIfInBounds_toArray, List.set_cons_zero, List.set_cons_succ, i64_w, i32_w]
      rfl
     refine pure_ (i := 6) (N := some 10) (v := ?_) (a' := ?_) #[true, true, true, true, true, true, true] rfl rfl (by kernel_rfl) (fun _ _ _ h => h) (Or.inl ⟨by rfl, ?_⟩) ?_ ?_
     rotate_left
     ·intro w'
      go_simp
      with_reducible rfl
     rotate_left
     ·simp only [Act.put, List.setIfInBounds_toArray, List.set_cons_zero, List.set_cons_succ, i64_w, i32_w]
      rfl
     refine done_ (by kernel_rfl) ?_
     try go_wp2
     go_ret
     exact ⟨eW, lU HB⟩
 ·rw [if_neg c7] at H
  have c7b0 : (t676 == 0) = false := beq_eq_false_iff_ne.mpr c7
  have c7b1 : (t676 != 0) = true := bne_iff_ne.mpr c7
  obtain rfl := Option.some.inj H
  go_enter Try.func29, Try.ntmps29
  go_wp2_with (first | ((with_reducible refine gate_dst (N := 6) rfl ?_); refine bX (N := 6) (cs := #[.slice A1_0 l1_0.length c1_0]) (t := 30) ?_; intro gb670 hg w99 hbox hb; have BK670 := Aside0.mk (hbox); have GE670 := sG HB hg; replace HB := sL HB hb; clear hb hbox hg) | ((with_reducible refine gate_dst (N := 7) rfl ?_); refine bX (N := 7) (cs := #[.slice A2_0 l2_0.length c2_0]) (t := 30) ?_; intro gb671 hg w100 hbox hb; have BK671 := Aside0.mk (hbox); have GE671 := sG HB hg; have NB670_671 := sN BK670 hg; have NB671_670 := sM BK670 hg; replace BK670 := sB BK670 hb; replace HB := sL HB hb; clear hb hbox hg) | ((with_reducible refine gate_dst (N := 9) rfl ?_); refine bX (N := 9) (cs := #[.int .i64 a4_0, .int .i64 a4_1, .int .i64 a4_2, .int .i64 a4_3, .int .i64 a4_4, .int .i64 a4_5, .int .i64 a4_6, .int .i64 a4_7, .int .i64 a4_8, .int .i64 a4_9]) (t := 24) ?_; intro gb672 hg w101 hbox hb; have BK672 := Aside0.mk (hbox); have GE672 := sG HB hg; have NB670_672 := sN BK670 hg; have NB672_670 := sM BK670 hg; have NB671_672 := sN BK671 hg; have NB672_671 := sM BK671 hg; replace BK670 := sB BK670 hb; replace BK671 := sB BK671 hb; replace HB := sL HB hb; clear hb hbox hg; have hnb102 := NB670_671.out; have hnc102 := NB671_670.out; have hnb103 := NB670_672.out; have hnc103 := NB672_670.out; have hcz104_0 := q1 BK670; have hfz104_0 := blk_frozen BK670.out 0; have hnb105 := NB671_672.out; have hnc105 := NB672_671.out; have hcz106_0 := q1 BK671; have hfz106_0 := blk_frozen BK671.out 0; obtain ⟨hcz107_0, hcz107_1, hcz107_2, hcz107_3, hcz107_4, hcz107_5, hcz107_6, hcz107_7, hcz107_8, hcz107_9⟩ := q10 BK672; obtain ⟨hfz107_0, hfz107_1, hfz107_2, hfz107_3, hfz107_4, hfz107_5, hfz107_6, hfz107_7, hfz107_8, hfz107_9⟩ := z10 BK672) | ((with_reducible refine gate_callee (f := 13) rfl ?_); refine gL (some 23) rfl rfl Try.func13 #[.agg #[.slice A1_0 l1_0.length c1_0], .agg #[.slice A2_0 l2_0.length c2_0], .int .i64 a3, .agg #[.int .i64 a4_0, .int .i64 a4_1, .int .i64 a4_2, .int .i64 a4_3, .int .i64 a4_4, .int .i64 a4_5, .int .i64 a4_6, .int .i64 a4_7, .int .i64 a4_8, .int .i64 a4_9]] rfl ?_; (with_reducible refine (plan_Plan.calls k _ _ l1_0 _ _ l2_0 a3 a4_0 a4_1 a4_2 a4_3 a4_4 a4_5 a4_6 a4_7 a4_8 a4_9 t673 t676 _ (cU (Kd.C_below HR1_0.out HB.out)) HC1_0.out (cU (Kd.C_below HR2_0.out HB.out)) HC2_0.out A6.out).mono ?_); rintro e w108 ⟨v674, rfl, ho0, hb⟩; refine ⟨_, rfl, ?_⟩; have HO675 := Aside0.mk (Kd.R_lower ho0 (below_size (lU HB))); replace BK670 := sB BK670 hb; replace BK671 := sB BK671 hb; replace BK672 := sB BK672 hb; replace HB := sL HB hb; (try clear hb); (try clear hb2); (try clear hk); (try clear hi); (try clear ho0)))
  go_ret
  exact ⟨eW, lU HB⟩
end Go.Proofs.Ytnaalaakhdbfbaa.XP
