-- Go functions as plain functions, and that the code comes to these answers (printed by a program).
import Derived.Test.YtnaalaakhdbfbaaV4XP0
import Derived.Test.YtnaalaakhdbfbaaV4XP16
import Derived.Test.YtnaalaakhdbfbaaV4XP17
import Derived.Test.YtnaalaakhdbfbaaV4XP20
namespace Go.Proofs.Ytnaalaakhdbfbaa.XP
open Go.RowKit Go.Proofs.YtnaalaakhdbfbaaW.PrintWords Go.Proofs.YtnaalaakhdbfbaaW.PrintLast Go.Proofs.YtnaalaakhdbfbaaW.PrintMore
attribute [local go_sem] max2_int min2_int max_two min_two max_three min_three max_four min_four
set_option linter.unusedVariables false
set_option linter.unusedSimpArgs false
def mandolineref35_Right.l0 : Nat → List (S48) → List (S48) → Int → List (S48) → Int → List (S48) → Int → Int → Int → Int → Int → Int → Int → Int → Int → Int → Int → Int → Option (Bool)
 | 0, _, _, _, _, _, _, _, _, _, _, _, _, _, _, _, _, _, _ => none
 | k + 1, x0, x2, x3, x11, x12, x24, x25, x26, x491000, x491001, x491002, x491003, x491004, x491005, x491006, x491007, x491008, x491009 => if x26 < x25 then (if 0 ≤ x26 then (if x26 < (x24.length : Int) then ((mandolineref35_Fetch.f k ((rd_T48 x24 x26).f0) ((rd_T48 x24 x26).f1) x11 x2 x3 x491000 x491001 x491002 x491003 x491004 x491005 x491006 x491007 x491008 x491009).bind fun t497 => (if t497 = true then (if ((rd_T48 x24 x26).f0) < x12 then (some false) else (mandolineref35_Right.l0 k x0 x2 x3 x11 ((rd_T48 x24 x26).f1) x24 x25 (wrap64 (x26 + 1)) x491000 x491001 x491002 x491003 x491004 x491005 x491006 x491007 x491008 x491009)) else (some false))) else (none)) else (none)) else ((mandolineref35_held.f k x11 x2).bind fun t498 => (if t498 = true then (some false) else ((mandolineref02_Less.f k x11 x0).bind fun t499 => (some ((t499.length : Int) == 0)))))
def mandolineref35_Right.f (k : Nat) (l0 : List (S48)) (l1 : List (S48)) (l2 : List (S48)) (a3 : Int) (a4_0 : Int) (a4_1 : Int) (a4_2 : Int) (a4_3 : Int) (a4_4 : Int) (a4_5 : Int) (a4_6 : Int) (a4_7 : Int) (a4_8 : Int) (a4_9 : Int) : Option (Bool) := (mandolineref35_argOk.f k a3 a4_0 a4_1 a4_2 a4_3 a4_4 a4_5 a4_6 a4_7 a4_8 a4_9).bind fun t491 => (if t491 = true then ((mandolineref35_Units.f k l1 a3 a4_0).bind fun t492 => (mandolineref35_Right.l0 k l0 l2 a3 t492 0 l0 (l0.length : Int) 0 a4_0 a4_1 a4_2 a4_3 a4_4 a4_5 a4_6 a4_7 a4_8 a4_9)) else (some false))
set_option maxHeartbeats 8000000 in
set_option maxRecDepth 100000 in
theorem mandolineref35_Right.calls (k : Nat) (A0 : Option Addr) (c0 : Nat) (l0 : List (S48)) (A1 : Option Addr) (c1 : Nat) (l1 : List (S48)) (A2 : Option Addr) (c2 : Nat) (l2 : List (S48)) (a3 : Int) (a4_0 : Int) (a4_1 : Int) (a4_2 : Int) (a4_3 : Int) (a4_4 : Int) (a4_5 : Int) (a4_6 : Int) (a4_7 : Int) (a4_8 : Int) (a4_9 : Int) (r : Bool) (w : World) (hr0 : Kd.C k48 w A0 l0.length l0) (hc0 : l0.length ≤ c0) (hr1 : Kd.C k48 w A1 l1.length l1) (hc1 : l1.length ≤ c1) (hr2 : Kd.C k48 w A2 l2.length l2) (hc2 : l2.length ≤ c2) (h : mandolineref35_Right.f k l0 l1 l2 a3 a4_0 a4_1 a4_2 a4_3 a4_4 a4_5 a4_6 a4_7 a4_8 a4_9 = some r) :
  Calls Try.prog 18 #[.slice A0 l0.length c0, .slice A1 l1.length c1, .slice A2 l2.length c2, .int .i64 a3, .agg #[.int .i64 a4_0, .int .i64 a4_1, .int .i64 a4_2, .int .i64 a4_3, .int .i64 a4_4, .int .i64 a4_5, .int .i64 a4_6, .int .i64 a4_7, .int .i64 a4_8, .int .i64 a4_9]] w fun e w' => e = .returned (.bool r) ∧ Below w.heap.size w w' := by
 have hu24 := Try.underlying24
 have hu48 := Try.underlying48
 have HR0 := Aside0.mk hr0
 have HC0 := Aside0.mk hc0
 clear hr0 hc0
 have HR1 := Aside0.mk hr1
 have HC1 := Aside0.mk hc1
 clear hr1 hc1
 have HR2 := Aside0.mk hr2
 have HC2 := Aside0.mk hc2
 clear hr2 hc2
 have HB := Aside0.mk (Below.refl w.heap.size w)
 unfold mandolineref35_Right.f at h
 have H := h
 clear h
 obtain ⟨t491, A6, H⟩ := bO H
 by_cases c7 : t491 = true
 ·subst c7
  rw [if_pos rfl] at H
  obtain ⟨t492, A8, H⟩ := bO H
  have H' := Aside0.mk H
  clear H
  go_enter Try.func18, Try.ntmps18
  go_wp2_with (first | ((with_reducible refine gate_dst (N := 9) rfl ?_); (try (refine gate_guard (by rfl) ?_; dsimp only)); refine bX (N := 9) (cs := #[.int .i64 a4_0, .int .i64 a4_1, .int .i64 a4_2, .int .i64 a4_3, .int .i64 a4_4, .int .i64 a4_5, .int .i64 a4_6, .int .i64 a4_7, .int .i64 a4_8, .int .i64 a4_9]) (t := 24) ?_; intro gb490 hg w9 hbox hb; have BK490 := Aside0.mk (hbox); have GE490 := sG HB hg; replace HB := sL HB hb; clear hb hbox hg; obtain ⟨hcz10_0, hcz10_1, hcz10_2, hcz10_3, hcz10_4, hcz10_5, hcz10_6, hcz10_7, hcz10_8, hcz10_9⟩ := q10 BK490; obtain ⟨hfz10_0, hfz10_1, hfz10_2, hfz10_3, hfz10_4, hfz10_5, hfz10_6, hfz10_7, hfz10_8, hfz10_9⟩ := z10 BK490) | ((with_reducible refine gate_callee (f := 34) rfl ?_); refine gL (some 17) rfl rfl Try.func34 #[.int .i64 a3, .agg #[.int .i64 a4_0, .int .i64 a4_1, .int .i64 a4_2, .int .i64 a4_3, .int .i64 a4_4, .int .i64 a4_5, .int .i64 a4_6, .int .i64 a4_7, .int .i64 a4_8, .int .i64 a4_9]] rfl ?_; (with_reducible refine (mandolineref35_argOk.calls k a3 a4_0 a4_1 a4_2 a4_3 a4_4 a4_5 a4_6 a4_7 a4_8 a4_9 true _ A6.out).mono ?_); rintro e w11 ⟨rfl, hb⟩; refine ⟨_, rfl, ?_⟩; replace BK490 := sB BK490 hb; replace HB := sL HB hb; (try clear hb); (try clear hb2); (try clear hk); (try clear hi); obtain ⟨hcz12_0, hcz12_1, hcz12_2, hcz12_3, hcz12_4, hcz12_5, hcz12_6, hcz12_7, hcz12_8, hcz12_9⟩ := q10 BK490; obtain ⟨hfz12_0, hfz12_1, hfz12_2, hfz12_3, hfz12_4, hfz12_5, hfz12_6, hfz12_7, hfz12_8, hfz12_9⟩ := z10 BK490) | ((with_reducible refine gate_callee (f := 17) rfl ?_); refine gL (some 23) rfl rfl Try.func17 #[.slice A1 l1.length c1, .int .i64 a3, .int .i64 a4_0] rfl ?_; (with_reducible refine (mandolineref35_Units.calls k _ _ l1 a3 a4_0 t492 _ (cU (Kd.C_below HR1.out HB.out)) HC1.out A8.out).mono ?_); rintro e w13 ⟨v493, rfl, ho0, hb⟩; refine ⟨_, rfl, ?_⟩; have HO494 := Aside0.mk (Kd.R_lower ho0 (below_size (lU HB))); replace BK490 := sB BK490 hb; replace HB := sL HB hb; (try clear hb); (try clear hb2); (try clear hk); (try clear hi); (try clear ho0)))
  go_loopg [12, 26] k (fun kq v12 v26 w' => ∃ (x12_1 : Int) (x26_1 : Int), v12 = .int .i64 x12_1 ∧ v26 = .int .i64 x26_1 ∧ Aside0 (mandolineref35_Right.l0 kq l0 l2 a3 t492 x12_1 l0 (l0.length : Int) x26_1 a4_0 a4_1 a4_2 a4_3 a4_4 a4_5 a4_6 a4_7 a4_8 a4_9 = some r) ∧ Aside0 (kq ≤ k) ∧ Aside0 (Kd.R k48 48 w' w.heap.size (fun _ => True) v493 t492) ∧ Aside0 (w'.heap[gb490]? = some (.cells #[.int .i64 a4_0, .int .i64 a4_1, .int .i64 a4_2, .int .i64 a4_3, .int .i64 a4_4, .int .i64 a4_5, .int .i64 a4_6, .int .i64 a4_7, .int .i64 a4_8, .int .i64 a4_9] 24 (0, 0))) ∧ Aside0 (Below w.heap.size w w'))
  case atStart => exact ⟨(0), (0), eR, eR, H', ⟨Nat.le_refl _⟩, ⟨rU HO494.out⟩, ⟨bU BK490⟩, ⟨lU HB⟩⟩
  case round =>
   clear H'
   try clear c1
   try clear c2
   try clear p2
   try clear c3
   try clear c7
   try clear hcz10_0
   try clear hcz10_1
   try clear hcz10_2
   try clear hcz10_3
   try clear hcz10_4
   try clear hcz10_5
   try clear hcz10_6
   try clear hcz10_7
   try clear hcz10_8
   try clear hcz10_9
   try clear hcz12_0
   try clear hcz12_1
   try clear hcz12_2
   try clear hcz12_3
   try clear hcz12_4
   try clear hcz12_5
   try clear hcz12_6
   try clear hcz12_7
   try clear hcz12_8
   try clear hcz12_9
   try clear hfz10_0
   try clear hfz10_1
   try clear hfz10_2
   try clear hfz10_3
   try clear hfz10_4
   try clear hfz10_5
   try clear hfz10_6
   try clear hfz10_7
   try clear hfz10_8
   try clear hfz10_9
   try clear hfz12_0
   try clear hfz12_1
   try clear hfz12_2
   try clear hfz12_3
   try clear hfz12_4
   try clear hfz12_5
   try clear hfz12_6
   try clear hfz12_7
   try clear hfz12_8
   try clear hfz12_9
   obtain ⟨x12_1, x26_1, rfl, rfl, HA, HK1, HO_11, BK490, HB⟩ := hrel
   cases gk with
   | zero => exact absurd HA.out (by simp [mandolineref35_Right.l0])
   | succ k1 =>
    have H := HA.out
    clear HA
    simp only [mandolineref35_Right.l0] at H
    by_cases c14 : x26_1 < (l0.length : Int)
    ·rw [if_pos c14] at H
     have c14b0 : decide (x26_1 < (l0.length : Int)) = true := decide_eq_true c14
     clear c14
     by_cases c15 : 0 ≤ x26_1
     ·rw [if_pos c15] at H
      have c15b0 : decide (0 ≤ x26_1) = true := decide_eq_true c15
      clear c15
      by_cases c16 : x26_1 < (l0.length : Int)
      ·rw [if_pos c16] at H
       have c16b0 : decide (x26_1 < (l0.length : Int)) = true := decide_eq_true c16
       clear c16
       obtain ⟨t497, A17, H⟩ := bO H
       by_cases c18 : t497 = true
       ·subst c18
        rw [if_pos rfl] at H
        by_cases c19 : ((rd_T48 l0 x26_1).f0) < x12_1
        ·rw [if_pos c19] at H
         have c19b0 : decide (((rd_T48 l0 x26_1).f0) < x12_1) = true := decide_eq_true c19
         clear c19
         obtain rfl := Option.some.inj H
         have p495 : 0 ≤ (x26_1 : Int) := of_decide_eq_true (by first | (with_reducible assumption) | assumption)
         have q495 : x26_1 < (l0.length : Int) := of_decide_eq_true (by first | (with_reducible assumption) | assumption)
         obtain ⟨ad495, e495, hx495_0, hx495_1⟩ := at_T48 HR0.out x26_1 p495 q495
         cases e495
         replace hx495_0 := cB HB hx495_0
         replace hx495_1 := cB HB hx495_1
         replace p495 := eq_true p495
         replace q495 := eq_true q495
         go_wp2_with (first | ((with_reducible refine gate_dst (N := 14) rfl ?_); (try (refine gate_guard (by rfl) ?_; dsimp only)); refine bX (N := 14) (cs := #[.int .i64 0, .int .i64 0]) (t := 48) ?_; intro gb496 hg w20 hbox hb; have BK496 := Aside0.mk (hbox); have GE496 := sG HB hg; have NB490_496 := sN BK490 hg; have NB496_490 := sM BK490 hg; replace HO_11 := Aside0.mk (Kd.R_below (Kd.R_elderB (rU HO_11.out) gb496 (Nat.le_of_eq hg.symm)) hb); replace BK490 := sB BK490 hb; replace HB := sL HB hb; clear hb hbox hg; have hnb21 := NB496_490.out; have hnc21 := NB490_496.out; obtain ⟨hcz22_0, hcz22_1⟩ := q2 BK496; obtain ⟨hfz22_0, hfz22_1⟩ := z2 BK496; obtain ⟨hcz23_0, hcz23_1, hcz23_2, hcz23_3, hcz23_4, hcz23_5, hcz23_6, hcz23_7, hcz23_8, hcz23_9⟩ := q10 BK490; obtain ⟨hfz23_0, hfz23_1, hfz23_2, hfz23_3, hfz23_4, hfz23_5, hfz23_6, hfz23_7, hfz23_8, hfz23_9⟩ := z10 BK490; obtain ⟨Ao24, co24, eo24⟩ := Kd.R_slice HO_11.out; subst eo24) | ((with_reducible refine gate_callee (f := 37) rfl ?_); refine gL (some 35) rfl rfl Try.func37 #[.agg #[.int .i64 ((rd_T48 l0 x26_1).f0), .int .i64 ((rd_T48 l0 x26_1).f1)], .slice Ao24 t492.length co24, .slice A2 l2.length c2, .int .i64 a3, .agg #[.int .i64 a4_0, .int .i64 a4_1, .int .i64 a4_2, .int .i64 a4_3, .int .i64 a4_4, .int .i64 a4_5, .int .i64 a4_6, .int .i64 a4_7, .int .i64 a4_8, .int .i64 a4_9]] rfl ?_; (with_reducible refine (mandolineref35_Fetch.calls k1 ((rd_T48 l0 x26_1).f0) ((rd_T48 l0 x26_1).f1) _ _ t492 _ _ l2 a3 a4_0 a4_1 a4_2 a4_3 a4_4 a4_5 a4_6 a4_7 a4_8 a4_9 true _ ?side1 ?side2 ?side3 ?side4 A17.out).mono ?_); (case side1 => refine (Kd.R_reads' (e := 48) (base := w.heap.size) (ok := fun k_ => (True ∧ k_ ≠ gb496)) (n := t492.length) (c := co24) ?_).2.2; exact (rU ((Kd.R_mono (Kd.R_far (p := ⟨gb496, 1, none⟩) (Kd.R_far (p := ⟨gb496, 0, none⟩) (Kd.R_mono HO_11.out (fun k_ hk => (⟨hk, hk.2⟩ : _ ∧ k_ ≠ gb496))) (fun _ hk => hk.2) (.int .i64 ((rd_T48 l0 x26_1).f0))) (fun _ hk => hk.2) (.int .i64 ((rd_T48 l0 x26_1).f1))) (fun _ h_ => h_.1))))); (case side2 => exact (rN HO_11)); (case side3 => exact Kd.C_below HR2.out (lU HB)); (case side4 => exact HC2.out); rintro e w25 ⟨rfl, hb⟩; refine ⟨_, rfl, ?_⟩; replace HO_11 := Aside0.mk (Kd.R_below (rU ((Kd.R_mono (Kd.R_far (p := ⟨gb496, 1, none⟩) (Kd.R_far (p := ⟨gb496, 0, none⟩) (Kd.R_mono HO_11.out (fun k_ hk => (⟨hk, hk.2⟩ : _ ∧ k_ ≠ gb496))) (fun _ hk => hk.2) (.int .i64 ((rd_T48 l0 x26_1).f0))) (fun _ hk => hk.2) (.int .i64 ((rd_T48 l0 x26_1).f1))) (fun _ h_ => h_.1)))) hb); replace BK490 := Aside0.mk (blk_below (g := gb490) (o := .cells #[.int .i64 a4_0, .int .i64 a4_1, .int .i64 a4_2, .int .i64 a4_3, .int .i64 a4_4, .int .i64 a4_5, .int .i64 a4_6, .int .i64 a4_7, .int .i64 a4_8, .int .i64 a4_9] 24 (0, 0)) (bF BK490) hb); replace BK496 := Aside0.mk (blk_below (g := gb496) (o := .cells #[.int .i64 ((rd_T48 l0 x26_1).f0), .int .i64 ((rd_T48 l0 x26_1).f1)] 48 (0, 0)) (by (with_reducible repeat (first | refine blk_drewN ?_ _ | refine blk_drew ?_ | refine blk_alloc ?_ _)); refine blk_put (cs := #[.int .i64 ((rd_T48 l0 x26_1).f0), .int .i64 0]) ?_ 1 _ rfl; (with_reducible repeat (first | refine blk_drewN ?_ _ | refine blk_drew ?_ | refine blk_alloc ?_ _)); refine blk_put (cs := #[.int .i64 0, .int .i64 0]) ?_ 0 _ rfl; (with_reducible repeat (first | refine blk_drewN ?_ _ | refine blk_drew ?_ | refine blk_alloc ?_ _)); exact BK496.out) hb); replace HB := sL HB hb; (try clear hb); (try clear hb2); (try clear hk); (try clear hi); obtain ⟨hcz26_0, hcz26_1⟩ := q2 BK496; obtain ⟨hfz26_0, hfz26_1⟩ := z2 BK496))
         go_ret
         exact ⟨eW, lU HB⟩
        ·rw [if_neg c19] at H
         have c19b0 : decide (((rd_T48 l0 x26_1).f0) < x12_1) = false := decide_eq_false c19
         clear c19
         have H' := Aside0.mk H
         clear H
         have p495 : 0 ≤ (x26_1 : Int) := of_decide_eq_true (by first | (with_reducible assumption) | assumption)
         have q495 : x26_1 < (l0.length : Int) := of_decide_eq_true (by first | (with_reducible assumption) | assumption)
         obtain ⟨ad495, e495, hx495_0, hx495_1⟩ := at_T48 HR0.out x26_1 p495 q495
         cases e495
         replace hx495_0 := cB HB hx495_0
         replace hx495_1 := cB HB hx495_1
         replace p495 := eq_true p495
         replace q495 := eq_true q495
         go_wp2_with (first | ((with_reducible refine gate_dst (N := 14) rfl ?_); (try (refine gate_guard (by rfl) ?_; dsimp only)); refine bX (N := 14) (cs := #[.int .i64 0, .int .i64 0]) (t := 48) ?_; intro gb496 hg w27 hbox hb; have BK496 := Aside0.mk (hbox); have GE496 := sG HB hg; have NB490_496 := sN BK490 hg; have NB496_490 := sM BK490 hg; replace HO_11 := Aside0.mk (Kd.R_below (Kd.R_elderB (rU HO_11.out) gb496 (Nat.le_of_eq hg.symm)) hb); replace BK490 := sB BK490 hb; replace HB := sL HB hb; clear hb hbox hg; have hnb28 := NB496_490.out; have hnc28 := NB490_496.out; obtain ⟨hcz29_0, hcz29_1⟩ := q2 BK496; obtain ⟨hfz29_0, hfz29_1⟩ := z2 BK496; obtain ⟨hcz30_0, hcz30_1, hcz30_2, hcz30_3, hcz30_4, hcz30_5, hcz30_6, hcz30_7, hcz30_8, hcz30_9⟩ := q10 BK490; obtain ⟨hfz30_0, hfz30_1, hfz30_2, hfz30_3, hfz30_4, hfz30_5, hfz30_6, hfz30_7, hfz30_8, hfz30_9⟩ := z10 BK490; obtain ⟨Ao31, co31, eo31⟩ := Kd.R_slice HO_11.out; subst eo31) | ((with_reducible refine gate_callee (f := 37) rfl ?_); refine gL (some 35) rfl rfl Try.func37 #[.agg #[.int .i64 ((rd_T48 l0 x26_1).f0), .int .i64 ((rd_T48 l0 x26_1).f1)], .slice Ao31 t492.length co31, .slice A2 l2.length c2, .int .i64 a3, .agg #[.int .i64 a4_0, .int .i64 a4_1, .int .i64 a4_2, .int .i64 a4_3, .int .i64 a4_4, .int .i64 a4_5, .int .i64 a4_6, .int .i64 a4_7, .int .i64 a4_8, .int .i64 a4_9]] rfl ?_; (with_reducible refine (mandolineref35_Fetch.calls k1 ((rd_T48 l0 x26_1).f0) ((rd_T48 l0 x26_1).f1) _ _ t492 _ _ l2 a3 a4_0 a4_1 a4_2 a4_3 a4_4 a4_5 a4_6 a4_7 a4_8 a4_9 true _ ?side1 ?side2 ?side3 ?side4 A17.out).mono ?_); (case side1 => refine (Kd.R_reads' (e := 48) (base := w.heap.size) (ok := fun k_ => (True ∧ k_ ≠ gb496)) (n := t492.length) (c := co31) ?_).2.2; exact (rU ((Kd.R_mono (Kd.R_far (p := ⟨gb496, 1, none⟩) (Kd.R_far (p := ⟨gb496, 0, none⟩) (Kd.R_mono HO_11.out (fun k_ hk => (⟨hk, hk.2⟩ : _ ∧ k_ ≠ gb496))) (fun _ hk => hk.2) (.int .i64 ((rd_T48 l0 x26_1).f0))) (fun _ hk => hk.2) (.int .i64 ((rd_T48 l0 x26_1).f1))) (fun _ h_ => h_.1))))); (case side2 => exact (rN HO_11)); (case side3 => exact Kd.C_below HR2.out (lU HB)); (case side4 => exact HC2.out); rintro e w32 ⟨rfl, hb⟩; refine ⟨_, rfl, ?_⟩; replace HO_11 := Aside0.mk (Kd.R_below (rU ((Kd.R_mono (Kd.R_far (p := ⟨gb496, 1, none⟩) (Kd.R_far (p := ⟨gb496, 0, none⟩) (Kd.R_mono HO_11.out (fun k_ hk => (⟨hk, hk.2⟩ : _ ∧ k_ ≠ gb496))) (fun _ hk => hk.2) (.int .i64 ((rd_T48 l0 x26_1).f0))) (fun _ hk => hk.2) (.int .i64 ((rd_T48 l0 x26_1).f1))) (fun _ h_ => h_.1)))) hb); replace BK490 := Aside0.mk (blk_below (g := gb490) (o := .cells #[.int .i64 a4_0, .int .i64 a4_1, .int .i64 a4_2, .int .i64 a4_3, .int .i64 a4_4, .int .i64 a4_5, .int .i64 a4_6, .int .i64 a4_7, .int .i64 a4_8, .int .i64 a4_9] 24 (0, 0)) (bF BK490) hb); replace BK496 := Aside0.mk (blk_below (g := gb496) (o := .cells #[.int .i64 ((rd_T48 l0 x26_1).f0), .int .i64 ((rd_T48 l0 x26_1).f1)] 48 (0, 0)) (by (with_reducible repeat (first | refine blk_drewN ?_ _ | refine blk_drew ?_ | refine blk_alloc ?_ _)); refine blk_put (cs := #[.int .i64 ((rd_T48 l0 x26_1).f0), .int .i64 0]) ?_ 1 _ rfl; (with_reducible repeat (first | refine blk_drewN ?_ _ | refine blk_drew ?_ | refine blk_alloc ?_ _)); refine blk_put (cs := #[.int .i64 0, .int .i64 0]) ?_ 0 _ rfl; (with_reducible repeat (first | refine blk_drewN ?_ _ | refine blk_drew ?_ | refine blk_alloc ?_ _)); exact BK496.out) hb); replace HB := sL HB hb; (try clear hb); (try clear hb2); (try clear hk); (try clear hi); obtain ⟨hcz33_0, hcz33_1⟩ := q2 BK496; obtain ⟨hfz33_0, hfz33_1⟩ := z2 BK496))
         go_roundg k1
         case measure => have := HK1.out; omega
         case rel => exact ⟨((rd_T48 l0 x26_1).f1), (wrap64 (x26_1 + 1)), eR, eR, H', ⟨by have := HK1.out; omega⟩, ⟨rU (Kd.R_mono HO_11.out (fun _ hk => trivial))⟩, ⟨bU BK490⟩, ⟨lU HB⟩⟩
       ·replace c18 := Bool.eq_false_iff.mpr c18
        subst c18
        rw [if_neg (show ¬ (false = true) by decide)] at H
        obtain rfl := Option.some.inj H
        have p495 : 0 ≤ (x26_1 : Int) := of_decide_eq_true (by first | (with_reducible assumption) | assumption)
        have q495 : x26_1 < (l0.length : Int) := of_decide_eq_true (by first | (with_reducible assumption) | assumption)
        obtain ⟨ad495, e495, hx495_0, hx495_1⟩ := at_T48 HR0.out x26_1 p495 q495
        cases e495
        replace hx495_0 := cB HB hx495_0
        replace hx495_1 := cB HB hx495_1
        replace p495 := eq_true p495
        replace q495 := eq_true q495
        go_wp2_with (first | ((with_reducible refine gate_dst (N := 14) rfl ?_); (try (refine gate_guard (by rfl) ?_; dsimp only)); refine bX (N := 14) (cs := #[.int .i64 0, .int .i64 0]) (t := 48) ?_; intro gb496 hg w34 hbox hb; have BK496 := Aside0.mk (hbox); have GE496 := sG HB hg; have NB490_496 := sN BK490 hg; have NB496_490 := sM BK490 hg; replace HO_11 := Aside0.mk (Kd.R_below (Kd.R_elderB (rU HO_11.out) gb496 (Nat.le_of_eq hg.symm)) hb); replace BK490 := sB BK490 hb; replace HB := sL HB hb; clear hb hbox hg; have hnb35 := NB496_490.out; have hnc35 := NB490_496.out; obtain ⟨hcz36_0, hcz36_1⟩ := q2 BK496; obtain ⟨hfz36_0, hfz36_1⟩ := z2 BK496; obtain ⟨hcz37_0, hcz37_1, hcz37_2, hcz37_3, hcz37_4, hcz37_5, hcz37_6, hcz37_7, hcz37_8, hcz37_9⟩ := q10 BK490; obtain ⟨hfz37_0, hfz37_1, hfz37_2, hfz37_3, hfz37_4, hfz37_5, hfz37_6, hfz37_7, hfz37_8, hfz37_9⟩ := z10 BK490; obtain ⟨Ao38, co38, eo38⟩ := Kd.R_slice HO_11.out; subst eo38) | ((with_reducible refine gate_callee (f := 37) rfl ?_); refine gL (some 35) rfl rfl Try.func37 #[.agg #[.int .i64 ((rd_T48 l0 x26_1).f0), .int .i64 ((rd_T48 l0 x26_1).f1)], .slice Ao38 t492.length co38, .slice A2 l2.length c2, .int .i64 a3, .agg #[.int .i64 a4_0, .int .i64 a4_1, .int .i64 a4_2, .int .i64 a4_3, .int .i64 a4_4, .int .i64 a4_5, .int .i64 a4_6, .int .i64 a4_7, .int .i64 a4_8, .int .i64 a4_9]] rfl ?_; (with_reducible refine (mandolineref35_Fetch.calls k1 ((rd_T48 l0 x26_1).f0) ((rd_T48 l0 x26_1).f1) _ _ t492 _ _ l2 a3 a4_0 a4_1 a4_2 a4_3 a4_4 a4_5 a4_6 a4_7 a4_8 a4_9 false _ ?side1 ?side2 ?side3 ?side4 A17.out).mono ?_); (case side1 => refine (Kd.R_reads' (e := 48) (base := w.heap.size) (ok := fun k_ => (True ∧ k_ ≠ gb496)) (n := t492.length) (c := co38) ?_).2.2; exact (rU ((Kd.R_mono (Kd.R_far (p := ⟨gb496, 1, none⟩) (Kd.R_far (p := ⟨gb496, 0, none⟩) (Kd.R_mono HO_11.out (fun k_ hk => (⟨hk, hk.2⟩ : _ ∧ k_ ≠ gb496))) (fun _ hk => hk.2) (.int .i64 ((rd_T48 l0 x26_1).f0))) (fun _ hk => hk.2) (.int .i64 ((rd_T48 l0 x26_1).f1))) (fun _ h_ => h_.1))))); (case side2 => exact (rN HO_11)); (case side3 => exact Kd.C_below HR2.out (lU HB)); (case side4 => exact HC2.out); rintro e w39 ⟨rfl, hb⟩; refine ⟨_, rfl, ?_⟩; replace HO_11 := Aside0.mk (Kd.R_below (rU ((Kd.R_mono (Kd.R_far (p := ⟨gb496, 1, none⟩) (Kd.R_far (p := ⟨gb496, 0, none⟩) (Kd.R_mono HO_11.out (fun k_ hk => (⟨hk, hk.2⟩ : _ ∧ k_ ≠ gb496))) (fun _ hk => hk.2) (.int .i64 ((rd_T48 l0 x26_1).f0))) (fun _ hk => hk.2) (.int .i64 ((rd_T48 l0 x26_1).f1))) (fun _ h_ => h_.1)))) hb); replace BK490 := Aside0.mk (blk_below (g := gb490) (o := .cells #[.int .i64 a4_0, .int .i64 a4_1, .int .i64 a4_2, .int .i64 a4_3, .int .i64 a4_4, .int .i64 a4_5, .int .i64 a4_6, .int .i64 a4_7, .int .i64 a4_8, .int .i64 a4_9] 24 (0, 0)) (bF BK490) hb); replace BK496 := Aside0.mk (blk_below (g := gb496) (o := .cells #[.int .i64 ((rd_T48 l0 x26_1).f0), .int .i64 ((rd_T48 l0 x26_1).f1)] 48 (0, 0)) (by (with_reducible repeat (first | refine blk_drewN ?_ _ | refine blk_drew ?_ | refine blk_alloc ?_ _)); refine blk_put (cs := #[.int .i64 ((rd_T48 l0 x26_1).f0), .int .i64 0]) ?_ 1 _ rfl; (with_reducible repeat (first | refine blk_drewN ?_ _ | refine blk_drew ?_ | refine blk_alloc ?_ _)); refine blk_put (cs := #[.int .i64 0, .int .i64 0]) ?_ 0 _ rfl; (with_reducible repeat (first | refine blk_drewN ?_ _ | refine blk_drew ?_ | refine blk_alloc ?_ _)); exact BK496.out) hb); replace HB := sL HB hb; (try clear hb); (try clear hb2); (try clear hk); (try clear hi)))
        go_ret
        exact ⟨eW, lU HB⟩
      ·rw [if_neg c16] at H
       exact absurd H (by simp)
     ·rw [if_neg c15] at H
      exact absurd H (by simp)
    ·rw [if_neg c14] at H
     have c14b0 : decide (x26_1 < (l0.length : Int)) = false := decide_eq_false c14
     clear c14
     obtain ⟨t498, A40, H⟩ := bO H
     by_cases c41 : t498 = true
     ·subst c41
      rw [if_pos rfl] at H
      obtain rfl := Option.some.inj H
      obtain ⟨Ao42, co42, eo42⟩ := Kd.R_slice HO_11.out
      subst eo42
      go_wp2_with (first | ((with_reducible refine gate_callee (f := 35) rfl ?_); refine gL (some 48) rfl rfl Try.func35 #[.slice Ao42 t492.length co42, .slice A2 l2.length c2] rfl ?_; (with_reducible refine (mandolineref35_held.calls k1 _ _ t492 _ _ l2 true _ (cU (rC HO_11)) (rN HO_11) (cU (Kd.C_below HR2.out HB.out)) HC2.out A40.out).mono ?_); rintro e w43 ⟨rfl, hb⟩; refine ⟨_, rfl, ?_⟩; replace HO_11 := rB HO_11 hb; replace BK490 := sB BK490 hb; replace HB := sL HB hb; (try clear hb); (try clear hb2); (try clear hk); (try clear hi)))
      go_ret
      exact ⟨eW, lU HB⟩
     ·replace c41 := Bool.eq_false_iff.mpr c41
      subst c41
      rw [if_neg (show ¬ (false = true) by decide)] at H
      obtain ⟨t499, A44, H⟩ := bO H
      obtain rfl := Option.some.inj H
      obtain ⟨Ao45, co45, eo45⟩ := Kd.R_slice HO_11.out
      subst eo45
      go_wp2_with (first | ((with_reducible refine gate_callee (f := 35) rfl ?_); refine gL (some 48) rfl rfl Try.func35 #[.slice Ao45 t492.length co45, .slice A2 l2.length c2] rfl ?_; (with_reducible refine (mandolineref35_held.calls k1 _ _ t492 _ _ l2 false _ (cU (rC HO_11)) (rN HO_11) (cU (Kd.C_below HR2.out HB.out)) HC2.out A40.out).mono ?_); rintro e w46 ⟨rfl, hb⟩; refine ⟨_, rfl, ?_⟩; replace HO_11 := rB HO_11 hb; replace BK490 := sB BK490 hb; replace HB := sL HB hb; (try clear hb); (try clear hb2); (try clear hk); (try clear hi)) | (go_at_call 38; (with_reducible refine (mandolineref02_Less.calls k1 _ _ t492 _ _ l0 t499 _ (cU (rC HO_11)) (rN HO_11) (cU (Kd.C_below HR0.out HB.out)) HC0.out A44.out).mono ?_); rintro e w47 ⟨v500, rfl, ho0, hb⟩; have HO501 := Aside0.mk (Kd.R_lower (Kd.R_new' ho0 (Kd.R_lt (rU HO_11.out))) (below_size (lU HB))); replace HO_11 := rE HO_11 ho0 hb; replace BK490 := sB BK490 hb; replace HB := sL HB hb; (try clear hb); (try clear hb2); (try clear hk); (try clear hi); (try clear ho0); obtain ⟨Ao48, co48, eo48⟩ := Kd.R_slice HO501.out; subst eo48))
      go_ret
      exact ⟨eW, lU HB⟩
 ·replace c7 := Bool.eq_false_iff.mpr c7
  subst c7
  rw [if_neg (show ¬ (false = true) by decide)] at H
  obtain rfl := Option.some.inj H
  go_enter Try.func18, Try.ntmps18
  go_wp2_with (first | ((with_reducible refine gate_dst (N := 9) rfl ?_); (try (refine gate_guard (by rfl) ?_; dsimp only)); refine bX (N := 9) (cs := #[.int .i64 a4_0, .int .i64 a4_1, .int .i64 a4_2, .int .i64 a4_3, .int .i64 a4_4, .int .i64 a4_5, .int .i64 a4_6, .int .i64 a4_7, .int .i64 a4_8, .int .i64 a4_9]) (t := 24) ?_; intro gb490 hg w49 hbox hb; have BK490 := Aside0.mk (hbox); have GE490 := sG HB hg; replace HB := sL HB hb; clear hb hbox hg; obtain ⟨hcz50_0, hcz50_1, hcz50_2, hcz50_3, hcz50_4, hcz50_5, hcz50_6, hcz50_7, hcz50_8, hcz50_9⟩ := q10 BK490; obtain ⟨hfz50_0, hfz50_1, hfz50_2, hfz50_3, hfz50_4, hfz50_5, hfz50_6, hfz50_7, hfz50_8, hfz50_9⟩ := z10 BK490) | ((with_reducible refine gate_callee (f := 34) rfl ?_); refine gL (some 17) rfl rfl Try.func34 #[.int .i64 a3, .agg #[.int .i64 a4_0, .int .i64 a4_1, .int .i64 a4_2, .int .i64 a4_3, .int .i64 a4_4, .int .i64 a4_5, .int .i64 a4_6, .int .i64 a4_7, .int .i64 a4_8, .int .i64 a4_9]] rfl ?_; (with_reducible refine (mandolineref35_argOk.calls k a3 a4_0 a4_1 a4_2 a4_3 a4_4 a4_5 a4_6 a4_7 a4_8 a4_9 false _ A6.out).mono ?_); rintro e w51 ⟨rfl, hb⟩; refine ⟨_, rfl, ?_⟩; replace BK490 := sB BK490 hb; replace HB := sL HB hb; (try clear hb); (try clear hb2); (try clear hk); (try clear hi)))
  go_ret
  exact ⟨eW, lU HB⟩
mutual
def mandolineref35_Fewest.l0 : Nat → List (S48) → List (S48) → List (S48) → Int → Int → List Int → Int → Int → Int → Int → Int → Int → Int → Int → Int → Int → Int → Int → Option (Int)
 | 0, _, _, _, _, _, _, _, _, _, _, _, _, _, _, _, _, _, _ => none
 | k + 1, x0, x1, x2, x3, x11, x25, x26, x27, x503000, x503001, x503002, x503003, x503004, x503005, x503006, x503007, x503008, x503009 => if x27 < x26 then (if 0 ≤ x27 then (if x27 < (x25.length : Int) then (if 0 < (x1.length : Int) then ((mandolineref35_Fetch.f k ((rd_T48 x1 0).f0) (rd x25 x27) x0 x2 x3 x503000 x503001 x503002 x503003 x503004 x503005 x503006 x503007 x503008 x503009).bind fun t510 => (if t510 = true then ((mandolineref02_Less.f k x1 (([(⟨(rd_T48 x1 0).f0, rd x25 x27⟩ : S48)] : List (S48)))).bind fun t514 => ((mandolineref35_Fewest.f k x0 t514 x2 x3 x503000 x503001 x503002 x503003 x503004 x503005 x503006 x503007 x503008 x503009).bind fun t517 => (mandolineref35_Fewest.l0 k x0 x1 x2 x3 (mn x11 (wrap64 (1 + t517))) x25 x26 (wrap64 (x27 + 1)) x503000 x503001 x503002 x503003 x503004 x503005 x503006 x503007 x503008 x503009))) else (mandolineref35_Fewest.l0 k x0 x1 x2 x3 x11 x25 x26 (wrap64 (x27 + 1)) x503000 x503001 x503002 x503003 x503004 x503005 x503006 x503007 x503008 x503009))) else (none)) else (none)) else (none)) else (some x11)
def mandolineref35_Fewest.f : Nat → List (S48) → List (S48) → List (S48) → Int → Int → Int → Int → Int → Int → Int → Int → Int → Int → Int → Option (Int)
 | 0, _, _, _, _, _, _, _, _, _, _, _, _, _, _ => none
 | k + 1, l0, l1, l2, a3, a4_0, a4_1, a4_2, a4_3, a4_4, a4_5, a4_6, a4_7, a4_8, a4_9 => if (l1.length : Int) = 0 then (some 0) else (if 0 < (l1.length : Int) then ((mandolineref35_Ends.f k l1 ((rd_T48 l1 0).f0) a4_0).bind fun t504 => (mandolineref35_Fewest.l0 k l0 l1 l2 a3 1000 t504 (t504.length : Int) 0 a4_0 a4_1 a4_2 a4_3 a4_4 a4_5 a4_6 a4_7 a4_8 a4_9)) else (none))
end
def mandolineref35_Fewest.T4 : Bool × List (List Nat × List Nat) := (true, [([], []), ([], []), ([1], [1]), ([2], [2]), ([3], [3]), ([], []), ([5], [5]), ([0, 4, 6], [0, 4, 6]), ([7], [7]), ([], [])])
def mandolineref35_Fewest.B4 : List Nat := [0, 0, 2, 6, 14, 0, 32, 127, 255, 0]
theorem mandolineref35_Fewest.tab4 : rtab .any (opsOf Try.f19 4) = mandolineref35_Fewest.T4 := by kernel_rfl
theorem mandolineref35_Fewest.bits4 : waitsOk mandolineref35_Fewest.T4.2 mandolineref35_Fewest.B4 = true := by kernel_rfl
def mandolineref35_Fewest.T9 : Bool × List (List Nat × List Nat) := (true, [([], []), ([], []), ([], []), ([], []), ([3], [3]), ([2, 4], [2, 4]), ([], []), ([], []), ([], []), ([1, 5, 6, 7, 8, 5], [1, 5, 6, 7, 8]), ([9], [9]), ([0, 10], [0, 10]), ([11, 9, 0, 1, 2, 3, 4, 5, 6, 7, 8, 9, 10, 11], [0, 11])])
def mandolineref35_Fewest.B9 : List Nat := [0, 0, 0, 0, 8, 28, 0, 0, 0, 510, 1022, 2047, 4095]
theorem mandolineref35_Fewest.tab9 : rtab .any (opsOf Try.f19 9) = mandolineref35_Fewest.T9 := by kernel_rfl
theorem mandolineref35_Fewest.bits9 : waitsOk mandolineref35_Fewest.T9.2 mandolineref35_Fewest.B9 = true := by kernel_rfl
set_option maxHeartbeats 8000000 in
set_option maxRecDepth 100000 in
theorem mandolineref35_Fewest.calls (k : Nat) : ∀ (A0 : Option Addr) (c0 : Nat) (l0 : List (S48)) (A1 : Option Addr) (c1 : Nat) (l1 : List (S48)) (A2 : Option Addr) (c2 : Nat) (l2 : List (S48)) (a3 : Int) (a4_0 : Int) (a4_1 : Int) (a4_2 : Int) (a4_3 : Int) (a4_4 : Int) (a4_5 : Int) (a4_6 : Int) (a4_7 : Int) (a4_8 : Int) (a4_9 : Int) (r : Int) (w : World) (hr0 : Kd.C k48 w A0 l0.length l0) (hc0 : l0.length ≤ c0) (hr1 : Kd.C k48 w A1 l1.length l1) (hc1 : l1.length ≤ c1) (hr2 : Kd.C k48 w A2 l2.length l2) (hc2 : l2.length ≤ c2) (h : mandolineref35_Fewest.f k l0 l1 l2 a3 a4_0 a4_1 a4_2 a4_3 a4_4 a4_5 a4_6 a4_7 a4_8 a4_9 = some r),
  Calls Try.prog 19 #[.slice A0 l0.length c0, .slice A1 l1.length c1, .slice A2 l2.length c2, .int .i64 a3, .agg #[.int .i64 a4_0, .int .i64 a4_1, .int .i64 a4_2, .int .i64 a4_3, .int .i64 a4_4, .int .i64 a4_5, .int .i64 a4_6, .int .i64 a4_7, .int .i64 a4_8, .int .i64 a4_9]] w fun e w' => e = .returned (.int .i64 r) ∧ Below w.heap.size w w' := by
 induction k using Nat.strongRecOn with
 | _ k ih =>
 intro A0 c0 l0 A1 c1 l1 A2 c2 l2 a3 a4_0 a4_1 a4_2 a4_3 a4_4 a4_5 a4_6 a4_7 a4_8 a4_9 r w hr0 hc0 hr1 hc1 hr2 hc2 h
 cases k with
 | zero => exact absurd h (by simp [mandolineref35_Fewest.f])
 | succ k =>
 simp only [mandolineref35_Fewest.f] at h
 have hu24 := Try.underlying24
 have hu48 := Try.underlying48
 have HR0 := Aside0.mk hr0
 have HC0 := Aside0.mk hc0
 clear hr0 hc0
 have HR1 := Aside0.mk hr1
 have HC1 := Aside0.mk hc1
 clear hr1 hc1
 have HR2 := Aside0.mk hr2
 have HC2 := Aside0.mk hc2
 clear hr2 hc2
 have HB := Aside0.mk (Below.refl w.heap.size w)
 have H : (if (l1.length : Int) = 0 then (some 0) else (if 0 < (l1.length : Int) then ((mandolineref35_Ends.f k l1 ((rd_T48 l1 0).f0) a4_0).bind fun t504 => (mandolineref35_Fewest.l0 k l0 l1 l2 a3 1000 t504 (t504.length : Int) 0 a4_0 a4_1 a4_2 a4_3 a4_4 a4_5 a4_6 a4_7 a4_8 a4_9)) else (none))) = some r := h
 clear h
 by_cases c6 : (l1.length : Int) = 0
 ·rw [if_pos c6] at H
  have c6b0 : ((l1.length : Int) == 0) = true := beq_iff_eq.mpr c6
  have c6b1 : ((l1.length : Int) != 0) = false := bne_eq_false_iff_eq.mpr c6
  clear c6
  obtain rfl := Option.some.inj H
  go_enter Try.func19, Try.ntmps19
  go_wp2_with (first | ((with_reducible refine gate_dst (N := 9) rfl ?_); refine bX (N := 9) (cs := #[.int .i64 a4_0, .int .i64 a4_1, .int .i64 a4_2, .int .i64 a4_3, .int .i64 a4_4, .int .i64 a4_5, .int .i64 a4_6, .int .i64 a4_7, .int .i64 a4_8, .int .i64 a4_9]) (t := 24) ?_; intro gb502 hg w7 hbox hb; have BK502 := Aside0.mk (hbox); have GE502 := sG HB hg; replace HB := sL HB hb; clear hb hbox hg))
  go_ret
  exact ⟨eW, lU HB⟩
 ·rw [if_neg c6] at H
  have c6b0 : ((l1.length : Int) == 0) = false := beq_eq_false_iff_ne.mpr c6
  have c6b1 : ((l1.length : Int) != 0) = true := bne_iff_ne.mpr c6
  have c6b2 : ¬ (l1 = []) := fun h_ => c6 (by rw [h_]; rfl)
  by_cases c8 : 0 < (l1.length : Int)
  ·rw [if_pos c8] at H
   have c8b0 : decide (0 < (l1.length : Int)) = true := decide_eq_true c8
   have c8b1 : decide (0 < l1.length) = true := decide_eq_true (by omega)
   clear c8
   obtain ⟨t504, A9, H⟩ := bO H
   have H' := Aside0.mk H
   clear H
   go_enter Try.func19, Try.ntmps19
   try go_wp2_with (first | ((with_reducible refine gate_dst (N := 9) rfl ?_); refine bX (N := 9) (cs := #[.int .i64 a4_0, .int .i64 a4_1, .int .i64 a4_2, .int .i64 a4_3, .int .i64 a4_4, .int .i64 a4_5, .int .i64 a4_6, .int .i64 a4_7, .int .i64 a4_8, .int .i64 a4_9]) (t := 24) ?_; intro gb502 hg w10 hbox hb; have BK502 := Aside0.mk (hbox); have GE502 := sG HB hg; replace HB := sL HB hb; clear hb hbox hg))
   replace BK502 := Aside0.mk (blk_drew BK502.out)
   replace HB := Aside0.mk (below_drew1 HB.out)
   have p503 : 0 ≤ (0 : Int) := (by omega)
   have q503 : 0 < (l1.length : Int) := of_decide_eq_true (by first | (with_reducible assumption) | assumption)
   obtain ⟨ad503, e503, hx503_0, hx503_1⟩ := at_T48 HR1.out 0 p503 q503
   have hw503_1 := hx503_1
   (try rw [show ((0 : Int)).toNat = 0 from rfl] at hw503_1)
   (try rw [show 0 * 2 = 0 from rfl] at hw503_1)
   (try rw [Addr.add_zero'] at hw503_1)
   have hw503_0 := hx503_0
   (try rw [show ((0 : Int)).toNat = 0 from rfl] at hw503_0)
   (try rw [show 0 * 2 = 0 from rfl] at hw503_0)
   (try rw [Addr.add_zero'] at hw503_0)
   cases e503
   have qi503 : (0 < l1.length) = True := eq_true (by omega)
   (try rw [show ((0 : Int)).toNat = 0 from rfl] at hx503_0)
   (try rw [show 0 * 2 = 0 from rfl] at hx503_0)
   (try rw [Addr.add_zero'] at hx503_0)
   (try rw [show ((0 : Int)).toNat = 0 from rfl] at hx503_1)
   (try rw [show 0 * 2 = 0 from rfl] at hx503_1)
   (try rw [Addr.add_zero'] at hx503_1)
   replace hx503_0 := cB HB hx503_0
   replace hx503_1 := cB HB hx503_1
   replace p503 := eq_true p503
   replace q503 := eq_true q503
   refine start_ (n := 10) (S := fun w' => w'.cell? ⟨gb502, 0, none⟩ = some (.int .i64 a4_0) ∧ w'.cell? ⟨gb502, 1, none⟩ = some (.int .i64 a4_1) ∧ w'.cell? ⟨gb502, 2, none⟩ = some (.int .i64 a4_2) ∧ w'.cell? ⟨gb502, 3, none⟩ = some (.int .i64 a4_3) ∧ w'.cell? ⟨gb502, 4, none⟩ = some (.int .i64 a4_4) ∧ w'.cell? ⟨gb502, 5, none⟩ = some (.int .i64 a4_5) ∧ w'.cell? ⟨gb502, 6, none⟩ = some (.int .i64 a4_6) ∧ w'.cell? ⟨gb502, 7, none⟩ = some (.int .i64 a4_7) ∧ w'.cell? ⟨gb502, 8, none⟩ = some (.int .i64 a4_8) ∧ w'.cell? ⟨gb502, 9, none⟩ = some (.int .i64 a4_9) ∧ w'.cell? ad503 = some (.int .i64 ((rd_T48 l1 0).f0)) ∧ w'.cell? ⟨ad503.block, ad503.off + 1, none⟩ = some (.int .i64 ((rd_T48 l1 0).f1))) (ds := []) #[false, false, false, false, false, false, false, false, false, false] (by kernel_rfl) rfl rfl ⟨(blk_cell BK502.out 0).trans rfl, (blk_cell BK502.out 1).trans rfl, (blk_cell BK502.out 2).trans rfl, (blk_cell BK502.out 3).trans rfl, (blk_cell BK502.out 4).trans rfl, (blk_cell BK502.out 5).trans rfl, (blk_cell BK502.out 6).trans rfl, (blk_cell BK502.out 7).trans rfl, (blk_cell BK502.out 8).trans rfl, (blk_cell BK502.out 9).trans rfl, (cB HB hw503_0), (cB HB hw503_1)⟩ (fun hHeld => ?_); refine with_tabW mandolineref35_Fewest.tab4 mandolineref35_Fewest.bits4 (fun HT_ HW_ => ?_)
   generalize w10.drew = w11 at BK502 HB hx503_0 hx503_1 hHeld ⊢
   refine pS (i := 0) (N := some 18) (ma 10 1) rfl rfl HT_.out ?_
   refine pS (i := 1) (N := some 19) (ma 10 3) rfl rfl HT_.out ?_
   refine pS (i := 2) (N := some 20) (ma 10 7) rfl rfl HT_.out ?_
   refine pS (i := 3) (N := some 21) (ma 10 15) rfl rfl HT_.out ?_
   refine pS (i := 5) (N := some 23) (ma 10 47) rfl rfl HT_.out ?_
   refine pS (i := 9) (N := some 27) (ma 10 559) rfl rfl HT_.out ?_
   refine tS (i := 4) (N := some 22) (ma 10 575) rfl rfl HT_.out HW_.out hHeld ?_
   refine tS (i := 6) (N := some 24) (ma 10 639) rfl rfl HT_.out HW_.out hHeld ?_
   refine one_ (i := 7) (N := some 25) (ma 10 767) rfl rfl (one_of HT_.out (by kernel_rfl)) (by decide) (fun K hK => ?_)
   refine gO Try.func36 #[.slice (some ad503) l1.length c1, .int .i64 ((rd_T48 l1 0).f0), .int .i64 a4_0] rfl rfl ?_
   with_reducible refine (mandolineref35_Ends.calls k _ _ l1 ((rd_T48 l1 0).f0) a4_0 t504 _ (cU (Kd.C_below HR1.out HB.out)) HC1.out A9.out).mono ?_
   rintro e w12 ⟨v505, rfl, ho0, hb⟩
   refine ⟨_, rfl, ?_⟩
   have HO506 := Aside0.mk (Kd.R_lower ho0 (below_size (lU HB)))
   replace BK502 := sB BK502 hb
   replace HB := sL HB hb
   (try clear hb)
   (try clear hb2)
   (try clear hk)
   (try clear hi)
   (try clear ho0)
   obtain ⟨Ao13, co13, eo13⟩ := Kd.R_slice HO506.out
   (first | subst eo13 | (injection eo13 with f1_ f2_ f3_; have f4_ := f1_.symm; have f5_ := f3_.symm; clear f1_ f2_ f3_; subst f4_; subst f5_))
   refine hK.out _ _ ⟨(blk_cell BK502.out 0).trans rfl, (blk_cell BK502.out 1).trans rfl, (blk_cell BK502.out 2).trans rfl, (blk_cell BK502.out 3).trans rfl, (blk_cell BK502.out 4).trans rfl, (blk_cell BK502.out 5).trans rfl, (blk_cell BK502.out 6).trans rfl, (blk_cell BK502.out 7).trans rfl, (blk_cell BK502.out 8).trans rfl, (blk_cell BK502.out 9).trans rfl, (cB HB hw503_0), (cB HB hw503_1)⟩ (fun hHeld => ?_)
   clear hK K
   refine nP (some 25) ?_
   refine pS (i := 8) (N := some 26) (ma 10 1023) rfl rfl HT_.out ?_
   refine done_ (done_of HT_.out (by kernel_rfl)) ?_
   try go_wp2
   go_loopg [11, 27] k (fun kq v11 v27 w' => ∃ (x11_1 : Int) (x27_1 : Int), v11 = .int .i64 x11_1 ∧ v27 = .int .i64 x27_1 ∧ Aside0 (mandolineref35_Fewest.l0 kq l0 l1 l2 a3 x11_1 t504 (t504.length : Int) x27_1 a4_0 a4_1 a4_2 a4_3 a4_4 a4_5 a4_6 a4_7 a4_8 a4_9 = some r) ∧ Aside0 (kq ≤ k) ∧ Aside0 (Kd.R (Kd.int .i64) 2 w' w.heap.size (fun _ => True) (.slice Ao13 t504.length co13) t504) ∧ Aside0 (w'.heap[gb502]? = some (.cells #[.int .i64 a4_0, .int .i64 a4_1, .int .i64 a4_2, .int .i64 a4_3, .int .i64 a4_4, .int .i64 a4_5, .int .i64 a4_6, .int .i64 a4_7, .int .i64 a4_8, .int .i64 a4_9] 24 (0, 0))) ∧ Aside0 (Below w.heap.size w w'))
   case atStart => exact ⟨(1000), (0), eR, eR, H', ⟨Nat.le_refl _⟩, ⟨rU HO506.out⟩, ⟨bU BK502⟩, ⟨lU HB⟩⟩
   case round =>
    clear H'
    try clear c1
    try clear c2
    try clear p2
    try clear c3
    try clear p5
    try clear q5
    try clear hx5
    try clear qi5
    try clear c6
    try clear c6b0
    try clear c6b1
    try clear c6b2
    try clear c8
    try clear c8b0
    try clear c8b1
    try clear hx503_0
    try clear hx503_1
    try clear p503
    try clear q503
    obtain ⟨x11_1, x27_1, rfl, rfl, HA, HK1, HO_25, BK502, HB⟩ := hrel
    cases gk with
    | zero => exact absurd HA.out (by simp [mandolineref35_Fewest.l0])
    | succ k1 =>
     have H := HA.out
     clear HA
     simp only [mandolineref35_Fewest.l0] at H
     by_cases c14 : x27_1 < (t504.length : Int)
     ·rw [if_pos c14] at H
      have c14b0 : decide (x27_1 < (t504.length : Int)) = true := decide_eq_true c14
      clear c14
      by_cases c15 : 0 ≤ x27_1
      ·rw [if_pos c15] at H
       have c15b0 : decide (0 ≤ x27_1) = true := decide_eq_true c15
       clear c15
       by_cases c16 : x27_1 < (t504.length : Int)
       ·rw [if_pos c16] at H
        have c16b0 : decide (x27_1 < (t504.length : Int)) = true := decide_eq_true c16
        clear c16
        by_cases c17 : 0 < (l1.length : Int)
        ·rw [if_pos c17] at H
         have c17b0 : decide (0 < (l1.length : Int)) = true := decide_eq_true c17
         have c17b1 : decide (0 < l1.length) = true := decide_eq_true (by omega)
         clear c17
         obtain ⟨t510, A18, H⟩ := bO H
         by_cases c19 : t510 = true
         ·subst c19
          rw [if_pos rfl] at H
          obtain ⟨y511, hy511⟩ : ∃ y_ : List (S48), y_ = (([(⟨(rd_T48 l1 0).f0, rd t504 x27_1⟩ : S48)] : List (S48))) := ⟨_, rfl⟩
          replace H : ((mandolineref02_Less.f k1 l1 y511).bind fun t514 => ((mandolineref35_Fewest.f k1 l0 t514 l2 a3 a4_0 a4_1 a4_2 a4_3 a4_4 a4_5 a4_6 a4_7 a4_8 a4_9).bind fun t517 => (mandolineref35_Fewest.l0 k1 l0 l1 l2 a3 (mn x11_1 (wrap64 (1 + t517))) t504 (t504.length : Int) (wrap64 (x27_1 + 1)) a4_0 a4_1 a4_2 a4_3 a4_4 a4_5 a4_6 a4_7 a4_8 a4_9))) = some r := by first | (rw [hy511]; with_reducible exact H) | (have H2_ := (Option.bind_some _ _).symm.trans H; rw [hy511]; with_reducible exact H2_) | (have H2_ := (Option.bind_some _ _).symm.trans H; with_reducible exact H2_) | with_reducible exact H | (rw [hy511]; exact H) | exact H
          have Ny511 := Aside0.mk hy511
          clear hy511
          obtain ⟨t514, A20, H⟩ := bO H
          obtain ⟨t517, A21, H⟩ := bO H
          obtain ⟨ji22, hji22⟩ : ∃ j_ : Int, (mn x11_1 (wrap64 (1 + t517))) = j_ := ⟨_, rfl⟩
          replace H : (mandolineref35_Fewest.l0 k1 l0 l1 l2 a3 ji22 t504 (t504.length : Int) (wrap64 (x27_1 + 1)) a4_0 a4_1 a4_2 a4_3 a4_4 a4_5 a4_6 a4_7 a4_8 a4_9) = some r := by first | (rw [hji22] at H; exact H) | (simp only [hji22] at H ⊢; exact H)
          (try rw [hji22] at A18)
          (try rw [hji22] at A20)
          (try rw [hji22] at A21)
          have hji22_ : (if (wrap64 (1 + t517)) < x11_1 then (wrap64 (1 + t517)) else x11_1) = ji22 := hji22
          have H' := Aside0.mk H
          clear H
          have p507 : 0 ≤ (x27_1 : Int) := of_decide_eq_true (by first | (with_reducible assumption) | assumption)
          have q507 : x27_1 < (t504.length : Int) := of_decide_eq_true (by first | (with_reducible assumption) | assumption)
          obtain ⟨ad507, e507, hx507_0⟩ := Kd.at_int (rC HO_25) x27_1 p507 q507
          cases e507
          replace p507 := eq_true p507
          replace q507 := eq_true q507
          have p508 : 0 ≤ (0 : Int) := (by omega)
          have q508 : 0 < (l1.length : Int) := of_decide_eq_true (by first | (with_reducible assumption) | assumption)
          obtain ⟨ad508, e508, hx508_0, hx508_1⟩ := at_T48 HR1.out 0 p508 q508
          obtain rfl : ad503 = ad508 := (by injection e508)
          have qi508 : (0 < l1.length) = True := eq_true (by omega)
          (try rw [show ((0 : Int)).toNat = 0 from rfl] at hx508_0)
          (try rw [show 0 * 2 = 0 from rfl] at hx508_0)
          (try rw [Addr.add_zero'] at hx508_0)
          (try rw [show ((0 : Int)).toNat = 0 from rfl] at hx508_1)
          (try rw [show 0 * 2 = 0 from rfl] at hx508_1)
          (try rw [Addr.add_zero'] at hx508_1)
          replace hx508_0 := cB HB hx508_0
          replace hx508_1 := cB HB hx508_1
          replace p508 := eq_true p508
          replace q508 := eq_true q508
          try go_wp2_with (first | ((with_reducible refine gate_dst (N := 14) rfl ?_); refine bX (N := 14) (cs := #[.int .i64 0, .int .i64 0]) (t := 48) ?_; intro gb509 hg w23 hbox hb; have BK509 := Aside0.mk (hbox); have GE509 := sG HB hg; have NB502_509 := sN BK502 hg; have NB509_502 := sM BK502 hg; replace HO_25 := rB HO_25 hb; replace BK502 := sB BK502 hb; replace HB := sL HB hb; clear hb hbox hg; have hnb24 := NB509_502.out; have hnc24 := NB502_509.out; obtain ⟨hcz25_0, hcz25_1⟩ := q2 BK509; obtain ⟨hfz25_0, hfz25_1⟩ := z2 BK509; obtain ⟨hcz26_0, hcz26_1, hcz26_2, hcz26_3, hcz26_4, hcz26_5, hcz26_6, hcz26_7, hcz26_8, hcz26_9⟩ := q10 BK502; obtain ⟨hfz26_0, hfz26_1, hfz26_2, hfz26_3, hfz26_4, hfz26_5, hfz26_6, hfz26_7, hfz26_8, hfz26_9⟩ := z10 BK502) | ((with_reducible refine gate_callee (f := 37) rfl ?_); refine gL (some 42) rfl rfl Try.func37 #[.agg #[.int .i64 ((rd_T48 l1 0).f0), .int .i64 (rd t504 x27_1)], .slice A0 l0.length c0, .slice A2 l2.length c2, .int .i64 a3, .agg #[.int .i64 a4_0, .int .i64 a4_1, .int .i64 a4_2, .int .i64 a4_3, .int .i64 a4_4, .int .i64 a4_5, .int .i64 a4_6, .int .i64 a4_7, .int .i64 a4_8, .int .i64 a4_9]] rfl ?_; (with_reducible refine (mandolineref35_Fetch.calls k1 ((rd_T48 l1 0).f0) (rd t504 x27_1) _ _ l0 _ _ l2 a3 a4_0 a4_1 a4_2 a4_3 a4_4 a4_5 a4_6 a4_7 a4_8 a4_9 true _ (Kd.C_below HR0.out (lU HB)) HC0.out (Kd.C_below HR2.out (lU HB)) HC2.out A18.out).mono ?_); rintro e w27 ⟨rfl, hb⟩; refine ⟨_, rfl, ?_⟩; replace HO_25 := Aside0.mk (Kd.R_below (rU ((Kd.R_mono (Kd.R_far (p := ⟨gb509, 1, none⟩) (Kd.R_far (p := ⟨gb509, 0, none⟩) (Kd.R_types HO_25.out BK509.out (by decide)) (fun _ hk => hk.2) (.int .i64 ((rd_T48 l1 0).f0))) (fun _ hk => hk.2) (.int .i64 (rd t504 x27_1))) (fun _ h_ => h_.1)))) hb); replace BK502 := Aside0.mk (blk_below (g := gb502) (o := .cells #[.int .i64 a4_0, .int .i64 a4_1, .int .i64 a4_2, .int .i64 a4_3, .int .i64 a4_4, .int .i64 a4_5, .int .i64 a4_6, .int .i64 a4_7, .int .i64 a4_8, .int .i64 a4_9] 24 (0, 0)) (bF BK502) hb); replace BK509 := Aside0.mk (blk_below (g := gb509) (o := .cells #[.int .i64 ((rd_T48 l1 0).f0), .int .i64 (rd t504 x27_1)] 48 (0, 0)) (by (with_reducible repeat (first | refine blk_drewN ?_ _ | refine blk_drew ?_ | refine blk_alloc ?_ _)); refine blk_put (cs := #[.int .i64 ((rd_T48 l1 0).f0), .int .i64 0]) ?_ 1 _ rfl; (with_reducible repeat (first | refine blk_drewN ?_ _ | refine blk_drew ?_ | refine blk_alloc ?_ _)); refine blk_put (cs := #[.int .i64 0, .int .i64 0]) ?_ 0 _ rfl; (with_reducible repeat (first | refine blk_drewN ?_ _ | refine blk_drew ?_ | refine blk_alloc ?_ _)); exact BK509.out) hb); replace HB := sL HB hb; (try clear hb); (try clear hb2); (try clear hk); (try clear hi)))
          replace HO_25 := Aside0.mk (Kd.R_drew HO_25.out)
          replace BK502 := Aside0.mk (blk_drew BK502.out)
          replace BK509 := Aside0.mk (blk_drew BK509.out)
          replace HB := Aside0.mk (below_drew1 HB.out)
          refine start_ (n := 13) (S := fun w' => w'.cell? ⟨gb509, 0, none⟩ = some (.int .i64 ((rd_T48 l1 0).f0)) ∧ w'.cell? ⟨gb509, 1, none⟩ = some (.int .i64 (rd t504 x27_1)) ∧ w'.cell? ⟨gb502, 0, none⟩ = some (.int .i64 a4_0) ∧ w'.cell? ⟨gb502, 1, none⟩ = some (.int .i64 a4_1) ∧ w'.cell? ⟨gb502, 2, none⟩ = some (.int .i64 a4_2) ∧ w'.cell? ⟨gb502, 3, none⟩ = some (.int .i64 a4_3) ∧ w'.cell? ⟨gb502, 4, none⟩ = some (.int .i64 a4_4) ∧ w'.cell? ⟨gb502, 5, none⟩ = some (.int .i64 a4_5) ∧ w'.cell? ⟨gb502, 6, none⟩ = some (.int .i64 a4_6) ∧ w'.cell? ⟨gb502, 7, none⟩ = some (.int .i64 a4_7) ∧ w'.cell? ⟨gb502, 8, none⟩ = some (.int .i64 a4_8) ∧ w'.cell? ⟨gb502, 9, none⟩ = some (.int .i64 a4_9)) (ds := []) #[false, false, false, false, false, false, false, false, false, false, false, false, false] (by kernel_rfl) rfl rfl ⟨(blk_cell BK509.out 0).trans rfl, (blk_cell BK509.out 1).trans rfl, (blk_cell BK502.out 0).trans rfl, (blk_cell BK502.out 1).trans rfl, (blk_cell BK502.out 2).trans rfl, (blk_cell BK502.out 3).trans rfl, (blk_cell BK502.out 4).trans rfl, (blk_cell BK502.out 5).trans rfl, (blk_cell BK502.out 6).trans rfl, (blk_cell BK502.out 7).trans rfl, (blk_cell BK502.out 8).trans rfl, (blk_cell BK502.out 9).trans rfl⟩ (fun hHeld => ?_); refine with_tabW mandolineref35_Fewest.tab9 mandolineref35_Fewest.bits9 (fun HT_ HW_ => ?_)
          generalize w27.drew = w28 at HO_25 BK502 BK509 HB hHeld ⊢
          refine pS (i := 0) (N := some 43) (ma 13 1) rfl rfl HT_.out ?_
          refine pS (i := 1) (N := some 44) (ma 13 3) rfl rfl HT_.out ?_
          refine pS (i := 2) (N := some 45) (ma 13 7) rfl rfl HT_.out ?_
          refine pS (i := 6) (N := some 49) (ma 13 71) rfl rfl HT_.out ?_
          refine pS (i := 7) (N := some 50) (ma 13 199) rfl rfl HT_.out ?_
          refine tS (i := 3) (N := some 46) (ma 13 207) rfl rfl HT_.out HW_.out hHeld ?_
          refine tS (i := 8) (N := some 51) (ma 13 463) rfl rfl HT_.out HW_.out hHeld ?_
          refine one_ (i := 4) (N := some 47) (ma 13 479) rfl rfl (one_of HT_.out (by kernel_rfl)) (by decide) (fun K hK => ?_)
          refine Kd.R_lit_step k48 _ 48 ?hg (N := 47) ?hd (xs := ([(⟨(rd_T48 l1 0).f0, rd t504 x27_1⟩ : S48)] : List (S48))) (inner := [.int .i64 ((rd_T48 l1 0).f0), .int .i64 (rd t504 x27_1)]) (ok := fun _ => True) (okp := fun _ => True) ?hr ?hp (fun _ hk => hk) trivial (Below.refl _ _) (Nat.le_refl _) (by simp) ?_; (case hd => rfl); (case hg => rfl); (case hr => first | (go_simp; done) | (go_simp; rfl)); (case hp => exact (Reps.c2 (show Kd.M k48 _ _ _ (⟨(rd_T48 l1 0).f0, rd t504 x27_1⟩ : S48) [.int .i64 ((rd_T48 l1 0).f0), .int .i64 (rd t504 x27_1)] from (k48_mkM _ _ _ (⟨(rd_T48 l1 0).f0, rd t504 x27_1⟩ : S48) )) (Reps.none _ _)))
          intro v512 w29 ho30 hb hg_ hnew_
          clear hg_ hnew_
          (first | rw [← Ny511.out] at ho30 | (simp only [Int.reduceToNat] at ho30; rw [← Ny511.out] at ho30))
          have HO513 := Aside0.mk (Kd.R_lower (Kd.R_newB ho30 (g := gb509) (o := .cells #[.int .i64 ((rd_T48 l1 0).f0), .int .i64 (rd t504 x27_1)] 48 (0, 0)) (bU BK509)) (below_size (lU HB)))
          replace HO_25 := rB HO_25 hb
          replace BK502 := sB BK502 hb
          replace BK509 := sB BK509 hb
          replace HB := sL HB hb
          clear hb ho30
          obtain ⟨Ao31, co31, eo31⟩ := Kd.R_slice HO513.out
          (first | subst eo31 | (injection eo31 with f1_ f2_ f3_; have f4_ := f1_.symm; have f5_ := f3_.symm; clear f1_ f2_ f3_; subst f4_; subst f5_))
          refine hK.out _ _ ⟨(blk_cell BK509.out 0).trans rfl, (blk_cell BK509.out 1).trans rfl, (blk_cell BK502.out 0).trans rfl, (blk_cell BK502.out 1).trans rfl, (blk_cell BK502.out 2).trans rfl, (blk_cell BK502.out 3).trans rfl, (blk_cell BK502.out 4).trans rfl, (blk_cell BK502.out 5).trans rfl, (blk_cell BK502.out 6).trans rfl, (blk_cell BK502.out 7).trans rfl, (blk_cell BK502.out 8).trans rfl, (blk_cell BK502.out 9).trans rfl⟩ (fun hHeld => ?_)
          clear hK K
          refine nP (some 47) ?_
          refine one_ (i := 5) (N := some 48) (ma 13 511) rfl rfl (one_of HT_.out (by kernel_rfl)) (by decide) (fun K hK => ?_)
          refine gO Try.func38 #[.slice (some ad503) l1.length c1, .slice Ao31 y511.length co31] rfl rfl ?_
          with_reducible refine (mandolineref02_Less.calls k1 _ _ l1 _ _ y511 t514 _ (cU (Kd.C_below HR1.out HB.out)) HC1.out (cU (rC HO513)) (rN HO513) A20.out).mono ?_
          rintro e w32 ⟨v515, rfl, ho0, hb⟩
          refine ⟨_, rfl, ?_⟩
          have HO516 := Aside0.mk (Kd.R_lower (Kd.R_newB (Kd.R_new' ho0 (Kd.R_lt (rU HO513.out))) (g := gb509) (o := .cells #[.int .i64 ((rd_T48 l1 0).f0), .int .i64 (rd t504 x27_1)] 48 (0, 0)) (bU BK509)) (below_size (lU HB)))
          replace HO_25 := rB HO_25 hb
          replace HO513 := rE HO513 ho0 hb
          replace BK502 := sB BK502 hb
          replace BK509 := sB BK509 hb
          replace HB := sL HB hb
          (try clear hb)
          (try clear hb2)
          (try clear hk)
          (try clear hi)
          (try clear ho0)
          obtain ⟨Ao33, co33, eo33⟩ := Kd.R_slice HO516.out
          (first | subst eo33 | (injection eo33 with f1_ f2_ f3_; have f4_ := f1_.symm; have f5_ := f3_.symm; clear f1_ f2_ f3_; subst f4_; subst f5_))
          refine hK.out _ _ ⟨(blk_cell BK509.out 0).trans rfl, (blk_cell BK509.out 1).trans rfl, (blk_cell BK502.out 0).trans rfl, (blk_cell BK502.out 1).trans rfl, (blk_cell BK502.out 2).trans rfl, (blk_cell BK502.out 3).trans rfl, (blk_cell BK502.out 4).trans rfl, (blk_cell BK502.out 5).trans rfl, (blk_cell BK502.out 6).trans rfl, (blk_cell BK502.out 7).trans rfl, (blk_cell BK502.out 8).trans rfl, (blk_cell BK502.out 9).trans rfl⟩ (fun hHeld => ?_)
          clear hK K
          refine nP (some 48) ?_
          refine one_ (i := 9) (N := some 52) (ma 13 1023) rfl rfl (one_of HT_.out (by kernel_rfl)) (by decide) (fun K hK => ?_)
          refine gO Try.func19 #[.slice A0 l0.length c0, .slice Ao33 t514.length co33, .slice A2 l2.length c2, .int .i64 a3, .agg #[.int .i64 a4_0, .int .i64 a4_1, .int .i64 a4_2, .int .i64 a4_3, .int .i64 a4_4, .int .i64 a4_5, .int .i64 a4_6, .int .i64 a4_7, .int .i64 a4_8, .int .i64 a4_9]] rfl rfl ?_
          with_reducible refine (ih k1 (by have := HK1.out; omega) _ _ l0 _ _ t514 _ _ l2 a3 a4_0 a4_1 a4_2 a4_3 a4_4 a4_5 a4_6 a4_7 a4_8 a4_9 t517 _ (cU (Kd.C_below HR0.out HB.out)) HC0.out (cU (rC HO516)) (rN HO516) (cU (Kd.C_below HR2.out HB.out)) HC2.out A21.out).mono ?_
          rintro e w34 ⟨rfl, hb⟩
          refine ⟨_, rfl, ?_⟩
          replace HO_25 := rB HO_25 hb
          replace HO513 := rB HO513 hb
          replace HO516 := rB HO516 hb
          replace BK502 := sB BK502 hb
          replace BK509 := sB BK509 hb
          replace HB := sL HB hb
          (try clear hb)
          (try clear hb2)
          (try clear hk)
          (try clear hi)
          refine hK.out _ _ ⟨(blk_cell BK509.out 0).trans rfl, (blk_cell BK509.out 1).trans rfl, (blk_cell BK502.out 0).trans rfl, (blk_cell BK502.out 1).trans rfl, (blk_cell BK502.out 2).trans rfl, (blk_cell BK502.out 3).trans rfl, (blk_cell BK502.out 4).trans rfl, (blk_cell BK502.out 5).trans rfl, (blk_cell BK502.out 6).trans rfl, (blk_cell BK502.out 7).trans rfl, (blk_cell BK502.out 8).trans rfl, (blk_cell BK502.out 9).trans rfl⟩ (fun hHeld => ?_)
          clear hK K
          refine nP (some 52) ?_
          refine pS (i := 10) (N := some 53) (ma 13 2047) rfl rfl HT_.out ?_
          refine pS (i := 11) (N := some 54) (ma 13 4095) rfl rfl HT_.out ?_
          refine pS (i := 12) (N := some 11) (ma 13 8191) rfl rfl HT_.out ?_
          refine done_ (done_of HT_.out (by kernel_rfl)) ?_
          try go_wp2
          go_roundg k1
          case measure => have := HK1.out; omega
          case rel => exact ⟨(ji22), (wrap64 (x27_1 + 1)), (by first | rfl | (simp; done) | (simp only [← hji22] <;> (first | rfl | simp)) | (simp [*]; done)), eR, H', ⟨by have := HK1.out; omega⟩, ⟨rU HO_25.out⟩, ⟨bU BK502⟩, ⟨lU HB⟩⟩
         ·replace c19 := Bool.eq_false_iff.mpr c19
          subst c19
          rw [if_neg (show ¬ (false = true) by decide)] at H
          have H' := Aside0.mk H
          clear H
          have p507 : 0 ≤ (x27_1 : Int) := of_decide_eq_true (by first | (with_reducible assumption) | assumption)
          have q507 : x27_1 < (t504.length : Int) := of_decide_eq_true (by first | (with_reducible assumption) | assumption)
          obtain ⟨ad507, e507, hx507_0⟩ := Kd.at_int (rC HO_25) x27_1 p507 q507
          cases e507
          replace p507 := eq_true p507
          replace q507 := eq_true q507
          have p508 : 0 ≤ (0 : Int) := (by omega)
          have q508 : 0 < (l1.length : Int) := of_decide_eq_true (by first | (with_reducible assumption) | assumption)
          obtain ⟨ad508, e508, hx508_0, hx508_1⟩ := at_T48 HR1.out 0 p508 q508
          obtain rfl : ad503 = ad508 := (by injection e508)
          have qi508 : (0 < l1.length) = True := eq_true (by omega)
          (try rw [show ((0 : Int)).toNat = 0 from rfl] at hx508_0)
          (try rw [show 0 * 2 = 0 from rfl] at hx508_0)
          (try rw [Addr.add_zero'] at hx508_0)
          (try rw [show ((0 : Int)).toNat = 0 from rfl] at hx508_1)
          (try rw [show 0 * 2 = 0 from rfl] at hx508_1)
          (try rw [Addr.add_zero'] at hx508_1)
          replace hx508_0 := cB HB hx508_0
          replace hx508_1 := cB HB hx508_1
          replace p508 := eq_true p508
          replace q508 := eq_true q508
          go_wp2_with (first | ((with_reducible refine gate_dst (N := 14) rfl ?_); refine bX (N := 14) (cs := #[.int .i64 0, .int .i64 0]) (t := 48) ?_; intro gb509 hg w35 hbox hb; have BK509 := Aside0.mk (hbox); have GE509 := sG HB hg; have NB502_509 := sN BK502 hg; have NB509_502 := sM BK502 hg; replace HO_25 := rB HO_25 hb; replace BK502 := sB BK502 hb; replace HB := sL HB hb; clear hb hbox hg; have hnb36 := NB509_502.out; have hnc36 := NB502_509.out; obtain ⟨hcz37_0, hcz37_1⟩ := q2 BK509; obtain ⟨hfz37_0, hfz37_1⟩ := z2 BK509; obtain ⟨hcz38_0, hcz38_1, hcz38_2, hcz38_3, hcz38_4, hcz38_5, hcz38_6, hcz38_7, hcz38_8, hcz38_9⟩ := q10 BK502; obtain ⟨hfz38_0, hfz38_1, hfz38_2, hfz38_3, hfz38_4, hfz38_5, hfz38_6, hfz38_7, hfz38_8, hfz38_9⟩ := z10 BK502) | ((with_reducible refine gate_callee (f := 37) rfl ?_); refine gL (some 42) rfl rfl Try.func37 #[.agg #[.int .i64 ((rd_T48 l1 0).f0), .int .i64 (rd t504 x27_1)], .slice A0 l0.length c0, .slice A2 l2.length c2, .int .i64 a3, .agg #[.int .i64 a4_0, .int .i64 a4_1, .int .i64 a4_2, .int .i64 a4_3, .int .i64 a4_4, .int .i64 a4_5, .int .i64 a4_6, .int .i64 a4_7, .int .i64 a4_8, .int .i64 a4_9]] rfl ?_; (with_reducible refine (mandolineref35_Fetch.calls k1 ((rd_T48 l1 0).f0) (rd t504 x27_1) _ _ l0 _ _ l2 a3 a4_0 a4_1 a4_2 a4_3 a4_4 a4_5 a4_6 a4_7 a4_8 a4_9 false _ (Kd.C_below HR0.out (lU HB)) HC0.out (Kd.C_below HR2.out (lU HB)) HC2.out A18.out).mono ?_); rintro e w39 ⟨rfl, hb⟩; refine ⟨_, rfl, ?_⟩; replace HO_25 := Aside0.mk (Kd.R_below (rU ((Kd.R_mono (Kd.R_far (p := ⟨gb509, 1, none⟩) (Kd.R_far (p := ⟨gb509, 0, none⟩) (Kd.R_types HO_25.out BK509.out (by decide)) (fun _ hk => hk.2) (.int .i64 ((rd_T48 l1 0).f0))) (fun _ hk => hk.2) (.int .i64 (rd t504 x27_1))) (fun _ h_ => h_.1)))) hb); replace BK502 := Aside0.mk (blk_below (g := gb502) (o := .cells #[.int .i64 a4_0, .int .i64 a4_1, .int .i64 a4_2, .int .i64 a4_3, .int .i64 a4_4, .int .i64 a4_5, .int .i64 a4_6, .int .i64 a4_7, .int .i64 a4_8, .int .i64 a4_9] 24 (0, 0)) (bF BK502) hb); replace BK509 := Aside0.mk (blk_below (g := gb509) (o := .cells #[.int .i64 ((rd_T48 l1 0).f0), .int .i64 (rd t504 x27_1)] 48 (0, 0)) (by (with_reducible repeat (first | refine blk_drewN ?_ _ | refine blk_drew ?_ | refine blk_alloc ?_ _)); refine blk_put (cs := #[.int .i64 ((rd_T48 l1 0).f0), .int .i64 0]) ?_ 1 _ rfl; (with_reducible repeat (first | refine blk_drewN ?_ _ | refine blk_drew ?_ | refine blk_alloc ?_ _)); refine blk_put (cs := #[.int .i64 0, .int .i64 0]) ?_ 0 _ rfl; (with_reducible repeat (first | refine blk_drewN ?_ _ | refine blk_drew ?_ | refine blk_alloc ?_ _)); exact BK509.out) hb); replace HB := sL HB hb; (try clear hb); (try clear hb2); (try clear hk); (try clear hi)))
          go_roundg k1
          case measure => have := HK1.out; omega
          case rel => exact ⟨(x11_1), (wrap64 (x27_1 + 1)), eR, eR, H', ⟨by have := HK1.out; omega⟩, ⟨rU HO_25.out⟩, ⟨bU BK502⟩, ⟨lU HB⟩⟩
        ·rw [if_neg c17] at H
         exact absurd H (by simp)
       ·rw [if_neg c16] at H
        exact absurd H (by simp)
      ·rw [if_neg c15] at H
       exact absurd H (by simp)
     ·rw [if_neg c14] at H
      have c14b0 : decide (x27_1 < (t504.length : Int)) = false := decide_eq_false c14
      clear c14
      obtain rfl := Option.some.inj H
      go_wp2
      go_ret
      exact ⟨eW, lU HB⟩
  ·rw [if_neg c8] at H
   exact absurd H (by simp)
end Go.Proofs.Ytnaalaakhdbfbaa.XP
