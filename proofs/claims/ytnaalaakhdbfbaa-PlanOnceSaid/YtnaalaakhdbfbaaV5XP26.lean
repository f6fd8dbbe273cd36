-- Go functions as plain functions, and that the code comes to these answers (printed by a program).
import Derived.Test.YtnaalaakhdbfbaaV5XP0
import Derived.Test.YtnaalaakhdbfbaaV5XP3
import Derived.Test.YtnaalaakhdbfbaaV5XP5
import Derived.Test.YtnaalaakhdbfbaaV5XP7
import Derived.Test.YtnaalaakhdbfbaaV5XP8
import Derived.Test.YtnaalaakhdbfbaaV5XP11
import Derived.Test.YtnaalaakhdbfbaaV5XP12
import Derived.Test.YtnaalaakhdbfbaaV5XP25
namespace Go.Proofs.Ytnaalaakhdbfbaa.XP
open Go.RowKit Go.Proofs.YtnaalaakhdbfbaaW.PrintWords Go.Proofs.YtnaalaakhdbfbaaW.PrintLast Go.Proofs.YtnaalaakhdbfbaaW.PrintMore
attribute [local go_sem] max2_int min2_int max_two min_two max_three min_three max_four min_four
set_option linter.unusedVariables false
set_option linter.unusedSimpArgs false
mutual
def mandolinelaw35_PlanOnce.l0 : Nat → Int → List (S48) → Int → Int → List (S48) → List (S48) → Int → Int → Int → Int → Int → Int → Int → Int → Int → Int → Int → List (S48) → List (S48) → List (S48) → Option (Bool)
 | 0, _, _, _, _, _, _, _, _, _, _, _, _, _, _, _, _, _, _, _, _ => none
 | k + 1, x8, x35, x36, x37, x596000, x596001, x596002, x596003, x596004, x596005, x596006, x596007, x596008, x596009, x596010, x596011, x596012, x605000, x606000, x611000 => if x37 < x36 then (if 0 ≤ x37 then (if x37 < (x35.length : Int) then ((ranges_Of.f k (([(⟨(rd_T48 x35 x37).f0, (rd_T48 x35 x37).f1⟩ : S48)] : List (S48)))).bind fun t616 => ((ranges_Set_And.f k x611000 t616).bind fun t620 => ((ranges_Set_Len.f k t620).bind fun t623 => (if t623 = 0 then ((plan_Units.f k x605000 x596002 x596003).bind fun t624 => ((plan_Waste.f k ((rd_T48 x35 x37).f0) ((rd_T48 x35 x37).f1) t624).bind fun t627 => (mandolinelaw35_PlanOnce.j1 k x8 x35 x36 x37 (decide (t627 > x596004)) x596000 x596001 x596002 x596003 x596004 x596005 x596006 x596007 x596008 x596009 x596010 x596011 x596012 x605000 x606000 x611000 ((rd_T48 x35 x37).f0) ((rd_T48 x35 x37).f1) t616))) else (mandolinelaw35_PlanOnce.j1 k x8 x35 x36 x37 true x596000 x596001 x596002 x596003 x596004 x596005 x596006 x596007 x596008 x596009 x596010 x596011 x596012 x605000 x606000 x611000 ((rd_T48 x35 x37).f0) ((rd_T48 x35 x37).f1) t616))))) else (none)) else (none)) else ((ranges_Of.f k (([(⟨0, 4611686018427387904⟩ : S48)] : List (S48)))).bind fun t634 => (if x596002 ≥ 0 then ((ranges_Of.f k (([(⟨0, x596002⟩ : S48)] : List (S48)))).bind fun t641 => (mandolinelaw35_PlanOnce.j2 k x8 x605000 x606000 x611000 t641)) else (mandolinelaw35_PlanOnce.j2 k x8 x605000 x606000 x611000 t634)))
def mandolinelaw35_PlanOnce.j1 : Nat → Int → List (S48) → Int → Int → Bool → List (S48) → List (S48) → Int → Int → Int → Int → Int → Int → Int → Int → Int → Int → Int → List (S48) → List (S48) → List (S48) → Int → Int → List (S48) → Option (Bool)
 | 0, _, _, _, _, _, _, _, _, _, _, _, _, _, _, _, _, _, _, _, _, _, _, _, _ => none
 | k + 1, x8, x35, x36, x37, x63, x596000, x596001, x596002, x596003, x596004, x596005, x596006, x596007, x596008, x596009, x596010, x596011, x596012, x605000, x606000, x611000, x613000, x613001, x620000 => if x63 = true then (some false) else ((ranges_Set_Or.f k x611000 x620000).bind fun t628 => (if x613001 < 4611686018427387904 then (mandolinelaw35_PlanOnce.l0 k (wrap64 (x8 + (wrap64 (x613001 - x613000)))) x35 x36 (wrap64 (x37 + 1)) x596000 x596001 x596002 x596003 x596004 x596005 x596006 x596007 x596008 x596009 x596010 x596011 x596012 x605000 x606000 t628) else (mandolinelaw35_PlanOnce.l0 k x8 x35 x36 (wrap64 (x37 + 1)) x596000 x596001 x596002 x596003 x596004 x596005 x596006 x596007 x596008 x596009 x596010 x596011 x596012 x605000 x606000 t628)))
def mandolinelaw35_PlanOnce.j2 : Nat → Int → List (S48) → List (S48) → List (S48) → List (S48) → Option (Bool)
 | 0, _, _, _, _, _ => none
 | k + 1, x8, x605000, x606000, x611000, x638000 => (ranges_Set_Less.f k x611000 x606000).bind fun t644 => ((ranges_Set_Len.f k t644).bind fun t647 => (if t647 = 0 then ((ranges_Set_And.f k x605000 x638000).bind fun t648 => ((ranges_Set_Less.f k t648 x611000).bind fun t651 => ((ranges_Set_Len.f k t651).bind fun t654 => (if t654 = 0 then ((ranges_Set_Len.f k x611000).bind fun t655 => (if t655 = 4611686018427387904 then (some true) else ((ranges_Set_Len.f k x611000).bind fun t656 => (some (t656 == x8))))) else (some false))))) else (some false)))
end
def mandolinelaw35_PlanOnce.f (k : Nat) (l0_0 : List (S48)) (l0_1 : List (S48)) (a0_2 : Int) (a0_3 : Int) (a0_4 : Int) (a0_5 : Int) (a0_6 : Int) (a0_7 : Int) (a0_8 : Int) (a0_9 : Int) (a0_10 : Int) (a0_11 : Int) (a0_12 : Int) : Option (Bool) := (mandolinelaw35_alive.f k).bind fun t596 => (if t596 = true then ((mandolinelaw35_fine.f k l0_0 l0_1 a0_2 a0_3 a0_4 a0_5 a0_6 a0_7 a0_8 a0_9 a0_10 a0_11 a0_12 100).bind fun t597 => (if t597 = true then ((mandolinelaw35_sets.f k l0_0 l0_1 a0_2 a0_3 a0_4 a0_5 a0_6 a0_7 a0_8 a0_9 a0_10 a0_11 a0_12).bind fun bt598 => ((plan_Plan.f k bt598.1 bt598.2 a0_2 a0_3 a0_4 a0_5 a0_6 a0_7 a0_8 a0_9 a0_10 a0_11 a0_12).bind fun bt606 => (if bt606.2 = 0 then (mandolinelaw35_PlanOnce.l0 k 0 bt606.1 (bt606.1.length : Int) 0 l0_0 l0_1 a0_2 a0_3 a0_4 a0_5 a0_6 a0_7 a0_8 a0_9 a0_10 a0_11 a0_12 bt598.1 bt598.2 ([] : List (S48))) else (some true)))) else (some true))) else (some false))
def mandolinelaw35_PlanOnce.T15 : Bool × List (List Nat × List Nat) := (true, [([], []), ([], []), ([0, 1], [0, 1]), ([2, 2], [2]), ([3], [3]), ([4, 3], [4]), ([5], [5]), ([5], [5]), ([5], [5]), ([8, 5], [5, 8]), ([5], [5]), ([10, 5], [5, 10]), ([11, 5], [5, 11]), ([7, 9, 12, 5, 5], [5, 7, 9, 12]), ([6, 13, 13, 5], [5, 6, 13]), ([5], [5]), ([15, 5], [5, 15]), ([16, 5], [5, 16]), ([14, 17, 5], [5, 14, 17]), ([5, 18], [5, 18])])
def mandolinelaw35_PlanOnce.B15 : List Nat := [0, 0, 3, 7, 15, 31, 63, 63, 63, 319, 63, 1087, 3135, 8127, 16383, 63, 32831, 98367, 262143, 524287]
theorem mandolinelaw35_PlanOnce.tab15 : rtab .any (opsOf Try.f7 15) = mandolinelaw35_PlanOnce.T15 := by kernel_rfl
theorem mandolinelaw35_PlanOnce.bits15 : waitsOk mandolinelaw35_PlanOnce.T15.2 mandolinelaw35_PlanOnce.B15 = true := by kernel_rfl
def mandolinelaw35_PlanOnce.T24 : Bool × List (List Nat × List Nat) := (true, [([], []), ([], []), ([0, 1], [0, 1]), ([2, 2], [2]), ([3], [3]), ([4, 3], [4]), ([5], [5]), ([5], [5]), ([6, 7, 5, 5], [5, 6, 7]), ([5], [5]), ([8, 9, 8, 5], [5, 8, 9]), ([10, 10, 5], [5, 10]), ([11, 5], [5, 11]), ([5, 12], [5, 12]), ([13, 11], [13]), ([14], [14]), ([15, 14, 14], [14, 15]), ([16, 14], [14, 16]), ([17, 16, 14], [14, 17]), ([18], [18]), ([19, 18, 18], [18, 19]), ([18], [18]), ([20, 21, 18], [18, 20, 21]), ([18, 22, 14], [14, 18, 22]), ([14, 23], [14, 23]), ([24, 20, 0, 1, 2, 3, 4, 5, 6, 7, 8, 9, 10, 11, 12, 13, 14, 15, 16, 17, 18, 19, 20, 21, 22, 23, 24], [24])])
def mandolinelaw35_PlanOnce.B24 : List Nat := [0, 0, 3, 7, 15, 31, 63, 63, 255, 63, 1023, 2047, 4095, 8191, 16383, 32767, 65535, 131071, 262143, 524287, 1048575, 524287, 4194303, 8388607, 16777215, 33554431]
theorem mandolinelaw35_PlanOnce.tab24 : rtab .any (opsOf Try.f7 24) = mandolinelaw35_PlanOnce.T24 := by kernel_rfl
theorem mandolinelaw35_PlanOnce.bits24 : waitsOk mandolinelaw35_PlanOnce.T24.2 mandolinelaw35_PlanOnce.B24 = true := by kernel_rfl
set_option maxHeartbeats 8000000 in
set_option maxRecDepth 100000 in
theorem mandolinelaw35_PlanOnce.calls (k : Nat) (A0_0 : Option Addr) (c0_0 : Nat) (l0_0 : List (S48)) (A0_1 : Option Addr) (c0_1 : Nat) (l0_1 : List (S48)) (a0_2 : Int) (a0_3 : Int) (a0_4 : Int) (a0_5 : Int) (a0_6 : Int) (a0_7 : Int) (a0_8 : Int) (a0_9 : Int) (a0_10 : Int) (a0_11 : Int) (a0_12 : Int) (r : Bool) (w : World) (hr0_0 : Kd.C k48 w A0_0 l0_0.length l0_0) (hc0_0 : l0_0.length ≤ c0_0) (hr0_1 : Kd.C k48 w A0_1 l0_1.length l0_1) (hc0_1 : l0_1.length ≤ c0_1) (h : mandolinelaw35_PlanOnce.f k l0_0 l0_1 a0_2 a0_3 a0_4 a0_5 a0_6 a0_7 a0_8 a0_9 a0_10 a0_11 a0_12 = some r) :
  Calls Try.prog 7 #[.agg #[.slice A0_0 l0_0.length c0_0, .slice A0_1 l0_1.length c0_1, .int .i64 a0_2, .int .i64 a0_3, .int .i64 a0_4, .int .i64 a0_5, .int .i64 a0_6, .int .i64 a0_7, .int .i64 a0_8, .int .i64 a0_9, .int .i64 a0_10, .int .i64 a0_11, .int .i64 a0_12]] w fun e w' => e = .returned (.bool r) ∧ Below w.heap.size w w' := by
 have hu26 := Try.underlying26
 have hu30 := Try.underlying30
 have hu24 := Try.underlying24
 have hu48 := Try.underlying48
 have HR0_0 := Aside0.mk hr0_0
 have HC0_0 := Aside0.mk hc0_0
 clear hr0_0 hc0_0
 have HR0_1 := Aside0.mk hr0_1
 have HC0_1 := Aside0.mk hc0_1
 clear hr0_1 hc0_1
 have HB := Aside0.mk (Below.refl w.heap.size w)
 unfold mandolinelaw35_PlanOnce.f at h
 have H := h
 clear h
 obtain ⟨t596, A2, H⟩ := bO H
 by_cases c3 : t596 = true
 ·subst c3
  rw [if_pos rfl] at H
  obtain ⟨t597, A4, H⟩ := bO H
  by_cases c5 : t597 = true
  ·subst c5
   rw [if_pos rfl] at H
   replace H := Option.bind_eq_some_iff.mp H
   obtain ⟨⟨t598, t601⟩, A60, H⟩ := H
   dsimp only at H
   have A6 := Aside0.mk A60
   clear A60
   replace H := Option.bind_eq_some_iff.mp H
   obtain ⟨⟨t606, t609⟩, A70, H⟩ := H
   dsimp only at H
   have A7 := Aside0.mk A70
   clear A70
   by_cases c8 : t609 = 0
   ·rw [if_pos c8] at H
    have c8b0 : (t609 == 0) = true := beq_iff_eq.mpr c8
    have c8b1 : (t609 != 0) = false := bne_eq_false_iff_eq.mpr c8
    clear c8
    have H' := Aside0.mk H
    clear H
    go_enter Try.func7, Try.ntmps7
    go_wp2_with (first | ((with_reducible refine gate_dst (N := 1) rfl ?_); refine bX (N := 1) (cs := #[.slice A0_0 l0_0.length c0_0, .slice A0_1 l0_1.length c0_1, .int .i64 a0_2, .int .i64 a0_3, .int .i64 a0_4, .int .i64 a0_5, .int .i64 a0_6, .int .i64 a0_7, .int .i64 a0_8, .int .i64 a0_9, .int .i64 a0_10, .int .i64 a0_11, .int .i64 a0_12]) (t := 26) ?_; intro gb595 hg w9 hbox hb; have BK595 := Aside0.mk (hbox); have GE595 := sG HB hg; replace HB := sL HB hb; clear hb hbox hg) | ((with_reducible refine gate_callee (f := 10) rfl ?_); refine gL (some 13) rfl rfl Try.func10 #[] rfl ?_; (with_reducible refine (mandolinelaw35_alive.calls k  true _ A2.out).mono ?_); rintro e w10 ⟨rfl, hb⟩; refine ⟨_, rfl, ?_⟩; replace BK595 := sB BK595 hb; replace HB := sL HB hb; (try clear hb); (try clear hb2); (try clear hk); (try clear hi); obtain ⟨hcz11_0, hcz11_1, hcz11_2, hcz11_3, hcz11_4, hcz11_5, hcz11_6, hcz11_7, hcz11_8, hcz11_9, hcz11_10, hcz11_11, hcz11_12⟩ := q13 BK595; obtain ⟨hfz11_0, hfz11_1, hfz11_2, hfz11_3, hfz11_4, hfz11_5, hfz11_6, hfz11_7, hfz11_8, hfz11_9, hfz11_10, hfz11_11, hfz11_12⟩ := z13 BK595) | ((with_reducible refine gate_callee (f := 11) rfl ?_); refine gL (some 16) rfl rfl Try.func11 #[.agg #[.slice A0_0 l0_0.length c0_0, .slice A0_1 l0_1.length c0_1, .int .i64 a0_2, .int .i64 a0_3, .int .i64 a0_4, .int .i64 a0_5, .int .i64 a0_6, .int .i64 a0_7, .int .i64 a0_8, .int .i64 a0_9, .int .i64 a0_10, .int .i64 a0_11, .int .i64 a0_12], .int .i64 100] rfl ?_; (with_reducible refine (mandolinelaw35_fine.calls k _ _ l0_0 _ _ l0_1 a0_2 a0_3 a0_4 a0_5 a0_6 a0_7 a0_8 a0_9 a0_10 a0_11 a0_12 100 true _ (cU (Kd.C_below HR0_0.out HB.out)) HC0_0.out (cU (Kd.C_below HR0_1.out HB.out)) HC0_1.out A4.out).mono ?_); rintro e w12 ⟨rfl, hb⟩; refine ⟨_, rfl, ?_⟩; replace BK595 := sB BK595 hb; replace HB := sL HB hb; (try clear hb); (try clear hb2); (try clear hk); (try clear hi); obtain ⟨hcz13_0, hcz13_1, hcz13_2, hcz13_3, hcz13_4, hcz13_5, hcz13_6, hcz13_7, hcz13_8, hcz13_9, hcz13_10, hcz13_11, hcz13_12⟩ := q13 BK595; obtain ⟨hfz13_0, hfz13_1, hfz13_2, hfz13_3, hfz13_4, hfz13_5, hfz13_6, hfz13_7, hfz13_8, hfz13_9, hfz13_10, hfz13_11, hfz13_12⟩ := z13 BK595) | ((with_reducible refine gate_callee (f := 12) rfl ?_); refine gL (some 20) rfl rfl Try.func12 #[.agg #[.slice A0_0 l0_0.length c0_0, .slice A0_1 l0_1.length c0_1, .int .i64 a0_2, .int .i64 a0_3, .int .i64 a0_4, .int .i64 a0_5, .int .i64 a0_6, .int .i64 a0_7, .int .i64 a0_8, .int .i64 a0_9, .int .i64 a0_10, .int .i64 a0_11, .int .i64 a0_12]] rfl ?_; (with_reducible refine (mandolinelaw35_sets.calls k _ _ l0_0 _ _ l0_1 a0_2 a0_3 a0_4 a0_5 a0_6 a0_7 a0_8 a0_9 a0_10 a0_11 a0_12 t598 t601 _ (cU (Kd.C_below HR0_0.out HB.out)) HC0_0.out (cU (Kd.C_below HR0_1.out HB.out)) HC0_1.out A6.out).mono ?_); rintro e w14 ⟨v599, v602, rfl, ho0, ho1, hb⟩; refine ⟨_, rfl, ?_⟩; have HO600 := Aside0.mk (Kd.R_lower ho0 (below_size (lU HB))); have HO603 := Aside0.mk (Kd.R_lower ho1 (below_size (lU HB))); replace BK595 := sB BK595 hb; replace HB := sL HB hb; (try clear hb); (try clear hb2); (try clear hk); (try clear hi); (try clear ho0); (try clear ho1)) | ((with_reducible refine gate_dst (N := 3) rfl ?_); refine bX (N := 3) (cs := #[.slice none 0 0]) (t := 30) ?_; intro gb604 hg w15 hbox hb; have BK604 := Aside0.mk (hbox); have GE604 := sG HB hg; have NB595_604 := sN BK595 hg; have NB604_595 := sM BK595 hg; replace HO600 := rB HO600 hb; replace HO603 := rB HO603 hb; replace BK595 := sB BK595 hb; replace HB := sL HB hb; clear hb hbox hg) | ((with_reducible refine gate_dst (N := 4) rfl ?_); refine bX (N := 4) (cs := #[.slice none 0 0]) (t := 30) ?_; intro gb605 hg w16 hbox hb; have BK605 := Aside0.mk (hbox); have GE605 := sG HB hg; have NB595_605 := sN BK595 hg; have NB605_595 := sM BK595 hg; have NB604_605 := sN BK604 hg; have NB605_604 := sM BK604 hg; replace HO600 := rB HO600 hb; replace HO603 := rB HO603 hb; replace BK595 := sB BK595 hb; replace BK604 := sB BK604 hb; replace HB := sL HB hb; clear hb hbox hg; obtain ⟨Ao17, co17, eo17⟩ := Kd.R_slice HO600.out; subst eo17; have hnb18 := NB604_595.out; have hnc18 := NB595_604.out; have hnb19 := NB604_605.out; have hnc19 := NB605_604.out; have hcz20_0 := q1 BK604; have hfz20_0 := blk_frozen BK604.out 0; obtain ⟨Ao21, co21, eo21⟩ := Kd.R_slice HO603.out; subst eo21; have hnb22 := NB605_595.out; have hnc22 := NB595_605.out; have hcz23_0 := q1 BK605; have hfz23_0 := blk_frozen BK605.out 0; obtain ⟨hcz24_0, hcz24_1, hcz24_2, hcz24_3, hcz24_4, hcz24_5, hcz24_6, hcz24_7, hcz24_8, hcz24_9, hcz24_10, hcz24_11, hcz24_12⟩ := q13 BK595; obtain ⟨hfz24_0, hfz24_1, hfz24_2, hfz24_3, hfz24_4, hfz24_5, hfz24_6, hfz24_7, hfz24_8, hfz24_9, hfz24_10, hfz24_11, hfz24_12⟩ := z13 BK595) | ((with_reducible refine gate_callee (f := 13) rfl ?_); refine gL (some 30) rfl rfl Try.func13 #[.agg #[.slice Ao17 t598.length co17], .agg #[.slice Ao21 t601.length co21], .int .i64 a0_2, .agg #[.int .i64 a0_3, .int .i64 a0_4, .int .i64 a0_5, .int .i64 a0_6, .int .i64 a0_7, .int .i64 a0_8, .int .i64 a0_9, .int .i64 a0_10, .int .i64 a0_11, .int .i64 a0_12]] rfl ?_; (with_reducible refine (plan_Plan.calls k _ _ t598 _ _ t601 a0_2 a0_3 a0_4 a0_5 a0_6 a0_7 a0_8 a0_9 a0_10 a0_11 a0_12 t606 t609 _ ?side1 ?side2 ?side3 ?side4 A7.out).mono ?_); (case side1 => refine (Kd.R_reads' (e := 48) (base := w.heap.size) (ok := fun k_ => some k_ ≠ (.slice Ao21 t601.length co21 : Value).ownBlock) (n := t598.length) (c := co17) ?_).2.2; exact (rU ((Kd.R_mono (Kd.R_mono (Kd.R_far (p := ⟨gb605, 0, none⟩) (Kd.R_far (p := ⟨gb604, 0, none⟩) (Kd.R_types (Kd.R_types HO600.out BK604.out (by decide)) BK605.out (by decide)) (fun _ hk => hk.1.2) (.slice Ao17 t598.length co17)) (fun _ hk => hk.2) (.slice Ao21 t601.length co21)) (fun _ h_ => h_.1)) (fun _ h_ => h_.1))))); (case side2 => exact (rN HO600)); (case side3 => refine (Kd.R_reads' (e := 48) (base := w.heap.size) (ok := fun k_ => some k_ ≠ (.slice Ao17 t598.length co17 : Value).ownBlock) (n := t601.length) (c := co21) ?_).2.2; exact (rU ((Kd.R_mono (Kd.R_mono (Kd.R_far (p := ⟨gb605, 0, none⟩) (Kd.R_far (p := ⟨gb604, 0, none⟩) (Kd.R_types (Kd.R_types HO603.out BK604.out (by decide)) BK605.out (by decide)) (fun _ hk => hk.1.2) (.slice Ao17 t598.length co17)) (fun _ hk => hk.2) (.slice Ao21 t601.length co21)) (fun _ h_ => h_.1)) (fun _ h_ => h_.1))))); (case side4 => exact (rN HO603)); rintro e w25 ⟨v607, rfl, ho0, hb⟩; refine ⟨_, rfl, ?_⟩; have HO608 := Aside0.mk (Kd.R_lower (Kd.R_new' (Kd.R_new' ho0 (Kd.R_lt (rU ((Kd.R_mono (Kd.R_mono (Kd.R_far (p := ⟨gb605, 0, none⟩) (Kd.R_far (p := ⟨gb604, 0, none⟩) (Kd.R_types (Kd.R_types HO600.out BK604.out (by decide)) BK605.out (by decide)) (fun _ hk => hk.1.2) (.slice Ao17 t598.length co17)) (fun _ hk => hk.2) (.slice Ao21 t601.length co21)) (fun _ h_ => h_.1)) (fun _ h_ => h_.1)))))) (Kd.R_lt (rU ((Kd.R_mono (Kd.R_mono (Kd.R_far (p := ⟨gb605, 0, none⟩) (Kd.R_far (p := ⟨gb604, 0, none⟩) (Kd.R_types (Kd.R_types HO603.out BK604.out (by decide)) BK605.out (by decide)) (fun _ hk => hk.1.2) (.slice Ao17 t598.length co17)) (fun _ hk => hk.2) (.slice Ao21 t601.length co21)) (fun _ h_ => h_.1)) (fun _ h_ => h_.1)))))) (below_size (lU HB))); replace HO600 := Aside0.mk (Kd.R_elder' (rU ((Kd.R_mono (Kd.R_mono (Kd.R_far (p := ⟨gb605, 0, none⟩) (Kd.R_far (p := ⟨gb604, 0, none⟩) (Kd.R_types (Kd.R_types HO600.out BK604.out (by decide)) BK605.out (by decide)) (fun _ hk => hk.1.2) (.slice Ao17 t598.length co17)) (fun _ hk => hk.2) (.slice Ao21 t601.length co21)) (fun _ h_ => h_.1)) (fun _ h_ => h_.1)))) (Kd.R_base ho0) hb); replace HO603 := Aside0.mk (Kd.R_elder' (rU ((Kd.R_mono (Kd.R_mono (Kd.R_far (p := ⟨gb605, 0, none⟩) (Kd.R_far (p := ⟨gb604, 0, none⟩) (Kd.R_types (Kd.R_types HO603.out BK604.out (by decide)) BK605.out (by decide)) (fun _ hk => hk.1.2) (.slice Ao17 t598.length co17)) (fun _ hk => hk.2) (.slice Ao21 t601.length co21)) (fun _ h_ => h_.1)) (fun _ h_ => h_.1)))) (Kd.R_base ho0) hb); replace BK595 := Aside0.mk (blk_below (g := gb595) (o := .cells #[.slice A0_0 l0_0.length c0_0, .slice A0_1 l0_1.length c0_1, .int .i64 a0_2, .int .i64 a0_3, .int .i64 a0_4, .int .i64 a0_5, .int .i64 a0_6, .int .i64 a0_7, .int .i64 a0_8, .int .i64 a0_9, .int .i64 a0_10, .int .i64 a0_11, .int .i64 a0_12] 26 (0, 0)) (bF BK595) hb); replace BK604 := Aside0.mk (blk_below (g := gb604) (o := .cells #[.slice Ao17 t598.length co17] 30 (0, 0)) (by (with_reducible repeat (first | refine blk_drewN ?_ _ | refine blk_drew ?_ | refine blk_alloc ?_ _)); refine blk_far ?_ NB604_605.out _; (with_reducible repeat (first | refine blk_drewN ?_ _ | refine blk_drew ?_ | refine blk_alloc ?_ _)); refine blk_put (cs := #[.slice none 0 0]) ?_ 0 _ rfl; (with_reducible repeat (first | refine blk_drewN ?_ _ | refine blk_drew ?_ | refine blk_alloc ?_ _)); exact BK604.out) hb); replace BK605 := Aside0.mk (blk_below (g := gb605) (o := .cells #[.slice Ao21 t601.length co21] 30 (0, 0)) (by (with_reducible repeat (first | refine blk_drewN ?_ _ | refine blk_drew ?_ | refine blk_alloc ?_ _)); refine blk_put (cs := #[.slice none 0 0]) ?_ 0 _ rfl; (with_reducible repeat (first | refine blk_drewN ?_ _ | refine blk_drew ?_ | refine blk_alloc ?_ _)); refine blk_far ?_ NB605_604.out _; (with_reducible repeat (first | refine blk_drewN ?_ _ | refine blk_drew ?_ | refine blk_alloc ?_ _)); exact BK605.out) hb); replace HB := sL HB hb; (try clear hb); (try clear hb2); (try clear hk); (try clear hi); (try clear ho0)) | ((with_reducible refine gate_dst (N := 7) rfl ?_); refine bX (N := 7) (cs := #[.slice none 0 0]) (t := 30) ?_; intro gb610 hg w26 hbox hb; have BK610 := Aside0.mk (hbox); have GE610 := sG HB hg; have NB595_610 := sN BK595 hg; have NB610_595 := sM BK595 hg; have NB604_610 := sN BK604 hg; have NB610_604 := sM BK604 hg; have NB605_610 := sN BK605 hg; have NB610_605 := sM BK605 hg; replace HO600 := rB HO600 hb; replace HO603 := rB HO603 hb; replace HO608 := rB HO608 hb; replace BK595 := sB BK595 hb; replace BK604 := sB BK604 hb; replace BK605 := sB BK605 hb; replace HB := sL HB hb; clear hb hbox hg; obtain ⟨Ao27, co27, eo27⟩ := Kd.R_slice HO608.out; subst eo27))
    go_loopg [8, 37] k (fun kq v8 v37 w' => ∃ (x8_1 : Int) (x37_1 : Int) (x611000_1 : List (S48)) (u611000 : Value), v8 = .int .i64 x8_1 ∧ v37 = .int .i64 x37_1 ∧ Aside0 (mandolinelaw35_PlanOnce.l0 kq x8_1 t606 (t606.length : Int) x37_1 l0_0 l0_1 a0_2 a0_3 a0_4 a0_5 a0_6 a0_7 a0_8 a0_9 a0_10 a0_11 a0_12 t598 t601 x611000_1 = some r) ∧ Aside0 (kq ≤ k) ∧ Aside0 (Kd.R k48 48 w' w.heap.size (fun k_ => some k_ ≠ ((.slice Ao17 t598.length co17) : Value).ownBlock ∧ some k_ ≠ ((.slice Ao21 t601.length co21) : Value).ownBlock ∧ some k_ ≠ (u611000 : Value).ownBlock) (.slice Ao27 t606.length co27) t606) ∧ Aside0 (Kd.R k48 48 w' w.heap.size (fun k_ => some k_ ≠ ((.slice Ao27 t606.length co27) : Value).ownBlock ∧ some k_ ≠ ((.slice Ao21 t601.length co21) : Value).ownBlock ∧ some k_ ≠ (u611000 : Value).ownBlock) (.slice Ao17 t598.length co17) t598) ∧ Aside0 (Kd.R k48 48 w' w.heap.size (fun k_ => some k_ ≠ ((.slice Ao27 t606.length co27) : Value).ownBlock ∧ some k_ ≠ ((.slice Ao17 t598.length co17) : Value).ownBlock ∧ some k_ ≠ (u611000 : Value).ownBlock) (.slice Ao21 t601.length co21) t601) ∧ Aside0 (Kd.R k48 48 w' w.heap.size (fun k_ => some k_ ≠ ((.slice Ao27 t606.length co27) : Value).ownBlock ∧ some k_ ≠ ((.slice Ao17 t598.length co17) : Value).ownBlock ∧ some k_ ≠ ((.slice Ao21 t601.length co21) : Value).ownBlock) u611000 x611000_1) ∧ Aside0 (w'.heap[gb595]? = some (.cells #[(.slice A0_0 l0_0.length c0_0), (.slice A0_1 l0_1.length c0_1), .int .i64 a0_2, .int .i64 a0_3, .int .i64 a0_4, .int .i64 a0_5, .int .i64 a0_6, .int .i64 a0_7, .int .i64 a0_8, .int .i64 a0_9, .int .i64 a0_10, .int .i64 a0_11, .int .i64 a0_12] 26 (0, 0))) ∧ Aside0 (w'.heap[gb604]? = some (.cells #[(.slice Ao17 t598.length co17)] 30 (0, 0))) ∧ Aside0 (w'.heap[gb605]? = some (.cells #[(.slice Ao21 t601.length co21)] 30 (0, 0))) ∧ Aside0 (w'.heap[gb610]? = some (.cells #[u611000] 30 (0, 0))) ∧ Aside0 (Below w.heap.size w w'))
    case atStart => exact ⟨(0), (0), (([] : List (S48))), (.slice none 0 0), eR, eR, H', ⟨Nat.le_refl _⟩, ⟨rU (Kd.R_mono HO608.out (fun _ hk => ⟨hk.1.2, ⟨hk.2, (by simp [Value.ownBlock])⟩⟩))⟩, ⟨rU (Kd.R_mono HO600.out (fun _ hk => ⟨hk.2, ⟨hk.1, (by simp [Value.ownBlock])⟩⟩))⟩, ⟨rU (Kd.R_mono HO603.out (fun _ hk => ⟨hk.2, ⟨hk.1, (by simp [Value.ownBlock])⟩⟩))⟩, ⟨by first | exact Kd.R_nil _ _ _ _ _ | exact Kd.N_nil _ _ _ _ _ | exact Kd.V_nil _ _ _ _ _ | exact Kd.Q_nil _ _ _ _ _ | exact Kd.S_nil _ _ _ _ _⟩, ⟨bU BK595⟩, ⟨bU BK604⟩, ⟨bU BK605⟩, ⟨bU BK610⟩, ⟨lU HB⟩⟩
    case round =>
     clear H'
     try clear c1
     try clear c2
     try clear p2
     try clear c3
     try clear c5
     try clear c7
     try clear c8
     try clear c8b0
     try clear c8b1
     try clear c10
     try clear c11
     try clear c12
     try clear c13
     try clear c18
     try clear c19
     try clear c22
     try clear hcz11_0
     try clear hcz11_1
     try clear hcz11_10
     try clear hcz11_11
     try clear hcz11_12
     try clear hcz11_2
     try clear hcz11_3
     try clear hcz11_4
     try clear hcz11_5
     try clear hcz11_6
     try clear hcz11_7
     try clear hcz11_8
     try clear hcz11_9
     try clear hcz13_0
     try clear hcz13_1
     try clear hcz13_10
     try clear hcz13_11
     try clear hcz13_12
     try clear hcz13_2
     try clear hcz13_3
     try clear hcz13_4
     try clear hcz13_5
     try clear hcz13_6
     try clear hcz13_7
     try clear hcz13_8
     try clear hcz13_9
     try clear hcz20_0
     try clear hcz23_0
     try clear hcz24_0
     try clear hcz24_1
     try clear hcz24_10
     try clear hcz24_11
     try clear hcz24_12
     try clear hcz24_2
     try clear hcz24_3
     try clear hcz24_4
     try clear hcz24_5
     try clear hcz24_6
     try clear hcz24_7
     try clear hcz24_8
     try clear hcz24_9
     try clear hfz11_0
     try clear hfz11_1
     try clear hfz11_10
     try clear hfz11_11
     try clear hfz11_12
     try clear hfz11_2
     try clear hfz11_3
     try clear hfz11_4
     try clear hfz11_5
     try clear hfz11_6
     try clear hfz11_7
     try clear hfz11_8
     try clear hfz11_9
     try clear hfz13_0
     try clear hfz13_1
     try clear hfz13_10
     try clear hfz13_11
     try clear hfz13_12
     try clear hfz13_2
     try clear hfz13_3
     try clear hfz13_4
     try clear hfz13_5
     try clear hfz13_6
     try clear hfz13_7
     try clear hfz13_8
     try clear hfz13_9
     try clear hfz20_0
     try clear hfz23_0
     try clear hfz24_0
     try clear hfz24_1
     try clear hfz24_10
     try clear hfz24_11
     try clear hfz24_12
     try clear hfz24_2
     try clear hfz24_3
     try clear hfz24_4
     try clear hfz24_5
     try clear hfz24_6
     try clear hfz24_7
     try clear hfz24_8
     try clear hfz24_9
     obtain ⟨x8_1, x37_1, x611000_1, u611000, rfl, rfl, HA, HK1, HO_35, HO_605000, HO_606000, HO_611000, BK595, BK604, BK605, BK610, HB⟩ := hrel
     cases gk with
     | zero => exact absurd HA.out (by simp [mandolinelaw35_PlanOnce.l0])
     | succ k1 =>
      have H := HA.out
      clear HA
      simp only [mandolinelaw35_PlanOnce.l0] at H
      by_cases c28 : x37_1 < (t606.length : Int)
      ·rw [if_pos c28] at H
       have c28b0 : decide (x37_1 < (t606.length : Int)) = true := decide_eq_true c28
       clear c28
       by_cases c29 : 0 ≤ x37_1
       ·rw [if_pos c29] at H
        have c29b0 : decide (0 ≤ x37_1) = true := decide_eq_true c29
        clear c29
        by_cases c30 : x37_1 < (t606.length : Int)
        ·rw [if_pos c30] at H
         have c30b0 : decide (x37_1 < (t606.length : Int)) = true := decide_eq_true c30
         clear c30
         obtain ⟨y613, hy613⟩ : ∃ y_ : List (S48), y_ = (([(⟨(rd_T48 t606 x37_1).f0, (rd_T48 t606 x37_1).f1⟩ : S48)] : List (S48))) := ⟨_, rfl⟩
         replace H : ((ranges_Of.f k1 y613).bind fun t616 => ((ranges_Set_And.f k1 x611000_1 t616).bind fun t620 => ((ranges_Set_Len.f k1 t620).bind fun t623 => (if t623 = 0 then ((plan_Units.f k1 t598 a0_2 a0_3).bind fun t624 => ((plan_Waste.f k1 ((rd_T48 t606 x37_1).f0) ((rd_T48 t606 x37_1).f1) t624).bind fun t627 => (mandolinelaw35_PlanOnce.j1 k1 x8_1 t606 (t606.length : Int) x37_1 (decide (t627 > a0_4)) l0_0 l0_1 a0_2 a0_3 a0_4 a0_5 a0_6 a0_7 a0_8 a0_9 a0_10 a0_11 a0_12 t598 t601 x611000_1 ((rd_T48 t606 x37_1).f0) ((rd_T48 t606 x37_1).f1) t616))) else (mandolinelaw35_PlanOnce.j1 k1 x8_1 t606 (t606.length : Int) x37_1 true l0_0 l0_1 a0_2 a0_3 a0_4 a0_5 a0_6 a0_7 a0_8 a0_9 a0_10 a0_11 a0_12 t598 t601 x611000_1 ((rd_T48 t606 x37_1).f0) ((rd_T48 t606 x37_1).f1) t616))))) = some r := by first | (rw [hy613]; with_reducible exact H) | (have H2_ := (Option.bind_some _ _).symm.trans H; rw [hy613]; with_reducible exact H2_) | (have H2_ := (Option.bind_some _ _).symm.trans H; with_reducible exact H2_) | with_reducible exact H | (rw [hy613]; exact H) | exact H
         have Ny613 := Aside0.mk hy613
         clear hy613
         obtain ⟨t616, A31, H⟩ := bO H
         have HC32 := Aside0.mk H
         clear H
         have p611 : 0 ≤ (x37_1 : Int) := of_decide_eq_true (by first | (with_reducible assumption) | assumption)
         have q611 : x37_1 < (t606.length : Int) := of_decide_eq_true (by first | (with_reducible assumption) | assumption)
         obtain ⟨ad611, e611, hx611_0, hx611_1⟩ := at_T48 (rC HO_35) x37_1 p611 q611
         cases e611
         replace p611 := eq_true p611
         replace q611 := eq_true q611
         go_upto_region 15 with (first | ((with_reducible refine gate_dst (N := 10) rfl ?_); refine bX (N := 10) (cs := #[.int .i64 0, .int .i64 0]) (t := 48) ?_; intro gb612 hg w33 hbox hb; have BK612 := Aside0.mk (hbox); have GE612 := sG HB hg; have NB595_612 := sN BK595 hg; have NB612_595 := sM BK595 hg; have NB604_612 := sN BK604 hg; have NB612_604 := sM BK604 hg; have NB605_612 := sN BK605 hg; have NB612_605 := sM BK605 hg; have NB610_612 := sN BK610 hg; have NB612_610 := sM BK610 hg; replace HO_35 := Aside0.mk (Kd.R_below (Kd.R_elderB (rU HO_35.out) gb612 (Nat.le_of_eq hg.symm)) hb); replace HO_605000 := Aside0.mk (Kd.R_below (Kd.R_elderB (rU HO_605000.out) gb612 (Nat.le_of_eq hg.symm)) hb); replace HO_606000 := Aside0.mk (Kd.R_below (Kd.R_elderB (rU HO_606000.out) gb612 (Nat.le_of_eq hg.symm)) hb); replace HO_611000 := Aside0.mk (Kd.R_below (Kd.R_elderB (rU HO_611000.out) gb612 (Nat.le_of_eq hg.symm)) hb); replace BK595 := sB BK595 hb; replace BK604 := sB BK604 hb; replace BK605 := sB BK605 hb; replace BK610 := sB BK610 hb; replace HB := sL HB hb; clear hb hbox hg; have hnb34 := NB612_595.out; have hnc34 := NB595_612.out; have hnb35 := NB612_604.out; have hnc35 := NB604_612.out; have hnb36 := NB612_605.out; have hnc36 := NB605_612.out; have hnb37 := NB612_610.out; have hnc37 := NB610_612.out; obtain ⟨hcz38_0, hcz38_1⟩ := q2 BK612; obtain ⟨hfz38_0, hfz38_1⟩ := z2 BK612) | ((with_reducible refine gate_dst (N := 42) rfl ?_); refine Kd.R_lit k48 _ 48 ?hg (N := 42) ?hd (xs := ([(⟨(rd_T48 t606 x37_1).f0, (rd_T48 t606 x37_1).f1⟩ : S48)] : List (S48))) (inner := [.int .i64 ((rd_T48 t606 x37_1).f0), .int .i64 ((rd_T48 t606 x37_1).f1)]) (ok := fun _ => True) (okp := fun _ => True) ?hr ?hp (fun _ hk => hk) trivial (Below.refl _ _) (Nat.le_refl _) (by simp) ?_; (case hd => rfl); (case hg => rfl); (case hr => first | (go_simp; done) | (go_simp; rfl)); (case hp => exact (Reps.c2 (show Kd.M k48 _ _ _ (⟨(rd_T48 t606 x37_1).f0, (rd_T48 t606 x37_1).f1⟩ : S48) [.int .i64 ((rd_T48 t606 x37_1).f0), .int .i64 ((rd_T48 t606 x37_1).f1)] from (k48_mkM _ _ _ (⟨(rd_T48 t606 x37_1).f0, (rd_T48 t606 x37_1).f1⟩ : S48) )) (Reps.none _ _))); intro v614 w39 ho40 hb hg_ hnew_; clear hg_ hnew_; (first | rw [← Ny613.out] at ho40 | (simp only [Int.reduceToNat] at ho40; rw [← Ny613.out] at ho40)); have HO615 := Aside0.mk (Kd.R_lower (Kd.R_newB (Kd.R_new' (Kd.R_new' (Kd.R_new' (Kd.R_new' ho40 (Kd.R_lt (rU ((Kd.R_mono (Kd.R_far (p := ⟨gb612, 1, none⟩) (Kd.R_far (p := ⟨gb612, 0, none⟩) (Kd.R_mono HO_35.out (fun k_ hk => (⟨hk, hk.2⟩ : _ ∧ k_ ≠ gb612))) (fun _ hk => hk.2) (.int .i64 ((rd_T48 t606 x37_1).f0))) (fun _ hk => hk.2) (.int .i64 ((rd_T48 t606 x37_1).f1))) (fun _ h_ => h_.1)))))) (Kd.R_lt (rU ((Kd.R_mono (Kd.R_far (p := ⟨gb612, 1, none⟩) (Kd.R_far (p := ⟨gb612, 0, none⟩) (Kd.R_mono HO_605000.out (fun k_ hk => (⟨hk, hk.2⟩ : _ ∧ k_ ≠ gb612))) (fun _ hk => hk.2) (.int .i64 ((rd_T48 t606 x37_1).f0))) (fun _ hk => hk.2) (.int .i64 ((rd_T48 t606 x37_1).f1))) (fun _ h_ => h_.1)))))) (Kd.R_lt (rU ((Kd.R_mono (Kd.R_far (p := ⟨gb612, 1, none⟩) (Kd.R_far (p := ⟨gb612, 0, none⟩) (Kd.R_mono HO_606000.out (fun k_ hk => (⟨hk, hk.2⟩ : _ ∧ k_ ≠ gb612))) (fun _ hk => hk.2) (.int .i64 ((rd_T48 t606 x37_1).f0))) (fun _ hk => hk.2) (.int .i64 ((rd_T48 t606 x37_1).f1))) (fun _ h_ => h_.1)))))) (Kd.R_lt (rU ((Kd.R_mono (Kd.R_far (p := ⟨gb612, 1, none⟩) (Kd.R_far (p := ⟨gb612, 0, none⟩) (Kd.R_mono HO_611000.out (fun k_ hk => (⟨hk, hk.2⟩ : _ ∧ k_ ≠ gb612))) (fun _ hk => hk.2) (.int .i64 ((rd_T48 t606 x37_1).f0))) (fun _ hk => hk.2) (.int .i64 ((rd_T48 t606 x37_1).f1))) (fun _ h_ => h_.1)))))) (g := gb612) (o := .cells #[.int .i64 ((rd_T48 t606 x37_1).f0), .int .i64 ((rd_T48 t606 x37_1).f1)] 48 (0, 0)) (by (with_reducible repeat (first | refine blk_drewN ?_ _ | refine blk_drew ?_ | refine blk_alloc ?_ _)); refine blk_put (cs := #[.int .i64 ((rd_T48 t606 x37_1).f0), .int .i64 0]) ?_ 1 _ rfl; (with_reducible repeat (first | refine blk_drewN ?_ _ | refine blk_drew ?_ | refine blk_alloc ?_ _)); refine blk_put (cs := #[.int .i64 0, .int .i64 0]) ?_ 0 _ rfl; (with_reducible repeat (first | refine blk_drewN ?_ _ | refine blk_drew ?_ | refine blk_alloc ?_ _)); exact BK612.out)) (below_size (lU HB))); replace HO_35 := Aside0.mk (Kd.R_elder' (rU ((Kd.R_mono (Kd.R_far (p := ⟨gb612, 1, none⟩) (Kd.R_far (p := ⟨gb612, 0, none⟩) (Kd.R_mono HO_35.out (fun k_ hk => (⟨hk, hk.2⟩ : _ ∧ k_ ≠ gb612))) (fun _ hk => hk.2) (.int .i64 ((rd_T48 t606 x37_1).f0))) (fun _ hk => hk.2) (.int .i64 ((rd_T48 t606 x37_1).f1))) (fun _ h_ => h_.1)))) (Kd.R_base ho40) hb); replace HO_605000 := Aside0.mk (Kd.R_elder' (rU ((Kd.R_mono (Kd.R_far (p := ⟨gb612, 1, none⟩) (Kd.R_far (p := ⟨gb612, 0, none⟩) (Kd.R_mono HO_605000.out (fun k_ hk => (⟨hk, hk.2⟩ : _ ∧ k_ ≠ gb612))) (fun _ hk => hk.2) (.int .i64 ((rd_T48 t606 x37_1).f0))) (fun _ hk => hk.2) (.int .i64 ((rd_T48 t606 x37_1).f1))) (fun _ h_ => h_.1)))) (Kd.R_base ho40) hb); replace HO_606000 := Aside0.mk (Kd.R_elder' (rU ((Kd.R_mono (Kd.R_far (p := ⟨gb612, 1, none⟩) (Kd.R_far (p := ⟨gb612, 0, none⟩) (Kd.R_mono HO_606000.out (fun k_ hk => (⟨hk, hk.2⟩ : _ ∧ k_ ≠ gb612))) (fun _ hk => hk.2) (.int .i64 ((rd_T48 t606 x37_1).f0))) (fun _ hk => hk.2) (.int .i64 ((rd_T48 t606 x37_1).f1))) (fun _ h_ => h_.1)))) (Kd.R_base ho40) hb); replace HO_611000 := Aside0.mk (Kd.R_elder' (rU ((Kd.R_mono (Kd.R_far (p := ⟨gb612, 1, none⟩) (Kd.R_far (p := ⟨gb612, 0, none⟩) (Kd.R_mono HO_611000.out (fun k_ hk => (⟨hk, hk.2⟩ : _ ∧ k_ ≠ gb612))) (fun _ hk => hk.2) (.int .i64 ((rd_T48 t606 x37_1).f0))) (fun _ hk => hk.2) (.int .i64 ((rd_T48 t606 x37_1).f1))) (fun _ h_ => h_.1)))) (Kd.R_base ho40) hb); replace BK595 := Aside0.mk (blk_below (g := gb595) (o := .cells #[.slice A0_0 l0_0.length c0_0, .slice A0_1 l0_1.length c0_1, .int .i64 a0_2, .int .i64 a0_3, .int .i64 a0_4, .int .i64 a0_5, .int .i64 a0_6, .int .i64 a0_7, .int .i64 a0_8, .int .i64 a0_9, .int .i64 a0_10, .int .i64 a0_11, .int .i64 a0_12] 26 (0, 0)) (bF BK595) hb); replace BK604 := Aside0.mk (blk_below (g := gb604) (o := .cells #[.slice Ao17 t598.length co17] 30 (0, 0)) (bF BK604) hb); replace BK605 := Aside0.mk (blk_below (g := gb605) (o := .cells #[.slice Ao21 t601.length co21] 30 (0, 0)) (bF BK605) hb); replace BK610 := Aside0.mk (blk_below (g := gb610) (o := .cells #[u611000] 30 (0, 0)) (bF BK610) hb); replace BK612 := Aside0.mk (blk_below (g := gb612) (o := .cells #[.int .i64 ((rd_T48 t606 x37_1).f0), .int .i64 ((rd_T48 t606 x37_1).f1)] 48 (0, 0)) (by (with_reducible repeat (first | refine blk_drewN ?_ _ | refine blk_drew ?_ | refine blk_alloc ?_ _)); refine blk_put (cs := #[.int .i64 ((rd_T48 t606 x37_1).f0), .int .i64 0]) ?_ 1 _ rfl; (with_reducible repeat (first | refine blk_drewN ?_ _ | refine blk_drew ?_ | refine blk_alloc ?_ _)); refine blk_put (cs := #[.int .i64 0, .int .i64 0]) ?_ 0 _ rfl; (with_reducible repeat (first | refine blk_drewN ?_ _ | refine blk_drew ?_ | refine blk_alloc ?_ _)); exact BK612.out) hb); replace HB := sL HB hb; clear hb ho40; obtain ⟨Ao41, co41, eo41⟩ := Kd.R_slice HO615.out; subst eo41) | ((with_reducible refine gate_callee (f := 22) rfl ?_); refine gL (some 43) rfl rfl Try.func22 #[.slice Ao41 y613.length co41] rfl ?_; (with_reducible refine (ranges_Of.calls k1 _ _ y613 t616 _ (cU (rC HO615)) (rN HO615) A31.out).mono ?_); rintro e w42 ⟨v617, rfl, ho0, hb⟩; refine ⟨_, rfl, ?_⟩; have HO618 := Aside0.mk (Kd.R_lower (Kd.R_newB (Kd.R_new' (Kd.R_new' (Kd.R_new' (Kd.R_new' (Kd.R_new' ho0 (Kd.R_lt (rU HO_35.out))) (Kd.R_lt (rU HO_605000.out))) (Kd.R_lt (rU HO_606000.out))) (Kd.R_lt (rU HO_611000.out))) (Kd.R_lt (rU HO615.out))) (g := gb612) (o := .cells #[.int .i64 ((rd_T48 t606 x37_1).f0), .int .i64 ((rd_T48 t606 x37_1).f1)] 48 (0, 0)) (bU BK612)) (below_size (lU HB))); replace HO_35 := rE HO_35 ho0 hb; replace HO_605000 := rE HO_605000 ho0 hb; replace HO_606000 := rE HO_606000 ho0 hb; replace HO_611000 := rE HO_611000 ho0 hb; replace HO615 := rE HO615 ho0 hb; replace BK595 := sB BK595 hb; replace BK604 := sB BK604 hb; replace BK605 := sB BK605 hb; replace BK610 := sB BK610 hb; replace BK612 := sB BK612 hb; replace HB := sL HB hb; (try clear hb); (try clear hb2); (try clear hk); (try clear hi); (try clear ho0)) | ((with_reducible refine gate_dst (N := 11) rfl ?_); refine bX (N := 11) (cs := #[.slice none 0 0]) (t := 30) ?_; intro gb619 hg w43 hbox hb; have BK619 := Aside0.mk (hbox); have GE619 := sG HB hg; have NB595_619 := sN BK595 hg; have NB619_595 := sM BK595 hg; have NB604_619 := sN BK604 hg; have NB619_604 := sM BK604 hg; have NB605_619 := sN BK605 hg; have NB619_605 := sM BK605 hg; have NB610_619 := sN BK610 hg; have NB619_610 := sM BK610 hg; have NB612_619 := sN BK612 hg; have NB619_612 := sM BK612 hg; replace HO_35 := rB HO_35 hb; replace HO_605000 := rB HO_605000 hb; replace HO_606000 := rB HO_606000 hb; replace HO_611000 := rB HO_611000 hb; replace HO615 := rB HO615 hb; replace HO618 := rB HO618 hb; replace BK595 := sB BK595 hb; replace BK604 := sB BK604 hb; replace BK605 := sB BK605 hb; replace BK610 := sB BK610 hb; replace BK612 := sB BK612 hb; replace HB := sL HB hb; clear hb hbox hg; obtain ⟨Ao44, co44, eo44⟩ := Kd.R_slice HO618.out; subst eo44; have hnb45 := NB619_595.out; have hnc45 := NB595_619.out; have hnb46 := NB619_604.out; have hnc46 := NB604_619.out; have hnb47 := NB619_605.out; have hnc47 := NB605_619.out; have hnb48 := NB619_610.out; have hnc48 := NB610_619.out; have hnb49 := NB619_612.out; have hnc49 := NB612_619.out; have hcz50_0 := q1 BK619; have hfz50_0 := blk_frozen BK619.out 0))
         (try simp only [Act.put, List.setIfInBounds_toArray, List.set_cons_zero, List.set_cons_succ])
         go_cut [63] (fun v63 wc => ∃ (kq : Nat) (x63_31 : Bool), v63 = .bool x63_31 ∧ Aside0 (mandolinelaw35_PlanOnce.j1 kq x8_1 t606 (t606.length : Int) x37_1 x63_31 l0_0 l0_1 a0_2 a0_3 a0_4 a0_5 a0_6 a0_7 a0_8 a0_9 a0_10 a0_11 a0_12 t598 t601 x611000_1 ((rd_T48 t606 x37_1).f0) ((rd_T48 t606 x37_1).f1) t616 = some r) ∧ Aside0 (kq ≤ k1) ∧ Aside0 (Kd.R k48 48 wc w.heap.size (fun k_ => some k_ ≠ ((.slice Ao17 t598.length co17) : Value).ownBlock ∧ some k_ ≠ ((.slice Ao21 t601.length co21) : Value).ownBlock ∧ some k_ ≠ (u611000 : Value).ownBlock ∧ some k_ ≠ ((.slice Ao44 t616.length co44) : Value).ownBlock ∧ k_ ≠ gb612) (.slice (some ad611) t606.length co27) t606) ∧ Aside0 (Kd.R k48 48 wc w.heap.size (fun k_ => some k_ ≠ ((.slice (some ad611) t606.length co27) : Value).ownBlock ∧ some k_ ≠ ((.slice Ao21 t601.length co21) : Value).ownBlock ∧ some k_ ≠ (u611000 : Value).ownBlock ∧ some k_ ≠ ((.slice Ao44 t616.length co44) : Value).ownBlock ∧ k_ ≠ gb612) (.slice Ao17 t598.length co17) t598) ∧ Aside0 (Kd.R k48 48 wc w.heap.size (fun k_ => some k_ ≠ ((.slice (some ad611) t606.length co27) : Value).ownBlock ∧ some k_ ≠ ((.slice Ao17 t598.length co17) : Value).ownBlock ∧ some k_ ≠ (u611000 : Value).ownBlock ∧ some k_ ≠ ((.slice Ao44 t616.length co44) : Value).ownBlock ∧ k_ ≠ gb612) (.slice Ao21 t601.length co21) t601) ∧ Aside0 (Kd.R k48 48 wc w.heap.size (fun k_ => some k_ ≠ ((.slice (some ad611) t606.length co27) : Value).ownBlock ∧ some k_ ≠ ((.slice Ao17 t598.length co17) : Value).ownBlock ∧ some k_ ≠ ((.slice Ao21 t601.length co21) : Value).ownBlock ∧ some k_ ≠ ((.slice Ao44 t616.length co44) : Value).ownBlock ∧ k_ ≠ gb612) u611000 x611000_1) ∧ Aside0 (Kd.R k48 48 wc w.heap.size (fun k_ => some k_ ≠ ((.slice (some ad611) t606.length co27) : Value).ownBlock ∧ some k_ ≠ ((.slice Ao17 t598.length co17) : Value).ownBlock ∧ some k_ ≠ ((.slice Ao21 t601.length co21) : Value).ownBlock ∧ some k_ ≠ (u611000 : Value).ownBlock ∧ k_ ≠ gb612) (.slice Ao44 t616.length co44) t616) ∧ Aside0 (wc.heap[gb595]? = some (.cells #[(.slice A0_0 l0_0.length c0_0), (.slice A0_1 l0_1.length c0_1), .int .i64 a0_2, .int .i64 a0_3, .int .i64 a0_4, .int .i64 a0_5, .int .i64 a0_6, .int .i64 a0_7, .int .i64 a0_8, .int .i64 a0_9, .int .i64 a0_10, .int .i64 a0_11, .int .i64 a0_12] 26 (0, 0))) ∧ Aside0 (wc.heap[gb604]? = some (.cells #[(.slice Ao17 t598.length co17)] 30 (0, 0))) ∧ Aside0 (wc.heap[gb605]? = some (.cells #[(.slice Ao21 t601.length co21)] 30 (0, 0))) ∧ Aside0 (wc.heap[gb610]? = some (.cells #[u611000] 30 (0, 0))) ∧ Aside0 (wc.heap[gb612]? = some (.cells #[.int .i64 ((rd_T48 t606 x37_1).f0), .int .i64 ((rd_T48 t606 x37_1).f1)] 48 (0, 0))) ∧ Aside0 (wc.heap[gb619]? = some (.cells #[(.slice Ao44 t616.length co44)] 30 (0, 0))) ∧ Aside0 (Below w.heap.size w wc))
         case first =>
          have H := HC32.out
          clear HC32
          obtain ⟨t620, A51, H⟩ := bO H
          obtain ⟨t623, A52, H⟩ := bO H
          by_cases c53 : t623 = 0
          ·rw [if_pos c53] at H
           have c53b0 : (t623 == 0) = true := beq_iff_eq.mpr c53
           have c53b1 : (t623 != 0) = false := bne_eq_false_iff_eq.mpr c53
           clear c53
           (first | rw [c53b0] | (simp only [i64_w, i32_w]; rw [c53b0]) | skip)
           obtain ⟨t624, A54, H⟩ := bO H
           obtain ⟨t627, A55, H⟩ := bO H
           have H' := Aside0.mk H
           clear H
           try go_wp2
           have n0_ : Aside0 (Kd.R k48 48 (w43.setCell ⟨gb619, 0, none⟩ (.slice Ao44 t616.length co44)) w.heap.size (fun k_ => some k_ ≠ (.slice Ao17 t598.length co17 : Value).ownBlock ∧ some k_ ≠ (.slice Ao21 t601.length co21 : Value).ownBlock ∧ some k_ ≠ (u611000 : Value).ownBlock ∧ some k_ ≠ (.slice Ao41 y613.length co41 : Value).ownBlock ∧ some k_ ≠ (.slice Ao44 t616.length co44 : Value).ownBlock ∧ k_ ≠ gb612) (.slice (some ad611) t606.length co27) t606) := ⟨rU (Kd.R_mono (Kd.R_far (p := ⟨gb619, 0, none⟩) (Kd.R_types HO_35.out BK619.out (by decide)) (fun _ hk => hk.2) (.slice Ao44 t616.length co44)) (fun _ hk => ⟨hk.1.1.1.1.1, ⟨hk.1.1.1.1.2.1, ⟨hk.1.1.1.1.2.2, ⟨hk.1.1.2, ⟨hk.1.2, hk.1.1.1.2⟩⟩⟩⟩⟩))⟩
           have n1_ : Aside0 (Kd.R k48 48 (w43.setCell ⟨gb619, 0, none⟩ (.slice Ao44 t616.length co44)) w.heap.size (fun k_ => some k_ ≠ (.slice (some ad611) t606.length co27 : Value).ownBlock ∧ some k_ ≠ (.slice Ao21 t601.length co21 : Value).ownBlock ∧ some k_ ≠ (u611000 : Value).ownBlock ∧ some k_ ≠ (.slice Ao41 y613.length co41 : Value).ownBlock ∧ some k_ ≠ (.slice Ao44 t616.length co44 : Value).ownBlock ∧ k_ ≠ gb612) (.slice Ao17 t598.length co17) t598) := ⟨rU (Kd.R_mono (Kd.R_far (p := ⟨gb619, 0, none⟩) (Kd.R_types HO_605000.out BK619.out (by decide)) (fun _ hk => hk.2) (.slice Ao44 t616.length co44)) (fun _ hk => ⟨hk.1.1.1.1.1, ⟨hk.1.1.1.1.2.1, ⟨hk.1.1.1.1.2.2, ⟨hk.1.1.2, ⟨hk.1.2, hk.1.1.1.2⟩⟩⟩⟩⟩))⟩
           have n2_ : Aside0 (Kd.R k48 48 (w43.setCell ⟨gb619, 0, none⟩ (.slice Ao44 t616.length co44)) w.heap.size (fun k_ => some k_ ≠ (.slice (some ad611) t606.length co27 : Value).ownBlock ∧ some k_ ≠ (.slice Ao17 t598.length co17 : Value).ownBlock ∧ some k_ ≠ (u611000 : Value).ownBlock ∧ some k_ ≠ (.slice Ao41 y613.length co41 : Value).ownBlock ∧ some k_ ≠ (.slice Ao44 t616.length co44 : Value).ownBlock ∧ k_ ≠ gb612) (.slice Ao21 t601.length co21) t601) := ⟨rU (Kd.R_mono (Kd.R_far (p := ⟨gb619, 0, none⟩) (Kd.R_types HO_606000.out BK619.out (by decide)) (fun _ hk => hk.2) (.slice Ao44 t616.length co44)) (fun _ hk => ⟨hk.1.1.1.1.1, ⟨hk.1.1.1.1.2.1, ⟨hk.1.1.1.1.2.2, ⟨hk.1.1.2, ⟨hk.1.2, hk.1.1.1.2⟩⟩⟩⟩⟩))⟩
           have n3_ : Aside0 (Kd.R k48 48 (w43.setCell ⟨gb619, 0, none⟩ (.slice Ao44 t616.length co44)) w.heap.size (fun k_ => some k_ ≠ (.slice (some ad611) t606.length co27 : Value).ownBlock ∧ some k_ ≠ (.slice Ao17 t598.length co17 : Value).ownBlock ∧ some k_ ≠ (.slice Ao21 t601.length co21 : Value).ownBlock ∧ some k_ ≠ (.slice Ao41 y613.length co41 : Value).ownBlock ∧ some k_ ≠ (.slice Ao44 t616.length co44 : Value).ownBlock ∧ k_ ≠ gb612) u611000 x611000_1) := ⟨rU (Kd.R_mono (Kd.R_far (p := ⟨gb619, 0, none⟩) (Kd.R_types HO_611000.out BK619.out (by decide)) (fun _ hk => hk.2) (.slice Ao44 t616.length co44)) (fun _ hk => ⟨hk.1.1.1.1.1, ⟨hk.1.1.1.1.2.1, ⟨hk.1.1.1.1.2.2, ⟨hk.1.1.2, ⟨hk.1.2, hk.1.1.1.2⟩⟩⟩⟩⟩))⟩
           have n4_ : Aside0 (Kd.R k48 48 (w43.setCell ⟨gb619, 0, none⟩ (.slice Ao44 t616.length co44)) w.heap.size (fun k_ => some k_ ≠ (.slice (some ad611) t606.length co27 : Value).ownBlock ∧ some k_ ≠ (.slice Ao17 t598.length co17 : Value).ownBlock ∧ some k_ ≠ (.slice Ao21 t601.length co21 : Value).ownBlock ∧ some k_ ≠ (u611000 : Value).ownBlock ∧ some k_ ≠ (.slice Ao44 t616.length co44 : Value).ownBlock ∧ k_ ≠ gb612) (.slice Ao41 y613.length co41) y613) := ⟨rU (Kd.R_mono (Kd.R_far (p := ⟨gb619, 0, none⟩) (Kd.R_types HO615.out BK619.out (by decide)) (fun _ hk => hk.2) (.slice Ao44 t616.length co44)) (fun _ hk => ⟨hk.1.1.1.1.1.1.2, ⟨hk.1.1.1.1.1.2, ⟨hk.1.1.1.1.2, ⟨hk.1.1.1.2, ⟨hk.1.2, hk.1.1.2⟩⟩⟩⟩⟩))⟩
           have n5_ : Aside0 (Kd.R k48 48 (w43.setCell ⟨gb619, 0, none⟩ (.slice Ao44 t616.length co44)) w.heap.size (fun k_ => some k_ ≠ (.slice (some ad611) t606.length co27 : Value).ownBlock ∧ some k_ ≠ (.slice Ao17 t598.length co17 : Value).ownBlock ∧ some k_ ≠ (.slice Ao21 t601.length co21 : Value).ownBlock ∧ some k_ ≠ (u611000 : Value).ownBlock ∧ some k_ ≠ (.slice Ao41 y613.length co41 : Value).ownBlock ∧ k_ ≠ gb612) (.slice Ao44 t616.length co44) t616) := ⟨rU (Kd.R_mono (Kd.R_far (p := ⟨gb619, 0, none⟩) (Kd.R_types HO618.out BK619.out (by decide)) (fun _ hk => hk.2) (.slice Ao44 t616.length co44)) (fun _ hk => ⟨hk.1.1.1.1.1.1.2, ⟨hk.1.1.1.1.1.2, ⟨hk.1.1.1.1.2, ⟨hk.1.1.1.2, ⟨hk.1.1.2, hk.1.2⟩⟩⟩⟩⟩))⟩
           have n6_ : Aside0 ((w43.setCell ⟨gb619, 0, none⟩ (.slice Ao44 t616.length co44)).heap[gb595]? = some (.cells #[.slice A0_0 l0_0.length c0_0, .slice A0_1 l0_1.length c0_1, .int .i64 a0_2, .int .i64 a0_3, .int .i64 a0_4, .int .i64 a0_5, .int .i64 a0_6, .int .i64 a0_7, .int .i64 a0_8, .int .i64 a0_9, .int .i64 a0_10, .int .i64 a0_11, .int .i64 a0_12] 26 (0, 0))) := ⟨bF BK595⟩
           have n7_ : Aside0 ((w43.setCell ⟨gb619, 0, none⟩ (.slice Ao44 t616.length co44)).heap[gb604]? = some (.cells #[.slice Ao17 t598.length co17] 30 (0, 0))) := ⟨bF BK604⟩
           have n8_ : Aside0 ((w43.setCell ⟨gb619, 0, none⟩ (.slice Ao44 t616.length co44)).heap[gb605]? = some (.cells #[.slice Ao21 t601.length co21] 30 (0, 0))) := ⟨bF BK605⟩
           have n9_ : Aside0 ((w43.setCell ⟨gb619, 0, none⟩ (.slice Ao44 t616.length co44)).heap[gb610]? = some (.cells #[u611000] 30 (0, 0))) := ⟨bF BK610⟩
           have n10_ : Aside0 ((w43.setCell ⟨gb619, 0, none⟩ (.slice Ao44 t616.length co44)).heap[gb612]? = some (.cells #[.int .i64 ((rd_T48 t606 x37_1).f0), .int .i64 ((rd_T48 t606 x37_1).f1)] 48 (0, 0))) := ⟨bF BK612⟩
           have n11_ : Aside0 ((w43.setCell ⟨gb619, 0, none⟩ (.slice Ao44 t616.length co44)).heap[gb619]? = some (.cells #[.slice Ao44 t616.length co44] 30 (0, 0))) := ⟨by (with_reducible repeat (first | refine blk_drewN ?_ _ | refine blk_drew ?_ | refine blk_alloc ?_ _)); refine blk_put (cs := #[.slice none 0 0]) ?_ 0 _ rfl; (with_reducible repeat (first | refine blk_drewN ?_ _ | refine blk_drew ?_ | refine blk_alloc ?_ _)); exact BK619.out⟩
           have n12_ : Aside0 (Below w.heap.size w (w43.setCell ⟨gb619, 0, none⟩ (.slice Ao44 t616.length co44))) := ⟨lU HB⟩
           (try clear HO_35)
           (try clear HO_605000)
           (try clear HO_606000)
           (try clear HO_611000)
           (try clear HO615)
           (try clear HO618)
           (try clear BK595)
           (try clear BK604)
           (try clear BK605)
           (try clear BK610)
           (try clear BK612)
           (try clear BK619)
           (try clear HB)
           generalize (w43.setCell ⟨gb619, 0, none⟩ (.slice Ao44 t616.length co44)) = w56 at n0_ n1_ n2_ n3_ n4_ n5_ n6_ n7_ n8_ n9_ n10_ n11_ n12_ ⊢
           have HO_35 := n0_
           have HO_605000 := n1_
           have HO_606000 := n2_
           have HO_611000 := n3_
           have HO615 := n4_
           have HO618 := n5_
           have BK595 := n6_
           have BK604 := n7_
           have BK605 := n8_
           have BK610 := n9_
           have BK612 := n10_
           have BK619 := n11_
           have HB := n12_
           clear n0_ n1_ n2_ n3_ n4_ n5_ n6_ n7_ n8_ n9_ n10_ n11_ n12_
           replace HO_35 := Aside0.mk (Kd.R_drew HO_35.out)
           replace HO_605000 := Aside0.mk (Kd.R_drew HO_605000.out)
           replace HO_606000 := Aside0.mk (Kd.R_drew HO_606000.out)
           replace HO_611000 := Aside0.mk (Kd.R_drew HO_611000.out)
           replace HO615 := Aside0.mk (Kd.R_drew HO615.out)
           replace HO618 := Aside0.mk (Kd.R_drew HO618.out)
           replace BK595 := Aside0.mk (blk_drew BK595.out)
           replace BK604 := Aside0.mk (blk_drew BK604.out)
           replace BK605 := Aside0.mk (blk_drew BK605.out)
           replace BK610 := Aside0.mk (blk_drew BK610.out)
           replace BK612 := Aside0.mk (blk_drew BK612.out)
           replace BK619 := Aside0.mk (blk_drew BK619.out)
           replace HB := Aside0.mk (below_drew1 HB.out)
           obtain ⟨Ao58, co58, eo58⟩ := Kd.R_slice HO_611000.out
           (first | subst eo58 | (injection eo58 with f1_ f2_ f3_; have f4_ := f1_.symm; have f5_ := f3_.symm; clear f1_ f2_ f3_; subst f4_; subst f5_))
           refine start_ (n := 20) (S := fun w' => w'.cell? ⟨gb610, 0, none⟩ = some (.slice Ao58 x611000_1.length co58) ∧ w'.cell? ⟨gb619, 0, none⟩ = some (.slice Ao44 t616.length co44) ∧ w'.cell? ⟨gb612, 0, none⟩ = some (.int .i64 ((rd_T48 t606 x37_1).f0)) ∧ w'.cell? ⟨gb612, 1, none⟩ = some (.int .i64 ((rd_T48 t606 x37_1).f1)) ∧ w'.cell? ⟨gb604, 0, none⟩ = some (.slice Ao17 t598.length co17) ∧ w'.cell? ⟨gb595, 0, none⟩ = some (.slice A0_0 l0_0.length c0_0) ∧ w'.cell? ⟨gb595, 1, none⟩ = some (.slice A0_1 l0_1.length c0_1) ∧ w'.cell? ⟨gb595, 2, none⟩ = some (.int .i64 a0_2) ∧ w'.cell? ⟨gb595, 3, none⟩ = some (.int .i64 a0_3) ∧ w'.cell? ⟨gb595, 4, none⟩ = some (.int .i64 a0_4) ∧ w'.cell? ⟨gb595, 5, none⟩ = some (.int .i64 a0_5) ∧ w'.cell? ⟨gb595, 6, none⟩ = some (.int .i64 a0_6) ∧ w'.cell? ⟨gb595, 7, none⟩ = some (.int .i64 a0_7) ∧ w'.cell? ⟨gb595, 8, none⟩ = some (.int .i64 a0_8) ∧ w'.cell? ⟨gb595, 9, none⟩ = some (.int .i64 a0_9) ∧ w'.cell? ⟨gb595, 10, none⟩ = some (.int .i64 a0_10) ∧ w'.cell? ⟨gb595, 11, none⟩ = some (.int .i64 a0_11) ∧ w'.cell? ⟨gb595, 12, none⟩ = some (.int .i64 a0_12)) (ds := []) #[false, false, false, false, false, false, false, false, false, false, false, false, false, false, false, false, false, false, false, false] (by kernel_rfl) rfl rfl ⟨(blk_cell BK610.out 0).trans rfl, (blk_cell BK619.out 0).trans rfl, (blk_cell BK612.out 0).trans rfl, (blk_cell BK612.out 1).trans rfl, (blk_cell BK604.out 0).trans rfl, (blk_cell BK595.out 0).trans rfl, (blk_cell BK595.out 1).trans rfl, (blk_cell BK595.out 2).trans rfl, (blk_cell BK595.out 3).trans rfl, (blk_cell BK595.out 4).trans rfl, (blk_cell BK595.out 5).trans rfl, (blk_cell BK595.out 6).trans rfl, (blk_cell BK595.out 7).trans rfl, (blk_cell BK595.out 8).trans rfl, (blk_cell BK595.out 9).trans rfl, (blk_cell BK595.out 10).trans rfl, (blk_cell BK595.out 11).trans rfl, (blk_cell BK595.out 12).trans rfl⟩ (fun hHeld => ?_); refine with_tabW mandolinelaw35_PlanOnce.tab15 mandolinelaw35_PlanOnce.bits15 (fun HT_ HW_ => ?_)
           generalize w56.drew = w57 at HO_35 HO_605000 HO_606000 HO_611000 HO615 HO618 BK595 BK604 BK605 BK610 BK612 BK619 HB hHeld ⊢
           refine tS (i := 0) (N := some 44) (ma 20 1) rfl rfl HT_.out HW_.out hHeld ?_
           refine tS (i := 1) (N := some 45) (ma 20 3) rfl rfl HT_.out HW_.out hHeld ?_
           refine one_ (i := 2) (N := some 46) (ma 20 7) rfl rfl (one_of HT_.out (by kernel_rfl)) (by decide) (fun K hK => ?_)
           refine gO Try.func25 #[.agg #[.slice Ao58 x611000_1.length co58], .agg #[.slice Ao44 t616.length co44]] rfl rfl ?_
           with_reducible refine (ranges_Set_And.calls k1 _ _ x611000_1 _ _ t616 t620 _ (cU (rC HO_611000)) (rN HO_611000) (cU (rC HO618)) (rN HO618) A51.out).mono ?_
           rintro e w59 ⟨v621, rfl, ho0, hb⟩
           refine ⟨_, rfl, ?_⟩
           have HO622 := Aside0.mk (Kd.R_lower (Kd.R_newB (Kd.R_new' (Kd.R_new' (Kd.R_new' (Kd.R_new' (Kd.R_new' (Kd.R_new' ho0 (Kd.R_lt (rU HO_35.out))) (Kd.R_lt (rU HO_605000.out))) (Kd.R_lt (rU HO_606000.out))) (Kd.R_lt (rU HO_611000.out))) (Kd.R_lt (rU HO615.out))) (Kd.R_lt (rU HO618.out))) (g := gb612) (o := .cells #[.int .i64 ((rd_T48 t606 x37_1).f0), .int .i64 ((rd_T48 t606 x37_1).f1)] 48 (0, 0)) (bU BK612)) (below_size (lU HB)))
           replace HO_35 := rE HO_35 ho0 hb
           replace HO_605000 := rE HO_605000 ho0 hb
           replace HO_606000 := rE HO_606000 ho0 hb
           replace HO_611000 := rE HO_611000 ho0 hb
           replace HO615 := rE HO615 ho0 hb
           replace HO618 := rE HO618 ho0 hb
           replace BK595 := sB BK595 hb
           replace BK604 := sB BK604 hb
           replace BK605 := sB BK605 hb
           replace BK610 := sB BK610 hb
           replace BK612 := sB BK612 hb
           replace BK619 := sB BK619 hb
           replace HB := sL HB hb
           (try clear hb)
           (try clear hb2)
           (try clear hk)
           (try clear hi)
           (try clear ho0)
           obtain ⟨Ao60, co60, eo60⟩ := Kd.R_slice HO622.out
           (first | subst eo60 | (injection eo60 with f1_ f2_ f3_; have f4_ := f1_.symm; have f5_ := f3_.symm; clear f1_ f2_ f3_; subst f4_; subst f5_))
           refine hK.out _ _ ⟨(blk_cell BK610.out 0).trans rfl, (blk_cell BK619.out 0).trans rfl, (blk_cell BK612.out 0).trans rfl, (blk_cell BK612.out 1).trans rfl, (blk_cell BK604.out 0).trans rfl, (blk_cell BK595.out 0).trans rfl, (blk_cell BK595.out 1).trans rfl, (blk_cell BK595.out 2).trans rfl, (blk_cell BK595.out 3).trans rfl, (blk_cell BK595.out 4).trans rfl, (blk_cell BK595.out 5).trans rfl, (blk_cell BK595.out 6).trans rfl, (blk_cell BK595.out 7).trans rfl, (blk_cell BK595.out 8).trans rfl, (blk_cell BK595.out 9).trans rfl, (blk_cell BK595.out 10).trans rfl, (blk_cell BK595.out 11).trans rfl, (blk_cell BK595.out 12).trans rfl⟩ (fun hHeld => ?_)
           clear hK K
           refine nP (some 46) ?_
           refine one_ (i := 3) (N := some 47) (ma 20 15) rfl rfl (one_of HT_.out (by kernel_rfl)) (by decide) (fun K hK => ?_)
           refine gO Try.func26 #[.agg #[.slice Ao60 t620.length co60]] rfl rfl ?_
           with_reducible refine (ranges_Set_Len.calls k1 _ _ t620 t623 _ (cU (rC HO622)) (rN HO622) A52.out).mono ?_
           rintro e w61 ⟨rfl, hb⟩
           refine ⟨_, rfl, ?_⟩
           replace HO_35 := rB HO_35 hb
           replace HO_605000 := rB HO_605000 hb
           replace HO_606000 := rB HO_606000 hb
           replace HO_611000 := rB HO_611000 hb
           replace HO615 := rB HO615 hb
           replace HO618 := rB HO618 hb
           replace HO622 := rB HO622 hb
           replace BK595 := sB BK595 hb
           replace BK604 := sB BK604 hb
           replace BK605 := sB BK605 hb
           replace BK610 := sB BK610 hb
           replace BK612 := sB BK612 hb
           replace BK619 := sB BK619 hb
           replace HB := sL HB hb
           (try clear hb)
           (try clear hb2)
           (try clear hk)
           (try clear hi)
           refine hK.out _ _ ⟨(blk_cell BK610.out 0).trans rfl, (blk_cell BK619.out 0).trans rfl, (blk_cell BK612.out 0).trans rfl, (blk_cell BK612.out 1).trans rfl, (blk_cell BK604.out 0).trans rfl, (blk_cell BK595.out 0).trans rfl, (blk_cell BK595.out 1).trans rfl, (blk_cell BK595.out 2).trans rfl, (blk_cell BK595.out 3).trans rfl, (blk_cell BK595.out 4).trans rfl, (blk_cell BK595.out 5).trans rfl, (blk_cell BK595.out 6).trans rfl, (blk_cell BK595.out 7).trans rfl, (blk_cell BK595.out 8).trans rfl, (blk_cell BK595.out 9).trans rfl, (blk_cell BK595.out 10).trans rfl, (blk_cell BK595.out 11).trans rfl, (blk_cell BK595.out 12).trans rfl⟩ (fun hHeld => ?_)
           clear hK K
           refine nP (some 47) ?_
           refine pS (i := 4) (N := some 48) (ma 20 31) rfl rfl HT_.out ?_
           refine pS (i := 5) (N := some 49) (ma 20 63) rfl rfl HT_.out ?_
           refine pS (i := 8) (N := some 52) (ma 20 319) rfl rfl HT_.out ?_
           refine pS (i := 10) (N := some 54) (ma 20 1343) rfl rfl HT_.out ?_
           refine pS (i := 11) (N := some 55) (ma 20 3391) rfl rfl HT_.out ?_
           refine pS (i := 15) (N := some 59) (ma 20 36159) rfl rfl HT_.out ?_
           refine pS (i := 16) (N := some 60) (ma 20 101695) rfl rfl HT_.out ?_
           refine tS (i := 6) (N := some 50) (ma 20 101759) rfl rfl HT_.out HW_.out hHeld ?_
           refine tS (i := 7) (N := some 51) (ma 20 101887) rfl rfl HT_.out HW_.out hHeld ?_
           refine tS (i := 9) (N := some 53) (ma 20 102399) rfl rfl HT_.out HW_.out hHeld ?_
           refine tS (i := 12) (N := some 56) (ma 20 106495) rfl rfl HT_.out HW_.out hHeld ?_
           refine tS (i := 17) (N := some 61) (ma 20 237567) rfl rfl HT_.out HW_.out hHeld ?_
           refine one_ (i := 13) (N := some 57) (ma 20 245759) rfl rfl (one_of HT_.out (by kernel_rfl)) (by decide) (fun K hK => ?_)
           refine gO Try.func20 #[.agg #[.slice Ao17 t598.length co17], .int .i64 a0_2, .int .i64 a0_3] rfl rfl ?_
           with_reducible refine (plan_Units.calls k1 _ _ t598 a0_2 a0_3 t624 _ (cU (rC HO_605000)) (rN HO_605000) A54.out).mono ?_
           rintro e w62 ⟨v625, rfl, ho0, hb⟩
           refine ⟨_, rfl, ?_⟩
           have HO626 := Aside0.mk (Kd.R_lower (Kd.R_newB (Kd.R_new' (Kd.R_new' (Kd.R_new' (Kd.R_new' (Kd.R_new' (Kd.R_new' (Kd.R_new' ho0 (Kd.R_lt (rU HO_35.out))) (Kd.R_lt (rU HO_605000.out))) (Kd.R_lt (rU HO_606000.out))) (Kd.R_lt (rU HO_611000.out))) (Kd.R_lt (rU HO615.out))) (Kd.R_lt (rU HO618.out))) (Kd.R_lt (rU HO622.out))) (g := gb612) (o := .cells #[.int .i64 ((rd_T48 t606 x37_1).f0), .int .i64 ((rd_T48 t606 x37_1).f1)] 48 (0, 0)) (bU BK612)) (below_size (lU HB)))
           replace HO_35 := rE HO_35 ho0 hb
           replace HO_605000 := rE HO_605000 ho0 hb
           replace HO_606000 := rE HO_606000 ho0 hb
           replace HO_611000 := rE HO_611000 ho0 hb
           replace HO615 := rE HO615 ho0 hb
           replace HO618 := rE HO618 ho0 hb
           replace HO622 := rE HO622 ho0 hb
           replace BK595 := sB BK595 hb
           replace BK604 := sB BK604 hb
           replace BK605 := sB BK605 hb
           replace BK610 := sB BK610 hb
           replace BK612 := sB BK612 hb
           replace BK619 := sB BK619 hb
           replace HB := sL HB hb
           (try clear hb)
           (try clear hb2)
           (try clear hk)
           (try clear hi)
           (try clear ho0)
           obtain ⟨Ao63, co63, eo63⟩ := Kd.R_slice HO626.out
           (first | subst eo63 | (injection eo63 with f1_ f2_ f3_; have f4_ := f1_.symm; have f5_ := f3_.symm; clear f1_ f2_ f3_; subst f4_; subst f5_))
           refine hK.out _ _ ⟨(blk_cell BK610.out 0).trans rfl, (blk_cell BK619.out 0).trans rfl, (blk_cell BK612.out 0).trans rfl, (blk_cell BK612.out 1).trans rfl, (blk_cell BK604.out 0).trans rfl, (blk_cell BK595.out 0).trans rfl, (blk_cell BK595.out 1).trans rfl, (blk_cell BK595.out 2).trans rfl, (blk_cell BK595.out 3).trans rfl, (blk_cell BK595.out 4).trans rfl, (blk_cell BK595.out 5).trans rfl, (blk_cell BK595.out 6).trans rfl, (blk_cell BK595.out 7).trans rfl, (blk_cell BK595.out 8).trans rfl, (blk_cell BK595.out 9).trans rfl, (blk_cell BK595.out 10).trans rfl, (blk_cell BK595.out 11).trans rfl, (blk_cell BK595.out 12).trans rfl⟩ (fun hHeld => ?_)
           clear hK K
           refine nP (some 57) ?_
           refine one_ (i := 14) (N := some 58) (ma 20 262143) rfl rfl (one_of HT_.out (by kernel_rfl)) (by decide) (fun K hK => ?_)
           refine gO Try.func23 #[.agg #[.int .i64 ((rd_T48 t606 x37_1).f0), .int .i64 ((rd_T48 t606 x37_1).f1)], .agg #[.slice Ao63 t624.length co63]] rfl rfl ?_
           with_reducible refine (plan_Waste.calls k1 ((rd_T48 t606 x37_1).f0) ((rd_T48 t606 x37_1).f1) _ _ t624 t627 _ (cU (rC HO626)) (rN HO626) A55.out).mono ?_
           rintro e w64 ⟨rfl, hb⟩
           refine ⟨_, rfl, ?_⟩
           replace HO_35 := rB HO_35 hb
           replace HO_605000 := rB HO_605000 hb
           replace HO_606000 := rB HO_606000 hb
           replace HO_611000 := rB HO_611000 hb
           replace HO615 := rB HO615 hb
           replace HO618 := rB HO618 hb
           replace HO622 := rB HO622 hb
           replace HO626 := rB HO626 hb
           replace BK595 := sB BK595 hb
           replace BK604 := sB BK604 hb
           replace BK605 := sB BK605 hb
           replace BK610 := sB BK610 hb
           replace BK612 := sB BK612 hb
           replace BK619 := sB BK619 hb
           replace HB := sL HB hb
           (try clear hb)
           (try clear hb2)
           (try clear hk)
           (try clear hi)
           refine hK.out _ _ ⟨(blk_cell BK610.out 0).trans rfl, (blk_cell BK619.out 0).trans rfl, (blk_cell BK612.out 0).trans rfl, (blk_cell BK612.out 1).trans rfl, (blk_cell BK604.out 0).trans rfl, (blk_cell BK595.out 0).trans rfl, (blk_cell BK595.out 1).trans rfl, (blk_cell BK595.out 2).trans rfl, (blk_cell BK595.out 3).trans rfl, (blk_cell BK595.out 4).trans rfl, (blk_cell BK595.out 5).trans rfl, (blk_cell BK595.out 6).trans rfl, (blk_cell BK595.out 7).trans rfl, (blk_cell BK595.out 8).trans rfl, (blk_cell BK595.out 9).trans rfl, (blk_cell BK595.out 10).trans rfl, (blk_cell BK595.out 11).trans rfl, (blk_cell BK595.out 12).trans rfl⟩ (fun hHeld => ?_)
           clear hK K
           refine nP (some 58) ?_
           refine pS (i := 18) (N := some 62) (ma 20 524287) rfl rfl HT_.out ?_
           refine pS (i := 19) (N := some 63) (ma 20 1048575) rfl rfl HT_.out ?_
           refine done_ (done_of HT_.out (by kernel_rfl)) ?_
           try go_wp2
           go_meet
           case rel => exact ⟨_, (decide (t627 > a0_4)), eR, H', ⟨by have := HK1.out; first | omega | exact Nat.le_refl _⟩, ⟨rU (Kd.R_mono HO_35.out (fun _ hk => ⟨hk.1.1.1, ⟨hk.1.1.2.1, ⟨hk.1.1.2.2.1, ⟨hk.1.1.2.2.2.2.1, hk.1.1.2.2.2.2.2⟩⟩⟩⟩))⟩, ⟨rU (Kd.R_mono HO_605000.out (fun _ hk => ⟨hk.1.1.1, ⟨hk.1.1.2.1, ⟨hk.1.1.2.2.1, ⟨hk.1.1.2.2.2.2.1, hk.1.1.2.2.2.2.2⟩⟩⟩⟩))⟩, ⟨rU (Kd.R_mono HO_606000.out (fun _ hk => ⟨hk.1.1.1, ⟨hk.1.1.2.1, ⟨hk.1.1.2.2.1, ⟨hk.1.1.2.2.2.2.1, hk.1.1.2.2.2.2.2⟩⟩⟩⟩))⟩, ⟨rU (Kd.R_mono HO_611000.out (fun _ hk => ⟨hk.1.1.1, ⟨hk.1.1.2.1, ⟨hk.1.1.2.2.1, ⟨hk.1.1.2.2.2.2.1, hk.1.1.2.2.2.2.2⟩⟩⟩⟩))⟩, ⟨rU (Kd.R_mono HO618.out (fun _ hk => ⟨hk.1.1.1, ⟨hk.1.1.2.1, ⟨hk.1.1.2.2.1, ⟨hk.1.1.2.2.2.1, hk.1.1.2.2.2.2.2⟩⟩⟩⟩))⟩, ⟨bU BK595⟩, ⟨bU BK604⟩, ⟨bU BK605⟩, ⟨bU BK610⟩, ⟨bU BK612⟩, ⟨bU BK619⟩, ⟨lU HB⟩⟩
          ·rw [if_neg c53] at H
           have c53b0 : (t623 == 0) = false := beq_eq_false_iff_ne.mpr c53
           have c53b1 : (t623 != 0) = true := bne_iff_ne.mpr c53
           (first | rw [c53b0] | (simp only [i64_w, i32_w]; rw [c53b0]) | skip)
           have H' := Aside0.mk H
           clear H
           try go_wp2
           have n0_ : Aside0 (Kd.R k48 48 (w43.setCell ⟨gb619, 0, none⟩ (.slice Ao44 t616.length co44)) w.heap.size (fun k_ => some k_ ≠ (.slice Ao17 t598.length co17 : Value).ownBlock ∧ some k_ ≠ (.slice Ao21 t601.length co21 : Value).ownBlock ∧ some k_ ≠ (u611000 : Value).ownBlock ∧ some k_ ≠ (.slice Ao41 y613.length co41 : Value).ownBlock ∧ some k_ ≠ (.slice Ao44 t616.length co44 : Value).ownBlock ∧ k_ ≠ gb612) (.slice (some ad611) t606.length co27) t606) := ⟨rU (Kd.R_mono (Kd.R_far (p := ⟨gb619, 0, none⟩) (Kd.R_types HO_35.out BK619.out (by decide)) (fun _ hk => hk.2) (.slice Ao44 t616.length co44)) (fun _ hk => ⟨hk.1.1.1.1.1, ⟨hk.1.1.1.1.2.1, ⟨hk.1.1.1.1.2.2, ⟨hk.1.1.2, ⟨hk.1.2, hk.1.1.1.2⟩⟩⟩⟩⟩))⟩
           have n1_ : Aside0 (Kd.R k48 48 (w43.setCell ⟨gb619, 0, none⟩ (.slice Ao44 t616.length co44)) w.heap.size (fun k_ => some k_ ≠ (.slice (some ad611) t606.length co27 : Value).ownBlock ∧ some k_ ≠ (.slice Ao21 t601.length co21 : Value).ownBlock ∧ some k_ ≠ (u611000 : Value).ownBlock ∧ some k_ ≠ (.slice Ao41 y613.length co41 : Value).ownBlock ∧ some k_ ≠ (.slice Ao44 t616.length co44 : Value).ownBlock ∧ k_ ≠ gb612) (.slice Ao17 t598.length co17) t598) := ⟨rU (Kd.R_mono (Kd.R_far (p := ⟨gb619, 0, none⟩) (Kd.R_types HO_605000.out BK619.out (by decide)) (fun _ hk => hk.2) (.slice Ao44 t616.length co44)) (fun _ hk => ⟨hk.1.1.1.1.1, ⟨hk.1.1.1.1.2.1, ⟨hk.1.1.1.1.2.2, ⟨hk.1.1.2, ⟨hk.1.2, hk.1.1.1.2⟩⟩⟩⟩⟩))⟩
           have n2_ : Aside0 (Kd.R k48 48 (w43.setCell ⟨gb619, 0, none⟩ (.slice Ao44 t616.length co44)) w.heap.size (fun k_ => some k_ ≠ (.slice (some ad611) t606.length co27 : Value).ownBlock ∧ some k_ ≠ (.slice Ao17 t598.length co17 : Value).ownBlock ∧ some k_ ≠ (u611000 : Value).ownBlock ∧ some k_ ≠ (.slice Ao41 y613.length co41 : Value).ownBlock ∧ some k_ ≠ (.slice Ao44 t616.length co44 : Value).ownBlock ∧ k_ ≠ gb612) (.slice Ao21 t601.length co21) t601) := ⟨rU (Kd.R_mono (Kd.R_far (p := ⟨gb619, 0, none⟩) (Kd.R_types HO_606000.out BK619.out (by decide)) (fun _ hk => hk.2) (.slice Ao44 t616.length co44)) (fun _ hk => ⟨hk.1.1.1.1.1, ⟨hk.1.1.1.1.2.1, ⟨hk.1.1.1.1.2.2, ⟨hk.1.1.2, ⟨hk.1.2, hk.1.1.1.2⟩⟩⟩⟩⟩))⟩
           have n3_ : Aside0 (Kd.R k48 48 (w43.setCell ⟨gb619, 0, none⟩ (.slice Ao44 t616.length co44)) w.heap.size (fun k_ => some k_ ≠ (.slice (some ad611) t606.length co27 : Value).ownBlock ∧ some k_ ≠ (.slice Ao17 t598.length co17 : Value).ownBlock ∧ some k_ ≠ (.slice Ao21 t601.length co21 : Value).ownBlock ∧ some k_ ≠ (.slice Ao41 y613.length co41 : Value).ownBlock ∧ some k_ ≠ (.slice Ao44 t616.length co44 : Value).ownBlock ∧ k_ ≠ gb612) u611000 x611000_1) := ⟨rU (Kd.R_mono (Kd.R_far (p := ⟨gb619, 0, none⟩) (Kd.R_types HO_611000.out BK619.out (by decide)) (fun _ hk => hk.2) (.slice Ao44 t616.length co44)) (fun _ hk => ⟨hk.1.1.1.1.1, ⟨hk.1.1.1.1.2.1, ⟨hk.1.1.1.1.2.2, ⟨hk.1.1.2, ⟨hk.1.2, hk.1.1.1.2⟩⟩⟩⟩⟩))⟩
           have n4_ : Aside0 (Kd.R k48 48 (w43.setCell ⟨gb619, 0, none⟩ (.slice Ao44 t616.length co44)) w.heap.size (fun k_ => some k_ ≠ (.slice (some ad611) t606.length co27 : Value).ownBlock ∧ some k_ ≠ (.slice Ao17 t598.length co17 : Value).ownBlock ∧ some k_ ≠ (.slice Ao21 t601.length co21 : Value).ownBlock ∧ some k_ ≠ (u611000 : Value).ownBlock ∧ some k_ ≠ (.slice Ao44 t616.length co44 : Value).ownBlock ∧ k_ ≠ gb612) (.slice Ao41 y613.length co41) y613) := ⟨rU (Kd.R_mono (Kd.R_far (p := ⟨gb619, 0, none⟩) (Kd.R_types HO615.out BK619.out (by decide)) (fun _ hk => hk.2) (.slice Ao44 t616.length co44)) (fun _ hk => ⟨hk.1.1.1.1.1.1.2, ⟨hk.1.1.1.1.1.2, ⟨hk.1.1.1.1.2, ⟨hk.1.1.1.2, ⟨hk.1.2, hk.1.1.2⟩⟩⟩⟩⟩))⟩
           have n5_ : Aside0 (Kd.R k48 48 (w43.setCell ⟨gb619, 0, none⟩ (.slice Ao44 t616.length co44)) w.heap.size (fun k_ => some k_ ≠ (.slice (some ad611) t606.length co27 : Value).ownBlock ∧ some k_ ≠ (.slice Ao17 t598.length co17 : Value).ownBlock ∧ some k_ ≠ (.slice Ao21 t601.length co21 : Value).ownBlock ∧ some k_ ≠ (u611000 : Value).ownBlock ∧ some k_ ≠ (.slice Ao41 y613.length co41 : Value).ownBlock ∧ k_ ≠ gb612) (.slice Ao44 t616.length co44) t616) := ⟨rU (Kd.R_mono (Kd.R_far (p := ⟨gb619, 0, none⟩) (Kd.R_types HO618.out BK619.out (by decide)) (fun _ hk => hk.2) (.slice Ao44 t616.length co44)) (fun _ hk => ⟨hk.1.1.1.1.1.1.2, ⟨hk.1.1.1.1.1.2, ⟨hk.1.1.1.1.2, ⟨hk.1.1.1.2, ⟨hk.1.1.2, hk.1.2⟩⟩⟩⟩⟩))⟩
           have n6_ : Aside0 ((w43.setCell ⟨gb619, 0, none⟩ (.slice Ao44 t616.length co44)).heap[gb595]? = some (.cells #[.slice A0_0 l0_0.length c0_0, .slice A0_1 l0_1.length c0_1, .int .i64 a0_2, .int .i64 a0_3, .int .i64 a0_4, .int .i64 a0_5, .int .i64 a0_6, .int .i64 a0_7, .int .i64 a0_8, .int .i64 a0_9, .int .i64 a0_10, .int .i64 a0_11, .int .i64 a0_12] 26 (0, 0))) := ⟨bF BK595⟩
           have n7_ : Aside0 ((w43.setCell ⟨gb619, 0, none⟩ (.slice Ao44 t616.length co44)).heap[gb604]? = some (.cells #[.slice Ao17 t598.length co17] 30 (0, 0))) := ⟨bF BK604⟩
           have n8_ : Aside0 ((w43.setCell ⟨gb619, 0, none⟩ (.slice Ao44 t616.length co44)).heap[gb605]? = some (.cells #[.slice Ao21 t601.length co21] 30 (0, 0))) := ⟨bF BK605⟩
           have n9_ : Aside0 ((w43.setCell ⟨gb619, 0, none⟩ (.slice Ao44 t616.length co44)).heap[gb610]? = some (.cells #[u611000] 30 (0, 0))) := ⟨bF BK610⟩
           have n10_ : Aside0 ((w43.setCell ⟨gb619, 0, none⟩ (.slice Ao44 t616.length co44)).heap[gb612]? = some (.cells #[.int .i64 ((rd_T48 t606 x37_1).f0), .int .i64 ((rd_T48 t606 x37_1).f1)] 48 (0, 0))) := ⟨bF BK612⟩
           have n11_ : Aside0 ((w43.setCell ⟨gb619, 0, none⟩ (.slice Ao44 t616.length co44)).heap[gb619]? = some (.cells #[.slice Ao44 t616.length co44] 30 (0, 0))) := ⟨by (with_reducible repeat (first | refine blk_drewN ?_ _ | refine blk_drew ?_ | refine blk_alloc ?_ _)); refine blk_put (cs := #[.slice none 0 0]) ?_ 0 _ rfl; (with_reducible repeat (first | refine blk_drewN ?_ _ | refine blk_drew ?_ | refine blk_alloc ?_ _)); exact BK619.out⟩
           have n12_ : Aside0 (Below w.heap.size w (w43.setCell ⟨gb619, 0, none⟩ (.slice Ao44 t616.length co44))) := ⟨lU HB⟩
           (try clear HO_35)
           (try clear HO_605000)
           (try clear HO_606000)
           (try clear HO_611000)
           (try clear HO615)
           (try clear HO618)
           (try clear BK595)
           (try clear BK604)
           (try clear BK605)
           (try clear BK610)
           (try clear BK612)
           (try clear BK619)
           (try clear HB)
           generalize (w43.setCell ⟨gb619, 0, none⟩ (.slice Ao44 t616.length co44)) = w65 at n0_ n1_ n2_ n3_ n4_ n5_ n6_ n7_ n8_ n9_ n10_ n11_ n12_ ⊢
           have HO_35 := n0_
           have HO_605000 := n1_
           have HO_606000 := n2_
           have HO_611000 := n3_
           have HO615 := n4_
           have HO618 := n5_
           have BK595 := n6_
           have BK604 := n7_
           have BK605 := n8_
           have BK610 := n9_
           have BK612 := n10_
           have BK619 := n11_
           have HB := n12_
           clear n0_ n1_ n2_ n3_ n4_ n5_ n6_ n7_ n8_ n9_ n10_ n11_ n12_
           replace HO_35 := Aside0.mk (Kd.R_drew HO_35.out)
           replace HO_605000 := Aside0.mk (Kd.R_drew HO_605000.out)
           replace HO_606000 := Aside0.mk (Kd.R_drew HO_606000.out)
           replace HO_611000 := Aside0.mk (Kd.R_drew HO_611000.out)
           replace HO615 := Aside0.mk (Kd.R_drew HO615.out)
           replace HO618 := Aside0.mk (Kd.R_drew HO618.out)
           replace BK595 := Aside0.mk (blk_drew BK595.out)
           replace BK604 := Aside0.mk (blk_drew BK604.out)
           replace BK605 := Aside0.mk (blk_drew BK605.out)
           replace BK610 := Aside0.mk (blk_drew BK610.out)
           replace BK612 := Aside0.mk (blk_drew BK612.out)
           replace BK619 := Aside0.mk (blk_drew BK619.out)
           replace HB := Aside0.mk (below_drew1 HB.out)
           obtain ⟨Ao67, co67, eo67⟩ := Kd.R_slice HO_611000.out
           (first | subst eo67 | (injection eo67 with f1_ f2_ f3_; have f4_ := f1_.symm; have f5_ := f3_.symm; clear f1_ f2_ f3_; subst f4_; subst f5_))
           refine start_ (n := 20) (S := fun w' => w'.cell? ⟨gb610, 0, none⟩ = some (.slice Ao67 x611000_1.length co67) ∧ w'.cell? ⟨gb619, 0, none⟩ = some (.slice Ao44 t616.length co44)) (ds := []) #[false, false, false, false, false, false, false, false, false, false, false, false, false, false, false, false, false, false, false, false] (by kernel_rfl) rfl rfl ⟨(blk_cell BK610.out 0).trans rfl, (blk_cell BK619.out 0).trans rfl⟩ (fun hHeld => ?_); refine with_tabW mandolinelaw35_PlanOnce.tab15 mandolinelaw35_PlanOnce.bits15 (fun HT_ HW_ => ?_)
           generalize w65.drew = w66 at HO_35 HO_605000 HO_606000 HO_611000 HO615 HO618 BK595 BK604 BK605 BK610 BK612 BK619 HB hHeld ⊢
           refine tS (i := 0) (N := some 44) (ma 20 1) rfl rfl HT_.out HW_.out hHeld ?_
           refine tS (i := 1) (N := some 45) (ma 20 3) rfl rfl HT_.out HW_.out hHeld ?_
           refine one_ (i := 2) (N := some 46) (ma 20 7) rfl rfl (one_of HT_.out (by kernel_rfl)) (by decide) (fun K hK => ?_)
           refine gO Try.func25 #[.agg #[.slice Ao67 x611000_1.length co67], .agg #[.slice Ao44 t616.length co44]] rfl rfl ?_
           with_reducible refine (ranges_Set_And.calls k1 _ _ x611000_1 _ _ t616 t620 _ (cU (rC HO_611000)) (rN HO_611000) (cU (rC HO618)) (rN HO618) A51.out).mono ?_
           rintro e w68 ⟨v621, rfl, ho0, hb⟩
           refine ⟨_, rfl, ?_⟩
           have HO622 := Aside0.mk (Kd.R_lower (Kd.R_newB (Kd.R_new' (Kd.R_new' (Kd.R_new' (Kd.R_new' (Kd.R_new' (Kd.R_new' ho0 (Kd.R_lt (rU HO_35.out))) (Kd.R_lt (rU HO_605000.out))) (Kd.R_lt (rU HO_606000.out))) (Kd.R_lt (rU HO_611000.out))) (Kd.R_lt (rU HO615.out))) (Kd.R_lt (rU HO618.out))) (g := gb612) (o := .cells #[.int .i64 ((rd_T48 t606 x37_1).f0), .int .i64 ((rd_T48 t606 x37_1).f1)] 48 (0, 0)) (bU BK612)) (below_size (lU HB)))
           replace HO_35 := rE HO_35 ho0 hb
           replace HO_605000 := rE HO_605000 ho0 hb
           replace HO_606000 := rE HO_606000 ho0 hb
           replace HO_611000 := rE HO_611000 ho0 hb
           replace HO615 := rE HO615 ho0 hb
           replace HO618 := rE HO618 ho0 hb
           replace BK595 := sB BK595 hb
           replace BK604 := sB BK604 hb
           replace BK605 := sB BK605 hb
           replace BK610 := sB BK610 hb
           replace BK612 := sB BK612 hb
           replace BK619 := sB BK619 hb
           replace HB := sL HB hb
           (try clear hb)
           (try clear hb2)
           (try clear hk)
           (try clear hi)
           (try clear ho0)
           obtain ⟨Ao69, co69, eo69⟩ := Kd.R_slice HO622.out
           (first | subst eo69 | (injection eo69 with f1_ f2_ f3_; have f4_ := f1_.symm; have f5_ := f3_.symm; clear f1_ f2_ f3_; subst f4_; subst f5_))
           refine hK.out _ _ ⟨(blk_cell BK610.out 0).trans rfl, (blk_cell BK619.out 0).trans rfl⟩ (fun hHeld => ?_)
           clear hK K
           refine nP (some 46) ?_
           refine one_ (i := 3) (N := some 47) (ma 20 15) rfl rfl (one_of HT_.out (by kernel_rfl)) (by decide) (fun K hK => ?_)
           refine gO Try.func26 #[.agg #[.slice Ao69 t620.length co69]] rfl rfl ?_
           with_reducible refine (ranges_Set_Len.calls k1 _ _ t620 t623 _ (cU (rC HO622)) (rN HO622) A52.out).mono ?_
           rintro e w70 ⟨rfl, hb⟩
           refine ⟨_, rfl, ?_⟩
           replace HO_35 := rB HO_35 hb
           replace HO_605000 := rB HO_605000 hb
           replace HO_606000 := rB HO_606000 hb
           replace HO_611000 := rB HO_611000 hb
           replace HO615 := rB HO615 hb
           replace HO618 := rB HO618 hb
           replace HO622 := rB HO622 hb
           replace BK595 := sB BK595 hb
           replace BK604 := sB BK604 hb
           replace BK605 := sB BK605 hb
           replace BK610 := sB BK610 hb
           replace BK612 := sB BK612 hb
           replace BK619 := sB BK619 hb
           replace HB := sL HB hb
           (try clear hb)
           (try clear hb2)
           (try clear hk)
           (try clear hi)
           refine hK.out _ _ ⟨(blk_cell BK610.out 0).trans rfl, (blk_cell BK619.out 0).trans rfl⟩ (fun hHeld => ?_)
           clear hK K
           refine nP (some 47) ?_
           refine pS (i := 4) (N := some 48) (ma 20 31) rfl rfl HT_.out ?_
           refine pS (i := 5) (N := some 49) (ma 20 63) rfl rfl HT_.out ?_
           refine pU (i := 6) (N := some 50) (ma 20 127) rfl rfl HT_.out ?_
           refine pU (i := 7) (N := some 51) (ma 20 255) rfl rfl HT_.out ?_
           refine pU (i := 8) (N := some 52) (ma 20 511) rfl rfl HT_.out ?_
           refine pU (i := 9) (N := some 53) (ma 20 1023) rfl rfl HT_.out ?_
           refine pU (i := 10) (N := some 54) (ma 20 2047) rfl rfl HT_.out ?_
           refine pU (i := 11) (N := some 55) (ma 20 4095) rfl rfl HT_.out ?_
           refine pU (i := 12) (N := some 56) (ma 20 8191) rfl rfl HT_.out ?_
           refine pU (i := 13) (N := some 57) (ma 20 16383) rfl rfl HT_.out ?_
           refine pU (i := 14) (N := some 58) (ma 20 32767) rfl rfl HT_.out ?_
           refine pU (i := 15) (N := some 59) (ma 20 65535) rfl rfl HT_.out ?_
           refine pU (i := 16) (N := some 60) (ma 20 131071) rfl rfl HT_.out ?_
           refine pU (i := 17) (N := some 61) (ma 20 262143) rfl rfl HT_.out ?_
           refine pU (i := 18) (N := some 62) (ma 20 524287) rfl rfl HT_.out ?_
           refine pS (i := 19) (N := some 63) (ma 20 1048575) rfl rfl HT_.out ?_
           refine done_ (done_of HT_.out (by kernel_rfl)) ?_
           try go_wp2
           go_meet
           case rel => exact ⟨_, (true), eR, H', ⟨by have := HK1.out; first | omega | exact Nat.le_refl _⟩, ⟨rU (Kd.R_mono HO_35.out (fun _ hk => ⟨hk.1.1, ⟨hk.1.2.1, ⟨hk.1.2.2.1, ⟨hk.1.2.2.2.2.1, hk.1.2.2.2.2.2⟩⟩⟩⟩))⟩, ⟨rU (Kd.R_mono HO_605000.out (fun _ hk => ⟨hk.1.1, ⟨hk.1.2.1, ⟨hk.1.2.2.1, ⟨hk.1.2.2.2.2.1, hk.1.2.2.2.2.2⟩⟩⟩⟩))⟩, ⟨rU (Kd.R_mono HO_606000.out (fun _ hk => ⟨hk.1.1, ⟨hk.1.2.1, ⟨hk.1.2.2.1, ⟨hk.1.2.2.2.2.1, hk.1.2.2.2.2.2⟩⟩⟩⟩))⟩, ⟨rU (Kd.R_mono HO_611000.out (fun _ hk => ⟨hk.1.1, ⟨hk.1.2.1, ⟨hk.1.2.2.1, ⟨hk.1.2.2.2.2.1, hk.1.2.2.2.2.2⟩⟩⟩⟩))⟩, ⟨rU (Kd.R_mono HO618.out (fun _ hk => ⟨hk.1.1, ⟨hk.1.2.1, ⟨hk.1.2.2.1, ⟨hk.1.2.2.2.1, hk.1.2.2.2.2.2⟩⟩⟩⟩))⟩, ⟨bU BK595⟩, ⟨bU BK604⟩, ⟨bU BK605⟩, ⟨bU BK610⟩, ⟨bU BK612⟩, ⟨bU BK619⟩, ⟨lU HB⟩⟩
         case rest =>
          clear HC32
          try clear c2
          try clear p2
          try clear c5
          try clear c20
          try clear c23
          try clear c25
          try clear c26
          try clear c53
          try clear c53b0
          try clear c53b1
          obtain ⟨kq, x63_31, rfl, HA, HJ31, HO_35, HO_605000, HO_606000, HO_611000, HO_620000, BK595, BK604, BK605, BK610, BK612, BK619, HB⟩ := hcut
          cases kq with
          | zero => exact absurd HA.out (by simp [mandolinelaw35_PlanOnce.j1])
          | succ kj31 =>
           have H := HA.out
           clear HA
           simp only [mandolinelaw35_PlanOnce.j1] at H
           by_cases c71 : x63_31 = true
           ·subst c71
            rw [if_pos rfl] at H
            obtain rfl := Option.some.inj H
            go_wp2
            go_ret
            exact ⟨eW, lU HB⟩
           ·replace c71 := Bool.eq_false_iff.mpr c71
            subst c71
            rw [if_neg (show ¬ (false = true) by decide)] at H
            obtain ⟨t628, A72, H⟩ := bO H
            by_cases c73 : ((rd_T48 t606 x37_1).f1) < 4611686018427387904
            ·rw [if_pos c73] at H
             have c73b0 : decide (((rd_T48 t606 x37_1).f1) < 4611686018427387904) = true := decide_eq_true c73
             clear c73
             have H' := Aside0.mk H
             clear H
             have hnb74 := NB610_595.out
             have hnc74 := NB595_610.out
             have hnb75 := NB610_604.out
             have hnc75 := NB604_610.out
             have hnb76 := NB610_605.out
             have hnc76 := NB605_610.out
             have hnb77 := NB610_612.out
             have hnc77 := NB612_610.out
             have hnb78 := NB610_619.out
             have hnc78 := NB619_610.out
             have hcz79_0 := q1 BK610
             have hfz79_0 := blk_frozen BK610.out 0
             have hnb80 := NB619_595.out
             have hnc80 := NB595_619.out
             have hnb81 := NB619_604.out
             have hnc81 := NB604_619.out
             have hnb82 := NB619_605.out
             have hnc82 := NB605_619.out
             have hnb83 := NB619_612.out
             have hnc83 := NB612_619.out
             have hcz84_0 := q1 BK619
             have hfz84_0 := blk_frozen BK619.out 0
             obtain ⟨Ao85, co85, eo85⟩ := Kd.R_slice HO_611000.out
             subst eo85
             go_wp2_with (first | ((with_reducible refine gate_callee (f := 27) rfl ?_); refine gL (some 66) rfl rfl Try.func27 #[.agg #[.slice Ao85 x611000_1.length co85], .agg #[.slice Ao44 t616.length co44]] rfl ?_; (with_reducible refine (ranges_Set_Or.calls kj31 _ _ x611000_1 _ _ t616 t628 _ (cU (rC HO_611000)) (rN HO_611000) (cU (rC HO_620000)) (rN HO_620000) A72.out).mono ?_); rintro e w86 ⟨v629, rfl, ho0, hb⟩; refine ⟨_, rfl, ?_⟩; have HO630 := Aside0.mk (Kd.R_lower (Kd.R_newB (Kd.R_new' (Kd.R_new' (Kd.R_new' (Kd.R_new' (Kd.R_new' ho0 (Kd.R_lt (rU HO_35.out))) (Kd.R_lt (rU HO_605000.out))) (Kd.R_lt (rU HO_606000.out))) (Kd.R_lt (rU HO_611000.out))) (Kd.R_lt (rU HO_620000.out))) (g := gb612) (o := .cells #[.int .i64 ((rd_T48 t606 x37_1).f0), .int .i64 ((rd_T48 t606 x37_1).f1)] 48 (0, 0)) (bU BK612)) (below_size (lU HB))); replace HO_35 := rE HO_35 ho0 hb; replace HO_605000 := rE HO_605000 ho0 hb; replace HO_606000 := rE HO_606000 ho0 hb; replace HO_611000 := rE HO_611000 ho0 hb; replace HO_620000 := rE HO_620000 ho0 hb; replace BK595 := sB BK595 hb; replace BK604 := sB BK604 hb; replace BK605 := sB BK605 hb; replace BK610 := sB BK610 hb; replace BK612 := sB BK612 hb; replace BK619 := sB BK619 hb; replace HB := sL HB hb; (try clear hb); (try clear hb2); (try clear hk); (try clear hi); (try clear ho0); obtain ⟨Ao87, co87, eo87⟩ := Kd.R_slice HO630.out; subst eo87; have hcz88_0 := q1 BK610; have hfz88_0 := blk_frozen BK610.out 0; have hnb89 := NB612_595.out; have hnc89 := NB595_612.out; have hnb90 := NB612_604.out; have hnc90 := NB604_612.out; have hnb91 := NB612_605.out; have hnc91 := NB605_612.out; obtain ⟨hcz92_0, hcz92_1⟩ := q2 BK612; obtain ⟨hfz92_0, hfz92_1⟩ := z2 BK612))
             go_roundg kj31
             case measure => have := HK1.out; have := HJ31.out; omega
             case rel => exact ⟨(wrap64 (x8_1 + (wrap64 (((rd_T48 t606 x37_1).f1) - ((rd_T48 t606 x37_1).f0))))), (wrap64 (x37_1 + 1)), (t628), (.slice Ao87 t628.length co87), eR, eR, H', ⟨by have := HK1.out; have := HJ31.out; omega⟩, ⟨rU (Kd.R_mono (Kd.R_far (p := ⟨gb610, 0, none⟩) (Kd.R_types HO_35.out BK610.out (by decide)) (fun _ hk => hk.2) (.slice Ao87 t628.length co87)) (fun _ hk => ⟨hk.1.1.1, ⟨hk.1.1.2.1, hk.1.2⟩⟩))⟩, ⟨rU (Kd.R_mono (Kd.R_far (p := ⟨gb610, 0, none⟩) (Kd.R_types HO_605000.out BK610.out (by decide)) (fun _ hk => hk.2) (.slice Ao87 t628.length co87)) (fun _ hk => ⟨hk.1.1.1, ⟨hk.1.1.2.1, hk.1.2⟩⟩))⟩, ⟨rU (Kd.R_mono (Kd.R_far (p := ⟨gb610, 0, none⟩) (Kd.R_types HO_606000.out BK610.out (by decide)) (fun _ hk => hk.2) (.slice Ao87 t628.length co87)) (fun _ hk => ⟨hk.1.1.1, ⟨hk.1.1.2.1, hk.1.2⟩⟩))⟩, ⟨rU (Kd.R_mono (Kd.R_far (p := ⟨gb610, 0, none⟩) (Kd.R_types HO630.out BK610.out (by decide)) (fun _ hk => hk.2) (.slice Ao87 t628.length co87)) (fun _ hk => ⟨hk.1.1.1.1.1.1.2, ⟨hk.1.1.1.1.1.2, hk.1.1.1.1.2⟩⟩))⟩, ⟨bF BK595⟩, ⟨bF BK604⟩, ⟨bF BK605⟩, ⟨by (with_reducible repeat (first | refine blk_drewN ?_ _ | refine blk_drew ?_ | refine blk_alloc ?_ _)); refine blk_put (cs := #[.slice Ao85 x611000_1.length co85]) ?_ 0 _ rfl; (with_reducible repeat (first | refine blk_drewN ?_ _ | refine blk_drew ?_ | refine blk_alloc ?_ _)); exact BK610.out⟩, ⟨lU HB⟩⟩
            ·rw [if_neg c73] at H
             have c73b0 : decide (((rd_T48 t606 x37_1).f1) < 4611686018427387904) = false := decide_eq_false c73
             clear c73
             have H' := Aside0.mk H
             clear H
             have hnb93 := NB610_595.out
             have hnc93 := NB595_610.out
             have hnb94 := NB610_604.out
             have hnc94 := NB604_610.out
             have hnb95 := NB610_605.out
             have hnc95 := NB605_610.out
             have hnb96 := NB610_612.out
             have hnc96 := NB612_610.out
             have hnb97 := NB610_619.out
             have hnc97 := NB619_610.out
             have hcz98_0 := q1 BK610
             have hfz98_0 := blk_frozen BK610.out 0
             have hnb99 := NB619_595.out
             have hnc99 := NB595_619.out
             have hnb100 := NB619_604.out
             have hnc100 := NB604_619.out
             have hnb101 := NB619_605.out
             have hnc101 := NB605_619.out
             have hnb102 := NB619_612.out
             have hnc102 := NB612_619.out
             have hcz103_0 := q1 BK619
             have hfz103_0 := blk_frozen BK619.out 0
             obtain ⟨Ao104, co104, eo104⟩ := Kd.R_slice HO_611000.out
             subst eo104
             go_wp2_with (first | ((with_reducible refine gate_callee (f := 27) rfl ?_); refine gL (some 66) rfl rfl Try.func27 #[.agg #[.slice Ao104 x611000_1.length co104], .agg #[.slice Ao44 t616.length co44]] rfl ?_; (with_reducible refine (ranges_Set_Or.calls kj31 _ _ x611000_1 _ _ t616 t628 _ (cU (rC HO_611000)) (rN HO_611000) (cU (rC HO_620000)) (rN HO_620000) A72.out).mono ?_); rintro e w105 ⟨v629, rfl, ho0, hb⟩; refine ⟨_, rfl, ?_⟩; have HO630 := Aside0.mk (Kd.R_lower (Kd.R_newB (Kd.R_new' (Kd.R_new' (Kd.R_new' (Kd.R_new' (Kd.R_new' ho0 (Kd.R_lt (rU HO_35.out))) (Kd.R_lt (rU HO_605000.out))) (Kd.R_lt (rU HO_606000.out))) (Kd.R_lt (rU HO_611000.out))) (Kd.R_lt (rU HO_620000.out))) (g := gb612) (o := .cells #[.int .i64 ((rd_T48 t606 x37_1).f0), .int .i64 ((rd_T48 t606 x37_1).f1)] 48 (0, 0)) (bU BK612)) (below_size (lU HB))); replace HO_35 := rE HO_35 ho0 hb; replace HO_605000 := rE HO_605000 ho0 hb; replace HO_606000 := rE HO_606000 ho0 hb; replace HO_611000 := rE HO_611000 ho0 hb; replace HO_620000 := rE HO_620000 ho0 hb; replace BK595 := sB BK595 hb; replace BK604 := sB BK604 hb; replace BK605 := sB BK605 hb; replace BK610 := sB BK610 hb; replace BK612 := sB BK612 hb; replace BK619 := sB BK619 hb; replace HB := sL HB hb; (try clear hb); (try clear hb2); (try clear hk); (try clear hi); (try clear ho0); obtain ⟨Ao106, co106, eo106⟩ := Kd.R_slice HO630.out; subst eo106; have hcz107_0 := q1 BK610; have hfz107_0 := blk_frozen BK610.out 0; have hnb108 := NB612_595.out; have hnc108 := NB595_612.out; have hnb109 := NB612_604.out; have hnc109 := NB604_612.out; have hnb110 := NB612_605.out; have hnc110 := NB605_612.out; obtain ⟨hcz111_0, hcz111_1⟩ := q2 BK612; obtain ⟨hfz111_0, hfz111_1⟩ := z2 BK612))
             go_roundg kj31
             case measure => have := HK1.out; have := HJ31.out; omega
             case rel => exact ⟨(x8_1), (wrap64 (x37_1 + 1)), (t628), (.slice Ao106 t628.length co106), eR, eR, H', ⟨by have := HK1.out; have := HJ31.out; omega⟩, ⟨rU (Kd.R_mono (Kd.R_far (p := ⟨gb610, 0, none⟩) (Kd.R_types HO_35.out BK610.out (by decide)) (fun _ hk => hk.2) (.slice Ao106 t628.length co106)) (fun _ hk => ⟨hk.1.1.1, ⟨hk.1.1.2.1, hk.1.2⟩⟩))⟩, ⟨rU (Kd.R_mono (Kd.R_far (p := ⟨gb610, 0, none⟩) (Kd.R_types HO_605000.out BK610.out (by decide)) (fun _ hk => hk.2) (.slice Ao106 t628.length co106)) (fun _ hk => ⟨hk.1.1.1, ⟨hk.1.1.2.1, hk.1.2⟩⟩))⟩, ⟨rU (Kd.R_mono (Kd.R_far (p := ⟨gb610, 0, none⟩) (Kd.R_types HO_606000.out BK610.out (by decide)) (fun _ hk => hk.2) (.slice Ao106 t628.length co106)) (fun _ hk => ⟨hk.1.1.1, ⟨hk.1.1.2.1, hk.1.2⟩⟩))⟩, ⟨rU (Kd.R_mono (Kd.R_far (p := ⟨gb610, 0, none⟩) (Kd.R_types HO630.out BK610.out (by decide)) (fun _ hk => hk.2) (.slice Ao106 t628.length co106)) (fun _ hk => ⟨hk.1.1.1.1.1.1.2, ⟨hk.1.1.1.1.1.2, hk.1.1.1.1.2⟩⟩))⟩, ⟨bF BK595⟩, ⟨bF BK604⟩, ⟨bF BK605⟩, ⟨by (with_reducible repeat (first | refine blk_drewN ?_ _ | refine blk_drew ?_ | refine blk_alloc ?_ _)); refine blk_put (cs := #[.slice Ao104 x611000_1.length co104]) ?_ 0 _ rfl; (with_reducible repeat (first | refine blk_drewN ?_ _ | refine blk_drew ?_ | refine blk_alloc ?_ _)); exact BK610.out⟩, ⟨lU HB⟩⟩
        ·rw [if_neg c30] at H
         exact absurd H (by simp)
       ·rw [if_neg c29] at H
        exact absurd H (by simp)
      ·rw [if_neg c28] at H
       have c28b0 : decide (x37_1 < (t606.length : Int)) = false := decide_eq_false c28
       clear c28
       obtain ⟨y631, hy631⟩ : ∃ y_ : List (S48), y_ = (([(⟨0, 4611686018427387904⟩ : S48)] : List (S48))) := ⟨_, rfl⟩
       replace H : ((ranges_Of.f k1 y631).bind fun t634 => (if a0_2 ≥ 0 then ((ranges_Of.f k1 (([(⟨0, a0_2⟩ : S48)] : List (S48)))).bind fun t641 => (mandolinelaw35_PlanOnce.j2 k1 x8_1 t598 t601 x611000_1 t641)) else (mandolinelaw35_PlanOnce.j2 k1 x8_1 t598 t601 x611000_1 t634))) = some r := by first | (rw [hy631]; with_reducible exact H) | (have H2_ := (Option.bind_some _ _).symm.trans H; rw [hy631]; with_reducible exact H2_) | (have H2_ := (Option.bind_some _ _).symm.trans H; with_reducible exact H2_) | with_reducible exact H | (rw [hy631]; exact H) | exact H
       have Ny631 := Aside0.mk hy631
       clear hy631
       obtain ⟨t634, A112, H⟩ := bO H
       have HC113 := Aside0.mk H
       clear H
       go_upto_if 83 with (first | ((with_reducible refine gate_dst (N := 79) rfl ?_); refine Kd.R_lit k48 _ 48 ?hg (N := 79) ?hd (xs := ([(⟨0, 4611686018427387904⟩ : S48)] : List (S48))) (inner := [.int .i64 0, .int .i64 4611686018427387904]) (ok := fun _ => True) (okp := fun _ => True) ?hr ?hp (fun _ hk => hk) trivial (Below.refl _ _) (Nat.le_refl _) (by simp) ?_; (case hd => rfl); (case hg => rfl); (case hr => first | (go_simp; done) | (go_simp; rfl)); (case hp => exact (Reps.c2 (show Kd.M k48 _ _ _ (⟨0, 4611686018427387904⟩ : S48) [.int .i64 0, .int .i64 4611686018427387904] from (k48_mkM _ _ _ (⟨0, 4611686018427387904⟩ : S48) )) (Reps.none _ _))); intro v632 w114 ho115 hb hg_ hnew_; clear hg_ hnew_; (first | rw [← Ny631.out] at ho115 | (simp only [Int.reduceToNat] at ho115; rw [← Ny631.out] at ho115)); have HO633 := Aside0.mk (Kd.R_lower (Kd.R_new' (Kd.R_new' (Kd.R_new' (Kd.R_new' ho115 (Kd.R_lt (rU HO_35.out))) (Kd.R_lt (rU HO_605000.out))) (Kd.R_lt (rU HO_606000.out))) (Kd.R_lt (rU HO_611000.out))) (below_size (lU HB))); replace HO_35 := rE HO_35 ho115 hb; replace HO_605000 := rE HO_605000 ho115 hb; replace HO_606000 := rE HO_606000 ho115 hb; replace HO_611000 := rE HO_611000 ho115 hb; replace BK595 := sB BK595 hb; replace BK604 := sB BK604 hb; replace BK605 := sB BK605 hb; replace BK610 := sB BK610 hb; replace HB := sL HB hb; clear hb ho115; obtain ⟨Ao116, co116, eo116⟩ := Kd.R_slice HO633.out; subst eo116) | ((with_reducible refine gate_callee (f := 22) rfl ?_); refine gL (some 80) rfl rfl Try.func22 #[.slice Ao116 y631.length co116] rfl ?_; (with_reducible refine (ranges_Of.calls k1 _ _ y631 t634 _ (cU (rC HO633)) (rN HO633) A112.out).mono ?_); rintro e w117 ⟨v635, rfl, ho0, hb⟩; refine ⟨_, rfl, ?_⟩; have HO636 := Aside0.mk (Kd.R_lower (Kd.R_new' (Kd.R_new' (Kd.R_new' (Kd.R_new' (Kd.R_new' ho0 (Kd.R_lt (rU HO_35.out))) (Kd.R_lt (rU HO_605000.out))) (Kd.R_lt (rU HO_606000.out))) (Kd.R_lt (rU HO_611000.out))) (Kd.R_lt (rU HO633.out))) (below_size (lU HB))); replace HO_35 := rE HO_35 ho0 hb; replace HO_605000 := rE HO_605000 ho0 hb; replace HO_606000 := rE HO_606000 ho0 hb; replace HO_611000 := rE HO_611000 ho0 hb; replace HO633 := rE HO633 ho0 hb; replace BK595 := sB BK595 hb; replace BK604 := sB BK604 hb; replace BK605 := sB BK605 hb; replace BK610 := sB BK610 hb; replace HB := sL HB hb; (try clear hb); (try clear hb2); (try clear hk); (try clear hi); (try clear ho0)) | ((with_reducible refine gate_dst (N := 12) rfl ?_); refine bX (N := 12) (cs := #[.slice none 0 0]) (t := 30) ?_; intro gb637 hg w118 hbox hb; have BK637 := Aside0.mk (hbox); have GE637 := sG HB hg; have NB595_637 := sN BK595 hg; have NB637_595 := sM BK595 hg; have NB604_637 := sN BK604 hg; have NB637_604 := sM BK604 hg; have NB605_637 := sN BK605 hg; have NB637_605 := sM BK605 hg; have NB610_637 := sN BK610 hg; have NB637_610 := sM BK610 hg; replace HO_35 := rB HO_35 hb; replace HO_605000 := rB HO_605000 hb; replace HO_606000 := rB HO_606000 hb; replace HO_611000 := rB HO_611000 hb; replace HO633 := rB HO633 hb; replace HO636 := rB HO636 hb; replace BK595 := sB BK595 hb; replace BK604 := sB BK604 hb; replace BK605 := sB BK605 hb; replace BK610 := sB BK610 hb; replace HB := sL HB hb; clear hb hbox hg; obtain ⟨Ao119, co119, eo119⟩ := Kd.R_slice HO636.out; subst eo119; have hnb120 := NB637_595.out; have hnc120 := NB595_637.out; have hnb121 := NB637_604.out; have hnc121 := NB604_637.out; have hnb122 := NB637_605.out; have hnc122 := NB605_637.out; have hnb123 := NB637_610.out; have hnc123 := NB610_637.out; have hcz124_0 := q1 BK637; have hfz124_0 := blk_frozen BK637.out 0; have hnb125 := NB595_604.out; have hnc125 := NB604_595.out; have hnb126 := NB595_605.out; have hnc126 := NB605_595.out; have hnb127 := NB595_610.out; have hnc127 := NB610_595.out; obtain ⟨hcz128_0, hcz128_1, hcz128_2, hcz128_3, hcz128_4, hcz128_5, hcz128_6, hcz128_7, hcz128_8, hcz128_9, hcz128_10, hcz128_11, hcz128_12⟩ := q13 BK595; obtain ⟨hfz128_0, hfz128_1, hfz128_2, hfz128_3, hfz128_4, hfz128_5, hfz128_6, hfz128_7, hfz128_8, hfz128_9, hfz128_10, hfz128_11, hfz128_12⟩ := z13 BK595))
       (try simp only [Act.put, List.setIfInBounds_toArray, List.set_cons_zero, List.set_cons_succ])
       go_cut [] (fun wc => ∃ (kq : Nat) (x638000_112 : List (S48)) (u638000 : Value), Aside0 (mandolinelaw35_PlanOnce.j2 kq x8_1 t598 t601 x611000_1 x638000_112 = some r) ∧ Aside0 (kq ≤ k1) ∧ Aside0 (Kd.R k48 48 wc w.heap.size (fun k_ => some k_ ≠ ((.slice Ao21 t601.length co21) : Value).ownBlock ∧ some k_ ≠ (u611000 : Value).ownBlock ∧ some k_ ≠ (u638000 : Value).ownBlock) (.slice Ao17 t598.length co17) t598) ∧ Aside0 (Kd.R k48 48 wc w.heap.size (fun k_ => some k_ ≠ ((.slice Ao17 t598.length co17) : Value).ownBlock ∧ some k_ ≠ (u611000 : Value).ownBlock ∧ some k_ ≠ (u638000 : Value).ownBlock) (.slice Ao21 t601.length co21) t601) ∧ Aside0 (Kd.R k48 48 wc w.heap.size (fun k_ => some k_ ≠ ((.slice Ao17 t598.length co17) : Value).ownBlock ∧ some k_ ≠ ((.slice Ao21 t601.length co21) : Value).ownBlock ∧ some k_ ≠ (u638000 : Value).ownBlock) u611000 x611000_1) ∧ Aside0 (Kd.R k48 48 wc w.heap.size (fun k_ => some k_ ≠ ((.slice Ao17 t598.length co17) : Value).ownBlock ∧ some k_ ≠ ((.slice Ao21 t601.length co21) : Value).ownBlock ∧ some k_ ≠ (u611000 : Value).ownBlock) u638000 x638000_112) ∧ Aside0 (wc.heap[gb595]? = some (.cells #[(.slice A0_0 l0_0.length c0_0), (.slice A0_1 l0_1.length c0_1), .int .i64 a0_2, .int .i64 a0_3, .int .i64 a0_4, .int .i64 a0_5, .int .i64 a0_6, .int .i64 a0_7, .int .i64 a0_8, .int .i64 a0_9, .int .i64 a0_10, .int .i64 a0_11, .int .i64 a0_12] 26 (0, 0))) ∧ Aside0 (wc.heap[gb604]? = some (.cells #[(.slice Ao17 t598.length co17)] 30 (0, 0))) ∧ Aside0 (wc.heap[gb605]? = some (.cells #[(.slice Ao21 t601.length co21)] 30 (0, 0))) ∧ Aside0 (wc.heap[gb610]? = some (.cells #[u611000] 30 (0, 0))) ∧ Aside0 (wc.heap[gb637]? = some (.cells #[u638000] 30 (0, 0))) ∧ Aside0 (Below w.heap.size w wc))
       case first =>
        have H := HC113.out
        clear HC113
        by_cases c129 : a0_2 ≥ 0
        ·rw [if_pos c129] at H
         have c129b0 : decide (0 ≤ a0_2) = true := decide_eq_true c129
         clear c129
         (first | rw [c129b0] | (simp only [i64_w, i32_w]; rw [c129b0]) | skip)
         obtain ⟨y638, hy638⟩ : ∃ y_ : List (S48), y_ = (([(⟨0, a0_2⟩ : S48)] : List (S48))) := ⟨_, rfl⟩
         replace H : ((ranges_Of.f k1 y638).bind fun t641 => (mandolinelaw35_PlanOnce.j2 k1 x8_1 t598 t601 x611000_1 t641)) = some r := by first | (rw [hy638]; with_reducible exact H) | (have H2_ := (Option.bind_some _ _).symm.trans H; rw [hy638]; with_reducible exact H2_) | (have H2_ := (Option.bind_some _ _).symm.trans H; with_reducible exact H2_) | with_reducible exact H | (rw [hy638]; exact H) | exact H
         have Ny638 := Aside0.mk hy638
         clear hy638
         obtain ⟨t641, A130, H⟩ := bO H
         have H' := Aside0.mk H
         clear H
         have hnb131 := NB595_604.out
         have hnc131 := NB604_595.out
         have hnb132 := NB595_605.out
         have hnc132 := NB605_595.out
         have hnb133 := NB595_610.out
         have hnc133 := NB610_595.out
         have hnb134 := NB595_637.out
         have hnc134 := NB637_595.out
         obtain ⟨hcz135_0, hcz135_1, hcz135_2, hcz135_3, hcz135_4, hcz135_5, hcz135_6, hcz135_7, hcz135_8, hcz135_9, hcz135_10, hcz135_11, hcz135_12⟩ := q13 BK595
         obtain ⟨hfz135_0, hfz135_1, hfz135_2, hfz135_3, hfz135_4, hfz135_5, hfz135_6, hfz135_7, hfz135_8, hfz135_9, hfz135_10, hfz135_11, hfz135_12⟩ := z13 BK595
         go_wp2_with (first | ((with_reducible refine gate_dst (N := 87) rfl ?_); refine Kd.R_lit k48 _ 48 ?hg (N := 87) ?hd (xs := ([(⟨0, a0_2⟩ : S48)] : List (S48))) (inner := [.int .i64 0, .int .i64 a0_2]) (ok := fun _ => True) (okp := fun _ => True) ?hr ?hp (fun _ hk => hk) trivial (Below.refl _ _) (Nat.le_refl _) (by simp) ?_; (case hd => rfl); (case hg => rfl); (case hr => first | (go_simp; done) | (go_simp; rfl)); (case hp => exact (Reps.c2 (show Kd.M k48 _ _ _ (⟨0, a0_2⟩ : S48) [.int .i64 0, .int .i64 a0_2] from (k48_mkM _ _ _ (⟨0, a0_2⟩ : S48) )) (Reps.none _ _))); intro v639 w136 ho137 hb hg_ hnew_; clear hg_ hnew_; (first | rw [← Ny638.out] at ho137 | (simp only [Int.reduceToNat] at ho137; rw [← Ny638.out] at ho137)); have HO640 := Aside0.mk (Kd.R_lower (Kd.R_new' (Kd.R_new' (Kd.R_new' (Kd.R_new' (Kd.R_new' (Kd.R_new' ho137 (Kd.R_lt (rU ((Kd.R_mono (Kd.R_far (p := ⟨gb637, 0, none⟩) (Kd.R_types HO_35.out BK637.out (by decide)) (fun _ hk => hk.2) (.slice Ao119 t634.length co119)) (fun _ h_ => h_.1)))))) (Kd.R_lt (rU ((Kd.R_mono (Kd.R_far (p := ⟨gb637, 0, none⟩) (Kd.R_types HO_605000.out BK637.out (by decide)) (fun _ hk => hk.2) (.slice Ao119 t634.length co119)) (fun _ h_ => h_.1)))))) (Kd.R_lt (rU ((Kd.R_mono (Kd.R_far (p := ⟨gb637, 0, none⟩) (Kd.R_types HO_606000.out BK637.out (by decide)) (fun _ hk => hk.2) (.slice Ao119 t634.length co119)) (fun _ h_ => h_.1)))))) (Kd.R_lt (rU ((Kd.R_mono (Kd.R_far (p := ⟨gb637, 0, none⟩) (Kd.R_types HO_611000.out BK637.out (by decide)) (fun _ hk => hk.2) (.slice Ao119 t634.length co119)) (fun _ h_ => h_.1)))))) (Kd.R_lt (rU ((Kd.R_mono (Kd.R_far (p := ⟨gb637, 0, none⟩) (Kd.R_types HO633.out BK637.out (by decide)) (fun _ hk => hk.2) (.slice Ao119 t634.length co119)) (fun _ h_ => h_.1)))))) (Kd.R_lt (rU ((Kd.R_mono (Kd.R_far (p := ⟨gb637, 0, none⟩) (Kd.R_types HO636.out BK637.out (by decide)) (fun _ hk => hk.2) (.slice Ao119 t634.length co119)) (fun _ h_ => h_.1)))))) (below_size (lU HB))); replace HO_35 := Aside0.mk (Kd.R_elder' (rU ((Kd.R_mono (Kd.R_far (p := ⟨gb637, 0, none⟩) (Kd.R_types HO_35.out BK637.out (by decide)) (fun _ hk => hk.2) (.slice Ao119 t634.length co119)) (fun _ h_ => h_.1)))) (Kd.R_base ho137) hb); replace HO_605000 := Aside0.mk (Kd.R_elder' (rU ((Kd.R_mono (Kd.R_far (p := ⟨gb637, 0, none⟩) (Kd.R_types HO_605000.out BK637.out (by decide)) (fun _ hk => hk.2) (.slice Ao119 t634.length co119)) (fun _ h_ => h_.1)))) (Kd.R_base ho137) hb); replace HO_606000 := Aside0.mk (Kd.R_elder' (rU ((Kd.R_mono (Kd.R_far (p := ⟨gb637, 0, none⟩) (Kd.R_types HO_606000.out BK637.out (by decide)) (fun _ hk => hk.2) (.slice Ao119 t634.length co119)) (fun _ h_ => h_.1)))) (Kd.R_base ho137) hb); replace HO_611000 := Aside0.mk (Kd.R_elder' (rU ((Kd.R_mono (Kd.R_far (p := ⟨gb637, 0, none⟩) (Kd.R_types HO_611000.out BK637.out (by decide)) (fun _ hk => hk.2) (.slice Ao119 t634.length co119)) (fun _ h_ => h_.1)))) (Kd.R_base ho137) hb); replace HO633 := Aside0.mk (Kd.R_elder' (rU ((Kd.R_mono (Kd.R_far (p := ⟨gb637, 0, none⟩) (Kd.R_types HO633.out BK637.out (by decide)) (fun _ hk => hk.2) (.slice Ao119 t634.length co119)) (fun _ h_ => h_.1)))) (Kd.R_base ho137) hb); replace HO636 := Aside0.mk (Kd.R_elder' (rU ((Kd.R_mono (Kd.R_far (p := ⟨gb637, 0, none⟩) (Kd.R_types HO636.out BK637.out (by decide)) (fun _ hk => hk.2) (.slice Ao119 t634.length co119)) (fun _ h_ => h_.1)))) (Kd.R_base ho137) hb); replace BK595 := Aside0.mk (blk_below (g := gb595) (o := .cells #[.slice A0_0 l0_0.length c0_0, .slice A0_1 l0_1.length c0_1, .int .i64 a0_2, .int .i64 a0_3, .int .i64 a0_4, .int .i64 a0_5, .int .i64 a0_6, .int .i64 a0_7, .int .i64 a0_8, .int .i64 a0_9, .int .i64 a0_10, .int .i64 a0_11, .int .i64 a0_12] 26 (0, 0)) (bF BK595) hb); replace BK604 := Aside0.mk (blk_below (g := gb604) (o := .cells #[.slice Ao17 t598.length co17] 30 (0, 0)) (bF BK604) hb); replace BK605 := Aside0.mk (blk_below (g := gb605) (o := .cells #[.slice Ao21 t601.length co21] 30 (0, 0)) (bF BK605) hb); replace BK610 := Aside0.mk (blk_below (g := gb610) (o := .cells #[u611000] 30 (0, 0)) (bF BK610) hb); replace BK637 := Aside0.mk (blk_below (g := gb637) (o := .cells #[.slice Ao119 t634.length co119] 30 (0, 0)) (by (with_reducible repeat (first | refine blk_drewN ?_ _ | refine blk_drew ?_ | refine blk_alloc ?_ _)); refine blk_put (cs := #[.slice none 0 0]) ?_ 0 _ rfl; (with_reducible repeat (first | refine blk_drewN ?_ _ | refine blk_drew ?_ | refine blk_alloc ?_ _)); exact BK637.out) hb); replace HB := sL HB hb; clear hb ho137; obtain ⟨Ao138, co138, eo138⟩ := Kd.R_slice HO640.out; subst eo138) | ((with_reducible refine gate_callee (f := 22) rfl ?_); refine gL (some 88) rfl rfl Try.func22 #[.slice Ao138 y638.length co138] rfl ?_; (with_reducible refine (ranges_Of.calls k1 _ _ y638 t641 _ (cU (rC HO640)) (rN HO640) A130.out).mono ?_); rintro e w139 ⟨v642, rfl, ho0, hb⟩; refine ⟨_, rfl, ?_⟩; have HO643 := Aside0.mk (Kd.R_lower (Kd.R_new' (Kd.R_new' (Kd.R_new' (Kd.R_new' (Kd.R_new' (Kd.R_new' (Kd.R_new' ho0 (Kd.R_lt (rU HO_35.out))) (Kd.R_lt (rU HO_605000.out))) (Kd.R_lt (rU HO_606000.out))) (Kd.R_lt (rU HO_611000.out))) (Kd.R_lt (rU HO633.out))) (Kd.R_lt (rU HO636.out))) (Kd.R_lt (rU HO640.out))) (below_size (lU HB))); replace HO_35 := rE HO_35 ho0 hb; replace HO_605000 := rE HO_605000 ho0 hb; replace HO_606000 := rE HO_606000 ho0 hb; replace HO_611000 := rE HO_611000 ho0 hb; replace HO633 := rE HO633 ho0 hb; replace HO636 := rE HO636 ho0 hb; replace HO640 := rE HO640 ho0 hb; replace BK595 := sB BK595 hb; replace BK604 := sB BK604 hb; replace BK605 := sB BK605 hb; replace BK610 := sB BK610 hb; replace BK637 := sB BK637 hb; replace HB := sL HB hb; (try clear hb); (try clear hb2); (try clear hk); (try clear hi); (try clear ho0); obtain ⟨Ao140, co140, eo140⟩ := Kd.R_slice HO643.out; subst eo140; have hnb141 := NB637_604.out; have hnc141 := NB604_637.out; have hnb142 := NB637_605.out; have hnc142 := NB605_637.out; have hnb143 := NB637_610.out; have hnc143 := NB610_637.out; have hcz144_0 := q1 BK637; have hfz144_0 := blk_frozen BK637.out 0))
         go_meet
         case rel => exact ⟨_, (t641), (.slice Ao140 t641.length co140), H', ⟨by have := HK1.out; first | omega | exact Nat.le_refl _⟩, ⟨rU (Kd.R_mono (Kd.R_far (p := ⟨gb637, 0, none⟩) (Kd.R_types HO_605000.out BK637.out (by decide)) (fun _ hk => hk.2) (.slice Ao140 t641.length co140)) (fun _ hk => ⟨hk.1.1.1.1.1.2.1, ⟨hk.1.1.1.1.1.2.2, hk.1.2⟩⟩))⟩, ⟨rU (Kd.R_mono (Kd.R_far (p := ⟨gb637, 0, none⟩) (Kd.R_types HO_606000.out BK637.out (by decide)) (fun _ hk => hk.2) (.slice Ao140 t641.length co140)) (fun _ hk => ⟨hk.1.1.1.1.1.2.1, ⟨hk.1.1.1.1.1.2.2, hk.1.2⟩⟩))⟩, ⟨rU (Kd.R_mono (Kd.R_far (p := ⟨gb637, 0, none⟩) (Kd.R_types HO_611000.out BK637.out (by decide)) (fun _ hk => hk.2) (.slice Ao140 t641.length co140)) (fun _ hk => ⟨hk.1.1.1.1.1.2.1, ⟨hk.1.1.1.1.1.2.2, hk.1.2⟩⟩))⟩, ⟨rU (Kd.R_mono (Kd.R_far (p := ⟨gb637, 0, none⟩) (Kd.R_types HO643.out BK637.out (by decide)) (fun _ hk => hk.2) (.slice Ao140 t641.length co140)) (fun _ hk => ⟨hk.1.1.1.1.1.1.2, ⟨hk.1.1.1.1.1.2, hk.1.1.1.1.2⟩⟩))⟩, ⟨bF BK595⟩, ⟨bF BK604⟩, ⟨bF BK605⟩, ⟨bF BK610⟩, ⟨by (with_reducible repeat (first | refine blk_drewN ?_ _ | refine blk_drew ?_ | refine blk_alloc ?_ _)); refine blk_put (cs := #[.slice Ao119 t634.length co119]) ?_ 0 _ rfl; (with_reducible repeat (first | refine blk_drewN ?_ _ | refine blk_drew ?_ | refine blk_alloc ?_ _)); exact BK637.out⟩, ⟨lU HB⟩⟩
        ·rw [if_neg c129] at H
         have c129b0 : decide (0 ≤ a0_2) = false := decide_eq_false c129
         clear c129
         (first | rw [c129b0] | (simp only [i64_w, i32_w]; rw [c129b0]) | skip)
         have H' := Aside0.mk H
         clear H
         go_wp2
         go_meet
         case rel => exact ⟨_, (t634), (.slice Ao119 t634.length co119), H', ⟨by have := HK1.out; first | omega | exact Nat.le_refl _⟩, ⟨rU (Kd.R_mono (Kd.R_far (p := ⟨gb637, 0, none⟩) (Kd.R_types HO_605000.out BK637.out (by decide)) (fun _ hk => hk.2) (.slice Ao119 t634.length co119)) (fun _ hk => ⟨hk.1.1.1.2.1, ⟨hk.1.1.1.2.2, hk.1.2⟩⟩))⟩, ⟨rU (Kd.R_mono (Kd.R_far (p := ⟨gb637, 0, none⟩) (Kd.R_types HO_606000.out BK637.out (by decide)) (fun _ hk => hk.2) (.slice Ao119 t634.length co119)) (fun _ hk => ⟨hk.1.1.1.2.1, ⟨hk.1.1.1.2.2, hk.1.2⟩⟩))⟩, ⟨rU (Kd.R_mono (Kd.R_far (p := ⟨gb637, 0, none⟩) (Kd.R_types HO_611000.out BK637.out (by decide)) (fun _ hk => hk.2) (.slice Ao119 t634.length co119)) (fun _ hk => ⟨hk.1.1.1.2.1, ⟨hk.1.1.1.2.2, hk.1.2⟩⟩))⟩, ⟨rU (Kd.R_mono (Kd.R_far (p := ⟨gb637, 0, none⟩) (Kd.R_types HO636.out BK637.out (by decide)) (fun _ hk => hk.2) (.slice Ao119 t634.length co119)) (fun _ hk => ⟨hk.1.1.1.1.2, ⟨hk.1.1.1.2, hk.1.1.2⟩⟩))⟩, ⟨bF BK595⟩, ⟨bF BK604⟩, ⟨bF BK605⟩, ⟨bF BK610⟩, ⟨by (with_reducible repeat (first | refine blk_drewN ?_ _ | refine blk_drew ?_ | refine blk_alloc ?_ _)); refine blk_put (cs := #[.slice none 0 0]) ?_ 0 _ rfl; (with_reducible repeat (first | refine blk_drewN ?_ _ | refine blk_drew ?_ | refine blk_alloc ?_ _)); exact BK637.out⟩, ⟨lU HB⟩⟩
       case rest =>
        clear HC113
        try clear c1
        try clear c2
        try clear p2
        try clear c3
        try clear c5
        try clear p6
        try clear c7
        try clear c8
        try clear c9
        try clear c10
        try clear c11
        try clear c12
        try clear c13
        try clear c14
        try clear c20
        try clear c22
        try clear c23
        try clear c25
        try clear c26
        try clear c27
        try clear c28
        try clear c28b0
        try clear c29
        try clear c30
        try clear c53
        try clear c53b0
        try clear c53b1
        try clear p64
        try clear c71
        try clear c73
        try clear c73b0
        try clear c74
        try clear c75
        try clear c76
        try clear c77
        try clear c78
        try clear c80
        try clear c81
        try clear c82
        try clear c83
        try clear c89
        try clear c90
        try clear c91
        try clear c93
        try clear c94
        try clear c95
        try clear c96
        try clear c97
        try clear c99
        try clear c100
        try clear c101
        try clear c102
        try clear c108
        try clear c109
        try clear c110
        try clear c120
        try clear c121
        try clear c122
        try clear c123
        try clear c125
        try clear c126
        try clear c127
        try clear c129
        try clear c129b0
        try clear c131
        try clear c132
        try clear c133
        try clear c134
        try clear c141
        try clear c142
        try clear c143
        try clear hcz103_0
        try clear hcz107_0
        try clear hcz111_0
        try clear hcz111_1
        try clear hcz124_0
        try clear hcz128_0
        try clear hcz128_1
        try clear hcz128_10
        try clear hcz128_11
        try clear hcz128_12
        try clear hcz128_2
        try clear hcz128_3
        try clear hcz128_4
        try clear hcz128_5
        try clear hcz128_6
        try clear hcz128_7
        try clear hcz128_8
        try clear hcz128_9
        try clear hcz135_0
        try clear hcz135_1
        try clear hcz135_10
        try clear hcz135_11
        try clear hcz135_12
        try clear hcz135_2
        try clear hcz135_3
        try clear hcz135_4
        try clear hcz135_5
        try clear hcz135_6
        try clear hcz135_7
        try clear hcz135_8
        try clear hcz135_9
        try clear hcz144_0
        try clear hcz79_0
        try clear hcz84_0
        try clear hcz88_0
        try clear hcz92_0
        try clear hcz92_1
        try clear hcz98_0
        try clear hfz103_0
        try clear hfz107_0
        try clear hfz111_0
        try clear hfz111_1
        try clear hfz124_0
        try clear hfz128_0
        try clear hfz128_1
        try clear hfz128_10
        try clear hfz128_11
        try clear hfz128_12
        try clear hfz128_2
        try clear hfz128_3
        try clear hfz128_4
        try clear hfz128_5
        try clear hfz128_6
        try clear hfz128_7
        try clear hfz128_8
        try clear hfz128_9
        try clear hfz135_0
        try clear hfz135_1
        try clear hfz135_10
        try clear hfz135_11
        try clear hfz135_12
        try clear hfz135_2
        try clear hfz135_3
        try clear hfz135_4
        try clear hfz135_5
        try clear hfz135_6
        try clear hfz135_7
        try clear hfz135_8
        try clear hfz135_9
        try clear hfz144_0
        try clear hfz79_0
        try clear hfz84_0
        try clear hfz88_0
        try clear hfz92_0
        try clear hfz92_1
        try clear hfz98_0
        try clear p2
        obtain ⟨kq, x638000_112, u638000, HA, HJ112, HO_605000, HO_606000, HO_611000, HO_638000, BK595, BK604, BK605, BK610, BK637, HB⟩ := hcut
        cases kq with
        | zero => exact absurd HA.out (by simp [mandolinelaw35_PlanOnce.j2])
        | succ kj112 =>
         have H := HA.out
         clear HA
         simp only [mandolinelaw35_PlanOnce.j2] at H
         obtain ⟨t644, A145, H⟩ := bO H
         obtain ⟨t647, A146, H⟩ := bO H
         by_cases c147 : t647 = 0
         ·rw [if_pos c147] at H
          have c147b0 : (t647 == 0) = true := beq_iff_eq.mpr c147
          have c147b1 : (t647 != 0) = false := bne_eq_false_iff_eq.mpr c147
          clear c147
          obtain ⟨t648, A148, H⟩ := bO H
          obtain ⟨t651, A149, H⟩ := bO H
          obtain ⟨t654, A150, H⟩ := bO H
          by_cases c151 : t654 = 0
          ·rw [if_pos c151] at H
           have c151b0 : (t654 == 0) = true := beq_iff_eq.mpr c151
           have c151b1 : (t654 != 0) = false := bne_eq_false_iff_eq.mpr c151
           clear c151
           obtain ⟨t655, A152, H⟩ := bO H
           by_cases c153 : t655 = 4611686018427387904
           ·rw [if_pos c153] at H
            have c153b0 : (t655 == 4611686018427387904) = true := beq_iff_eq.mpr c153
            have c153b1 : (t655 != 4611686018427387904) = false := bne_eq_false_iff_eq.mpr c153
            clear c153
            obtain rfl := Option.some.inj H
            try go_wp2
            replace HO_605000 := Aside0.mk (Kd.R_drew HO_605000.out)
            replace HO_606000 := Aside0.mk (Kd.R_drew HO_606000.out)
            replace HO_611000 := Aside0.mk (Kd.R_drew HO_611000.out)
            replace HO_638000 := Aside0.mk (Kd.R_drew HO_638000.out)
            replace BK595 := Aside0.mk (blk_drew BK595.out)
            replace BK604 := Aside0.mk (blk_drew BK604.out)
            replace BK605 := Aside0.mk (blk_drew BK605.out)
            replace BK610 := Aside0.mk (blk_drew BK610.out)
            replace BK637 := Aside0.mk (blk_drew BK637.out)
            replace HB := Aside0.mk (below_drew1 HB.out)
            obtain ⟨Ao155, co155, eo155⟩ := Kd.R_slice HO_611000.out
            (first | subst eo155 | (injection eo155 with f1_ f2_ f3_; have f4_ := f1_.symm; have f5_ := f3_.symm; clear f1_ f2_ f3_; subst f4_; subst f5_))
            refine start_ (n := 26) (S := fun w' => w'.cell? ⟨gb610, 0, none⟩ = some (.slice Ao155 x611000_1.length co155) ∧ w'.cell? ⟨gb605, 0, none⟩ = some (.slice Ao21 t601.length co21) ∧ w'.cell? ⟨gb604, 0, none⟩ = some (.slice Ao17 t598.length co17) ∧ w'.cell? ⟨gb637, 0, none⟩ = some (u638000)) (ds := []) #[false, false, false, false, false, false, false, false, false, false, false, false, false, false, false, false, false, false, false, false, false, false, false, false, false, false] (by kernel_rfl) rfl rfl ⟨(blk_cell BK610.out 0).trans rfl, (blk_cell BK605.out 0).trans rfl, (blk_cell BK604.out 0).trans rfl, (blk_cell BK637.out 0).trans rfl⟩ (fun hHeld => ?_); refine with_tabW mandolinelaw35_PlanOnce.tab24 mandolinelaw35_PlanOnce.bits24 (fun HT_ HW_ => ?_)
            generalize wc.drew = w154 at HO_605000 HO_606000 HO_611000 HO_638000 BK595 BK604 BK605 BK610 BK637 HB hHeld ⊢
            refine tS (i := 0) (N := some 89) (ma 26 1) rfl rfl HT_.out HW_.out hHeld ?_
            refine tS (i := 1) (N := some 90) (ma 26 3) rfl rfl HT_.out HW_.out hHeld ?_
            refine one_ (i := 2) (N := some 91) (ma 26 7) rfl rfl (one_of HT_.out (by kernel_rfl)) (by decide) (fun K hK => ?_)
            refine gO Try.func28 #[.agg #[.slice Ao155 x611000_1.length co155], .agg #[.slice Ao21 t601.length co21]] rfl rfl ?_
            with_reducible refine (ranges_Set_Less.calls kj112 _ _ x611000_1 _ _ t601 t644 _ (cU (rC HO_611000)) (rN HO_611000) (cU (rC HO_606000)) (rN HO_606000) A145.out).mono ?_
            rintro e w156 ⟨v645, rfl, ho0, hb⟩
            refine ⟨_, rfl, ?_⟩
            have HO646 := Aside0.mk (Kd.R_lower (Kd.R_new' (Kd.R_new' (Kd.R_new' (Kd.R_new' ho0 (Kd.R_lt (rU HO_605000.out))) (Kd.R_lt (rU HO_606000.out))) (Kd.R_lt (rU HO_611000.out))) (Kd.R_lt (rU HO_638000.out))) (below_size (lU HB)))
            replace HO_605000 := rE HO_605000 ho0 hb
            replace HO_606000 := rE HO_606000 ho0 hb
            replace HO_611000 := rE HO_611000 ho0 hb
            replace HO_638000 := rE HO_638000 ho0 hb
            replace BK595 := sB BK595 hb
            replace BK604 := sB BK604 hb
            replace BK605 := sB BK605 hb
            replace BK610 := sB BK610 hb
            replace BK637 := sB BK637 hb
            replace HB := sL HB hb
            (try clear hb)
            (try clear hb2)
            (try clear hk)
            (try clear hi)
            (try clear ho0)
            obtain ⟨Ao157, co157, eo157⟩ := Kd.R_slice HO646.out
            (first | subst eo157 | (injection eo157 with f1_ f2_ f3_; have f4_ := f1_.symm; have f5_ := f3_.symm; clear f1_ f2_ f3_; subst f4_; subst f5_))
            refine hK.out _ _ ⟨(blk_cell BK610.out 0).trans rfl, (blk_cell BK605.out 0).trans rfl, (blk_cell BK604.out 0).trans rfl, (blk_cell BK637.out 0).trans rfl⟩ (fun hHeld => ?_)
            clear hK K
            refine nP (some 91) ?_
            refine one_ (i := 3) (N := some 92) (ma 26 15) rfl rfl (one_of HT_.out (by kernel_rfl)) (by decide) (fun K hK => ?_)
            refine gO Try.func26 #[.agg #[.slice Ao157 t644.length co157]] rfl rfl ?_
            with_reducible refine (ranges_Set_Len.calls kj112 _ _ t644 t647 _ (cU (rC HO646)) (rN HO646) A146.out).mono ?_
            rintro e w158 ⟨rfl, hb⟩
            refine ⟨_, rfl, ?_⟩
            replace HO_605000 := rB HO_605000 hb
            replace HO_606000 := rB HO_606000 hb
            replace HO_611000 := rB HO_611000 hb
            replace HO_638000 := rB HO_638000 hb
            replace HO646 := rB HO646 hb
            replace BK595 := sB BK595 hb
            replace BK604 := sB BK604 hb
            replace BK605 := sB BK605 hb
            replace BK610 := sB BK610 hb
            replace BK637 := sB BK637 hb
            replace HB := sL HB hb
            (try clear hb)
            (try clear hb2)
            (try clear hk)
            (try clear hi)
            obtain ⟨Ao159, co159, eo159⟩ := Kd.R_slice HO_638000.out
            (first | subst eo159 | (injection eo159 with f1_ f2_ f3_; have f4_ := f1_.symm; have f5_ := f3_.symm; clear f1_ f2_ f3_; subst f4_; subst f5_))
            refine hK.out _ _ ⟨(blk_cell BK610.out 0).trans rfl, (blk_cell BK605.out 0).trans rfl, (blk_cell BK604.out 0).trans rfl, (blk_cell BK637.out 0).trans rfl⟩ (fun hHeld => ?_)
            clear hK K
            refine nP (some 92) ?_
            refine pS (i := 4) (N := some 93) (ma 26 31) rfl rfl HT_.out ?_
            refine pS (i := 5) (N := some 94) (ma 26 63) rfl rfl HT_.out ?_
            refine tS (i := 6) (N := some 95) (ma 26 127) rfl rfl HT_.out HW_.out hHeld ?_
            refine tS (i := 7) (N := some 96) (ma 26 255) rfl rfl HT_.out HW_.out hHeld ?_
            refine tS (i := 9) (N := some 98) (ma 26 767) rfl rfl HT_.out HW_.out hHeld ?_
            refine one_ (i := 8) (N := some 97) (ma 26 1023) rfl rfl (one_of HT_.out (by kernel_rfl)) (by decide) (fun K hK => ?_)
            refine gO Try.func25 #[.agg #[.slice Ao17 t598.length co17], .agg #[.slice Ao159 x638000_112.length co159]] rfl rfl ?_
            with_reducible refine (ranges_Set_And.calls kj112 _ _ t598 _ _ x638000_112 t648 _ (cU (rC HO_605000)) (rN HO_605000) (cU (rC HO_638000)) (rN HO_638000) A148.out).mono ?_
            rintro e w160 ⟨v649, rfl, ho0, hb⟩
            refine ⟨_, rfl, ?_⟩
            have HO650 := Aside0.mk (Kd.R_lower (Kd.R_new' (Kd.R_new' (Kd.R_new' (Kd.R_new' (Kd.R_new' ho0 (Kd.R_lt (rU HO_605000.out))) (Kd.R_lt (rU HO_606000.out))) (Kd.R_lt (rU HO_611000.out))) (Kd.R_lt (rU HO_638000.out))) (Kd.R_lt (rU HO646.out))) (below_size (lU HB)))
            replace HO_605000 := rE HO_605000 ho0 hb
            replace HO_606000 := rE HO_606000 ho0 hb
            replace HO_611000 := rE HO_611000 ho0 hb
            replace HO_638000 := rE HO_638000 ho0 hb
            replace HO646 := rE HO646 ho0 hb
            replace BK595 := sB BK595 hb
            replace BK604 := sB BK604 hb
            replace BK605 := sB BK605 hb
            replace BK610 := sB BK610 hb
            replace BK637 := sB BK637 hb
            replace HB := sL HB hb
            (try clear hb)
            (try clear hb2)
            (try clear hk)
            (try clear hi)
            (try clear ho0)
            obtain ⟨Ao161, co161, eo161⟩ := Kd.R_slice HO650.out
            (first | subst eo161 | (injection eo161 with f1_ f2_ f3_; have f4_ := f1_.symm; have f5_ := f3_.symm; clear f1_ f2_ f3_; subst f4_; subst f5_))
            refine hK.out _ _ ⟨(blk_cell BK610.out 0).trans rfl, (blk_cell BK605.out 0).trans rfl, (blk_cell BK604.out 0).trans rfl, (blk_cell BK637.out 0).trans rfl⟩ (fun hHeld => ?_)
            clear hK K
            refine nP (some 97) ?_
            refine one_ (i := 10) (N := some 99) (ma 26 2047) rfl rfl (one_of HT_.out (by kernel_rfl)) (by decide) (fun K hK => ?_)
            refine gO Try.func28 #[.agg #[.slice Ao161 t648.length co161], .agg #[.slice Ao155 x611000_1.length co155]] rfl rfl ?_
            with_reducible refine (ranges_Set_Less.calls kj112 _ _ t648 _ _ x611000_1 t651 _ (cU (rC HO650)) (rN HO650) (cU (rC HO_611000)) (rN HO_611000) A149.out).mono ?_
            rintro e w162 ⟨v652, rfl, ho0, hb⟩
            refine ⟨_, rfl, ?_⟩
            have HO653 := Aside0.mk (Kd.R_lower (Kd.R_new' (Kd.R_new' (Kd.R_new' (Kd.R_new' (Kd.R_new' (Kd.R_new' ho0 (Kd.R_lt (rU HO_605000.out))) (Kd.R_lt (rU HO_606000.out))) (Kd.R_lt (rU HO_611000.out))) (Kd.R_lt (rU HO_638000.out))) (Kd.R_lt (rU HO646.out))) (Kd.R_lt (rU HO650.out))) (below_size (lU HB)))
            replace HO_605000 := rE HO_605000 ho0 hb
            replace HO_606000 := rE HO_606000 ho0 hb
            replace HO_611000 := rE HO_611000 ho0 hb
            replace HO_638000 := rE HO_638000 ho0 hb
            replace HO646 := rE HO646 ho0 hb
            replace HO650 := rE HO650 ho0 hb
            replace BK595 := sB BK595 hb
            replace BK604 := sB BK604 hb
            replace BK605 := sB BK605 hb
            replace BK610 := sB BK610 hb
            replace BK637 := sB BK637 hb
            replace HB := sL HB hb
            (try clear hb)
            (try clear hb2)
            (try clear hk)
            (try clear hi)
            (try clear ho0)
            obtain ⟨Ao163, co163, eo163⟩ := Kd.R_slice HO653.out
            (first | subst eo163 | (injection eo163 with f1_ f2_ f3_; have f4_ := f1_.symm; have f5_ := f3_.symm; clear f1_ f2_ f3_; subst f4_; subst f5_))
            refine hK.out _ _ ⟨(blk_cell BK610.out 0).trans rfl, (blk_cell BK605.out 0).trans rfl, (blk_cell BK604.out 0).trans rfl, (blk_cell BK637.out 0).trans rfl⟩ (fun hHeld => ?_)
            clear hK K
            refine nP (some 99) ?_
            refine one_ (i := 11) (N := some 100) (ma 26 4095) rfl rfl (one_of HT_.out (by kernel_rfl)) (by decide) (fun K hK => ?_)
            refine gO Try.func26 #[.agg #[.slice Ao163 t651.length co163]] rfl rfl ?_
            with_reducible refine (ranges_Set_Len.calls kj112 _ _ t651 t654 _ (cU (rC HO653)) (rN HO653) A150.out).mono ?_
            rintro e w164 ⟨rfl, hb⟩
            refine ⟨_, rfl, ?_⟩
            replace HO_605000 := rB HO_605000 hb
            replace HO_606000 := rB HO_606000 hb
            replace HO_611000 := rB HO_611000 hb
            replace HO_638000 := rB HO_638000 hb
            replace HO646 := rB HO646 hb
            replace HO650 := rB HO650 hb
            replace HO653 := rB HO653 hb
            replace BK595 := sB BK595 hb
            replace BK604 := sB BK604 hb
            replace BK605 := sB BK605 hb
            replace BK610 := sB BK610 hb
            replace BK637 := sB BK637 hb
            replace HB := sL HB hb
            (try clear hb)
            (try clear hb2)
            (try clear hk)
            (try clear hi)
            refine hK.out _ _ ⟨(blk_cell BK610.out 0).trans rfl, (blk_cell BK605.out 0).trans rfl, (blk_cell BK604.out 0).trans rfl, (blk_cell BK637.out 0).trans rfl⟩ (fun hHeld => ?_)
            clear hK K
            refine nP (some 100) ?_
            refine pS (i := 12) (N := some 101) (ma 26 8191) rfl rfl HT_.out ?_
            refine pS (i := 13) (N := some 102) (ma 26 16383) rfl rfl HT_.out ?_
            refine pS (i := 14) (N := some 103) (ma 26 32767) rfl rfl HT_.out ?_
            refine tS (i := 15) (N := some 104) (ma 26 65535) rfl rfl HT_.out HW_.out hHeld ?_
            refine one_ (i := 16) (N := some 105) (ma 26 131071) rfl rfl (one_of HT_.out (by kernel_rfl)) (by decide) (fun K hK => ?_)
            refine gO Try.func26 #[.agg #[.slice Ao155 x611000_1.length co155]] rfl rfl ?_
            with_reducible refine (ranges_Set_Len.calls kj112 _ _ x611000_1 t655 _ (cU (rC HO_611000)) (rN HO_611000) A152.out).mono ?_
            rintro e w165 ⟨rfl, hb⟩
            refine ⟨_, rfl, ?_⟩
            replace HO_605000 := rB HO_605000 hb
            replace HO_606000 := rB HO_606000 hb
            replace HO_611000 := rB HO_611000 hb
            replace HO_638000 := rB HO_638000 hb
            replace HO646 := rB HO646 hb
            replace HO650 := rB HO650 hb
            replace HO653 := rB HO653 hb
            replace BK595 := sB BK595 hb
            replace BK604 := sB BK604 hb
            replace BK605 := sB BK605 hb
            replace BK610 := sB BK610 hb
            replace BK637 := sB BK637 hb
            replace HB := sL HB hb
            (try clear hb)
            (try clear hb2)
            (try clear hk)
            (try clear hi)
            refine hK.out _ _ ⟨(blk_cell BK610.out 0).trans rfl, (blk_cell BK605.out 0).trans rfl, (blk_cell BK604.out 0).trans rfl, (blk_cell BK637.out 0).trans rfl⟩ (fun hHeld => ?_)
            clear hK K
            refine nP (some 105) ?_
            refine pS (i := 17) (N := some 106) (ma 26 262143) rfl rfl HT_.out ?_
            refine pS (i := 18) (N := some 107) (ma 26 524287) rfl rfl HT_.out ?_
            refine pU (i := 19) (N := some 108) (ma 26 1048575) rfl rfl HT_.out ?_
            refine pU (i := 20) (N := some 109) (ma 26 2097151) rfl rfl HT_.out ?_
            refine pU (i := 21) (N := some 110) (ma 26 4194303) rfl rfl HT_.out ?_
            refine pU (i := 22) (N := some 111) (ma 26 8388607) rfl rfl HT_.out ?_
            refine pS (i := 23) (N := some 112) (ma 26 16777215) rfl rfl HT_.out ?_
            refine pS (i := 24) (N := some 113) (ma 26 33554431) rfl rfl HT_.out ?_
            refine pS (i := 25) (N := some 2) (ma 26 67108863) rfl rfl HT_.out ?_
            refine done_ (done_of HT_.out (by kernel_rfl)) ?_
            try go_wp2
            go_ret
            exact ⟨eW, lU HB⟩
           ·rw [if_neg c153] at H
            have c153b0 : (t655 == 4611686018427387904) = false := beq_eq_false_iff_ne.mpr c153
            have c153b1 : (t655 != 4611686018427387904) = true := bne_iff_ne.mpr c153
            obtain ⟨t656, A166, H⟩ := bO H
            obtain rfl := Option.some.inj H
            try go_wp2
            replace HO_605000 := Aside0.mk (Kd.R_drew HO_605000.out)
            replace HO_606000 := Aside0.mk (Kd.R_drew HO_606000.out)
            replace HO_611000 := Aside0.mk (Kd.R_drew HO_611000.out)
            replace HO_638000 := Aside0.mk (Kd.R_drew HO_638000.out)
            replace BK595 := Aside0.mk (blk_drew BK595.out)
            replace BK604 := Aside0.mk (blk_drew BK604.out)
            replace BK605 := Aside0.mk (blk_drew BK605.out)
            replace BK610 := Aside0.mk (blk_drew BK610.out)
            replace BK637 := Aside0.mk (blk_drew BK637.out)
            replace HB := Aside0.mk (below_drew1 HB.out)
            obtain ⟨Ao168, co168, eo168⟩ := Kd.R_slice HO_611000.out
            (first | subst eo168 | (injection eo168 with f1_ f2_ f3_; have f4_ := f1_.symm; have f5_ := f3_.symm; clear f1_ f2_ f3_; subst f4_; subst f5_))
            refine start_ (n := 26) (S := fun w' => w'.cell? ⟨gb610, 0, none⟩ = some (.slice Ao168 x611000_1.length co168) ∧ w'.cell? ⟨gb605, 0, none⟩ = some (.slice Ao21 t601.length co21) ∧ w'.cell? ⟨gb604, 0, none⟩ = some (.slice Ao17 t598.length co17) ∧ w'.cell? ⟨gb637, 0, none⟩ = some (u638000)) (ds := []) #[false, false, false, false, false, false, false, false, false, false, false, false, false, false, false, false, false, false, false, false, false, false, false, false, false, false] (by kernel_rfl) rfl rfl ⟨(blk_cell BK610.out 0).trans rfl, (blk_cell BK605.out 0).trans rfl, (blk_cell BK604.out 0).trans rfl, (blk_cell BK637.out 0).trans rfl⟩ (fun hHeld => ?_); refine with_tabW mandolinelaw35_PlanOnce.tab24 mandolinelaw35_PlanOnce.bits24 (fun HT_ HW_ => ?_)
            generalize wc.drew = w167 at HO_605000 HO_606000 HO_611000 HO_638000 BK595 BK604 BK605 BK610 BK637 HB hHeld ⊢
            refine tS (i := 0) (N := some 89) (ma 26 1) rfl rfl HT_.out HW_.out hHeld ?_
            refine tS (i := 1) (N := some 90) (ma 26 3) rfl rfl HT_.out HW_.out hHeld ?_
            refine one_ (i := 2) (N := some 91) (ma 26 7) rfl rfl (one_of HT_.out (by kernel_rfl)) (by decide) (fun K hK => ?_)
            refine gO Try.func28 #[.agg #[.slice Ao168 x611000_1.length co168], .agg #[.slice Ao21 t601.length co21]] rfl rfl ?_
            with_reducible refine (ranges_Set_Less.calls kj112 _ _ x611000_1 _ _ t601 t644 _ (cU (rC HO_611000)) (rN HO_611000) (cU (rC HO_606000)) (rN HO_606000) A145.out).mono ?_
            rintro e w169 ⟨v645, rfl, ho0, hb⟩
            refine ⟨_, rfl, ?_⟩
            have HO646 := Aside0.mk (Kd.R_lower (Kd.R_new' (Kd.R_new' (Kd.R_new' (Kd.R_new' ho0 (Kd.R_lt (rU HO_605000.out))) (Kd.R_lt (rU HO_606000.out))) (Kd.R_lt (rU HO_611000.out))) (Kd.R_lt (rU HO_638000.out))) (below_size (lU HB)))
            replace HO_605000 := rE HO_605000 ho0 hb
            replace HO_606000 := rE HO_606000 ho0 hb
            replace HO_611000 := rE HO_611000 ho0 hb
            replace HO_638000 := rE HO_638000 ho0 hb
            replace BK595 := sB BK595 hb
            replace BK604 := sB BK604 hb
            replace BK605 := sB BK605 hb
            replace BK610 := sB BK610 hb
            replace BK637 := sB BK637 hb
            replace HB := sL HB hb
            (try clear hb)
            (try clear hb2)
            (try clear hk)
            (try clear hi)
            (try clear ho0)
            obtain ⟨Ao170, co170, eo170⟩ := Kd.R_slice HO646.out
            (first | subst eo170 | (injection eo170 with f1_ f2_ f3_; have f4_ := f1_.symm; have f5_ := f3_.symm; clear f1_ f2_ f3_; subst f4_; subst f5_))
            refine hK.out _ _ ⟨(blk_cell BK610.out 0).trans rfl, (blk_cell BK605.out 0).trans rfl, (blk_cell BK604.out 0).trans rfl, (blk_cell BK637.out 0).trans rfl⟩ (fun hHeld => ?_)
            clear hK K
            refine nP (some 91) ?_
            refine one_ (i := 3) (N := some 92) (ma 26 15) rfl rfl (one_of HT_.out (by kernel_rfl)) (by decide) (fun K hK => ?_)
            refine gO Try.func26 #[.agg #[.slice Ao170 t644.length co170]] rfl rfl ?_
            with_reducible refine (ranges_Set_Len.calls kj112 _ _ t644 t647 _ (cU (rC HO646)) (rN HO646) A146.out).mono ?_
            rintro e w171 ⟨rfl, hb⟩
            refine ⟨_, rfl, ?_⟩
            replace HO_605000 := rB HO_605000 hb
            replace HO_606000 := rB HO_606000 hb
            replace HO_611000 := rB HO_611000 hb
            replace HO_638000 := rB HO_638000 hb
            replace HO646 := rB HO646 hb
            replace BK595 := sB BK595 hb
            replace BK604 := sB BK604 hb
            replace BK605 := sB BK605 hb
            replace BK610 := sB BK610 hb
            replace BK637 := sB BK637 hb
            replace HB := sL HB hb
            (try clear hb)
            (try clear hb2)
            (try clear hk)
            (try clear hi)
            obtain ⟨Ao172, co172, eo172⟩ := Kd.R_slice HO_638000.out
            (first | subst eo172 | (injection eo172 with f1_ f2_ f3_; have f4_ := f1_.symm; have f5_ := f3_.symm; clear f1_ f2_ f3_; subst f4_; subst f5_))
            refine hK.out _ _ ⟨(blk_cell BK610.out 0).trans rfl, (blk_cell BK605.out 0).trans rfl, (blk_cell BK604.out 0).trans rfl, (blk_cell BK637.out 0).trans rfl⟩ (fun hHeld => ?_)
            clear hK K
            refine nP (some 92) ?_
            refine pS (i := 4) (N := some 93) (ma 26 31) rfl rfl HT_.out ?_
            refine pS (i := 5) (N := some 94) (ma 26 63) rfl rfl HT_.out ?_
            refine tS (i := 6) (N := some 95) (ma 26 127) rfl rfl HT_.out HW_.out hHeld ?_
            refine tS (i := 7) (N := some 96) (ma 26 255) rfl rfl HT_.out HW_.out hHeld ?_
            refine tS (i := 9) (N := some 98) (ma 26 767) rfl rfl HT_.out HW_.out hHeld ?_
            refine one_ (i := 8) (N := some 97) (ma 26 1023) rfl rfl (one_of HT_.out (by kernel_rfl)) (by decide) (fun K hK => ?_)
            refine gO Try.func25 #[.agg #[.slice Ao17 t598.length co17], .agg #[.slice Ao172 x638000_112.length co172]] rfl rfl ?_
            with_reducible refine (ranges_Set_And.calls kj112 _ _ t598 _ _ x638000_112 t648 _ (cU (rC HO_605000)) (rN HO_605000) (cU (rC HO_638000)) (rN HO_638000) A148.out).mono ?_
            rintro e w173 ⟨v649, rfl, ho0, hb⟩
            refine ⟨_, rfl, ?_⟩
            have HO650 := Aside0.mk (Kd.R_lower (Kd.R_new' (Kd.R_new' (Kd.R_new' (Kd.R_new' (Kd.R_new' ho0 (Kd.R_lt (rU HO_605000.out))) (Kd.R_lt (rU HO_606000.out))) (Kd.R_lt (rU HO_611000.out))) (Kd.R_lt (rU HO_638000.out))) (Kd.R_lt (rU HO646.out))) (below_size (lU HB)))
            replace HO_605000 := rE HO_605000 ho0 hb
            replace HO_606000 := rE HO_606000 ho0 hb
            replace HO_611000 := rE HO_611000 ho0 hb
            replace HO_638000 := rE HO_638000 ho0 hb
            replace HO646 := rE HO646 ho0 hb
            replace BK595 := sB BK595 hb
            replace BK604 := sB BK604 hb
            replace BK605 := sB BK605 hb
            replace BK610 := sB BK610 hb
            replace BK637 := sB BK637 hb
            replace HB := sL HB hb
            (try clear hb)
            (try clear hb2)
            (try clear hk)
            (try clear hi)
            (try clear ho0)
            obtain ⟨Ao174, co174, eo174⟩ := Kd.R_slice HO650.out
            (first | subst eo174 | (injection eo174 with f1_ f2_ f3_; have f4_ := f1_.symm; have f5_ := f3_.symm; clear f1_ f2_ f3_; subst f4_; subst f5_))
            refine hK.out _ _ ⟨(blk_cell BK610.out 0).trans rfl, (blk_cell BK605.out 0).trans rfl, (blk_cell BK604.out 0).trans rfl, (blk_cell BK637.out 0).trans rfl⟩ (fun hHeld => ?_)
            clear hK K
            refine nP (some 97) ?_
            refine one_ (i := 10) (N := some 99) (ma 26 2047) rfl rfl (one_of HT_.out (by kernel_rfl)) (by decide) (fun K hK => ?_)
            refine gO Try.func28 #[.agg #[.slice Ao174 t648.length co174], .agg #[.slice Ao168 x611000_1.length co168]] rfl rfl ?_
            with_reducible refine (ranges_Set_Less.calls kj112 _ _ t648 _ _ x611000_1 t651 _ (cU (rC HO650)) (rN HO650) (cU (rC HO_611000)) (rN HO_611000) A149.out).mono ?_
            rintro e w175 ⟨v652, rfl, ho0, hb⟩
            refine ⟨_, rfl, ?_⟩
            have HO653 := Aside0.mk (Kd.R_lower (Kd.R_new' (Kd.R_new' (Kd.R_new' (Kd.R_new' (Kd.R_new' (Kd.R_new' ho0 (Kd.R_lt (rU HO_605000.out))) (Kd.R_lt (rU HO_606000.out))) (Kd.R_lt (rU HO_611000.out))) (Kd.R_lt (rU HO_638000.out))) (Kd.R_lt (rU HO646.out))) (Kd.R_lt (rU HO650.out))) (below_size (lU HB)))
            replace HO_605000 := rE HO_605000 ho0 hb
            replace HO_606000 := rE HO_606000 ho0 hb
            replace HO_611000 := rE HO_611000 ho0 hb
            replace HO_638000 := rE HO_638000 ho0 hb
            replace HO646 := rE HO646 ho0 hb
            replace HO650 := rE HO650 ho0 hb
            replace BK595 := sB BK595 hb
            replace BK604 := sB BK604 hb
            replace BK605 := sB BK605 hb
            replace BK610 := sB BK610 hb
            replace BK637 := sB BK637 hb
            replace HB := sL HB hb
            (try clear hb)
            (try clear hb2)
            (try clear hk)
            (try clear hi)
            (try clear ho0)
            obtain ⟨Ao176, co176, eo176⟩ := Kd.R_slice HO653.out
            (first | subst eo176 | (injection eo176 with f1_ f2_ f3_; have f4_ := f1_.symm; have f5_ := f3_.symm; clear f1_ f2_ f3_; subst f4_; subst f5_))
            refine hK.out _ _ ⟨(blk_cell BK610.out 0).trans rfl, (blk_cell BK605.out 0).trans rfl, (blk_cell BK604.out 0).trans rfl, (blk_cell BK637.out 0).trans rfl⟩ (fun hHeld => ?_)
            clear hK K
            refine nP (some 99) ?_
            refine one_ (i := 11) (N := some 100) (ma 26 4095) rfl rfl (one_of HT_.out (by kernel_rfl)) (by decide) (fun K hK => ?_)
            refine gO Try.func26 #[.agg #[.slice Ao176 t651.length co176]] rfl rfl ?_
            with_reducible refine (ranges_Set_Len.calls kj112 _ _ t651 t654 _ (cU (rC HO653)) (rN HO653) A150.out).mono ?_
            rintro e w177 ⟨rfl, hb⟩
            refine ⟨_, rfl, ?_⟩
            replace HO_605000 := rB HO_605000 hb
            replace HO_606000 := rB HO_606000 hb
            replace HO_611000 := rB HO_611000 hb
            replace HO_638000 := rB HO_638000 hb
            replace HO646 := rB HO646 hb
            replace HO650 := rB HO650 hb
            replace HO653 := rB HO653 hb
            replace BK595 := sB BK595 hb
            replace BK604 := sB BK604 hb
            replace BK605 := sB BK605 hb
            replace BK610 := sB BK610 hb
            replace BK637 := sB BK637 hb
            replace HB := sL HB hb
            (try clear hb)
            (try clear hb2)
            (try clear hk)
            (try clear hi)
            refine hK.out _ _ ⟨(blk_cell BK610.out 0).trans rfl, (blk_cell BK605.out 0).trans rfl, (blk_cell BK604.out 0).trans rfl, (blk_cell BK637.out 0).trans rfl⟩ (fun hHeld => ?_)
            clear hK K
            refine nP (some 100) ?_
            refine pS (i := 12) (N := some 101) (ma 26 8191) rfl rfl HT_.out ?_
            refine pS (i := 13) (N := some 102) (ma 26 16383) rfl rfl HT_.out ?_
            refine pS (i := 14) (N := some 103) (ma 26 32767) rfl rfl HT_.out ?_
            refine tS (i := 15) (N := some 104) (ma 26 65535) rfl rfl HT_.out HW_.out hHeld ?_
            refine one_ (i := 16) (N := some 105) (ma 26 131071) rfl rfl (one_of HT_.out (by kernel_rfl)) (by decide) (fun K hK => ?_)
            refine gO Try.func26 #[.agg #[.slice Ao168 x611000_1.length co168]] rfl rfl ?_
            with_reducible refine (ranges_Set_Len.calls kj112 _ _ x611000_1 t655 _ (cU (rC HO_611000)) (rN HO_611000) A152.out).mono ?_
            rintro e w178 ⟨rfl, hb⟩
            refine ⟨_, rfl, ?_⟩
            replace HO_605000 := rB HO_605000 hb
            replace HO_606000 := rB HO_606000 hb
            replace HO_611000 := rB HO_611000 hb
            replace HO_638000 := rB HO_638000 hb
            replace HO646 := rB HO646 hb
            replace HO650 := rB HO650 hb
            replace HO653 := rB HO653 hb
            replace BK595 := sB BK595 hb
            replace BK604 := sB BK604 hb
            replace BK605 := sB BK605 hb
            replace BK610 := sB BK610 hb
            replace BK637 := sB BK637 hb
            replace HB := sL HB hb
            (try clear hb)
            (try clear hb2)
            (try clear hk)
            (try clear hi)
            refine hK.out _ _ ⟨(blk_cell BK610.out 0).trans rfl, (blk_cell BK605.out 0).trans rfl, (blk_cell BK604.out 0).trans rfl, (blk_cell BK637.out 0).trans rfl⟩ (fun hHeld => ?_)
            clear hK K
            refine nP (some 105) ?_
            refine pS (i := 17) (N := some 106) (ma 26 262143) rfl rfl HT_.out ?_
            refine pS (i := 18) (N := some 107) (ma 26 524287) rfl rfl HT_.out ?_
            refine pS (i := 21) (N := some 110) (ma 26 2621439) rfl rfl HT_.out ?_
            refine tS (i := 19) (N := some 108) (ma 26 3145727) rfl rfl HT_.out HW_.out hHeld ?_
            refine one_ (i := 20) (N := some 109) (ma 26 4194303) rfl rfl (one_of HT_.out (by kernel_rfl)) (by decide) (fun K hK => ?_)
            refine gO Try.func26 #[.agg #[.slice Ao168 x611000_1.length co168]] rfl rfl ?_
            with_reducible refine (ranges_Set_Len.calls kj112 _ _ x611000_1 t656 _ (cU (rC HO_611000)) (rN HO_611000) A166.out).mono ?_
            rintro e w179 ⟨rfl, hb⟩
            refine ⟨_, rfl, ?_⟩
            replace HO_605000 := rB HO_605000 hb
            replace HO_606000 := rB HO_606000 hb
            replace HO_611000 := rB HO_611000 hb
            replace HO_638000 := rB HO_638000 hb
            replace HO646 := rB HO646 hb
            replace HO650 := rB HO650 hb
            replace HO653 := rB HO653 hb
            replace BK595 := sB BK595 hb
            replace BK604 := sB BK604 hb
            replace BK605 := sB BK605 hb
            replace BK610 := sB BK610 hb
            replace BK637 := sB BK637 hb
            replace HB := sL HB hb
            (try clear hb)
            (try clear hb2)
            (try clear hk)
            (try clear hi)
            refine hK.out _ _ ⟨(blk_cell BK610.out 0).trans rfl, (blk_cell BK605.out 0).trans rfl, (blk_cell BK604.out 0).trans rfl, (blk_cell BK637.out 0).trans rfl⟩ (fun hHeld => ?_)
            clear hK K
            refine nP (some 109) ?_
            refine pS (i := 22) (N := some 111) (ma 26 8388607) rfl rfl HT_.out ?_
            refine pS (i := 23) (N := some 112) (ma 26 16777215) rfl rfl HT_.out ?_
            refine pS (i := 24) (N := some 113) (ma 26 33554431) rfl rfl HT_.out ?_
            refine pS (i := 25) (N := some 2) (ma 26 67108863) rfl rfl HT_.out ?_
            refine done_ (done_of HT_.out (by kernel_rfl)) ?_
            try go_wp2
            go_ret
            exact ⟨eW, lU HB⟩
          ·rw [if_neg c151] at H
           have c151b0 : (t654 == 0) = false := beq_eq_false_iff_ne.mpr c151
           have c151b1 : (t654 != 0) = true := bne_iff_ne.mpr c151
           obtain rfl := Option.some.inj H
           try go_wp2
           replace HO_605000 := Aside0.mk (Kd.R_drew HO_605000.out)
           replace HO_606000 := Aside0.mk (Kd.R_drew HO_606000.out)
           replace HO_611000 := Aside0.mk (Kd.R_drew HO_611000.out)
           replace HO_638000 := Aside0.mk (Kd.R_drew HO_638000.out)
           replace BK595 := Aside0.mk (blk_drew BK595.out)
           replace BK604 := Aside0.mk (blk_drew BK604.out)
           replace BK605 := Aside0.mk (blk_drew BK605.out)
           replace BK610 := Aside0.mk (blk_drew BK610.out)
           replace BK637 := Aside0.mk (blk_drew BK637.out)
           replace HB := Aside0.mk (below_drew1 HB.out)
           obtain ⟨Ao181, co181, eo181⟩ := Kd.R_slice HO_611000.out
           (first | subst eo181 | (injection eo181 with f1_ f2_ f3_; have f4_ := f1_.symm; have f5_ := f3_.symm; clear f1_ f2_ f3_; subst f4_; subst f5_))
           refine start_ (n := 26) (S := fun w' => w'.cell? ⟨gb610, 0, none⟩ = some (.slice Ao181 x611000_1.length co181) ∧ w'.cell? ⟨gb605, 0, none⟩ = some (.slice Ao21 t601.length co21) ∧ w'.cell? ⟨gb604, 0, none⟩ = some (.slice Ao17 t598.length co17) ∧ w'.cell? ⟨gb637, 0, none⟩ = some (u638000)) (ds := []) #[false, false, false, false, false, false, false, false, false, false, false, false, false, false, false, false, false, false, false, false, false, false, false, false, false, false] (by kernel_rfl) rfl rfl ⟨(blk_cell BK610.out 0).trans rfl, (blk_cell BK605.out 0).trans rfl, (blk_cell BK604.out 0).trans rfl, (blk_cell BK637.out 0).trans rfl⟩ (fun hHeld => ?_); refine with_tabW mandolinelaw35_PlanOnce.tab24 mandolinelaw35_PlanOnce.bits24 (fun HT_ HW_ => ?_)
           generalize wc.drew = w180 at HO_605000 HO_606000 HO_611000 HO_638000 BK595 BK604 BK605 BK610 BK637 HB hHeld ⊢
           refine tS (i := 0) (N := some 89) (ma 26 1) rfl rfl HT_.out HW_.out hHeld ?_
           refine tS (i := 1) (N := some 90) (ma 26 3) rfl rfl HT_.out HW_.out hHeld ?_
           refine one_ (i := 2) (N := some 91) (ma 26 7) rfl rfl (one_of HT_.out (by kernel_rfl)) (by decide) (fun K hK => ?_)
           refine gO Try.func28 #[.agg #[.slice Ao181 x611000_1.length co181], .agg #[.slice Ao21 t601.length co21]] rfl rfl ?_
           with_reducible refine (ranges_Set_Less.calls kj112 _ _ x611000_1 _ _ t601 t644 _ (cU (rC HO_611000)) (rN HO_611000) (cU (rC HO_606000)) (rN HO_606000) A145.out).mono ?_
           rintro e w182 ⟨v645, rfl, ho0, hb⟩
           refine ⟨_, rfl, ?_⟩
           have HO646 := Aside0.mk (Kd.R_lower (Kd.R_new' (Kd.R_new' (Kd.R_new' (Kd.R_new' ho0 (Kd.R_lt (rU HO_605000.out))) (Kd.R_lt (rU HO_606000.out))) (Kd.R_lt (rU HO_611000.out))) (Kd.R_lt (rU HO_638000.out))) (below_size (lU HB)))
           replace HO_605000 := rE HO_605000 ho0 hb
           replace HO_606000 := rE HO_606000 ho0 hb
           replace HO_611000 := rE HO_611000 ho0 hb
           replace HO_638000 := rE HO_638000 ho0 hb
           replace BK595 := sB BK595 hb
           replace BK604 := sB BK604 hb
           replace BK605 := sB BK605 hb
           replace BK610 := sB BK610 hb
           replace BK637 := sB BK637 hb
           replace HB := sL HB hb
           (try clear hb)
           (try clear hb2)
           (try clear hk)
           (try clear hi)
           (try clear ho0)
           obtain ⟨Ao183, co183, eo183⟩ := Kd.R_slice HO646.out
           (first | subst eo183 | (injection eo183 with f1_ f2_ f3_; have f4_ := f1_.symm; have f5_ := f3_.symm; clear f1_ f2_ f3_; subst f4_; subst f5_))
           refine hK.out _ _ ⟨(blk_cell BK610.out 0).trans rfl, (blk_cell BK605.out 0).trans rfl, (blk_cell BK604.out 0).trans rfl, (blk_cell BK637.out 0).trans rfl⟩ (fun hHeld => ?_)
           clear hK K
           refine nP (some 91) ?_
           refine one_ (i := 3) (N := some 92) (ma 26 15) rfl rfl (one_of HT_.out (by kernel_rfl)) (by decide) (fun K hK => ?_)
           refine gO Try.func26 #[.agg #[.slice Ao183 t644.length co183]] rfl rfl ?_
           with_reducible refine (ranges_Set_Len.calls kj112 _ _ t644 t647 _ (cU (rC HO646)) (rN HO646) A146.out).mono ?_
           rintro e w184 ⟨rfl, hb⟩
           refine ⟨_, rfl, ?_⟩
           replace HO_605000 := rB HO_605000 hb
           replace HO_606000 := rB HO_606000 hb
           replace HO_611000 := rB HO_611000 hb
           replace HO_638000 := rB HO_638000 hb
           replace HO646 := rB HO646 hb
           replace BK595 := sB BK595 hb
           replace BK604 := sB BK604 hb
           replace BK605 := sB BK605 hb
           replace BK610 := sB BK610 hb
           replace BK637 := sB BK637 hb
           replace HB := sL HB hb
           (try clear hb)
           (try clear hb2)
           (try clear hk)
           (try clear hi)
           obtain ⟨Ao185, co185, eo185⟩ := Kd.R_slice HO_638000.out
           (first | subst eo185 | (injection eo185 with f1_ f2_ f3_; have f4_ := f1_.symm; have f5_ := f3_.symm; clear f1_ f2_ f3_; subst f4_; subst f5_))
           refine hK.out _ _ ⟨(blk_cell BK610.out 0).trans rfl, (blk_cell BK605.out 0).trans rfl, (blk_cell BK604.out 0).trans rfl, (blk_cell BK637.out 0).trans rfl⟩ (fun hHeld => ?_)
           clear hK K
           refine nP (some 92) ?_
           refine pS (i := 4) (N := some 93) (ma 26 31) rfl rfl HT_.out ?_
           refine pS (i := 5) (N := some 94) (ma 26 63) rfl rfl HT_.out ?_
           refine tS (i := 6) (N := some 95) (ma 26 127) rfl rfl HT_.out HW_.out hHeld ?_
           refine tS (i := 7) (N := some 96) (ma 26 255) rfl rfl HT_.out HW_.out hHeld ?_
           refine tS (i := 9) (N := some 98) (ma 26 767) rfl rfl HT_.out HW_.out hHeld ?_
           refine one_ (i := 8) (N := some 97) (ma 26 1023) rfl rfl (one_of HT_.out (by kernel_rfl)) (by decide) (fun K hK => ?_)
           refine gO Try.func25 #[.agg #[.slice Ao17 t598.length co17], .agg #[.slice Ao185 x638000_112.length co185]] rfl rfl ?_
           with_reducible refine (ranges_Set_And.calls kj112 _ _ t598 _ _ x638000_112 t648 _ (cU (rC HO_605000)) (rN HO_605000) (cU (rC HO_638000)) (rN HO_638000) A148.out).mono ?_
           rintro e w186 ⟨v649, rfl, ho0, hb⟩
           refine ⟨_, rfl, ?_⟩
           have HO650 := Aside0.mk (Kd.R_lower (Kd.R_new' (Kd.R_new' (Kd.R_new' (Kd.R_new' (Kd.R_new' ho0 (Kd.R_lt (rU HO_605000.out))) (Kd.R_lt (rU HO_606000.out))) (Kd.R_lt (rU HO_611000.out))) (Kd.R_lt (rU HO_638000.out))) (Kd.R_lt (rU HO646.out))) (below_size (lU HB)))
           replace HO_605000 := rE HO_605000 ho0 hb
           replace HO_606000 := rE HO_606000 ho0 hb
           replace HO_611000 := rE HO_611000 ho0 hb
           replace HO_638000 := rE HO_638000 ho0 hb
           replace HO646 := rE HO646 ho0 hb
           replace BK595 := sB BK595 hb
           replace BK604 := sB BK604 hb
           replace BK605 := sB BK605 hb
           replace BK610 := sB BK610 hb
           replace BK637 := sB BK637 hb
           replace HB := sL HB hb
           (try clear hb)
           (try clear hb2)
           (try clear hk)
           (try clear hi)
           (try clear ho0)
           obtain ⟨Ao187, co187, eo187⟩ := Kd.R_slice HO650.out
           (first | subst eo187 | (injection eo187 with f1_ f2_ f3_; have f4_ := f1_.symm; have f5_ := f3_.symm; clear f1_ f2_ f3_; subst f4_; subst f5_))
           refine hK.out _ _ ⟨(blk_cell BK610.out 0).trans rfl, (blk_cell BK605.out 0).trans rfl, (blk_cell BK604.out 0).trans rfl, (blk_cell BK637.out 0).trans rfl⟩ (fun hHeld => ?_)
           clear hK K
           refine nP (some 97) ?_
           refine one_ (i := 10) (N := some 99) (ma 26 2047) rfl rfl (one_of HT_.out (by kernel_rfl)) (by decide) (fun K hK => ?_)
           refine gO Try.func28 #[.agg #[.slice Ao187 t648.length co187], .agg #[.slice Ao181 x611000_1.length co181]] rfl rfl ?_
           with_reducible refine (ranges_Set_Less.calls kj112 _ _ t648 _ _ x611000_1 t651 _ (cU (rC HO650)) (rN HO650) (cU (rC HO_611000)) (rN HO_611000) A149.out).mono ?_
           rintro e w188 ⟨v652, rfl, ho0, hb⟩
           refine ⟨_, rfl, ?_⟩
           have HO653 := Aside0.mk (Kd.R_lower (Kd.R_new' (Kd.R_new' (Kd.R_new' (Kd.R_new' (Kd.R_new' (Kd.R_new' ho0 (Kd.R_lt (rU HO_605000.out))) (Kd.R_lt (rU HO_606000.out))) (Kd.R_lt (rU HO_611000.out))) (Kd.R_lt (rU HO_638000.out))) (Kd.R_lt (rU HO646.out))) (Kd.R_lt (rU HO650.out))) (below_size (lU HB)))
           replace HO_605000 := rE HO_605000 ho0 hb
           replace HO_606000 := rE HO_606000 ho0 hb
           replace HO_611000 := rE HO_611000 ho0 hb
           replace HO_638000 := rE HO_638000 ho0 hb
           replace HO646 := rE HO646 ho0 hb
           replace HO650 := rE HO650 ho0 hb
           replace BK595 := sB BK595 hb
           replace BK604 := sB BK604 hb
           replace BK605 := sB BK605 hb
           replace BK610 := sB BK610 hb
           replace BK637 := sB BK637 hb
           replace HB := sL HB hb
           (try clear hb)
           (try clear hb2)
           (try clear hk)
           (try clear hi)
           (try clear ho0)
           obtain ⟨Ao189, co189, eo189⟩ := Kd.R_slice HO653.out
           (first | subst eo189 | (injection eo189 with f1_ f2_ f3_; have f4_ := f1_.symm; have f5_ := f3_.symm; clear f1_ f2_ f3_; subst f4_; subst f5_))
           refine hK.out _ _ ⟨(blk_cell BK610.out 0).trans rfl, (blk_cell BK605.out 0).trans rfl, (blk_cell BK604.out 0).trans rfl, (blk_cell BK637.out 0).trans rfl⟩ (fun hHeld => ?_)
           clear hK K
           refine nP (some 99) ?_
           refine one_ (i := 11) (N := some 100) (ma 26 4095) rfl rfl (one_of HT_.out (by kernel_rfl)) (by decide) (fun K hK => ?_)
           refine gO Try.func26 #[.agg #[.slice Ao189 t651.length co189]] rfl rfl ?_
           with_reducible refine (ranges_Set_Len.calls kj112 _ _ t651 t654 _ (cU (rC HO653)) (rN HO653) A150.out).mono ?_
           rintro e w190 ⟨rfl, hb⟩
           refine ⟨_, rfl, ?_⟩
           replace HO_605000 := rB HO_605000 hb
           replace HO_606000 := rB HO_606000 hb
           replace HO_611000 := rB HO_611000 hb
           replace HO_638000 := rB HO_638000 hb
           replace HO646 := rB HO646 hb
           replace HO650 := rB HO650 hb
           replace HO653 := rB HO653 hb
           replace BK595 := sB BK595 hb
           replace BK604 := sB BK604 hb
           replace BK605 := sB BK605 hb
           replace BK610 := sB BK610 hb
           replace BK637 := sB BK637 hb
           replace HB := sL HB hb
           (try clear hb)
           (try clear hb2)
           (try clear hk)
           (try clear hi)
           refine hK.out _ _ ⟨(blk_cell BK610.out 0).trans rfl, (blk_cell BK605.out 0).trans rfl, (blk_cell BK604.out 0).trans rfl, (blk_cell BK637.out 0).trans rfl⟩ (fun hHeld => ?_)
           clear hK K
           refine nP (some 100) ?_
           refine pS (i := 12) (N := some 101) (ma 26 8191) rfl rfl HT_.out ?_
           refine pS (i := 13) (N := some 102) (ma 26 16383) rfl rfl HT_.out ?_
           refine pS (i := 14) (N := some 103) (ma 26 32767) rfl rfl HT_.out ?_
           refine pU (i := 15) (N := some 104) (ma 26 65535) rfl rfl HT_.out ?_
           refine pU (i := 16) (N := some 105) (ma 26 131071) rfl rfl HT_.out ?_
           refine pU (i := 17) (N := some 106) (ma 26 262143) rfl rfl HT_.out ?_
           refine pU (i := 18) (N := some 107) (ma 26 524287) rfl rfl HT_.out ?_
           refine pU (i := 19) (N := some 108) (ma 26 1048575) rfl rfl HT_.out ?_
           refine pU (i := 20) (N := some 109) (ma 26 2097151) rfl rfl HT_.out ?_
           refine pU (i := 21) (N := some 110) (ma 26 4194303) rfl rfl HT_.out ?_
           refine pU (i := 22) (N := some 111) (ma 26 8388607) rfl rfl HT_.out ?_
           refine pU (i := 23) (N := some 112) (ma 26 16777215) rfl rfl HT_.out ?_
           refine pS (i := 24) (N := some 113) (ma 26 33554431) rfl rfl HT_.out ?_
           refine pS (i := 25) (N := some 2) (ma 26 67108863) rfl rfl HT_.out ?_
           refine done_ (done_of HT_.out (by kernel_rfl)) ?_
           try go_wp2
           go_ret
           exact ⟨eW, lU HB⟩
         ·rw [if_neg c147] at H
          have c147b0 : (t647 == 0) = false := beq_eq_false_iff_ne.mpr c147
          have c147b1 : (t647 != 0) = true := bne_iff_ne.mpr c147
          obtain rfl := Option.some.inj H
          try go_wp2
          replace HO_605000 := Aside0.mk (Kd.R_drew HO_605000.out)
          replace HO_606000 := Aside0.mk (Kd.R_drew HO_606000.out)
          replace HO_611000 := Aside0.mk (Kd.R_drew HO_611000.out)
          replace HO_638000 := Aside0.mk (Kd.R_drew HO_638000.out)
          replace BK595 := Aside0.mk (blk_drew BK595.out)
          replace BK604 := Aside0.mk (blk_drew BK604.out)
          replace BK605 := Aside0.mk (blk_drew BK605.out)
          replace BK610 := Aside0.mk (blk_drew BK610.out)
          replace BK637 := Aside0.mk (blk_drew BK637.out)
          replace HB := Aside0.mk (below_drew1 HB.out)
          obtain ⟨Ao192, co192, eo192⟩ := Kd.R_slice HO_611000.out
          (first | subst eo192 | (injection eo192 with f1_ f2_ f3_; have f4_ := f1_.symm; have f5_ := f3_.symm; clear f1_ f2_ f3_; subst f4_; subst f5_))
          refine start_ (n := 26) (S := fun w' => w'.cell? ⟨gb610, 0, none⟩ = some (.slice Ao192 x611000_1.length co192) ∧ w'.cell? ⟨gb605, 0, none⟩ = some (.slice Ao21 t601.length co21)) (ds := []) #[false, false, false, false, false, false, false, false, false, false, false, false, false, false, false, false, false, false, false, false, false, false, false, false, false, false] (by kernel_rfl) rfl rfl ⟨(blk_cell BK610.out 0).trans rfl, (blk_cell BK605.out 0).trans rfl⟩ (fun hHeld => ?_); refine with_tabW mandolinelaw35_PlanOnce.tab24 mandolinelaw35_PlanOnce.bits24 (fun HT_ HW_ => ?_)
          generalize wc.drew = w191 at HO_605000 HO_606000 HO_611000 HO_638000 BK595 BK604 BK605 BK610 BK637 HB hHeld ⊢
          refine tS (i := 0) (N := some 89) (ma 26 1) rfl rfl HT_.out HW_.out hHeld ?_
          refine tS (i := 1) (N := some 90) (ma 26 3) rfl rfl HT_.out HW_.out hHeld ?_
          refine one_ (i := 2) (N := some 91) (ma 26 7) rfl rfl (one_of HT_.out (by kernel_rfl)) (by decide) (fun K hK => ?_)
          refine gO Try.func28 #[.agg #[.slice Ao192 x611000_1.length co192], .agg #[.slice Ao21 t601.length co21]] rfl rfl ?_
          with_reducible refine (ranges_Set_Less.calls kj112 _ _ x611000_1 _ _ t601 t644 _ (cU (rC HO_611000)) (rN HO_611000) (cU (rC HO_606000)) (rN HO_606000) A145.out).mono ?_
          rintro e w193 ⟨v645, rfl, ho0, hb⟩
          refine ⟨_, rfl, ?_⟩
          have HO646 := Aside0.mk (Kd.R_lower (Kd.R_new' (Kd.R_new' (Kd.R_new' (Kd.R_new' ho0 (Kd.R_lt (rU HO_605000.out))) (Kd.R_lt (rU HO_606000.out))) (Kd.R_lt (rU HO_611000.out))) (Kd.R_lt (rU HO_638000.out))) (below_size (lU HB)))
          replace HO_605000 := rE HO_605000 ho0 hb
          replace HO_606000 := rE HO_606000 ho0 hb
          replace HO_611000 := rE HO_611000 ho0 hb
          replace HO_638000 := rE HO_638000 ho0 hb
          replace BK595 := sB BK595 hb
          replace BK604 := sB BK604 hb
          replace BK605 := sB BK605 hb
          replace BK610 := sB BK610 hb
          replace BK637 := sB BK637 hb
          replace HB := sL HB hb
          (try clear hb)
          (try clear hb2)
          (try clear hk)
          (try clear hi)
          (try clear ho0)
          obtain ⟨Ao194, co194, eo194⟩ := Kd.R_slice HO646.out
          (first | subst eo194 | (injection eo194 with f1_ f2_ f3_; have f4_ := f1_.symm; have f5_ := f3_.symm; clear f1_ f2_ f3_; subst f4_; subst f5_))
          refine hK.out _ _ ⟨(blk_cell BK610.out 0).trans rfl, (blk_cell BK605.out 0).trans rfl⟩ (fun hHeld => ?_)
          clear hK K
          refine nP (some 91) ?_
          refine one_ (i := 3) (N := some 92) (ma 26 15) rfl rfl (one_of HT_.out (by kernel_rfl)) (by decide) (fun K hK => ?_)
          refine gO Try.func26 #[.agg #[.slice Ao194 t644.length co194]] rfl rfl ?_
          with_reducible refine (ranges_Set_Len.calls kj112 _ _ t644 t647 _ (cU (rC HO646)) (rN HO646) A146.out).mono ?_
          rintro e w195 ⟨rfl, hb⟩
          refine ⟨_, rfl, ?_⟩
          replace HO_605000 := rB HO_605000 hb
          replace HO_606000 := rB HO_606000 hb
          replace HO_611000 := rB HO_611000 hb
          replace HO_638000 := rB HO_638000 hb
          replace HO646 := rB HO646 hb
          replace BK595 := sB BK595 hb
          replace BK604 := sB BK604 hb
          replace BK605 := sB BK605 hb
          replace BK610 := sB BK610 hb
          replace BK637 := sB BK637 hb
          replace HB := sL HB hb
          (try clear hb)
          (try clear hb2)
          (try clear hk)
          (try clear hi)
          refine hK.out _ _ ⟨(blk_cell BK610.out 0).trans rfl, (blk_cell BK605.out 0).trans rfl⟩ (fun hHeld => ?_)
          clear hK K
          refine nP (some 92) ?_
          refine pS (i := 4) (N := some 93) (ma 26 31) rfl rfl HT_.out ?_
          refine pS (i := 5) (N := some 94) (ma 26 63) rfl rfl HT_.out ?_
          refine pU (i := 6) (N := some 95) (ma 26 127) rfl rfl HT_.out ?_
          refine pU (i := 7) (N := some 96) (ma 26 255) rfl rfl HT_.out ?_
          refine pU (i := 8) (N := some 97) (ma 26 511) rfl rfl HT_.out ?_
          refine pU (i := 9) (N := some 98) (ma 26 1023) rfl rfl HT_.out ?_
          refine pU (i := 10) (N := some 99) (ma 26 2047) rfl rfl HT_.out ?_
          refine pU (i := 11) (N := some 100) (ma 26 4095) rfl rfl HT_.out ?_
          refine pU (i := 12) (N := some 101) (ma 26 8191) rfl rfl HT_.out ?_
          refine pS (i := 13) (N := some 102) (ma 26 16383) rfl rfl HT_.out ?_
          refine pS (i := 14) (N := some 103) (ma 26 32767) rfl rfl HT_.out ?_
          refine pU (i := 15) (N := some 104) (ma 26 65535) rfl rfl HT_.out ?_
          refine pU (i := 16) (N := some 105) (ma 26 131071) rfl rfl HT_.out ?_
          refine pU (i := 17) (N := some 106) (ma 26 262143) rfl rfl HT_.out ?_
          refine pU (i := 18) (N := some 107) (ma 26 524287) rfl rfl HT_.out ?_
          refine pU (i := 19) (N := some 108) (ma 26 1048575) rfl rfl HT_.out ?_
          refine pU (i := 20) (N := some 109) (ma 26 2097151) rfl rfl HT_.out ?_
          refine pU (i := 21) (N := some 110) (ma 26 4194303) rfl rfl HT_.out ?_
          refine pU (i := 22) (N := some 111) (ma 26 8388607) rfl rfl HT_.out ?_
          refine pU (i := 23) (N := some 112) (ma 26 16777215) rfl rfl HT_.out ?_
          refine pS (i := 24) (N := some 113) (ma 26 33554431) rfl rfl HT_.out ?_
          refine pS (i := 25) (N := some 2) (ma 26 67108863) rfl rfl HT_.out ?_
          refine done_ (done_of HT_.out (by kernel_rfl)) ?_
          try go_wp2
          go_ret
          exact ⟨eW, lU HB⟩
   ·rw [if_neg c8] at H
    have c8b0 : (t609 == 0) = false := beq_eq_false_iff_ne.mpr c8
    have c8b1 : (t609 != 0) = true := bne_iff_ne.mpr c8
    obtain rfl := Option.some.inj H
    go_enter Try.func7, Try.ntmps7
    go_wp2_with (first | ((with_reducible refine gate_dst (N := 1) rfl ?_); refine bX (N := 1) (cs := #[.slice A0_0 l0_0.length c0_0, .slice A0_1 l0_1.length c0_1, .int .i64 a0_2, .int .i64 a0_3, .int .i64 a0_4, .int .i64 a0_5, .int .i64 a0_6, .int .i64 a0_7, .int .i64 a0_8, .int .i64 a0_9, .int .i64 a0_10, .int .i64 a0_11, .int .i64 a0_12]) (t := 26) ?_; intro gb595 hg w196 hbox hb; have BK595 := Aside0.mk (hbox); have GE595 := sG HB hg; replace HB := sL HB hb; clear hb hbox hg) | ((with_reducible refine gate_callee (f := 10) rfl ?_); refine gL (some 13) rfl rfl Try.func10 #[] rfl ?_; (with_reducible refine (mandolinelaw35_alive.calls k  true _ A2.out).mono ?_); rintro e w197 ⟨rfl, hb⟩; refine ⟨_, rfl, ?_⟩; replace BK595 := sB BK595 hb; replace HB := sL HB hb; (try clear hb); (try clear hb2); (try clear hk); (try clear hi); obtain ⟨hcz198_0, hcz198_1, hcz198_2, hcz198_3, hcz198_4, hcz198_5, hcz198_6, hcz198_7, hcz198_8, hcz198_9, hcz198_10, hcz198_11, hcz198_12⟩ := q13 BK595; obtain ⟨hfz198_0, hfz198_1, hfz198_2, hfz198_3, hfz198_4, hfz198_5, hfz198_6, hfz198_7, hfz198_8, hfz198_9, hfz198_10, hfz198_11, hfz198_12⟩ := z13 BK595) | ((with_reducible refine gate_callee (f := 11) rfl ?_); refine gL (some 16) rfl rfl Try.func11 #[.agg #[.slice A0_0 l0_0.length c0_0, .slice A0_1 l0_1.length c0_1, .int .i64 a0_2, .int .i64 a0_3, .int .i64 a0_4, .int .i64 a0_5, .int .i64 a0_6, .int .i64 a0_7, .int .i64 a0_8, .int .i64 a0_9, .int .i64 a0_10, .int .i64 a0_11, .int .i64 a0_12], .int .i64 100] rfl ?_; (with_reducible refine (mandolinelaw35_fine.calls k _ _ l0_0 _ _ l0_1 a0_2 a0_3 a0_4 a0_5 a0_6 a0_7 a0_8 a0_9 a0_10 a0_11 a0_12 100 true _ (cU (Kd.C_below HR0_0.out HB.out)) HC0_0.out (cU (Kd.C_below HR0_1.out HB.out)) HC0_1.out A4.out).mono ?_); rintro e w199 ⟨rfl, hb⟩; refine ⟨_, rfl, ?_⟩; replace BK595 := sB BK595 hb; replace HB := sL HB hb; (try clear hb); (try clear hb2); (try clear hk); (try clear hi); obtain ⟨hcz200_0, hcz200_1, hcz200_2, hcz200_3, hcz200_4, hcz200_5, hcz200_6, hcz200_7, hcz200_8, hcz200_9, hcz200_10, hcz200_11, hcz200_12⟩ := q13 BK595; obtain ⟨hfz200_0, hfz200_1, hfz200_2, hfz200_3, hfz200_4, hfz200_5, hfz200_6, hfz200_7, hfz200_8, hfz200_9, hfz200_10, hfz200_11, hfz200_12⟩ := z13 BK595) | ((with_reducible refine gate_callee (f := 12) rfl ?_); refine gL (some 20) rfl rfl Try.func12 #[.agg #[.slice A0_0 l0_0.length c0_0, .slice A0_1 l0_1.length c0_1, .int .i64 a0_2, .int .i64 a0_3, .int .i64 a0_4, .int .i64 a0_5, .int .i64 a0_6, .int .i64 a0_7, .int .i64 a0_8, .int .i64 a0_9, .int .i64 a0_10, .int .i64 a0_11, .int .i64 a0_12]] rfl ?_; (with_reducible refine (mandolinelaw35_sets.calls k _ _ l0_0 _ _ l0_1 a0_2 a0_3 a0_4 a0_5 a0_6 a0_7 a0_8 a0_9 a0_10 a0_11 a0_12 t598 t601 _ (cU (Kd.C_below HR0_0.out HB.out)) HC0_0.out (cU (Kd.C_below HR0_1.out HB.out)) HC0_1.out A6.out).mono ?_); rintro e w201 ⟨v599, v602, rfl, ho0, ho1, hb⟩; refine ⟨_, rfl, ?_⟩; have HO600 := Aside0.mk (Kd.R_lower ho0 (below_size (lU HB))); have HO603 := Aside0.mk (Kd.R_lower ho1 (below_size (lU HB))); replace BK595 := sB BK595 hb; replace HB := sL HB hb; (try clear hb); (try clear hb2); (try clear hk); (try clear hi); (try clear ho0); (try clear ho1)) | ((with_reducible refine gate_dst (N := 3) rfl ?_); refine bX (N := 3) (cs := #[.slice none 0 0]) (t := 30) ?_; intro gb604 hg w202 hbox hb; have BK604 := Aside0.mk (hbox); have GE604 := sG HB hg; have NB595_604 := sN BK595 hg; have NB604_595 := sM BK595 hg; replace HO600 := rB HO600 hb; replace HO603 := rB HO603 hb; replace BK595 := sB BK595 hb; replace HB := sL HB hb; clear hb hbox hg) | ((with_reducible refine gate_dst (N := 4) rfl ?_); refine bX (N := 4) (cs := #[.slice none 0 0]) (t := 30) ?_; intro gb605 hg w203 hbox hb; have BK605 := Aside0.mk (hbox); have GE605 := sG HB hg; have NB595_605 := sN BK595 hg; have NB605_595 := sM BK595 hg; have NB604_605 := sN BK604 hg; have NB605_604 := sM BK604 hg; replace HO600 := rB HO600 hb; replace HO603 := rB HO603 hb; replace BK595 := sB BK595 hb; replace BK604 := sB BK604 hb; replace HB := sL HB hb; clear hb hbox hg; obtain ⟨Ao204, co204, eo204⟩ := Kd.R_slice HO600.out; subst eo204; have hnb205 := NB604_595.out; have hnc205 := NB595_604.out; have hnb206 := NB604_605.out; have hnc206 := NB605_604.out; have hcz207_0 := q1 BK604; have hfz207_0 := blk_frozen BK604.out 0; obtain ⟨Ao208, co208, eo208⟩ := Kd.R_slice HO603.out; subst eo208; have hnb209 := NB605_595.out; have hnc209 := NB595_605.out; have hcz210_0 := q1 BK605; have hfz210_0 := blk_frozen BK605.out 0; obtain ⟨hcz211_0, hcz211_1, hcz211_2, hcz211_3, hcz211_4, hcz211_5, hcz211_6, hcz211_7, hcz211_8, hcz211_9, hcz211_10, hcz211_11, hcz211_12⟩ := q13 BK595; obtain ⟨hfz211_0, hfz211_1, hfz211_2, hfz211_3, hfz211_4, hfz211_5, hfz211_6, hfz211_7, hfz211_8, hfz211_9, hfz211_10, hfz211_11, hfz211_12⟩ := z13 BK595) | ((with_reducible refine gate_callee (f := 13) rfl ?_); refine gL (some 30) rfl rfl Try.func13 #[.agg #[.slice Ao204 t598.length co204], .agg #[.slice Ao208 t601.length co208], .int .i64 a0_2, .agg #[.int .i64 a0_3, .int .i64 a0_4, .int .i64 a0_5, .int .i64 a0_6, .int .i64 a0_7, .int .i64 a0_8, .int .i64 a0_9, .int .i64 a0_10, .int .i64 a0_11, .int .i64 a0_12]] rfl ?_; (with_reducible refine (plan_Plan.calls k _ _ t598 _ _ t601 a0_2 a0_3 a0_4 a0_5 a0_6 a0_7 a0_8 a0_9 a0_10 a0_11 a0_12 t606 t609 _ ?side1 ?side2 ?side3 ?side4 A7.out).mono ?_); (case side1 => refine (Kd.R_reads' (e := 48) (base := w.heap.size) (ok := fun k_ => some k_ ≠ (.slice Ao208 t601.length co208 : Value).ownBlock) (n := t598.length) (c := co204) ?_).2.2; exact (rU ((Kd.R_mono (Kd.R_mono (Kd.R_far (p := ⟨gb605, 0, none⟩) (Kd.R_far (p := ⟨gb604, 0, none⟩) (Kd.R_types (Kd.R_types HO600.out BK604.out (by decide)) BK605.out (by decide)) (fun _ hk => hk.1.2) (.slice Ao204 t598.length co204)) (fun _ hk => hk.2) (.slice Ao208 t601.length co208)) (fun _ h_ => h_.1)) (fun _ h_ => h_.1))))); (case side2 => exact (rN HO600)); (case side3 => refine (Kd.R_reads' (e := 48) (base := w.heap.size) (ok := fun k_ => some k_ ≠ (.slice Ao204 t598.length co204 : Value).ownBlock) (n := t601.length) (c := co208) ?_).2.2; exact (rU ((Kd.R_mono (Kd.R_mono (Kd.R_far (p := ⟨gb605, 0, none⟩) (Kd.R_far (p := ⟨gb604, 0, none⟩) (Kd.R_types (Kd.R_types HO603.out BK604.out (by decide)) BK605.out (by decide)) (fun _ hk => hk.1.2) (.slice Ao204 t598.length co204)) (fun _ hk => hk.2) (.slice Ao208 t601.length co208)) (fun _ h_ => h_.1)) (fun _ h_ => h_.1))))); (case side4 => exact (rN HO603)); rintro e w212 ⟨v607, rfl, ho0, hb⟩; refine ⟨_, rfl, ?_⟩; have HO608 := Aside0.mk (Kd.R_lower (Kd.R_new' (Kd.R_new' ho0 (Kd.R_lt (rU ((Kd.R_mono (Kd.R_mono (Kd.R_far (p := ⟨gb605, 0, none⟩) (Kd.R_far (p := ⟨gb604, 0, none⟩) (Kd.R_types (Kd.R_types HO600.out BK604.out (by decide)) BK605.out (by decide)) (fun _ hk => hk.1.2) (.slice Ao204 t598.length co204)) (fun _ hk => hk.2) (.slice Ao208 t601.length co208)) (fun _ h_ => h_.1)) (fun _ h_ => h_.1)))))) (Kd.R_lt (rU ((Kd.R_mono (Kd.R_mono (Kd.R_far (p := ⟨gb605, 0, none⟩) (Kd.R_far (p := ⟨gb604, 0, none⟩) (Kd.R_types (Kd.R_types HO603.out BK604.out (by decide)) BK605.out (by decide)) (fun _ hk => hk.1.2) (.slice Ao204 t598.length co204)) (fun _ hk => hk.2) (.slice Ao208 t601.length co208)) (fun _ h_ => h_.1)) (fun _ h_ => h_.1)))))) (below_size (lU HB))); replace HO600 := Aside0.mk (Kd.R_elder' (rU ((Kd.R_mono (Kd.R_mono (Kd.R_far (p := ⟨gb605, 0, none⟩) (Kd.R_far (p := ⟨gb604, 0, none⟩) (Kd.R_types (Kd.R_types HO600.out BK604.out (by decide)) BK605.out (by decide)) (fun _ hk => hk.1.2) (.slice Ao204 t598.length co204)) (fun _ hk => hk.2) (.slice Ao208 t601.length co208)) (fun _ h_ => h_.1)) (fun _ h_ => h_.1)))) (Kd.R_base ho0) hb); replace HO603 := Aside0.mk (Kd.R_elder' (rU ((Kd.R_mono (Kd.R_mono (Kd.R_far (p := ⟨gb605, 0, none⟩) (Kd.R_far (p := ⟨gb604, 0, none⟩) (Kd.R_types (Kd.R_types HO603.out BK604.out (by decide)) BK605.out (by decide)) (fun _ hk => hk.1.2) (.slice Ao204 t598.length co204)) (fun _ hk => hk.2) (.slice Ao208 t601.length co208)) (fun _ h_ => h_.1)) (fun _ h_ => h_.1)))) (Kd.R_base ho0) hb); replace BK595 := Aside0.mk (blk_below (g := gb595) (o := .cells #[.slice A0_0 l0_0.length c0_0, .slice A0_1 l0_1.length c0_1, .int .i64 a0_2, .int .i64 a0_3, .int .i64 a0_4, .int .i64 a0_5, .int .i64 a0_6, .int .i64 a0_7, .int .i64 a0_8, .int .i64 a0_9, .int .i64 a0_10, .int .i64 a0_11, .int .i64 a0_12] 26 (0, 0)) (bF BK595) hb); replace BK604 := Aside0.mk (blk_below (g := gb604) (o := .cells #[.slice Ao204 t598.length co204] 30 (0, 0)) (by (with_reducible repeat (first | refine blk_drewN ?_ _ | refine blk_drew ?_ | refine blk_alloc ?_ _)); refine blk_far ?_ NB604_605.out _; (with_reducible repeat (first | refine blk_drewN ?_ _ | refine blk_drew ?_ | refine blk_alloc ?_ _)); refine blk_put (cs := #[.slice none 0 0]) ?_ 0 _ rfl; (with_reducible repeat (first | refine blk_drewN ?_ _ | refine blk_drew ?_ | refine blk_alloc ?_ _)); exact BK604.out) hb); replace BK605 := Aside0.mk (blk_below (g := gb605) (o := .cells #[.slice Ao208 t601.length co208] 30 (0, 0)) (by (with_reducible repeat (first | refine blk_drewN ?_ _ | refine blk_drew ?_ | refine blk_alloc ?_ _)); refine blk_put (cs := #[.slice none 0 0]) ?_ 0 _ rfl; (with_reducible repeat (first | refine blk_drewN ?_ _ | refine blk_drew ?_ | refine blk_alloc ?_ _)); refine blk_far ?_ NB605_604.out _; (with_reducible repeat (first | refine blk_drewN ?_ _ | refine blk_drew ?_ | refine blk_alloc ?_ _)); exact BK605.out) hb); replace HB := sL HB hb; (try clear hb); (try clear hb2); (try clear hk); (try clear hi); (try clear ho0)))
    go_ret
    exact ⟨eW, lU HB⟩
  ·replace c5 := Bool.eq_false_iff.mpr c5
   subst c5
   rw [if_neg (show ¬ (false = true) by decide)] at H
   obtain rfl := Option.some.inj H
   go_enter Try.func7, Try.ntmps7
   go_wp2_with (first | ((with_reducible refine gate_dst (N := 1) rfl ?_); refine bX (N := 1) (cs := #[.slice A0_0 l0_0.length c0_0, .slice A0_1 l0_1.length c0_1, .int .i64 a0_2, .int .i64 a0_3, .int .i64 a0_4, .int .i64 a0_5, .int .i64 a0_6, .int .i64 a0_7, .int .i64 a0_8, .int .i64 a0_9, .int .i64 a0_10, .int .i64 a0_11, .int .i64 a0_12]) (t := 26) ?_; intro gb595 hg w213 hbox hb; have BK595 := Aside0.mk (hbox); have GE595 := sG HB hg; replace HB := sL HB hb; clear hb hbox hg) | ((with_reducible refine gate_callee (f := 10) rfl ?_); refine gL (some 13) rfl rfl Try.func10 #[] rfl ?_; (with_reducible refine (mandolinelaw35_alive.calls k  true _ A2.out).mono ?_); rintro e w214 ⟨rfl, hb⟩; refine ⟨_, rfl, ?_⟩; replace BK595 := sB BK595 hb; replace HB := sL HB hb; (try clear hb); (try clear hb2); (try clear hk); (try clear hi); obtain ⟨hcz215_0, hcz215_1, hcz215_2, hcz215_3, hcz215_4, hcz215_5, hcz215_6, hcz215_7, hcz215_8, hcz215_9, hcz215_10, hcz215_11, hcz215_12⟩ := q13 BK595; obtain ⟨hfz215_0, hfz215_1, hfz215_2, hfz215_3, hfz215_4, hfz215_5, hfz215_6, hfz215_7, hfz215_8, hfz215_9, hfz215_10, hfz215_11, hfz215_12⟩ := z13 BK595) | ((with_reducible refine gate_callee (f := 11) rfl ?_); refine gL (some 16) rfl rfl Try.func11 #[.agg #[.slice A0_0 l0_0.length c0_0, .slice A0_1 l0_1.length c0_1, .int .i64 a0_2, .int .i64 a0_3, .int .i64 a0_4, .int .i64 a0_5, .int .i64 a0_6, .int .i64 a0_7, .int .i64 a0_8, .int .i64 a0_9, .int .i64 a0_10, .int .i64 a0_11, .int .i64 a0_12], .int .i64 100] rfl ?_; (with_reducible refine (mandolinelaw35_fine.calls k _ _ l0_0 _ _ l0_1 a0_2 a0_3 a0_4 a0_5 a0_6 a0_7 a0_8 a0_9 a0_10 a0_11 a0_12 100 false _ (cU (Kd.C_below HR0_0.out HB.out)) HC0_0.out (cU (Kd.C_below HR0_1.out HB.out)) HC0_1.out A4.out).mono ?_); rintro e w216 ⟨rfl, hb⟩; refine ⟨_, rfl, ?_⟩; replace BK595 := sB BK595 hb; replace HB := sL HB hb; (try clear hb); (try clear hb2); (try clear hk); (try clear hi)))
   go_ret
   exact ⟨eW, lU HB⟩
 ·replace c3 := Bool.eq_false_iff.mpr c3
  subst c3
  rw [if_neg (show ¬ (false = true) by decide)] at H
  obtain rfl := Option.some.inj H
  go_enter Try.func7, Try.ntmps7
  go_wp2_with (first | ((with_reducible refine gate_dst (N := 1) rfl ?_); refine bX (N := 1) (cs := #[.slice A0_0 l0_0.length c0_0, .slice A0_1 l0_1.length c0_1, .int .i64 a0_2, .int .i64 a0_3, .int .i64 a0_4, .int .i64 a0_5, .int .i64 a0_6, .int .i64 a0_7, .int .i64 a0_8, .int .i64 a0_9, .int .i64 a0_10, .int .i64 a0_11, .int .i64 a0_12]) (t := 26) ?_; intro gb595 hg w217 hbox hb; have BK595 := Aside0.mk (hbox); have GE595 := sG HB hg; replace HB := sL HB hb; clear hb hbox hg) | ((with_reducible refine gate_callee (f := 10) rfl ?_); refine gL (some 13) rfl rfl Try.func10 #[] rfl ?_; (with_reducible refine (mandolinelaw35_alive.calls k  false _ A2.out).mono ?_); rintro e w218 ⟨rfl, hb⟩; refine ⟨_, rfl, ?_⟩; replace BK595 := sB BK595 hb; replace HB := sL HB hb; (try clear hb); (try clear hb2); (try clear hk); (try clear hi)))
  go_ret
  exact ⟨eW, lU HB⟩
end Go.Proofs.Ytnaalaakhdbfbaa.XP
