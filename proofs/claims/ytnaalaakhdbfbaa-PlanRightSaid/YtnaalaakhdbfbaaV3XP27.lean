-- Go functions as plain functions, and that the code comes to these answers (printed by a program).
import Derived.Test.YtnaalaakhdbfbaaV3XP0
import Derived.Test.YtnaalaakhdbfbaaV3XP2
import Derived.Test.YtnaalaakhdbfbaaV3XP9
namespace Go.Proofs.Ytnaalaakhdbfbaa.XP
open Go.RowKit Go.Proofs.YtnaalaakhdbfbaaW.PrintWords Go.Proofs.YtnaalaakhdbfbaaW.PrintLast Go.Proofs.YtnaalaakhdbfbaaW.PrintMore
attribute [local go_sem] max2_int min2_int max_two min_two max_three min_three max_four min_four
set_option linter.unusedVariables false
set_option linter.unusedSimpArgs false
def plan_whole.f (a0_0 : Int) (a0_1 : Int) (a1_0 : Int) (a1_1 : Int) (a2 : Int) : Option (Bool) := (span_Right.f a0_0 a0_1).bind fun t659 => (if t659 = true then (if a0_0 < a0_1 then (if a0_1 ≤ a1_1 then (if a2 = 0 then (none) else (if (Int.tmod a0_0 a2) = 0 then (if a0_1 = a1_1 then (some true) else (some ((Int.tmod a0_1 a2) == 0))) else (some false))) else (some false)) else (some false)) else (some false))
set_option maxHeartbeats 8000000 in
set_option maxRecDepth 100000 in
theorem plan_whole.calls (a0_0 : Int) (a0_1 : Int) (a1_0 : Int) (a1_1 : Int) (a2 : Int) (r : Bool) (w : World) (h : plan_whole.f a0_0 a0_1 a1_0 a1_1 a2 = some r) :
  Calls Try.prog 57 #[.agg #[.int .i64 a0_0, .int .i64 a0_1], .agg #[.int .i64 a1_0, .int .i64 a1_1], .int .i64 a2] w fun e w' => e = .returned (.bool r) ∧ Below w.heap.size w w' := by
 have hu48 := Try.underlying48
 have HB := Aside0.mk (Below.refl w.heap.size w)
 unfold plan_whole.f at h
 have H := h
 clear h
 obtain ⟨t659, A4, H⟩ := bO H
 by_cases c5 : t659 = true
 ·subst c5
  rw [if_pos rfl] at H
  by_cases c6 : a0_0 < a0_1
  ·rw [if_pos c6] at H
   have c6b0 : decide (a0_0 < a0_1) = true := decide_eq_true c6
   clear c6
   by_cases c7 : a0_1 ≤ a1_1
   ·rw [if_pos c7] at H
    have c7b0 : decide (a0_1 ≤ a1_1) = true := decide_eq_true c7
    clear c7
    by_cases c8 : a2 = 0
    ·rw [if_pos c8] at H
     exact absurd H (by simp)
    ·rw [if_neg c8] at H
     have c8b0 : (a2 == 0) = false := beq_eq_false_iff_ne.mpr c8
     have c8b1 : (a2 != 0) = true := bne_iff_ne.mpr c8
     by_cases c9 : (Int.tmod a0_0 a2) = 0
     ·rw [if_pos c9] at H
      have c9b0 : ((Int.tmod a0_0 a2) == 0) = true := beq_iff_eq.mpr c9
      have c9b1 : ((Int.tmod a0_0 a2) != 0) = false := bne_eq_false_iff_eq.mpr c9
      clear c9
      by_cases c10 : a0_1 = a1_1
      ·rw [if_pos c10] at H
       have c10b0 : (a0_1 == a1_1) = true := beq_iff_eq.mpr c10
       have c10b1 : (a0_1 != a1_1) = false := bne_eq_false_iff_eq.mpr c10
       clear c10
       obtain rfl := Option.some.inj H
       go_enter Try.func57, Try.ntmps57
       go_wp2_with (first | ((with_reducible refine gate_dst (N := 3) rfl ?_); refine bX (N := 3) (cs := #[.int .i64 a0_0, .int .i64 a0_1]) (t := 48) ?_; intro gb657 hg w11 hbox hb; have BK657 := Aside0.mk (hbox); have GE657 := sG HB hg; replace HB := sL HB hb; clear hb hbox hg) | ((with_reducible refine gate_dst (N := 4) rfl ?_); refine bX (N := 4) (cs := #[.int .i64 a1_0, .int .i64 a1_1]) (t := 48) ?_; intro gb658 hg w12 hbox hb; have BK658 := Aside0.mk (hbox); have GE658 := sG HB hg; have NB657_658 := sN BK657 hg; have NB658_657 := sM BK657 hg; replace BK657 := sB BK657 hb; replace HB := sL HB hb; clear hb hbox hg; have hnb13 := NB657_658.out; have hnc13 := NB658_657.out; obtain ⟨hcz14_0, hcz14_1⟩ := q2 BK657; obtain ⟨hfz14_0, hfz14_1⟩ := z2 BK657) | ((with_reducible refine gate_callee (f := 49) rfl ?_); refine gL (some 8) rfl rfl Try.func49 #[.agg #[.int .i64 a0_0, .int .i64 a0_1]] rfl ?_; (with_reducible refine (span_Right.calls a0_0 a0_1 true _ A4.out).mono ?_); rintro e w15 ⟨rfl, hb⟩; refine ⟨_, rfl, ?_⟩; replace BK657 := sB BK657 hb; replace BK658 := sB BK658 hb; replace HB := sL HB hb; (try clear hb); (try clear hb2); (try clear hk); (try clear hi); obtain ⟨hcz16_0, hcz16_1⟩ := q2 BK657; obtain ⟨hfz16_0, hfz16_1⟩ := z2 BK657; obtain ⟨hcz17_0, hcz17_1⟩ := q2 BK658; obtain ⟨hfz17_0, hfz17_1⟩ := z2 BK658))
       go_ret
       exact ⟨eW, lU HB⟩
      ·rw [if_neg c10] at H
       have c10b0 : (a0_1 == a1_1) = false := beq_eq_false_iff_ne.mpr c10
       have c10b1 : (a0_1 != a1_1) = true := bne_iff_ne.mpr c10
       obtain rfl := Option.some.inj H
       go_enter Try.func57, Try.ntmps57
       go_wp2_with (first | ((with_reducible refine gate_dst (N := 3) rfl ?_); refine bX (N := 3) (cs := #[.int .i64 a0_0, .int .i64 a0_1]) (t := 48) ?_; intro gb657 hg w18 hbox hb; have BK657 := Aside0.mk (hbox); have GE657 := sG HB hg; replace HB := sL HB hb; clear hb hbox hg) | ((with_reducible refine gate_dst (N := 4) rfl ?_); refine bX (N := 4) (cs := #[.int .i64 a1_0, .int .i64 a1_1]) (t := 48) ?_; intro gb658 hg w19 hbox hb; have BK658 := Aside0.mk (hbox); have GE658 := sG HB hg; have NB657_658 := sN BK657 hg; have NB658_657 := sM BK657 hg; replace BK657 := sB BK657 hb; replace HB := sL HB hb; clear hb hbox hg; have hnb20 := NB657_658.out; have hnc20 := NB658_657.out; obtain ⟨hcz21_0, hcz21_1⟩ := q2 BK657; obtain ⟨hfz21_0, hfz21_1⟩ := z2 BK657) | ((with_reducible refine gate_callee (f := 49) rfl ?_); refine gL (some 8) rfl rfl Try.func49 #[.agg #[.int .i64 a0_0, .int .i64 a0_1]] rfl ?_; (with_reducible refine (span_Right.calls a0_0 a0_1 true _ A4.out).mono ?_); rintro e w22 ⟨rfl, hb⟩; refine ⟨_, rfl, ?_⟩; replace BK657 := sB BK657 hb; replace BK658 := sB BK658 hb; replace HB := sL HB hb; (try clear hb); (try clear hb2); (try clear hk); (try clear hi); obtain ⟨hcz23_0, hcz23_1⟩ := q2 BK657; obtain ⟨hfz23_0, hfz23_1⟩ := z2 BK657; obtain ⟨hcz24_0, hcz24_1⟩ := q2 BK658; obtain ⟨hfz24_0, hfz24_1⟩ := z2 BK658))
       go_ret
       exact ⟨eW, lU HB⟩
     ·rw [if_neg c9] at H
      have c9b0 : ((Int.tmod a0_0 a2) == 0) = false := beq_eq_false_iff_ne.mpr c9
      have c9b1 : ((Int.tmod a0_0 a2) != 0) = true := bne_iff_ne.mpr c9
      obtain rfl := Option.some.inj H
      go_enter Try.func57, Try.ntmps57
      go_wp2_with (first | ((with_reducible refine gate_dst (N := 3) rfl ?_); refine bX (N := 3) (cs := #[.int .i64 a0_0, .int .i64 a0_1]) (t := 48) ?_; intro gb657 hg w25 hbox hb; have BK657 := Aside0.mk (hbox); have GE657 := sG HB hg; replace HB := sL HB hb; clear hb hbox hg) | ((with_reducible refine gate_dst (N := 4) rfl ?_); refine bX (N := 4) (cs := #[.int .i64 a1_0, .int .i64 a1_1]) (t := 48) ?_; intro gb658 hg w26 hbox hb; have BK658 := Aside0.mk (hbox); have GE658 := sG HB hg; have NB657_658 := sN BK657 hg; have NB658_657 := sM BK657 hg; replace BK657 := sB BK657 hb; replace HB := sL HB hb; clear hb hbox hg; have hnb27 := NB657_658.out; have hnc27 := NB658_657.out; obtain ⟨hcz28_0, hcz28_1⟩ := q2 BK657; obtain ⟨hfz28_0, hfz28_1⟩ := z2 BK657) | ((with_reducible refine gate_callee (f := 49) rfl ?_); refine gL (some 8) rfl rfl Try.func49 #[.agg #[.int .i64 a0_0, .int .i64 a0_1]] rfl ?_; (with_reducible refine (span_Right.calls a0_0 a0_1 true _ A4.out).mono ?_); rintro e w29 ⟨rfl, hb⟩; refine ⟨_, rfl, ?_⟩; replace BK657 := sB BK657 hb; replace BK658 := sB BK658 hb; replace HB := sL HB hb; (try clear hb); (try clear hb2); (try clear hk); (try clear hi); obtain ⟨hcz30_0, hcz30_1⟩ := q2 BK657; obtain ⟨hfz30_0, hfz30_1⟩ := z2 BK657; obtain ⟨hcz31_0, hcz31_1⟩ := q2 BK658; obtain ⟨hfz31_0, hfz31_1⟩ := z2 BK658))
      go_ret
      exact ⟨eW, lU HB⟩
   ·rw [if_neg c7] at H
    have c7b0 : decide (a0_1 ≤ a1_1) = false := decide_eq_false c7
    clear c7
    obtain rfl := Option.some.inj H
    go_enter Try.func57, Try.ntmps57
    go_wp2_with (first | ((with_reducible refine gate_dst (N := 3) rfl ?_); refine bX (N := 3) (cs := #[.int .i64 a0_0, .int .i64 a0_1]) (t := 48) ?_; intro gb657 hg w32 hbox hb; have BK657 := Aside0.mk (hbox); have GE657 := sG HB hg; replace HB := sL HB hb; clear hb hbox hg) | ((with_reducible refine gate_dst (N := 4) rfl ?_); refine bX (N := 4) (cs := #[.int .i64 a1_0, .int .i64 a1_1]) (t := 48) ?_; intro gb658 hg w33 hbox hb; have BK658 := Aside0.mk (hbox); have GE658 := sG HB hg; have NB657_658 := sN BK657 hg; have NB658_657 := sM BK657 hg; replace BK657 := sB BK657 hb; replace HB := sL HB hb; clear hb hbox hg; have hnb34 := NB657_658.out; have hnc34 := NB658_657.out; obtain ⟨hcz35_0, hcz35_1⟩ := q2 BK657; obtain ⟨hfz35_0, hfz35_1⟩ := z2 BK657) | ((with_reducible refine gate_callee (f := 49) rfl ?_); refine gL (some 8) rfl rfl Try.func49 #[.agg #[.int .i64 a0_0, .int .i64 a0_1]] rfl ?_; (with_reducible refine (span_Right.calls a0_0 a0_1 true _ A4.out).mono ?_); rintro e w36 ⟨rfl, hb⟩; refine ⟨_, rfl, ?_⟩; replace BK657 := sB BK657 hb; replace BK658 := sB BK658 hb; replace HB := sL HB hb; (try clear hb); (try clear hb2); (try clear hk); (try clear hi); obtain ⟨hcz37_0, hcz37_1⟩ := q2 BK657; obtain ⟨hfz37_0, hfz37_1⟩ := z2 BK657; obtain ⟨hcz38_0, hcz38_1⟩ := q2 BK658; obtain ⟨hfz38_0, hfz38_1⟩ := z2 BK658))
    go_ret
    exact ⟨eW, lU HB⟩
  ·rw [if_neg c6] at H
   have c6b0 : decide (a0_0 < a0_1) = false := decide_eq_false c6
   clear c6
   obtain rfl := Option.some.inj H
   go_enter Try.func57, Try.ntmps57
   go_wp2_with (first | ((with_reducible refine gate_dst (N := 3) rfl ?_); refine bX (N := 3) (cs := #[.int .i64 a0_0, .int .i64 a0_1]) (t := 48) ?_; intro gb657 hg w39 hbox hb; have BK657 := Aside0.mk (hbox); have GE657 := sG HB hg; replace HB := sL HB hb; clear hb hbox hg) | ((with_reducible refine gate_dst (N := 4) rfl ?_); refine bX (N := 4) (cs := #[.int .i64 a1_0, .int .i64 a1_1]) (t := 48) ?_; intro gb658 hg w40 hbox hb; have BK658 := Aside0.mk (hbox); have GE658 := sG HB hg; have NB657_658 := sN BK657 hg; have NB658_657 := sM BK657 hg; replace BK657 := sB BK657 hb; replace HB := sL HB hb; clear hb hbox hg; have hnb41 := NB657_658.out; have hnc41 := NB658_657.out; obtain ⟨hcz42_0, hcz42_1⟩ := q2 BK657; obtain ⟨hfz42_0, hfz42_1⟩ := z2 BK657) | ((with_reducible refine gate_callee (f := 49) rfl ?_); refine gL (some 8) rfl rfl Try.func49 #[.agg #[.int .i64 a0_0, .int .i64 a0_1]] rfl ?_; (with_reducible refine (span_Right.calls a0_0 a0_1 true _ A4.out).mono ?_); rintro e w43 ⟨rfl, hb⟩; refine ⟨_, rfl, ?_⟩; replace BK657 := sB BK657 hb; replace BK658 := sB BK658 hb; replace HB := sL HB hb; (try clear hb); (try clear hb2); (try clear hk); (try clear hi); obtain ⟨hcz44_0, hcz44_1⟩ := q2 BK657; obtain ⟨hfz44_0, hfz44_1⟩ := z2 BK657))
   go_ret
   exact ⟨eW, lU HB⟩
 ·replace c5 := Bool.eq_false_iff.mpr c5
  subst c5
  rw [if_neg (show ¬ (false = true) by decide)] at H
  obtain rfl := Option.some.inj H
  go_enter Try.func57, Try.ntmps57
  go_wp2_with (first | ((with_reducible refine gate_dst (N := 3) rfl ?_); refine bX (N := 3) (cs := #[.int .i64 a0_0, .int .i64 a0_1]) (t := 48) ?_; intro gb657 hg w45 hbox hb; have BK657 := Aside0.mk (hbox); have GE657 := sG HB hg; replace HB := sL HB hb; clear hb hbox hg) | ((with_reducible refine gate_dst (N := 4) rfl ?_); refine bX (N := 4) (cs := #[.int .i64 a1_0, .int .i64 a1_1]) (t := 48) ?_; intro gb658 hg w46 hbox hb; have BK658 := Aside0.mk (hbox); have GE658 := sG HB hg; have NB657_658 := sN BK657 hg; have NB658_657 := sM BK657 hg; replace BK657 := sB BK657 hb; replace HB := sL HB hb; clear hb hbox hg; have hnb47 := NB657_658.out; have hnc47 := NB658_657.out; obtain ⟨hcz48_0, hcz48_1⟩ := q2 BK657; obtain ⟨hfz48_0, hfz48_1⟩ := z2 BK657) | ((with_reducible refine gate_callee (f := 49) rfl ?_); refine gL (some 8) rfl rfl Try.func49 #[.agg #[.int .i64 a0_0, .int .i64 a0_1]] rfl ?_; (with_reducible refine (span_Right.calls a0_0 a0_1 false _ A4.out).mono ?_); rintro e w49 ⟨rfl, hb⟩; refine ⟨_, rfl, ?_⟩; replace BK657 := sB BK657 hb; replace BK658 := sB BK658 hb; replace HB := sL HB hb; (try clear hb); (try clear hb2); (try clear hk); (try clear hi)))
  go_ret
  exact ⟨eW, lU HB⟩
def span_Within.f (a0_0 : Int) (a0_1 : Int) (a1_0 : Int) (a1_1 : Int) : Option (Bool) := (span_Right.f a0_0 a0_1).bind fun t662 => (if t662 = true then ((span_Right.f a1_0 a1_1).bind fun t663 => (if t663 = true then (if a0_0 = a0_1 then (some true) else (if a1_0 ≤ a0_0 then (some (decide (a0_1 ≤ a1_1))) else (some false))) else (some false))) else (some false))
set_option maxHeartbeats 8000000 in
set_option maxRecDepth 100000 in
theorem span_Within.calls (a0_0 : Int) (a0_1 : Int) (a1_0 : Int) (a1_1 : Int) (r : Bool) (w : World) (h : span_Within.f a0_0 a0_1 a1_0 a1_1 = some r) :
  Calls Try.prog 69 #[.agg #[.int .i64 a0_0, .int .i64 a0_1], .agg #[.int .i64 a1_0, .int .i64 a1_1]] w fun e w' => e = .returned (.bool r) ∧ Below w.heap.size w w' := by
 have hu48 := Try.underlying48
 have HB := Aside0.mk (Below.refl w.heap.size w)
 unfold span_Within.f at h
 have H := h
 clear h
 obtain ⟨t662, A3, H⟩ := bO H
 by_cases c4 : t662 = true
 ·subst c4
  rw [if_pos rfl] at H
  obtain ⟨t663, A5, H⟩ := bO H
  by_cases c6 : t663 = true
  ·subst c6
   rw [if_pos rfl] at H
   by_cases c7 : a0_0 = a0_1
   ·rw [if_pos c7] at H
    have c7b0 : (a0_0 == a0_1) = true := beq_iff_eq.mpr c7
    have c7b1 : (a0_0 != a0_1) = false := bne_eq_false_iff_eq.mpr c7
    clear c7
    obtain rfl := Option.some.inj H
    go_enter Try.func69, Try.ntmps69
    go_wp2_with (first | ((with_reducible refine gate_dst (N := 2) rfl ?_); refine bX (N := 2) (cs := #[.int .i64 a0_0, .int .i64 a0_1]) (t := 48) ?_; intro gb660 hg w8 hbox hb; have BK660 := Aside0.mk (hbox); have GE660 := sG HB hg; replace HB := sL HB hb; clear hb hbox hg) | ((with_reducible refine gate_dst (N := 3) rfl ?_); refine bX (N := 3) (cs := #[.int .i64 a1_0, .int .i64 a1_1]) (t := 48) ?_; intro gb661 hg w9 hbox hb; have BK661 := Aside0.mk (hbox); have GE661 := sG HB hg; have NB660_661 := sN BK660 hg; have NB661_660 := sM BK660 hg; replace BK660 := sB BK660 hb; replace HB := sL HB hb; clear hb hbox hg; have hnb10 := NB660_661.out; have hnc10 := NB661_660.out; obtain ⟨hcz11_0, hcz11_1⟩ := q2 BK660; obtain ⟨hfz11_0, hfz11_1⟩ := z2 BK660) | ((with_reducible refine gate_callee (f := 49) rfl ?_); refine gL (some 6) rfl rfl Try.func49 #[.agg #[.int .i64 a0_0, .int .i64 a0_1]] rfl ?_; (with_reducible refine (span_Right.calls a0_0 a0_1 true _ A3.out).mono ?_); rintro e w12 ⟨rfl, hb⟩; refine ⟨_, rfl, ?_⟩; replace BK660 := sB BK660 hb; replace BK661 := sB BK661 hb; replace HB := sL HB hb; (try clear hb); (try clear hb2); (try clear hk); (try clear hi); obtain ⟨hcz13_0, hcz13_1⟩ := q2 BK661; obtain ⟨hfz13_0, hfz13_1⟩ := z2 BK661) | (go_at_call 49; (with_reducible refine (span_Right.calls a1_0 a1_1 true _ A5.out).mono ?_); rintro e w14 ⟨rfl, hb⟩; replace BK660 := sB BK660 hb; replace BK661 := sB BK661 hb; replace HB := sL HB hb; (try clear hb); (try clear hb2); (try clear hk); (try clear hi); obtain ⟨hcz15_0, hcz15_1⟩ := q2 BK660; obtain ⟨hfz15_0, hfz15_1⟩ := z2 BK660))
    go_ret
    exact ⟨eW, lU HB⟩
   ·rw [if_neg c7] at H
    have c7b0 : (a0_0 == a0_1) = false := beq_eq_false_iff_ne.mpr c7
    have c7b1 : (a0_0 != a0_1) = true := bne_iff_ne.mpr c7
    by_cases c16 : a1_0 ≤ a0_0
    ·rw [if_pos c16] at H
     have c16b0 : decide (a1_0 ≤ a0_0) = true := decide_eq_true c16
     clear c16
     obtain rfl := Option.some.inj H
     go_enter Try.func69, Try.ntmps69
     go_wp2_with (first | ((with_reducible refine gate_dst (N := 2) rfl ?_); refine bX (N := 2) (cs := #[.int .i64 a0_0, .int .i64 a0_1]) (t := 48) ?_; intro gb660 hg w17 hbox hb; have BK660 := Aside0.mk (hbox); have GE660 := sG HB hg; replace HB := sL HB hb; clear hb hbox hg) | ((with_reducible refine gate_dst (N := 3) rfl ?_); refine bX (N := 3) (cs := #[.int .i64 a1_0, .int .i64 a1_1]) (t := 48) ?_; intro gb661 hg w18 hbox hb; have BK661 := Aside0.mk (hbox); have GE661 := sG HB hg; have NB660_661 := sN BK660 hg; have NB661_660 := sM BK660 hg; replace BK660 := sB BK660 hb; replace HB := sL HB hb; clear hb hbox hg; have hnb19 := NB660_661.out; have hnc19 := NB661_660.out; obtain ⟨hcz20_0, hcz20_1⟩ := q2 BK660; obtain ⟨hfz20_0, hfz20_1⟩ := z2 BK660) | ((with_reducible refine gate_callee (f := 49) rfl ?_); refine gL (some 6) rfl rfl Try.func49 #[.agg #[.int .i64 a0_0, .int .i64 a0_1]] rfl ?_; (with_reducible refine (span_Right.calls a0_0 a0_1 true _ A3.out).mono ?_); rintro e w21 ⟨rfl, hb⟩; refine ⟨_, rfl, ?_⟩; replace BK660 := sB BK660 hb; replace BK661 := sB BK661 hb; replace HB := sL HB hb; (try clear hb); (try clear hb2); (try clear hk); (try clear hi); obtain ⟨hcz22_0, hcz22_1⟩ := q2 BK661; obtain ⟨hfz22_0, hfz22_1⟩ := z2 BK661) | (go_at_call 49; (with_reducible refine (span_Right.calls a1_0 a1_1 true _ A5.out).mono ?_); rintro e w23 ⟨rfl, hb⟩; replace BK660 := sB BK660 hb; replace BK661 := sB BK661 hb; replace HB := sL HB hb; (try clear hb); (try clear hb2); (try clear hk); (try clear hi); obtain ⟨hcz24_0, hcz24_1⟩ := q2 BK660; obtain ⟨hfz24_0, hfz24_1⟩ := z2 BK660; obtain ⟨hcz25_0, hcz25_1⟩ := q2 BK661; obtain ⟨hfz25_0, hfz25_1⟩ := z2 BK661))
     go_ret
     exact ⟨eW, lU HB⟩
    ·rw [if_neg c16] at H
     have c16b0 : decide (a1_0 ≤ a0_0) = false := decide_eq_false c16
     clear c16
     obtain rfl := Option.some.inj H
     go_enter Try.func69, Try.ntmps69
     go_wp2_with (first | ((with_reducible refine gate_dst (N := 2) rfl ?_); refine bX (N := 2) (cs := #[.int .i64 a0_0, .int .i64 a0_1]) (t := 48) ?_; intro gb660 hg w26 hbox hb; have BK660 := Aside0.mk (hbox); have GE660 := sG HB hg; replace HB := sL HB hb; clear hb hbox hg) | ((with_reducible refine gate_dst (N := 3) rfl ?_); refine bX (N := 3) (cs := #[.int .i64 a1_0, .int .i64 a1_1]) (t := 48) ?_; intro gb661 hg w27 hbox hb; have BK661 := Aside0.mk (hbox); have GE661 := sG HB hg; have NB660_661 := sN BK660 hg; have NB661_660 := sM BK660 hg; replace BK660 := sB BK660 hb; replace HB := sL HB hb; clear hb hbox hg; have hnb28 := NB660_661.out; have hnc28 := NB661_660.out; obtain ⟨hcz29_0, hcz29_1⟩ := q2 BK660; obtain ⟨hfz29_0, hfz29_1⟩ := z2 BK660) | ((with_reducible refine gate_callee (f := 49) rfl ?_); refine gL (some 6) rfl rfl Try.func49 #[.agg #[.int .i64 a0_0, .int .i64 a0_1]] rfl ?_; (with_reducible refine (span_Right.calls a0_0 a0_1 true _ A3.out).mono ?_); rintro e w30 ⟨rfl, hb⟩; refine ⟨_, rfl, ?_⟩; replace BK660 := sB BK660 hb; replace BK661 := sB BK661 hb; replace HB := sL HB hb; (try clear hb); (try clear hb2); (try clear hk); (try clear hi); obtain ⟨hcz31_0, hcz31_1⟩ := q2 BK661; obtain ⟨hfz31_0, hfz31_1⟩ := z2 BK661) | (go_at_call 49; (with_reducible refine (span_Right.calls a1_0 a1_1 true _ A5.out).mono ?_); rintro e w32 ⟨rfl, hb⟩; replace BK660 := sB BK660 hb; replace BK661 := sB BK661 hb; replace HB := sL HB hb; (try clear hb); (try clear hb2); (try clear hk); (try clear hi); obtain ⟨hcz33_0, hcz33_1⟩ := q2 BK660; obtain ⟨hfz33_0, hfz33_1⟩ := z2 BK660; obtain ⟨hcz34_0, hcz34_1⟩ := q2 BK661; obtain ⟨hfz34_0, hfz34_1⟩ := z2 BK661))
     go_ret
     exact ⟨eW, lU HB⟩
  ·replace c6 := Bool.eq_false_iff.mpr c6
   subst c6
   rw [if_neg (show ¬ (false = true) by decide)] at H
   obtain rfl := Option.some.inj H
   go_enter Try.func69, Try.ntmps69
   go_wp2_with (first | ((with_reducible refine gate_dst (N := 2) rfl ?_); refine bX (N := 2) (cs := #[.int .i64 a0_0, .int .i64 a0_1]) (t := 48) ?_; intro gb660 hg w35 hbox hb; have BK660 := Aside0.mk (hbox); have GE660 := sG HB hg; replace HB := sL HB hb; clear hb hbox hg) | ((with_reducible refine gate_dst (N := 3) rfl ?_); refine bX (N := 3) (cs := #[.int .i64 a1_0, .int .i64 a1_1]) (t := 48) ?_; intro gb661 hg w36 hbox hb; have BK661 := Aside0.mk (hbox); have GE661 := sG HB hg; have NB660_661 := sN BK660 hg; have NB661_660 := sM BK660 hg; replace BK660 := sB BK660 hb; replace HB := sL HB hb; clear hb hbox hg; have hnb37 := NB660_661.out; have hnc37 := NB661_660.out; obtain ⟨hcz38_0, hcz38_1⟩ := q2 BK660; obtain ⟨hfz38_0, hfz38_1⟩ := z2 BK660) | ((with_reducible refine gate_callee (f := 49) rfl ?_); refine gL (some 6) rfl rfl Try.func49 #[.agg #[.int .i64 a0_0, .int .i64 a0_1]] rfl ?_; (with_reducible refine (span_Right.calls a0_0 a0_1 true _ A3.out).mono ?_); rintro e w39 ⟨rfl, hb⟩; refine ⟨_, rfl, ?_⟩; replace BK660 := sB BK660 hb; replace BK661 := sB BK661 hb; replace HB := sL HB hb; (try clear hb); (try clear hb2); (try clear hk); (try clear hi); obtain ⟨hcz40_0, hcz40_1⟩ := q2 BK661; obtain ⟨hfz40_0, hfz40_1⟩ := z2 BK661) | (go_at_call 49; (with_reducible refine (span_Right.calls a1_0 a1_1 false _ A5.out).mono ?_); rintro e w41 ⟨rfl, hb⟩; replace BK660 := sB BK660 hb; replace BK661 := sB BK661 hb; replace HB := sL HB hb; (try clear hb); (try clear hb2); (try clear hk); (try clear hi)))
   go_ret
   exact ⟨eW, lU HB⟩
 ·replace c4 := Bool.eq_false_iff.mpr c4
  subst c4
  rw [if_neg (show ¬ (false = true) by decide)] at H
  obtain rfl := Option.some.inj H
  go_enter Try.func69, Try.ntmps69
  go_wp2_with (first | ((with_reducible refine gate_dst (N := 2) rfl ?_); refine bX (N := 2) (cs := #[.int .i64 a0_0, .int .i64 a0_1]) (t := 48) ?_; intro gb660 hg w42 hbox hb; have BK660 := Aside0.mk (hbox); have GE660 := sG HB hg; replace HB := sL HB hb; clear hb hbox hg) | ((with_reducible refine gate_dst (N := 3) rfl ?_); refine bX (N := 3) (cs := #[.int .i64 a1_0, .int .i64 a1_1]) (t := 48) ?_; intro gb661 hg w43 hbox hb; have BK661 := Aside0.mk (hbox); have GE661 := sG HB hg; have NB660_661 := sN BK660 hg; have NB661_660 := sM BK660 hg; replace BK660 := sB BK660 hb; replace HB := sL HB hb; clear hb hbox hg; have hnb44 := NB660_661.out; have hnc44 := NB661_660.out; obtain ⟨hcz45_0, hcz45_1⟩ := q2 BK660; obtain ⟨hfz45_0, hfz45_1⟩ := z2 BK660) | ((with_reducible refine gate_callee (f := 49) rfl ?_); refine gL (some 6) rfl rfl Try.func49 #[.agg #[.int .i64 a0_0, .int .i64 a0_1]] rfl ?_; (with_reducible refine (span_Right.calls a0_0 a0_1 false _ A3.out).mono ?_); rintro e w46 ⟨rfl, hb⟩; refine ⟨_, rfl, ?_⟩; replace BK660 := sB BK660 hb; replace BK661 := sB BK661 hb; replace HB := sL HB hb; (try clear hb); (try clear hb2); (try clear hk); (try clear hi)))
  go_ret
  exact ⟨eW, lU HB⟩
def ranges_Set_Holds.f (l0_0 : List (S48)) (a1_0 : Int) (a1_1 : Int) : Option (Bool) := (span_Right.f a1_0 a1_1).bind fun t666 => (if t666 = true then (if a1_0 = a1_1 then (some true) else ((ranges_Set_from.f l0_0 a1_0).bind fun t667 => (if t667 < (l0_0.length : Int) then (if 0 ≤ t667 then ((span_Within.f a1_0 a1_1 ((rd_T48 l0_0 t667).f0) ((rd_T48 l0_0 t667).f1)).bind fun t669 => (some t669)) else (none)) else (some false)))) else (some false))
def ranges_Set_Holds.T6 : Bool × List (List Nat × List Nat) := (true, [([], []), ([], []), ([1], [1]), ([2], [2]), ([0, 3], [0, 3]), ([4], [4]), ([5], [5]), ([5], [5]), ([7, 5], [5, 7]), ([5], [5]), ([8, 9, 5], [5, 8, 9]), ([10, 5], [5, 10]), ([6, 11, 5, 5], [5, 6, 11]), ([5, 12], [5, 12]), ([13, 12, 0, 1, 2, 3, 4, 5, 6, 7, 8, 9, 10, 11, 12, 13], [13])])
def ranges_Set_Holds.B6 : List Nat := [0, 0, 2, 6, 15, 31, 63, 63, 191, 63, 959, 1983, 4095, 8191, 16383]
theorem ranges_Set_Holds.tab6 : rtab .any (opsOf Try.f58 6) = ranges_Set_Holds.T6 := by kernel_rfl
theorem ranges_Set_Holds.bits6 : waitsOk ranges_Set_Holds.T6.2 ranges_Set_Holds.B6 = true := by kernel_rfl
set_option maxHeartbeats 8000000 in
set_option maxRecDepth 100000 in
theorem ranges_Set_Holds.calls (A0_0 : Option Addr) (c0_0 : Nat) (l0_0 : List (S48)) (a1_0 : Int) (a1_1 : Int) (r : Bool) (w : World) (hr0_0 : Kd.C k48 w A0_0 l0_0.length l0_0) (hc0_0 : l0_0.length ≤ c0_0) (h : ranges_Set_Holds.f l0_0 a1_0 a1_1 = some r) :
  Calls Try.prog 58 #[.agg #[.slice A0_0 l0_0.length c0_0], .agg #[.int .i64 a1_0, .int .i64 a1_1]] w fun e w' => e = .returned (.bool r) ∧ Below w.heap.size w w' := by
 have hu30 := Try.underlying30
 have hu48 := Try.underlying48
 have HR0_0 := Aside0.mk hr0_0
 have HC0_0 := Aside0.mk hc0_0
 clear hr0_0 hc0_0
 have HB := Aside0.mk (Below.refl w.heap.size w)
 unfold ranges_Set_Holds.f at h
 have H := h
 clear h
 obtain ⟨t666, A3, H⟩ := bO H
 by_cases c4 : t666 = true
 ·subst c4
  rw [if_pos rfl] at H
  by_cases c5 : a1_0 = a1_1
  ·rw [if_pos c5] at H
   have c5b0 : (a1_0 == a1_1) = true := beq_iff_eq.mpr c5
   have c5b1 : (a1_0 != a1_1) = false := bne_eq_false_iff_eq.mpr c5
   clear c5
   obtain rfl := Option.some.inj H
   go_enter Try.func58, Try.ntmps58
   go_wp2_with (first | ((with_reducible refine gate_dst (N := 2) rfl ?_); refine bX (N := 2) (cs := #[.slice A0_0 l0_0.length c0_0]) (t := 30) ?_; intro gb664 hg w6 hbox hb; have BK664 := Aside0.mk (hbox); have GE664 := sG HB hg; replace HB := sL HB hb; clear hb hbox hg) | ((with_reducible refine gate_dst (N := 3) rfl ?_); refine bX (N := 3) (cs := #[.int .i64 a1_0, .int .i64 a1_1]) (t := 48) ?_; intro gb665 hg w7 hbox hb; have BK665 := Aside0.mk (hbox); have GE665 := sG HB hg; have NB664_665 := sN BK664 hg; have NB665_664 := sM BK664 hg; replace BK664 := sB BK664 hb; replace HB := sL HB hb; clear hb hbox hg; have hnb8 := NB665_664.out; have hnc8 := NB664_665.out; obtain ⟨hcz9_0, hcz9_1⟩ := q2 BK665; obtain ⟨hfz9_0, hfz9_1⟩ := z2 BK665) | ((with_reducible refine gate_callee (f := 49) rfl ?_); refine gL (some 7) rfl rfl Try.func49 #[.agg #[.int .i64 a1_0, .int .i64 a1_1]] rfl ?_; (with_reducible refine (span_Right.calls a1_0 a1_1 true _ A3.out).mono ?_); rintro e w10 ⟨rfl, hb⟩; refine ⟨_, rfl, ?_⟩; replace BK664 := sB BK664 hb; replace BK665 := sB BK665 hb; replace HB := sL HB hb; (try clear hb); (try clear hb2); (try clear hk); (try clear hi); obtain ⟨hcz11_0, hcz11_1⟩ := q2 BK665; obtain ⟨hfz11_0, hfz11_1⟩ := z2 BK665))
   go_ret
   exact ⟨eW, lU HB⟩
  ·rw [if_neg c5] at H
   have c5b0 : (a1_0 == a1_1) = false := beq_eq_false_iff_ne.mpr c5
   have c5b1 : (a1_0 != a1_1) = true := bne_iff_ne.mpr c5
   obtain ⟨t667, A12, H⟩ := bO H
   by_cases c13 : t667 < (l0_0.length : Int)
   ·rw [if_pos c13] at H
    have c13b0 : decide (t667 < (l0_0.length : Int)) = true := decide_eq_true c13
    clear c13
    by_cases c14 : 0 ≤ t667
    ·rw [if_pos c14] at H
     have c14b0 : decide (0 ≤ t667) = true := decide_eq_true c14
     clear c14
     obtain ⟨t669, A15, H⟩ := bO H
     obtain rfl := Option.some.inj H
     go_enter Try.func58, Try.ntmps58
     try go_wp2_with (first | ((with_reducible refine gate_dst (N := 2) rfl ?_); refine bX (N := 2) (cs := #[.slice A0_0 l0_0.length c0_0]) (t := 30) ?_; intro gb664 hg w16 hbox hb; have BK664 := Aside0.mk (hbox); have GE664 := sG HB hg; replace HB := sL HB hb; clear hb hbox hg) | ((with_reducible refine gate_dst (N := 3) rfl ?_); refine bX (N := 3) (cs := #[.int .i64 a1_0, .int .i64 a1_1]) (t := 48) ?_; intro gb665 hg w17 hbox hb; have BK665 := Aside0.mk (hbox); have GE665 := sG HB hg; have NB664_665 := sN BK664 hg; have NB665_664 := sM BK664 hg; replace BK664 := sB BK664 hb; replace HB := sL HB hb; clear hb hbox hg; have hnb18 := NB665_664.out; have hnc18 := NB664_665.out; obtain ⟨hcz19_0, hcz19_1⟩ := q2 BK665; obtain ⟨hfz19_0, hfz19_1⟩ := z2 BK665) | ((with_reducible refine gate_callee (f := 49) rfl ?_); refine gL (some 7) rfl rfl Try.func49 #[.agg #[.int .i64 a1_0, .int .i64 a1_1]] rfl ?_; (with_reducible refine (span_Right.calls a1_0 a1_1 true _ A3.out).mono ?_); rintro e w20 ⟨rfl, hb⟩; refine ⟨_, rfl, ?_⟩; replace BK664 := sB BK664 hb; replace BK665 := sB BK665 hb; replace HB := sL HB hb; (try clear hb); (try clear hb2); (try clear hk); (try clear hi); obtain ⟨hcz21_0, hcz21_1⟩ := q2 BK665; obtain ⟨hfz21_0, hfz21_1⟩ := z2 BK665; have hcz22_0 := q1 BK664; have hfz22_0 := blk_frozen BK664.out 0) | ((with_reducible refine gate_callee (f := 59) rfl ?_); refine gL (some 17) rfl rfl Try.func59 #[.agg #[.slice A0_0 l0_0.length c0_0], .int .i64 a1_0] rfl ?_; (with_reducible refine (ranges_Set_from.calls _ _ l0_0 a1_0 t667 _ (cU (Kd.C_below HR0_0.out HB.out)) HC0_0.out A12.out).mono ?_); rintro e w23 ⟨rfl, hb⟩; refine ⟨_, rfl, ?_⟩; replace BK664 := sB BK664 hb; replace BK665 := sB BK665 hb; replace HB := sL HB hb; (try clear hb); (try clear hb2); (try clear hk); (try clear hi)))
     replace BK664 := Aside0.mk (blk_drew BK664.out)
     replace BK665 := Aside0.mk (blk_drew BK665.out)
     replace HB := Aside0.mk (below_drew1 HB.out)
     have p668 : 0 ≤ (t667 : Int) := of_decide_eq_true (by first | (with_reducible assumption) | assumption)
     have q668 : t667 < (l0_0.length : Int) := of_decide_eq_true (by first | (with_reducible assumption) | assumption)
     obtain ⟨ad668, e668, hx668_0, hx668_1⟩ := at_T48 HR0_0.out t667 p668 q668
     have hw668_1 := hx668_1
     have hw668_0 := hx668_0
     cases e668
     replace hx668_0 := cB HB hx668_0
     replace hx668_1 := cB HB hx668_1
     replace p668 := eq_true p668
     replace q668 := eq_true q668
     refine start_ (n := 15) (S := fun w' => w'.cell? ⟨gb664, 0, none⟩ = some (.slice (some ad668) l0_0.length c0_0) ∧ w'.cell? ⟨gb665, 0, none⟩ = some (.int .i64 a1_0) ∧ w'.cell? ⟨gb665, 1, none⟩ = some (.int .i64 a1_1) ∧ w'.cell? (ad668.add ((t667).toNat * 2)) = some (.int .i64 ((rd_T48 l0_0 t667).f0)) ∧ w'.cell? ⟨(ad668.add ((t667).toNat * 2)).block, (ad668.add ((t667).toNat * 2)).off + 1, none⟩ = some (.int .i64 ((rd_T48 l0_0 t667).f1))) (ds := []) #[false, false, false, false, false, false, false, false, false, false, false, false, false, false, false] (by kernel_rfl) rfl rfl ⟨(blk_cell BK664.out 0).trans rfl, (blk_cell BK665.out 0).trans rfl, (blk_cell BK665.out 1).trans rfl, (cB HB hw668_0), (cB HB hw668_1)⟩ (fun hHeld => ?_); refine with_tabW ranges_Set_Holds.tab6 ranges_Set_Holds.bits6 (fun HT_ HW_ => ?_)
     generalize w23.drew = w24 at BK664 BK665 HB hx668_0 hx668_1 hHeld ⊢
     refine pS (i := 0) (N := some 18) (ma 15 1) rfl rfl HT_.out ?_
     refine pS (i := 1) (N := some 19) (ma 15 3) rfl rfl HT_.out ?_
     refine tS (i := 2) (N := some 20) (ma 15 7) rfl rfl HT_.out HW_.out hHeld ?_
     refine pS (i := 3) (N := some 21) (ma 15 15) rfl rfl HT_.out ?_
     refine pS (i := 4) (N := some 22) (ma 15 31) rfl rfl HT_.out ?_
     refine pS (i := 5) (N := some 23) (ma 15 63) rfl rfl HT_.out ?_
     refine pS (i := 7) (N := some 25) (ma 15 191) rfl rfl HT_.out ?_
     refine pS (i := 9) (N := some 27) (ma 15 703) rfl rfl HT_.out ?_
     refine tS (i := 6) (N := some 24) (ma 15 767) rfl rfl HT_.out HW_.out hHeld ?_
     refine tS (i := 8) (N := some 26) (ma 15 1023) rfl rfl HT_.out HW_.out hHeld ?_
     refine pS (i := 10) (N := some 28) (ma 15 2047) rfl rfl HT_.out ?_
     refine tS (i := 11) (N := some 29) (ma 15 4095) rfl rfl HT_.out HW_.out hHeld ?_
     refine one_ (i := 12) (N := some 30) (ma 15 8191) rfl rfl (one_of HT_.out (by kernel_rfl)) (by decide) (fun K hK => ?_)
     refine gO Try.func69 #[.agg #[.int .i64 a1_0, .int .i64 a1_1], .agg #[.int .i64 ((rd_T48 l0_0 t667).f0), .int .i64 ((rd_T48 l0_0 t667).f1)]] rfl rfl ?_
     with_reducible refine (span_Within.calls a1_0 a1_1 ((rd_T48 l0_0 t667).f0) ((rd_T48 l0_0 t667).f1) t669 _ A15.out).mono ?_
     rintro e w25 ⟨rfl, hb⟩
     refine ⟨_, rfl, ?_⟩
     replace BK664 := sB BK664 hb
     replace BK665 := sB BK665 hb
     replace HB := sL HB hb
     (try clear hb)
     (try clear hb2)
     (try clear hk)
     (try clear hi)
     refine hK.out _ _ ⟨(blk_cell BK664.out 0).trans rfl, (blk_cell BK665.out 0).trans rfl, (blk_cell BK665.out 1).trans rfl, (cB HB hw668_0), (cB HB hw668_1)⟩ (fun hHeld => ?_)
     clear hK K
     refine nP (some 30) ?_
     refine pS (i := 13) (N := some 31) (ma 15 16383) rfl rfl HT_.out ?_
     refine pS (i := 14) (N := some 4) (ma 15 32767) rfl rfl HT_.out ?_
     refine done_ (done_of HT_.out (by kernel_rfl)) ?_
     try go_wp2
     go_ret
     exact ⟨eW, lU HB⟩
    ·rw [if_neg c14] at H
     exact absurd H (by simp)
   ·rw [if_neg c13] at H
    have c13b0 : decide (t667 < (l0_0.length : Int)) = false := decide_eq_false c13
    clear c13
    obtain rfl := Option.some.inj H
    go_enter Try.func58, Try.ntmps58
    try go_wp2_with (first | ((with_reducible refine gate_dst (N := 2) rfl ?_); refine bX (N := 2) (cs := #[.slice A0_0 l0_0.length c0_0]) (t := 30) ?_; intro gb664 hg w26 hbox hb; have BK664 := Aside0.mk (hbox); have GE664 := sG HB hg; replace HB := sL HB hb; clear hb hbox hg) | ((with_reducible refine gate_dst (N := 3) rfl ?_); refine bX (N := 3) (cs := #[.int .i64 a1_0, .int .i64 a1_1]) (t := 48) ?_; intro gb665 hg w27 hbox hb; have BK665 := Aside0.mk (hbox); have GE665 := sG HB hg; have NB664_665 := sN BK664 hg; have NB665_664 := sM BK664 hg; replace BK664 := sB BK664 hb; replace HB := sL HB hb; clear hb hbox hg; have hnb28 := NB665_664.out; have hnc28 := NB664_665.out; obtain ⟨hcz29_0, hcz29_1⟩ := q2 BK665; obtain ⟨hfz29_0, hfz29_1⟩ := z2 BK665) | ((with_reducible refine gate_callee (f := 49) rfl ?_); refine gL (some 7) rfl rfl Try.func49 #[.agg #[.int .i64 a1_0, .int .i64 a1_1]] rfl ?_; (with_reducible refine (span_Right.calls a1_0 a1_1 true _ A3.out).mono ?_); rintro e w30 ⟨rfl, hb⟩; refine ⟨_, rfl, ?_⟩; replace BK664 := sB BK664 hb; replace BK665 := sB BK665 hb; replace HB := sL HB hb; (try clear hb); (try clear hb2); (try clear hk); (try clear hi); obtain ⟨hcz31_0, hcz31_1⟩ := q2 BK665; obtain ⟨hfz31_0, hfz31_1⟩ := z2 BK665; have hcz32_0 := q1 BK664; have hfz32_0 := blk_frozen BK664.out 0) | ((with_reducible refine gate_callee (f := 59) rfl ?_); refine gL (some 17) rfl rfl Try.func59 #[.agg #[.slice A0_0 l0_0.length c0_0], .int .i64 a1_0] rfl ?_; (with_reducible refine (ranges_Set_from.calls _ _ l0_0 a1_0 t667 _ (cU (Kd.C_below HR0_0.out HB.out)) HC0_0.out A12.out).mono ?_); rintro e w33 ⟨rfl, hb⟩; refine ⟨_, rfl, ?_⟩; replace BK664 := sB BK664 hb; replace BK665 := sB BK665 hb; replace HB := sL HB hb; (try clear hb); (try clear hb2); (try clear hk); (try clear hi)))
    replace BK664 := Aside0.mk (blk_drew BK664.out)
    replace BK665 := Aside0.mk (blk_drew BK665.out)
    replace HB := Aside0.mk (below_drew1 HB.out)
    refine start_ (n := 15) (S := fun w' => w'.cell? ⟨gb664, 0, none⟩ = some (.slice A0_0 l0_0.length c0_0)) (ds := []) #[false, false, false, false, false, false, false, false, false, false, false, false, false, false, false] (by kernel_rfl) rfl rfl ((blk_cell BK664.out 0).trans rfl) (fun hHeld => ?_); refine with_tabW ranges_Set_Holds.tab6 ranges_Set_Holds.bits6 (fun HT_ HW_ => ?_)
    generalize w33.drew = w34 at BK664 BK665 HB hHeld ⊢
    refine pS (i := 0) (N := some 18) (ma 15 1) rfl rfl HT_.out ?_
    refine pS (i := 1) (N := some 19) (ma 15 3) rfl rfl HT_.out ?_
    refine take_ (i := 2) (N := some 20) (v := ?_) (a' := ?_) #[true, true, true, false, false, false, false, false, false, false, false, false, false, false, false] rfl rfl (take_ofW HT_.out HW_.out (by kernel_rfl)) (fun _ _ _ h => h) (Or.inl ⟨by rfl, ?_⟩) hHeld ?_ ?_
    rotate_left
    ·intro w' s0
     go_simp
     with_reducible rfl
    rotate_left
    ·simp only [Act.put, List.setIfInBounds_toArray, List.set_cons_zero, List.set_cons_succ, i64_w, i32_w]
     rfl
    refine pS (i := 3) (N := some 21) (ma 15 15) rfl rfl HT_.out ?_
    refine pS (i := 4) (N := some 22) (ma 15 31) rfl rfl HT_.out ?_
    refine pS (i := 5) (N := some 23) (ma 15 63) rfl rfl HT_.out ?_
    refine pU (i := 6) (N := some 24) (ma 15 127) rfl rfl HT_.out ?_
    refine pU (i := 7) (N := some 25) (ma 15 255) rfl rfl HT_.out ?_
    refine pU (i := 8) (N := some 26) (ma 15 511) rfl rfl HT_.out ?_
    refine pU (i := 9) (N := some 27) (ma 15 1023) rfl rfl HT_.out ?_
    refine pU (i := 10) (N := some 28) (ma 15 2047) rfl rfl HT_.out ?_
    refine pU (i := 11) (N := some 29) (ma 15 4095) rfl rfl HT_.out ?_
    refine pU (i := 12) (N := some 30) (ma 15 8191) rfl rfl HT_.out ?_
    refine pS (i := 13) (N := some 31) (ma 15 16383) rfl rfl HT_.out ?_
    refine pS (i := 14) (N := some 4) (ma 15 32767) rfl rfl HT_.out ?_
    refine done_ (done_of HT_.out (by kernel_rfl)) ?_
    try go_wp2
    go_ret
    exact ⟨eW, lU HB⟩
 ·replace c4 := Bool.eq_false_iff.mpr c4
  subst c4
  rw [if_neg (show ¬ (false = true) by decide)] at H
  obtain rfl := Option.some.inj H
  go_enter Try.func58, Try.ntmps58
  go_wp2_with (first | ((with_reducible refine gate_dst (N := 2) rfl ?_); refine bX (N := 2) (cs := #[.slice A0_0 l0_0.length c0_0]) (t := 30) ?_; intro gb664 hg w35 hbox hb; have BK664 := Aside0.mk (hbox); have GE664 := sG HB hg; replace HB := sL HB hb; clear hb hbox hg) | ((with_reducible refine gate_dst (N := 3) rfl ?_); refine bX (N := 3) (cs := #[.int .i64 a1_0, .int .i64 a1_1]) (t := 48) ?_; intro gb665 hg w36 hbox hb; have BK665 := Aside0.mk (hbox); have GE665 := sG HB hg; have NB664_665 := sN BK664 hg; have NB665_664 := sM BK664 hg; replace BK664 := sB BK664 hb; replace HB := sL HB hb; clear hb hbox hg; have hnb37 := NB665_664.out; have hnc37 := NB664_665.out; obtain ⟨hcz38_0, hcz38_1⟩ := q2 BK665; obtain ⟨hfz38_0, hfz38_1⟩ := z2 BK665) | ((with_reducible refine gate_callee (f := 49) rfl ?_); refine gL (some 7) rfl rfl Try.func49 #[.agg #[.int .i64 a1_0, .int .i64 a1_1]] rfl ?_; (with_reducible refine (span_Right.calls a1_0 a1_1 false _ A3.out).mono ?_); rintro e w39 ⟨rfl, hb⟩; refine ⟨_, rfl, ?_⟩; replace BK664 := sB BK664 hb; replace BK665 := sB BK665 hb; replace HB := sL HB hb; (try clear hb); (try clear hb2); (try clear hk); (try clear hi)))
  go_ret
  exact ⟨eW, lU HB⟩
end Go.Proofs.Ytnaalaakhdbfbaa.XP
