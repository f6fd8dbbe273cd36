-- Go functions as plain functions, and that the code comes to these answers (printed by a program).
import Derived.Test.YtnaalaakhdbfbaaV4XP0
import Derived.Test.YtnaalaakhdbfbaaV4XP11
import Derived.Test.YtnaalaakhdbfbaaV4XP12
import Derived.Test.YtnaalaakhdbfbaaV4XP16
import Derived.Test.YtnaalaakhdbfbaaV4XP23
namespace Go.Proofs.Ytnaalaakhdbfbaa.XP
open Go.RowKit Go.Proofs.YtnaalaakhdbfbaaW.PrintWords Go.Proofs.YtnaalaakhdbfbaaW.PrintLast Go.Proofs.YtnaalaakhdbfbaaW.PrintMore
attribute [local go_sem] max2_int min2_int max_two min_two max_three min_three max_four min_four
set_option linter.unusedVariables false
set_option linter.unusedSimpArgs false
def mandolinelaw35_PlanFewest.j0 : Nat → Bool → List (S48) → List (S48) → Int → Int → Int → Int → Int → Int → Int → Int → Int → Int → Int → Option (Bool)
 | 0, _, _, _, _, _, _, _, _, _, _, _, _, _, _ => none
 | k + 1, x19, x519000, x519001, x519002, x519003, x519004, x519005, x519006, x519007, x519008, x519009, x519010, x519011, x519012 => if x19 = true then (some true) else ((mandolinelaw35_sets.f k x519000 x519001 x519002 x519003 x519004 x519005 x519006 x519007 x519008 x519009 x519010 x519011 x519012).bind fun bt521 => ((plan_Plan.f k bt521.1 bt521.2 x519002 x519003 x519004 x519005 x519006 x519007 x519008 x519009 x519010 x519011 x519012).bind fun bt529 => (if bt529.2 = 0 then ((mandolineref02_Of.f k x519000).bind fun t533 => ((mandolineref02_Of.f k x519001).bind fun t536 => ((mandolineref35_Units.f k t533 x519002 x519003).bind fun t539 => ((mandolineref35_Right.f k bt529.1 t533 t536 x519002 x519003 x519004 x519005 x519006 x519007 x519008 x519009 x519010 x519011 x519012).bind fun t542 => (if t542 = true then ((mandolineref35_Fewest.f k t539 t539 t536 x519002 x519003 x519004 x519005 x519006 x519007 x519008 x519009 x519010 x519011 x519012).bind fun t543 => (some ((bt529.1.length : Int) == t543))) else (some false)))))) else (some true))))
def mandolinelaw35_PlanFewest.f (k : Nat) (l0_0 : List (S48)) (l0_1 : List (S48)) (a0_2 : Int) (a0_3 : Int) (a0_4 : Int) (a0_5 : Int) (a0_6 : Int) (a0_7 : Int) (a0_8 : Int) (a0_9 : Int) (a0_10 : Int) (a0_11 : Int) (a0_12 : Int) : Option (Bool) := (mandolinelaw35_alive.f k).bind fun t519 => (if t519 = true then ((mandolinelaw35_fine.f k l0_0 l0_1 a0_2 a0_3 a0_4 a0_5 a0_6 a0_7 a0_8 a0_9 a0_10 a0_11 a0_12 10).bind fun t520 => (if t520 = true then (mandolinelaw35_PlanFewest.j0 k (decide (a0_2 < 0)) l0_0 l0_1 a0_2 a0_3 a0_4 a0_5 a0_6 a0_7 a0_8 a0_9 a0_10 a0_11 a0_12) else (mandolinelaw35_PlanFewest.j0 k true l0_0 l0_1 a0_2 a0_3 a0_4 a0_5 a0_6 a0_7 a0_8 a0_9 a0_10 a0_11 a0_12))) else (some false))
def mandolinelaw35_PlanFewest.T9 : Bool × List (List Nat × List Nat) := (true, [([], []), ([0], [0]), ([1], [1]), ([], []), ([3], [3]), ([4, 2], [4]), ([2, 5, 0, 1, 2], [2]), ([5, 6, 0, 1, 2, 3, 4, 5, 6], [5])])
def mandolinelaw35_PlanFewest.B9 : List Nat := [0, 1, 3, 0, 8, 31, 63, 127]
theorem mandolinelaw35_PlanFewest.tab9 : rtab .any (opsOf Try.f4 9) = mandolinelaw35_PlanFewest.T9 := by kernel_rfl
theorem mandolinelaw35_PlanFewest.bits9 : waitsOk mandolinelaw35_PlanFewest.T9.2 mandolinelaw35_PlanFewest.B9 = true := by kernel_rfl
set_option maxHeartbeats 8000000 in
set_option maxRecDepth 100000 in
theorem mandolinelaw35_PlanFewest.calls (k : Nat) (A0_0 : Option Addr) (c0_0 : Nat) (l0_0 : List (S48)) (A0_1 : Option Addr) (c0_1 : Nat) (l0_1 : List (S48)) (a0_2 : Int) (a0_3 : Int) (a0_4 : Int) (a0_5 : Int) (a0_6 : Int) (a0_7 : Int) (a0_8 : Int) (a0_9 : Int) (a0_10 : Int) (a0_11 : Int) (a0_12 : Int) (r : Bool) (w : World) (hr0_0 : Kd.C k48 w A0_0 l0_0.length l0_0) (hc0_0 : l0_0.length ≤ c0_0) (hr0_1 : Kd.C k48 w A0_1 l0_1.length l0_1) (hc0_1 : l0_1.length ≤ c0_1) (h : mandolinelaw35_PlanFewest.f k l0_0 l0_1 a0_2 a0_3 a0_4 a0_5 a0_6 a0_7 a0_8 a0_9 a0_10 a0_11 a0_12 = some r) :
  Calls Try.prog 4 #[.agg #[.slice A0_0 l0_0.length c0_0, .slice A0_1 l0_1.length c0_1, .int .i64 a0_2, .int .i64 a0_3, .int .i64 a0_4, .int .i64 a0_5, .int .i64 a0_6, .int .i64 a0_7, .int .i64 a0_8, .int .i64 a0_9, .int .i64 a0_10, .int .i64 a0_11, .int .i64 a0_12]] w fun e w' => e = .returned (.bool r) ∧ Below w.heap.size w w' := by
 have hu26 := Try.underlying26
 have hu30 := Try.underlying30
 have hu24 := Try.underlying24
 have HR0_0 := Aside0.mk hr0_0
 have HC0_0 := Aside0.mk hc0_0
 clear hr0_0 hc0_0
 have HR0_1 := Aside0.mk hr0_1
 have HC0_1 := Aside0.mk hc0_1
 clear hr0_1 hc0_1
 have HB := Aside0.mk (Below.refl w.heap.size w)
 unfold mandolinelaw35_PlanFewest.f at h
 have H := h
 clear h
 obtain ⟨t519, A2, H⟩ := bO H
 by_cases c3 : t519 = true
 ·subst c3
  rw [if_pos rfl] at H
  have HC4 := Aside0.mk H
  clear H
  go_enter Try.func4, Try.ntmps4
  go_upto_region 3 with (first | ((with_reducible refine gate_dst (N := 1) rfl ?_); (try (refine gate_guard (by rfl) ?_; dsimp only)); refine bX (N := 1) (cs := #[.slice A0_0 l0_0.length c0_0, .slice A0_1 l0_1.length c0_1, .int .i64 a0_2, .int .i64 a0_3, .int .i64 a0_4, .int .i64 a0_5, .int .i64 a0_6, .int .i64 a0_7, .int .i64 a0_8, .int .i64 a0_9, .int .i64 a0_10, .int .i64 a0_11, .int .i64 a0_12]) (t := 26) ?_; intro gb518 hg w5 hbox hb; have BK518 := Aside0.mk (hbox); have GE518 := sG HB hg; replace HB := sL HB hb; clear hb hbox hg) | ((with_reducible refine gate_callee (f := 10) rfl ?_); refine gL (some 10) rfl rfl Try.func10 #[] rfl ?_; (with_reducible refine (mandolinelaw35_alive.calls k  true _ A2.out).mono ?_); rintro e w6 ⟨rfl, hb⟩; refine ⟨_, rfl, ?_⟩; replace BK518 := sB BK518 hb; replace HB := sL HB hb; (try clear hb); (try clear hb2); (try clear hk); (try clear hi)))
  (try simp only [Act.put, List.setIfInBounds_toArray, List.set_cons_zero, List.set_cons_succ])
  go_cut [19] (fun v19 wc => ∃ (kq : Nat) (x19_3 : Bool), v19 = .bool x19_3 ∧ Aside0 (mandolinelaw35_PlanFewest.j0 kq x19_3 l0_0 l0_1 a0_2 a0_3 a0_4 a0_5 a0_6 a0_7 a0_8 a0_9 a0_10 a0_11 a0_12 = some r) ∧ Aside0 (kq ≤ k) ∧ Aside0 (wc.heap[gb518]? = some (.cells #[(.slice A0_0 l0_0.length c0_0), (.slice A0_1 l0_1.length c0_1), .int .i64 a0_2, .int .i64 a0_3, .int .i64 a0_4, .int .i64 a0_5, .int .i64 a0_6, .int .i64 a0_7, .int .i64 a0_8, .int .i64 a0_9, .int .i64 a0_10, .int .i64 a0_11, .int .i64 a0_12] 26 (0, 0))) ∧ Aside0 (Below w.heap.size w wc))
  case first =>
   have H := HC4.out
   clear HC4
   obtain ⟨t520, A7, H⟩ := bO H
   by_cases c8 : t520 = true
   ·subst c8
    rw [if_pos rfl] at H
    have H' := Aside0.mk H
    clear H
    obtain ⟨hcz9_0, hcz9_1, hcz9_2, hcz9_3, hcz9_4, hcz9_5, hcz9_6, hcz9_7, hcz9_8, hcz9_9, hcz9_10, hcz9_11, hcz9_12⟩ := q13 BK518
    obtain ⟨hfz9_0, hfz9_1, hfz9_2, hfz9_3, hfz9_4, hfz9_5, hfz9_6, hfz9_7, hfz9_8, hfz9_9, hfz9_10, hfz9_11, hfz9_12⟩ := z13 BK518
    go_wp2_with (first | ((with_reducible refine gate_callee (f := 11) rfl ?_); refine gL (some 13) rfl rfl Try.func11 #[.agg #[.slice A0_0 l0_0.length c0_0, .slice A0_1 l0_1.length c0_1, .int .i64 a0_2, .int .i64 a0_3, .int .i64 a0_4, .int .i64 a0_5, .int .i64 a0_6, .int .i64 a0_7, .int .i64 a0_8, .int .i64 a0_9, .int .i64 a0_10, .int .i64 a0_11, .int .i64 a0_12], .int .i64 10] rfl ?_; (with_reducible refine (mandolinelaw35_fine.calls k _ _ l0_0 _ _ l0_1 a0_2 a0_3 a0_4 a0_5 a0_6 a0_7 a0_8 a0_9 a0_10 a0_11 a0_12 10 true _ (cU (Kd.C_below HR0_0.out HB.out)) HC0_0.out (cU (Kd.C_below HR0_1.out HB.out)) HC0_1.out A7.out).mono ?_); rintro e w10 ⟨rfl, hb⟩; refine ⟨_, rfl, ?_⟩; replace BK518 := sB BK518 hb; replace HB := sL HB hb; (try clear hb); (try clear hb2); (try clear hk); (try clear hi); obtain ⟨hcz11_0, hcz11_1, hcz11_2, hcz11_3, hcz11_4, hcz11_5, hcz11_6, hcz11_7, hcz11_8, hcz11_9, hcz11_10, hcz11_11, hcz11_12⟩ := q13 BK518; obtain ⟨hfz11_0, hfz11_1, hfz11_2, hfz11_3, hfz11_4, hfz11_5, hfz11_6, hfz11_7, hfz11_8, hfz11_9, hfz11_10, hfz11_11, hfz11_12⟩ := z13 BK518))
    go_meet
    case rel => exact ⟨_, (decide (a0_2 < 0)), eR, H', ⟨by first | omega | exact Nat.le_refl _⟩, ⟨bU BK518⟩, ⟨lU HB⟩⟩
   ·replace c8 := Bool.eq_false_iff.mpr c8
    subst c8
    rw [if_neg (show ¬ (false = true) by decide)] at H
    have H' := Aside0.mk H
    clear H
    obtain ⟨hcz12_0, hcz12_1, hcz12_2, hcz12_3, hcz12_4, hcz12_5, hcz12_6, hcz12_7, hcz12_8, hcz12_9, hcz12_10, hcz12_11, hcz12_12⟩ := q13 BK518
    obtain ⟨hfz12_0, hfz12_1, hfz12_2, hfz12_3, hfz12_4, hfz12_5, hfz12_6, hfz12_7, hfz12_8, hfz12_9, hfz12_10, hfz12_11, hfz12_12⟩ := z13 BK518
    go_wp2_with (first | ((with_reducible refine gate_callee (f := 11) rfl ?_); refine gL (some 13) rfl rfl Try.func11 #[.agg #[.slice A0_0 l0_0.length c0_0, .slice A0_1 l0_1.length c0_1, .int .i64 a0_2, .int .i64 a0_3, .int .i64 a0_4, .int .i64 a0_5, .int .i64 a0_6, .int .i64 a0_7, .int .i64 a0_8, .int .i64 a0_9, .int .i64 a0_10, .int .i64 a0_11, .int .i64 a0_12], .int .i64 10] rfl ?_; (with_reducible refine (mandolinelaw35_fine.calls k _ _ l0_0 _ _ l0_1 a0_2 a0_3 a0_4 a0_5 a0_6 a0_7 a0_8 a0_9 a0_10 a0_11 a0_12 10 false _ (cU (Kd.C_below HR0_0.out HB.out)) HC0_0.out (cU (Kd.C_below HR0_1.out HB.out)) HC0_1.out A7.out).mono ?_); rintro e w13 ⟨rfl, hb⟩; refine ⟨_, rfl, ?_⟩; replace BK518 := sB BK518 hb; replace HB := sL HB hb; (try clear hb); (try clear hb2); (try clear hk); (try clear hi)))
    go_meet
    case rel => exact ⟨_, (true), eR, H', ⟨by first | omega | exact Nat.le_refl _⟩, ⟨bU BK518⟩, ⟨lU HB⟩⟩
  case rest =>
   clear HC4
   try clear c1
   try clear p2
   try clear c3
   try clear c4
   try clear c8
   try clear c10
   try clear c11
   try clear hcz11_0
   try clear hcz11_1
   try clear hcz11_10
   try clear hcz11_11
   try clear hcz11_12
   try clear hcz11_2
   try clear hcz11_3
   try clear hcz11_4
   try clear hcz11_5
   try clear hcz11_6
   try clear hcz11_7
   try clear hcz11_8
   try clear hcz11_9
   try clear hcz12_0
   try clear hcz12_1
   try clear hcz12_10
   try clear hcz12_11
   try clear hcz12_12
   try clear hcz12_2
   try clear hcz12_3
   try clear hcz12_4
   try clear hcz12_5
   try clear hcz12_6
   try clear hcz12_7
   try clear hcz12_8
   try clear hcz12_9
   try clear hcz9_0
   try clear hcz9_1
   try clear hcz9_10
   try clear hcz9_11
   try clear hcz9_12
   try clear hcz9_2
   try clear hcz9_3
   try clear hcz9_4
   try clear hcz9_5
   try clear hcz9_6
   try clear hcz9_7
   try clear hcz9_8
   try clear hcz9_9
   try clear hfz11_0
   try clear hfz11_1
   try clear hfz11_10
   try clear hfz11_11
   try clear hfz11_12
   try clear hfz11_2
   try clear hfz11_3
   try clear hfz11_4
   try clear hfz11_5
   try clear hfz11_6
   try clear hfz11_7
   try clear hfz11_8
   try clear hfz11_9
   try clear hfz12_0
   try clear hfz12_1
   try clear hfz12_10
   try clear hfz12_11
   try clear hfz12_12
   try clear hfz12_2
   try clear hfz12_3
   try clear hfz12_4
   try clear hfz12_5
   try clear hfz12_6
   try clear hfz12_7
   try clear hfz12_8
   try clear hfz12_9
   try clear hfz9_0
   try clear hfz9_1
   try clear hfz9_10
   try clear hfz9_11
   try clear hfz9_12
   try clear hfz9_2
   try clear hfz9_3
   try clear hfz9_4
   try clear hfz9_5
   try clear hfz9_6
   try clear hfz9_7
   try clear hfz9_8
   try clear hfz9_9
   obtain ⟨kq, x19_3, rfl, HA, HJ3, BK518, HB⟩ := hcut
   cases kq with
   | zero => exact absurd HA.out (by simp [mandolinelaw35_PlanFewest.j0])
   | succ kj3 =>
    have H := HA.out
    clear HA
    simp only [mandolinelaw35_PlanFewest.j0] at H
    by_cases c14 : x19_3 = true
    ·subst c14
     rw [if_pos rfl] at H
     obtain rfl := Option.some.inj H
     go_wp2
     go_ret
     exact ⟨eW, lU HB⟩
    ·replace c14 := Bool.eq_false_iff.mpr c14
     subst c14
     rw [if_neg (show ¬ (false = true) by decide)] at H
     replace H := Option.bind_eq_some_iff.mp H
     obtain ⟨⟨t521, t524⟩, A150, H⟩ := H
     dsimp only at H
     have A15 := Aside0.mk A150
     clear A150
     replace H := Option.bind_eq_some_iff.mp H
     obtain ⟨⟨t529, t532⟩, A160, H⟩ := H
     dsimp only at H
     have A16 := Aside0.mk A160
     clear A160
     by_cases c17 : t532 = 0
     ·rw [if_pos c17] at H
      have c17b0 : (t532 == 0) = true := beq_iff_eq.mpr c17
      have c17b1 : (t532 != 0) = false := bne_eq_false_iff_eq.mpr c17
      clear c17
      obtain ⟨t533, A18, H⟩ := bO H
      obtain ⟨t536, A19, H⟩ := bO H
      obtain ⟨t539, A20, H⟩ := bO H
      obtain ⟨t542, A21, H⟩ := bO H
      by_cases c22 : t542 = true
      ·subst c22
       rw [if_pos rfl] at H
       obtain ⟨t543, A23, H⟩ := bO H
       obtain rfl := Option.some.inj H
       obtain ⟨hcz24_0, hcz24_1, hcz24_2, hcz24_3, hcz24_4, hcz24_5, hcz24_6, hcz24_7, hcz24_8, hcz24_9, hcz24_10, hcz24_11, hcz24_12⟩ := q13 BK518
       obtain ⟨hfz24_0, hfz24_1, hfz24_2, hfz24_3, hfz24_4, hfz24_5, hfz24_6, hfz24_7, hfz24_8, hfz24_9, hfz24_10, hfz24_11, hfz24_12⟩ := z13 BK518
       try go_wp2_with (first | ((with_reducible refine gate_callee (f := 12) rfl ?_); refine gL (some 22) rfl rfl Try.func12 #[.agg #[.slice A0_0 l0_0.length c0_0, .slice A0_1 l0_1.length c0_1, .int .i64 a0_2, .int .i64 a0_3, .int .i64 a0_4, .int .i64 a0_5, .int .i64 a0_6, .int .i64 a0_7, .int .i64 a0_8, .int .i64 a0_9, .int .i64 a0_10, .int .i64 a0_11, .int .i64 a0_12]] rfl ?_; (with_reducible refine (mandolinelaw35_sets.calls kj3 _ _ l0_0 _ _ l0_1 a0_2 a0_3 a0_4 a0_5 a0_6 a0_7 a0_8 a0_9 a0_10 a0_11 a0_12 t521 t524 _ (cU (Kd.C_below HR0_0.out HB.out)) HC0_0.out (cU (Kd.C_below HR0_1.out HB.out)) HC0_1.out A15.out).mono ?_); rintro e w25 ⟨v522, v525, rfl, ho0, ho1, hb⟩; refine ⟨_, rfl, ?_⟩; have HO523 := Aside0.mk (Kd.R_lower ho0 (below_size (lU HB))); have HO526 := Aside0.mk (Kd.R_lower ho1 (below_size (lU HB))); replace BK518 := sB BK518 hb; replace HB := sL HB hb; (try clear hb); (try clear hb2); (try clear hk); (try clear hi); (try clear ho0); (try clear ho1)) | ((with_reducible refine gate_dst (N := 3) rfl ?_); (try (refine gate_guard (by rfl) ?_; dsimp only)); refine bX (N := 3) (cs := #[.slice none 0 0]) (t := 30) ?_; intro gb527 hg w26 hbox hb; have BK527 := Aside0.mk (hbox); have GE527 := sG HB hg; have NB518_527 := sN BK518 hg; have NB527_518 := sM BK518 hg; replace HO523 := rB HO523 hb; replace HO526 := rB HO526 hb; replace BK518 := sB BK518 hb; replace HB := sL HB hb; clear hb hbox hg) | ((with_reducible refine gate_dst (N := 4) rfl ?_); (try (refine gate_guard (by rfl) ?_; dsimp only)); refine bX (N := 4) (cs := #[.slice none 0 0]) (t := 30) ?_; intro gb528 hg w27 hbox hb; have BK528 := Aside0.mk (hbox); have GE528 := sG HB hg; have NB518_528 := sN BK518 hg; have NB528_518 := sM BK518 hg; have NB527_528 := sN BK527 hg; have NB528_527 := sM BK527 hg; replace HO523 := rB HO523 hb; replace HO526 := rB HO526 hb; replace BK518 := sB BK518 hb; replace BK527 := sB BK527 hb; replace HB := sL HB hb; clear hb hbox hg; obtain ⟨Ao28, co28, eo28⟩ := Kd.R_slice HO523.out; subst eo28; have hnb29 := NB527_518.out; have hnc29 := NB518_527.out; have hnb30 := NB527_528.out; have hnc30 := NB528_527.out; have hcz31_0 := q1 BK527; have hfz31_0 := blk_frozen BK527.out 0; obtain ⟨Ao32, co32, eo32⟩ := Kd.R_slice HO526.out; subst eo32; have hnb33 := NB528_518.out; have hnc33 := NB518_528.out; have hcz34_0 := q1 BK528; have hfz34_0 := blk_frozen BK528.out 0; obtain ⟨hcz35_0, hcz35_1, hcz35_2, hcz35_3, hcz35_4, hcz35_5, hcz35_6, hcz35_7, hcz35_8, hcz35_9, hcz35_10, hcz35_11, hcz35_12⟩ := q13 BK518; obtain ⟨hfz35_0, hfz35_1, hfz35_2, hfz35_3, hfz35_4, hfz35_5, hfz35_6, hfz35_7, hfz35_8, hfz35_9, hfz35_10, hfz35_11, hfz35_12⟩ := z13 BK518) | ((with_reducible refine gate_callee (f := 13) rfl ?_); refine gL (some 32) rfl rfl Try.func13 #[.agg #[.slice Ao28 t521.length co28], .agg #[.slice Ao32 t524.length co32], .int .i64 a0_2, .agg #[.int .i64 a0_3, .int .i64 a0_4, .int .i64 a0_5, .int .i64 a0_6, .int .i64 a0_7, .int .i64 a0_8, .int .i64 a0_9, .int .i64 a0_10, .int .i64 a0_11, .int .i64 a0_12]] rfl ?_; (with_reducible refine (plan_Plan.calls kj3 _ _ t521 _ _ t524 a0_2 a0_3 a0_4 a0_5 a0_6 a0_7 a0_8 a0_9 a0_10 a0_11 a0_12 t529 t532 _ ?side1 ?side2 ?side3 ?side4 A16.out).mono ?_); (case side1 => refine (Kd.R_reads' (e := 48) (base := w.heap.size) (ok := fun k_ => some k_ ≠ (.slice Ao32 t524.length co32 : Value).ownBlock) (n := t521.length) (c := co28) ?_).2.2; exact (rU ((Kd.R_mono (Kd.R_mono (Kd.R_far (p := ⟨gb528, 0, none⟩) (Kd.R_far (p := ⟨gb527, 0, none⟩) (Kd.R_types (Kd.R_types HO523.out BK527.out (by decide)) BK528.out (by decide)) (fun _ hk => hk.1.2) (.slice Ao28 t521.length co28)) (fun _ hk => hk.2) (.slice Ao32 t524.length co32)) (fun _ h_ => h_.1)) (fun _ h_ => h_.1))))); (case side2 => exact (rN HO523)); (case side3 => refine (Kd.R_reads' (e := 48) (base := w.heap.size) (ok := fun k_ => some k_ ≠ (.slice Ao28 t521.length co28 : Value).ownBlock) (n := t524.length) (c := co32) ?_).2.2; exact (rU ((Kd.R_mono (Kd.R_mono (Kd.R_far (p := ⟨gb528, 0, none⟩) (Kd.R_far (p := ⟨gb527, 0, none⟩) (Kd.R_types (Kd.R_types HO526.out BK527.out (by decide)) BK528.out (by decide)) (fun _ hk => hk.1.2) (.slice Ao28 t521.length co28)) (fun _ hk => hk.2) (.slice Ao32 t524.length co32)) (fun _ h_ => h_.1)) (fun _ h_ => h_.1))))); (case side4 => exact (rN HO526)); rintro e w36 ⟨v530, rfl, ho0, hb⟩; refine ⟨_, rfl, ?_⟩; have HO531 := Aside0.mk (Kd.R_lower (Kd.R_new' (Kd.R_new' ho0 (Kd.R_lt (rU ((Kd.R_mono (Kd.R_mono (Kd.R_far (p := ⟨gb528, 0, none⟩) (Kd.R_far (p := ⟨gb527, 0, none⟩) (Kd.R_types (Kd.R_types HO523.out BK527.out (by decide)) BK528.out (by decide)) (fun _ hk => hk.1.2) (.slice Ao28 t521.length co28)) (fun _ hk => hk.2) (.slice Ao32 t524.length co32)) (fun _ h_ => h_.1)) (fun _ h_ => h_.1)))))) (Kd.R_lt (rU ((Kd.R_mono (Kd.R_mono (Kd.R_far (p := ⟨gb528, 0, none⟩) (Kd.R_far (p := ⟨gb527, 0, none⟩) (Kd.R_types (Kd.R_types HO526.out BK527.out (by decide)) BK528.out (by decide)) (fun _ hk => hk.1.2) (.slice Ao28 t521.length co28)) (fun _ hk => hk.2) (.slice Ao32 t524.length co32)) (fun _ h_ => h_.1)) (fun _ h_ => h_.1)))))) (below_size (lU HB))); replace HO523 := Aside0.mk (Kd.R_elder' (rU ((Kd.R_mono (Kd.R_mono (Kd.R_far (p := ⟨gb528, 0, none⟩) (Kd.R_far (p := ⟨gb527, 0, none⟩) (Kd.R_types (Kd.R_types HO523.out BK527.out (by decide)) BK528.out (by decide)) (fun _ hk => hk.1.2) (.slice Ao28 t521.length co28)) (fun _ hk => hk.2) (.slice Ao32 t524.length co32)) (fun _ h_ => h_.1)) (fun _ h_ => h_.1)))) (Kd.R_base ho0) hb); replace HO526 := Aside0.mk (Kd.R_elder' (rU ((Kd.R_mono (Kd.R_mono (Kd.R_far (p := ⟨gb528, 0, none⟩) (Kd.R_far (p := ⟨gb527, 0, none⟩) (Kd.R_types (Kd.R_types HO526.out BK527.out (by decide)) BK528.out (by decide)) (fun _ hk => hk.1.2) (.slice Ao28 t521.length co28)) (fun _ hk => hk.2) (.slice Ao32 t524.length co32)) (fun _ h_ => h_.1)) (fun _ h_ => h_.1)))) (Kd.R_base ho0) hb); replace BK518 := Aside0.mk (blk_below (g := gb518) (o := .cells #[.slice A0_0 l0_0.length c0_0, .slice A0_1 l0_1.length c0_1, .int .i64 a0_2, .int .i64 a0_3, .int .i64 a0_4, .int .i64 a0_5, .int .i64 a0_6, .int .i64 a0_7, .int .i64 a0_8, .int .i64 a0_9, .int .i64 a0_10, .int .i64 a0_11, .int .i64 a0_12] 26 (0, 0)) (bF BK518) hb); replace BK527 := Aside0.mk (blk_below (g := gb527) (o := .cells #[.slice Ao28 t521.length co28] 30 (0, 0)) (by (with_reducible repeat (first | refine blk_drewN ?_ _ | refine blk_drew ?_ | refine blk_alloc ?_ _)); refine blk_far ?_ NB527_528.out _; (with_reducible repeat (first | refine blk_drewN ?_ _ | refine blk_drew ?_ | refine blk_alloc ?_ _)); refine blk_put (cs := #[.slice none 0 0]) ?_ 0 _ rfl; (with_reducible repeat (first | refine blk_drewN ?_ _ | refine blk_drew ?_ | refine blk_alloc ?_ _)); exact BK527.out) hb); replace BK528 := Aside0.mk (blk_below (g := gb528) (o := .cells #[.slice Ao32 t524.length co32] 30 (0, 0)) (by (with_reducible repeat (first | refine blk_drewN ?_ _ | refine blk_drew ?_ | refine blk_alloc ?_ _)); refine blk_put (cs := #[.slice none 0 0]) ?_ 0 _ rfl; (with_reducible repeat (first | refine blk_drewN ?_ _ | refine blk_drew ?_ | refine blk_alloc ?_ _)); refine blk_far ?_ NB528_527.out _; (with_reducible repeat (first | refine blk_drewN ?_ _ | refine blk_drew ?_ | refine blk_alloc ?_ _)); exact BK528.out) hb); replace HB := sL HB hb; (try clear hb); (try clear hb2); (try clear hk); (try clear hi); (try clear ho0)))
       replace HO523 := Aside0.mk (Kd.R_drew HO523.out)
       replace HO526 := Aside0.mk (Kd.R_drew HO526.out)
       replace HO531 := Aside0.mk (Kd.R_drew HO531.out)
       replace BK518 := Aside0.mk (blk_drew BK518.out)
       replace BK527 := Aside0.mk (blk_drew BK527.out)
       replace BK528 := Aside0.mk (blk_drew BK528.out)
       replace HB := Aside0.mk (below_drew1 HB.out)
       refine start_ (n := 8) (S := fun w' => w'.cell? ⟨gb518, 0, none⟩ = some (.slice A0_0 l0_0.length c0_0) ∧ w'.cell? ⟨gb518, 1, none⟩ = some (.slice A0_1 l0_1.length c0_1) ∧ w'.cell? ⟨gb518, 2, none⟩ = some (.int .i64 a0_2) ∧ w'.cell? ⟨gb518, 3, none⟩ = some (.int .i64 a0_3) ∧ w'.cell? ⟨gb518, 4, none⟩ = some (.int .i64 a0_4) ∧ w'.cell? ⟨gb518, 5, none⟩ = some (.int .i64 a0_5) ∧ w'.cell? ⟨gb518, 6, none⟩ = some (.int .i64 a0_6) ∧ w'.cell? ⟨gb518, 7, none⟩ = some (.int .i64 a0_7) ∧ w'.cell? ⟨gb518, 8, none⟩ = some (.int .i64 a0_8) ∧ w'.cell? ⟨gb518, 9, none⟩ = some (.int .i64 a0_9) ∧ w'.cell? ⟨gb518, 10, none⟩ = some (.int .i64 a0_10) ∧ w'.cell? ⟨gb518, 11, none⟩ = some (.int .i64 a0_11) ∧ w'.cell? ⟨gb518, 12, none⟩ = some (.int .i64 a0_12)) (ds := []) #[false, false, false, false, false, false, false, false] (by kernel_rfl) rfl rfl ⟨(blk_cell BK518.out 0).trans rfl, (blk_cell BK518.out 1).trans rfl, (blk_cell BK518.out 2).trans rfl, (blk_cell BK518.out 3).trans rfl, (blk_cell BK518.out 4).trans rfl, (blk_cell BK518.out 5).trans rfl, (blk_cell BK518.out 6).trans rfl, (blk_cell BK518.out 7).trans rfl, (blk_cell BK518.out 8).trans rfl, (blk_cell BK518.out 9).trans rfl, (blk_cell BK518.out 10).trans rfl, (blk_cell BK518.out 11).trans rfl, (blk_cell BK518.out 12).trans rfl⟩ (fun hHeld => ?_); refine with_tabW mandolinelaw35_PlanFewest.tab9 mandolinelaw35_PlanFewest.bits9 (fun HT_ HW_ => ?_)
       generalize w36.drew = w37 at HO523 HO526 HO531 BK518 BK527 BK528 HB hHeld ⊢
       refine pS (i := 0) (N := some 37) (ma 8 1) rfl rfl HT_.out ?_
       refine pS (i := 3) (N := some 40) (ma 8 9) rfl rfl HT_.out ?_
       refine tS (i := 1) (N := some 38) (ma 8 11) rfl rfl HT_.out HW_.out hHeld ?_
       refine tS (i := 4) (N := some 41) (ma 8 27) rfl rfl HT_.out HW_.out hHeld ?_
       refine one_ (i := 2) (N := some 39) (ma 8 31) rfl rfl (one_of HT_.out (by kernel_rfl)) (by decide) (fun K hK => ?_)
       refine gO Try.func15 #[.slice A0_0 l0_0.length c0_0] rfl rfl ?_
       with_reducible refine (mandolineref02_Of.calls kj3 _ _ l0_0 t533 _ (cU (Kd.C_below HR0_0.out HB.out)) HC0_0.out A18.out).mono ?_
       rintro e w38 ⟨v534, rfl, ho0, hb⟩
       refine ⟨_, rfl, ?_⟩
       have HO535 := Aside0.mk (Kd.R_lower (Kd.R_new' (Kd.R_new' (Kd.R_new' ho0 (Kd.R_lt (rU HO523.out))) (Kd.R_lt (rU HO526.out))) (Kd.R_lt (rU HO531.out))) (below_size (lU HB)))
       replace HO523 := rE HO523 ho0 hb
       replace HO526 := rE HO526 ho0 hb
       replace HO531 := rE HO531 ho0 hb
       replace BK518 := sB BK518 hb
       replace BK527 := sB BK527 hb
       replace BK528 := sB BK528 hb
       replace HB := sL HB hb
       (try clear hb)
       (try clear hb2)
       (try clear hk)
       (try clear hi)
       (try clear ho0)
       refine hK.out _ _ ⟨(blk_cell BK518.out 0).trans rfl, (blk_cell BK518.out 1).trans rfl, (blk_cell BK518.out 2).trans rfl, (blk_cell BK518.out 3).trans rfl, (blk_cell BK518.out 4).trans rfl, (blk_cell BK518.out 5).trans rfl, (blk_cell BK518.out 6).trans rfl, (blk_cell BK518.out 7).trans rfl, (blk_cell BK518.out 8).trans rfl, (blk_cell BK518.out 9).trans rfl, (blk_cell BK518.out 10).trans rfl, (blk_cell BK518.out 11).trans rfl, (blk_cell BK518.out 12).trans rfl⟩ (fun hHeld => ?_)
       clear hK K
       refine nP (some 39) ?_
       refine one_ (i := 5) (N := some 42) (ma 8 63) rfl rfl (one_of HT_.out (by kernel_rfl)) (by decide) (fun K hK => ?_)
       refine gO Try.func15 #[.slice A0_1 l0_1.length c0_1] rfl rfl ?_
       with_reducible refine (mandolineref02_Of.calls kj3 _ _ l0_1 t536 _ (cU (Kd.C_below HR0_1.out HB.out)) HC0_1.out A19.out).mono ?_
       rintro e w39 ⟨v537, rfl, ho0, hb⟩
       refine ⟨_, rfl, ?_⟩
       have HO538 := Aside0.mk (Kd.R_lower (Kd.R_new' (Kd.R_new' (Kd.R_new' (Kd.R_new' ho0 (Kd.R_lt (rU HO523.out))) (Kd.R_lt (rU HO526.out))) (Kd.R_lt (rU HO531.out))) (Kd.R_lt (rU HO535.out))) (below_size (lU HB)))
       replace HO523 := rE HO523 ho0 hb
       replace HO526 := rE HO526 ho0 hb
       replace HO531 := rE HO531 ho0 hb
       replace HO535 := rE HO535 ho0 hb
       replace BK518 := sB BK518 hb
       replace BK527 := sB BK527 hb
       replace BK528 := sB BK528 hb
       replace HB := sL HB hb
       (try clear hb)
       (try clear hb2)
       (try clear hk)
       (try clear hi)
       (try clear ho0)
       refine hK.out _ _ ⟨(blk_cell BK518.out 0).trans rfl, (blk_cell BK518.out 1).trans rfl, (blk_cell BK518.out 2).trans rfl, (blk_cell BK518.out 3).trans rfl, (blk_cell BK518.out 4).trans rfl, (blk_cell BK518.out 5).trans rfl, (blk_cell BK518.out 6).trans rfl, (blk_cell BK518.out 7).trans rfl, (blk_cell BK518.out 8).trans rfl, (blk_cell BK518.out 9).trans rfl, (blk_cell BK518.out 10).trans rfl, (blk_cell BK518.out 11).trans rfl, (blk_cell BK518.out 12).trans rfl⟩ (fun hHeld => ?_)
       clear hK K
       refine nP (some 42) ?_
       refine pS (i := 6) (N := some 7) (ma 8 127) rfl rfl HT_.out ?_
       refine pS (i := 7) (N := some 8) (ma 8 255) rfl rfl HT_.out ?_
       refine done_ (done_of HT_.out (by kernel_rfl)) ?_
       obtain ⟨hcz40_0, hcz40_1, hcz40_2, hcz40_3, hcz40_4, hcz40_5, hcz40_6, hcz40_7, hcz40_8, hcz40_9, hcz40_10, hcz40_11, hcz40_12⟩ := q13 BK518
       obtain ⟨hfz40_0, hfz40_1, hfz40_2, hfz40_3, hfz40_4, hfz40_5, hfz40_6, hfz40_7, hfz40_8, hfz40_9, hfz40_10, hfz40_11, hfz40_12⟩ := z13 BK518
       obtain ⟨Ao41, co41, eo41⟩ := Kd.R_slice HO535.out
       subst eo41
       try go_wp2_with (first | ((with_reducible refine gate_callee (f := 17) rfl ?_); refine gL (some 49) rfl rfl Try.func17 #[.slice Ao41 t533.length co41, .int .i64 a0_2, .int .i64 a0_3] rfl ?_; (with_reducible refine (mandolineref35_Units.calls kj3 _ _ t533 a0_2 a0_3 t539 _ (cU (rC HO535)) (rN HO535) A20.out).mono ?_); rintro e w42 ⟨v540, rfl, ho0, hb⟩; refine ⟨_, rfl, ?_⟩; have HO541 := Aside0.mk (Kd.R_lower (Kd.R_new' (Kd.R_new' (Kd.R_new' (Kd.R_new' (Kd.R_new' ho0 (Kd.R_lt (rU HO523.out))) (Kd.R_lt (rU HO526.out))) (Kd.R_lt (rU HO531.out))) (Kd.R_lt (rU HO535.out))) (Kd.R_lt (rU HO538.out))) (below_size (lU HB))); replace HO523 := rE HO523 ho0 hb; replace HO526 := rE HO526 ho0 hb; replace HO531 := rE HO531 ho0 hb; replace HO535 := rE HO535 ho0 hb; replace HO538 := rE HO538 ho0 hb; replace BK518 := sB BK518 hb; replace BK527 := sB BK527 hb; replace BK528 := sB BK528 hb; replace HB := sL HB hb; (try clear hb); (try clear hb2); (try clear hk); (try clear hi); (try clear ho0); obtain ⟨hcz43_0, hcz43_1, hcz43_2, hcz43_3, hcz43_4, hcz43_5, hcz43_6, hcz43_7, hcz43_8, hcz43_9, hcz43_10, hcz43_11, hcz43_12⟩ := q13 BK518; obtain ⟨hfz43_0, hfz43_1, hfz43_2, hfz43_3, hfz43_4, hfz43_5, hfz43_6, hfz43_7, hfz43_8, hfz43_9, hfz43_10, hfz43_11, hfz43_12⟩ := z13 BK518; obtain ⟨Ao44, co44, eo44⟩ := Kd.R_slice HO531.out; subst eo44; obtain ⟨Ao45, co45, eo45⟩ := Kd.R_slice HO538.out; subst eo45) | ((with_reducible refine gate_callee (f := 18) rfl ?_); refine gL (some 57) rfl rfl Try.func18 #[.slice Ao44 t529.length co44, .slice Ao41 t533.length co41, .slice Ao45 t536.length co45, .int .i64 a0_2, .agg #[.int .i64 a0_3, .int .i64 a0_4, .int .i64 a0_5, .int .i64 a0_6, .int .i64 a0_7, .int .i64 a0_8, .int .i64 a0_9, .int .i64 a0_10, .int .i64 a0_11, .int .i64 a0_12]] rfl ?_; (with_reducible refine (mandolineref35_Right.calls kj3 _ _ t529 _ _ t533 _ _ t536 a0_2 a0_3 a0_4 a0_5 a0_6 a0_7 a0_8 a0_9 a0_10 a0_11 a0_12 true _ (cU (rC HO531)) (rN HO531) (cU (rC HO535)) (rN HO535) (cU (rC HO538)) (rN HO538) A21.out).mono ?_); rintro e w46 ⟨rfl, hb⟩; refine ⟨_, rfl, ?_⟩; replace HO523 := rB HO523 hb; replace HO526 := rB HO526 hb; replace HO531 := rB HO531 hb; replace HO535 := rB HO535 hb; replace HO538 := rB HO538 hb; replace HO541 := rB HO541 hb; replace BK518 := sB BK518 hb; replace BK527 := sB BK527 hb; replace BK528 := sB BK528 hb; replace HB := sL HB hb; (try clear hb); (try clear hb2); (try clear hk); (try clear hi); obtain ⟨hcz47_0, hcz47_1, hcz47_2, hcz47_3, hcz47_4, hcz47_5, hcz47_6, hcz47_7, hcz47_8, hcz47_9, hcz47_10, hcz47_11, hcz47_12⟩ := q13 BK518; obtain ⟨hfz47_0, hfz47_1, hfz47_2, hfz47_3, hfz47_4, hfz47_5, hfz47_6, hfz47_7, hfz47_8, hfz47_9, hfz47_10, hfz47_11, hfz47_12⟩ := z13 BK518; obtain ⟨Ao48, co48, eo48⟩ := Kd.R_slice HO541.out; subst eo48) | (go_at_call 19; (with_reducible refine (mandolineref35_Fewest.calls kj3 _ _ t539 _ _ t539 _ _ t536 a0_2 a0_3 a0_4 a0_5 a0_6 a0_7 a0_8 a0_9 a0_10 a0_11 a0_12 t543 _ (cU (rC HO541)) (rN HO541) (cU (rC HO541)) (rN HO541) (cU (rC HO538)) (rN HO538) A23.out).mono ?_); rintro e w49 ⟨rfl, hb⟩; replace HO523 := rB HO523 hb; replace HO526 := rB HO526 hb; replace HO531 := rB HO531 hb; replace HO535 := rB HO535 hb; replace HO538 := rB HO538 hb; replace HO541 := rB HO541 hb; replace BK518 := sB BK518 hb; replace BK527 := sB BK527 hb; replace BK528 := sB BK528 hb; replace HB := sL HB hb; (try clear hb); (try clear hb2); (try clear hk); (try clear hi)))
       go_ret
       exact ⟨eW, lU HB⟩
      ·replace c22 := Bool.eq_false_iff.mpr c22
       subst c22
       rw [if_neg (show ¬ (false = true) by decide)] at H
       obtain rfl := Option.some.inj H
       obtain ⟨hcz50_0, hcz50_1, hcz50_2, hcz50_3, hcz50_4, hcz50_5, hcz50_6, hcz50_7, hcz50_8, hcz50_9, hcz50_10, hcz50_11, hcz50_12⟩ := q13 BK518
       obtain ⟨hfz50_0, hfz50_1, hfz50_2, hfz50_3, hfz50_4, hfz50_5, hfz50_6, hfz50_7, hfz50_8, hfz50_9, hfz50_10, hfz50_11, hfz50_12⟩ := z13 BK518
       try go_wp2_with (first | ((with_reducible refine gate_callee (f := 12) rfl ?_); refine gL (some 22) rfl rfl Try.func12 #[.agg #[.slice A0_0 l0_0.length c0_0, .slice A0_1 l0_1.length c0_1, .int .i64 a0_2, .int .i64 a0_3, .int .i64 a0_4, .int .i64 a0_5, .int .i64 a0_6, .int .i64 a0_7, .int .i64 a0_8, .int .i64 a0_9, .int .i64 a0_10, .int .i64 a0_11, .int .i64 a0_12]] rfl ?_; (with_reducible refine (mandolinelaw35_sets.calls kj3 _ _ l0_0 _ _ l0_1 a0_2 a0_3 a0_4 a0_5 a0_6 a0_7 a0_8 a0_9 a0_10 a0_11 a0_12 t521 t524 _ (cU (Kd.C_below HR0_0.out HB.out)) HC0_0.out (cU (Kd.C_below HR0_1.out HB.out)) HC0_1.out A15.out).mono ?_); rintro e w51 ⟨v522, v525, rfl, ho0, ho1, hb⟩; refine ⟨_, rfl, ?_⟩; have HO523 := Aside0.mk (Kd.R_lower ho0 (below_size (lU HB))); have HO526 := Aside0.mk (Kd.R_lower ho1 (below_size (lU HB))); replace BK518 := sB BK518 hb; replace HB := sL HB hb; (try clear hb); (try clear hb2); (try clear hk); (try clear hi); (try clear ho0); (try clear ho1)) | ((with_reducible refine gate_dst (N := 3) rfl ?_); (try (refine gate_guard (by rfl) ?_; dsimp only)); refine bX (N := 3) (cs := #[.slice none 0 0]) (t := 30) ?_; intro gb527 hg w52 hbox hb; have BK527 := Aside0.mk (hbox); have GE527 := sG HB hg; have NB518_527 := sN BK518 hg; have NB527_518 := sM BK518 hg; replace HO523 := rB HO523 hb; replace HO526 := rB HO526 hb; replace BK518 := sB BK518 hb; replace HB := sL HB hb; clear hb hbox hg) | ((with_reducible refine gate_dst (N := 4) rfl ?_); (try (refine gate_guard (by rfl) ?_; dsimp only)); refine bX (N := 4) (cs := #[.slice none 0 0]) (t := 30) ?_; intro gb528 hg w53 hbox hb; have BK528 := Aside0.mk (hbox); have GE528 := sG HB hg; have NB518_528 := sN BK518 hg; have NB528_518 := sM BK518 hg; have NB527_528 := sN BK527 hg; have NB528_527 := sM BK527 hg; replace HO523 := rB HO523 hb; replace HO526 := rB HO526 hb; replace BK518 := sB BK518 hb; replace BK527 := sB BK527 hb; replace HB := sL HB hb; clear hb hbox hg; obtain ⟨Ao54, co54, eo54⟩ := Kd.R_slice HO523.out; subst eo54; have hnb55 := NB527_518.out; have hnc55 := NB518_527.out; have hnb56 := NB527_528.out; have hnc56 := NB528_527.out; have hcz57_0 := q1 BK527; have hfz57_0 := blk_frozen BK527.out 0; obtain ⟨Ao58, co58, eo58⟩ := Kd.R_slice HO526.out; subst eo58; have hnb59 := NB528_518.out; have hnc59 := NB518_528.out; have hcz60_0 := q1 BK528; have hfz60_0 := blk_frozen BK528.out 0; obtain ⟨hcz61_0, hcz61_1, hcz61_2, hcz61_3, hcz61_4, hcz61_5, hcz61_6, hcz61_7, hcz61_8, hcz61_9, hcz61_10, hcz61_11, hcz61_12⟩ := q13 BK518; obtain ⟨hfz61_0, hfz61_1, hfz61_2, hfz61_3, hfz61_4, hfz61_5, hfz61_6, hfz61_7, hfz61_8, hfz61_9, hfz61_10, hfz61_11, hfz61_12⟩ := z13 BK518) | ((with_reducible refine gate_callee (f := 13) rfl ?_); refine gL (some 32) rfl rfl Try.func13 #[.agg #[.slice Ao54 t521.length co54], .agg #[.slice Ao58 t524.length co58], .int .i64 a0_2, .agg #[.int .i64 a0_3, .int .i64 a0_4, .int .i64 a0_5, .int .i64 a0_6, .int .i64 a0_7, .int .i64 a0_8, .int .i64 a0_9, .int .i64 a0_10, .int .i64 a0_11, .int .i64 a0_12]] rfl ?_; (with_reducible refine (plan_Plan.calls kj3 _ _ t521 _ _ t524 a0_2 a0_3 a0_4 a0_5 a0_6 a0_7 a0_8 a0_9 a0_10 a0_11 a0_12 t529 t532 _ ?side1 ?side2 ?side3 ?side4 A16.out).mono ?_); (case side1 => refine (Kd.R_reads' (e := 48) (base := w.heap.size) (ok := fun k_ => some k_ ≠ (.slice Ao58 t524.length co58 : Value).ownBlock) (n := t521.length) (c := co54) ?_).2.2; exact (rU ((Kd.R_mono (Kd.R_mono (Kd.R_far (p := ⟨gb528, 0, none⟩) (Kd.R_far (p := ⟨gb527, 0, none⟩) (Kd.R_types (Kd.R_types HO523.out BK527.out (by decide)) BK528.out (by decide)) (fun _ hk => hk.1.2) (.slice Ao54 t521.length co54)) (fun _ hk => hk.2) (.slice Ao58 t524.length co58)) (fun _ h_ => h_.1)) (fun _ h_ => h_.1))))); (case side2 => exact (rN HO523)); (case side3 => refine (Kd.R_reads' (e := 48) (base := w.heap.size) (ok := fun k_ => some k_ ≠ (.slice Ao54 t521.length co54 : Value).ownBlock) (n := t524.length) (c := co58) ?_).2.2; exact (rU ((Kd.R_mono (Kd.R_mono (Kd.R_far (p := ⟨gb528, 0, none⟩) (Kd.R_far (p := ⟨gb527, 0, none⟩) (Kd.R_types (Kd.R_types HO526.out BK527.out (by decide)) BK528.out (by decide)) (fun _ hk => hk.1.2) (.slice Ao54 t521.length co54)) (fun _ hk => hk.2) (.slice Ao58 t524.length co58)) (fun _ h_ => h_.1)) (fun _ h_ => h_.1))))); (case side4 => exact (rN HO526)); rintro e w62 ⟨v530, rfl, ho0, hb⟩; refine ⟨_, rfl, ?_⟩; have HO531 := Aside0.mk (Kd.R_lower (Kd.R_new' (Kd.R_new' ho0 (Kd.R_lt (rU ((Kd.R_mono (Kd.R_mono (Kd.R_far (p := ⟨gb528, 0, none⟩) (Kd.R_far (p := ⟨gb527, 0, none⟩) (Kd.R_types (Kd.R_types HO523.out BK527.out (by decide)) BK528.out (by decide)) (fun _ hk => hk.1.2) (.slice Ao54 t521.length co54)) (fun _ hk => hk.2) (.slice Ao58 t524.length co58)) (fun _ h_ => h_.1)) (fun _ h_ => h_.1)))))) (Kd.R_lt (rU ((Kd.R_mono (Kd.R_mono (Kd.R_far (p := ⟨gb528, 0, none⟩) (Kd.R_far (p := ⟨gb527, 0, none⟩) (Kd.R_types (Kd.R_types HO526.out BK527.out (by decide)) BK528.out (by decide)) (fun _ hk => hk.1.2) (.slice Ao54 t521.length co54)) (fun _ hk => hk.2) (.slice Ao58 t524.length co58)) (fun _ h_ => h_.1)) (fun _ h_ => h_.1)))))) (below_size (lU HB))); replace HO523 := Aside0.mk (Kd.R_elder' (rU ((Kd.R_mono (Kd.R_mono (Kd.R_far (p := ⟨gb528, 0, none⟩) (Kd.R_far (p := ⟨gb527, 0, none⟩) (Kd.R_types (Kd.R_types HO523.out BK527.out (by decide)) BK528.out (by decide)) (fun _ hk => hk.1.2) (.slice Ao54 t521.length co54)) (fun _ hk => hk.2) (.slice Ao58 t524.length co58)) (fun _ h_ => h_.1)) (fun _ h_ => h_.1)))) (Kd.R_base ho0) hb); replace HO526 := Aside0.mk (Kd.R_elder' (rU ((Kd.R_mono (Kd.R_mono (Kd.R_far (p := ⟨gb528, 0, none⟩) (Kd.R_far (p := ⟨gb527, 0, none⟩) (Kd.R_types (Kd.R_types HO526.out BK527.out (by decide)) BK528.out (by decide)) (fun _ hk => hk.1.2) (.slice Ao54 t521.length co54)) (fun _ hk => hk.2) (.slice Ao58 t524.length co58)) (fun _ h_ => h_.1)) (fun _ h_ => h_.1)))) (Kd.R_base ho0) hb); replace BK518 := Aside0.mk (blk_below (g := gb518) (o := .cells #[.slice A0_0 l0_0.length c0_0, .slice A0_1 l0_1.length c0_1, .int .i64 a0_2, .int .i64 a0_3, .int .i64 a0_4, .int .i64 a0_5, .int .i64 a0_6, .int .i64 a0_7, .int .i64 a0_8, .int .i64 a0_9, .int .i64 a0_10, .int .i64 a0_11, .int .i64 a0_12] 26 (0, 0)) (bF BK518) hb); replace BK527 := Aside0.mk (blk_below (g := gb527) (o := .cells #[.slice Ao54 t521.length co54] 30 (0, 0)) (by (with_reducible repeat (first | refine blk_drewN ?_ _ | refine blk_drew ?_ | refine blk_alloc ?_ _)); refine blk_far ?_ NB527_528.out _; (with_reducible repeat (first | refine blk_drewN ?_ _ | refine blk_drew ?_ | refine blk_alloc ?_ _)); refine blk_put (cs := #[.slice none 0 0]) ?_ 0 _ rfl; (with_reducible repeat (first | refine blk_drewN ?_ _ | refine blk_drew ?_ | refine blk_alloc ?_ _)); exact BK527.out) hb); replace BK528 := Aside0.mk (blk_below (g := gb528) (o := .cells #[.slice Ao58 t524.length co58] 30 (0, 0)) (by (with_reducible repeat (first | refine blk_drewN ?_ _ | refine blk_drew ?_ | refine blk_alloc ?_ _)); refine blk_put (cs := #[.slice none 0 0]) ?_ 0 _ rfl; (with_reducible repeat (first | refine blk_drewN ?_ _ | refine blk_drew ?_ | refine blk_alloc ?_ _)); refine blk_far ?_ NB528_527.out _; (with_reducible repeat (first | refine blk_drewN ?_ _ | refine blk_drew ?_ | refine blk_alloc ?_ _)); exact BK528.out) hb); replace HB := sL HB hb; (try clear hb); (try clear hb2); (try clear hk); (try clear hi); (try clear ho0)))
       replace HO523 := Aside0.mk (Kd.R_drew HO523.out)
       replace HO526 := Aside0.mk (Kd.R_drew HO526.out)
       replace HO531 := Aside0.mk (Kd.R_drew HO531.out)
       replace BK518 := Aside0.mk (blk_drew BK518.out)
       replace BK527 := Aside0.mk (blk_drew BK527.out)
       replace BK528 := Aside0.mk (blk_drew BK528.out)
       replace HB := Aside0.mk (below_drew1 HB.out)
       refine start_ (n := 8) (S := fun w' => w'.cell? ⟨gb518, 0, none⟩ = some (.slice A0_0 l0_0.length c0_0) ∧ w'.cell? ⟨gb518, 1, none⟩ = some (.slice A0_1 l0_1.length c0_1) ∧ w'.cell? ⟨gb518, 2, none⟩ = some (.int .i64 a0_2) ∧ w'.cell? ⟨gb518, 3, none⟩ = some (.int .i64 a0_3) ∧ w'.cell? ⟨gb518, 4, none⟩ = some (.int .i64 a0_4) ∧ w'.cell? ⟨gb518, 5, none⟩ = some (.int .i64 a0_5) ∧ w'.cell? ⟨gb518, 6, none⟩ = some (.int .i64 a0_6) ∧ w'.cell? ⟨gb518, 7, none⟩ = some (.int .i64 a0_7) ∧ w'.cell? ⟨gb518, 8, none⟩ = some (.int .i64 a0_8) ∧ w'.cell? ⟨gb518, 9, none⟩ = some (.int .i64 a0_9) ∧ w'.cell? ⟨gb518, 10, none⟩ = some (.int .i64 a0_10) ∧ w'.cell? ⟨gb518, 11, none⟩ = some (.int .i64 a0_11) ∧ w'.cell? ⟨gb518, 12, none⟩ = some (.int .i64 a0_12)) (ds := []) #[false, false, false, false, false, false, false, false] (by kernel_rfl) rfl rfl ⟨(blk_cell BK518.out 0).trans rfl, (blk_cell BK518.out 1).trans rfl, (blk_cell BK518.out 2).trans rfl, (blk_cell BK518.out 3).trans rfl, (blk_cell BK518.out 4).trans rfl, (blk_cell BK518.out 5).trans rfl, (blk_cell BK518.out 6).trans rfl, (blk_cell BK518.out 7).trans rfl, (blk_cell BK518.out 8).trans rfl, (blk_cell BK518.out 9).trans rfl, (blk_cell BK518.out 10).trans rfl, (blk_cell BK518.out 11).trans rfl, (blk_cell BK518.out 12).trans rfl⟩ (fun hHeld => ?_); refine with_tabW mandolinelaw35_PlanFewest.tab9 mandolinelaw35_PlanFewest.bits9 (fun HT_ HW_ => ?_)
       generalize w62.drew = w63 at HO523 HO526 HO531 BK518 BK527 BK528 HB hHeld ⊢
       refine pS (i := 0) (N := some 37) (ma 8 1) rfl rfl HT_.out ?_
       refine pS (i := 3) (N := some 40) (ma 8 9) rfl rfl HT_.out ?_
       refine tS (i := 1) (N := some 38) (ma 8 11) rfl rfl HT_.out HW_.out hHeld ?_
       refine tS (i := 4) (N := some 41) (ma 8 27) rfl rfl HT_.out HW_.out hHeld ?_
       refine one_ (i := 2) (N := some 39) (ma 8 31) rfl rfl (one_of HT_.out (by kernel_rfl)) (by decide) (fun K hK => ?_)
       refine gO Try.func15 #[.slice A0_0 l0_0.length c0_0] rfl rfl ?_
       with_reducible refine (mandolineref02_Of.calls kj3 _ _ l0_0 t533 _ (cU (Kd.C_below HR0_0.out HB.out)) HC0_0.out A18.out).mono ?_
       rintro e w64 ⟨v534, rfl, ho0, hb⟩
       refine ⟨_, rfl, ?_⟩
       have HO535 := Aside0.mk (Kd.R_lower (Kd.R_new' (Kd.R_new' (Kd.R_new' ho0 (Kd.R_lt (rU HO523.out))) (Kd.R_lt (rU HO526.out))) (Kd.R_lt (rU HO531.out))) (below_size (lU HB)))
       replace HO523 := rE HO523 ho0 hb
       replace HO526 := rE HO526 ho0 hb
       replace HO531 := rE HO531 ho0 hb
       replace BK518 := sB BK518 hb
       replace BK527 := sB BK527 hb
       replace BK528 := sB BK528 hb
       replace HB := sL HB hb
       (try clear hb)
       (try clear hb2)
       (try clear hk)
       (try clear hi)
       (try clear ho0)
       refine hK.out _ _ ⟨(blk_cell BK518.out 0).trans rfl, (blk_cell BK518.out 1).trans rfl, (blk_cell BK518.out 2).trans rfl, (blk_cell BK518.out 3).trans rfl, (blk_cell BK518.out 4).trans rfl, (blk_cell BK518.out 5).trans rfl, (blk_cell BK518.out 6).trans rfl, (blk_cell BK518.out 7).trans rfl, (blk_cell BK518.out 8).trans rfl, (blk_cell BK518.out 9).trans rfl, (blk_cell BK518.out 10).trans rfl, (blk_cell BK518.out 11).trans rfl, (blk_cell BK518.out 12).trans rfl⟩ (fun hHeld => ?_)
       clear hK K
       refine nP (some 39) ?_
       refine one_ (i := 5) (N := some 42) (ma 8 63) rfl rfl (one_of HT_.out (by kernel_rfl)) (by decide) (fun K hK => ?_)
       refine gO Try.func15 #[.slice A0_1 l0_1.length c0_1] rfl rfl ?_
       with_reducible refine (mandolineref02_Of.calls kj3 _ _ l0_1 t536 _ (cU (Kd.C_below HR0_1.out HB.out)) HC0_1.out A19.out).mono ?_
       rintro e w65 ⟨v537, rfl, ho0, hb⟩
       refine ⟨_, rfl, ?_⟩
       have HO538 := Aside0.mk (Kd.R_lower (Kd.R_new' (Kd.R_new' (Kd.R_new' (Kd.R_new' ho0 (Kd.R_lt (rU HO523.out))) (Kd.R_lt (rU HO526.out))) (Kd.R_lt (rU HO531.out))) (Kd.R_lt (rU HO535.out))) (below_size (lU HB)))
       replace HO523 := rE HO523 ho0 hb
       replace HO526 := rE HO526 ho0 hb
       replace HO531 := rE HO531 ho0 hb
       replace HO535 := rE HO535 ho0 hb
       replace BK518 := sB BK518 hb
       replace BK527 := sB BK527 hb
       replace BK528 := sB BK528 hb
       replace HB := sL HB hb
       (try clear hb)
       (try clear hb2)
       (try clear hk)
       (try clear hi)
       (try clear ho0)
       refine hK.out _ _ ⟨(blk_cell BK518.out 0).trans rfl, (blk_cell BK518.out 1).trans rfl, (blk_cell BK518.out 2).trans rfl, (blk_cell BK518.out 3).trans rfl, (blk_cell BK518.out 4).trans rfl, (blk_cell BK518.out 5).trans rfl, (blk_cell BK518.out 6).trans rfl, (blk_cell BK518.out 7).trans rfl, (blk_cell BK518.out 8).trans rfl, (blk_cell BK518.out 9).trans rfl, (blk_cell BK518.out 10).trans rfl, (blk_cell BK518.out 11).trans rfl, (blk_cell BK518.out 12).trans rfl⟩ (fun hHeld => ?_)
       clear hK K
       refine nP (some 42) ?_
       refine pS (i := 6) (N := some 7) (ma 8 127) rfl rfl HT_.out ?_
       refine pS (i := 7) (N := some 8) (ma 8 255) rfl rfl HT_.out ?_
       refine done_ (done_of HT_.out (by kernel_rfl)) ?_
       obtain ⟨hcz66_0, hcz66_1, hcz66_2, hcz66_3, hcz66_4, hcz66_5, hcz66_6, hcz66_7, hcz66_8, hcz66_9, hcz66_10, hcz66_11, hcz66_12⟩ := q13 BK518
       obtain ⟨hfz66_0, hfz66_1, hfz66_2, hfz66_3, hfz66_4, hfz66_5, hfz66_6, hfz66_7, hfz66_8, hfz66_9, hfz66_10, hfz66_11, hfz66_12⟩ := z13 BK518
       obtain ⟨Ao67, co67, eo67⟩ := Kd.R_slice HO535.out
       subst eo67
       try go_wp2_with (first | ((with_reducible refine gate_callee (f := 17) rfl ?_); refine gL (some 49) rfl rfl Try.func17 #[.slice Ao67 t533.length co67, .int .i64 a0_2, .int .i64 a0_3] rfl ?_; (with_reducible refine (mandolineref35_Units.calls kj3 _ _ t533 a0_2 a0_3 t539 _ (cU (rC HO535)) (rN HO535) A20.out).mono ?_); rintro e w68 ⟨v540, rfl, ho0, hb⟩; refine ⟨_, rfl, ?_⟩; have HO541 := Aside0.mk (Kd.R_lower (Kd.R_new' (Kd.R_new' (Kd.R_new' (Kd.R_new' (Kd.R_new' ho0 (Kd.R_lt (rU HO523.out))) (Kd.R_lt (rU HO526.out))) (Kd.R_lt (rU HO531.out))) (Kd.R_lt (rU HO535.out))) (Kd.R_lt (rU HO538.out))) (below_size (lU HB))); replace HO523 := rE HO523 ho0 hb; replace HO526 := rE HO526 ho0 hb; replace HO531 := rE HO531 ho0 hb; replace HO535 := rE HO535 ho0 hb; replace HO538 := rE HO538 ho0 hb; replace BK518 := sB BK518 hb; replace BK527 := sB BK527 hb; replace BK528 := sB BK528 hb; replace HB := sL HB hb; (try clear hb); (try clear hb2); (try clear hk); (try clear hi); (try clear ho0); obtain ⟨hcz69_0, hcz69_1, hcz69_2, hcz69_3, hcz69_4, hcz69_5, hcz69_6, hcz69_7, hcz69_8, hcz69_9, hcz69_10, hcz69_11, hcz69_12⟩ := q13 BK518; obtain ⟨hfz69_0, hfz69_1, hfz69_2, hfz69_3, hfz69_4, hfz69_5, hfz69_6, hfz69_7, hfz69_8, hfz69_9, hfz69_10, hfz69_11, hfz69_12⟩ := z13 BK518; obtain ⟨Ao70, co70, eo70⟩ := Kd.R_slice HO531.out; subst eo70; obtain ⟨Ao71, co71, eo71⟩ := Kd.R_slice HO538.out; subst eo71) | ((with_reducible refine gate_callee (f := 18) rfl ?_); refine gL (some 57) rfl rfl Try.func18 #[.slice Ao70 t529.length co70, .slice Ao67 t533.length co67, .slice Ao71 t536.length co71, .int .i64 a0_2, .agg #[.int .i64 a0_3, .int .i64 a0_4, .int .i64 a0_5, .int .i64 a0_6, .int .i64 a0_7, .int .i64 a0_8, .int .i64 a0_9, .int .i64 a0_10, .int .i64 a0_11, .int .i64 a0_12]] rfl ?_; (with_reducible refine (mandolineref35_Right.calls kj3 _ _ t529 _ _ t533 _ _ t536 a0_2 a0_3 a0_4 a0_5 a0_6 a0_7 a0_8 a0_9 a0_10 a0_11 a0_12 false _ (cU (rC HO531)) (rN HO531) (cU (rC HO535)) (rN HO535) (cU (rC HO538)) (rN HO538) A21.out).mono ?_); rintro e w72 ⟨rfl, hb⟩; refine ⟨_, rfl, ?_⟩; replace HO523 := rB HO523 hb; replace HO526 := rB HO526 hb; replace HO531 := rB HO531 hb; replace HO535 := rB HO535 hb; replace HO538 := rB HO538 hb; replace HO541 := rB HO541 hb; replace BK518 := sB BK518 hb; replace BK527 := sB BK527 hb; replace BK528 := sB BK528 hb; replace HB := sL HB hb; (try clear hb); (try clear hb2); (try clear hk); (try clear hi)))
       go_ret
       exact ⟨eW, lU HB⟩
     ·rw [if_neg c17] at H
      have c17b0 : (t532 == 0) = false := beq_eq_false_iff_ne.mpr c17
      have c17b1 : (t532 != 0) = true := bne_iff_ne.mpr c17
      obtain rfl := Option.some.inj H
      obtain ⟨hcz73_0, hcz73_1, hcz73_2, hcz73_3, hcz73_4, hcz73_5, hcz73_6, hcz73_7, hcz73_8, hcz73_9, hcz73_10, hcz73_11, hcz73_12⟩ := q13 BK518
      obtain ⟨hfz73_0, hfz73_1, hfz73_2, hfz73_3, hfz73_4, hfz73_5, hfz73_6, hfz73_7, hfz73_8, hfz73_9, hfz73_10, hfz73_11, hfz73_12⟩ := z13 BK518
      go_wp2_with (first | ((with_reducible refine gate_callee (f := 12) rfl ?_); refine gL (some 22) rfl rfl Try.func12 #[.agg #[.slice A0_0 l0_0.length c0_0, .slice A0_1 l0_1.length c0_1, .int .i64 a0_2, .int .i64 a0_3, .int .i64 a0_4, .int .i64 a0_5, .int .i64 a0_6, .int .i64 a0_7, .int .i64 a0_8, .int .i64 a0_9, .int .i64 a0_10, .int .i64 a0_11, .int .i64 a0_12]] rfl ?_; (with_reducible refine (mandolinelaw35_sets.calls kj3 _ _ l0_0 _ _ l0_1 a0_2 a0_3 a0_4 a0_5 a0_6 a0_7 a0_8 a0_9 a0_10 a0_11 a0_12 t521 t524 _ (cU (Kd.C_below HR0_0.out HB.out)) HC0_0.out (cU (Kd.C_below HR0_1.out HB.out)) HC0_1.out A15.out).mono ?_); rintro e w74 ⟨v522, v525, rfl, ho0, ho1, hb⟩; refine ⟨_, rfl, ?_⟩; have HO523 := Aside0.mk (Kd.R_lower ho0 (below_size (lU HB))); have HO526 := Aside0.mk (Kd.R_lower ho1 (below_size (lU HB))); replace BK518 := sB BK518 hb; replace HB := sL HB hb; (try clear hb); (try clear hb2); (try clear hk); (try clear hi); (try clear ho0); (try clear ho1)) | ((with_reducible refine gate_dst (N := 3) rfl ?_); (try (refine gate_guard (by rfl) ?_; dsimp only)); refine bX (N := 3) (cs := #[.slice none 0 0]) (t := 30) ?_; intro gb527 hg w75 hbox hb; have BK527 := Aside0.mk (hbox); have GE527 := sG HB hg; have NB518_527 := sN BK518 hg; have NB527_518 := sM BK518 hg; replace HO523 := rB HO523 hb; replace HO526 := rB HO526 hb; replace BK518 := sB BK518 hb; replace HB := sL HB hb; clear hb hbox hg) | ((with_reducible refine gate_dst (N := 4) rfl ?_); (try (refine gate_guard (by rfl) ?_; dsimp only)); refine bX (N := 4) (cs := #[.slice none 0 0]) (t := 30) ?_; intro gb528 hg w76 hbox hb; have BK528 := Aside0.mk (hbox); have GE528 := sG HB hg; have NB518_528 := sN BK518 hg; have NB528_518 := sM BK518 hg; have NB527_528 := sN BK527 hg; have NB528_527 := sM BK527 hg; replace HO523 := rB HO523 hb; replace HO526 := rB HO526 hb; replace BK518 := sB BK518 hb; replace BK527 := sB BK527 hb; replace HB := sL HB hb; clear hb hbox hg; obtain ⟨Ao77, co77, eo77⟩ := Kd.R_slice HO523.out; subst eo77; have hnb78 := NB527_518.out; have hnc78 := NB518_527.out; have hnb79 := NB527_528.out; have hnc79 := NB528_527.out; have hcz80_0 := q1 BK527; have hfz80_0 := blk_frozen BK527.out 0; obtain ⟨Ao81, co81, eo81⟩ := Kd.R_slice HO526.out; subst eo81; have hnb82 := NB528_518.out; have hnc82 := NB518_528.out; have hcz83_0 := q1 BK528; have hfz83_0 := blk_frozen BK528.out 0; obtain ⟨hcz84_0, hcz84_1, hcz84_2, hcz84_3, hcz84_4, hcz84_5, hcz84_6, hcz84_7, hcz84_8, hcz84_9, hcz84_10, hcz84_11, hcz84_12⟩ := q13 BK518; obtain ⟨hfz84_0, hfz84_1, hfz84_2, hfz84_3, hfz84_4, hfz84_5, hfz84_6, hfz84_7, hfz84_8, hfz84_9, hfz84_10, hfz84_11, hfz84_12⟩ := z13 BK518) | ((with_reducible refine gate_callee (f := 13) rfl ?_); refine gL (some 32) rfl rfl Try.func13 #[.agg #[.slice Ao77 t521.length co77], .agg #[.slice Ao81 t524.length co81], .int .i64 a0_2, .agg #[.int .i64 a0_3, .int .i64 a0_4, .int .i64 a0_5, .int .i64 a0_6, .int .i64 a0_7, .int .i64 a0_8, .int .i64 a0_9, .int .i64 a0_10, .int .i64 a0_11, .int .i64 a0_12]] rfl ?_; (with_reducible refine (plan_Plan.calls kj3 _ _ t521 _ _ t524 a0_2 a0_3 a0_4 a0_5 a0_6 a0_7 a0_8 a0_9 a0_10 a0_11 a0_12 t529 t532 _ ?side1 ?side2 ?side3 ?side4 A16.out).mono ?_); (case side1 => refine (Kd.R_reads' (e := 48) (base := w.heap.size) (ok := fun k_ => some k_ ≠ (.slice Ao81 t524.length co81 : Value).ownBlock) (n := t521.length) (c := co77) ?_).2.2; exact (rU ((Kd.R_mono (Kd.R_mono (Kd.R_far (p := ⟨gb528, 0, none⟩) (Kd.R_far (p := ⟨gb527, 0, none⟩) (Kd.R_types (Kd.R_types HO523.out BK527.out (by decide)) BK528.out (by decide)) (fun _ hk => hk.1.2) (.slice Ao77 t521.length co77)) (fun _ hk => hk.2) (.slice Ao81 t524.length co81)) (fun _ h_ => h_.1)) (fun _ h_ => h_.1))))); (case side2 => exact (rN HO523)); (case side3 => refine (Kd.R_reads' (e := 48) (base := w.heap.size) (ok := fun k_ => some k_ ≠ (.slice Ao77 t521.length co77 : Value).ownBlock) (n := t524.length) (c := co81) ?_).2.2; exact (rU ((Kd.R_mono (Kd.R_mono (Kd.R_far (p := ⟨gb528, 0, none⟩) (Kd.R_far (p := ⟨gb527, 0, none⟩) (Kd.R_types (Kd.R_types HO526.out BK527.out (by decide)) BK528.out (by decide)) (fun _ hk => hk.1.2) (.slice Ao77 t521.length co77)) (fun _ hk => hk.2) (.slice Ao81 t524.length co81)) (fun _ h_ => h_.1)) (fun _ h_ => h_.1))))); (case side4 => exact (rN HO526)); rintro e w85 ⟨v530, rfl, ho0, hb⟩; refine ⟨_, rfl, ?_⟩; have HO531 := Aside0.mk (Kd.R_lower (Kd.R_new' (Kd.R_new' ho0 (Kd.R_lt (rU ((Kd.R_mono (Kd.R_mono (Kd.R_far (p := ⟨gb528, 0, none⟩) (Kd.R_far (p := ⟨gb527, 0, none⟩) (Kd.R_types (Kd.R_types HO523.out BK527.out (by decide)) BK528.out (by decide)) (fun _ hk => hk.1.2) (.slice Ao77 t521.length co77)) (fun _ hk => hk.2) (.slice Ao81 t524.length co81)) (fun _ h_ => h_.1)) (fun _ h_ => h_.1)))))) (Kd.R_lt (rU ((Kd.R_mono (Kd.R_mono (Kd.R_far (p := ⟨gb528, 0, none⟩) (Kd.R_far (p := ⟨gb527, 0, none⟩) (Kd.R_types (Kd.R_types HO526.out BK527.out (by decide)) BK528.out (by decide)) (fun _ hk => hk.1.2) (.slice Ao77 t521.length co77)) (fun _ hk => hk.2) (.slice Ao81 t524.length co81)) (fun _ h_ => h_.1)) (fun _ h_ => h_.1)))))) (below_size (lU HB))); replace HO523 := Aside0.mk (Kd.R_elder' (rU ((Kd.R_mono (Kd.R_mono (Kd.R_far (p := ⟨gb528, 0, none⟩) (Kd.R_far (p := ⟨gb527, 0, none⟩) (Kd.R_types (Kd.R_types HO523.out BK527.out (by decide)) BK528.out (by decide)) (fun _ hk => hk.1.2) (.slice Ao77 t521.length co77)) (fun _ hk => hk.2) (.slice Ao81 t524.length co81)) (fun _ h_ => h_.1)) (fun _ h_ => h_.1)))) (Kd.R_base ho0) hb); replace HO526 := Aside0.mk (Kd.R_elder' (rU ((Kd.R_mono (Kd.R_mono (Kd.R_far (p := ⟨gb528, 0, none⟩) (Kd.R_far (p := ⟨gb527, 0, none⟩) (Kd.R_types (Kd.R_types HO526.out BK527.out (by decide)) BK528.out (by decide)) (fun _ hk => hk.1.2) (.slice Ao77 t521.length co77)) (fun _ hk => hk.2) (.slice Ao81 t524.length co81)) (fun _ h_ => h_.1)) (fun _ h_ => h_.1)))) (Kd.R_base ho0) hb); replace BK518 := Aside0.mk (blk_below (g := gb518) (o := .cells #[.slice A0_0 l0_0.length c0_0, .slice A0_1 l0_1.length c0_1, .int .i64 a0_2, .int .i64 a0_3, .int .i64 a0_4, .int .i64 a0_5, .int .i64 a0_6, .int .i64 a0_7, .int .i64 a0_8, .int .i64 a0_9, .int .i64 a0_10, .int .i64 a0_11, .int .i64 a0_12] 26 (0, 0)) (bF BK518) hb); replace BK527 := Aside0.mk (blk_below (g := gb527) (o := .cells #[.slice Ao77 t521.length co77] 30 (0, 0)) (by (with_reducible repeat (first | refine blk_drewN ?_ _ | refine blk_drew ?_ | refine blk_alloc ?_ _)); refine blk_far ?_ NB527_528.out _; (with_reducible repeat (first | refine blk_drewN ?_ _ | refine blk_drew ?_ | refine blk_alloc ?_ _)); refine blk_put (cs := #[.slice none 0 0]) ?_ 0 _ rfl; (with_reducible repeat (first | refine blk_drewN ?_ _ | refine blk_drew ?_ | refine blk_alloc ?_ _)); exact BK527.out) hb); replace BK528 := Aside0.mk (blk_below (g := gb528) (o := .cells #[.slice Ao81 t524.length co81] 30 (0, 0)) (by (with_reducible repeat (first | refine blk_drewN ?_ _ | refine blk_drew ?_ | refine blk_alloc ?_ _)); refine blk_put (cs := #[.slice none 0 0]) ?_ 0 _ rfl; (with_reducible repeat (first | refine blk_drewN ?_ _ | refine blk_drew ?_ | refine blk_alloc ?_ _)); refine blk_far ?_ NB528_527.out _; (with_reducible repeat (first | refine blk_drewN ?_ _ | refine blk_drew ?_ | refine blk_alloc ?_ _)); exact BK528.out) hb); replace HB := sL HB hb; (try clear hb); (try clear hb2); (try clear hk); (try clear hi); (try clear ho0)))
      go_ret
      exact ⟨eW, lU HB⟩
 ·replace c3 := Bool.eq_false_iff.mpr c3
  subst c3
  rw [if_neg (show ¬ (false = true) by decide)] at H
  obtain rfl := Option.some.inj H
  go_enter Try.func4, Try.ntmps4
  go_wp2_with (first | ((with_reducible refine gate_dst (N := 1) rfl ?_); (try (refine gate_guard (by rfl) ?_; dsimp only)); refine bX (N := 1) (cs := #[.slice A0_0 l0_0.length c0_0, .slice A0_1 l0_1.length c0_1, .int .i64 a0_2, .int .i64 a0_3, .int .i64 a0_4, .int .i64 a0_5, .int .i64 a0_6, .int .i64 a0_7, .int .i64 a0_8, .int .i64 a0_9, .int .i64 a0_10, .int .i64 a0_11, .int .i64 a0_12]) (t := 26) ?_; intro gb518 hg w86 hbox hb; have BK518 := Aside0.mk (hbox); have GE518 := sG HB hg; replace HB := sL HB hb; clear hb hbox hg) | ((with_reducible refine gate_callee (f := 10) rfl ?_); refine gL (some 10) rfl rfl Try.func10 #[] rfl ?_; (with_reducible refine (mandolinelaw35_alive.calls k  false _ A2.out).mono ?_); rintro e w87 ⟨rfl, hb⟩; refine ⟨_, rfl, ?_⟩; replace BK518 := sB BK518 hb; replace HB := sL HB hb; (try clear hb); (try clear hb2); (try clear hk); (try clear hi)))
  go_ret
  exact ⟨eW, lU HB⟩
-- NOT PRINTED: function 5 (mandolinelaw35_PlanLimits)
end Go.Proofs.Ytnaalaakhdbfbaa.XP
