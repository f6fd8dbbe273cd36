-- Go functions as plain functions, and that the code comes to these answers (printed by a program).
import Derived.Test.YtnaalaakhdbfbaaV3XP0
import Derived.Test.YtnaalaakhdbfbaaV3XP12
import Derived.Test.YtnaalaakhdbfbaaV3XP16
import Derived.Test.YtnaalaakhdbfbaaV3XP23
import Derived.Test.YtnaalaakhdbfbaaV3XP28
namespace Go.Proofs.Ytnaalaakhdbfbaa.XP
open Go.RowKit Go.Proofs.YtnaalaakhdbfbaaW.PrintWords Go.Proofs.YtnaalaakhdbfbaaW.PrintLast Go.Proofs.YtnaalaakhdbfbaaW.PrintMore
attribute [local go_sem] max2_int min2_int max_two min_two max_three min_three max_four min_four
set_option linter.unusedVariables false
set_option linter.unusedSimpArgs false
def mandolinelaw35_PlanRight.j0 : Nat → List (S48) → Bool → List (S48) → List (S48) → Int → Int → Int → Int → Int → Int → Int → Int → Int → Int → Int → Option (Bool)
 | 0, _, _, _, _, _, _, _, _, _, _, _, _, _, _, _ => none
 | k + 1, x1, x16, x733000, x733001, x733002, x733003, x733004, x733005, x733006, x733007, x733008, x733009, x733010, x733011, x733012 => if x16 = true then (some true) else ((mandolinelaw35_sets.f k x733000 x733001 x733002 x733003 x733004 x733005 x733006 x733007 x733008 x733009 x733010 x733011 x733012).bind fun bt735 => ((plan_Right.f k x1 bt735.1 bt735.2 x733002 x733003 x733004 x733005 x733006 x733007 x733008 x733009 x733010 x733011 x733012).bind fun t743 => ((mandolineref02_Of.f k x733000).bind fun t744 => ((mandolineref02_Of.f k x733001).bind fun t747 => ((mandolineref35_Right.f k x1 t744 t747 x733002 x733003 x733004 x733005 x733006 x733007 x733008 x733009 x733010 x733011 x733012).bind fun t750 => (some (t743 == t750)))))))
def mandolinelaw35_PlanRight.f (k : Nat) (l0_0 : List (S48)) (l0_1 : List (S48)) (a0_2 : Int) (a0_3 : Int) (a0_4 : Int) (a0_5 : Int) (a0_6 : Int) (a0_7 : Int) (a0_8 : Int) (a0_9 : Int) (a0_10 : Int) (a0_11 : Int) (a0_12 : Int) (l1 : List (S48)) : Option (Bool) := (mandolinelaw35_alive.f k).bind fun t733 => (if t733 = true then ((mandolinelaw35_fine.f k l0_0 l0_1 a0_2 a0_3 a0_4 a0_5 a0_6 a0_7 a0_8 a0_9 a0_10 a0_11 a0_12 100).bind fun t734 => (if t734 = true then (mandolinelaw35_PlanRight.j0 k l1 (decide ((l1.length : Int) > 20)) l0_0 l0_1 a0_2 a0_3 a0_4 a0_5 a0_6 a0_7 a0_8 a0_9 a0_10 a0_11 a0_12) else (mandolinelaw35_PlanRight.j0 k l1 true l0_0 l0_1 a0_2 a0_3 a0_4 a0_5 a0_6 a0_7 a0_8 a0_9 a0_10 a0_11 a0_12))) else (some false))
def mandolinelaw35_PlanRight.T6 : Bool × List (List Nat × List Nat) := (true, [([], []), ([], []), ([], []), ([], []), ([3], [3]), ([], []), ([5], [5]), ([0, 1, 2, 4, 6], [0, 1, 2, 4, 6]), ([], []), ([], []), ([9], [9]), ([10, 7], [10]), ([], []), ([12], [12]), ([13, 11], [13]), ([], []), ([15], [15]), ([], []), ([17], [17]), ([8, 11, 14, 16, 18, 14], [8, 11, 14, 16, 18]), ([7, 19], [7, 19]), ([20, 19, 0, 1, 2, 3, 4, 5, 6, 7, 8, 9, 10, 11, 12, 13, 14, 15, 16, 17, 18, 19, 20], [20])])
def mandolinelaw35_PlanRight.B6 : List Nat := [0, 0, 0, 0, 8, 0, 32, 127, 0, 0, 512, 1791, 0, 4096, 16127, 0, 32768, 0, 131072, 524287, 1048575, 2097151]
theorem mandolinelaw35_PlanRight.tab6 : rtab .any (opsOf Try.f9 6) = mandolinelaw35_PlanRight.T6 := by kernel_rfl
theorem mandolinelaw35_PlanRight.bits6 : waitsOk mandolinelaw35_PlanRight.T6.2 mandolinelaw35_PlanRight.B6 = true := by kernel_rfl
set_option maxHeartbeats 8000000 in
set_option maxRecDepth 100000 in
theorem mandolinelaw35_PlanRight.calls (k : Nat) (A0_0 : Option Addr) (c0_0 : Nat) (l0_0 : List (S48)) (A0_1 : Option Addr) (c0_1 : Nat) (l0_1 : List (S48)) (a0_2 : Int) (a0_3 : Int) (a0_4 : Int) (a0_5 : Int) (a0_6 : Int) (a0_7 : Int) (a0_8 : Int) (a0_9 : Int) (a0_10 : Int) (a0_11 : Int) (a0_12 : Int) (A1 : Option Addr) (c1 : Nat) (l1 : List (S48)) (r : Bool) (w : World) (hr0_0 : Kd.C k48 w A0_0 l0_0.length l0_0) (hc0_0 : l0_0.length ≤ c0_0) (hr0_1 : Kd.C k48 w A0_1 l0_1.length l0_1) (hc0_1 : l0_1.length ≤ c0_1) (hr1 : Kd.C k48 w A1 l1.length l1) (hc1 : l1.length ≤ c1) (h : mandolinelaw35_PlanRight.f k l0_0 l0_1 a0_2 a0_3 a0_4 a0_5 a0_6 a0_7 a0_8 a0_9 a0_10 a0_11 a0_12 l1 = some r) :
  Calls Try.prog 9 #[.agg #[.slice A0_0 l0_0.length c0_0, .slice A0_1 l0_1.length c0_1, .int .i64 a0_2, .int .i64 a0_3, .int .i64 a0_4, .int .i64 a0_5, .int .i64 a0_6, .int .i64 a0_7, .int .i64 a0_8, .int .i64 a0_9, .int .i64 a0_10, .int .i64 a0_11, .int .i64 a0_12], .slice A1 l1.length c1] w fun e w' => e = .returned (.bool r) ∧ Below w.heap.size w w' := by
 have hu26 := Try.underlying26
 have hu30 := Try.underlying30
 have hu24 := Try.underlying24
 have HR0_0 := Aside0.mk hr0_0
 have HC0_0 := Aside0.mk hc0_0
 clear hr0_0 hc0_0
 have HR0_1 := Aside0.mk hr0_1
 have HC0_1 := Aside0.mk hc0_1
 clear hr0_1 hc0_1
 have HR1 := Aside0.mk hr1
 have HC1 := Aside0.mk hc1
 clear hr1 hc1
 have HB := Aside0.mk (Below.refl w.heap.size w)
 unfold mandolinelaw35_PlanRight.f at h
 have H := h
 clear h
 obtain ⟨t733, A3, H⟩ := bO H
 by_cases c4 : t733 = true
 ·subst c4
  rw [if_pos rfl] at H
  have HC5 := Aside0.mk H
  clear H
  go_enter Try.func9, Try.ntmps9
  go_upto_region 3 with (first | ((with_reducible refine gate_dst (N := 2) rfl ?_); (try (refine gate_guard (by rfl) ?_; dsimp only)); refine bX (N := 2) (cs := #[.slice A0_0 l0_0.length c0_0, .slice A0_1 l0_1.length c0_1, .int .i64 a0_2, .int .i64 a0_3, .int .i64 a0_4, .int .i64 a0_5, .int .i64 a0_6, .int .i64 a0_7, .int .i64 a0_8, .int .i64 a0_9, .int .i64 a0_10, .int .i64 a0_11, .int .i64 a0_12]) (t := 26) ?_; intro gb732 hg w6 hbox hb; have BK732 := Aside0.mk (hbox); have GE732 := sG HB hg; replace HB := sL HB hb; clear hb hbox hg) | ((with_reducible refine gate_callee (f := 10) rfl ?_); refine gL (some 7) rfl rfl Try.func10 #[] rfl ?_; (with_reducible refine (mandolinelaw35_alive.calls k  true _ A3.out).mono ?_); rintro e w7 ⟨rfl, hb⟩; refine ⟨_, rfl, ?_⟩; replace BK732 := sB BK732 hb; replace HB := sL HB hb; (try clear hb); (try clear hb2); (try clear hk); (try clear hi)))
  (try simp only [Act.put, List.setIfInBounds_toArray, List.set_cons_zero, List.set_cons_succ])
  go_cut [16] (fun v16 wc => ∃ (kq : Nat) (x16_4 : Bool), v16 = .bool x16_4 ∧ Aside0 (mandolinelaw35_PlanRight.j0 kq l1 x16_4 l0_0 l0_1 a0_2 a0_3 a0_4 a0_5 a0_6 a0_7 a0_8 a0_9 a0_10 a0_11 a0_12 = some r) ∧ Aside0 (kq ≤ k) ∧ Aside0 (wc.heap[gb732]? = some (.cells #[(.slice A0_0 l0_0.length c0_0), (.slice A0_1 l0_1.length c0_1), .int .i64 a0_2, .int .i64 a0_3, .int .i64 a0_4, .int .i64 a0_5, .int .i64 a0_6, .int .i64 a0_7, .int .i64 a0_8, .int .i64 a0_9, .int .i64 a0_10, .int .i64 a0_11, .int .i64 a0_12] 26 (0, 0))) ∧ Aside0 (Below w.heap.size w wc))
  case first =>
   have H := HC5.out
   clear HC5
   obtain ⟨t734, A8, H⟩ := bO H
   by_cases c9 : t734 = true
   ·subst c9
    rw [if_pos rfl] at H
    have H' := Aside0.mk H
    clear H
    obtain ⟨hcz10_0, hcz10_1, hcz10_2, hcz10_3, hcz10_4, hcz10_5, hcz10_6, hcz10_7, hcz10_8, hcz10_9, hcz10_10, hcz10_11, hcz10_12⟩ := q13 BK732
    obtain ⟨hfz10_0, hfz10_1, hfz10_2, hfz10_3, hfz10_4, hfz10_5, hfz10_6, hfz10_7, hfz10_8, hfz10_9, hfz10_10, hfz10_11, hfz10_12⟩ := z13 BK732
    go_wp2_with (first | ((with_reducible refine gate_callee (f := 11) rfl ?_); refine gL (some 10) rfl rfl Try.func11 #[.agg #[.slice A0_0 l0_0.length c0_0, .slice A0_1 l0_1.length c0_1, .int .i64 a0_2, .int .i64 a0_3, .int .i64 a0_4, .int .i64 a0_5, .int .i64 a0_6, .int .i64 a0_7, .int .i64 a0_8, .int .i64 a0_9, .int .i64 a0_10, .int .i64 a0_11, .int .i64 a0_12], .int .i64 100] rfl ?_; (with_reducible refine (mandolinelaw35_fine.calls k _ _ l0_0 _ _ l0_1 a0_2 a0_3 a0_4 a0_5 a0_6 a0_7 a0_8 a0_9 a0_10 a0_11 a0_12 100 true _ (cU (Kd.C_below HR0_0.out HB.out)) HC0_0.out (cU (Kd.C_below HR0_1.out HB.out)) HC0_1.out A8.out).mono ?_); rintro e w11 ⟨rfl, hb⟩; refine ⟨_, rfl, ?_⟩; replace BK732 := sB BK732 hb; replace HB := sL HB hb; (try clear hb); (try clear hb2); (try clear hk); (try clear hi)))
    go_meet
    case rel => exact ⟨_, (decide ((l1.length : Int) > 20)), eR, H', ⟨by first | omega | exact Nat.le_refl _⟩, ⟨bU BK732⟩, ⟨lU HB⟩⟩
   ·replace c9 := Bool.eq_false_iff.mpr c9
    subst c9
    rw [if_neg (show ¬ (false = true) by decide)] at H
    have H' := Aside0.mk H
    clear H
    obtain ⟨hcz12_0, hcz12_1, hcz12_2, hcz12_3, hcz12_4, hcz12_5, hcz12_6, hcz12_7, hcz12_8, hcz12_9, hcz12_10, hcz12_11, hcz12_12⟩ := q13 BK732
    obtain ⟨hfz12_0, hfz12_1, hfz12_2, hfz12_3, hfz12_4, hfz12_5, hfz12_6, hfz12_7, hfz12_8, hfz12_9, hfz12_10, hfz12_11, hfz12_12⟩ := z13 BK732
    go_wp2_with (first | ((with_reducible refine gate_callee (f := 11) rfl ?_); refine gL (some 10) rfl rfl Try.func11 #[.agg #[.slice A0_0 l0_0.length c0_0, .slice A0_1 l0_1.length c0_1, .int .i64 a0_2, .int .i64 a0_3, .int .i64 a0_4, .int .i64 a0_5, .int .i64 a0_6, .int .i64 a0_7, .int .i64 a0_8, .int .i64 a0_9, .int .i64 a0_10, .int .i64 a0_11, .int .i64 a0_12], .int .i64 100] rfl ?_; (with_reducible refine (mandolinelaw35_fine.calls k _ _ l0_0 _ _ l0_1 a0_2 a0_3 a0_4 a0_5 a0_6 a0_7 a0_8 a0_9 a0_10 a0_11 a0_12 100 false _ (cU (Kd.C_below HR0_0.out HB.out)) HC0_0.out (cU (Kd.C_below HR0_1.out HB.out)) HC0_1.out A8.out).mono ?_); rintro e w13 ⟨rfl, hb⟩; refine ⟨_, rfl, ?_⟩; replace BK732 := sB BK732 hb; replace HB := sL HB hb; (try clear hb); (try clear hb2); (try clear hk); (try clear hi)))
    go_meet
    case rel => exact ⟨_, (true), eR, H', ⟨by first | omega | exact Nat.le_refl _⟩, ⟨bU BK732⟩, ⟨lU HB⟩⟩
  case rest =>
   clear HC5
   try clear c1
   try clear p2
   try clear c4
   try clear c9
   try clear c10
   try clear c11
   try clear hcz10_0
   try clear hcz10_1
   try clear hcz10_10
   try clear hcz10_11
   try clear hcz10_12
   try clear hcz10_2
   try clear hcz10_3
   try clear hcz10_4
   try clear hcz10_5
   try clear hcz10_6
   try clear hcz10_7
   try clear hcz10_8
   try clear hcz10_9
   try clear hcz12_0
   try clear hcz12_1
   try clear hcz12_10
   try clear hcz12_11
   try clear hcz12_12
   try clear hcz12_2
   try clear hcz12_3
   try clear hcz12_4
   try clear hcz12_5
   try clear hcz12_6
   try clear hcz12_7
   try clear hcz12_8
   try clear hcz12_9
   try clear hfz10_0
   try clear hfz10_1
   try clear hfz10_10
   try clear hfz10_11
   try clear hfz10_12
   try clear hfz10_2
   try clear hfz10_3
   try clear hfz10_4
   try clear hfz10_5
   try clear hfz10_6
   try clear hfz10_7
   try clear hfz10_8
   try clear hfz10_9
   try clear hfz12_0
   try clear hfz12_1
   try clear hfz12_10
   try clear hfz12_11
   try clear hfz12_12
   try clear hfz12_2
   try clear hfz12_3
   try clear hfz12_4
   try clear hfz12_5
   try clear hfz12_6
   try clear hfz12_7
   try clear hfz12_8
   try clear hfz12_9
   obtain ⟨kq, x16_4, rfl, HA, HJ4, BK732, HB⟩ := hcut
   cases kq with
   | zero => exact absurd HA.out (by simp [mandolinelaw35_PlanRight.j0])
   | succ kj4 =>
    have H := HA.out
    clear HA
    simp only [mandolinelaw35_PlanRight.j0] at H
    by_cases c14 : x16_4 = true
    ·subst c14
     rw [if_pos rfl] at H
     obtain rfl := Option.some.inj H
     go_wp2
     go_ret
     exact ⟨eW, lU HB⟩
    ·replace c14 := Bool.eq_false_iff.mpr c14
     subst c14
     rw [if_neg (show ¬ (false = true) by decide)] at H
     replace H := Option.bind_eq_some_iff.mp H
     obtain ⟨⟨t735, t738⟩, A150, H⟩ := H
     dsimp only at H
     have A15 := Aside0.mk A150
     clear A150
     obtain ⟨t743, A16, H⟩ := bO H
     obtain ⟨t744, A17, H⟩ := bO H
     obtain ⟨t747, A18, H⟩ := bO H
     obtain ⟨t750, A19, H⟩ := bO H
     obtain rfl := Option.some.inj H
     obtain ⟨hcz20_0, hcz20_1, hcz20_2, hcz20_3, hcz20_4, hcz20_5, hcz20_6, hcz20_7, hcz20_8, hcz20_9, hcz20_10, hcz20_11, hcz20_12⟩ := q13 BK732
     obtain ⟨hfz20_0, hfz20_1, hfz20_2, hfz20_3, hfz20_4, hfz20_5, hfz20_6, hfz20_7, hfz20_8, hfz20_9, hfz20_10, hfz20_11, hfz20_12⟩ := z13 BK732
     try go_wp2_with (first | ((with_reducible refine gate_callee (f := 12) rfl ?_); refine gL (some 19) rfl rfl Try.func12 #[.agg #[.slice A0_0 l0_0.length c0_0, .slice A0_1 l0_1.length c0_1, .int .i64 a0_2, .int .i64 a0_3, .int .i64 a0_4, .int .i64 a0_5, .int .i64 a0_6, .int .i64 a0_7, .int .i64 a0_8, .int .i64 a0_9, .int .i64 a0_10, .int .i64 a0_11, .int .i64 a0_12]] rfl ?_; (with_reducible refine (mandolinelaw35_sets.calls kj4 _ _ l0_0 _ _ l0_1 a0_2 a0_3 a0_4 a0_5 a0_6 a0_7 a0_8 a0_9 a0_10 a0_11 a0_12 t735 t738 _ (cU (Kd.C_below HR0_0.out HB.out)) HC0_0.out (cU (Kd.C_below HR0_1.out HB.out)) HC0_1.out A15.out).mono ?_); rintro e w21 ⟨v736, v739, rfl, ho0, ho1, hb⟩; refine ⟨_, rfl, ?_⟩; have HO737 := Aside0.mk (Kd.R_lower ho0 (below_size (lU HB))); have HO740 := Aside0.mk (Kd.R_lower ho1 (below_size (lU HB))); replace BK732 := sB BK732 hb; replace HB := sL HB hb; (try clear hb); (try clear hb2); (try clear hk); (try clear hi); (try clear ho0); (try clear ho1)) | ((with_reducible refine gate_dst (N := 5) rfl ?_); (try (refine gate_guard (by rfl) ?_; dsimp only)); refine bX (N := 5) (cs := #[.slice none 0 0]) (t := 30) ?_; intro gb741 hg w22 hbox hb; have BK741 := Aside0.mk (hbox); have GE741 := sG HB hg; have NB732_741 := sN BK732 hg; have NB741_732 := sM BK732 hg; replace HO737 := rB HO737 hb; replace HO740 := rB HO740 hb; replace BK732 := sB BK732 hb; replace HB := sL HB hb; clear hb hbox hg) | ((with_reducible refine gate_dst (N := 6) rfl ?_); (try (refine gate_guard (by rfl) ?_; dsimp only)); refine bX (N := 6) (cs := #[.slice none 0 0]) (t := 30) ?_; intro gb742 hg w23 hbox hb; have BK742 := Aside0.mk (hbox); have GE742 := sG HB hg; have NB732_742 := sN BK732 hg; have NB742_732 := sM BK732 hg; have NB741_742 := sN BK741 hg; have NB742_741 := sM BK741 hg; replace HO737 := rB HO737 hb; replace HO740 := rB HO740 hb; replace BK732 := sB BK732 hb; replace BK741 := sB BK741 hb; replace HB := sL HB hb; clear hb hbox hg; obtain ⟨Ao24, co24, eo24⟩ := Kd.R_slice HO737.out; subst eo24; have hnb25 := NB741_732.out; have hnc25 := NB732_741.out; have hnb26 := NB741_742.out; have hnc26 := NB742_741.out; have hcz27_0 := q1 BK741; have hfz27_0 := blk_frozen BK741.out 0; obtain ⟨Ao28, co28, eo28⟩ := Kd.R_slice HO740.out; subst eo28; have hnb29 := NB742_732.out; have hnc29 := NB732_742.out; have hcz30_0 := q1 BK742; have hfz30_0 := blk_frozen BK742.out 0))
     have n0_ : Aside0 (Kd.R k48 48 ((w23.setCell ⟨gb741, 0, none⟩ (.slice Ao24 t735.length co24)).setCell ⟨gb742, 0, none⟩ (.slice Ao28 t738.length co28)) w.heap.size (fun k_ => some k_ ≠ (.slice Ao28 t738.length co28 : Value).ownBlock) (.slice Ao24 t735.length co24) t735) := ⟨rU (Kd.R_mono (Kd.R_far (p := ⟨gb742, 0, none⟩) (Kd.R_far (p := ⟨gb741, 0, none⟩) (Kd.R_types (Kd.R_types HO737.out BK741.out (by decide)) BK742.out (by decide)) (fun _ hk => hk.1.2) (.slice Ao24 t735.length co24)) (fun _ hk => hk.2) (.slice Ao28 t738.length co28)) (fun _ hk => hk.1.1))⟩
     have n1_ : Aside0 (Kd.R k48 48 ((w23.setCell ⟨gb741, 0, none⟩ (.slice Ao24 t735.length co24)).setCell ⟨gb742, 0, none⟩ (.slice Ao28 t738.length co28)) w.heap.size (fun k_ => some k_ ≠ (.slice Ao24 t735.length co24 : Value).ownBlock) (.slice Ao28 t738.length co28) t738) := ⟨rU (Kd.R_mono (Kd.R_far (p := ⟨gb742, 0, none⟩) (Kd.R_far (p := ⟨gb741, 0, none⟩) (Kd.R_types (Kd.R_types HO740.out BK741.out (by decide)) BK742.out (by decide)) (fun _ hk => hk.1.2) (.slice Ao24 t735.length co24)) (fun _ hk => hk.2) (.slice Ao28 t738.length co28)) (fun _ hk => hk.1.1))⟩
     have n2_ : Aside0 (((w23.setCell ⟨gb741, 0, none⟩ (.slice Ao24 t735.length co24)).setCell ⟨gb742, 0, none⟩ (.slice Ao28 t738.length co28)).heap[gb732]? = some (.cells #[.slice A0_0 l0_0.length c0_0, .slice A0_1 l0_1.length c0_1, .int .i64 a0_2, .int .i64 a0_3, .int .i64 a0_4, .int .i64 a0_5, .int .i64 a0_6, .int .i64 a0_7, .int .i64 a0_8, .int .i64 a0_9, .int .i64 a0_10, .int .i64 a0_11, .int .i64 a0_12] 26 (0, 0))) := ⟨bF BK732⟩
     have n3_ : Aside0 (((w23.setCell ⟨gb741, 0, none⟩ (.slice Ao24 t735.length co24)).setCell ⟨gb742, 0, none⟩ (.slice Ao28 t738.length co28)).heap[gb741]? = some (.cells #[.slice Ao24 t735.length co24] 30 (0, 0))) := ⟨by (with_reducible repeat (first | refine blk_drewN ?_ _ | refine blk_drew ?_ | refine blk_alloc ?_ _)); refine blk_far ?_ NB741_742.out _; (with_reducible repeat (first | refine blk_drewN ?_ _ | refine blk_drew ?_ | refine blk_alloc ?_ _)); refine blk_put (cs := #[.slice none 0 0]) ?_ 0 _ rfl; (with_reducible repeat (first | refine blk_drewN ?_ _ | refine blk_drew ?_ | refine blk_alloc ?_ _)); exact BK741.out⟩
     have n4_ : Aside0 (((w23.setCell ⟨gb741, 0, none⟩ (.slice Ao24 t735.length co24)).setCell ⟨gb742, 0, none⟩ (.slice Ao28 t738.length co28)).heap[gb742]? = some (.cells #[.slice Ao28 t738.length co28] 30 (0, 0))) := ⟨by (with_reducible repeat (first | refine blk_drewN ?_ _ | refine blk_drew ?_ | refine blk_alloc ?_ _)); refine blk_put (cs := #[.slice none 0 0]) ?_ 0 _ rfl; (with_reducible repeat (first | refine blk_drewN ?_ _ | refine blk_drew ?_ | refine blk_alloc ?_ _)); refine blk_far ?_ NB742_741.out _; (with_reducible repeat (first | refine blk_drewN ?_ _ | refine blk_drew ?_ | refine blk_alloc ?_ _)); exact BK742.out⟩
     have n5_ : Aside0 (Below w.heap.size w ((w23.setCell ⟨gb741, 0, none⟩ (.slice Ao24 t735.length co24)).setCell ⟨gb742, 0, none⟩ (.slice Ao28 t738.length co28))) := ⟨lU HB⟩
     (try clear HO737)
     (try clear HO740)
     (try clear BK732)
     (try clear BK741)
     (try clear BK742)
     (try clear HB)
     generalize ((w23.setCell ⟨gb741, 0, none⟩ (.slice Ao24 t735.length co24)).setCell ⟨gb742, 0, none⟩ (.slice Ao28 t738.length co28)) = w31 at n0_ n1_ n2_ n3_ n4_ n5_ ⊢
     have HO737 := n0_
     have HO740 := n1_
     have BK732 := n2_
     have BK741 := n3_
     have BK742 := n4_
     have HB := n5_
     clear n0_ n1_ n2_ n3_ n4_ n5_
     replace HO737 := Aside0.mk (Kd.R_drew HO737.out)
     replace HO740 := Aside0.mk (Kd.R_drew HO740.out)
     replace BK732 := Aside0.mk (blk_drew BK732.out)
     replace BK741 := Aside0.mk (blk_drew BK741.out)
     replace BK742 := Aside0.mk (blk_drew BK742.out)
     replace HB := Aside0.mk (below_drew1 HB.out)
     refine start_ (n := 22) (S := fun w' => w'.cell? ⟨gb741, 0, none⟩ = some (.slice Ao24 t735.length co24) ∧ w'.cell? ⟨gb742, 0, none⟩ = some (.slice Ao28 t738.length co28) ∧ w'.cell? ⟨gb732, 0, none⟩ = some (.slice A0_0 l0_0.length c0_0) ∧ w'.cell? ⟨gb732, 1, none⟩ = some (.slice A0_1 l0_1.length c0_1) ∧ w'.cell? ⟨gb732, 2, none⟩ = some (.int .i64 a0_2) ∧ w'.cell? ⟨gb732, 3, none⟩ = some (.int .i64 a0_3) ∧ w'.cell? ⟨gb732, 4, none⟩ = some (.int .i64 a0_4) ∧ w'.cell? ⟨gb732, 5, none⟩ = some (.int .i64 a0_5) ∧ w'.cell? ⟨gb732, 6, none⟩ = some (.int .i64 a0_6) ∧ w'.cell? ⟨gb732, 7, none⟩ = some (.int .i64 a0_7) ∧ w'.cell? ⟨gb732, 8, none⟩ = some (.int .i64 a0_8) ∧ w'.cell? ⟨gb732, 9, none⟩ = some (.int .i64 a0_9) ∧ w'.cell? ⟨gb732, 10, none⟩ = some (.int .i64 a0_10) ∧ w'.cell? ⟨gb732, 11, none⟩ = some (.int .i64 a0_11) ∧ w'.cell? ⟨gb732, 12, none⟩ = some (.int .i64 a0_12)) (ds := []) #[false, false, false, false, false, false, false, false, false, false, false, false, false, false, false, false, false, false, false, false, false, false] (by kernel_rfl) rfl rfl ⟨(blk_cell BK741.out 0).trans rfl, (blk_cell BK742.out 0).trans rfl, (blk_cell BK732.out 0).trans rfl, (blk_cell BK732.out 1).trans rfl, (blk_cell BK732.out 2).trans rfl, (blk_cell BK732.out 3).trans rfl, (blk_cell BK732.out 4).trans rfl, (blk_cell BK732.out 5).trans rfl, (blk_cell BK732.out 6).trans rfl, (blk_cell BK732.out 7).trans rfl, (blk_cell BK732.out 8).trans rfl, (blk_cell BK732.out 9).trans rfl, (blk_cell BK732.out 10).trans rfl, (blk_cell BK732.out 11).trans rfl, (blk_cell BK732.out 12).trans rfl⟩ (fun hHeld => ?_); refine with_tabW mandolinelaw35_PlanRight.tab6 mandolinelaw35_PlanRight.bits6 (fun HT_ HW_ => ?_)
     generalize w31.drew = w32 at HO737 HO740 BK732 BK741 BK742 HB hHeld ⊢
     refine pS (i := 0) (N := some 22) (ma 22 1) rfl rfl HT_.out ?_
     refine pS (i := 3) (N := some 25) (ma 22 9) rfl rfl HT_.out ?_
     refine pS (i := 5) (N := some 27) (ma 22 41) rfl rfl HT_.out ?_
     refine pS (i := 8) (N := some 30) (ma 22 297) rfl rfl HT_.out ?_
     refine pS (i := 9) (N := some 31) (ma 22 809) rfl rfl HT_.out ?_
     refine pS (i := 12) (N := some 34) (ma 22 4905) rfl rfl HT_.out ?_
     refine pS (i := 15) (N := some 37) (ma 22 37673) rfl rfl HT_.out ?_
     refine pS (i := 17) (N := some 39) (ma 22 168745) rfl rfl HT_.out ?_
     refine tS (i := 1) (N := some 23) (ma 22 168747) rfl rfl HT_.out HW_.out hHeld ?_
     refine tS (i := 2) (N := some 24) (ma 22 168751) rfl rfl HT_.out HW_.out hHeld ?_
     refine tS (i := 4) (N := some 26) (ma 22 168767) rfl rfl HT_.out HW_.out hHeld ?_
     refine tS (i := 6) (N := some 28) (ma 22 168831) rfl rfl HT_.out HW_.out hHeld ?_
     refine tS (i := 10) (N := some 32) (ma 22 169855) rfl rfl HT_.out HW_.out hHeld ?_
     refine tS (i := 13) (N := some 35) (ma 22 178047) rfl rfl HT_.out HW_.out hHeld ?_
     refine tS (i := 16) (N := some 38) (ma 22 243583) rfl rfl HT_.out HW_.out hHeld ?_
     refine tS (i := 18) (N := some 40) (ma 22 505727) rfl rfl HT_.out HW_.out hHeld ?_
     refine one_ (i := 7) (N := some 29) (ma 22 505855) rfl rfl (one_of HT_.out (by kernel_rfl)) (by decide) (fun K hK => ?_)
     refine gO Try.func29 #[.slice A1 l1.length c1, .agg #[.slice Ao24 t735.length co24], .agg #[.slice Ao28 t738.length co28], .int .i64 a0_2, .agg #[.int .i64 a0_3, .int .i64 a0_4, .int .i64 a0_5, .int .i64 a0_6, .int .i64 a0_7, .int .i64 a0_8, .int .i64 a0_9, .int .i64 a0_10, .int .i64 a0_11, .int .i64 a0_12]] rfl rfl ?_
     with_reducible refine (plan_Right.calls kj4 _ _ l1 _ _ t735 _ _ t738 a0_2 a0_3 a0_4 a0_5 a0_6 a0_7 a0_8 a0_9 a0_10 a0_11 a0_12 t743 _ (cU (Kd.C_below HR1.out HB.out)) HC1.out (cU (rC HO737)) (rN HO737) (cU (rC HO740)) (rN HO740) A16.out).mono ?_
     rintro e w33 ⟨rfl, hb⟩
     refine ⟨_, rfl, ?_⟩
     replace HO737 := rB HO737 hb
     replace HO740 := rB HO740 hb
     replace BK732 := sB BK732 hb
     replace BK741 := sB BK741 hb
     replace BK742 := sB BK742 hb
     replace HB := sL HB hb
     (try clear hb)
     (try clear hb2)
     (try clear hk)
     (try clear hi)
     refine hK.out _ _ ⟨(blk_cell BK741.out 0).trans rfl, (blk_cell BK742.out 0).trans rfl, (blk_cell BK732.out 0).trans rfl, (blk_cell BK732.out 1).trans rfl, (blk_cell BK732.out 2).trans rfl, (blk_cell BK732.out 3).trans rfl, (blk_cell BK732.out 4).trans rfl, (blk_cell BK732.out 5).trans rfl, (blk_cell BK732.out 6).trans rfl, (blk_cell BK732.out 7).trans rfl, (blk_cell BK732.out 8).trans rfl, (blk_cell BK732.out 9).trans rfl, (blk_cell BK732.out 10).trans rfl, (blk_cell BK732.out 11).trans rfl, (blk_cell BK732.out 12).trans rfl⟩ (fun hHeld => ?_)
     clear hK K
     refine nP (some 29) ?_
     refine one_ (i := 11) (N := some 33) (ma 22 507903) rfl rfl (one_of HT_.out (by kernel_rfl)) (by decide) (fun K hK => ?_)
     refine gO Try.func15 #[.slice A0_0 l0_0.length c0_0] rfl rfl ?_
     with_reducible refine (mandolineref02_Of.calls kj4 _ _ l0_0 t744 _ (cU (Kd.C_below HR0_0.out HB.out)) HC0_0.out A17.out).mono ?_
     rintro e w34 ⟨v745, rfl, ho0, hb⟩
     refine ⟨_, rfl, ?_⟩
     have HO746 := Aside0.mk (Kd.R_lower (Kd.R_new' (Kd.R_new' ho0 (Kd.R_lt (rU HO737.out))) (Kd.R_lt (rU HO740.out))) (below_size (lU HB)))
     replace HO737 := rE HO737 ho0 hb
     replace HO740 := rE HO740 ho0 hb
     replace BK732 := sB BK732 hb
     replace BK741 := sB BK741 hb
     replace BK742 := sB BK742 hb
     replace HB := sL HB hb
     (try clear hb)
     (try clear hb2)
     (try clear hk)
     (try clear hi)
     (try clear ho0)
     refine hK.out _ _ ⟨(blk_cell BK741.out 0).trans rfl, (blk_cell BK742.out 0).trans rfl, (blk_cell BK732.out 0).trans rfl, (blk_cell BK732.out 1).trans rfl, (blk_cell BK732.out 2).trans rfl, (blk_cell BK732.out 3).trans rfl, (blk_cell BK732.out 4).trans rfl, (blk_cell BK732.out 5).trans rfl, (blk_cell BK732.out 6).trans rfl, (blk_cell BK732.out 7).trans rfl, (blk_cell BK732.out 8).trans rfl, (blk_cell BK732.out 9).trans rfl, (blk_cell BK732.out 10).trans rfl, (blk_cell BK732.out 11).trans rfl, (blk_cell BK732.out 12).trans rfl⟩ (fun hHeld => ?_)
     clear hK K
     refine nP (some 33) ?_
     refine one_ (i := 14) (N := some 36) (ma 22 524287) rfl rfl (one_of HT_.out (by kernel_rfl)) (by decide) (fun K hK => ?_)
     refine gO Try.func15 #[.slice A0_1 l0_1.length c0_1] rfl rfl ?_
     with_reducible refine (mandolineref02_Of.calls kj4 _ _ l0_1 t747 _ (cU (Kd.C_below HR0_1.out HB.out)) HC0_1.out A18.out).mono ?_
     rintro e w35 ⟨v748, rfl, ho0, hb⟩
     refine ⟨_, rfl, ?_⟩
     have HO749 := Aside0.mk (Kd.R_lower (Kd.R_new' (Kd.R_new' (Kd.R_new' ho0 (Kd.R_lt (rU HO737.out))) (Kd.R_lt (rU HO740.out))) (Kd.R_lt (rU HO746.out))) (below_size (lU HB)))
     replace HO737 := rE HO737 ho0 hb
     replace HO740 := rE HO740 ho0 hb
     replace HO746 := rE HO746 ho0 hb
     replace BK732 := sB BK732 hb
     replace BK741 := sB BK741 hb
     replace BK742 := sB BK742 hb
     replace HB := sL HB hb
     (try clear hb)
     (try clear hb2)
     (try clear hk)
     (try clear hi)
     (try clear ho0)
     obtain ⟨Ao36, co36, eo36⟩ := Kd.R_slice HO746.out
     (first | subst eo36 | (injection eo36 with f1_ f2_ f3_; have f4_ := f1_.symm; have f5_ := f3_.symm; clear f1_ f2_ f3_; subst f4_; subst f5_))
     obtain ⟨Ao37, co37, eo37⟩ := Kd.R_slice HO749.out
     (first | subst eo37 | (injection eo37 with f1_ f2_ f3_; have f4_ := f1_.symm; have f5_ := f3_.symm; clear f1_ f2_ f3_; subst f4_; subst f5_))
     refine hK.out _ _ ⟨(blk_cell BK741.out 0).trans rfl, (blk_cell BK742.out 0).trans rfl, (blk_cell BK732.out 0).trans rfl, (blk_cell BK732.out 1).trans rfl, (blk_cell BK732.out 2).trans rfl, (blk_cell BK732.out 3).trans rfl, (blk_cell BK732.out 4).trans rfl, (blk_cell BK732.out 5).trans rfl, (blk_cell BK732.out 6).trans rfl, (blk_cell BK732.out 7).trans rfl, (blk_cell BK732.out 8).trans rfl, (blk_cell BK732.out 9).trans rfl, (blk_cell BK732.out 10).trans rfl, (blk_cell BK732.out 11).trans rfl, (blk_cell BK732.out 12).trans rfl⟩ (fun hHeld => ?_)
     clear hK K
     refine nP (some 36) ?_
     refine one_ (i := 19) (N := some 41) (ma 22 1048575) rfl rfl (one_of HT_.out (by kernel_rfl)) (by decide) (fun K hK => ?_)
     refine gO Try.func18 #[.slice A1 l1.length c1, .slice Ao36 t744.length co36, .slice Ao37 t747.length co37, .int .i64 a0_2, .agg #[.int .i64 a0_3, .int .i64 a0_4, .int .i64 a0_5, .int .i64 a0_6, .int .i64 a0_7, .int .i64 a0_8, .int .i64 a0_9, .int .i64 a0_10, .int .i64 a0_11, .int .i64 a0_12]] rfl rfl ?_
     with_reducible refine (mandolineref35_Right.calls kj4 _ _ l1 _ _ t744 _ _ t747 a0_2 a0_3 a0_4 a0_5 a0_6 a0_7 a0_8 a0_9 a0_10 a0_11 a0_12 t750 _ (cU (Kd.C_below HR1.out HB.out)) HC1.out (cU (rC HO746)) (rN HO746) (cU (rC HO749)) (rN HO749) A19.out).mono ?_
     rintro e w38 ⟨rfl, hb⟩
     refine ⟨_, rfl, ?_⟩
     replace HO737 := rB HO737 hb
     replace HO740 := rB HO740 hb
     replace HO746 := rB HO746 hb
     replace HO749 := rB HO749 hb
     replace BK732 := sB BK732 hb
     replace BK741 := sB BK741 hb
     replace BK742 := sB BK742 hb
     replace HB := sL HB hb
     (try clear hb)
     (try clear hb2)
     (try clear hk)
     (try clear hi)
     refine hK.out _ _ ⟨(blk_cell BK741.out 0).trans rfl, (blk_cell BK742.out 0).trans rfl, (blk_cell BK732.out 0).trans rfl, (blk_cell BK732.out 1).trans rfl, (blk_cell BK732.out 2).trans rfl, (blk_cell BK732.out 3).trans rfl, (blk_cell BK732.out 4).trans rfl, (blk_cell BK732.out 5).trans rfl, (blk_cell BK732.out 6).trans rfl, (blk_cell BK732.out 7).trans rfl, (blk_cell BK732.out 8).trans rfl, (blk_cell BK732.out 9).trans rfl, (blk_cell BK732.out 10).trans rfl, (blk_cell BK732.out 11).trans rfl, (blk_cell BK732.out 12).trans rfl⟩ (fun hHeld => ?_)
     clear hK K
     refine nP (some 41) ?_
     refine pS (i := 20) (N := some 42) (ma 22 2097151) rfl rfl HT_.out ?_
     refine pS (i := 21) (N := some 4) (ma 22 4194303) rfl rfl HT_.out ?_
     refine done_ (done_of HT_.out (by kernel_rfl)) ?_
     try go_wp2
     go_ret
     exact ⟨eW, lU HB⟩
 ·replace c4 := Bool.eq_false_iff.mpr c4
  subst c4
  rw [if_neg (show ¬ (false = true) by decide)] at H
  obtain rfl := Option.some.inj H
  go_enter Try.func9, Try.ntmps9
  go_wp2_with (first | ((with_reducible refine gate_dst (N := 2) rfl ?_); (try (refine gate_guard (by rfl) ?_; dsimp only)); refine bX (N := 2) (cs := #[.slice A0_0 l0_0.length c0_0, .slice A0_1 l0_1.length c0_1, .int .i64 a0_2, .int .i64 a0_3, .int .i64 a0_4, .int .i64 a0_5, .int .i64 a0_6, .int .i64 a0_7, .int .i64 a0_8, .int .i64 a0_9, .int .i64 a0_10, .int .i64 a0_11, .int .i64 a0_12]) (t := 26) ?_; intro gb732 hg w39 hbox hb; have BK732 := Aside0.mk (hbox); have GE732 := sG HB hg; replace HB := sL HB hb; clear hb hbox hg) | ((with_reducible refine gate_callee (f := 10) rfl ?_); refine gL (some 7) rfl rfl Try.func10 #[] rfl ?_; (with_reducible refine (mandolinelaw35_alive.calls k  false _ A3.out).mono ?_); rintro e w40 ⟨rfl, hb⟩; refine ⟨_, rfl, ?_⟩; replace BK732 := sB BK732 hb; replace HB := sL HB hb; (try clear hb); (try clear hb2); (try clear hk); (try clear hi)))
  go_ret
  exact ⟨eW, lU HB⟩
end Go.Proofs.Ytnaalaakhdbfbaa.XP
