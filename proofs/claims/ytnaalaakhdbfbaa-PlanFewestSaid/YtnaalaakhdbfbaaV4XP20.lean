-- Go functions as plain functions, and that the code comes to these answers (printed by a program).
import Derived.Test.YtnaalaakhdbfbaaV4XP0
import Derived.Test.YtnaalaakhdbfbaaV4XP17
import Derived.Test.YtnaalaakhdbfbaaV4XP18
import Derived.Test.YtnaalaakhdbfbaaV4XP19
namespace Go.Proofs.Ytnaalaakhdbfbaa.XP
open Go.RowKit Go.Proofs.YtnaalaakhdbfbaaW.PrintWords Go.Proofs.YtnaalaakhdbfbaaW.PrintLast Go.Proofs.YtnaalaakhdbfbaaW.PrintMore
attribute [local go_sem] max2_int min2_int max_two min_two max_three min_three max_four min_four
set_option linter.unusedVariables false
set_option linter.unusedSimpArgs false
def mandolineref35_Fetch.f (k : Nat) (a0_0 : Int) (a0_1 : Int) (l1 : List (S48)) (l2 : List (S48)) (a3 : Int) (a4_0 : Int) (a4_1 : Int) (a4_2 : Int) (a4_3 : Int) (a4_4 : Int) (a4_5 : Int) (a4_6 : Int) (a4_7 : Int) (a4_8 : Int) (a4_9 : Int) : Option (Bool) := (mandolineref35_whole.f a0_0 a0_1 a3 a4_0).bind fun t436 => (if t436 = true then ((mandolineref02_Holds.f k l2 a0_0 a0_1).bind fun t437 => (if t437 = true then (if a0_1 = 4611686018427387904 then ((mandolineref35_Waste.f k a0_0 a0_1 l1).bind fun t438 => (some (decide (t438 ≤ a4_1)))) else (if (wrap64 (a0_1 - a0_0)) ≤ a4_2 then ((mandolineref35_Waste.f k a0_0 a0_1 l1).bind fun t439 => (some (decide (t439 ≤ a4_1)))) else (some false))) else (some false))) else (some false))
def mandolineref35_Fetch.T1 : Bool × List (List Nat × List Nat) := (true, [([], []), ([], []), ([], []), ([2], [2]), ([0, 1, 3], [0, 1, 3]), ([4, 4], [4]), ([5], [5]), ([5], [5]), ([6, 7, 5, 5], [5, 6, 7]), ([5, 8], [5, 8]), ([9, 8], [9]), ([10], [10]), ([11, 10], [10, 11]), ([12, 10], [10, 12]), ([13, 10, 10], [10, 13]), ([14], [14]), ([15, 14], [14, 15]), ([14], [14]), ([17, 14], [14, 17]), ([16, 18, 14], [14, 16, 18]), ([14], [14]), ([20, 14], [14, 20]), ([19, 21, 14], [14, 19, 21]), ([14, 22, 10], [10, 14, 22]), ([10, 23], [10, 23]), ([24, 14], [24]), ([25], [25]), ([25], [25]), ([26, 27, 25, 25], [25, 26, 27]), ([25], [25]), ([29, 25], [25, 29]), ([28, 30, 25], [25, 28, 30]), ([25, 31], [25, 31]), ([32, 28, 0, 1, 2, 3, 4, 5, 6, 7, 8, 9, 10, 11, 12, 13, 14, 15, 16, 17, 18, 19, 20, 21, 22, 23, 24, 25, 26, 27, 28, 29, 30, 31, 32], [32])])
def mandolineref35_Fetch.B1 : List Nat := [0, 0, 0, 4, 15, 31, 63, 63, 255, 511, 1023, 2047, 4095, 8191, 16383, 32767, 65535, 32767, 163839, 524287, 32767, 1081343, 4194303, 8388607, 16777215, 33554431, 67108863, 67108863, 268435455, 67108863, 603979775, 2147483647, 4294967295, 8589934591]
theorem mandolineref35_Fetch.tab1 : rtab .any (opsOf Try.f37 1) = mandolineref35_Fetch.T1 := by kernel_rfl
theorem mandolineref35_Fetch.bits1 : waitsOk mandolineref35_Fetch.T1.2 mandolineref35_Fetch.B1 = true := by kernel_rfl
set_option maxHeartbeats 8000000 in
set_option maxRecDepth 100000 in
theorem mandolineref35_Fetch.calls (k : Nat) (a0_0 : Int) (a0_1 : Int) (A1 : Option Addr) (c1 : Nat) (l1 : List (S48)) (A2 : Option Addr) (c2 : Nat) (l2 : List (S48)) (a3 : Int) (a4_0 : Int) (a4_1 : Int) (a4_2 : Int) (a4_3 : Int) (a4_4 : Int) (a4_5 : Int) (a4_6 : Int) (a4_7 : Int) (a4_8 : Int) (a4_9 : Int) (r : Bool) (w : World) (hr1 : Kd.C k48 w A1 l1.length l1) (hc1 : l1.length ≤ c1) (hr2 : Kd.C k48 w A2 l2.length l2) (hc2 : l2.length ≤ c2) (h : mandolineref35_Fetch.f k a0_0 a0_1 l1 l2 a3 a4_0 a4_1 a4_2 a4_3 a4_4 a4_5 a4_6 a4_7 a4_8 a4_9 = some r) :
  Calls Try.prog 37 #[.agg #[.int .i64 a0_0, .int .i64 a0_1], .slice A1 l1.length c1, .slice A2 l2.length c2, .int .i64 a3, .agg #[.int .i64 a4_0, .int .i64 a4_1, .int .i64 a4_2, .int .i64 a4_3, .int .i64 a4_4, .int .i64 a4_5, .int .i64 a4_6, .int .i64 a4_7, .int .i64 a4_8, .int .i64 a4_9]] w fun e w' => e = .returned (.bool r) ∧ Below w.heap.size w w' := by
 have hu48 := Try.underlying48
 have hu24 := Try.underlying24
 have HR1 := Aside0.mk hr1
 have HC1 := Aside0.mk hc1
 clear hr1 hc1
 have HR2 := Aside0.mk hr2
 have HC2 := Aside0.mk hc2
 clear hr2 hc2
 have HB := Aside0.mk (Below.refl w.heap.size w)
 unfold mandolineref35_Fetch.f at h
 have H := h
 clear h
 obtain ⟨t436, A6, H⟩ := bO H
 by_cases c7 : t436 = true
 ·subst c7
  rw [if_pos rfl] at H
  obtain ⟨t437, A8, H⟩ := bO H
  by_cases c9 : t437 = true
  ·subst c9
   rw [if_pos rfl] at H
   by_cases c10 : a0_1 = 4611686018427387904
   ·rw [if_pos c10] at H
    have c10b0 : (a0_1 == 4611686018427387904) = true := beq_iff_eq.mpr c10
    have c10b1 : (a0_1 != 4611686018427387904) = false := bne_eq_false_iff_eq.mpr c10
    clear c10
    obtain ⟨t438, A11, H⟩ := bO H
    obtain rfl := Option.some.inj H
    go_enter Try.func37, Try.ntmps37
    try go_wp2_with (first | ((with_reducible refine gate_dst (N := 5) rfl ?_); refine bX (N := 5) (cs := #[.int .i64 a0_0, .int .i64 a0_1]) (t := 48) ?_; intro gb434 hg w12 hbox hb; have BK434 := Aside0.mk (hbox); have GE434 := sG HB hg; replace HB := sL HB hb; clear hb hbox hg) | ((with_reducible refine gate_dst (N := 9) rfl ?_); refine bX (N := 9) (cs := #[.int .i64 a4_0, .int .i64 a4_1, .int .i64 a4_2, .int .i64 a4_3, .int .i64 a4_4, .int .i64 a4_5, .int .i64 a4_6, .int .i64 a4_7, .int .i64 a4_8, .int .i64 a4_9]) (t := 24) ?_; intro gb435 hg w13 hbox hb; have BK435 := Aside0.mk (hbox); have GE435 := sG HB hg; replace BK434 := sB BK434 hb; replace HB := sL HB hb; clear hb hbox hg))
    replace BK434 := Aside0.mk (blk_drew BK434.out)
    replace BK435 := Aside0.mk (blk_drew BK435.out)
    replace HB := Aside0.mk (below_drew1 HB.out)
    refine start_ (n := 34) (S := fun w' => w'.cell? ⟨gb434, 0, none⟩ = some (.int .i64 a0_0) ∧ w'.cell? ⟨gb434, 1, none⟩ = some (.int .i64 a0_1) ∧ w'.cell? ⟨gb435, 0, none⟩ = some (.int .i64 a4_0) ∧ w'.cell? ⟨gb435, 1, none⟩ = some (.int .i64 a4_1) ∧ w'.cell? ⟨gb435, 2, none⟩ = some (.int .i64 a4_2) ∧ w'.cell? ⟨gb435, 3, none⟩ = some (.int .i64 a4_3) ∧ w'.cell? ⟨gb435, 4, none⟩ = some (.int .i64 a4_4) ∧ w'.cell? ⟨gb435, 5, none⟩ = some (.int .i64 a4_5) ∧ w'.cell? ⟨gb435, 6, none⟩ = some (.int .i64 a4_6) ∧ w'.cell? ⟨gb435, 7, none⟩ = some (.int .i64 a4_7) ∧ w'.cell? ⟨gb435, 8, none⟩ = some (.int .i64 a4_8) ∧ w'.cell? ⟨gb435, 9, none⟩ = some (.int .i64 a4_9)) (ds := []) #[false, false, false, false, false, false, false, false, false, false, false, false, false, false, false, false, false, false, false, false, false, false, false, false, false, false, false, false, false, false, false, false, false, false] (by kernel_rfl) rfl rfl ⟨(blk_cell BK434.out 0).trans rfl, (blk_cell BK434.out 1).trans rfl, (blk_cell BK435.out 0).trans rfl, (blk_cell BK435.out 1).trans rfl, (blk_cell BK435.out 2).trans rfl, (blk_cell BK435.out 3).trans rfl, (blk_cell BK435.out 4).trans rfl, (blk_cell BK435.out 5).trans rfl, (blk_cell BK435.out 6).trans rfl, (blk_cell BK435.out 7).trans rfl, (blk_cell BK435.out 8).trans rfl, (blk_cell BK435.out 9).trans rfl⟩ (fun hHeld => ?_); refine with_tabW mandolineref35_Fetch.tab1 mandolineref35_Fetch.bits1 (fun HT_ HW_ => ?_)
    generalize w13.drew = w14 at BK434 BK435 HB hHeld ⊢
    refine pS (i := 1) (N := some 12) (ma 34 2) rfl rfl HT_.out ?_
    refine pS (i := 2) (N := some 13) (ma 34 6) rfl rfl HT_.out ?_
    refine tS (i := 0) (N := some 11) (ma 34 7) rfl rfl HT_.out HW_.out hHeld ?_
    refine tS (i := 3) (N := some 14) (ma 34 15) rfl rfl HT_.out HW_.out hHeld ?_
    refine one_ (i := 4) (N := some 15) (ma 34 31) rfl rfl (one_of HT_.out (by kernel_rfl)) (by decide) (fun K hK => ?_)
    refine gO Try.func60 #[.agg #[.int .i64 a0_0, .int .i64 a0_1], .int .i64 a3, .int .i64 a4_0] rfl rfl ?_
    with_reducible refine (mandolineref35_whole.calls a0_0 a0_1 a3 a4_0 true _ A6.out).mono ?_
    rintro e w15 ⟨rfl, hb⟩
    refine ⟨_, rfl, ?_⟩
    replace BK434 := sB BK434 hb
    replace BK435 := sB BK435 hb
    replace HB := sL HB hb
    (try clear hb)
    (try clear hb2)
    (try clear hk)
    (try clear hi)
    refine hK.out _ _ ⟨(blk_cell BK434.out 0).trans rfl, (blk_cell BK434.out 1).trans rfl, (blk_cell BK435.out 0).trans rfl, (blk_cell BK435.out 1).trans rfl, (blk_cell BK435.out 2).trans rfl, (blk_cell BK435.out 3).trans rfl, (blk_cell BK435.out 4).trans rfl, (blk_cell BK435.out 5).trans rfl, (blk_cell BK435.out 6).trans rfl, (blk_cell BK435.out 7).trans rfl, (blk_cell BK435.out 8).trans rfl, (blk_cell BK435.out 9).trans rfl⟩ (fun hHeld => ?_)
    clear hK K
    refine nP (some 15) ?_
    refine pS (i := 5) (N := some 16) (ma 34 63) rfl rfl HT_.out ?_
    refine pS (i := 6) (N := some 17) (ma 34 127) rfl rfl HT_.out ?_
    refine tS (i := 7) (N := some 18) (ma 34 255) rfl rfl HT_.out HW_.out hHeld ?_
    refine one_ (i := 8) (N := some 19) (ma 34 511) rfl rfl (one_of HT_.out (by kernel_rfl)) (by decide) (fun K hK => ?_)
    refine gO Try.func61 #[.slice A2 l2.length c2, .agg #[.int .i64 a0_0, .int .i64 a0_1]] rfl rfl ?_
    with_reducible refine (mandolineref02_Holds.calls k _ _ l2 a0_0 a0_1 true _ (cU (Kd.C_below HR2.out HB.out)) HC2.out A8.out).mono ?_
    rintro e w16 ⟨rfl, hb⟩
    refine ⟨_, rfl, ?_⟩
    replace BK434 := sB BK434 hb
    replace BK435 := sB BK435 hb
    replace HB := sL HB hb
    (try clear hb)
    (try clear hb2)
    (try clear hk)
    (try clear hi)
    refine hK.out _ _ ⟨(blk_cell BK434.out 0).trans rfl, (blk_cell BK434.out 1).trans rfl, (blk_cell BK435.out 0).trans rfl, (blk_cell BK435.out 1).trans rfl, (blk_cell BK435.out 2).trans rfl, (blk_cell BK435.out 3).trans rfl, (blk_cell BK435.out 4).trans rfl, (blk_cell BK435.out 5).trans rfl, (blk_cell BK435.out 6).trans rfl, (blk_cell BK435.out 7).trans rfl, (blk_cell BK435.out 8).trans rfl, (blk_cell BK435.out 9).trans rfl⟩ (fun hHeld => ?_)
    clear hK K
    refine nP (some 19) ?_
    refine pS (i := 9) (N := some 20) (ma 34 1023) rfl rfl HT_.out ?_
    refine pS (i := 10) (N := some 21) (ma 34 2047) rfl rfl HT_.out ?_
    refine pS (i := 11) (N := some 22) (ma 34 4095) rfl rfl HT_.out ?_
    refine tS (i := 12) (N := some 23) (ma 34 8191) rfl rfl HT_.out HW_.out hHeld ?_
    refine pS (i := 13) (N := some 24) (ma 34 16383) rfl rfl HT_.out ?_
    refine pS (i := 14) (N := some 25) (ma 34 32767) rfl rfl HT_.out ?_
    refine pU (i := 15) (N := some 26) (ma 34 65535) rfl rfl HT_.out ?_
    refine pU (i := 16) (N := some 27) (ma 34 131071) rfl rfl HT_.out ?_
    refine pU (i := 17) (N := some 28) (ma 34 262143) rfl rfl HT_.out ?_
    refine pU (i := 18) (N := some 29) (ma 34 524287) rfl rfl HT_.out ?_
    refine pU (i := 19) (N := some 30) (ma 34 1048575) rfl rfl HT_.out ?_
    refine pU (i := 20) (N := some 31) (ma 34 2097151) rfl rfl HT_.out ?_
    refine pU (i := 21) (N := some 32) (ma 34 4194303) rfl rfl HT_.out ?_
    refine pU (i := 22) (N := some 33) (ma 34 8388607) rfl rfl HT_.out ?_
    refine pS (i := 23) (N := some 34) (ma 34 16777215) rfl rfl HT_.out ?_
    refine pS (i := 24) (N := some 35) (ma 34 33554431) rfl rfl HT_.out ?_
    refine pS (i := 25) (N := some 36) (ma 34 67108863) rfl rfl HT_.out ?_
    refine pS (i := 27) (N := some 38) (ma 34 201326591) rfl rfl HT_.out ?_
    refine pS (i := 29) (N := some 40) (ma 34 738197503) rfl rfl HT_.out ?_
    refine tS (i := 26) (N := some 37) (ma 34 805306367) rfl rfl HT_.out HW_.out hHeld ?_
    refine tS (i := 30) (N := some 41) (ma 34 1879048191) rfl rfl HT_.out HW_.out hHeld ?_
    refine one_ (i := 28) (N := some 39) (ma 34 2147483647) rfl rfl (one_of HT_.out (by kernel_rfl)) (by decide) (fun K hK => ?_)
    refine gO Try.func24 #[.agg #[.int .i64 a0_0, .int .i64 a0_1], .slice A1 l1.length c1] rfl rfl ?_
    with_reducible refine (mandolineref35_Waste.calls k a0_0 a0_1 _ _ l1 t438 _ (cU (Kd.C_below HR1.out HB.out)) HC1.out A11.out).mono ?_
    rintro e w17 ⟨rfl, hb⟩
    refine ⟨_, rfl, ?_⟩
    replace BK434 := sB BK434 hb
    replace BK435 := sB BK435 hb
    replace HB := sL HB hb
    (try clear hb)
    (try clear hb2)
    (try clear hk)
    (try clear hi)
    refine hK.out _ _ ⟨(blk_cell BK434.out 0).trans rfl, (blk_cell BK434.out 1).trans rfl, (blk_cell BK435.out 0).trans rfl, (blk_cell BK435.out 1).trans rfl, (blk_cell BK435.out 2).trans rfl, (blk_cell BK435.out 3).trans rfl, (blk_cell BK435.out 4).trans rfl, (blk_cell BK435.out 5).trans rfl, (blk_cell BK435.out 6).trans rfl, (blk_cell BK435.out 7).trans rfl, (blk_cell BK435.out 8).trans rfl, (blk_cell BK435.out 9).trans rfl⟩ (fun hHeld => ?_)
    clear hK K
    refine nP (some 39) ?_
    refine pS (i := 31) (N := some 42) (ma 34 4294967295) rfl rfl HT_.out ?_
    refine pS (i := 32) (N := some 43) (ma 34 8589934591) rfl rfl HT_.out ?_
    refine pS (i := 33) (N := some 10) (ma 34 17179869183) rfl rfl HT_.out ?_
    refine done_ (done_of HT_.out (by kernel_rfl)) ?_
    try go_wp2
    go_ret
    exact ⟨eW, lU HB⟩
   ·rw [if_neg c10] at H
    have c10b0 : (a0_1 == 4611686018427387904) = false := beq_eq_false_iff_ne.mpr c10
    have c10b1 : (a0_1 != 4611686018427387904) = true := bne_iff_ne.mpr c10
    by_cases c18 : (wrap64 (a0_1 - a0_0)) ≤ a4_2
    ·rw [if_pos c18] at H
     have c18b0 : decide ((wrap64 (a0_1 - a0_0)) ≤ a4_2) = true := decide_eq_true c18
     clear c18
     obtain ⟨t439, A19, H⟩ := bO H
     obtain rfl := Option.some.inj H
     go_enter Try.func37, Try.ntmps37
     try go_wp2_with (first | ((with_reducible refine gate_dst (N := 5) rfl ?_); refine bX (N := 5) (cs := #[.int .i64 a0_0, .int .i64 a0_1]) (t := 48) ?_; intro gb434 hg w20 hbox hb; have BK434 := Aside0.mk (hbox); have GE434 := sG HB hg; replace HB := sL HB hb; clear hb hbox hg) | ((with_reducible refine gate_dst (N := 9) rfl ?_); refine bX (N := 9) (cs := #[.int .i64 a4_0, .int .i64 a4_1, .int .i64 a4_2, .int .i64 a4_3, .int .i64 a4_4, .int .i64 a4_5, .int .i64 a4_6, .int .i64 a4_7, .int .i64 a4_8, .int .i64 a4_9]) (t := 24) ?_; intro gb435 hg w21 hbox hb; have BK435 := Aside0.mk (hbox); have GE435 := sG HB hg; replace BK434 := sB BK434 hb; replace HB := sL HB hb; clear hb hbox hg))
     replace BK434 := Aside0.mk (blk_drew BK434.out)
     replace BK435 := Aside0.mk (blk_drew BK435.out)
     replace HB := Aside0.mk (below_drew1 HB.out)
     refine start_ (n := 34) (S := fun w' => w'.cell? ⟨gb434, 0, none⟩ = some (.int .i64 a0_0) ∧ w'.cell? ⟨gb434, 1, none⟩ = some (.int .i64 a0_1) ∧ w'.cell? ⟨gb435, 0, none⟩ = some (.int .i64 a4_0) ∧ w'.cell? ⟨gb435, 1, none⟩ = some (.int .i64 a4_1) ∧ w'.cell? ⟨gb435, 2, none⟩ = some (.int .i64 a4_2) ∧ w'.cell? ⟨gb435, 3, none⟩ = some (.int .i64 a4_3) ∧ w'.cell? ⟨gb435, 4, none⟩ = some (.int .i64 a4_4) ∧ w'.cell? ⟨gb435, 5, none⟩ = some (.int .i64 a4_5) ∧ w'.cell? ⟨gb435, 6, none⟩ = some (.int .i64 a4_6) ∧ w'.cell? ⟨gb435, 7, none⟩ = some (.int .i64 a4_7) ∧ w'.cell? ⟨gb435, 8, none⟩ = some (.int .i64 a4_8) ∧ w'.cell? ⟨gb435, 9, none⟩ = some (.int .i64 a4_9)) (ds := []) #[false, false, false, false, false, false, false, false, false, false, false, false, false, false, false, false, false, false, false, false, false, false, false, false, false, false, false, false, false, false, false, false, false, false] (by kernel_rfl) rfl rfl ⟨(blk_cell BK434.out 0).trans rfl, (blk_cell BK434.out 1).trans rfl, (blk_cell BK435.out 0).trans rfl, (blk_cell BK435.out 1).trans rfl, (blk_cell BK435.out 2).trans rfl, (blk_cell BK435.out 3).trans rfl, (blk_cell BK435.out 4).trans rfl, (blk_cell BK435.out 5).trans rfl, (blk_cell BK435.out 6).trans rfl, (blk_cell BK435.out 7).trans rfl, (blk_cell BK435.out 8).trans rfl, (blk_cell BK435.out 9).trans rfl⟩ (fun hHeld => ?_); refine with_tabW mandolineref35_Fetch.tab1 mandolineref35_Fetch.bits1 (fun HT_ HW_ => ?_)
     generalize w21.drew = w22 at BK434 BK435 HB hHeld ⊢
     refine pS (i := 1) (N := some 12) (ma 34 2) rfl rfl HT_.out ?_
     refine pS (i := 2) (N := some 13) (ma 34 6) rfl rfl HT_.out ?_
     refine tS (i := 0) (N := some 11) (ma 34 7) rfl rfl HT_.out HW_.out hHeld ?_
     refine tS (i := 3) (N := some 14) (ma 34 15) rfl rfl HT_.out HW_.out hHeld ?_
     refine one_ (i := 4) (N := some 15) (ma 34 31) rfl rfl (one_of HT_.out (by kernel_rfl)) (by decide) (fun K hK => ?_)
     refine gO Try.func60 #[.agg #[.int .i64 a0_0, .int .i64 a0_1], .int .i64 a3, .int .i64 a4_0] rfl rfl ?_
     with_reducible refine (mandolineref35_whole.calls a0_0 a0_1 a3 a4_0 true _ A6.out).mono ?_
     rintro e w23 ⟨rfl, hb⟩
     refine ⟨_, rfl, ?_⟩
     replace BK434 := sB BK434 hb
     replace BK435 := sB BK435 hb
     replace HB := sL HB hb
     (try clear hb)
     (try clear hb2)
     (try clear hk)
     (try clear hi)
     refine hK.out _ _ ⟨(blk_cell BK434.out 0).trans rfl, (blk_cell BK434.out 1).trans rfl, (blk_cell BK435.out 0).trans rfl, (blk_cell BK435.out 1).trans rfl, (blk_cell BK435.out 2).trans rfl, (blk_cell BK435.out 3).trans rfl, (blk_cell BK435.out 4).trans rfl, (blk_cell BK435.out 5).trans rfl, (blk_cell BK435.out 6).trans rfl, (blk_cell BK435.out 7).trans rfl, (blk_cell BK435.out 8).trans rfl, (blk_cell BK435.out 9).trans rfl⟩ (fun hHeld => ?_)
     clear hK K
     refine nP (some 15) ?_
     refine pS (i := 5) (N := some 16) (ma 34 63) rfl rfl HT_.out ?_
     refine pS (i := 6) (N := some 17) (ma 34 127) rfl rfl HT_.out ?_
     refine tS (i := 7) (N := some 18) (ma 34 255) rfl rfl HT_.out HW_.out hHeld ?_
     refine one_ (i := 8) (N := some 19) (ma 34 511) rfl rfl (one_of HT_.out (by kernel_rfl)) (by decide) (fun K hK => ?_)
     refine gO Try.func61 #[.slice A2 l2.length c2, .agg #[.int .i64 a0_0, .int .i64 a0_1]] rfl rfl ?_
     with_reducible refine (mandolineref02_Holds.calls k _ _ l2 a0_0 a0_1 true _ (cU (Kd.C_below HR2.out HB.out)) HC2.out A8.out).mono ?_
     rintro e w24 ⟨rfl, hb⟩
     refine ⟨_, rfl, ?_⟩
     replace BK434 := sB BK434 hb
     replace BK435 := sB BK435 hb
     replace HB := sL HB hb
     (try clear hb)
     (try clear hb2)
     (try clear hk)
     (try clear hi)
     refine hK.out _ _ ⟨(blk_cell BK434.out 0).trans rfl, (blk_cell BK434.out 1).trans rfl, (blk_cell BK435.out 0).trans rfl, (blk_cell BK435.out 1).trans rfl, (blk_cell BK435.out 2).trans rfl, (blk_cell BK435.out 3).trans rfl, (blk_cell BK435.out 4).trans rfl, (blk_cell BK435.out 5).trans rfl, (blk_cell BK435.out 6).trans rfl, (blk_cell BK435.out 7).trans rfl, (blk_cell BK435.out 8).trans rfl, (blk_cell BK435.out 9).trans rfl⟩ (fun hHeld => ?_)
     clear hK K
     refine nP (some 19) ?_
     refine pS (i := 9) (N := some 20) (ma 34 1023) rfl rfl HT_.out ?_
     refine pS (i := 10) (N := some 21) (ma 34 2047) rfl rfl HT_.out ?_
     refine pS (i := 11) (N := some 22) (ma 34 4095) rfl rfl HT_.out ?_
     refine tS (i := 12) (N := some 23) (ma 34 8191) rfl rfl HT_.out HW_.out hHeld ?_
     refine pS (i := 13) (N := some 24) (ma 34 16383) rfl rfl HT_.out ?_
     refine pS (i := 14) (N := some 25) (ma 34 32767) rfl rfl HT_.out ?_
     refine pS (i := 15) (N := some 26) (ma 34 65535) rfl rfl HT_.out ?_
     refine pS (i := 17) (N := some 28) (ma 34 196607) rfl rfl HT_.out ?_
     refine pS (i := 20) (N := some 31) (ma 34 1245183) rfl rfl HT_.out ?_
     refine tS (i := 16) (N := some 27) (ma 34 1310719) rfl rfl HT_.out HW_.out hHeld ?_
     refine tS (i := 18) (N := some 29) (ma 34 1572863) rfl rfl HT_.out HW_.out hHeld ?_
     refine pS (i := 19) (N := some 30) (ma 34 2097151) rfl rfl HT_.out ?_
     refine tS (i := 21) (N := some 32) (ma 34 4194303) rfl rfl HT_.out HW_.out hHeld ?_
     refine pS (i := 22) (N := some 33) (ma 34 8388607) rfl rfl HT_.out ?_
     refine pS (i := 23) (N := some 34) (ma 34 16777215) rfl rfl HT_.out ?_
     refine pS (i := 24) (N := some 35) (ma 34 33554431) rfl rfl HT_.out ?_
     refine pS (i := 25) (N := some 36) (ma 34 67108863) rfl rfl HT_.out ?_
     refine pS (i := 27) (N := some 38) (ma 34 201326591) rfl rfl HT_.out ?_
     refine pS (i := 29) (N := some 40) (ma 34 738197503) rfl rfl HT_.out ?_
     refine tS (i := 26) (N := some 37) (ma 34 805306367) rfl rfl HT_.out HW_.out hHeld ?_
     refine tS (i := 30) (N := some 41) (ma 34 1879048191) rfl rfl HT_.out HW_.out hHeld ?_
     refine one_ (i := 28) (N := some 39) (ma 34 2147483647) rfl rfl (one_of HT_.out (by kernel_rfl)) (by decide) (fun K hK => ?_)
     refine gO Try.func24 #[.agg #[.int .i64 a0_0, .int .i64 a0_1], .slice A1 l1.length c1] rfl rfl ?_
     with_reducible refine (mandolineref35_Waste.calls k a0_0 a0_1 _ _ l1 t439 _ (cU (Kd.C_below HR1.out HB.out)) HC1.out A19.out).mono ?_
     rintro e w25 ⟨rfl, hb⟩
     refine ⟨_, rfl, ?_⟩
     replace BK434 := sB BK434 hb
     replace BK435 := sB BK435 hb
     replace HB := sL HB hb
     (try clear hb)
     (try clear hb2)
     (try clear hk)
     (try clear hi)
     refine hK.out _ _ ⟨(blk_cell BK434.out 0).trans rfl, (blk_cell BK434.out 1).trans rfl, (blk_cell BK435.out 0).trans rfl, (blk_cell BK435.out 1).trans rfl, (blk_cell BK435.out 2).trans rfl, (blk_cell BK435.out 3).trans rfl, (blk_cell BK435.out 4).trans rfl, (blk_cell BK435.out 5).trans rfl, (blk_cell BK435.out 6).trans rfl, (blk_cell BK435.out 7).trans rfl, (blk_cell BK435.out 8).trans rfl, (blk_cell BK435.out 9).trans rfl⟩ (fun hHeld => ?_)
     clear hK K
     refine nP (some 39) ?_
     refine pS (i := 31) (N := some 42) (ma 34 4294967295) rfl rfl HT_.out ?_
     refine pS (i := 32) (N := some 43) (ma 34 8589934591) rfl rfl HT_.out ?_
     refine pS (i := 33) (N := some 10) (ma 34 17179869183) rfl rfl HT_.out ?_
     refine done_ (done_of HT_.out (by kernel_rfl)) ?_
     try go_wp2
     go_ret
     exact ⟨eW, lU HB⟩
    ·rw [if_neg c18] at H
     have c18b0 : decide ((wrap64 (a0_1 - a0_0)) ≤ a4_2) = false := decide_eq_false c18
     clear c18
     obtain rfl := Option.some.inj H
     go_enter Try.func37, Try.ntmps37
     try go_wp2_with (first | ((with_reducible refine gate_dst (N := 5) rfl ?_); refine bX (N := 5) (cs := #[.int .i64 a0_0, .int .i64 a0_1]) (t := 48) ?_; intro gb434 hg w26 hbox hb; have BK434 := Aside0.mk (hbox); have GE434 := sG HB hg; replace HB := sL HB hb; clear hb hbox hg) | ((with_reducible refine gate_dst (N := 9) rfl ?_); refine bX (N := 9) (cs := #[.int .i64 a4_0, .int .i64 a4_1, .int .i64 a4_2, .int .i64 a4_3, .int .i64 a4_4, .int .i64 a4_5, .int .i64 a4_6, .int .i64 a4_7, .int .i64 a4_8, .int .i64 a4_9]) (t := 24) ?_; intro gb435 hg w27 hbox hb; have BK435 := Aside0.mk (hbox); have GE435 := sG HB hg; replace BK434 := sB BK434 hb; replace HB := sL HB hb; clear hb hbox hg))
     replace BK434 := Aside0.mk (blk_drew BK434.out)
     replace BK435 := Aside0.mk (blk_drew BK435.out)
     replace HB := Aside0.mk (below_drew1 HB.out)
     refine start_ (n := 34) (S := fun w' => w'.cell? ⟨gb434, 0, none⟩ = some (.int .i64 a0_0) ∧ w'.cell? ⟨gb434, 1, none⟩ = some (.int .i64 a0_1) ∧ w'.cell? ⟨gb435, 0, none⟩ = some (.int .i64 a4_0) ∧ w'.cell? ⟨gb435, 1, none⟩ = some (.int .i64 a4_1) ∧ w'.cell? ⟨gb435, 2, none⟩ = some (.int .i64 a4_2) ∧ w'.cell? ⟨gb435, 3, none⟩ = some (.int .i64 a4_3) ∧ w'.cell? ⟨gb435, 4, none⟩ = some (.int .i64 a4_4) ∧ w'.cell? ⟨gb435, 5, none⟩ = some (.int .i64 a4_5) ∧ w'.cell? ⟨gb435, 6, none⟩ = some (.int .i64 a4_6) ∧ w'.cell? ⟨gb435, 7, none⟩ = some (.int .i64 a4_7) ∧ w'.cell? ⟨gb435, 8, none⟩ = some (.int .i64 a4_8) ∧ w'.cell? ⟨gb435, 9, none⟩ = some (.int .i64 a4_9)) (ds := []) #[false, false, false, false, false, false, false, false, false, false, false, false, false, false, false, false, false, false, false, false, false, false, false, false, false, false, false, false, false, false, false, false, false, false] (by kernel_rfl) rfl rfl ⟨(blk_cell BK434.out 0).trans rfl, (blk_cell BK434.out 1).trans rfl, (blk_cell BK435.out 0).trans rfl, (blk_cell BK435.out 1).trans rfl, (blk_cell BK435.out 2).trans rfl, (blk_cell BK435.out 3).trans rfl, (blk_cell BK435.out 4).trans rfl, (blk_cell BK435.out 5).trans rfl, (blk_cell BK435.out 6).trans rfl, (blk_cell BK435.out 7).trans rfl, (blk_cell BK435.out 8).trans rfl, (blk_cell BK435.out 9).trans rfl⟩ (fun hHeld => ?_); refine with_tabW mandolineref35_Fetch.tab1 mandolineref35_Fetch.bits1 (fun HT_ HW_ => ?_)
     generalize w27.drew = w28 at BK434 BK435 HB hHeld ⊢
     refine pS (i := 1) (N := some 12) (ma 34 2) rfl rfl HT_.out ?_
     refine pS (i := 2) (N := some 13) (ma 34 6) rfl rfl HT_.out ?_
     refine tS (i := 0) (N := some 11) (ma 34 7) rfl rfl HT_.out HW_.out hHeld ?_
     refine tS (i := 3) (N := some 14) (ma 34 15) rfl rfl HT_.out HW_.out hHeld ?_
     refine one_ (i := 4) (N := some 15) (ma 34 31) rfl rfl (one_of HT_.out (by kernel_rfl)) (by decide) (fun K hK => ?_)
     refine gO Try.func60 #[.agg #[.int .i64 a0_0, .int .i64 a0_1], .int .i64 a3, .int .i64 a4_0] rfl rfl ?_
     with_reducible refine (mandolineref35_whole.calls a0_0 a0_1 a3 a4_0 true _ A6.out).mono ?_
     rintro e w29 ⟨rfl, hb⟩
     refine ⟨_, rfl, ?_⟩
     replace BK434 := sB BK434 hb
     replace BK435 := sB BK435 hb
     replace HB := sL HB hb
     (try clear hb)
     (try clear hb2)
     (try clear hk)
     (try clear hi)
     refine hK.out _ _ ⟨(blk_cell BK434.out 0).trans rfl, (blk_cell BK434.out 1).trans rfl, (blk_cell BK435.out 0).trans rfl, (blk_cell BK435.out 1).trans rfl, (blk_cell BK435.out 2).trans rfl, (blk_cell BK435.out 3).trans rfl, (blk_cell BK435.out 4).trans rfl, (blk_cell BK435.out 5).trans rfl, (blk_cell BK435.out 6).trans rfl, (blk_cell BK435.out 7).trans rfl, (blk_cell BK435.out 8).trans rfl, (blk_cell BK435.out 9).trans rfl⟩ (fun hHeld => ?_)
     clear hK K
     refine nP (some 15) ?_
     refine pS (i := 5) (N := some 16) (ma 34 63) rfl rfl HT_.out ?_
     refine pS (i := 6) (N := some 17) (ma 34 127) rfl rfl HT_.out ?_
     refine tS (i := 7) (N := some 18) (ma 34 255) rfl rfl HT_.out HW_.out hHeld ?_
     refine one_ (i := 8) (N := some 19) (ma 34 511) rfl rfl (one_of HT_.out (by kernel_rfl)) (by decide) (fun K hK => ?_)
     refine gO Try.func61 #[.slice A2 l2.length c2, .agg #[.int .i64 a0_0, .int .i64 a0_1]] rfl rfl ?_
     with_reducible refine (mandolineref02_Holds.calls k _ _ l2 a0_0 a0_1 true _ (cU (Kd.C_below HR2.out HB.out)) HC2.out A8.out).mono ?_
     rintro e w30 ⟨rfl, hb⟩
     refine ⟨_, rfl, ?_⟩
     replace BK434 := sB BK434 hb
     replace BK435 := sB BK435 hb
     replace HB := sL HB hb
     (try clear hb)
     (try clear hb2)
     (try clear hk)
     (try clear hi)
     refine hK.out _ _ ⟨(blk_cell BK434.out 0).trans rfl, (blk_cell BK434.out 1).trans rfl, (blk_cell BK435.out 0).trans rfl, (blk_cell BK435.out 1).trans rfl, (blk_cell BK435.out 2).trans rfl, (blk_cell BK435.out 3).trans rfl, (blk_cell BK435.out 4).trans rfl, (blk_cell BK435.out 5).trans rfl, (blk_cell BK435.out 6).trans rfl, (blk_cell BK435.out 7).trans rfl, (blk_cell BK435.out 8).trans rfl, (blk_cell BK435.out 9).trans rfl⟩ (fun hHeld => ?_)
     clear hK K
     refine nP (some 19) ?_
     refine pS (i := 9) (N := some 20) (ma 34 1023) rfl rfl HT_.out ?_
     refine pS (i := 10) (N := some 21) (ma 34 2047) rfl rfl HT_.out ?_
     refine pS (i := 11) (N := some 22) (ma 34 4095) rfl rfl HT_.out ?_
     refine tS (i := 12) (N := some 23) (ma 34 8191) rfl rfl HT_.out HW_.out hHeld ?_
     refine pS (i := 13) (N := some 24) (ma 34 16383) rfl rfl HT_.out ?_
     refine pS (i := 14) (N := some 25) (ma 34 32767) rfl rfl HT_.out ?_
     refine pS (i := 15) (N := some 26) (ma 34 65535) rfl rfl HT_.out ?_
     refine pS (i := 17) (N := some 28) (ma 34 196607) rfl rfl HT_.out ?_
     refine pS (i := 20) (N := some 31) (ma 34 1245183) rfl rfl HT_.out ?_
     refine tS (i := 16) (N := some 27) (ma 34 1310719) rfl rfl HT_.out HW_.out hHeld ?_
     refine tS (i := 18) (N := some 29) (ma 34 1572863) rfl rfl HT_.out HW_.out hHeld ?_
     refine pS (i := 19) (N := some 30) (ma 34 2097151) rfl rfl HT_.out ?_
     refine tS (i := 21) (N := some 32) (ma 34 4194303) rfl rfl HT_.out HW_.out hHeld ?_
     refine pS (i := 22) (N := some 33) (ma 34 8388607) rfl rfl HT_.out ?_
     refine pS (i := 23) (N := some 34) (ma 34 16777215) rfl rfl HT_.out ?_
     refine pS (i := 24) (N := some 35) (ma 34 33554431) rfl rfl HT_.out ?_
     refine pS (i := 25) (N := some 36) (ma 34 67108863) rfl rfl HT_.out ?_
     refine pU (i := 26) (N := some 37) (ma 34 134217727) rfl rfl HT_.out ?_
     refine pU (i := 27) (N := some 38) (ma 34 268435455) rfl rfl HT_.out ?_
     refine pU (i := 28) (N := some 39) (ma 34 536870911) rfl rfl HT_.out ?_
     refine pU (i := 29) (N := some 40) (ma 34 1073741823) rfl rfl HT_.out ?_
     refine pU (i := 30) (N := some 41) (ma 34 2147483647) rfl rfl HT_.out ?_
     refine pU (i := 31) (N := some 42) (ma 34 4294967295) rfl rfl HT_.out ?_
     refine pS (i := 32) (N := some 43) (ma 34 8589934591) rfl rfl HT_.out ?_
     refine pS (i := 33) (N := some 10) (ma 34 17179869183) rfl rfl HT_.out ?_
     refine done_ (done_of HT_.out (by kernel_rfl)) ?_
     try go_wp2
     go_ret
     exact ⟨eW, lU HB⟩
  ·replace c9 := Bool.eq_false_iff.mpr c9
   subst c9
   rw [if_neg (show ¬ (false = true) by decide)] at H
   obtain rfl := Option.some.inj H
   go_enter Try.func37, Try.ntmps37
   try go_wp2_with (first | ((with_reducible refine gate_dst (N := 5) rfl ?_); refine bX (N := 5) (cs := #[.int .i64 a0_0, .int .i64 a0_1]) (t := 48) ?_; intro gb434 hg w31 hbox hb; have BK434 := Aside0.mk (hbox); have GE434 := sG HB hg; replace HB := sL HB hb; clear hb hbox hg) | ((with_reducible refine gate_dst (N := 9) rfl ?_); refine bX (N := 9) (cs := #[.int .i64 a4_0, .int .i64 a4_1, .int .i64 a4_2, .int .i64 a4_3, .int .i64 a4_4, .int .i64 a4_5, .int .i64 a4_6, .int .i64 a4_7, .int .i64 a4_8, .int .i64 a4_9]) (t := 24) ?_; intro gb435 hg w32 hbox hb; have BK435 := Aside0.mk (hbox); have GE435 := sG HB hg; replace BK434 := sB BK434 hb; replace HB := sL HB hb; clear hb hbox hg))
   replace BK434 := Aside0.mk (blk_drew BK434.out)
   replace BK435 := Aside0.mk (blk_drew BK435.out)
   replace HB := Aside0.mk (below_drew1 HB.out)
   refine start_ (n := 34) (S := fun w' => w'.cell? ⟨gb434, 0, none⟩ = some (.int .i64 a0_0) ∧ w'.cell? ⟨gb434, 1, none⟩ = some (.int .i64 a0_1) ∧ w'.cell? ⟨gb435, 0, none⟩ = some (.int .i64 a4_0) ∧ w'.cell? ⟨gb435, 1, none⟩ = some (.int .i64 a4_1) ∧ w'.cell? ⟨gb435, 2, none⟩ = some (.int .i64 a4_2) ∧ w'.cell? ⟨gb435, 3, none⟩ = some (.int .i64 a4_3) ∧ w'.cell? ⟨gb435, 4, none⟩ = some (.int .i64 a4_4) ∧ w'.cell? ⟨gb435, 5, none⟩ = some (.int .i64 a4_5) ∧ w'.cell? ⟨gb435, 6, none⟩ = some (.int .i64 a4_6) ∧ w'.cell? ⟨gb435, 7, none⟩ = some (.int .i64 a4_7) ∧ w'.cell? ⟨gb435, 8, none⟩ = some (.int .i64 a4_8) ∧ w'.cell? ⟨gb435, 9, none⟩ = some (.int .i64 a4_9)) (ds := []) #[false, false, false, false, false, false, false, false, false, false, false, false, false, false, false, false, false, false, false, false, false, false, false, false, false, false, false, false, false, false, false, false, false, false] (by kernel_rfl) rfl rfl ⟨(blk_cell BK434.out 0).trans rfl, (blk_cell BK434.out 1).trans rfl, (blk_cell BK435.out 0).trans rfl, (blk_cell BK435.out 1).trans rfl, (blk_cell BK435.out 2).trans rfl, (blk_cell BK435.out 3).trans rfl, (blk_cell BK435.out 4).trans rfl, (blk_cell BK435.out 5).trans rfl, (blk_cell BK435.out 6).trans rfl, (blk_cell BK435.out 7).trans rfl, (blk_cell BK435.out 8).trans rfl, (blk_cell BK435.out 9).trans rfl⟩ (fun hHeld => ?_); refine with_tabW mandolineref35_Fetch.tab1 mandolineref35_Fetch.bits1 (fun HT_ HW_ => ?_)
   generalize w32.drew = w33 at BK434 BK435 HB hHeld ⊢
   refine pS (i := 1) (N := some 12) (ma 34 2) rfl rfl HT_.out ?_
   refine pS (i := 2) (N := some 13) (ma 34 6) rfl rfl HT_.out ?_
   refine tS (i := 0) (N := some 11) (ma 34 7) rfl rfl HT_.out HW_.out hHeld ?_
   refine tS (i := 3) (N := some 14) (ma 34 15) rfl rfl HT_.out HW_.out hHeld ?_
   refine one_ (i := 4) (N := some 15) (ma 34 31) rfl rfl (one_of HT_.out (by kernel_rfl)) (by decide) (fun K hK => ?_)
   refine gO Try.func60 #[.agg #[.int .i64 a0_0, .int .i64 a0_1], .int .i64 a3, .int .i64 a4_0] rfl rfl ?_
   with_reducible refine (mandolineref35_whole.calls a0_0 a0_1 a3 a4_0 true _ A6.out).mono ?_
   rintro e w34 ⟨rfl, hb⟩
   refine ⟨_, rfl, ?_⟩
   replace BK434 := sB BK434 hb
   replace BK435 := sB BK435 hb
   replace HB := sL HB hb
   (try clear hb)
   (try clear hb2)
   (try clear hk)
   (try clear hi)
   refine hK.out _ _ ⟨(blk_cell BK434.out 0).trans rfl, (blk_cell BK434.out 1).trans rfl, (blk_cell BK435.out 0).trans rfl, (blk_cell BK435.out 1).trans rfl, (blk_cell BK435.out 2).trans rfl, (blk_cell BK435.out 3).trans rfl, (blk_cell BK435.out 4).trans rfl, (blk_cell BK435.out 5).trans rfl, (blk_cell BK435.out 6).trans rfl, (blk_cell BK435.out 7).trans rfl, (blk_cell BK435.out 8).trans rfl, (blk_cell BK435.out 9).trans rfl⟩ (fun hHeld => ?_)
   clear hK K
   refine nP (some 15) ?_
   refine pS (i := 5) (N := some 16) (ma 34 63) rfl rfl HT_.out ?_
   refine pS (i := 6) (N := some 17) (ma 34 127) rfl rfl HT_.out ?_
   refine tS (i := 7) (N := some 18) (ma 34 255) rfl rfl HT_.out HW_.out hHeld ?_
   refine one_ (i := 8) (N := some 19) (ma 34 511) rfl rfl (one_of HT_.out (by kernel_rfl)) (by decide) (fun K hK => ?_)
   refine gO Try.func61 #[.slice A2 l2.length c2, .agg #[.int .i64 a0_0, .int .i64 a0_1]] rfl rfl ?_
   with_reducible refine (mandolineref02_Holds.calls k _ _ l2 a0_0 a0_1 false _ (cU (Kd.C_below HR2.out HB.out)) HC2.out A8.out).mono ?_
   rintro e w35 ⟨rfl, hb⟩
   refine ⟨_, rfl, ?_⟩
   replace BK434 := sB BK434 hb
   replace BK435 := sB BK435 hb
   replace HB := sL HB hb
   (try clear hb)
   (try clear hb2)
   (try clear hk)
   (try clear hi)
   refine hK.out _ _ ⟨(blk_cell BK434.out 0).trans rfl, (blk_cell BK434.out 1).trans rfl, (blk_cell BK435.out 0).trans rfl, (blk_cell BK435.out 1).trans rfl, (blk_cell BK435.out 2).trans rfl, (blk_cell BK435.out 3).trans rfl, (blk_cell BK435.out 4).trans rfl, (blk_cell BK435.out 5).trans rfl, (blk_cell BK435.out 6).trans rfl, (blk_cell BK435.out 7).trans rfl, (blk_cell BK435.out 8).trans rfl, (blk_cell BK435.out 9).trans rfl⟩ (fun hHeld => ?_)
   clear hK K
   refine nP (some 19) ?_
   refine pS (i := 9) (N := some 20) (ma 34 1023) rfl rfl HT_.out ?_
   refine pS (i := 10) (N := some 21) (ma 34 2047) rfl rfl HT_.out ?_
   refine pU (i := 11) (N := some 22) (ma 34 4095) rfl rfl HT_.out ?_
   refine pU (i := 12) (N := some 23) (ma 34 8191) rfl rfl HT_.out ?_
   refine pU (i := 13) (N := some 24) (ma 34 16383) rfl rfl HT_.out ?_
   refine pU (i := 14) (N := some 25) (ma 34 32767) rfl rfl HT_.out ?_
   refine pU (i := 15) (N := some 26) (ma 34 65535) rfl rfl HT_.out ?_
   refine pU (i := 16) (N := some 27) (ma 34 131071) rfl rfl HT_.out ?_
   refine pU (i := 17) (N := some 28) (ma 34 262143) rfl rfl HT_.out ?_
   refine pU (i := 18) (N := some 29) (ma 34 524287) rfl rfl HT_.out ?_
   refine pU (i := 19) (N := some 30) (ma 34 1048575) rfl rfl HT_.out ?_
   refine pU (i := 20) (N := some 31) (ma 34 2097151) rfl rfl HT_.out ?_
   refine pU (i := 21) (N := some 32) (ma 34 4194303) rfl rfl HT_.out ?_
   refine pU (i := 22) (N := some 33) (ma 34 8388607) rfl rfl HT_.out ?_
   refine pU (i := 23) (N := some 34) (ma 34 16777215) rfl rfl HT_.out ?_
   refine pS (i := 24) (N := some 35) (ma 34 33554431) rfl rfl HT_.out ?_
   refine pS (i := 25) (N := some 36) (ma 34 67108863) rfl rfl HT_.out ?_
   refine pU (i := 26) (N := some 37) (ma 34 134217727) rfl rfl HT_.out ?_
   refine pU (i := 27) (N := some 38) (ma 34 268435455) rfl rfl HT_.out ?_
   refine pU (i := 28) (N := some 39) (ma 34 536870911) rfl rfl HT_.out ?_
   refine pU (i := 29) (N := some 40) (ma 34 1073741823) rfl rfl HT_.out ?_
   refine pU (i := 30) (N := some 41) (ma 34 2147483647) rfl rfl HT_.out ?_
   refine pU (i := 31) (N := some 42) (ma 34 4294967295) rfl rfl HT_.out ?_
   refine pS (i := 32) (N := some 43) (ma 34 8589934591) rfl rfl HT_.out ?_
   refine pS (i := 33) (N := some 10) (ma 34 17179869183) rfl rfl HT_.out ?_
   refine done_ (done_of HT_.out (by kernel_rfl)) ?_
   try go_wp2
   go_ret
   exact ⟨eW, lU HB⟩
 ·replace c7 := Bool.eq_false_iff.mpr c7
  subst c7
  rw [if_neg (show ¬ (false = true) by decide)] at H
  obtain rfl := Option.some.inj H
  go_enter Try.func37, Try.ntmps37
  try go_wp2_with (first | ((with_reducible refine gate_dst (N := 5) rfl ?_); refine bX (N := 5) (cs := #[.int .i64 a0_0, .int .i64 a0_1]) (t := 48) ?_; intro gb434 hg w36 hbox hb; have BK434 := Aside0.mk (hbox); have GE434 := sG HB hg; replace HB := sL HB hb; clear hb hbox hg) | ((with_reducible refine gate_dst (N := 9) rfl ?_); refine bX (N := 9) (cs := #[.int .i64 a4_0, .int .i64 a4_1, .int .i64 a4_2, .int .i64 a4_3, .int .i64 a4_4, .int .i64 a4_5, .int .i64 a4_6, .int .i64 a4_7, .int .i64 a4_8, .int .i64 a4_9]) (t := 24) ?_; intro gb435 hg w37 hbox hb; have BK435 := Aside0.mk (hbox); have GE435 := sG HB hg; replace BK434 := sB BK434 hb; replace HB := sL HB hb; clear hb hbox hg))
  replace BK434 := Aside0.mk (blk_drew BK434.out)
  replace BK435 := Aside0.mk (blk_drew BK435.out)
  replace HB := Aside0.mk (below_drew1 HB.out)
  refine start_ (n := 34) (S := fun w' => w'.cell? ⟨gb434, 0, none⟩ = some (.int .i64 a0_0) ∧ w'.cell? ⟨gb434, 1, none⟩ = some (.int .i64 a0_1) ∧ w'.cell? ⟨gb435, 0, none⟩ = some (.int .i64 a4_0) ∧ w'.cell? ⟨gb435, 1, none⟩ = some (.int .i64 a4_1) ∧ w'.cell? ⟨gb435, 2, none⟩ = some (.int .i64 a4_2) ∧ w'.cell? ⟨gb435, 3, none⟩ = some (.int .i64 a4_3) ∧ w'.cell? ⟨gb435, 4, none⟩ = some (.int .i64 a4_4) ∧ w'.cell? ⟨gb435, 5, none⟩ = some (.int .i64 a4_5) ∧ w'.cell? ⟨gb435, 6, none⟩ = some (.int .i64 a4_6) ∧ w'.cell? ⟨gb435, 7, none⟩ = some (.int .i64 a4_7) ∧ w'.cell? ⟨gb435, 8, none⟩ = some (.int .i64 a4_8) ∧ w'.cell? ⟨gb435, 9, none⟩ = some (.int .i64 a4_9)) (ds := []) #[false, false, false, false, false, false, false, false, false, false, false, false, false, false, false, false, false, false, false, false, false, false, false, false, false, false, false, false, false, false, false, false, false, false] (by kernel_rfl) rfl rfl ⟨(blk_cell BK434.out 0).trans rfl, (blk_cell BK434.out 1).trans rfl, (blk_cell BK435.out 0).trans rfl, (blk_cell BK435.out 1).trans rfl, (blk_cell BK435.out 2).trans rfl, (blk_cell BK435.out 3).trans rfl, (blk_cell BK435.out 4).trans rfl, (blk_cell BK435.out 5).trans rfl, (blk_cell BK435.out 6).trans rfl, (blk_cell BK435.out 7).trans rfl, (blk_cell BK435.out 8).trans rfl, (blk_cell BK435.out 9).trans rfl⟩ (fun hHeld => ?_); refine with_tabW mandolineref35_Fetch.tab1 mandolineref35_Fetch.bits1 (fun HT_ HW_ => ?_)
  generalize w37.drew = w38 at BK434 BK435 HB hHeld ⊢
  refine pS (i := 1) (N := some 12) (ma 34 2) rfl rfl HT_.out ?_
  refine pS (i := 2) (N := some 13) (ma 34 6) rfl rfl HT_.out ?_
  refine tS (i := 0) (N := some 11) (ma 34 7) rfl rfl HT_.out HW_.out hHeld ?_
  refine tS (i := 3) (N := some 14) (ma 34 15) rfl rfl HT_.out HW_.out hHeld ?_
  refine one_ (i := 4) (N := some 15) (ma 34 31) rfl rfl (one_of HT_.out (by kernel_rfl)) (by decide) (fun K hK => ?_)
  refine gO Try.func60 #[.agg #[.int .i64 a0_0, .int .i64 a0_1], .int .i64 a3, .int .i64 a4_0] rfl rfl ?_
  with_reducible refine (mandolineref35_whole.calls a0_0 a0_1 a3 a4_0 false _ A6.out).mono ?_
  rintro e w39 ⟨rfl, hb⟩
  refine ⟨_, rfl, ?_⟩
  replace BK434 := sB BK434 hb
  replace BK435 := sB BK435 hb
  replace HB := sL HB hb
  (try clear hb)
  (try clear hb2)
  (try clear hk)
  (try clear hi)
  refine hK.out _ _ ⟨(blk_cell BK434.out 0).trans rfl, (blk_cell BK434.out 1).trans rfl, (blk_cell BK435.out 0).trans rfl, (blk_cell BK435.out 1).trans rfl, (blk_cell BK435.out 2).trans rfl, (blk_cell BK435.out 3).trans rfl, (blk_cell BK435.out 4).trans rfl, (blk_cell BK435.out 5).trans rfl, (blk_cell BK435.out 6).trans rfl, (blk_cell BK435.out 7).trans rfl, (blk_cell BK435.out 8).trans rfl, (blk_cell BK435.out 9).trans rfl⟩ (fun hHeld => ?_)
  clear hK K
  refine nP (some 15) ?_
  refine pS (i := 5) (N := some 16) (ma 34 63) rfl rfl HT_.out ?_
  refine pU (i := 6) (N := some 17) (ma 34 127) rfl rfl HT_.out ?_
  refine pU (i := 7) (N := some 18) (ma 34 255) rfl rfl HT_.out ?_
  refine pU (i := 8) (N := some 19) (ma 34 511) rfl rfl HT_.out ?_
  refine pS (i := 9) (N := some 20) (ma 34 1023) rfl rfl HT_.out ?_
  refine pS (i := 10) (N := some 21) (ma 34 2047) rfl rfl HT_.out ?_
  refine pU (i := 11) (N := some 22) (ma 34 4095) rfl rfl HT_.out ?_
  refine pU (i := 12) (N := some 23) (ma 34 8191) rfl rfl HT_.out ?_
  refine pU (i := 13) (N := some 24) (ma 34 16383) rfl rfl HT_.out ?_
  refine pU (i := 14) (N := some 25) (ma 34 32767) rfl rfl HT_.out ?_
  refine pU (i := 15) (N := some 26) (ma 34 65535) rfl rfl HT_.out ?_
  refine pU (i := 16) (N := some 27) (ma 34 131071) rfl rfl HT_.out ?_
  refine pU (i := 17) (N := some 28) (ma 34 262143) rfl rfl HT_.out ?_
  refine pU (i := 18) (N := some 29) (ma 34 524287) rfl rfl HT_.out ?_
  refine pU (i := 19) (N := some 30) (ma 34 1048575) rfl rfl HT_.out ?_
  refine pU (i := 20) (N := some 31) (ma 34 2097151) rfl rfl HT_.out ?_
  refine pU (i := 21) (N := some 32) (ma 34 4194303) rfl rfl HT_.out ?_
  refine pU (i := 22) (N := some 33) (ma 34 8388607) rfl rfl HT_.out ?_
  refine pU (i := 23) (N := some 34) (ma 34 16777215) rfl rfl HT_.out ?_
  refine pS (i := 24) (N := some 35) (ma 34 33554431) rfl rfl HT_.out ?_
  refine pS (i := 25) (N := some 36) (ma 34 67108863) rfl rfl HT_.out ?_
  refine pU (i := 26) (N := some 37) (ma 34 134217727) rfl rfl HT_.out ?_
  refine pU (i := 27) (N := some 38) (ma 34 268435455) rfl rfl HT_.out ?_
  refine pU (i := 28) (N := some 39) (ma 34 536870911) rfl rfl HT_.out ?_
  refine pU (i := 29) (N := some 40) (ma 34 1073741823) rfl rfl HT_.out ?_
  refine pU (i := 30) (N := some 41) (ma 34 2147483647) rfl rfl HT_.out ?_
  refine pU (i := 31) (N := some 42) (ma 34 4294967295) rfl rfl HT_.out ?_
  refine pS (i := 32) (N := some 43) (ma 34 8589934591) rfl rfl HT_.out ?_
  refine pS (i := 33) (N := some 10) (ma 34 17179869183) rfl rfl HT_.out ?_
  refine done_ (done_of HT_.out (by kernel_rfl)) ?_
  try go_wp2
  go_ret
  exact ⟨eW, lU HB⟩
end Go.Proofs.Ytnaalaakhdbfbaa.XP
