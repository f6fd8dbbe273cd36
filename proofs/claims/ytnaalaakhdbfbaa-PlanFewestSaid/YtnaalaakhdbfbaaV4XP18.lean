-- Go functions as plain functions, and that the code comes to these answers (printed by a program).
import Derived.Test.YtnaalaakhdbfbaaV4XP0
import Derived.Test.YtnaalaakhdbfbaaV4XP13
import Derived.Test.YtnaalaakhdbfbaaV4XP16
namespace Go.Proofs.Ytnaalaakhdbfbaa.XP
open Go.RowKit Go.Proofs.YtnaalaakhdbfbaaW.PrintWords Go.Proofs.YtnaalaakhdbfbaaW.PrintLast Go.Proofs.YtnaalaakhdbfbaaW.PrintMore
attribute [local go_sem] max2_int min2_int max_two min_two max_three min_three max_four min_four
set_option linter.unusedVariables false
set_option linter.unusedSimpArgs false
def mandolineref35_whole.f (a0_0 : Int) (a0_1 : Int) (a1 : Int) (a2 : Int) : Option (Bool) := (mandolineref01_Right.f a0_0 a0_1).bind fun t424 => (if t424 = true then (if a0_0 ≥ a0_1 then (some false) else (if a2 = 0 then (none) else (if (Int.tmod a0_0 a2) = 0 then ((mandolineref35_end.f a1).bind fun t425 => (if a0_1 > t425 then (some false) else (if a0_1 = 4611686018427387904 then (some true) else (if (Int.tmod a0_1 a2) = 0 then (some true) else (some (a0_1 == a1)))))) else (some false)))) else (some false))
def mandolineref35_whole.T1 : Bool × List (List Nat × List Nat) := (true, [([], []), ([0], [0]), ([1], [1]), ([2, 1], [2]), ([3], [3]), ([4, 3], [3, 4]), ([3], [3]), ([6, 3], [3, 6]), ([5, 7, 3], [3, 5, 7]), ([3, 8], [3, 8]), ([9, 3], [9]), ([10], [10]), ([11, 10], [10, 11]), ([10], [10]), ([12, 13, 10], [10, 12, 13]), ([14, 10], [10, 14]), ([10, 15], [10, 15]), ([16, 10], [16]), ([17], [17]), ([18, 17], [17, 18]), ([17], [17]), ([20, 17, 17], [17, 20]), ([19, 21, 17], [17, 19, 21]), ([17, 22], [17, 22])])
def mandolineref35_whole.B1 : List Nat := [0, 1, 3, 7, 15, 31, 15, 79, 255, 511, 1023, 2047, 4095, 2047, 16383, 32767, 65535, 131071, 262143, 524287, 262143, 1310719, 4194303, 8388607]
theorem mandolineref35_whole.tab1 : rtab .any (opsOf Try.f60 1) = mandolineref35_whole.T1 := by kernel_rfl
theorem mandolineref35_whole.bits1 : waitsOk mandolineref35_whole.T1.2 mandolineref35_whole.B1 = true := by kernel_rfl
set_option maxHeartbeats 8000000 in
set_option maxRecDepth 100000 in
theorem mandolineref35_whole.calls (a0_0 : Int) (a0_1 : Int) (a1 : Int) (a2 : Int) (r : Bool) (w : World) (h : mandolineref35_whole.f a0_0 a0_1 a1 a2 = some r) :
  Calls Try.prog 60 #[.agg #[.int .i64 a0_0, .int .i64 a0_1], .int .i64 a1, .int .i64 a2] w fun e w' => e = .returned (.bool r) ∧ Below w.heap.size w w' := by
 have hu48 := Try.underlying48
 have HB := Aside0.mk (Below.refl w.heap.size w)
 unfold mandolineref35_whole.f at h
 have H := h
 clear h
 obtain ⟨t424, A4, H⟩ := bO H
 by_cases c5 : t424 = true
 ·subst c5
  rw [if_pos rfl] at H
  by_cases c6 : a0_0 ≥ a0_1
  ·rw [if_pos c6] at H
   have c6b0 : decide (a0_1 ≤ a0_0) = true := decide_eq_true c6
   clear c6
   obtain rfl := Option.some.inj H
   go_enter Try.func60, Try.ntmps60
   try go_wp2_with (first | ((with_reducible refine gate_dst (N := 3) rfl ?_); refine bX (N := 3) (cs := #[.int .i64 a0_0, .int .i64 a0_1]) (t := 48) ?_; intro gb423 hg w7 hbox hb; have BK423 := Aside0.mk (hbox); have GE423 := sG HB hg; replace HB := sL HB hb; clear hb hbox hg))
   replace BK423 := Aside0.mk (blk_drew BK423.out)
   replace HB := Aside0.mk (below_drew1 HB.out)
   refine start_ (n := 24) (S := fun w' => w'.cell? ⟨gb423, 0, none⟩ = some (.int .i64 a0_0) ∧ w'.cell? ⟨gb423, 1, none⟩ = some (.int .i64 a0_1)) (ds := []) #[false, false, false, false, false, false, false, false, false, false, false, false, false, false, false, false, false, false, false, false, false, false, false, false] (by kernel_rfl) rfl rfl ⟨(blk_cell BK423.out 0).trans rfl, (blk_cell BK423.out 1).trans rfl⟩ (fun hHeld => ?_); refine with_tabW mandolineref35_whole.tab1 mandolineref35_whole.bits1 (fun HT_ HW_ => ?_)
   generalize w7.drew = w8 at BK423 HB hHeld ⊢
   refine tS (i := 0) (N := some 7) (ma 24 1) rfl rfl HT_.out HW_.out hHeld ?_
   refine one_ (i := 1) (N := some 8) (ma 24 3) rfl rfl (one_of HT_.out (by kernel_rfl)) (by decide) (fun K hK => ?_)
   refine gO Try.func53 #[.agg #[.int .i64 a0_0, .int .i64 a0_1]] rfl rfl ?_
   with_reducible refine (mandolineref01_Right.calls a0_0 a0_1 true _ A4.out).mono ?_
   rintro e w9 ⟨rfl, hb⟩
   refine ⟨_, rfl, ?_⟩
   replace BK423 := sB BK423 hb
   replace HB := sL HB hb
   (try clear hb)
   (try clear hb2)
   (try clear hk)
   (try clear hi)
   refine hK.out _ _ ⟨(blk_cell BK423.out 0).trans rfl, (blk_cell BK423.out 1).trans rfl⟩ (fun hHeld => ?_)
   clear hK K
   refine nP (some 8) ?_
   refine pS (i := 2) (N := some 9) (ma 24 7) rfl rfl HT_.out ?_
   refine pS (i := 3) (N := some 10) (ma 24 15) rfl rfl HT_.out ?_
   refine pS (i := 4) (N := some 11) (ma 24 31) rfl rfl HT_.out ?_
   refine pS (i := 6) (N := some 13) (ma 24 95) rfl rfl HT_.out ?_
   refine tS (i := 5) (N := some 12) (ma 24 127) rfl rfl HT_.out HW_.out hHeld ?_
   refine tS (i := 7) (N := some 14) (ma 24 255) rfl rfl HT_.out HW_.out hHeld ?_
   refine pS (i := 8) (N := some 15) (ma 24 511) rfl rfl HT_.out ?_
   refine pS (i := 9) (N := some 16) (ma 24 1023) rfl rfl HT_.out ?_
   refine pS (i := 10) (N := some 17) (ma 24 2047) rfl rfl HT_.out ?_
   refine pU (i := 11) (N := some 18) (ma 24 4095) rfl rfl HT_.out ?_
   refine pU (i := 12) (N := some 19) (ma 24 8191) rfl rfl HT_.out ?_
   refine pU (i := 13) (N := some 20) (ma 24 16383) rfl rfl HT_.out ?_
   refine pU (i := 14) (N := some 21) (ma 24 32767) rfl rfl HT_.out ?_
   refine pU (i := 15) (N := some 22) (ma 24 65535) rfl rfl HT_.out ?_
   refine pS (i := 16) (N := some 23) (ma 24 131071) rfl rfl HT_.out ?_
   refine pS (i := 17) (N := some 24) (ma 24 262143) rfl rfl HT_.out ?_
   refine pU (i := 18) (N := some 25) (ma 24 524287) rfl rfl HT_.out ?_
   refine pU (i := 19) (N := some 26) (ma 24 1048575) rfl rfl HT_.out ?_
   refine pU (i := 20) (N := some 27) (ma 24 2097151) rfl rfl HT_.out ?_
   refine pU (i := 21) (N := some 28) (ma 24 4194303) rfl rfl HT_.out ?_
   refine pU (i := 22) (N := some 29) (ma 24 8388607) rfl rfl HT_.out ?_
   refine pS (i := 23) (N := some 30) (ma 24 16777215) rfl rfl HT_.out ?_
   refine done_ (done_of HT_.out (by kernel_rfl)) ?_
   try go_wp2
   go_ret
   exact ⟨eW, lU HB⟩
  ·rw [if_neg c6] at H
   have c6b0 : decide (a0_1 ≤ a0_0) = false := decide_eq_false c6
   clear c6
   by_cases c10 : a2 = 0
   ·rw [if_pos c10] at H
    exact absurd H (by simp)
   ·rw [if_neg c10] at H
    have c10b0 : (a2 == 0) = false := beq_eq_false_iff_ne.mpr c10
    have c10b1 : (a2 != 0) = true := bne_iff_ne.mpr c10
    by_cases c11 : (Int.tmod a0_0 a2) = 0
    ·rw [if_pos c11] at H
     have c11b0 : ((Int.tmod a0_0 a2) == 0) = true := beq_iff_eq.mpr c11
     have c11b1 : ((Int.tmod a0_0 a2) != 0) = false := bne_eq_false_iff_eq.mpr c11
     clear c11
     obtain ⟨t425, A12, H⟩ := bO H
     by_cases c13 : a0_1 > t425
     ·rw [if_pos c13] at H
      have c13b0 : decide (t425 < a0_1) = true := decide_eq_true c13
      clear c13
      obtain rfl := Option.some.inj H
      go_enter Try.func60, Try.ntmps60
      try go_wp2_with (first | ((with_reducible refine gate_dst (N := 3) rfl ?_); refine bX (N := 3) (cs := #[.int .i64 a0_0, .int .i64 a0_1]) (t := 48) ?_; intro gb423 hg w14 hbox hb; have BK423 := Aside0.mk (hbox); have GE423 := sG HB hg; replace HB := sL HB hb; clear hb hbox hg))
      replace BK423 := Aside0.mk (blk_drew BK423.out)
      replace HB := Aside0.mk (below_drew1 HB.out)
      refine start_ (n := 24) (S := fun w' => w'.cell? ⟨gb423, 0, none⟩ = some (.int .i64 a0_0) ∧ w'.cell? ⟨gb423, 1, none⟩ = some (.int .i64 a0_1)) (ds := []) #[false, false, false, false, false, false, false, false, false, false, false, false, false, false, false, false, false, false, false, false, false, false, false, false] (by kernel_rfl) rfl rfl ⟨(blk_cell BK423.out 0).trans rfl, (blk_cell BK423.out 1).trans rfl⟩ (fun hHeld => ?_); refine with_tabW mandolineref35_whole.tab1 mandolineref35_whole.bits1 (fun HT_ HW_ => ?_)
      generalize w14.drew = w15 at BK423 HB hHeld ⊢
      refine tS (i := 0) (N := some 7) (ma 24 1) rfl rfl HT_.out HW_.out hHeld ?_
      refine one_ (i := 1) (N := some 8) (ma 24 3) rfl rfl (one_of HT_.out (by kernel_rfl)) (by decide) (fun K hK => ?_)
      refine gO Try.func53 #[.agg #[.int .i64 a0_0, .int .i64 a0_1]] rfl rfl ?_
      with_reducible refine (mandolineref01_Right.calls a0_0 a0_1 true _ A4.out).mono ?_
      rintro e w16 ⟨rfl, hb⟩
      refine ⟨_, rfl, ?_⟩
      replace BK423 := sB BK423 hb
      replace HB := sL HB hb
      (try clear hb)
      (try clear hb2)
      (try clear hk)
      (try clear hi)
      refine hK.out _ _ ⟨(blk_cell BK423.out 0).trans rfl, (blk_cell BK423.out 1).trans rfl⟩ (fun hHeld => ?_)
      clear hK K
      refine nP (some 8) ?_
      refine pS (i := 2) (N := some 9) (ma 24 7) rfl rfl HT_.out ?_
      refine pS (i := 3) (N := some 10) (ma 24 15) rfl rfl HT_.out ?_
      refine pS (i := 4) (N := some 11) (ma 24 31) rfl rfl HT_.out ?_
      refine pS (i := 6) (N := some 13) (ma 24 95) rfl rfl HT_.out ?_
      refine tS (i := 5) (N := some 12) (ma 24 127) rfl rfl HT_.out HW_.out hHeld ?_
      refine tS (i := 7) (N := some 14) (ma 24 255) rfl rfl HT_.out HW_.out hHeld ?_
      refine pS (i := 8) (N := some 15) (ma 24 511) rfl rfl HT_.out ?_
      refine pS (i := 9) (N := some 16) (ma 24 1023) rfl rfl HT_.out ?_
      refine pS (i := 10) (N := some 17) (ma 24 2047) rfl rfl HT_.out ?_
      refine pS (i := 11) (N := some 18) (ma 24 4095) rfl rfl HT_.out ?_
      refine pS (i := 13) (N := some 20) (ma 24 12287) rfl rfl HT_.out ?_
      refine tS (i := 12) (N := some 19) (ma 24 16383) rfl rfl HT_.out HW_.out hHeld ?_
      refine pS (i := 14) (N := some 21) (ma 24 32767) rfl rfl HT_.out ?_
      refine pS (i := 15) (N := some 22) (ma 24 65535) rfl rfl HT_.out ?_
      refine pS (i := 16) (N := some 23) (ma 24 131071) rfl rfl HT_.out ?_
      refine pS (i := 17) (N := some 24) (ma 24 262143) rfl rfl HT_.out ?_
      refine pS (i := 18) (N := some 25) (ma 24 524287) rfl rfl HT_.out ?_
      refine pS (i := 20) (N := some 27) (ma 24 1572863) rfl rfl HT_.out ?_
      refine tS (i := 19) (N := some 26) (ma 24 2097151) rfl rfl HT_.out HW_.out hHeld ?_
      refine one_ (i := 21) (N := some 28) (ma 24 4194303) rfl rfl (one_of HT_.out (by kernel_rfl)) (by decide) (fun K hK => ?_)
      refine gO Try.func43 #[.int .i64 a1] rfl rfl ?_
      with_reducible refine (mandolineref35_end.calls a1 t425 _ A12.out).mono ?_
      rintro e w' ⟨rfl, ⟨nd, rfl⟩⟩
      refine ⟨_, rfl, ?_⟩
      refine hK.out _ _ ⟨(blk_cell BK423.out 0).trans rfl, (blk_cell BK423.out 1).trans rfl⟩ (fun hHeld => ?_)
      clear hK K
      refine nP (some 28) ?_
      refine pS (i := 22) (N := some 29) (ma 24 8388607) rfl rfl HT_.out ?_
      refine pS (i := 23) (N := some 30) (ma 24 16777215) rfl rfl HT_.out ?_
      refine done_ (done_of HT_.out (by kernel_rfl)) ?_
      try go_wp2
      go_ret
      exact ⟨eW, lU HB⟩
     ·rw [if_neg c13] at H
      have c13b0 : decide (t425 < a0_1) = false := decide_eq_false c13
      clear c13
      by_cases c17 : a0_1 = 4611686018427387904
      ·rw [if_pos c17] at H
       have c17b0 : (a0_1 == 4611686018427387904) = true := beq_iff_eq.mpr c17
       have c17b1 : (a0_1 != 4611686018427387904) = false := bne_eq_false_iff_eq.mpr c17
       clear c17
       obtain rfl := Option.some.inj H
       go_enter Try.func60, Try.ntmps60
       try go_wp2_with (first | ((with_reducible refine gate_dst (N := 3) rfl ?_); refine bX (N := 3) (cs := #[.int .i64 a0_0, .int .i64 a0_1]) (t := 48) ?_; intro gb423 hg w18 hbox hb; have BK423 := Aside0.mk (hbox); have GE423 := sG HB hg; replace HB := sL HB hb; clear hb hbox hg))
       replace BK423 := Aside0.mk (blk_drew BK423.out)
       replace HB := Aside0.mk (below_drew1 HB.out)
       refine start_ (n := 24) (S := fun w' => w'.cell? ⟨gb423, 0, none⟩ = some (.int .i64 a0_0) ∧ w'.cell? ⟨gb423, 1, none⟩ = some (.int .i64 a0_1)) (ds := []) #[false, false, false, false, false, false, false, false, false, false, false, false, false, false, false, false, false, false, false, false, false, false, false, false] (by kernel_rfl) rfl rfl ⟨(blk_cell BK423.out 0).trans rfl, (blk_cell BK423.out 1).trans rfl⟩ (fun hHeld => ?_); refine with_tabW mandolineref35_whole.tab1 mandolineref35_whole.bits1 (fun HT_ HW_ => ?_)
       generalize w18.drew = w19 at BK423 HB hHeld ⊢
       refine tS (i := 0) (N := some 7) (ma 24 1) rfl rfl HT_.out HW_.out hHeld ?_
       refine one_ (i := 1) (N := some 8) (ma 24 3) rfl rfl (one_of HT_.out (by kernel_rfl)) (by decide) (fun K hK => ?_)
       refine gO Try.func53 #[.agg #[.int .i64 a0_0, .int .i64 a0_1]] rfl rfl ?_
       with_reducible refine (mandolineref01_Right.calls a0_0 a0_1 true _ A4.out).mono ?_
       rintro e w20 ⟨rfl, hb⟩
       refine ⟨_, rfl, ?_⟩
       replace BK423 := sB BK423 hb
       replace HB := sL HB hb
       (try clear hb)
       (try clear hb2)
       (try clear hk)
       (try clear hi)
       refine hK.out _ _ ⟨(blk_cell BK423.out 0).trans rfl, (blk_cell BK423.out 1).trans rfl⟩ (fun hHeld => ?_)
       clear hK K
       refine nP (some 8) ?_
       refine pS (i := 2) (N := some 9) (ma 24 7) rfl rfl HT_.out ?_
       refine pS (i := 3) (N := some 10) (ma 24 15) rfl rfl HT_.out ?_
       refine pS (i := 4) (N := some 11) (ma 24 31) rfl rfl HT_.out ?_
       refine pS (i := 6) (N := some 13) (ma 24 95) rfl rfl HT_.out ?_
       refine tS (i := 5) (N := some 12) (ma 24 127) rfl rfl HT_.out HW_.out hHeld ?_
       refine tS (i := 7) (N := some 14) (ma 24 255) rfl rfl HT_.out HW_.out hHeld ?_
       refine pS (i := 8) (N := some 15) (ma 24 511) rfl rfl HT_.out ?_
       refine pS (i := 9) (N := some 16) (ma 24 1023) rfl rfl HT_.out ?_
       refine pS (i := 10) (N := some 17) (ma 24 2047) rfl rfl HT_.out ?_
       refine pS (i := 11) (N := some 18) (ma 24 4095) rfl rfl HT_.out ?_
       refine pS (i := 13) (N := some 20) (ma 24 12287) rfl rfl HT_.out ?_
       refine tS (i := 12) (N := some 19) (ma 24 16383) rfl rfl HT_.out HW_.out hHeld ?_
       refine pS (i := 14) (N := some 21) (ma 24 32767) rfl rfl HT_.out ?_
       refine pS (i := 15) (N := some 22) (ma 24 65535) rfl rfl HT_.out ?_
       refine pS (i := 16) (N := some 23) (ma 24 131071) rfl rfl HT_.out ?_
       refine pS (i := 17) (N := some 24) (ma 24 262143) rfl rfl HT_.out ?_
       refine pS (i := 18) (N := some 25) (ma 24 524287) rfl rfl HT_.out ?_
       refine pS (i := 20) (N := some 27) (ma 24 1572863) rfl rfl HT_.out ?_
       refine tS (i := 19) (N := some 26) (ma 24 2097151) rfl rfl HT_.out HW_.out hHeld ?_
       refine one_ (i := 21) (N := some 28) (ma 24 4194303) rfl rfl (one_of HT_.out (by kernel_rfl)) (by decide) (fun K hK => ?_)
       refine gO Try.func43 #[.int .i64 a1] rfl rfl ?_
       with_reducible refine (mandolineref35_end.calls a1 t425 _ A12.out).mono ?_
       rintro e w' ⟨rfl, ⟨nd, rfl⟩⟩
       refine ⟨_, rfl, ?_⟩
       refine hK.out _ _ ⟨(blk_cell BK423.out 0).trans rfl, (blk_cell BK423.out 1).trans rfl⟩ (fun hHeld => ?_)
       clear hK K
       refine nP (some 28) ?_
       refine pS (i := 22) (N := some 29) (ma 24 8388607) rfl rfl HT_.out ?_
       refine pS (i := 23) (N := some 30) (ma 24 16777215) rfl rfl HT_.out ?_
       refine done_ (done_of HT_.out (by kernel_rfl)) ?_
       obtain ⟨hcz21_0, hcz21_1⟩ := q2 BK423
       obtain ⟨hfz21_0, hfz21_1⟩ := z2 BK423
       try go_wp2
       go_ret
       exact ⟨eW, lU HB⟩
      ·rw [if_neg c17] at H
       have c17b0 : (a0_1 == 4611686018427387904) = false := beq_eq_false_iff_ne.mpr c17
       have c17b1 : (a0_1 != 4611686018427387904) = true := bne_iff_ne.mpr c17
       by_cases c22 : (Int.tmod a0_1 a2) = 0
       ·rw [if_pos c22] at H
        have c22b0 : ((Int.tmod a0_1 a2) == 0) = true := beq_iff_eq.mpr c22
        have c22b1 : ((Int.tmod a0_1 a2) != 0) = false := bne_eq_false_iff_eq.mpr c22
        clear c22
        obtain rfl := Option.some.inj H
        go_enter Try.func60, Try.ntmps60
        try go_wp2_with (first | ((with_reducible refine gate_dst (N := 3) rfl ?_); refine bX (N := 3) (cs := #[.int .i64 a0_0, .int .i64 a0_1]) (t := 48) ?_; intro gb423 hg w23 hbox hb; have BK423 := Aside0.mk (hbox); have GE423 := sG HB hg; replace HB := sL HB hb; clear hb hbox hg))
        replace BK423 := Aside0.mk (blk_drew BK423.out)
        replace HB := Aside0.mk (below_drew1 HB.out)
        refine start_ (n := 24) (S := fun w' => w'.cell? ⟨gb423, 0, none⟩ = some (.int .i64 a0_0) ∧ w'.cell? ⟨gb423, 1, none⟩ = some (.int .i64 a0_1)) (ds := []) #[false, false, false, false, false, false, false, false, false, false, false, false, false, false, false, false, false, false, false, false, false, false, false, false] (by kernel_rfl) rfl rfl ⟨(blk_cell BK423.out 0).trans rfl, (blk_cell BK423.out 1).trans rfl⟩ (fun hHeld => ?_); refine with_tabW mandolineref35_whole.tab1 mandolineref35_whole.bits1 (fun HT_ HW_ => ?_)
        generalize w23.drew = w24 at BK423 HB hHeld ⊢
        refine tS (i := 0) (N := some 7) (ma 24 1) rfl rfl HT_.out HW_.out hHeld ?_
        refine one_ (i := 1) (N := some 8) (ma 24 3) rfl rfl (one_of HT_.out (by kernel_rfl)) (by decide) (fun K hK => ?_)
        refine gO Try.func53 #[.agg #[.int .i64 a0_0, .int .i64 a0_1]] rfl rfl ?_
        with_reducible refine (mandolineref01_Right.calls a0_0 a0_1 true _ A4.out).mono ?_
        rintro e w25 ⟨rfl, hb⟩
        refine ⟨_, rfl, ?_⟩
        replace BK423 := sB BK423 hb
        replace HB := sL HB hb
        (try clear hb)
        (try clear hb2)
        (try clear hk)
        (try clear hi)
        refine hK.out _ _ ⟨(blk_cell BK423.out 0).trans rfl, (blk_cell BK423.out 1).trans rfl⟩ (fun hHeld => ?_)
        clear hK K
        refine nP (some 8) ?_
        refine pS (i := 2) (N := some 9) (ma 24 7) rfl rfl HT_.out ?_
        refine pS (i := 3) (N := some 10) (ma 24 15) rfl rfl HT_.out ?_
        refine pS (i := 4) (N := some 11) (ma 24 31) rfl rfl HT_.out ?_
        refine pS (i := 6) (N := some 13) (ma 24 95) rfl rfl HT_.out ?_
        refine tS (i := 5) (N := some 12) (ma 24 127) rfl rfl HT_.out HW_.out hHeld ?_
        refine tS (i := 7) (N := some 14) (ma 24 255) rfl rfl HT_.out HW_.out hHeld ?_
        refine pS (i := 8) (N := some 15) (ma 24 511) rfl rfl HT_.out ?_
        refine pS (i := 9) (N := some 16) (ma 24 1023) rfl rfl HT_.out ?_
        refine pS (i := 10) (N := some 17) (ma 24 2047) rfl rfl HT_.out ?_
        refine pS (i := 11) (N := some 18) (ma 24 4095) rfl rfl HT_.out ?_
        refine pS (i := 13) (N := some 20) (ma 24 12287) rfl rfl HT_.out ?_
        refine tS (i := 12) (N := some 19) (ma 24 16383) rfl rfl HT_.out HW_.out hHeld ?_
        refine pS (i := 14) (N := some 21) (ma 24 32767) rfl rfl HT_.out ?_
        refine pS (i := 15) (N := some 22) (ma 24 65535) rfl rfl HT_.out ?_
        refine pS (i := 16) (N := some 23) (ma 24 131071) rfl rfl HT_.out ?_
        refine pS (i := 17) (N := some 24) (ma 24 262143) rfl rfl HT_.out ?_
        refine pS (i := 18) (N := some 25) (ma 24 524287) rfl rfl HT_.out ?_
        refine pS (i := 20) (N := some 27) (ma 24 1572863) rfl rfl HT_.out ?_
        refine tS (i := 19) (N := some 26) (ma 24 2097151) rfl rfl HT_.out HW_.out hHeld ?_
        refine one_ (i := 21) (N := some 28) (ma 24 4194303) rfl rfl (one_of HT_.out (by kernel_rfl)) (by decide) (fun K hK => ?_)
        refine gO Try.func43 #[.int .i64 a1] rfl rfl ?_
        with_reducible refine (mandolineref35_end.calls a1 t425 _ A12.out).mono ?_
        rintro e w' ⟨rfl, ⟨nd, rfl⟩⟩
        refine ⟨_, rfl, ?_⟩
        refine hK.out _ _ ⟨(blk_cell BK423.out 0).trans rfl, (blk_cell BK423.out 1).trans rfl⟩ (fun hHeld => ?_)
        clear hK K
        refine nP (some 28) ?_
        refine pS (i := 22) (N := some 29) (ma 24 8388607) rfl rfl HT_.out ?_
        refine pS (i := 23) (N := some 30) (ma 24 16777215) rfl rfl HT_.out ?_
        refine done_ (done_of HT_.out (by kernel_rfl)) ?_
        obtain ⟨hcz26_0, hcz26_1⟩ := q2 BK423
        obtain ⟨hfz26_0, hfz26_1⟩ := z2 BK423
        try go_wp2
        go_ret
        exact ⟨eW, lU HB⟩
       ·rw [if_neg c22] at H
        have c22b0 : ((Int.tmod a0_1 a2) == 0) = false := beq_eq_false_iff_ne.mpr c22
        have c22b1 : ((Int.tmod a0_1 a2) != 0) = true := bne_iff_ne.mpr c22
        obtain rfl := Option.some.inj H
        go_enter Try.func60, Try.ntmps60
        try go_wp2_with (first | ((with_reducible refine gate_dst (N := 3) rfl ?_); refine bX (N := 3) (cs := #[.int .i64 a0_0, .int .i64 a0_1]) (t := 48) ?_; intro gb423 hg w27 hbox hb; have BK423 := Aside0.mk (hbox); have GE423 := sG HB hg; replace HB := sL HB hb; clear hb hbox hg))
        replace BK423 := Aside0.mk (blk_drew BK423.out)
        replace HB := Aside0.mk (below_drew1 HB.out)
        refine start_ (n := 24) (S := fun w' => w'.cell? ⟨gb423, 0, none⟩ = some (.int .i64 a0_0) ∧ w'.cell? ⟨gb423, 1, none⟩ = some (.int .i64 a0_1)) (ds := []) #[false, false, false, false, false, false, false, false, false, false, false, false, false, false, false, false, false, false, false, false, false, false, false, false] (by kernel_rfl) rfl rfl ⟨(blk_cell BK423.out 0).trans rfl, (blk_cell BK423.out 1).trans rfl⟩ (fun hHeld => ?_); refine with_tabW mandolineref35_whole.tab1 mandolineref35_whole.bits1 (fun HT_ HW_ => ?_)
        generalize w27.drew = w28 at BK423 HB hHeld ⊢
        refine tS (i := 0) (N := some 7) (ma 24 1) rfl rfl HT_.out HW_.out hHeld ?_
        refine one_ (i := 1) (N := some 8) (ma 24 3) rfl rfl (one_of HT_.out (by kernel_rfl)) (by decide) (fun K hK => ?_)
        refine gO Try.func53 #[.agg #[.int .i64 a0_0, .int .i64 a0_1]] rfl rfl ?_
        with_reducible refine (mandolineref01_Right.calls a0_0 a0_1 true _ A4.out).mono ?_
        rintro e w29 ⟨rfl, hb⟩
        refine ⟨_, rfl, ?_⟩
        replace BK423 := sB BK423 hb
        replace HB := sL HB hb
        (try clear hb)
        (try clear hb2)
        (try clear hk)
        (try clear hi)
        refine hK.out _ _ ⟨(blk_cell BK423.out 0).trans rfl, (blk_cell BK423.out 1).trans rfl⟩ (fun hHeld => ?_)
        clear hK K
        refine nP (some 8) ?_
        refine pS (i := 2) (N := some 9) (ma 24 7) rfl rfl HT_.out ?_
        refine pS (i := 3) (N := some 10) (ma 24 15) rfl rfl HT_.out ?_
        refine pS (i := 4) (N := some 11) (ma 24 31) rfl rfl HT_.out ?_
        refine pS (i := 6) (N := some 13) (ma 24 95) rfl rfl HT_.out ?_
        refine tS (i := 5) (N := some 12) (ma 24 127) rfl rfl HT_.out HW_.out hHeld ?_
        refine tS (i := 7) (N := some 14) (ma 24 255) rfl rfl HT_.out HW_.out hHeld ?_
        refine pS (i := 8) (N := some 15) (ma 24 511) rfl rfl HT_.out ?_
        refine pS (i := 9) (N := some 16) (ma 24 1023) rfl rfl HT_.out ?_
        refine pS (i := 10) (N := some 17) (ma 24 2047) rfl rfl HT_.out ?_
        refine pS (i := 11) (N := some 18) (ma 24 4095) rfl rfl HT_.out ?_
        refine pS (i := 13) (N := some 20) (ma 24 12287) rfl rfl HT_.out ?_
        refine tS (i := 12) (N := some 19) (ma 24 16383) rfl rfl HT_.out HW_.out hHeld ?_
        refine pS (i := 14) (N := some 21) (ma 24 32767) rfl rfl HT_.out ?_
        refine pS (i := 15) (N := some 22) (ma 24 65535) rfl rfl HT_.out ?_
        refine pS (i := 16) (N := some 23) (ma 24 131071) rfl rfl HT_.out ?_
        refine pS (i := 17) (N := some 24) (ma 24 262143) rfl rfl HT_.out ?_
        refine pS (i := 18) (N := some 25) (ma 24 524287) rfl rfl HT_.out ?_
        refine pS (i := 20) (N := some 27) (ma 24 1572863) rfl rfl HT_.out ?_
        refine tS (i := 19) (N := some 26) (ma 24 2097151) rfl rfl HT_.out HW_.out hHeld ?_
        refine one_ (i := 21) (N := some 28) (ma 24 4194303) rfl rfl (one_of HT_.out (by kernel_rfl)) (by decide) (fun K hK => ?_)
        refine gO Try.func43 #[.int .i64 a1] rfl rfl ?_
        with_reducible refine (mandolineref35_end.calls a1 t425 _ A12.out).mono ?_
        rintro e w' ⟨rfl, ⟨nd, rfl⟩⟩
        refine ⟨_, rfl, ?_⟩
        refine hK.out _ _ ⟨(blk_cell BK423.out 0).trans rfl, (blk_cell BK423.out 1).trans rfl⟩ (fun hHeld => ?_)
        clear hK K
        refine nP (some 28) ?_
        refine pS (i := 22) (N := some 29) (ma 24 8388607) rfl rfl HT_.out ?_
        refine pS (i := 23) (N := some 30) (ma 24 16777215) rfl rfl HT_.out ?_
        refine done_ (done_of HT_.out (by kernel_rfl)) ?_
        obtain ⟨hcz30_0, hcz30_1⟩ := q2 BK423
        obtain ⟨hfz30_0, hfz30_1⟩ := z2 BK423
        try go_wp2
        go_ret
        exact ⟨eW, lU HB⟩
    ·rw [if_neg c11] at H
     have c11b0 : ((Int.tmod a0_0 a2) == 0) = false := beq_eq_false_iff_ne.mpr c11
     have c11b1 : ((Int.tmod a0_0 a2) != 0) = true := bne_iff_ne.mpr c11
     obtain rfl := Option.some.inj H
     go_enter Try.func60, Try.ntmps60
     try go_wp2_with (first | ((with_reducible refine gate_dst (N := 3) rfl ?_); refine bX (N := 3) (cs := #[.int .i64 a0_0, .int .i64 a0_1]) (t := 48) ?_; intro gb423 hg w31 hbox hb; have BK423 := Aside0.mk (hbox); have GE423 := sG HB hg; replace HB := sL HB hb; clear hb hbox hg))
     replace BK423 := Aside0.mk (blk_drew BK423.out)
     replace HB := Aside0.mk (below_drew1 HB.out)
     refine start_ (n := 24) (S := fun w' => w'.cell? ⟨gb423, 0, none⟩ = some (.int .i64 a0_0) ∧ w'.cell? ⟨gb423, 1, none⟩ = some (.int .i64 a0_1)) (ds := []) #[false, false, false, false, false, false, false, false, false, false, false, false, false, false, false, false, false, false, false, false, false, false, false, false] (by kernel_rfl) rfl rfl ⟨(blk_cell BK423.out 0).trans rfl, (blk_cell BK423.out 1).trans rfl⟩ (fun hHeld => ?_); refine with_tabW mandolineref35_whole.tab1 mandolineref35_whole.bits1 (fun HT_ HW_ => ?_)
     generalize w31.drew = w32 at BK423 HB hHeld ⊢
     refine tS (i := 0) (N := some 7) (ma 24 1) rfl rfl HT_.out HW_.out hHeld ?_
     refine one_ (i := 1) (N := some 8) (ma 24 3) rfl rfl (one_of HT_.out (by kernel_rfl)) (by decide) (fun K hK => ?_)
     refine gO Try.func53 #[.agg #[.int .i64 a0_0, .int .i64 a0_1]] rfl rfl ?_
     with_reducible refine (mandolineref01_Right.calls a0_0 a0_1 true _ A4.out).mono ?_
     rintro e w33 ⟨rfl, hb⟩
     refine ⟨_, rfl, ?_⟩
     replace BK423 := sB BK423 hb
     replace HB := sL HB hb
     (try clear hb)
     (try clear hb2)
     (try clear hk)
     (try clear hi)
     refine hK.out _ _ ⟨(blk_cell BK423.out 0).trans rfl, (blk_cell BK423.out 1).trans rfl⟩ (fun hHeld => ?_)
     clear hK K
     refine nP (some 8) ?_
     refine pS (i := 2) (N := some 9) (ma 24 7) rfl rfl HT_.out ?_
     refine pS (i := 3) (N := some 10) (ma 24 15) rfl rfl HT_.out ?_
     refine pS (i := 4) (N := some 11) (ma 24 31) rfl rfl HT_.out ?_
     refine pS (i := 6) (N := some 13) (ma 24 95) rfl rfl HT_.out ?_
     refine tS (i := 5) (N := some 12) (ma 24 127) rfl rfl HT_.out HW_.out hHeld ?_
     refine tS (i := 7) (N := some 14) (ma 24 255) rfl rfl HT_.out HW_.out hHeld ?_
     refine pS (i := 8) (N := some 15) (ma 24 511) rfl rfl HT_.out ?_
     refine pS (i := 9) (N := some 16) (ma 24 1023) rfl rfl HT_.out ?_
     refine pS (i := 10) (N := some 17) (ma 24 2047) rfl rfl HT_.out ?_
     refine pS (i := 11) (N := some 18) (ma 24 4095) rfl rfl HT_.out ?_
     refine pS (i := 13) (N := some 20) (ma 24 12287) rfl rfl HT_.out ?_
     refine tS (i := 12) (N := some 19) (ma 24 16383) rfl rfl HT_.out HW_.out hHeld ?_
     refine pS (i := 14) (N := some 21) (ma 24 32767) rfl rfl HT_.out ?_
     refine pS (i := 15) (N := some 22) (ma 24 65535) rfl rfl HT_.out ?_
     refine pS (i := 16) (N := some 23) (ma 24 131071) rfl rfl HT_.out ?_
     refine pS (i := 17) (N := some 24) (ma 24 262143) rfl rfl HT_.out ?_
     refine pU (i := 18) (N := some 25) (ma 24 524287) rfl rfl HT_.out ?_
     refine pU (i := 19) (N := some 26) (ma 24 1048575) rfl rfl HT_.out ?_
     refine pU (i := 20) (N := some 27) (ma 24 2097151) rfl rfl HT_.out ?_
     refine pU (i := 21) (N := some 28) (ma 24 4194303) rfl rfl HT_.out ?_
     refine pU (i := 22) (N := some 29) (ma 24 8388607) rfl rfl HT_.out ?_
     refine pS (i := 23) (N := some 30) (ma 24 16777215) rfl rfl HT_.out ?_
     refine done_ (done_of HT_.out (by kernel_rfl)) ?_
     try go_wp2
     go_ret
     exact ⟨eW, lU HB⟩
 ·replace c5 := Bool.eq_false_iff.mpr c5
  subst c5
  rw [if_neg (show ¬ (false = true) by decide)] at H
  obtain rfl := Option.some.inj H
  go_enter Try.func60, Try.ntmps60
  try go_wp2_with (first | ((with_reducible refine gate_dst (N := 3) rfl ?_); refine bX (N := 3) (cs := #[.int .i64 a0_0, .int .i64 a0_1]) (t := 48) ?_; intro gb423 hg w34 hbox hb; have BK423 := Aside0.mk (hbox); have GE423 := sG HB hg; replace HB := sL HB hb; clear hb hbox hg))
  replace BK423 := Aside0.mk (blk_drew BK423.out)
  replace HB := Aside0.mk (below_drew1 HB.out)
  refine start_ (n := 24) (S := fun w' => w'.cell? ⟨gb423, 0, none⟩ = some (.int .i64 a0_0) ∧ w'.cell? ⟨gb423, 1, none⟩ = some (.int .i64 a0_1)) (ds := []) #[false, false, false, false, false, false, false, false, false, false, false, false, false, false, false, false, false, false, false, false, false, false, false, false] (by kernel_rfl) rfl rfl ⟨(blk_cell BK423.out 0).trans rfl, (blk_cell BK423.out 1).trans rfl⟩ (fun hHeld => ?_); refine with_tabW mandolineref35_whole.tab1 mandolineref35_whole.bits1 (fun HT_ HW_ => ?_)
  generalize w34.drew = w35 at BK423 HB hHeld ⊢
  refine tS (i := 0) (N := some 7) (ma 24 1) rfl rfl HT_.out HW_.out hHeld ?_
  refine one_ (i := 1) (N := some 8) (ma 24 3) rfl rfl (one_of HT_.out (by kernel_rfl)) (by decide) (fun K hK => ?_)
  refine gO Try.func53 #[.agg #[.int .i64 a0_0, .int .i64 a0_1]] rfl rfl ?_
  with_reducible refine (mandolineref01_Right.calls a0_0 a0_1 false _ A4.out).mono ?_
  rintro e w36 ⟨rfl, hb⟩
  refine ⟨_, rfl, ?_⟩
  replace BK423 := sB BK423 hb
  replace HB := sL HB hb
  (try clear hb)
  (try clear hb2)
  (try clear hk)
  (try clear hi)
  refine hK.out _ _ ⟨(blk_cell BK423.out 0).trans rfl, (blk_cell BK423.out 1).trans rfl⟩ (fun hHeld => ?_)
  clear hK K
  refine nP (some 8) ?_
  refine pS (i := 2) (N := some 9) (ma 24 7) rfl rfl HT_.out ?_
  refine pS (i := 3) (N := some 10) (ma 24 15) rfl rfl HT_.out ?_
  refine pU (i := 4) (N := some 11) (ma 24 31) rfl rfl HT_.out ?_
  refine pU (i := 5) (N := some 12) (ma 24 63) rfl rfl HT_.out ?_
  refine pU (i := 6) (N := some 13) (ma 24 127) rfl rfl HT_.out ?_
  refine pU (i := 7) (N := some 14) (ma 24 255) rfl rfl HT_.out ?_
  refine pU (i := 8) (N := some 15) (ma 24 511) rfl rfl HT_.out ?_
  refine pS (i := 9) (N := some 16) (ma 24 1023) rfl rfl HT_.out ?_
  refine pS (i := 10) (N := some 17) (ma 24 2047) rfl rfl HT_.out ?_
  refine pU (i := 11) (N := some 18) (ma 24 4095) rfl rfl HT_.out ?_
  refine pU (i := 12) (N := some 19) (ma 24 8191) rfl rfl HT_.out ?_
  refine pU (i := 13) (N := some 20) (ma 24 16383) rfl rfl HT_.out ?_
  refine pU (i := 14) (N := some 21) (ma 24 32767) rfl rfl HT_.out ?_
  refine pU (i := 15) (N := some 22) (ma 24 65535) rfl rfl HT_.out ?_
  refine pS (i := 16) (N := some 23) (ma 24 131071) rfl rfl HT_.out ?_
  refine pS (i := 17) (N := some 24) (ma 24 262143) rfl rfl HT_.out ?_
  refine pU (i := 18) (N := some 25) (ma 24 524287) rfl rfl HT_.out ?_
  refine pU (i := 19) (N := some 26) (ma 24 1048575) rfl rfl HT_.out ?_
  refine pU (i := 20) (N := some 27) (ma 24 2097151) rfl rfl HT_.out ?_
  refine pU (i := 21) (N := some 28) (ma 24 4194303) rfl rfl HT_.out ?_
  refine pU (i := 22) (N := some 29) (ma 24 8388607) rfl rfl HT_.out ?_
  refine pS (i := 23) (N := some 30) (ma 24 16777215) rfl rfl HT_.out ?_
  refine done_ (done_of HT_.out (by kernel_rfl)) ?_
  try go_wp2
  go_ret
  exact ⟨eW, lU HB⟩
end Go.Proofs.Ytnaalaakhdbfbaa.XP
