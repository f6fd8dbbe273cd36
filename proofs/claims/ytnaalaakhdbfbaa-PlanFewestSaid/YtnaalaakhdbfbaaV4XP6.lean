-- Go functions as plain functions, and that the code comes to these answers (printed by a program).
import Derived.Test.YtnaalaakhdbfbaaV4XP0
import Derived.Test.YtnaalaakhdbfbaaV4XP2
namespace Go.Proofs.Ytnaalaakhdbfbaa.XP
open Go.RowKit Go.Proofs.YtnaalaakhdbfbaaW.PrintWords Go.Proofs.YtnaalaakhdbfbaaW.PrintLast Go.Proofs.YtnaalaakhdbfbaaW.PrintMore
attribute [local go_sem] max2_int min2_int max_two min_two max_three min_three max_four min_four
set_option linter.unusedVariables false
set_option linter.unusedSimpArgs false
def plan_unitMay.f (a0 : Int) : Option (Bool) := if a0 ≥ 4 then (if a0 ≤ 1048576 then (some ((Go.bits .and .i64 a0 (wrap64 (a0 - 1))) == 0)) else (some false)) else (some false)
set_option maxHeartbeats 8000000 in
set_option maxRecDepth 100000 in
theorem plan_unitMay.calls (a0 : Int) (r : Bool) (w : World) (h : plan_unitMay.f a0 = some r) :
  Calls Try.prog 44 #[.int .i64 a0] w fun e w' => e = .returned (.bool r) ∧ Drawn0 w w' := by
 unfold plan_unitMay.f at h
 have H := h
 clear h
 by_cases c2 : a0 ≥ 4
 ·rw [if_pos c2] at H
  have c2b0 : decide (4 ≤ a0) = true := decide_eq_true c2
  clear c2
  by_cases c3 : a0 ≤ 1048576
  ·rw [if_pos c3] at H
   have c3b0 : decide (a0 ≤ 1048576) = true := decide_eq_true c3
   clear c3
   obtain rfl := Option.some.inj H
   go_enter Try.func44, Try.ntmps44
   go_wp2
   go_ret
   exact ⟨by first | rfl | (simp; done) | (simp [*]; done), by repeat (first | exact Drawn0.refl _ | apply Drawn0.step)⟩
  ·rw [if_neg c3] at H
   have c3b0 : decide (a0 ≤ 1048576) = false := decide_eq_false c3
   clear c3
   obtain rfl := Option.some.inj H
   go_enter Try.func44, Try.ntmps44
   go_wp2
   go_ret
   exact ⟨by first | rfl | (simp; done) | (simp [*]; done), by repeat (first | exact Drawn0.refl _ | apply Drawn0.step)⟩
 ·rw [if_neg c2] at H
  have c2b0 : decide (4 ≤ a0) = false := decide_eq_false c2
  clear c2
  obtain rfl := Option.some.inj H
  go_enter Try.func44, Try.ntmps44
  go_wp2
  go_ret
  exact ⟨by first | rfl | (simp; done) | (simp [*]; done), by repeat (first | exact Drawn0.refl _ | apply Drawn0.step)⟩
def plan_lengthMay.f (a0 : Int) : Option (Bool) := if a0 ≥ (-1) then (some (decide (a0 ≤ 1099511627776))) else (some false)
set_option maxHeartbeats 8000000 in
set_option maxRecDepth 100000 in
theorem plan_lengthMay.calls (a0 : Int) (r : Bool) (w : World) (h : plan_lengthMay.f a0 = some r) :
  Calls Try.prog 45 #[.int .i64 a0] w fun e w' => e = .returned (.bool r) ∧ Drawn0 w w' := by
 unfold plan_lengthMay.f at h
 have H := h
 clear h
 by_cases c2 : a0 ≥ (-1)
 ·rw [if_pos c2] at H
  have c2b0 : decide ((-1) ≤ a0) = true := decide_eq_true c2
  clear c2
  obtain rfl := Option.some.inj H
  go_enter Try.func45, Try.ntmps45
  go_wp2
  go_ret
  exact ⟨by first | rfl | (simp; done) | (simp [*]; done), by repeat (first | exact Drawn0.refl _ | apply Drawn0.step)⟩
 ·rw [if_neg c2] at H
  have c2b0 : decide ((-1) ≤ a0) = false := decide_eq_false c2
  clear c2
  obtain rfl := Option.some.inj H
  go_enter Try.func45, Try.ntmps45
  go_wp2
  go_ret
  exact ⟨by first | rfl | (simp; done) | (simp [*]; done), by repeat (first | exact Drawn0.refl _ | apply Drawn0.step)⟩
def plan_object.f (a0 : Int) : Option (Int × Int) := if a0 < 0 then (some (0, 4611686018427387904)) else (some (0, a0))
set_option maxHeartbeats 8000000 in
set_option maxRecDepth 100000 in
theorem plan_object.calls (a0 : Int) (r1 : Int) (r2 : Int) (w : World) (h : plan_object.f a0 = some (r1, r2)) :
  Calls Try.prog 46 #[.int .i64 a0] w fun e w' => e = .returned (.agg #[.int .i64 r1, .int .i64 r2]) ∧ Below w.heap.size w w' := by
 have hu48 := Try.underlying48
 have HB := Aside0.mk (Below.refl w.heap.size w)
 unfold plan_object.f at h
 have H := h
 clear h
 by_cases c2 : a0 < 0
 ·rw [if_pos c2] at H
  have c2b0 : decide (a0 < 0) = true := decide_eq_true c2
  clear c2
  simp only [Option.some.injEq, Prod.mk.injEq] at H
  obtain ⟨rfl, rfl⟩ := H
  go_enter Try.func46, Try.ntmps46
  go_wp2_with (first | ((with_reducible refine gate_dst (N := 2) rfl ?_); refine bX (N := 2) (cs := #[.int .i64 0, .int .i64 0]) (t := 48) ?_; intro gb147 hg w3 hbox hb; have BK147 := Aside0.mk (hbox); have GE147 := sG HB hg; replace HB := sL HB hb; clear hb hbox hg; obtain ⟨hcz4_0, hcz4_1⟩ := q2 BK147; obtain ⟨hfz4_0, hfz4_1⟩ := z2 BK147))
  refine bodyPost_ret (results_cell_row rfl _ _ gb147 48 #[.int .i64 0, .int .i64 4611686018427387904] (0, 0) _ rfl (by (with_reducible repeat (first | refine blk_drewN ?_ _ | refine blk_drew ?_ | refine blk_alloc ?_ _)); refine blk_put (cs := #[.int .i64 0, .int .i64 0]) ?_ 1 _ rfl; (with_reducible repeat (first | refine blk_drewN ?_ _ | refine blk_drew ?_ | refine blk_alloc ?_ _)); refine blk_put (cs := #[.int .i64 0, .int .i64 0]) ?_ 0 _ rfl; (with_reducible repeat (first | refine blk_drewN ?_ _ | refine blk_drew ?_ | refine blk_alloc ?_ _)); exact BK147.out) Try.underlying48 rfl (by kernel_rfl)) rfl ?_
  exact ⟨eW, lU HB⟩
 ·rw [if_neg c2] at H
  have c2b0 : decide (a0 < 0) = false := decide_eq_false c2
  clear c2
  simp only [Option.some.injEq, Prod.mk.injEq] at H
  obtain ⟨rfl, rfl⟩ := H
  go_enter Try.func46, Try.ntmps46
  go_wp2_with (first | ((with_reducible refine gate_dst (N := 2) rfl ?_); refine bX (N := 2) (cs := #[.int .i64 0, .int .i64 0]) (t := 48) ?_; intro gb147 hg w5 hbox hb; have BK147 := Aside0.mk (hbox); have GE147 := sG HB hg; replace HB := sL HB hb; clear hb hbox hg; obtain ⟨hcz6_0, hcz6_1⟩ := q2 BK147; obtain ⟨hfz6_0, hfz6_1⟩ := z2 BK147))
  refine bodyPost_ret (results_cell_row rfl _ _ gb147 48 #[.int .i64 0, .int .i64 a0] (0, 0) _ rfl (by (with_reducible repeat (first | refine blk_drewN ?_ _ | refine blk_drew ?_ | refine blk_alloc ?_ _)); refine blk_put (cs := #[.int .i64 0, .int .i64 0]) ?_ 1 _ rfl; (with_reducible repeat (first | refine blk_drewN ?_ _ | refine blk_drew ?_ | refine blk_alloc ?_ _)); refine blk_put (cs := #[.int .i64 0, .int .i64 0]) ?_ 0 _ rfl; (with_reducible repeat (first | refine blk_drewN ?_ _ | refine blk_drew ?_ | refine blk_alloc ?_ _)); exact BK147.out) Try.underlying48 rfl (by kernel_rfl)) rfl ?_
  exact ⟨eW, lU HB⟩
def span_Align.j0 : Nat → Int → Bool → Int → Int → Option (Int × Int × Int)
 | 0, _, _, _, _ => none
 | k + 1, x1, x17, x149000, x149001 => if x17 = true then (some (0, 0, 1)) else (if x1 = 0 then (none) else (if (Int.tmod x149001 x1) > 0 then (if x149001 < 4611686018427387904 then (some (wrap64 (x149000 - (Int.tmod x149000 x1)), mn (wrap64 ((wrap64 (x149001 - (Int.tmod x149001 x1))) + x1)) 4611686018427387904, 0)) else (some (wrap64 (x149000 - (Int.tmod x149000 x1)), x149001, 0))) else (some (wrap64 (x149000 - (Int.tmod x149000 x1)), x149001, 0))))
def span_Align.f (k : Nat) (a0_0 : Int) (a0_1 : Int) (a1 : Int) : Option (Int × Int × Int) := (span_Right.f a0_0 a0_1).bind fun t150 => (if t150 = true then (if a1 < 1 then (span_Align.j0 k a1 true a0_0 a0_1) else (span_Align.j0 k a1 (decide (a1 > 1099511627776)) a0_0 a0_1)) else (span_Align.j0 k a1 true a0_0 a0_1))
theorem span_Align.mono_l : ∀ k, (∀ y0 y1 y2 y3, LeO (span_Align.j0 k y0 y1 y2 y3) (span_Align.j0 (k + 1) y0 y1 y2 y3))
 | 0 => fun _ _ _ _ r h => by simp [span_Align.j0] at h
 | k + 1 => by
  have ih0 := span_Align.mono_l k
  ·intro y0 y1 y2 y3
   unfold span_Align.j0
   repeat' first
   | with_reducible apply ih0
   | with_reducible apply LeO.refl
   | with_reducible apply LeO.none
   | with_reducible refine LeO.ite ?_ ?_
   | with_reducible refine LeO.bind ?_ (fun _ => ?_)
theorem span_Align.mono : ∀ a0 a1 a2 k, LeO (span_Align.f k a0 a1 a2) (span_Align.f (k + 1) a0 a1 a2) := by
 intro a0 a1 a2 k
 have ih0 := span_Align.mono_l k
 unfold span_Align.f
 repeat' first
   | with_reducible apply ih0
   | with_reducible apply LeO.refl
   | with_reducible apply LeO.none
   | with_reducible refine LeO.ite ?_ ?_
   | with_reducible refine LeO.bind ?_ (fun _ => ?_)
def span_Align.T3 : Bool × List (List Nat × List Nat) := (true, [([], []), ([0], [0]), ([], []), ([2], [2]), ([], []), ([3, 4], [3, 4]), ([1, 5], [1, 5]), ([0, 1, 2, 3, 4, 5, 6], []), ([7, 6, 0, 1, 2, 3, 4, 5, 6], [6, 7])])
def span_Align.B3 : List Nat := [0, 1, 0, 4, 0, 28, 63, 127, 255]
theorem span_Align.tab3 : rtab .any (opsOf Try.f47 3) = span_Align.T3 := by kernel_rfl
theorem span_Align.bits3 : waitsOk span_Align.T3.2 span_Align.B3 = true := by kernel_rfl
set_option maxHeartbeats 8000000 in
set_option maxRecDepth 100000 in
theorem span_Align.calls (k : Nat) (a0_0 : Int) (a0_1 : Int) (a1 : Int) (r1 : Int) (r2 : Int) (r3 : Int) (w : World) (h : span_Align.f k a0_0 a0_1 a1 = some (r1, r2, r3)) :
  Calls Try.prog 47 #[.agg #[.int .i64 a0_0, .int .i64 a0_1], .int .i64 a1] w fun e w' => e = .returned (.tuple #[.agg #[.int .i64 r1, .int .i64 r2], .int .i64 r3]) ∧ Below w.heap.size w w' := by
 have hu48 := Try.underlying48
 have HB := Aside0.mk (Below.refl w.heap.size w)
 unfold span_Align.f at h
 have H := h
 clear h
 have HC3 := Aside0.mk H
 clear H
 go_enter Try.func47, Try.ntmps47
 go_upto_region 1 with (first | ((with_reducible refine gate_dst (N := 2) rfl ?_); refine bX (N := 2) (cs := #[.int .i64 a0_0, .int .i64 a0_1]) (t := 48) ?_; intro gb148 hg w4 hbox hb; have BK148 := Aside0.mk (hbox); have GE148 := sG HB hg; replace HB := sL HB hb; clear hb hbox hg) | ((with_reducible refine gate_dst (N := 4) rfl ?_); refine bX (N := 4) (cs := #[.int .i64 0, .int .i64 0]) (t := 48) ?_; intro gb149 hg w5 hbox hb; have BK149 := Aside0.mk (hbox); have GE149 := sG HB hg; have NB148_149 := sN BK148 hg; have NB149_148 := sM BK148 hg; replace BK148 := sB BK148 hb; replace HB := sL HB hb; clear hb hbox hg))
 (try simp only [Act.put, List.setIfInBounds_toArray, List.set_cons_zero, List.set_cons_succ])
 go_cut [17] (fun v17 wc => ∃ (kq : Nat) (x17_2 : Bool), v17 = .bool x17_2 ∧ Aside0 (span_Align.j0 kq a1 x17_2 a0_0 a0_1 = some (r1, r2, r3)) ∧ Aside0 (kq ≤ k) ∧ Aside0 (wc.heap[gb148]? = some (.cells #[.int .i64 a0_0, .int .i64 a0_1] 48 (0, 0))) ∧ Aside0 (wc.heap[gb149]? = some (.cells #[.int .i64 0, .int .i64 0] 48 (0, 0))) ∧ Aside0 (Below w.heap.size w wc))
 case first =>
  have H := HC3.out
  clear HC3
  obtain ⟨t150, A6, H⟩ := bO H
  by_cases c7 : t150 = true
  ·subst c7
   rw [if_pos rfl] at H
   by_cases c8 : a1 < 1
   ·rw [if_pos c8] at H
    have c8b0 : decide (a1 < 1) = true := decide_eq_true c8
    clear c8
    (first | rw [c8b0] | (simp only [i64_w, i32_w]; rw [c8b0]) | skip)
    have H' := Aside0.mk H
    clear H
    have hnb9 := NB148_149.out
    have hnc9 := NB149_148.out
    obtain ⟨hcz10_0, hcz10_1⟩ := q2 BK148
    obtain ⟨hfz10_0, hfz10_1⟩ := z2 BK148
    go_wp2_with (first | ((with_reducible refine gate_callee (f := 49) rfl ?_); refine gL (some 8) rfl rfl Try.func49 #[.agg #[.int .i64 a0_0, .int .i64 a0_1]] rfl ?_; (with_reducible refine (span_Right.calls a0_0 a0_1 true _ A6.out).mono ?_); rintro e w11 ⟨rfl, hb⟩; refine ⟨_, rfl, ?_⟩; replace BK148 := sB BK148 hb; replace BK149 := sB BK149 hb; replace HB := sL HB hb; (try clear hb); (try clear hb2); (try clear hk); (try clear hi)))
    go_meet
    case rel => exact ⟨_, (true), eR, H', ⟨by first | omega | exact Nat.le_refl _⟩, ⟨bU BK148⟩, ⟨bU BK149⟩, ⟨lU HB⟩⟩
   ·rw [if_neg c8] at H
    have c8b0 : decide (a1 < 1) = false := decide_eq_false c8
    clear c8
    (first | rw [c8b0] | (simp only [i64_w, i32_w]; rw [c8b0]) | skip)
    have H' := Aside0.mk H
    clear H
    have hnb12 := NB148_149.out
    have hnc12 := NB149_148.out
    obtain ⟨hcz13_0, hcz13_1⟩ := q2 BK148
    obtain ⟨hfz13_0, hfz13_1⟩ := z2 BK148
    go_wp2_with (first | ((with_reducible refine gate_callee (f := 49) rfl ?_); refine gL (some 8) rfl rfl Try.func49 #[.agg #[.int .i64 a0_0, .int .i64 a0_1]] rfl ?_; (with_reducible refine (span_Right.calls a0_0 a0_1 true _ A6.out).mono ?_); rintro e w14 ⟨rfl, hb⟩; refine ⟨_, rfl, ?_⟩; replace BK148 := sB BK148 hb; replace BK149 := sB BK149 hb; replace HB := sL HB hb; (try clear hb); (try clear hb2); (try clear hk); (try clear hi)))
    go_meet
    case rel => exact ⟨_, (decide (a1 > 1099511627776)), eR, H', ⟨by first | omega | exact Nat.le_refl _⟩, ⟨bU BK148⟩, ⟨bU BK149⟩, ⟨lU HB⟩⟩
  ·replace c7 := Bool.eq_false_iff.mpr c7
   subst c7
   rw [if_neg (show ¬ (false = true) by decide)] at H
   have H' := Aside0.mk H
   clear H
   have hnb15 := NB148_149.out
   have hnc15 := NB149_148.out
   obtain ⟨hcz16_0, hcz16_1⟩ := q2 BK148
   obtain ⟨hfz16_0, hfz16_1⟩ := z2 BK148
   go_wp2_with (first | ((with_reducible refine gate_callee (f := 49) rfl ?_); refine gL (some 8) rfl rfl Try.func49 #[.agg #[.int .i64 a0_0, .int .i64 a0_1]] rfl ?_; (with_reducible refine (span_Right.calls a0_0 a0_1 false _ A6.out).mono ?_); rintro e w17 ⟨rfl, hb⟩; refine ⟨_, rfl, ?_⟩; replace BK148 := sB BK148 hb; replace BK149 := sB BK149 hb; replace HB := sL HB hb; (try clear hb); (try clear hb2); (try clear hk); (try clear hi)))
   go_meet
   case rel => exact ⟨_, (true), eR, H', ⟨by first | omega | exact Nat.le_refl _⟩, ⟨bU BK148⟩, ⟨bU BK149⟩, ⟨lU HB⟩⟩
 case rest =>
  clear HC3
  try clear c1
  try clear p2
  try clear c4
  try clear c7
  try clear c8
  try clear c8b0
  try clear c9
  try clear c12
  try clear c15
  try clear hcz10_0
  try clear hcz10_1
  try clear hcz13_0
  try clear hcz13_1
  try clear hcz16_0
  try clear hcz16_1
  try clear hfz10_0
  try clear hfz10_1
  try clear hfz13_0
  try clear hfz13_1
  try clear hfz16_0
  try clear hfz16_1
  obtain ⟨kq, x17_2, rfl, HA, HJ2, BK148, BK149, HB⟩ := hcut
  cases kq with
  | zero => exact absurd HA.out (by simp [span_Align.j0])
  | succ kj2 =>
   have H := HA.out
   clear HA
   simp only [span_Align.j0] at H
   by_cases c18 : x17_2 = true
   ·subst c18
    rw [if_pos rfl] at H
    simp only [Option.some.injEq, Prod.mk.injEq] at H
    obtain ⟨rfl, rfl, rfl⟩ := H
    have hnb19 := NB149_148.out
    have hnc19 := NB148_149.out
    obtain ⟨hcz20_0, hcz20_1⟩ := q2 BK149
    obtain ⟨hfz20_0, hfz20_1⟩ := z2 BK149
    go_wp2
    refine bodyPost_ret (results_ct rfl _ _ gb149 48 #[.int .i64 0, .int .i64 0] (0, 0) _ rfl (by (with_reducible repeat (first | refine blk_drewN ?_ _ | refine blk_drew ?_ | refine blk_alloc ?_ _)); refine blk_put (cs := #[.int .i64 0, .int .i64 0]) ?_ 1 _ rfl; (with_reducible repeat (first | refine blk_drewN ?_ _ | refine blk_drew ?_ | refine blk_alloc ?_ _)); refine blk_put (cs := #[.int .i64 0, .int .i64 0]) ?_ 0 _ rfl; (with_reducible repeat (first | refine blk_drewN ?_ _ | refine blk_drew ?_ | refine blk_alloc ?_ _)); exact BK149.out) Try.underlying48 rfl (by kernel_rfl)) rfl ?_
    exact ⟨eW, lU HB⟩
   ·replace c18 := Bool.eq_false_iff.mpr c18
    subst c18
    rw [if_neg (show ¬ (false = true) by decide)] at H
    by_cases c21 : a1 = 0
    ·rw [if_pos c21] at H
     exact absurd H (by simp)
    ·rw [if_neg c21] at H
     have c21b0 : (a1 == 0) = false := beq_eq_false_iff_ne.mpr c21
     have c21b1 : (a1 != 0) = true := bne_iff_ne.mpr c21
     by_cases c22 : (Int.tmod a0_1 a1) > 0
     ·rw [if_pos c22] at H
      have c22b0 : decide (0 < (Int.tmod a0_1 a1)) = true := decide_eq_true c22
      clear c22
      by_cases c23 : a0_1 < 4611686018427387904
      ·rw [if_pos c23] at H
       have c23b0 : decide (a0_1 < 4611686018427387904) = true := decide_eq_true c23
       clear c23
       obtain ⟨ji24, hji24⟩ : ∃ j_ : Int, (mn (wrap64 ((wrap64 (a0_1 - (Int.tmod a0_1 a1))) + a1)) 4611686018427387904) = j_ := ⟨_, rfl⟩
       replace H : (some (wrap64 (a0_0 - (Int.tmod a0_0 a1)), ji24, 0)) = some (r1, r2, r3) := by first | (rw [hji24] at H; exact H) | (simp only [hji24] at H ⊢; exact H)
       have hji24_ : (if 4611686018427387904 < (wrap64 ((wrap64 (a0_1 - (Int.tmod a0_1 a1))) + a1)) then 4611686018427387904 else (wrap64 ((wrap64 (a0_1 - (Int.tmod a0_1 a1))) + a1))) = ji24 := hji24
       simp only [Option.some.injEq, Prod.mk.injEq] at H
       obtain ⟨rfl, rfl, rfl⟩ := H
       try go_wp2
       replace BK148 := Aside0.mk (blk_drew BK148.out)
       replace BK149 := Aside0.mk (blk_drew BK149.out)
       replace HB := Aside0.mk (below_drew1 HB.out)
       refine start_ (n := 9) (S := fun w' => w'.cell? ⟨gb148, 0, none⟩ = some (.int .i64 a0_0) ∧ w'.cell? ⟨gb148, 1, none⟩ = some (.int .i64 a0_1)) (ds := [8]) #[false, false, false, false, false, false, false, false, false] (by kernel_rfl) rfl rfl ⟨(blk_cell BK148.out 0).trans rfl, (blk_cell BK148.out 1).trans rfl⟩ (fun hHeld => ?_); refine with_tabW span_Align.tab3 span_Align.bits3 (fun HT_ HW_ => ?_)
       generalize wc.drew = w25 at BK148 BK149 HB hHeld ⊢
       refine pS (i := 0) (N := some 19) (ma 9 1) rfl rfl HT_.out ?_
       refine pS (i := 2) (N := some 21) (ma 9 5) rfl rfl HT_.out ?_
       refine pS (i := 4) (N := some 23) (ma 9 21) rfl rfl HT_.out ?_
       refine tS (i := 1) (N := some 20) (ma 9 23) rfl rfl HT_.out HW_.out hHeld ?_
       refine tS (i := 3) (N := some 22) (ma 9 31) rfl rfl HT_.out HW_.out hHeld ?_
       refine pS (i := 5) (N := some 24) (ma 9 63) rfl rfl HT_.out ?_
       refine pS (i := 6) (N := some 25) (ma 9 127) rfl rfl HT_.out ?_
       refine pS (i := 7) (N := some 26) (ma 9 255) rfl rfl HT_.out ?_
       refine last_ (i := 8) (N := none) #[true, true, true, true, true, true, true, true, true] rfl rfl (one_of HT_.out (by kernel_rfl)) (by decide) (fun K hK => ?_)
       have hs26 : w25.cell? ⟨gb148, 0, none⟩ = some (.int .i64 a0_0) := (blk_cell BK148.out 0).trans rfl
       have hfs26 := blk_frozen BK148.out 0
       have hns26_1 := NB149_148.out
       have hms26_1 := NB148_149.out
       refine skip_ (w1 := ?_) (by rfl) rfl ?_ ?_
       rotate_left
       ·go_simp
        rfl
       refine hK.out _ _ ?_
       clear hK K
       refine done_ (done_of HT_.out (by kernel_rfl)) ?_
       have hnb27 := NB148_149.out
       have hnc27 := NB149_148.out
       obtain ⟨hcz28_0, hcz28_1⟩ := q2 BK148
       obtain ⟨hfz28_0, hfz28_1⟩ := z2 BK148
       obtain ⟨hcz29_0, hcz29_1⟩ := q2 BK149
       obtain ⟨hfz29_0, hfz29_1⟩ := z2 BK149
       try go_wp2
       refine bodyPost_ret (results_ct rfl _ _ gb149 48 #[.int .i64 (wrap64 (a0_0 - (Int.tmod a0_0 a1))), .int .i64 ji24] (0, 0) _ rfl (by (with_reducible repeat (first | refine blk_drewN ?_ _ | refine blk_drew ?_ | refine blk_alloc ?_ _)); refine blk_put (cs := #[.int .i64 (wrap64 (a0_0 - (Int.tmod a0_0 a1))), .int .i64 0]) ?_ 1 _ rfl; (with_reducible repeat (first | refine blk_drewN ?_ _ | refine blk_drew ?_ | refine blk_alloc ?_ _)); refine blk_put (cs := #[.int .i64 0, .int .i64 0]) ?_ 0 _ rfl; (with_reducible repeat (first | refine blk_drewN ?_ _ | refine blk_drew ?_ | refine blk_alloc ?_ _)); refine blk_far ?_ NB149_148.out _; (with_reducible repeat (first | refine blk_drewN ?_ _ | refine blk_drew ?_ | refine blk_alloc ?_ _)); refine blk_far ?_ NB149_148.out _; (with_reducible repeat (first | refine blk_drewN ?_ _ | refine blk_drew ?_ | refine blk_alloc ?_ _)); exact BK149.out) Try.underlying48 rfl (by kernel_rfl)) rfl ?_
       exact ⟨by first | rfl | (simp [errW_none, errW_some] <;> rfl) | (simp only [← hji24]; first | rfl | (simp [errW_none, errW_some] <;> rfl)) | (simp [*, errW_none, errW_some] <;> rfl), lU HB⟩
      ·rw [if_neg c23] at H
       have c23b0 : decide (a0_1 < 4611686018427387904) = false := decide_eq_false c23
       clear c23
       simp only [Option.some.injEq, Prod.mk.injEq] at H
       obtain ⟨rfl, rfl, rfl⟩ := H
       try go_wp2
       replace BK148 := Aside0.mk (blk_drew BK148.out)
       replace BK149 := Aside0.mk (blk_drew BK149.out)
       replace HB := Aside0.mk (below_drew1 HB.out)
       refine start_ (n := 9) (S := fun w' => w'.cell? ⟨gb148, 0, none⟩ = some (.int .i64 a0_0) ∧ w'.cell? ⟨gb148, 1, none⟩ = some (.int .i64 a0_1)) (ds := [8]) #[false, false, false, false, false, false, false, false, false] (by kernel_rfl) rfl rfl ⟨(blk_cell BK148.out 0).trans rfl, (blk_cell BK148.out 1).trans rfl⟩ (fun hHeld => ?_); refine with_tabW span_Align.tab3 span_Align.bits3 (fun HT_ HW_ => ?_)
       generalize wc.drew = w30 at BK148 BK149 HB hHeld ⊢
       refine pS (i := 0) (N := some 19) (ma 9 1) rfl rfl HT_.out ?_
       refine pS (i := 2) (N := some 21) (ma 9 5) rfl rfl HT_.out ?_
       refine pS (i := 4) (N := some 23) (ma 9 21) rfl rfl HT_.out ?_
       refine tS (i := 1) (N := some 20) (ma 9 23) rfl rfl HT_.out HW_.out hHeld ?_
       refine tS (i := 3) (N := some 22) (ma 9 31) rfl rfl HT_.out HW_.out hHeld ?_
       refine pS (i := 5) (N := some 24) (ma 9 63) rfl rfl HT_.out ?_
       refine pS (i := 6) (N := some 25) (ma 9 127) rfl rfl HT_.out ?_
       refine pS (i := 7) (N := some 26) (ma 9 255) rfl rfl HT_.out ?_
       refine last_ (i := 8) (N := none) #[true, true, true, true, true, true, true, true, true] rfl rfl (one_of HT_.out (by kernel_rfl)) (by decide) (fun K hK => ?_)
       have hs31 : w30.cell? ⟨gb148, 0, none⟩ = some (.int .i64 a0_0) := (blk_cell BK148.out 0).trans rfl
       have hfs31 := blk_frozen BK148.out 0
       have hns31_1 := NB149_148.out
       have hms31_1 := NB148_149.out
       refine skip_ (w1 := ?_) (by rfl) rfl ?_ ?_
       rotate_left
       ·go_simp
        rfl
       refine hK.out _ _ ?_
       clear hK K
       refine done_ (done_of HT_.out (by kernel_rfl)) ?_
       have hnb32 := NB148_149.out
       have hnc32 := NB149_148.out
       obtain ⟨hcz33_0, hcz33_1⟩ := q2 BK148
       obtain ⟨hfz33_0, hfz33_1⟩ := z2 BK148
       obtain ⟨hcz34_0, hcz34_1⟩ := q2 BK149
       obtain ⟨hfz34_0, hfz34_1⟩ := z2 BK149
       try go_wp2
       refine bodyPost_ret (results_ct rfl _ _ gb149 48 #[.int .i64 (wrap64 (a0_0 - (Int.tmod a0_0 a1))), .int .i64 a0_1] (0, 0) _ rfl (by (with_reducible repeat (first | refine blk_drewN ?_ _ | refine blk_drew ?_ | refine blk_alloc ?_ _)); refine blk_put (cs := #[.int .i64 (wrap64 (a0_0 - (Int.tmod a0_0 a1))), .int .i64 0]) ?_ 1 _ rfl; (with_reducible repeat (first | refine blk_drewN ?_ _ | refine blk_drew ?_ | refine blk_alloc ?_ _)); refine blk_put (cs := #[.int .i64 0, .int .i64 0]) ?_ 0 _ rfl; (with_reducible repeat (first | refine blk_drewN ?_ _ | refine blk_drew ?_ | refine blk_alloc ?_ _)); refine blk_far ?_ NB149_148.out _; (with_reducible repeat (first | refine blk_drewN ?_ _ | refine blk_drew ?_ | refine blk_alloc ?_ _)); exact BK149.out) Try.underlying48 rfl (by kernel_rfl)) rfl ?_
       exact ⟨eW, lU HB⟩
     ·rw [if_neg c22] at H
      have c22b0 : decide (0 < (Int.tmod a0_1 a1)) = false := decide_eq_false c22
      clear c22
      simp only [Option.some.injEq, Prod.mk.injEq] at H
      obtain ⟨rfl, rfl, rfl⟩ := H
      try go_wp2
      replace BK148 := Aside0.mk (blk_drew BK148.out)
      replace BK149 := Aside0.mk (blk_drew BK149.out)
      replace HB := Aside0.mk (below_drew1 HB.out)
      refine start_ (n := 9) (S := fun w' => w'.cell? ⟨gb148, 0, none⟩ = some (.int .i64 a0_0) ∧ w'.cell? ⟨gb148, 1, none⟩ = some (.int .i64 a0_1)) (ds := [8]) #[false, false, false, false, false, false, false, false, false] (by kernel_rfl) rfl rfl ⟨(blk_cell BK148.out 0).trans rfl, (blk_cell BK148.out 1).trans rfl⟩ (fun hHeld => ?_); refine with_tabW span_Align.tab3 span_Align.bits3 (fun HT_ HW_ => ?_)
      generalize wc.drew = w35 at BK148 BK149 HB hHeld ⊢
      refine pS (i := 0) (N := some 19) (ma 9 1) rfl rfl HT_.out ?_
      refine pS (i := 2) (N := some 21) (ma 9 5) rfl rfl HT_.out ?_
      refine pS (i := 4) (N := some 23) (ma 9 21) rfl rfl HT_.out ?_
      refine tS (i := 1) (N := some 20) (ma 9 23) rfl rfl HT_.out HW_.out hHeld ?_
      refine tS (i := 3) (N := some 22) (ma 9 31) rfl rfl HT_.out HW_.out hHeld ?_
      refine pS (i := 5) (N := some 24) (ma 9 63) rfl rfl HT_.out ?_
      refine pS (i := 6) (N := some 25) (ma 9 127) rfl rfl HT_.out ?_
      refine pS (i := 7) (N := some 26) (ma 9 255) rfl rfl HT_.out ?_
      refine last_ (i := 8) (N := none) #[true, true, true, true, true, true, true, true, true] rfl rfl (one_of HT_.out (by kernel_rfl)) (by decide) (fun K hK => ?_)
      have hs36 : w35.cell? ⟨gb148, 0, none⟩ = some (.int .i64 a0_0) := (blk_cell BK148.out 0).trans rfl
      have hfs36 := blk_frozen BK148.out 0
      have hns36_1 := NB149_148.out
      have hms36_1 := NB148_149.out
      refine skip_ (w1 := ?_) (by rfl) rfl ?_ ?_
      rotate_left
      ·go_simp
       rfl
      refine hK.out _ _ ?_
      clear hK K
      refine done_ (done_of HT_.out (by kernel_rfl)) ?_
      have hnb37 := NB148_149.out
      have hnc37 := NB149_148.out
      obtain ⟨hcz38_0, hcz38_1⟩ := q2 BK148
      obtain ⟨hfz38_0, hfz38_1⟩ := z2 BK148
      obtain ⟨hcz39_0, hcz39_1⟩ := q2 BK149
      obtain ⟨hfz39_0, hfz39_1⟩ := z2 BK149
      try go_wp2
      refine bodyPost_ret (results_ct rfl _ _ gb149 48 #[.int .i64 (wrap64 (a0_0 - (Int.tmod a0_0 a1))), .int .i64 a0_1] (0, 0) _ rfl (by (with_reducible repeat (first | refine blk_drewN ?_ _ | refine blk_drew ?_ | refine blk_alloc ?_ _)); refine blk_put (cs := #[.int .i64 (wrap64 (a0_0 - (Int.tmod a0_0 a1))), .int .i64 0]) ?_ 1 _ rfl; (with_reducible repeat (first | refine blk_drewN ?_ _ | refine blk_drew ?_ | refine blk_alloc ?_ _)); refine blk_put (cs := #[.int .i64 0, .int .i64 0]) ?_ 0 _ rfl; (with_reducible repeat (first | refine blk_drewN ?_ _ | refine blk_drew ?_ | refine blk_alloc ?_ _)); refine blk_far ?_ NB149_148.out _; (with_reducible repeat (first | refine blk_drewN ?_ _ | refine blk_drew ?_ | refine blk_alloc ?_ _)); exact BK149.out) Try.underlying48 rfl (by kernel_rfl)) rfl ?_
      exact ⟨eW, lU HB⟩
end Go.Proofs.Ytnaalaakhdbfbaa.XP
