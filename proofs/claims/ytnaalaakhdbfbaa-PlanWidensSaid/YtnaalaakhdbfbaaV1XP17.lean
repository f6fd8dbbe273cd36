-- Go functions of this seat as plain functions, and proofs that the code comes to these answers: written by a program (wip/tools/xprint.py over the kit's print).
import Derived.Test.YtnaalaakhdbfbaaV1XP0
import Derived.Test.YtnaalaakhdbfbaaV1XP12
import Derived.Test.YtnaalaakhdbfbaaV1XP13
import Derived.Test.YtnaalaakhdbfbaaV1XP15
import Derived.Test.YtnaalaakhdbfbaaV1XP16
namespace Go.Proofs.Ytnaalaakhdbfbaa.XP
open Go.RowKit Go.Proofs.YtnaalaakhdbfbaaW.PrintWords Go.Proofs.YtnaalaakhdbfbaaW.PrintLast Go.Proofs.YtnaalaakhdbfbaaW.PrintMore
attribute [local go_sem] max2_int min2_int max_two min_two max_three min_three max_four min_four   -- for this text's walks alone
set_option linter.unusedVariables false
set_option linter.unusedSimpArgs false

/-! ### mandolineref35_argOk: function 34 -/
/-! ### mandolineref02_Less: function 38 -/
def mandolineref02_Less.f (k : Nat) (l0 : List (S48)) (l1 : List (S48)) : Option ((List (S48))) := (mandolineref02_of.f k l0 l1 3).bind fun t394 => (some t394)
set_option maxHeartbeats 8000000 in
set_option maxRecDepth 100000 in
theorem mandolineref02_Less.calls (k : Nat) (A0 : Option Addr) (c0 : Nat) (l0 : List (S48)) (A1 : Option Addr) (c1 : Nat) (l1 : List (S48)) (r : List (S48)) (w : World) (hr0 : Kd.C k48 w A0 l0.length l0) (hc0 : l0.length ≤ c0) (hr1 : Kd.C k48 w A1 l1.length l1) (hc1 : l1.length ≤ c1) (h : mandolineref02_Less.f k l0 l1 = some r) :
  Calls Try.prog 38 #[.slice A0 l0.length c0, .slice A1 l1.length c1] w fun e w' => ∃ v0_ : Value, e = .returned (v0_) ∧ Kd.R k48 48 w' w.heap.size (fun _ => True) v0_ r ∧ Below w.heap.size w w' := by
 have HR0 := Aside0.mk hr0
 have HC0 := Aside0.mk hc0
 clear hr0 hc0
 have HR1 := Aside0.mk hr1
 have HC1 := Aside0.mk hc1
 clear hr1 hc1
 have HB := Aside0.mk (Below.refl w.heap.size w)
 have H : ((mandolineref02_of.f k l0 l1 3).bind fun t394 => (some t394)) = some r := h
 clear h
 obtain ⟨t394, A3, H⟩ := bO H
 obtain rfl := Option.some.inj H
 go_enter Try.func38, Try.ntmps38
 go_wp2_with (first | ((with_reducible refine gate_callee (f := 39) rfl ?_); refine gL (some 7) rfl rfl Try.func39 #[.slice A0 l0.length c0, .slice A1 l1.length c1, .int .i64 3] rfl ?_; (with_reducible refine (mandolineref02_of.calls k _ _ l0 _ _ l1 3 t394 _ (cU HR0.out) HC0.out (cU HR1.out) HC1.out A3.out).mono ?_); rintro e w4 ⟨v395, rfl, ho0, hb⟩; refine ⟨_, rfl, ?_⟩; have HO396 := Aside0.mk (Kd.R_lower ho0 (below_size (lU HB))); replace HB := sL HB hb; (try clear hb); (try clear hb2); (try clear hk); (try clear hi); (try clear ho0)))
 go_ret
 exact ⟨_, by first | rfl | (simp [errW_none, errW_some] <;> rfl) | (simp [*, errW_none, errW_some] <;> rfl), by (with_reducible repeat (first | apply Kd.R_alloc | apply Kd.R_drewN | apply Kd.R_drew)); exact HO396.out, by repeat (first | (with_reducible first | exact HB.out | apply below_alloc | apply pw_below_drewN | apply below_drew1) | exact HB.out)⟩

/-! ### mandolineref35_held: function 35 -/
/-! ### mandolineref35_Ends: function 36 -/
/-! ### mandolineref02_Len: function 54 -/
def mandolineref02_Len.l0 : Nat → List (S48) → Int → Int → Option (Int)
 | 0, _, _, _ => none
 | k + 1, x0, x3, x4 => if x4 < (x0.length : Int) then (if 0 ≤ x4 then (if ((rd_T48 x0 x4).f1) = 4611686018427387904 then (some 4611686018427387904) else (mandolineref02_Len.l0 k x0 (wrap64 ((wrap64 (x3 + ((rd_T48 x0 x4).f1))) - ((rd_T48 x0 x4).f0))) (wrap64 (x4 + 1)))) else (none)) else (some x3)
def mandolineref02_Len.f (k : Nat) (l0 : List (S48)) : Option (Int) := mandolineref02_Len.l0 k l0 0 0
set_option maxHeartbeats 8000000 in
set_option maxRecDepth 100000 in
theorem mandolineref02_Len.calls (k : Nat) (A0 : Option Addr) (c0 : Nat) (l0 : List (S48)) (r : Int) (w : World) (hr0 : Kd.C k48 w A0 l0.length l0) (hc0 : l0.length ≤ c0) (h : mandolineref02_Len.f k l0 = some r) :
  Calls Try.prog 54 #[.slice A0 l0.length c0] w fun e w' => e = .returned (.int .i64 r) ∧ Drawn0 w w' := by
 have HR0 := Aside0.mk hr0
 have HC0 := Aside0.mk hc0
 clear hr0 hc0
 have H : (mandolineref02_Len.l0 k l0 0 0) = some r := h
 clear h
 have H' := Aside0.mk H
 clear H
 go_enter Try.func54, Try.ntmps54
 go_wp2
 repeat (go_quiet (fail); try go_wp2)
 go_loopg [3, 4] k (fun kq v3 v4 w' => ∃ (x3_1 : Int) (x4_1 : Int), v3 = .int .i64 x3_1 ∧ v4 = .int .i64 x4_1 ∧ Aside0 (mandolineref02_Len.l0 kq l0 x3_1 x4_1 = some r) ∧ Aside0 (kq ≤ k) ∧ Drawn0 w w')
 case atStart => exact ⟨(0), (0), (by first | rfl | (simp; done) | (simp [*]; done)), (by first | rfl | (simp; done) | (simp [*]; done)), H', ⟨Nat.le_refl _⟩, by repeat (first | exact Drawn0.refl _ | apply Drawn0.step)⟩
 case round =>
  clear H'
  obtain ⟨x3_1, x4_1, rfl, rfl, HA, HK1, ⟨m1, rfl⟩⟩ := hrel
  cases gk with
  | zero => exact absurd HA.out (by simp [mandolineref02_Len.l0])
  | succ k1 =>
   have H := HA.out
   clear HA
   simp only [mandolineref02_Len.l0] at H
   by_cases c2 : x4_1 < (l0.length : Int)
   ·rw [if_pos c2] at H
    have c2b0 : decide (x4_1 < (l0.length : Int)) = true := decide_eq_true c2
    clear c2
    by_cases c3 : 0 ≤ x4_1
    ·rw [if_pos c3] at H
     have c3b0 : decide (0 ≤ x4_1) = true := decide_eq_true c3
     clear c3
     by_cases c4 : ((rd_T48 l0 x4_1).f1) = 4611686018427387904
     ·rw [if_pos c4] at H
      have c4b0 : (((rd_T48 l0 x4_1).f1) == 4611686018427387904) = true := beq_iff_eq.mpr c4
      have c4b1 : (((rd_T48 l0 x4_1).f1) != 4611686018427387904) = false := bne_eq_false_iff_eq.mpr c4
      clear c4
      obtain rfl := Option.some.inj H
      have p411 : 0 ≤ (x4_1 : Int) := of_decide_eq_true (by first | (with_reducible assumption) | assumption)
      have q411 : x4_1 < (l0.length : Int) := of_decide_eq_true (by first | (with_reducible assumption) | assumption)
      obtain ⟨ad411, e411, hx411_0, hx411_1⟩ := at_T48 HR0.out x4_1 p411 q411
      cases e411
      replace p411 := eq_true p411
      replace q411 := eq_true q411
      go_wp2
      repeat (go_quiet (fail); try go_wp2)
      go_ret
      exact ⟨by first | rfl | (simp; done) | (simp [*]; done), by repeat (first | exact Drawn0.refl _ | apply Drawn0.step)⟩
     ·rw [if_neg c4] at H
      have c4b0 : (((rd_T48 l0 x4_1).f1) == 4611686018427387904) = false := beq_eq_false_iff_ne.mpr c4
      have c4b1 : (((rd_T48 l0 x4_1).f1) != 4611686018427387904) = true := bne_iff_ne.mpr c4
      have H' := Aside0.mk H
      clear H
      have p411 : 0 ≤ (x4_1 : Int) := of_decide_eq_true (by first | (with_reducible assumption) | assumption)
      have q411 : x4_1 < (l0.length : Int) := of_decide_eq_true (by first | (with_reducible assumption) | assumption)
      obtain ⟨ad411, e411, hx411_0, hx411_1⟩ := at_T48 HR0.out x4_1 p411 q411
      cases e411
      replace p411 := eq_true p411
      replace q411 := eq_true q411
      have p412 : 0 ≤ (x4_1 : Int) := of_decide_eq_true (by first | (with_reducible assumption) | assumption)
      have q412 : x4_1 < (l0.length : Int) := of_decide_eq_true (by first | (with_reducible assumption) | assumption)
      obtain ⟨ad412, e412, hx412_0, hx412_1⟩ := at_T48 HR0.out x4_1 p412 q412
      obtain rfl : ad411 = ad412 := (by injection e412)
      replace p412 := eq_true p412
      replace q412 := eq_true q412
      have p413 : 0 ≤ (x4_1 : Int) := of_decide_eq_true (by first | (with_reducible assumption) | assumption)
      have q413 : x4_1 < (l0.length : Int) := of_decide_eq_true (by first | (with_reducible assumption) | assumption)
      obtain ⟨ad413, e413, hx413_0, hx413_1⟩ := at_T48 HR0.out x4_1 p413 q413
      obtain rfl : ad411 = ad413 := (by injection e413)
      replace p413 := eq_true p413
      replace q413 := eq_true q413
      go_wp2
      repeat (go_quiet (fail); try go_wp2)
      go_roundg k1
      case measure => have := HK1.out; omega
      case rel => exact ⟨(wrap64 ((wrap64 (x3_1 + ((rd_T48 l0 x4_1).f1))) - ((rd_T48 l0 x4_1).f0))), (wrap64 (x4_1 + 1)), (by first | rfl | (simp; done) | (simp [*]; done)), (by first | rfl | (simp; done) | (simp [*]; done)), H', ⟨by have := HK1.out; omega⟩, by repeat (first | exact Drawn0.refl _ | apply Drawn0.step)⟩
    ·rw [if_neg c3] at H
     exact absurd H (by simp)
   ·rw [if_neg c2] at H
    have c2b0 : decide (x4_1 < (l0.length : Int)) = false := decide_eq_false c2
    clear c2
    obtain rfl := Option.some.inj H
    go_wp2
    repeat (go_quiet (fail); try go_wp2)
    go_ret
    exact ⟨by first | rfl | (simp; done) | (simp [*]; done), by repeat (first | exact Drawn0.refl _ | apply Drawn0.step)⟩

/-! ### mandolineref35_Waste: function 24 -/
def mandolineref35_Waste.f (k : Nat) (a0_0 : Int) (a0_1 : Int) (l1 : List (S48)) : Option (Int) := (mandolineref01_Right.f a0_0 a0_1).bind fun t415 => (if t415 = true then ((mandolineref02_Less.f k (([(⟨a0_0, a0_1⟩ : S48)] : List (S48))) l1).bind fun t419 => ((mandolineref02_Len.f k t419).bind fun t422 => (some t422))) else (some 0))
set_option maxHeartbeats 8000000 in
set_option maxRecDepth 100000 in
theorem mandolineref35_Waste.calls (k : Nat) (a0_0 : Int) (a0_1 : Int) (A1 : Option Addr) (c1 : Nat) (l1 : List (S48)) (r : Int) (w : World) (hr1 : Kd.C k48 w A1 l1.length l1) (hc1 : l1.length ≤ c1) (h : mandolineref35_Waste.f k a0_0 a0_1 l1 = some r) :
  Calls Try.prog 24 #[.agg #[.int .i64 a0_0, .int .i64 a0_1], .slice A1 l1.length c1] w fun e w' => e = .returned (.int .i64 r) ∧ Below w.heap.size w w' := by
 have hu48 := Try.underlying48
 have HR1 := Aside0.mk hr1
 have HC1 := Aside0.mk hc1
 clear hr1 hc1
 have HB := Aside0.mk (Below.refl w.heap.size w)
 have H : ((mandolineref01_Right.f a0_0 a0_1).bind fun t415 => (if t415 = true then ((mandolineref02_Less.f k (([(⟨a0_0, a0_1⟩ : S48)] : List (S48))) l1).bind fun t419 => ((mandolineref02_Len.f k t419).bind fun t422 => (some t422))) else (some 0))) = some r := h
 clear h
 obtain ⟨t415, A3, H⟩ := bO H
 by_cases c4 : t415 = true
 ·subst c4
  have H1 : ((mandolineref02_Less.f k (([(⟨a0_0, a0_1⟩ : S48)] : List (S48))) l1).bind fun t419 => ((mandolineref02_Len.f k t419).bind fun t422 => (some t422))) = some r := by rw [if_pos rfl] at H; exact H
  clear H
  have H := H1
  clear H1
  obtain ⟨y416, hy416⟩ : ∃ y_ : List (S48), y_ = (([(⟨a0_0, a0_1⟩ : S48)] : List (S48))) := ⟨_, rfl⟩
  replace H : ((mandolineref02_Less.f k y416 l1).bind fun t419 => ((mandolineref02_Len.f k t419).bind fun t422 => (some t422))) = some r := by first | (rw [hy416]; with_reducible exact H) | (have H2_ := (Option.bind_some _ _).symm.trans H; rw [hy416]; with_reducible exact H2_) | (have H2_ := (Option.bind_some _ _).symm.trans H; with_reducible exact H2_) | with_reducible exact H | (rw [hy416]; exact H) | exact H
  have Ny416 := Aside0.mk hy416
  clear hy416
  obtain ⟨t419, A5, H⟩ := bO H
  obtain ⟨t422, A6, H⟩ := bO H
  obtain rfl := Option.some.inj H
  go_enter Try.func24, Try.ntmps24
  go_wp2_with (first | ((with_reducible refine gate_dst (N := 2) rfl ?_); refine bX (N := 2) (cs := #[.int .i64 a0_0, .int .i64 a0_1]) (t := 48) ?_; intro gb414 hg w7 hbox hb; have BK414 := Aside0.mk (hbox); have GE414 := sG HB hg; replace HB := sL HB hb; clear hb hbox hg; obtain ⟨hcz8_0, hcz8_1⟩ := q2 BK414; obtain ⟨hfz8_0, hfz8_1⟩ := z2 BK414) | ((with_reducible refine gate_callee (f := 53) rfl ?_); refine gL (some 6) rfl rfl Try.func53 #[.agg #[.int .i64 a0_0, .int .i64 a0_1]] rfl ?_; (with_reducible refine (mandolineref01_Right.calls a0_0 a0_1 true _ A3.out).mono ?_); rintro e w9 ⟨rfl, hb⟩; refine ⟨_, rfl, ?_⟩; replace BK414 := sB BK414 hb; replace HB := sL HB hb; (try clear hb); (try clear hb2); (try clear hk); (try clear hi); obtain ⟨hcz10_0, hcz10_1⟩ := q2 BK414; obtain ⟨hfz10_0, hfz10_1⟩ := z2 BK414) | ((with_reducible refine gate_dst (N := 9) rfl ?_); refine Kd.R_lit k48 _ 48 ?hg (N := 9) ?hd (xs := ([(⟨a0_0, a0_1⟩ : S48)] : List (S48))) (inner := [.int .i64 a0_0, .int .i64 a0_1]) (ok := fun _ => True) (okp := fun _ => True) ?hr ?hp (fun _ hk => hk) trivial (Below.refl _ _) (Nat.le_refl _) (by simp) ?_; (case hd => rfl); (case hg => rfl); (case hr => first | (go_simp; done) | (go_simp; rfl)); (case hp => exact (Reps.c2 (show Kd.M k48 _ _ _ (⟨a0_0, a0_1⟩ : S48) [.int .i64 a0_0, .int .i64 a0_1] from (k48_mkM _ _ _ (⟨a0_0, a0_1⟩ : S48) )) (Reps.none _ _))); intro v417 w11 ho12 hb hg_ hnew_; clear hg_ hnew_; (first | rw [← Ny416.out] at ho12 | (simp only [Int.reduceToNat] at ho12; rw [← Ny416.out] at ho12)); have HO418 := Aside0.mk (Kd.R_lower (Kd.R_newB ho12 (g := gb414) (o := .cells #[.int .i64 a0_0, .int .i64 a0_1] 48 (0, 0)) (bU BK414)) (below_size (lU HB))); replace BK414 := sB BK414 hb; replace HB := sL HB hb; clear hb ho12; obtain ⟨Ao13, co13, eo13⟩ := Kd.R_slice HO418.out; subst eo13) | ((with_reducible refine gate_callee (f := 38) rfl ?_); refine gL (some 11) rfl rfl Try.func38 #[.slice Ao13 y416.length co13, .slice A1 l1.length c1] rfl ?_; (with_reducible refine (mandolineref02_Less.calls k _ _ y416 _ _ l1 t419 _ (cU (rC HO418)) (rN HO418) (cU (Kd.C_below HR1.out HB.out)) HC1.out A5.out).mono ?_); rintro e w14 ⟨v420, rfl, ho0, hb⟩; refine ⟨_, rfl, ?_⟩; have HO421 := Aside0.mk (Kd.R_lower (Kd.R_newB (Kd.R_new' ho0 (Kd.R_lt (rU HO418.out))) (g := gb414) (o := .cells #[.int .i64 a0_0, .int .i64 a0_1] 48 (0, 0)) (bU BK414)) (below_size (lU HB))); replace HO418 := rE HO418 ho0 hb; replace BK414 := sB BK414 hb; replace HB := sL HB hb; (try clear hb); (try clear hb2); (try clear hk); (try clear hi); (try clear ho0); obtain ⟨Ao15, co15, eo15⟩ := Kd.R_slice HO421.out; subst eo15) | ((with_reducible refine gate_callee (f := 54) rfl ?_); refine gL (some 12) rfl rfl Try.func54 #[.slice Ao15 t419.length co15] rfl ?_; (with_reducible refine (mandolineref02_Len.calls k _ _ t419 t422 _ (cU (rC HO421)) (rN HO421) A6.out).mono ?_); rintro e w' ⟨rfl, ⟨nd, rfl⟩⟩; refine ⟨_, rfl, ?_⟩))
  go_ret
  exact ⟨by first | rfl | (simp [errW_none, errW_some] <;> rfl) | (simp [*, errW_none, errW_some] <;> rfl), by repeat (first | (with_reducible first | exact HB.out | apply below_alloc | apply pw_below_drewN | apply below_drew1 | refine below_set ?_ GE414.out) | exact HB.out)⟩
 ·replace c4 := Bool.eq_false_iff.mpr c4
  subst c4
  have H1 : (some 0) = some r := by rw [if_neg (show ¬ (false = true) by decide)] at H; exact H
  clear H
  have H := H1
  clear H1
  obtain rfl := Option.some.inj H
  go_enter Try.func24, Try.ntmps24
  go_wp2_with (first | ((with_reducible refine gate_dst (N := 2) rfl ?_); refine bX (N := 2) (cs := #[.int .i64 a0_0, .int .i64 a0_1]) (t := 48) ?_; intro gb414 hg w16 hbox hb; have BK414 := Aside0.mk (hbox); have GE414 := sG HB hg; replace HB := sL HB hb; clear hb hbox hg; obtain ⟨hcz17_0, hcz17_1⟩ := q2 BK414; obtain ⟨hfz17_0, hfz17_1⟩ := z2 BK414) | ((with_reducible refine gate_callee (f := 53) rfl ?_); refine gL (some 6) rfl rfl Try.func53 #[.agg #[.int .i64 a0_0, .int .i64 a0_1]] rfl ?_; (with_reducible refine (mandolineref01_Right.calls a0_0 a0_1 false _ A3.out).mono ?_); rintro e w18 ⟨rfl, hb⟩; refine ⟨_, rfl, ?_⟩; replace BK414 := sB BK414 hb; replace HB := sL HB hb; (try clear hb); (try clear hb2); (try clear hk); (try clear hi)))
  go_ret
  exact ⟨by first | rfl | (simp [errW_none, errW_some] <;> rfl) | (simp [*, errW_none, errW_some] <;> rfl), by repeat (first | (with_reducible first | exact HB.out | apply below_alloc | apply pw_below_drewN | apply below_drew1 | refine below_set ?_ GE414.out) | exact HB.out)⟩

end Go.Proofs.Ytnaalaakhdbfbaa.XP
