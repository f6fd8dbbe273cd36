-- Go functions as plain functions, and that the code comes to these answers (printed by a program).
import Derived.Test.YtnaalaakhdbfbaaV4XP0
import Derived.Test.YtnaalaakhdbfbaaV4XP12
import Derived.Test.YtnaalaakhdbfbaaV4XP13
import Derived.Test.YtnaalaakhdbfbaaV4XP15
import Derived.Test.YtnaalaakhdbfbaaV4XP16
namespace Go.Proofs.Ytnaalaakhdbfbaa.XP
open Go.RowKit Go.Proofs.YtnaalaakhdbfbaaW.PrintWords Go.Proofs.YtnaalaakhdbfbaaW.PrintLast Go.Proofs.YtnaalaakhdbfbaaW.PrintMore
attribute [local go_sem] max2_int min2_int max_two min_two max_three min_three max_four min_four
set_option linter.unusedVariables false
set_option linter.unusedSimpArgs false
def mandolineref35_argOk.f (k : Nat) (a0 : Int) (a1_0 : Int) (a1_1 : Int) (a1_2 : Int) (a1_3 : Int) (a1_4 : Int) (a1_5 : Int) (a1_6 : Int) (a1_7 : Int) (a1_8 : Int) (a1_9 : Int) : Option (Bool) := (mandolineref35_unitOk.f k a1_0).bind fun t392 => (if t392 = true then (if a1_1 ≥ 0 then (if a1_2 ≥ a1_0 then ((mandolineref35_lengthOk.f a0).bind fun t393 => (some t393)) else (some false)) else (some false)) else (some false))
set_option maxHeartbeats 8000000 in
set_option maxRecDepth 100000 in
theorem mandolineref35_argOk.calls (k : Nat) (a0 : Int) (a1_0 : Int) (a1_1 : Int) (a1_2 : Int) (a1_3 : Int) (a1_4 : Int) (a1_5 : Int) (a1_6 : Int) (a1_7 : Int) (a1_8 : Int) (a1_9 : Int) (r : Bool) (w : World) (h : mandolineref35_argOk.f k a0 a1_0 a1_1 a1_2 a1_3 a1_4 a1_5 a1_6 a1_7 a1_8 a1_9 = some r) :
  Calls Try.prog 34 #[.int .i64 a0, .agg #[.int .i64 a1_0, .int .i64 a1_1, .int .i64 a1_2, .int .i64 a1_3, .int .i64 a1_4, .int .i64 a1_5, .int .i64 a1_6, .int .i64 a1_7, .int .i64 a1_8, .int .i64 a1_9]] w fun e w' => e = .returned (.bool r) ∧ Below w.heap.size w w' := by
 have hu24 := Try.underlying24
 have HB := Aside0.mk (Below.refl w.heap.size w)
 unfold mandolineref35_argOk.f at h
 have H := h
 clear h
 obtain ⟨t392, A3, H⟩ := bO H
 by_cases c4 : t392 = true
 ·subst c4
  rw [if_pos rfl] at H
  by_cases c5 : a1_1 ≥ 0
  ·rw [if_pos c5] at H
   have c5b0 : decide (0 ≤ a1_1) = true := decide_eq_true c5
   clear c5
   by_cases c6 : a1_2 ≥ a1_0
   ·rw [if_pos c6] at H
    have c6b0 : decide (a1_0 ≤ a1_2) = true := decide_eq_true c6
    clear c6
    obtain ⟨t393, A7, H⟩ := bO H
    obtain rfl := Option.some.inj H
    go_enter Try.func34, Try.ntmps34
    go_wp2_with (first | ((with_reducible refine gate_dst (N := 3) rfl ?_); refine bX (N := 3) (cs := #[.int .i64 a1_0, .int .i64 a1_1, .int .i64 a1_2, .int .i64 a1_3, .int .i64 a1_4, .int .i64 a1_5, .int .i64 a1_6, .int .i64 a1_7, .int .i64 a1_8, .int .i64 a1_9]) (t := 24) ?_; intro gb391 hg w8 hbox hb; have BK391 := Aside0.mk (hbox); have GE391 := sG HB hg; replace HB := sL HB hb; clear hb hbox hg; obtain ⟨hcz9_0, hcz9_1, hcz9_2, hcz9_3, hcz9_4, hcz9_5, hcz9_6, hcz9_7, hcz9_8, hcz9_9⟩ := q10 BK391; obtain ⟨hfz9_0, hfz9_1, hfz9_2, hfz9_3, hfz9_4, hfz9_5, hfz9_6, hfz9_7, hfz9_8, hfz9_9⟩ := z10 BK391) | ((with_reducible refine gate_callee (f := 40) rfl ?_); refine gL (some 7) rfl rfl Try.func40 #[.int .i64 a1_0] rfl ?_; (with_reducible refine (mandolineref35_unitOk.calls k a1_0 true _ A3.out).mono ?_); rintro e w' ⟨rfl, ⟨nd, rfl⟩⟩; refine ⟨_, rfl, ?_⟩) | (go_at_call 41; (with_reducible refine (mandolineref35_lengthOk.calls a0 t393 _ A7.out).mono ?_); rintro e w' ⟨rfl, ⟨nd, rfl⟩⟩))
    go_ret
    exact ⟨eW, lU HB⟩
   ·rw [if_neg c6] at H
    have c6b0 : decide (a1_0 ≤ a1_2) = false := decide_eq_false c6
    clear c6
    obtain rfl := Option.some.inj H
    go_enter Try.func34, Try.ntmps34
    go_wp2_with (first | ((with_reducible refine gate_dst (N := 3) rfl ?_); refine bX (N := 3) (cs := #[.int .i64 a1_0, .int .i64 a1_1, .int .i64 a1_2, .int .i64 a1_3, .int .i64 a1_4, .int .i64 a1_5, .int .i64 a1_6, .int .i64 a1_7, .int .i64 a1_8, .int .i64 a1_9]) (t := 24) ?_; intro gb391 hg w10 hbox hb; have BK391 := Aside0.mk (hbox); have GE391 := sG HB hg; replace HB := sL HB hb; clear hb hbox hg; obtain ⟨hcz11_0, hcz11_1, hcz11_2, hcz11_3, hcz11_4, hcz11_5, hcz11_6, hcz11_7, hcz11_8, hcz11_9⟩ := q10 BK391; obtain ⟨hfz11_0, hfz11_1, hfz11_2, hfz11_3, hfz11_4, hfz11_5, hfz11_6, hfz11_7, hfz11_8, hfz11_9⟩ := z10 BK391) | ((with_reducible refine gate_callee (f := 40) rfl ?_); refine gL (some 7) rfl rfl Try.func40 #[.int .i64 a1_0] rfl ?_; (with_reducible refine (mandolineref35_unitOk.calls k a1_0 true _ A3.out).mono ?_); rintro e w' ⟨rfl, ⟨nd, rfl⟩⟩; refine ⟨_, rfl, ?_⟩))
    go_ret
    exact ⟨eW, lU HB⟩
  ·rw [if_neg c5] at H
   have c5b0 : decide (0 ≤ a1_1) = false := decide_eq_false c5
   clear c5
   obtain rfl := Option.some.inj H
   go_enter Try.func34, Try.ntmps34
   go_wp2_with (first | ((with_reducible refine gate_dst (N := 3) rfl ?_); refine bX (N := 3) (cs := #[.int .i64 a1_0, .int .i64 a1_1, .int .i64 a1_2, .int .i64 a1_3, .int .i64 a1_4, .int .i64 a1_5, .int .i64 a1_6, .int .i64 a1_7, .int .i64 a1_8, .int .i64 a1_9]) (t := 24) ?_; intro gb391 hg w12 hbox hb; have BK391 := Aside0.mk (hbox); have GE391 := sG HB hg; replace HB := sL HB hb; clear hb hbox hg; obtain ⟨hcz13_0, hcz13_1, hcz13_2, hcz13_3, hcz13_4, hcz13_5, hcz13_6, hcz13_7, hcz13_8, hcz13_9⟩ := q10 BK391; obtain ⟨hfz13_0, hfz13_1, hfz13_2, hfz13_3, hfz13_4, hfz13_5, hfz13_6, hfz13_7, hfz13_8, hfz13_9⟩ := z10 BK391) | ((with_reducible refine gate_callee (f := 40) rfl ?_); refine gL (some 7) rfl rfl Try.func40 #[.int .i64 a1_0] rfl ?_; (with_reducible refine (mandolineref35_unitOk.calls k a1_0 true _ A3.out).mono ?_); rintro e w' ⟨rfl, ⟨nd, rfl⟩⟩; refine ⟨_, rfl, ?_⟩))
   go_ret
   exact ⟨eW, lU HB⟩
 ·replace c4 := Bool.eq_false_iff.mpr c4
  subst c4
  rw [if_neg (show ¬ (false = true) by decide)] at H
  obtain rfl := Option.some.inj H
  go_enter Try.func34, Try.ntmps34
  go_wp2_with (first | ((with_reducible refine gate_dst (N := 3) rfl ?_); refine bX (N := 3) (cs := #[.int .i64 a1_0, .int .i64 a1_1, .int .i64 a1_2, .int .i64 a1_3, .int .i64 a1_4, .int .i64 a1_5, .int .i64 a1_6, .int .i64 a1_7, .int .i64 a1_8, .int .i64 a1_9]) (t := 24) ?_; intro gb391 hg w14 hbox hb; have BK391 := Aside0.mk (hbox); have GE391 := sG HB hg; replace HB := sL HB hb; clear hb hbox hg; obtain ⟨hcz15_0, hcz15_1, hcz15_2, hcz15_3, hcz15_4, hcz15_5, hcz15_6, hcz15_7, hcz15_8, hcz15_9⟩ := q10 BK391; obtain ⟨hfz15_0, hfz15_1, hfz15_2, hfz15_3, hfz15_4, hfz15_5, hfz15_6, hfz15_7, hfz15_8, hfz15_9⟩ := z10 BK391) | ((with_reducible refine gate_callee (f := 40) rfl ?_); refine gL (some 7) rfl rfl Try.func40 #[.int .i64 a1_0] rfl ?_; (with_reducible refine (mandolineref35_unitOk.calls k a1_0 false _ A3.out).mono ?_); rintro e w' ⟨rfl, ⟨nd, rfl⟩⟩; refine ⟨_, rfl, ?_⟩))
  go_ret
  exact ⟨eW, lU HB⟩
def mandolineref02_Less.f (k : Nat) (l0 : List (S48)) (l1 : List (S48)) : Option ((List (S48))) := (mandolineref02_of.f k l0 l1 3).bind fun t394 => (some t394)
set_option maxHeartbeats 8000000 in
set_option maxRecDepth 100000 in
theorem mandolineref02_Less.calls (k : Nat) (A0 : Option Addr) (c0 : Nat) (l0 : List (S48)) (A1 : Option Addr) (c1 : Nat) (l1 : List (S48)) (r : List (S48)) (w : World) (hr0 : Kd.C k48 w A0 l0.length l0) (hc0 : l0.length ≤ c0) (hr1 : Kd.C k48 w A1 l1.length l1) (hc1 : l1.length ≤ c1) (h : mandolineref02_Less.f k l0 l1 = some r) :
  Calls Try.prog 38 #[.slice A0 l0.length c0, .slice A1 l1.length c1] w fun e w' => ∃ v0_ : Value, e = .returned (v0_) ∧ Kd.R k48 48 w' w.heap.size (fun _ => True) v0_ r ∧ Below w.heap.size w w' := by
 have HR0 := Aside0.mk hr0
 have HC0 := Aside0.mk hc0
 clear hr0 hc0
 have HR1 := Aside0.mk hr1
 have HC1 := Aside0.mk hc1
 clear hr1 hc1
 have HB := Aside0.mk (Below.refl w.heap.size w)
 unfold mandolineref02_Less.f at h
 have H := h
 clear h
 obtain ⟨t394, A3, H⟩ := bO H
 obtain rfl := Option.some.inj H
 go_enter Try.func38, Try.ntmps38
 go_wp2_with (first | ((with_reducible refine gate_callee (f := 39) rfl ?_); refine gL (some 7) rfl rfl Try.func39 #[.slice A0 l0.length c0, .slice A1 l1.length c1, .int .i64 3] rfl ?_; (with_reducible refine (mandolineref02_of.calls k _ _ l0 _ _ l1 3 t394 _ (cU HR0.out) HC0.out (cU HR1.out) HC1.out A3.out).mono ?_); rintro e w4 ⟨v395, rfl, ho0, hb⟩; refine ⟨_, rfl, ?_⟩; have HO396 := Aside0.mk (Kd.R_lower ho0 (below_size (lU HB))); replace HB := sL HB hb; (try clear hb); (try clear hb2); (try clear hk); (try clear hi); (try clear ho0)))
 go_ret
 exact ⟨_, eW, by (with_reducible repeat (first | apply Kd.R_alloc | apply Kd.R_drewN | apply Kd.R_drew)); exact HO396.out, lU HB⟩
def mandolineref35_held.f (k : Nat) (l0 : List (S48)) (l1 : List (S48)) : Option (Bool) := (mandolineref02_Less.f k l0 l1).bind fun t397 => (some (decide ((t397.length : Int) > 0)))
set_option maxHeartbeats 8000000 in
set_option maxRecDepth 100000 in
theorem mandolineref35_held.calls (k : Nat) (A0 : Option Addr) (c0 : Nat) (l0 : List (S48)) (A1 : Option Addr) (c1 : Nat) (l1 : List (S48)) (r : Bool) (w : World) (hr0 : Kd.C k48 w A0 l0.length l0) (hc0 : l0.length ≤ c0) (hr1 : Kd.C k48 w A1 l1.length l1) (hc1 : l1.length ≤ c1) (h : mandolineref35_held.f k l0 l1 = some r) :
  Calls Try.prog 35 #[.slice A0 l0.length c0, .slice A1 l1.length c1] w fun e w' => e = .returned (.bool r) ∧ Below w.heap.size w w' := by
 have HR0 := Aside0.mk hr0
 have HC0 := Aside0.mk hc0
 clear hr0 hc0
 have HR1 := Aside0.mk hr1
 have HC1 := Aside0.mk hc1
 clear hr1 hc1
 have HB := Aside0.mk (Below.refl w.heap.size w)
 unfold mandolineref35_held.f at h
 have H := h
 clear h
 obtain ⟨t397, A3, H⟩ := bO H
 obtain rfl := Option.some.inj H
 go_enter Try.func35, Try.ntmps35
 go_wp2_with (first | ((with_reducible refine gate_callee (f := 38) rfl ?_); refine gL (some 7) rfl rfl Try.func38 #[.slice A0 l0.length c0, .slice A1 l1.length c1] rfl ?_; (with_reducible refine (mandolineref02_Less.calls k _ _ l0 _ _ l1 t397 _ (cU HR0.out) HC0.out (cU HR1.out) HC1.out A3.out).mono ?_); rintro e w4 ⟨v398, rfl, ho0, hb⟩; refine ⟨_, rfl, ?_⟩; have HO399 := Aside0.mk (Kd.R_lower ho0 (below_size (lU HB))); replace HB := sL HB hb; (try clear hb); (try clear hb2); (try clear hk); (try clear hi); (try clear ho0); obtain ⟨Ao5, co5, eo5⟩ := Kd.R_slice HO399.out; subst eo5))
 go_ret
 exact ⟨eW, lU HB⟩
mutual
def mandolineref35_Ends.l0 : Nat → Int → Int → List Int → List (S48) → Int → Int → Option (List Int)
 | 0, _, _, _, _, _, _ => none
 | k + 1, x1, x2, x7, x12, x13, x14 => if x14 < x13 then (if 0 ≤ x14 then (if x14 < (x12.length : Int) then (if ((rd_T48 x12 x14).f1) ≤ x1 then (mandolineref35_Ends.l0 k x1 x2 x7 x12 x13 (wrap64 (x14 + 1))) else (if ((rd_T48 x12 x14).f1) = 4611686018427387904 then (mandolineref35_Ends.l1 k x2 x7 (mx ((rd_T48 x12 x14).f0) x1) 0) else (mandolineref35_Ends.l2 k x1 x2 x7 (mx ((rd_T48 x12 x14).f0) x1) x12 x13 x14 ((rd_T48 x12 x14).f0) ((rd_T48 x12 x14).f1)))) else (none)) else (none)) else (some x7)
def mandolineref35_Ends.l1 : Nat → Int → List Int → Int → Int → Option (List Int)
 | 0, _, _, _, _ => none
 | k + 1, x2, x7, x10, x11 => if x11 < 600 then (if x7.length < 17592186044416 then (mandolineref35_Ends.l1 k x2 (x7 ++ [wrap64 (x10 + x2)]) (wrap64 (x10 + x2)) (wrap64 (x11 + 1))) else (none)) else (if x7.length < 17592186044416 then (some (x7 ++ [4611686018427387904])) else (none))
def mandolineref35_Ends.l2 : Nat → Int → Int → List Int → Int → List (S48) → Int → Int → Int → Int → Option (List Int)
 | 0, _, _, _, _, _, _, _, _, _ => none
 | k + 1, x1, x2, x7, x10, x12, x13, x14, x402000, x402001 => if x10 < x402001 then (if x7.length < 17592186044416 then (mandolineref35_Ends.l2 k x1 x2 (x7 ++ [mn (wrap64 (x10 + x2)) x402001]) (mn (wrap64 (x10 + x2)) x402001) x12 x13 x14 x402000 x402001) else (none)) else (mandolineref35_Ends.l0 k x1 x2 x7 x12 x13 (wrap64 (x14 + 1)))
end
def mandolineref35_Ends.f (k : Nat) (l0 : List (S48)) (a1 : Int) (a2 : Int) : Option (List Int) := mandolineref35_Ends.l0 k a1 a2 ([] : List Int) l0 (l0.length : Int) 0
set_option maxHeartbeats 8000000 in
set_option maxRecDepth 100000 in
theorem mandolineref35_Ends.calls (k : Nat) (A0 : Option Addr) (c0 : Nat) (l0 : List (S48)) (a1 : Int) (a2 : Int) (r : List Int) (w : World) (hr0 : Kd.C k48 w A0 l0.length l0) (hc0 : l0.length ≤ c0) (h : mandolineref35_Ends.f k l0 a1 a2 = some r) :
  Calls Try.prog 36 #[.slice A0 l0.length c0, .int .i64 a1, .int .i64 a2] w fun e w' => ∃ v0_ : Value, e = .returned (v0_) ∧ Kd.R (Kd.int .i64) 2 w' w.heap.size (fun _ => True) v0_ r ∧ Below w.heap.size w w' := by
 have hu48 := Try.underlying48
 have HR0 := Aside0.mk hr0
 have HC0 := Aside0.mk hc0
 clear hr0 hc0
 have HB := Aside0.mk (Below.refl w.heap.size w)
 unfold mandolineref35_Ends.f at h
 have H := h
 clear h
 have H' := Aside0.mk H
 clear H
 go_enter Try.func36, Try.ntmps36
 go_wp2
 go_loopg [7, 14] k (fun kq v7 v14 w' => ∃ (x7_1 : List Int) (x14_1 : Int), v14 = .int .i64 x14_1 ∧ Aside0 (mandolineref35_Ends.l0 kq a1 a2 x7_1 l0 (l0.length : Int) x14_1 = some r) ∧ Aside0 (kq ≤ k) ∧ Aside0 (Kd.R (Kd.int .i64) 2 w' w.heap.size (fun _ => True) v7 x7_1) ∧ Aside0 (Below w.heap.size w w'))
 case atStart => exact ⟨(([] : List Int)), (0), eR, H', ⟨Nat.le_refl _⟩, ⟨by first | exact Kd.R_nil _ _ _ _ _ | exact Kd.N_nil _ _ _ _ _ | exact Kd.V_nil _ _ _ _ _ | exact Kd.Q_nil _ _ _ _ _ | exact Kd.S_nil _ _ _ _ _⟩, ⟨lU HB⟩⟩
 case round =>
  clear H'
  try clear p2
  try clear c3
  obtain ⟨x7_1, x14_1, rfl, HA, HK1, HO_7, HB⟩ := hrel
  cases gk with
  | zero => exact absurd HA.out (by simp [mandolineref35_Ends.l0])
  | succ k1 =>
   have H := HA.out
   clear HA
   simp only [mandolineref35_Ends.l0] at H
   by_cases c4 : x14_1 < (l0.length : Int)
   ·rw [if_pos c4] at H
    have c4b0 : decide (x14_1 < (l0.length : Int)) = true := decide_eq_true c4
    clear c4
    by_cases c5 : 0 ≤ x14_1
    ·rw [if_pos c5] at H
     have c5b0 : decide (0 ≤ x14_1) = true := decide_eq_true c5
     clear c5
     by_cases c6 : x14_1 < (l0.length : Int)
     ·rw [if_pos c6] at H
      have c6b0 : decide (x14_1 < (l0.length : Int)) = true := decide_eq_true c6
      clear c6
      by_cases c7 : ((rd_T48 l0 x14_1).f1) ≤ a1
      ·rw [if_pos c7] at H
       have c7b0 : decide (((rd_T48 l0 x14_1).f1) ≤ a1) = true := decide_eq_true c7
       clear c7
       have H' := Aside0.mk H
       clear H
       have p400 : 0 ≤ (x14_1 : Int) := of_decide_eq_true (by first | (with_reducible assumption) | assumption)
       have q400 : x14_1 < (l0.length : Int) := of_decide_eq_true (by first | (with_reducible assumption) | assumption)
       obtain ⟨ad400, e400, hx400_0, hx400_1⟩ := at_T48 HR0.out x14_1 p400 q400
       cases e400
       replace hx400_0 := cB HB hx400_0
       replace hx400_1 := cB HB hx400_1
       replace p400 := eq_true p400
       replace q400 := eq_true q400
       go_wp2_with (first | ((with_reducible refine gate_dst (N := 9) rfl ?_); refine bX (N := 9) (cs := #[.int .i64 0, .int .i64 0]) (t := 48) ?_; intro gb401 hg w8 hbox hb; have BK401 := Aside0.mk (hbox); have GE401 := sG HB hg; replace HO_7 := rB HO_7 hb; replace HB := sL HB hb; clear hb hbox hg; obtain ⟨hcz9_0, hcz9_1⟩ := q2 BK401; obtain ⟨hfz9_0, hfz9_1⟩ := z2 BK401))
       go_roundg k1
       case measure => have := HK1.out; omega
       case rel => exact ⟨(x7_1), (wrap64 (x14_1 + 1)), eR, H', ⟨by have := HK1.out; omega⟩, ⟨rU (Kd.R_mono (Kd.R_far (p := ⟨gb401, 1, none⟩) (Kd.R_far (p := ⟨gb401, 0, none⟩) (Kd.R_types HO_7.out BK401.out (by decide)) (fun _ hk => hk.2) (.int .i64 ((rd_T48 l0 x14_1).f0))) (fun _ hk => hk.2) (.int .i64 ((rd_T48 l0 x14_1).f1))) (fun _ hk => trivial))⟩, ⟨lU HB⟩⟩
      ·rw [if_neg c7] at H
       have c7b0 : decide (((rd_T48 l0 x14_1).f1) ≤ a1) = false := decide_eq_false c7
       clear c7
       obtain ⟨ji10, hji10⟩ : ∃ j_ : Int, (mx ((rd_T48 l0 x14_1).f0) a1) = j_ := ⟨_, rfl⟩
       replace H : (if ((rd_T48 l0 x14_1).f1) = 4611686018427387904 then (mandolineref35_Ends.l1 k1 a2 x7_1 ji10 0) else (mandolineref35_Ends.l2 k1 a1 a2 x7_1 ji10 l0 (l0.length : Int) x14_1 ((rd_T48 l0 x14_1).f0) ((rd_T48 l0 x14_1).f1))) = some r := by first | (rw [hji10] at H; exact H) | (simp only [hji10] at H ⊢; exact H)
       have hji10_ : (if ((rd_T48 l0 x14_1).f0) < a1 then a1 else ((rd_T48 l0 x14_1).f0)) = ji10 := hji10
       by_cases c11 : ((rd_T48 l0 x14_1).f1) = 4611686018427387904
       ·rw [if_pos c11] at H
        have c11b0 : (((rd_T48 l0 x14_1).f1) == 4611686018427387904) = true := beq_iff_eq.mpr c11
        have c11b1 : (((rd_T48 l0 x14_1).f1) != 4611686018427387904) = false := bne_eq_false_iff_eq.mpr c11
        clear c11
        have H' := Aside0.mk H
        clear H
        have p400 : 0 ≤ (x14_1 : Int) := of_decide_eq_true (by first | (with_reducible assumption) | assumption)
        have q400 : x14_1 < (l0.length : Int) := of_decide_eq_true (by first | (with_reducible assumption) | assumption)
        obtain ⟨ad400, e400, hx400_0, hx400_1⟩ := at_T48 HR0.out x14_1 p400 q400
        cases e400
        replace hx400_0 := cB HB hx400_0
        replace hx400_1 := cB HB hx400_1
        replace p400 := eq_true p400
        replace q400 := eq_true q400
        go_wp2_with (first | ((with_reducible refine gate_dst (N := 9) rfl ?_); refine bX (N := 9) (cs := #[.int .i64 0, .int .i64 0]) (t := 48) ?_; intro gb401 hg w12 hbox hb; have BK401 := Aside0.mk (hbox); have GE401 := sG HB hg; replace HO_7 := rB HO_7 hb; replace HB := sL HB hb; clear hb hbox hg; obtain ⟨hcz13_0, hcz13_1⟩ := q2 BK401; obtain ⟨hfz13_0, hfz13_1⟩ := z2 BK401))
        go_loopg [7, 10, 11] k1 (fun kq v7 v10 v11 w' => ∃ (x7_2 : List Int) (x10_2 : Int) (x11_2 : Int), v10 = .int .i64 x10_2 ∧ v11 = .int .i64 x11_2 ∧ Aside0 (mandolineref35_Ends.l1 kq a2 x7_2 x10_2 x11_2 = some r) ∧ Aside0 (kq ≤ k1) ∧ Aside0 (Kd.R (Kd.int .i64) 2 w' w.heap.size (fun _ => True) v7 x7_2) ∧ Aside0 (w'.heap[gb401]? = some (.cells #[.int .i64 ((rd_T48 l0 x14_1).f0), .int .i64 ((rd_T48 l0 x14_1).f1)] 48 (0, 0))) ∧ Aside0 (Below w.heap.size w w'))
        case atStart => exact ⟨(x7_1), (ji10), (0), (by first | rfl | (simp; done) | (simp only [← hji10] <;> (first | rfl | simp)) | (simp [*]; done)), eR, H', ⟨Nat.le_refl _⟩, ⟨rU (Kd.R_mono (Kd.R_far (p := ⟨gb401, 1, none⟩) (Kd.R_far (p := ⟨gb401, 0, none⟩) (Kd.R_types HO_7.out BK401.out (by decide)) (fun _ hk => hk.2) (.int .i64 ((rd_T48 l0 x14_1).f0))) (fun _ hk => hk.2) (.int .i64 ((rd_T48 l0 x14_1).f1))) (fun _ hk => trivial))⟩, ⟨by (with_reducible repeat (first | refine blk_drewN ?_ _ | refine blk_drew ?_ | refine blk_alloc ?_ _)); refine blk_put (cs := #[.int .i64 ((rd_T48 l0 x14_1).f0), .int .i64 0]) ?_ 1 _ rfl; (with_reducible repeat (first | refine blk_drewN ?_ _ | refine blk_drew ?_ | refine blk_alloc ?_ _)); refine blk_put (cs := #[.int .i64 0, .int .i64 0]) ?_ 0 _ rfl; (with_reducible repeat (first | refine blk_drewN ?_ _ | refine blk_drew ?_ | refine blk_alloc ?_ _)); exact BK401.out⟩, ⟨lU HB⟩⟩
        case round =>
         clear H'
         try clear c1
         try clear p2
         try clear c3
         try clear c4
         try clear c4b0
         try clear p4
         try clear q4
         try clear hx4
         try clear c5
         try clear c5b0
         try clear c6
         try clear c6b0
         try clear p6
         try clear c7
         try clear c7b0
         try clear c11
         try clear c11b0
         try clear c11b1
         try clear hcz13_0
         try clear hcz13_1
         try clear hcz9_0
         try clear hcz9_1
         try clear hfz13_0
         try clear hfz13_1
         try clear hfz9_0
         try clear hfz9_1
         try clear hx400_0
         try clear hx400_1
         try clear p2
         try clear p400
         try clear q400
         obtain ⟨x7_2, x10_2, x11_2, rfl, rfl, HA, HK2, HO_7, BK401, HB⟩ := hrel
         cases gk with
         | zero => exact absurd HA.out (by simp [mandolineref35_Ends.l1])
         | succ k2 =>
          have H := HA.out
          clear HA
          simp only [mandolineref35_Ends.l1] at H
          by_cases c14 : x11_2 < 600
          ·rw [if_pos c14] at H
           have c14b0 : decide (x11_2 < 600) = true := decide_eq_true c14
           clear c14
           by_cases c15 : x7_2.length < 17592186044416
           ·rw [if_pos c15] at H
            have LMc15 := Aside0.mk c15
            clear c15
            obtain ⟨y402, hy402⟩ : ∃ y_ : List Int, y_ = (x7_2 ++ [wrap64 (x10_2 + a2)]) := ⟨_, rfl⟩
            replace H : (mandolineref35_Ends.l1 k2 a2 y402 (wrap64 (x10_2 + a2)) (wrap64 (x11_2 + 1))) = some r := by first | (rw [hy402]; with_reducible exact H) | (have H2_ := (Option.bind_some _ _).symm.trans H; rw [hy402]; with_reducible exact H2_) | (have H2_ := (Option.bind_some _ _).symm.trans H; with_reducible exact H2_) | with_reducible exact H | (rw [hy402]; exact H) | exact H
            have Ny402 := Aside0.mk hy402
            clear hy402
            have H' := Aside0.mk H
            clear H
            go_wp2_with (first | ((with_reducible refine gate_builtin (b := .append) (xs := #[.tmp 36, .tmp 38]) rfl ?_); at_builtin; refine Kd.R_append (Kd.int .i64) (w0 := w) w.heap.size rfl (.tmp 36) (.tmp 38) 63 2 (.int .i64 0) 8 rfl Try.underlying63 info2 rfl (by decide) (by omega) u7 x7_2 (wrap64 (x10_2 + a2)) [.int .i64 (wrap64 (x10_2 + a2))] (fun _ => True) (fun _ => False) rfl rfl ?aP (fun _ hk => hk.elim) ?aF ?aO ?aB ?aS ?aL ?_; (case aP => exact rfl); (case aB => exact (lU HB)); (case aF => exact (fun _ _ => trivial)); (case aO => exact (rU HO_7.out)); (case aS => exact (below_size (lU HB))); (case aL => have := LMc15.out; omega); intro v403 w16 ho hb hg hat; rw [← Ny402.out] at ho; have HO404 := Aside0.mk (ho); replace BK401 := Aside0.mk (blk_grown (g := gb401) (o := .cells #[.int .i64 ((rd_T48 l0 x14_1).f0), .int .i64 ((rd_T48 l0 x14_1).f1)] 48 (0, 0)) (bU BK401) hg (Kd.R_ne HO_7.out BK401.out (by decide))); replace HB := Aside0.mk (hb); clear HO_7; clear ho hb hg hat))
            go_roundg k2
            case measure => have := HK1.out; have := HK2.out; omega
            case rel => exact ⟨(y402), (wrap64 (x10_2 + a2)), (wrap64 (x11_2 + 1)), eR, eR, H', ⟨by have := HK1.out; have := HK2.out; omega⟩, ⟨rU HO404.out⟩, ⟨bU BK401⟩, ⟨lU HB⟩⟩
           ·rw [if_neg c15] at H
            exact absurd H (by simp)
          ·rw [if_neg c14] at H
           have c14b0 : decide (x11_2 < 600) = false := decide_eq_false c14
           clear c14
           by_cases c17 : x7_2.length < 17592186044416
           ·rw [if_pos c17] at H
            have LMc17 := Aside0.mk c17
            clear c17
            obtain ⟨y405, hy405⟩ : ∃ y_ : List Int, y_ = (x7_2 ++ [4611686018427387904]) := ⟨_, rfl⟩
            replace H : (some y405) = some r := by first | (rw [hy405]; with_reducible exact H) | (have H2_ := (Option.bind_some _ _).symm.trans H; rw [hy405]; with_reducible exact H2_) | (have H2_ := (Option.bind_some _ _).symm.trans H; with_reducible exact H2_) | with_reducible exact H | (rw [hy405]; exact H) | exact H
            have Ny405 := Aside0.mk hy405
            clear hy405
            obtain rfl := Option.some.inj H
            go_wp2_with (first | ((with_reducible refine gate_builtin (b := .append) (xs := #[.tmp 40, .tmp 41]) rfl ?_); at_builtin; refine Kd.R_append (Kd.int .i64) (w0 := w) w.heap.size rfl (.tmp 40) (.tmp 41) 63 2 (.int .i64 0) 8 rfl Try.underlying63 info2 rfl (by decide) (by omega) u7 x7_2 4611686018427387904 [.int .i64 4611686018427387904] (fun _ => True) (fun _ => False) rfl rfl ?aP (fun _ hk => hk.elim) ?aF ?aO ?aB ?aS ?aL ?_; (case aP => exact rfl); (case aB => exact (lU HB)); (case aF => exact (fun _ _ => trivial)); (case aO => exact (rU HO_7.out)); (case aS => exact (below_size (lU HB))); (case aL => have := LMc17.out; omega); intro v406 w18 ho hb hg hat; rw [← Ny405.out] at ho; have HO407 := Aside0.mk (ho); replace BK401 := Aside0.mk (blk_grown (g := gb401) (o := .cells #[.int .i64 ((rd_T48 l0 x14_1).f0), .int .i64 ((rd_T48 l0 x14_1).f1)] 48 (0, 0)) (bU BK401) hg (Kd.R_ne HO_7.out BK401.out (by decide))); replace HB := Aside0.mk (hb); clear HO_7; clear ho hb hg hat))
            go_ret
            exact ⟨_, by first | rfl | (simp [errW_none, errW_some] <;> rfl) | (simp only [← hji10]; first | rfl | (simp [errW_none, errW_some] <;> rfl)) | (simp [*, errW_none, errW_some] <;> rfl), by (with_reducible repeat (first | apply Kd.R_alloc | apply Kd.R_drewN | apply Kd.R_drew)); exact HO407.out, lU HB⟩
           ·rw [if_neg c17] at H
            exact absurd H (by simp)
       ·rw [if_neg c11] at H
        have c11b0 : (((rd_T48 l0 x14_1).f1) == 4611686018427387904) = false := beq_eq_false_iff_ne.mpr c11
        have c11b1 : (((rd_T48 l0 x14_1).f1) != 4611686018427387904) = true := bne_iff_ne.mpr c11
        have H' := Aside0.mk H
        clear H
        have p400 : 0 ≤ (x14_1 : Int) := of_decide_eq_true (by first | (with_reducible assumption) | assumption)
        have q400 : x14_1 < (l0.length : Int) := of_decide_eq_true (by first | (with_reducible assumption) | assumption)
        obtain ⟨ad400, e400, hx400_0, hx400_1⟩ := at_T48 HR0.out x14_1 p400 q400
        cases e400
        replace hx400_0 := cB HB hx400_0
        replace hx400_1 := cB HB hx400_1
        replace p400 := eq_true p400
        replace q400 := eq_true q400
        go_wp2_with (first | ((with_reducible refine gate_dst (N := 9) rfl ?_); refine bX (N := 9) (cs := #[.int .i64 0, .int .i64 0]) (t := 48) ?_; intro gb401 hg w19 hbox hb; have BK401 := Aside0.mk (hbox); have GE401 := sG HB hg; replace HO_7 := rB HO_7 hb; replace HB := sL HB hb; clear hb hbox hg; obtain ⟨hcz20_0, hcz20_1⟩ := q2 BK401; obtain ⟨hfz20_0, hfz20_1⟩ := z2 BK401))
        go_loopg [7, 10] k1 (fun kq v7 v10 w' => ∃ (x7_2 : List Int) (x10_2 : Int), v10 = .int .i64 x10_2 ∧ Aside0 (mandolineref35_Ends.l2 kq a1 a2 x7_2 x10_2 l0 (l0.length : Int) x14_1 ((rd_T48 l0 x14_1).f0) ((rd_T48 l0 x14_1).f1) = some r) ∧ Aside0 (kq ≤ k1) ∧ Aside0 (Kd.R (Kd.int .i64) 2 w' w.heap.size (fun _ => True) v7 x7_2) ∧ Aside0 (w'.heap[gb401]? = some (.cells #[.int .i64 ((rd_T48 l0 x14_1).f0), .int .i64 ((rd_T48 l0 x14_1).f1)] 48 (0, 0))) ∧ Aside0 (Below w.heap.size w w'))
        case atStart => exact ⟨(x7_1), (ji10), (by first | rfl | (simp; done) | (simp only [← hji10] <;> (first | rfl | simp)) | (simp [*]; done)), H', ⟨Nat.le_refl _⟩, ⟨rU (Kd.R_mono (Kd.R_far (p := ⟨gb401, 1, none⟩) (Kd.R_far (p := ⟨gb401, 0, none⟩) (Kd.R_types HO_7.out BK401.out (by decide)) (fun _ hk => hk.2) (.int .i64 ((rd_T48 l0 x14_1).f0))) (fun _ hk => hk.2) (.int .i64 ((rd_T48 l0 x14_1).f1))) (fun _ hk => trivial))⟩, ⟨by (with_reducible repeat (first | refine blk_drewN ?_ _ | refine blk_drew ?_ | refine blk_alloc ?_ _)); refine blk_put (cs := #[.int .i64 ((rd_T48 l0 x14_1).f0), .int .i64 0]) ?_ 1 _ rfl; (with_reducible repeat (first | refine blk_drewN ?_ _ | refine blk_drew ?_ | refine blk_alloc ?_ _)); refine blk_put (cs := #[.int .i64 0, .int .i64 0]) ?_ 0 _ rfl; (with_reducible repeat (first | refine blk_drewN ?_ _ | refine blk_drew ?_ | refine blk_alloc ?_ _)); exact BK401.out⟩, ⟨lU HB⟩⟩
        case round =>
         clear H'
         try clear c1
         try clear p2
         try clear c3
         try clear c4
         try clear c4b0
         try clear p4
         try clear q4
         try clear hx4
         try clear c5
         try clear c5b0
         try clear c6
         try clear c6b0
         try clear p6
         try clear c7
         try clear c7b0
         try clear c11
         try clear c11b0
         try clear c11b1
         try clear c14
         try clear c14b0
         try clear c15
         try clear c17
         try clear hcz13_0
         try clear hcz13_1
         try clear hcz20_0
         try clear hcz20_1
         try clear hcz9_0
         try clear hcz9_1
         try clear hfz13_0
         try clear hfz13_1
         try clear hfz20_0
         try clear hfz20_1
         try clear hfz9_0
         try clear hfz9_1
         try clear hx400_0
         try clear hx400_1
         try clear p2
         try clear p4
         try clear p400
         try clear p6
         try clear q4
         try clear q400
         obtain ⟨x7_2, x10_2, rfl, HA, HK2, HO_7, BK401, HB⟩ := hrel
         cases gk with
         | zero => exact absurd HA.out (by simp [mandolineref35_Ends.l2])
         | succ k2 =>
          have H := HA.out
          clear HA
          simp only [mandolineref35_Ends.l2] at H
          by_cases c21 : x10_2 < ((rd_T48 l0 x14_1).f1)
          ·rw [if_pos c21] at H
           have c21b0 : decide (x10_2 < ((rd_T48 l0 x14_1).f1)) = true := decide_eq_true c21
           clear c21
           obtain ⟨ji22, hji22⟩ : ∃ j_ : Int, (mn (wrap64 (x10_2 + a2)) ((rd_T48 l0 x14_1).f1)) = j_ := ⟨_, rfl⟩
           replace H : (if x7_2.length < 17592186044416 then (mandolineref35_Ends.l2 k2 a1 a2 (x7_2 ++ [ji22]) ji22 l0 (l0.length : Int) x14_1 ((rd_T48 l0 x14_1).f0) ((rd_T48 l0 x14_1).f1)) else (none)) = some r := by first | (rw [hji22] at H; exact H) | (simp only [hji22] at H ⊢; exact H)
           have hji22_ : (if ((rd_T48 l0 x14_1).f1) < (wrap64 (x10_2 + a2)) then ((rd_T48 l0 x14_1).f1) else (wrap64 (x10_2 + a2))) = ji22 := hji22
           by_cases c23 : x7_2.length < 17592186044416
           ·rw [if_pos c23] at H
            have LMc23 := Aside0.mk c23
            clear c23
            obtain ⟨y408, hy408⟩ : ∃ y_ : List Int, y_ = (x7_2 ++ [ji22]) := ⟨_, rfl⟩
            replace H : (mandolineref35_Ends.l2 k2 a1 a2 y408 ji22 l0 (l0.length : Int) x14_1 ((rd_T48 l0 x14_1).f0) ((rd_T48 l0 x14_1).f1)) = some r := by first | (rw [hy408]; with_reducible exact H) | (have H2_ := (Option.bind_some _ _).symm.trans H; rw [hy408]; with_reducible exact H2_) | (have H2_ := (Option.bind_some _ _).symm.trans H; with_reducible exact H2_) | with_reducible exact H | (rw [hy408]; exact H) | exact H
            have Ny408 := Aside0.mk hy408
            clear hy408
            have H' := Aside0.mk H
            clear H
            obtain ⟨hcz24_0, hcz24_1⟩ := q2 BK401
            obtain ⟨hfz24_0, hfz24_1⟩ := z2 BK401
            go_wp2_with (first | ((with_reducible refine gate_builtin (b := .append) (xs := #[.tmp 53, .tmp 55]) rfl ?_); at_builtin; refine Kd.R_append (Kd.int .i64) (w0 := w) w.heap.size rfl (.tmp 53) (.tmp 55) 63 2 (.int .i64 0) 8 rfl Try.underlying63 info2 rfl (by decide) (by omega) u7 x7_2 ji22 [.int .i64 ji22] (fun _ => True) (fun _ => False) rfl rfl ?aP (fun _ hk => hk.elim) ?aF ?aO ?aB ?aS ?aL ?_; (case aP => exact rfl); (case aB => exact (lU HB)); (case aF => exact (fun _ _ => trivial)); (case aO => exact (rU HO_7.out)); (case aS => exact (below_size (lU HB))); (case aL => have := LMc23.out; omega); intro v409 w25 ho hb hg hat; rw [← Ny408.out] at ho; have HO410 := Aside0.mk (ho); replace BK401 := Aside0.mk (blk_grown (g := gb401) (o := .cells #[.int .i64 ((rd_T48 l0 x14_1).f0), .int .i64 ((rd_T48 l0 x14_1).f1)] 48 (0, 0)) (bU BK401) hg (Kd.R_ne HO_7.out BK401.out (by decide))); replace HB := Aside0.mk (hb); clear HO_7; clear ho hb hg hat))
            go_roundg k2
            case measure => have := HK1.out; have := HK2.out; omega
            case rel => exact ⟨(y408), (ji22), (by first | rfl | (simp; done) | (simp only [← hji22] <;> (first | rfl | simp)) | (simp [*]; done)), H', ⟨by have := HK1.out; have := HK2.out; omega⟩, ⟨rU HO410.out⟩, ⟨bU BK401⟩, ⟨lU HB⟩⟩
           ·rw [if_neg c23] at H
            exact absurd H (by simp)
          ·rw [if_neg c21] at H
           have c21b0 : decide (x10_2 < ((rd_T48 l0 x14_1).f1)) = false := decide_eq_false c21
           clear c21
           have H' := Aside0.mk H
           clear H
           obtain ⟨hcz26_0, hcz26_1⟩ := q2 BK401
           obtain ⟨hfz26_0, hfz26_1⟩ := z2 BK401
           go_wp2
           go_roundg k2
           case measure => have := HK1.out; have := HK2.out; omega
           case rel => exact ⟨(x7_2), (wrap64 (x14_1 + 1)), eR, H', ⟨by have := HK1.out; have := HK2.out; omega⟩, ⟨rU HO_7.out⟩, ⟨lU HB⟩⟩
     ·rw [if_neg c6] at H
      exact absurd H (by simp)
    ·rw [if_neg c5] at H
     exact absurd H (by simp)
   ·rw [if_neg c4] at H
    have c4b0 : decide (x14_1 < (l0.length : Int)) = false := decide_eq_false c4
    clear c4
    obtain rfl := Option.some.inj H
    go_wp2
    go_ret
    exact ⟨_, eW, by (with_reducible repeat (first | apply Kd.R_alloc | apply Kd.R_drewN | apply Kd.R_drew)); exact HO_7.out, lU HB⟩
def mandolineref02_Len.l0 : Nat → List (S48) → Int → Int → Option (Int)
 | 0, _, _, _ => none
 | k + 1, x0, x3, x4 => if x4 < (x0.length : Int) then (if 0 ≤ x4 then (if ((rd_T48 x0 x4).f1) = 4611686018427387904 then (some 4611686018427387904) else (mandolineref02_Len.l0 k x0 (wrap64 ((wrap64 (x3 + ((rd_T48 x0 x4).f1))) - ((rd_T48 x0 x4).f0))) (wrap64 (x4 + 1)))) else (none)) else (some x3)
def mandolineref02_Len.f (k : Nat) (l0 : List (S48)) : Option (Int) := mandolineref02_Len.l0 k l0 0 0
set_option maxHeartbeats 8000000 in
set_option maxRecDepth 100000 in
theorem mandolineref02_Len.calls (k : Nat) (A0 : Option Addr) (c0 : Nat) (l0 : List (S48)) (r : Int) (w : World) (hr0 : Kd.C k48 w A0 l0.length l0) (hc0 : l0.length ≤ c0) (h : mandolineref02_Len.f k l0 = some r) :
  Calls Try.prog 54 #[.slice A0 l0.length c0] w fun e w' => e = .returned (.int .i64 r) ∧ Drawn0 w w' := by
 have HR0 := Aside0.mk hr0
 have HC0 := Aside0.mk hc0
 clear hr0 hc0
 unfold mandolineref02_Len.f at h
 have H := h
 clear h
 have H' := Aside0.mk H
 clear H
 go_enter Try.func54, Try.ntmps54
 go_wp2
 repeat (go_quiet (fail); try go_wp2)
 go_loopg [3, 4] k (fun kq v3 v4 w' => ∃ (x3_1 : Int) (x4_1 : Int), v3 = .int .i64 x3_1 ∧ v4 = .int .i64 x4_1 ∧ Aside0 (mandolineref02_Len.l0 kq l0 x3_1 x4_1 = some r) ∧ Aside0 (kq ≤ k) ∧ Drawn0 w w')
 case atStart => exact ⟨(0), (0), eR, eR, H', ⟨Nat.le_refl _⟩, by repeat (first | exact Drawn0.refl _ | apply Drawn0.step)⟩
 case round =>
  clear H'
  obtain ⟨x3_1, x4_1, rfl, rfl, HA, HK1, ⟨m1, rfl⟩⟩ := hrel
  cases gk with
  | zero => exact absurd HA.out (by simp [mandolineref02_Len.l0])
  | succ k1 =>
   have H := HA.out
   clear HA
   simp only [mandolineref02_Len.l0] at H
   by_cases c2 : x4_1 < (l0.length : Int)
   ·rw [if_pos c2] at H
    have c2b0 : decide (x4_1 < (l0.length : Int)) = true := decide_eq_true c2
    clear c2
    by_cases c3 : 0 ≤ x4_1
    ·rw [if_pos c3] at H
     have c3b0 : decide (0 ≤ x4_1) = true := decide_eq_true c3
     clear c3
     by_cases c4 : ((rd_T48 l0 x4_1).f1) = 4611686018427387904
     ·rw [if_pos c4] at H
      have c4b0 : (((rd_T48 l0 x4_1).f1) == 4611686018427387904) = true := beq_iff_eq.mpr c4
      have c4b1 : (((rd_T48 l0 x4_1).f1) != 4611686018427387904) = false := bne_eq_false_iff_eq.mpr c4
      clear c4
      obtain rfl := Option.some.inj H
      have p411 : 0 ≤ (x4_1 : Int) := of_decide_eq_true (by first | (with_reducible assumption) | assumption)
      have q411 : x4_1 < (l0.length : Int) := of_decide_eq_true (by first | (with_reducible assumption) | assumption)
      obtain ⟨ad411, e411, hx411_0, hx411_1⟩ := at_T48 HR0.out x4_1 p411 q411
      cases e411
      replace p411 := eq_true p411
      replace q411 := eq_true q411
      go_wp2
      repeat (go_quiet (fail); try go_wp2)
      go_ret
      exact ⟨by first | rfl | (simp; done) | (simp [*]; done), by repeat (first | exact Drawn0.refl _ | apply Drawn0.step)⟩
     ·rw [if_neg c4] at H
      have c4b0 : (((rd_T48 l0 x4_1).f1) == 4611686018427387904) = false := beq_eq_false_iff_ne.mpr c4
      have c4b1 : (((rd_T48 l0 x4_1).f1) != 4611686018427387904) = true := bne_iff_ne.mpr c4
      have H' := Aside0.mk H
      clear H
      have p411 : 0 ≤ (x4_1 : Int) := of_decide_eq_true (by first | (with_reducible assumption) | assumption)
      have q411 : x4_1 < (l0.length : Int) := of_decide_eq_true (by first | (with_reducible assumption) | assumption)
      obtain ⟨ad411, e411, hx411_0, hx411_1⟩ := at_T48 HR0.out x4_1 p411 q411
      cases e411
      replace p411 := eq_true p411
      replace q411 := eq_true q411
      have p412 : 0 ≤ (x4_1 : Int) := of_decide_eq_true (by first | (with_reducible assumption) | assumption)
      have q412 : x4_1 < (l0.length : Int) := of_decide_eq_true (by first | (with_reducible assumption) | assumption)
      obtain ⟨ad412, e412, hx412_0, hx412_1⟩ := at_T48 HR0.out x4_1 p412 q412
      obtain rfl : ad411 = ad412 := (by injection e412)
      replace p412 := eq_true p412
      replace q412 := eq_true q412
      have p413 : 0 ≤ (x4_1 : Int) := of_decide_eq_true (by first | (with_reducible assumption) | assumption)
      have q413 : x4_1 < (l0.length : Int) := of_decide_eq_true (by first | (with_reducible assumption) | assumption)
      obtain ⟨ad413, e413, hx413_0, hx413_1⟩ := at_T48 HR0.out x4_1 p413 q413
      obtain rfl : ad411 = ad413 := (by injection e413)
      replace p413 := eq_true p413
      replace q413 := eq_true q413
      go_wp2
      repeat (go_quiet (fail); try go_wp2)
      go_roundg k1
      case measure => have := HK1.out; omega
      case rel => exact ⟨(wrap64 ((wrap64 (x3_1 + ((rd_T48 l0 x4_1).f1))) - ((rd_T48 l0 x4_1).f0))), (wrap64 (x4_1 + 1)), eR, eR, H', ⟨by have := HK1.out; omega⟩, by repeat (first | exact Drawn0.refl _ | apply Drawn0.step)⟩
    ·rw [if_neg c3] at H
     exact absurd H (by simp)
   ·rw [if_neg c2] at H
    have c2b0 : decide (x4_1 < (l0.length : Int)) = false := decide_eq_false c2
    clear c2
    obtain rfl := Option.some.inj H
    go_wp2
    repeat (go_quiet (fail); try go_wp2)
    go_ret
    exact ⟨by first | rfl | (simp; done) | (simp [*]; done), by repeat (first | exact Drawn0.refl _ | apply Drawn0.step)⟩
def mandolineref35_Waste.f (k : Nat) (a0_0 : Int) (a0_1 : Int) (l1 : List (S48)) : Option (Int) := (mandolineref01_Right.f a0_0 a0_1).bind fun t415 => (if t415 = true then ((mandolineref02_Less.f k (([(⟨a0_0, a0_1⟩ : S48)] : List (S48))) l1).bind fun t419 => ((mandolineref02_Len.f k t419).bind fun t422 => (some t422))) else (some 0))
set_option maxHeartbeats 8000000 in
set_option maxRecDepth 100000 in
theorem mandolineref35_Waste.calls (k : Nat) (a0_0 : Int) (a0_1 : Int) (A1 : Option Addr) (c1 : Nat) (l1 : List (S48)) (r : Int) (w : World) (hr1 : Kd.C k48 w A1 l1.length l1) (hc1 : l1.length ≤ c1) (h : mandolineref35_Waste.f k a0_0 a0_1 l1 = some r) :
  Calls Try.prog 24 #[.agg #[.int .i64 a0_0, .int .i64 a0_1], .slice A1 l1.length c1] w fun e w' => e = .returned (.int .i64 r) ∧ Below w.heap.size w w' := by
 have hu48 := Try.underlying48
 have HR1 := Aside0.mk hr1
 have HC1 := Aside0.mk hc1
 clear hr1 hc1
 have HB := Aside0.mk (Below.refl w.heap.size w)
 unfold mandolineref35_Waste.f at h
 have H := h
 clear h
 obtain ⟨t415, A3, H⟩ := bO H
 by_cases c4 : t415 = true
 ·subst c4
  rw [if_pos rfl] at H
  obtain ⟨y416, hy416⟩ : ∃ y_ : List (S48), y_ = (([(⟨a0_0, a0_1⟩ : S48)] : List (S48))) := ⟨_, rfl⟩
  replace H : ((mandolineref02_Less.f k y416 l1).bind fun t419 => ((mandolineref02_Len.f k t419).bind fun t422 => (some t422))) = some r := by first | (rw [hy416]; with_reducible exact H) | (have H2_ := (Option.bind_some _ _).symm.trans H; rw [hy416]; with_reducible exact H2_) | (have H2_ := (Option.bind_some _ _).symm.trans H; with_reducible exact H2_) | with_reducible exact H | (rw [hy416]; exact H) | exact H
  have Ny416 := Aside0.mk hy416
  clear hy416
  obtain ⟨t419, A5, H⟩ := bO H
  obtain ⟨t422, A6, H⟩ := bO H
  obtain rfl := Option.some.inj H
  go_enter Try.func24, Try.ntmps24
  go_wp2_with (first | ((with_reducible refine gate_dst (N := 2) rfl ?_); refine bX (N := 2) (cs := #[.int .i64 a0_0, .int .i64 a0_1]) (t := 48) ?_; intro gb414 hg w7 hbox hb; have BK414 := Aside0.mk (hbox); have GE414 := sG HB hg; replace HB := sL HB hb; clear hb hbox hg; obtain ⟨hcz8_0, hcz8_1⟩ := q2 BK414; obtain ⟨hfz8_0, hfz8_1⟩ := z2 BK414) | ((with_reducible refine gate_callee (f := 53) rfl ?_); refine gL (some 6) rfl rfl Try.func53 #[.agg #[.int .i64 a0_0, .int .i64 a0_1]] rfl ?_; (with_reducible refine (mandolineref01_Right.calls a0_0 a0_1 true _ A3.out).mono ?_); rintro e w9 ⟨rfl, hb⟩; refine ⟨_, rfl, ?_⟩; replace BK414 := sB BK414 hb; replace HB := sL HB hb; (try clear hb); (try clear hb2); (try clear hk); (try clear hi); obtain ⟨hcz10_0, hcz10_1⟩ := q2 BK414; obtain ⟨hfz10_0, hfz10_1⟩ := z2 BK414) | ((with_reducible refine gate_dst (N := 9) rfl ?_); refine Kd.R_lit k48 _ 48 ?hg (N := 9) ?hd (xs := ([(⟨a0_0, a0_1⟩ : S48)] : List (S48))) (inner := [.int .i64 a0_0, .int .i64 a0_1]) (ok := fun _ => True) (okp := fun _ => True) ?hr ?hp (fun _ hk => hk) trivial (Below.refl _ _) (Nat.le_refl _) (by simp) ?_; (case hd => rfl); (case hg => rfl); (case hr => first | (go_simp; done) | (go_simp; rfl)); (case hp => exact (Reps.c2 (show Kd.M k48 _ _ _ (⟨a0_0, a0_1⟩ : S48) [.int .i64 a0_0, .int .i64 a0_1] from (k48_mkM _ _ _ (⟨a0_0, a0_1⟩ : S48) )) (Reps.none _ _))); intro v417 w11 ho12 hb hg_ hnew_; clear hg_ hnew_; (first | rw [← Ny416.out] at ho12 | (simp only [Int.reduceToNat] at ho12; rw [← Ny416.out] at ho12)); have HO418 := Aside0.mk (Kd.R_lower (Kd.R_newB ho12 (g := gb414) (o := .cells #[.int .i64 a0_0, .int .i64 a0_1] 48 (0, 0)) (bU BK414)) (below_size (lU HB))); replace BK414 := sB BK414 hb; replace HB := sL HB hb; clear hb ho12; obtain ⟨Ao13, co13, eo13⟩ := Kd.R_slice HO418.out; subst eo13) | ((with_reducible refine gate_callee (f := 38) rfl ?_); refine gL (some 11) rfl rfl Try.func38 #[.slice Ao13 y416.length co13, .slice A1 l1.length c1] rfl ?_; (with_reducible refine (mandolineref02_Less.calls k _ _ y416 _ _ l1 t419 _ (cU (rC HO418)) (rN HO418) (cU (Kd.C_below HR1.out HB.out)) HC1.out A5.out).mono ?_); rintro e w14 ⟨v420, rfl, ho0, hb⟩; refine ⟨_, rfl, ?_⟩; have HO421 := Aside0.mk (Kd.R_lower (Kd.R_newB (Kd.R_new' ho0 (Kd.R_lt (rU HO418.out))) (g := gb414) (o := .cells #[.int .i64 a0_0, .int .i64 a0_1] 48 (0, 0)) (bU BK414)) (below_size (lU HB))); replace HO418 := rE HO418 ho0 hb; replace BK414 := sB BK414 hb; replace HB := sL HB hb; (try clear hb); (try clear hb2); (try clear hk); (try clear hi); (try clear ho0); obtain ⟨Ao15, co15, eo15⟩ := Kd.R_slice HO421.out; subst eo15) | ((with_reducible refine gate_callee (f := 54) rfl ?_); refine gL (some 12) rfl rfl Try.func54 #[.slice Ao15 t419.length co15] rfl ?_; (with_reducible refine (mandolineref02_Len.calls k _ _ t419 t422 _ (cU (rC HO421)) (rN HO421) A6.out).mono ?_); rintro e w' ⟨rfl, ⟨nd, rfl⟩⟩; refine ⟨_, rfl, ?_⟩))
  go_ret
  exact ⟨eW, lU HB⟩
 ·replace c4 := Bool.eq_false_iff.mpr c4
  subst c4
  rw [if_neg (show ¬ (false = true) by decide)] at H
  obtain rfl := Option.some.inj H
  go_enter Try.func24, Try.ntmps24
  go_wp2_with (first | ((with_reducible refine gate_dst (N := 2) rfl ?_); refine bX (N := 2) (cs := #[.int .i64 a0_0, .int .i64 a0_1]) (t := 48) ?_; intro gb414 hg w16 hbox hb; have BK414 := Aside0.mk (hbox); have GE414 := sG HB hg; replace HB := sL HB hb; clear hb hbox hg; obtain ⟨hcz17_0, hcz17_1⟩ := q2 BK414; obtain ⟨hfz17_0, hfz17_1⟩ := z2 BK414) | ((with_reducible refine gate_callee (f := 53) rfl ?_); refine gL (some 6) rfl rfl Try.func53 #[.agg #[.int .i64 a0_0, .int .i64 a0_1]] rfl ?_; (with_reducible refine (mandolineref01_Right.calls a0_0 a0_1 false _ A3.out).mono ?_); rintro e w18 ⟨rfl, hb⟩; refine ⟨_, rfl, ?_⟩; replace BK414 := sB BK414 hb; replace HB := sL HB hb; (try clear hb); (try clear hb2); (try clear hk); (try clear hi)))
  go_ret
  exact ⟨eW, lU HB⟩
end Go.Proofs.Ytnaalaakhdbfbaa.XP
