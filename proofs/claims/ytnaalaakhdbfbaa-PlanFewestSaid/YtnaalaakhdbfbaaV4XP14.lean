-- Go functions as plain functions, and that the code comes to these answers (printed by a program).
import Derived.Test.YtnaalaakhdbfbaaV4XP0
import Derived.Test.YtnaalaakhdbfbaaV4XP13
namespace Go.Proofs.Ytnaalaakhdbfbaa.XP
open Go.RowKit Go.Proofs.YtnaalaakhdbfbaaW.PrintWords Go.Proofs.YtnaalaakhdbfbaaW.PrintLast Go.Proofs.YtnaalaakhdbfbaaW.PrintMore
attribute [local go_sem] max2_int min2_int max_two min_two max_three min_three max_four min_four
set_option linter.unusedVariables false
set_option linter.unusedSimpArgs false
def mandolineref02_In.l0 : Nat → List (S48) → Int → Int → Option (Bool)
 | 0, _, _, _ => none
 | k + 1, x0, x1, x5 => if x5 < (x0.length : Int) then (if 0 ≤ x5 then ((mandolineref01_Right.f ((rd_T48 x0 x5).f0) ((rd_T48 x0 x5).f1)).bind fun t339 => (if t339 = true then (if x1 ≥ ((rd_T48 x0 x5).f0) then (if x1 < ((rd_T48 x0 x5).f1) then (some true) else (mandolineref02_In.l0 k x0 x1 (wrap64 (x5 + 1)))) else (mandolineref02_In.l0 k x0 x1 (wrap64 (x5 + 1)))) else (mandolineref02_In.l0 k x0 x1 (wrap64 (x5 + 1))))) else (none)) else (some false)
def mandolineref02_In.f (k : Nat) (l0 : List (S48)) (a1 : Int) : Option (Bool) := mandolineref02_In.l0 k l0 a1 0
set_option maxHeartbeats 8000000 in
set_option maxRecDepth 100000 in
theorem mandolineref02_In.calls (k : Nat) (A0 : Option Addr) (c0 : Nat) (l0 : List (S48)) (a1 : Int) (r : Bool) (w : World) (hr0 : Kd.C k48 w A0 l0.length l0) (hc0 : l0.length ≤ c0) (h : mandolineref02_In.f k l0 a1 = some r) :
  Calls Try.prog 63 #[.slice A0 l0.length c0, .int .i64 a1] w fun e w' => e = .returned (.bool r) ∧ Below w.heap.size w w' := by
 have hu48 := Try.underlying48
 have HR0 := Aside0.mk hr0
 have HC0 := Aside0.mk hc0
 clear hr0 hc0
 have HB := Aside0.mk (Below.refl w.heap.size w)
 unfold mandolineref02_In.f at h
 have H := h
 clear h
 have H' := Aside0.mk H
 clear H
 go_enter Try.func63, Try.ntmps63
 go_wp2
 go_loopg [5] k (fun kq v5 w' => ∃ (x5_1 : Int), v5 = .int .i64 x5_1 ∧ Aside0 (mandolineref02_In.l0 kq l0 a1 x5_1 = some r) ∧ Aside0 (kq ≤ k) ∧ Aside0 (Below w.heap.size w w'))
 case atStart => exact ⟨(0), eR, H', ⟨Nat.le_refl _⟩, ⟨lU HB⟩⟩
 case round =>
  clear H'
  try clear p2
  obtain ⟨x5_1, rfl, HA, HK1, HB⟩ := hrel
  cases gk with
  | zero => exact absurd HA.out (by simp [mandolineref02_In.l0])
  | succ k1 =>
   have H := HA.out
   clear HA
   simp only [mandolineref02_In.l0] at H
   by_cases c3 : x5_1 < (l0.length : Int)
   ·rw [if_pos c3] at H
    have c3b0 : decide (x5_1 < (l0.length : Int)) = true := decide_eq_true c3
    clear c3
    by_cases c4 : 0 ≤ x5_1
    ·rw [if_pos c4] at H
     have c4b0 : decide (0 ≤ x5_1) = true := decide_eq_true c4
     clear c4
     obtain ⟨t339, A5, H⟩ := bO H
     by_cases c6 : t339 = true
     ·subst c6
      rw [if_pos rfl] at H
      by_cases c7 : a1 ≥ ((rd_T48 l0 x5_1).f0)
      ·rw [if_pos c7] at H
       have c7b0 : decide (((rd_T48 l0 x5_1).f0) ≤ a1) = true := decide_eq_true c7
       clear c7
       by_cases c8 : a1 < ((rd_T48 l0 x5_1).f1)
       ·rw [if_pos c8] at H
        have c8b0 : decide (a1 < ((rd_T48 l0 x5_1).f1)) = true := decide_eq_true c8
        clear c8
        obtain rfl := Option.some.inj H
        have p338 : 0 ≤ (x5_1 : Int) := of_decide_eq_true (by first | (with_reducible assumption) | assumption)
        have q338 : x5_1 < (l0.length : Int) := of_decide_eq_true (by first | (with_reducible assumption) | assumption)
        obtain ⟨ad338, e338, hx338_0, hx338_1⟩ := at_T48 HR0.out x5_1 p338 q338
        cases e338
        replace hx338_0 := cB HB hx338_0
        replace hx338_1 := cB HB hx338_1
        replace p338 := eq_true p338
        replace q338 := eq_true q338
        go_wp2_with (first | ((with_reducible refine gate_callee (f := 53) rfl ?_); refine gL (some 16) rfl rfl Try.func53 #[.agg #[.int .i64 ((rd_T48 l0 x5_1).f0), .int .i64 ((rd_T48 l0 x5_1).f1)]] rfl ?_; (with_reducible refine (mandolineref01_Right.calls ((rd_T48 l0 x5_1).f0) ((rd_T48 l0 x5_1).f1) true _ A5.out).mono ?_); rintro e w9 ⟨rfl, hb⟩; refine ⟨_, rfl, ?_⟩; replace HB := sL HB hb; (try clear hb); (try clear hb2); (try clear hk); (try clear hi); have p340 : 0 ≤ (x5_1 : Int) := of_decide_eq_true (by first | (with_reducible assumption) | assumption); have q340 : x5_1 < (l0.length : Int) := of_decide_eq_true (by first | (with_reducible assumption) | assumption); obtain ⟨ad340, e340, hx340_0, hx340_1⟩ := at_T48 HR0.out x5_1 p340 q340; obtain rfl : ad338 = ad340 := (by injection e340); replace hx340_0 := (HB.out.cell (World.block_lt_of_cell? w _ hx340_0)).trans hx340_0; replace hx340_1 := (HB.out.cell (World.block_lt_of_cell? w _ hx340_1)).trans hx340_1; replace p340 := eq_true p340; replace q340 := eq_true q340; have p341 : 0 ≤ (x5_1 : Int) := of_decide_eq_true (by first | (with_reducible assumption) | assumption); have q341 : x5_1 < (l0.length : Int) := of_decide_eq_true (by first | (with_reducible assumption) | assumption); obtain ⟨ad341, e341, hx341_0, hx341_1⟩ := at_T48 HR0.out x5_1 p341 q341; obtain rfl : ad338 = ad341 := (by injection e341); replace hx341_0 := (HB.out.cell (World.block_lt_of_cell? w _ hx341_0)).trans hx341_0; replace hx341_1 := (HB.out.cell (World.block_lt_of_cell? w _ hx341_1)).trans hx341_1; replace p341 := eq_true p341; replace q341 := eq_true q341))
        go_ret
        exact ⟨eW, lU HB⟩
       ·rw [if_neg c8] at H
        have c8b0 : decide (a1 < ((rd_T48 l0 x5_1).f1)) = false := decide_eq_false c8
        clear c8
        have H' := Aside0.mk H
        clear H
        have p338 : 0 ≤ (x5_1 : Int) := of_decide_eq_true (by first | (with_reducible assumption) | assumption)
        have q338 : x5_1 < (l0.length : Int) := of_decide_eq_true (by first | (with_reducible assumption) | assumption)
        obtain ⟨ad338, e338, hx338_0, hx338_1⟩ := at_T48 HR0.out x5_1 p338 q338
        cases e338
        replace hx338_0 := cB HB hx338_0
        replace hx338_1 := cB HB hx338_1
        replace p338 := eq_true p338
        replace q338 := eq_true q338
        go_wp2_with (first | ((with_reducible refine gate_callee (f := 53) rfl ?_); refine gL (some 16) rfl rfl Try.func53 #[.agg #[.int .i64 ((rd_T48 l0 x5_1).f0), .int .i64 ((rd_T48 l0 x5_1).f1)]] rfl ?_; (with_reducible refine (mandolineref01_Right.calls ((rd_T48 l0 x5_1).f0) ((rd_T48 l0 x5_1).f1) true _ A5.out).mono ?_); rintro e w10 ⟨rfl, hb⟩; refine ⟨_, rfl, ?_⟩; replace HB := sL HB hb; (try clear hb); (try clear hb2); (try clear hk); (try clear hi); have p340 : 0 ≤ (x5_1 : Int) := of_decide_eq_true (by first | (with_reducible assumption) | assumption); have q340 : x5_1 < (l0.length : Int) := of_decide_eq_true (by first | (with_reducible assumption) | assumption); obtain ⟨ad340, e340, hx340_0, hx340_1⟩ := at_T48 HR0.out x5_1 p340 q340; obtain rfl : ad338 = ad340 := (by injection e340); replace hx340_0 := (HB.out.cell (World.block_lt_of_cell? w _ hx340_0)).trans hx340_0; replace hx340_1 := (HB.out.cell (World.block_lt_of_cell? w _ hx340_1)).trans hx340_1; replace p340 := eq_true p340; replace q340 := eq_true q340; have p341 : 0 ≤ (x5_1 : Int) := of_decide_eq_true (by first | (with_reducible assumption) | assumption); have q341 : x5_1 < (l0.length : Int) := of_decide_eq_true (by first | (with_reducible assumption) | assumption); obtain ⟨ad341, e341, hx341_0, hx341_1⟩ := at_T48 HR0.out x5_1 p341 q341; obtain rfl : ad338 = ad341 := (by injection e341); replace hx341_0 := (HB.out.cell (World.block_lt_of_cell? w _ hx341_0)).trans hx341_0; replace hx341_1 := (HB.out.cell (World.block_lt_of_cell? w _ hx341_1)).trans hx341_1; replace p341 := eq_true p341; replace q341 := eq_true q341))
        go_roundg k1
        case measure => have := HK1.out; omega
        case rel => exact ⟨(wrap64 (x5_1 + 1)), eR, H', ⟨by have := HK1.out; omega⟩, ⟨lU HB⟩⟩
      ·rw [if_neg c7] at H
       have c7b0 : decide (((rd_T48 l0 x5_1).f0) ≤ a1) = false := decide_eq_false c7
       clear c7
       have H' := Aside0.mk H
       clear H
       have p338 : 0 ≤ (x5_1 : Int) := of_decide_eq_true (by first | (with_reducible assumption) | assumption)
       have q338 : x5_1 < (l0.length : Int) := of_decide_eq_true (by first | (with_reducible assumption) | assumption)
       obtain ⟨ad338, e338, hx338_0, hx338_1⟩ := at_T48 HR0.out x5_1 p338 q338
       cases e338
       replace hx338_0 := cB HB hx338_0
       replace hx338_1 := cB HB hx338_1
       replace p338 := eq_true p338
       replace q338 := eq_true q338
       go_wp2_with (first | ((with_reducible refine gate_callee (f := 53) rfl ?_); refine gL (some 16) rfl rfl Try.func53 #[.agg #[.int .i64 ((rd_T48 l0 x5_1).f0), .int .i64 ((rd_T48 l0 x5_1).f1)]] rfl ?_; (with_reducible refine (mandolineref01_Right.calls ((rd_T48 l0 x5_1).f0) ((rd_T48 l0 x5_1).f1) true _ A5.out).mono ?_); rintro e w11 ⟨rfl, hb⟩; refine ⟨_, rfl, ?_⟩; replace HB := sL HB hb; (try clear hb); (try clear hb2); (try clear hk); (try clear hi); have p340 : 0 ≤ (x5_1 : Int) := of_decide_eq_true (by first | (with_reducible assumption) | assumption); have q340 : x5_1 < (l0.length : Int) := of_decide_eq_true (by first | (with_reducible assumption) | assumption); obtain ⟨ad340, e340, hx340_0, hx340_1⟩ := at_T48 HR0.out x5_1 p340 q340; obtain rfl : ad338 = ad340 := (by injection e340); replace hx340_0 := (HB.out.cell (World.block_lt_of_cell? w _ hx340_0)).trans hx340_0; replace hx340_1 := (HB.out.cell (World.block_lt_of_cell? w _ hx340_1)).trans hx340_1; replace p340 := eq_true p340; replace q340 := eq_true q340))
       go_roundg k1
       case measure => have := HK1.out; omega
       case rel => exact ⟨(wrap64 (x5_1 + 1)), eR, H', ⟨by have := HK1.out; omega⟩, ⟨lU HB⟩⟩
     ·replace c6 := Bool.eq_false_iff.mpr c6
      subst c6
      rw [if_neg (show ¬ (false = true) by decide)] at H
      have H' := Aside0.mk H
      clear H
      have p338 : 0 ≤ (x5_1 : Int) := of_decide_eq_true (by first | (with_reducible assumption) | assumption)
      have q338 : x5_1 < (l0.length : Int) := of_decide_eq_true (by first | (with_reducible assumption) | assumption)
      obtain ⟨ad338, e338, hx338_0, hx338_1⟩ := at_T48 HR0.out x5_1 p338 q338
      cases e338
      replace hx338_0 := cB HB hx338_0
      replace hx338_1 := cB HB hx338_1
      replace p338 := eq_true p338
      replace q338 := eq_true q338
      go_wp2_with (first | ((with_reducible refine gate_callee (f := 53) rfl ?_); refine gL (some 16) rfl rfl Try.func53 #[.agg #[.int .i64 ((rd_T48 l0 x5_1).f0), .int .i64 ((rd_T48 l0 x5_1).f1)]] rfl ?_; (with_reducible refine (mandolineref01_Right.calls ((rd_T48 l0 x5_1).f0) ((rd_T48 l0 x5_1).f1) false _ A5.out).mono ?_); rintro e w12 ⟨rfl, hb⟩; refine ⟨_, rfl, ?_⟩; replace HB := sL HB hb; (try clear hb); (try clear hb2); (try clear hk); (try clear hi)))
      go_roundg k1
      case measure => have := HK1.out; omega
      case rel => exact ⟨(wrap64 (x5_1 + 1)), eR, H', ⟨by have := HK1.out; omega⟩, ⟨lU HB⟩⟩
    ·rw [if_neg c4] at H
     exact absurd H (by simp)
   ·rw [if_neg c3] at H
    have c3b0 : decide (x5_1 < (l0.length : Int)) = false := decide_eq_false c3
    clear c3
    obtain rfl := Option.some.inj H
    go_wp2
    go_ret
    exact ⟨eW, lU HB⟩
end Go.Proofs.Ytnaalaakhdbfbaa.XP
