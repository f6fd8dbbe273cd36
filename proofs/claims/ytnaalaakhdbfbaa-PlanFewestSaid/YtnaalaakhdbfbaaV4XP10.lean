-- Go functions as plain functions, and that the code comes to these answers (printed by a program).
import Derived.Test.YtnaalaakhdbfbaaV4XP0
namespace Go.Proofs.Ytnaalaakhdbfbaa.XP
open Go.RowKit Go.Proofs.YtnaalaakhdbfbaaW.PrintWords Go.Proofs.YtnaalaakhdbfbaaW.PrintLast Go.Proofs.YtnaalaakhdbfbaaW.PrintMore
attribute [local go_sem] max2_int min2_int max_two min_two max_three min_three max_four min_four
set_option linter.unusedVariables false
set_option linter.unusedSimpArgs false
mutual
def plan_reach.l0 : Nat → List (S48) → Int → Int → Int → Int → List (S48) → Int → Int → Int → Int → Int → Int → Int → Int → Int → Int → Int → Int → Option (Int)
 | 0, _, _, _, _, _, _, _, _, _, _, _, _, _, _, _, _, _, _ => none
 | k + 1, x0, x1, x7, x8, x9, x18, x19, x20, x211000, x211001, x211002, x211003, x211004, x211005, x211006, x211007, x211008, x211009 => if x20 < x19 then (if 0 ≤ x20 then (if x20 < (x18.length : Int) then (if x20 > 0 then (if 0 ≤ (wrap64 (x20 - 1)) then (if (wrap64 (x20 - 1)) < (x0.length : Int) then (plan_reach.j1 k x0 x1 x7 x8 (wrap64 (x9 + (wrap64 (((rd_T48 x18 x20).f0) - ((rd_T48 x0 (wrap64 (x20 - 1))).f1))))) x18 x19 x20 x211000 x211001 x211002 x211003 x211004 x211005 x211006 x211007 x211008 x211009 ((rd_T48 x18 x20).f0) ((rd_T48 x18 x20).f1)) else (none)) else (none)) else (plan_reach.j1 k x0 x1 x7 x8 x9 x18 x19 x20 x211000 x211001 x211002 x211003 x211004 x211005 x211006 x211007 x211008 x211009 ((rd_T48 x18 x20).f0) ((rd_T48 x18 x20).f1))) else (none)) else (none)) else (some x8)
def plan_reach.j1 : Nat → List (S48) → Int → Int → Int → Int → List (S48) → Int → Int → Int → Int → Int → Int → Int → Int → Int → Int → Int → Int → Int → Int → Option (Int)
 | 0, _, _, _, _, _, _, _, _, _, _, _, _, _, _, _, _, _, _, _, _ => none
 | k + 1, x0, x1, x7, x8, x9, x18, x19, x20, x211000, x211001, x211002, x211003, x211004, x211005, x211006, x211007, x211008, x211009, x214000, x214001 => if x9 > x211001 then (plan_reach.j2 k x0 x1 x7 x8 x9 x18 x19 x20 true x211000 x211001 x211002 x211003 x211004 x211005 x211006 x211007 x211008 x211009 x214000 x214001) else (plan_reach.j2 k x0 x1 x7 x8 x9 x18 x19 x20 (decide (x214000 ≥ x1)) x211000 x211001 x211002 x211003 x211004 x211005 x211006 x211007 x211008 x211009 x214000 x214001)
def plan_reach.j2 : Nat → List (S48) → Int → Int → Int → Int → List (S48) → Int → Int → Bool → Int → Int → Int → Int → Int → Int → Int → Int → Int → Int → Int → Int → Option (Int)
 | 0, _, _, _, _, _, _, _, _, _, _, _, _, _, _, _, _, _, _, _, _, _ => none
 | k + 1, x0, x1, x7, x8, x9, x18, x19, x20, x47, x211000, x211001, x211002, x211003, x211004, x211005, x211006, x211007, x211008, x211009, x214000, x214001 => if x47 = true then (some x8) else (if x214001 = 4611686018427387904 then (plan_reach.j3 k x0 x1 x7 x8 x9 x18 x19 x20 (x1 == 4611686018427387904) x211000 x211001 x211002 x211003 x211004 x211005 x211006 x211007 x211008 x211009 x214000 x214001) else (plan_reach.j3 k x0 x1 x7 x8 x9 x18 x19 x20 false x211000 x211001 x211002 x211003 x211004 x211005 x211006 x211007 x211008 x211009 x214000 x214001))
def plan_reach.j3 : Nat → List (S48) → Int → Int → Int → Int → List (S48) → Int → Int → Bool → Int → Int → Int → Int → Int → Int → Int → Int → Int → Int → Int → Int → Option (Int)
 | 0, _, _, _, _, _, _, _, _, _, _, _, _, _, _, _, _, _, _, _, _, _ => none
 | k + 1, x0, x1, x7, x8, x9, x18, x19, x20, x54, x211000, x211001, x211002, x211003, x211004, x211005, x211006, x211007, x211008, x211009, x214000, x214001 => if x54 = true then (some 4611686018427387904) else (if (wrap64 ((mn x214001 x1) - x7)) > x211002 then (plan_reach.j4 k x0 x1 x7 x8 x9 (wrap64 (x7 + x211002)) x18 x19 x20 x211000 x211001 x211002 x211003 x211004 x211005 x211006 x211007 x211008 x211009 x214000 x214001) else (plan_reach.j4 k x0 x1 x7 x8 x9 (mn x214001 x1) x18 x19 x20 x211000 x211001 x211002 x211003 x211004 x211005 x211006 x211007 x211008 x211009 x214000 x214001))
def plan_reach.j4 : Nat → List (S48) → Int → Int → Int → Int → Int → List (S48) → Int → Int → Int → Int → Int → Int → Int → Int → Int → Int → Int → Int → Int → Int → Option (Int)
 | 0, _, _, _, _, _, _, _, _, _, _, _, _, _, _, _, _, _, _, _, _, _ => none
 | k + 1, x0, x1, x7, x8, x9, x12, x18, x19, x20, x211000, x211001, x211002, x211003, x211004, x211005, x211006, x211007, x211008, x211009, x214000, x214001 => if x12 < x214001 then (if x211000 = 0 then (none) else (plan_reach.j5 k x0 x1 x7 x8 x9 (wrap64 (x12 - (Int.tmod x12 x211000))) x18 x19 x20 x211000 x211001 x211002 x211003 x211004 x211005 x211006 x211007 x211008 x211009 x214000 x214001)) else (plan_reach.j5 k x0 x1 x7 x8 x9 x12 x18 x19 x20 x211000 x211001 x211002 x211003 x211004 x211005 x211006 x211007 x211008 x211009 x214000 x214001)
def plan_reach.j5 : Nat → List (S48) → Int → Int → Int → Int → Int → List (S48) → Int → Int → Int → Int → Int → Int → Int → Int → Int → Int → Int → Int → Int → Int → Option (Int)
 | 0, _, _, _, _, _, _, _, _, _, _, _, _, _, _, _, _, _, _, _, _, _ => none
 | k + 1, x0, x1, x7, x8, x9, x12, x18, x19, x20, x211000, x211001, x211002, x211003, x211004, x211005, x211006, x211007, x211008, x211009, x214000, x214001 => if x12 > x214000 then (if x12 < x214001 then (some x12) else (plan_reach.l0 k x0 x1 x7 x12 x9 x18 x19 (wrap64 (x20 + 1)) x211000 x211001 x211002 x211003 x211004 x211005 x211006 x211007 x211008 x211009)) else (if x12 < x214001 then (some x8) else (plan_reach.l0 k x0 x1 x7 x8 x9 x18 x19 (wrap64 (x20 + 1)) x211000 x211001 x211002 x211003 x211004 x211005 x211006 x211007 x211008 x211009))
end
def plan_reach.f (k : Nat) (l0 : List (S48)) (a1 : Int) (a2_0 : Int) (a2_1 : Int) (a2_2 : Int) (a2_3 : Int) (a2_4 : Int) (a2_5 : Int) (a2_6 : Int) (a2_7 : Int) (a2_8 : Int) (a2_9 : Int) : Option (Int) := if 0 < (l0.length : Int) then (plan_reach.l0 k l0 a1 ((rd_T48 l0 0).f0) ((rd_T48 l0 0).f0) 0 l0 (l0.length : Int) 0 a2_0 a2_1 a2_2 a2_3 a2_4 a2_5 a2_6 a2_7 a2_8 a2_9) else (none)
theorem plan_reach.mono_l : ∀ k, (∀ y0 y1 y2 y3 y4 y5 y6 y7 y8 y9 y10 y11 y12 y13 y14 y15 y16 y17, LeO (plan_reach.l0 k y0 y1 y2 y3 y4 y5 y6 y7 y8 y9 y10 y11 y12 y13 y14 y15 y16 y17) (plan_reach.l0 (k + 1) y0 y1 y2 y3 y4 y5 y6 y7 y8 y9 y10 y11 y12 y13 y14 y15 y16 y17)) ∧ (∀ y0 y1 y2 y3 y4 y5 y6 y7 y8 y9 y10 y11 y12 y13 y14 y15 y16 y17 y18 y19, LeO (plan_reach.j1 k y0 y1 y2 y3 y4 y5 y6 y7 y8 y9 y10 y11 y12 y13 y14 y15 y16 y17 y18 y19) (plan_reach.j1 (k + 1) y0 y1 y2 y3 y4 y5 y6 y7 y8 y9 y10 y11 y12 y13 y14 y15 y16 y17 y18 y19)) ∧ (∀ y0 y1 y2 y3 y4 y5 y6 y7 y8 y9 y10 y11 y12 y13 y14 y15 y16 y17 y18 y19 y20, LeO (plan_reach.j2 k y0 y1 y2 y3 y4 y5 y6 y7 y8 y9 y10 y11 y12 y13 y14 y15 y16 y17 y18 y19 y20) (plan_reach.j2 (k + 1) y0 y1 y2 y3 y4 y5 y6 y7 y8 y9 y10 y11 y12 y13 y14 y15 y16 y17 y18 y19 y20)) ∧ (∀ y0 y1 y2 y3 y4 y5 y6 y7 y8 y9 y10 y11 y12 y13 y14 y15 y16 y17 y18 y19 y20, LeO (plan_reach.j3 k y0 y1 y2 y3 y4 y5 y6 y7 y8 y9 y10 y11 y12 y13 y14 y15 y16 y17 y18 y19 y20) (plan_reach.j3 (k + 1) y0 y1 y2 y3 y4 y5 y6 y7 y8 y9 y10 y11 y12 y13 y14 y15 y16 y17 y18 y19 y20)) ∧ (∀ y0 y1 y2 y3 y4 y5 y6 y7 y8 y9 y10 y11 y12 y13 y14 y15 y16 y17 y18 y19 y20, LeO (plan_reach.j4 k y0 y1 y2 y3 y4 y5 y6 y7 y8 y9 y10 y11 y12 y13 y14 y15 y16 y17 y18 y19 y20) (plan_reach.j4 (k + 1) y0 y1 y2 y3 y4 y5 y6 y7 y8 y9 y10 y11 y12 y13 y14 y15 y16 y17 y18 y19 y20)) ∧ (∀ y0 y1 y2 y3 y4 y5 y6 y7 y8 y9 y10 y11 y12 y13 y14 y15 y16 y17 y18 y19 y20, LeO (plan_reach.j5 k y0 y1 y2 y3 y4 y5 y6 y7 y8 y9 y10 y11 y12 y13 y14 y15 y16 y17 y18 y19 y20) (plan_reach.j5 (k + 1) y0 y1 y2 y3 y4 y5 y6 y7 y8 y9 y10 y11 y12 y13 y14 y15 y16 y17 y18 y19 y20))
 | 0 => ⟨fun _ _ _ _ _ _ _ _ _ _ _ _ _ _ _ _ _ _ r h => by simp [plan_reach.l0] at h, fun _ _ _ _ _ _ _ _ _ _ _ _ _ _ _ _ _ _ _ _ r h => by simp [plan_reach.j1] at h, fun _ _ _ _ _ _ _ _ _ _ _ _ _ _ _ _ _ _ _ _ _ r h => by simp [plan_reach.j2] at h, fun _ _ _ _ _ _ _ _ _ _ _ _ _ _ _ _ _ _ _ _ _ r h => by simp [plan_reach.j3] at h, fun _ _ _ _ _ _ _ _ _ _ _ _ _ _ _ _ _ _ _ _ _ r h => by simp [plan_reach.j4] at h, fun _ _ _ _ _ _ _ _ _ _ _ _ _ _ _ _ _ _ _ _ _ r h => by simp [plan_reach.j5] at h⟩
 | k + 1 => by
  obtain ⟨ih0, ih1, ih2, ih3, ih4, ih5⟩ := plan_reach.mono_l k
  refine ⟨?_, ?_, ?_, ?_, ?_, ?_⟩
  ·intro y0 y1 y2 y3 y4 y5 y6 y7 y8 y9 y10 y11 y12 y13 y14 y15 y16 y17
   unfold plan_reach.l0
   repeat' first
   | with_reducible apply ih0
   | with_reducible apply ih1
   | with_reducible apply ih2
   | with_reducible apply ih3
   | with_reducible apply ih4
   | with_reducible apply ih5
   | with_reducible apply LeO.refl
   | with_reducible apply LeO.none
   | with_reducible refine LeO.ite ?_ ?_
   | with_reducible refine LeO.bind ?_ (fun _ => ?_)
  ·intro y0 y1 y2 y3 y4 y5 y6 y7 y8 y9 y10 y11 y12 y13 y14 y15 y16 y17 y18 y19
   unfold plan_reach.j1
   repeat' first
   | with_reducible apply ih0
   | with_reducible apply ih1
   | with_reducible apply ih2
   | with_reducible apply ih3
   | with_reducible apply ih4
   | with_reducible apply ih5
   | with_reducible apply LeO.refl
   | with_reducible apply LeO.none
   | with_reducible refine LeO.ite ?_ ?_
   | with_reducible refine LeO.bind ?_ (fun _ => ?_)
  ·intro y0 y1 y2 y3 y4 y5 y6 y7 y8 y9 y10 y11 y12 y13 y14 y15 y16 y17 y18 y19 y20
   unfold plan_reach.j2
   repeat' first
   | with_reducible apply ih0
   | with_reducible apply ih1
   | with_reducible apply ih2
   | with_reducible apply ih3
   | with_reducible apply ih4
   | with_reducible apply ih5
   | with_reducible apply LeO.refl
   | with_reducible apply LeO.none
   | with_reducible refine LeO.ite ?_ ?_
   | with_reducible refine LeO.bind ?_ (fun _ => ?_)
  ·intro y0 y1 y2 y3 y4 y5 y6 y7 y8 y9 y10 y11 y12 y13 y14 y15 y16 y17 y18 y19 y20
   unfold plan_reach.j3
   repeat' first
   | with_reducible apply ih0
   | with_reducible apply ih1
   | with_reducible apply ih2
   | with_reducible apply ih3
   | with_reducible apply ih4
   | with_reducible apply ih5
   | with_reducible apply LeO.refl
   | with_reducible apply LeO.none
   | with_reducible refine LeO.ite ?_ ?_
   | with_reducible refine LeO.bind ?_ (fun _ => ?_)
  ·intro y0 y1 y2 y3 y4 y5 y6 y7 y8 y9 y10 y11 y12 y13 y14 y15 y16 y17 y18 y19 y20
   unfold plan_reach.j4
   repeat' first
   | with_reducible apply ih0
   | with_reducible apply ih1
   | with_reducible apply ih2
   | with_reducible apply ih3
   | with_reducible apply ih4
   | with_reducible apply ih5
   | with_reducible apply LeO.refl
   | with_reducible apply LeO.none
   | with_reducible refine LeO.ite ?_ ?_
   | with_reducible refine LeO.bind ?_ (fun _ => ?_)
  ·intro y0 y1 y2 y3 y4 y5 y6 y7 y8 y9 y10 y11 y12 y13 y14 y15 y16 y17 y18 y19 y20
   unfold plan_reach.j5
   repeat' first
   | with_reducible apply ih0
   | with_reducible apply ih1
   | with_reducible apply ih2
   | with_reducible apply ih3
   | with_reducible apply ih4
   | with_reducible apply ih5
   | with_reducible apply LeO.refl
   | with_reducible apply LeO.none
   | with_reducible refine LeO.ite ?_ ?_
   | with_reducible refine LeO.bind ?_ (fun _ => ?_)
theorem plan_reach.mono : ∀ a0 a1 a2 a3 a4 a5 a6 a7 a8 a9 a10 a11 k, LeO (plan_reach.f k a0 a1 a2 a3 a4 a5 a6 a7 a8 a9 a10 a11) (plan_reach.f (k + 1) a0 a1 a2 a3 a4 a5 a6 a7 a8 a9 a10 a11) := by
 intro a0 a1 a2 a3 a4 a5 a6 a7 a8 a9 a10 a11 k
 obtain ⟨ih0, ih1, ih2, ih3, ih4, ih5⟩ := plan_reach.mono_l k
 unfold plan_reach.f
 repeat' first
   | with_reducible apply ih0
   | with_reducible apply ih1
   | with_reducible apply ih2
   | with_reducible apply ih3
   | with_reducible apply ih4
   | with_reducible apply ih5
   | with_reducible apply LeO.refl
   | with_reducible apply LeO.none
   | with_reducible refine LeO.ite ?_ ?_
   | with_reducible refine LeO.bind ?_ (fun _ => ?_)
set_option maxHeartbeats 8000000 in
set_option maxRecDepth 100000 in
theorem plan_reach.calls (k : Nat) (A0 : Option Addr) (c0 : Nat) (l0 : List (S48)) (a1 : Int) (a2_0 : Int) (a2_1 : Int) (a2_2 : Int) (a2_3 : Int) (a2_4 : Int) (a2_5 : Int) (a2_6 : Int) (a2_7 : Int) (a2_8 : Int) (a2_9 : Int) (r : Int) (w : World) (hr0 : Kd.C k48 w A0 l0.length l0) (hc0 : l0.length ≤ c0) (h : plan_reach.f k l0 a1 a2_0 a2_1 a2_2 a2_3 a2_4 a2_5 a2_6 a2_7 a2_8 a2_9 = some r) :
  Calls Try.prog 33 #[.slice A0 l0.length c0, .int .i64 a1, .agg #[.int .i64 a2_0, .int .i64 a2_1, .int .i64 a2_2, .int .i64 a2_3, .int .i64 a2_4, .int .i64 a2_5, .int .i64 a2_6, .int .i64 a2_7, .int .i64 a2_8, .int .i64 a2_9]] w fun e w' => e = .returned (.int .i64 r) ∧ Below w.heap.size w w' := by
 have hu24 := Try.underlying24
 have hu48 := Try.underlying48
 have HR0 := Aside0.mk hr0
 have HC0 := Aside0.mk hc0
 clear hr0 hc0
 have HB := Aside0.mk (Below.refl w.heap.size w)
 unfold plan_reach.f at h
 have H := h
 clear h
 by_cases c4 : 0 < (l0.length : Int)
 ·rw [if_pos c4] at H
  have c4b0 : decide (0 < (l0.length : Int)) = true := decide_eq_true c4
  have c4b1 : decide (0 < l0.length) = true := decide_eq_true (by omega)
  clear c4
  have H' := Aside0.mk H
  clear H
  go_enter Try.func33, Try.ntmps33
  go_wp2_with (first | ((with_reducible refine gate_dst (N := 5) rfl ?_); refine bX (N := 5) (cs := #[.int .i64 a2_0, .int .i64 a2_1, .int .i64 a2_2, .int .i64 a2_3, .int .i64 a2_4, .int .i64 a2_5, .int .i64 a2_6, .int .i64 a2_7, .int .i64 a2_8, .int .i64 a2_9]) (t := 24) ?_; intro gb210 hg w5 hbox hb; have BK210 := Aside0.mk (hbox); have GE210 := sG HB hg; replace HB := sL HB hb; clear hb hbox hg; have p211 : 0 ≤ (0 : Int) := (by omega); have q211 : 0 < (l0.length : Int) := of_decide_eq_true (by first | (with_reducible assumption) | assumption); obtain ⟨ad211, e211, hx211_0, hx211_1⟩ := at_T48 HR0.out 0 p211 q211; cases e211; have qi211 : (0 < l0.length) = True := eq_true (by omega); (try rw [show ((0 : Int)).toNat = 0 from rfl] at hx211_0); (try rw [show 0 * 2 = 0 from rfl] at hx211_0); (try rw [Addr.add_zero'] at hx211_0); (try rw [show ((0 : Int)).toNat = 0 from rfl] at hx211_1); (try rw [show 0 * 2 = 0 from rfl] at hx211_1); (try rw [Addr.add_zero'] at hx211_1); replace hx211_0 := (HB.out.cell (World.block_lt_of_cell? w _ hx211_0)).trans hx211_0; replace hx211_1 := (HB.out.cell (World.block_lt_of_cell? w _ hx211_1)).trans hx211_1; replace p211 := eq_true p211; replace q211 := eq_true q211))
  repeat (go_quiet (first | ((with_reducible refine gate_dst (N := 5) rfl ?_); refine bX (N := 5) (cs := #[.int .i64 a2_0, .int .i64 a2_1, .int .i64 a2_2, .int .i64 a2_3, .int .i64 a2_4, .int .i64 a2_5, .int .i64 a2_6, .int .i64 a2_7, .int .i64 a2_8, .int .i64 a2_9]) (t := 24) ?_; intro gb210 hg w5 hbox hb; have BK210 := Aside0.mk (hbox); have GE210 := sG HB hg; replace HB := sL HB hb; clear hb hbox hg; have p211 : 0 ≤ (0 : Int) := (by omega); have q211 : 0 < (l0.length : Int) := of_decide_eq_true (by first | (with_reducible assumption) | assumption); obtain ⟨ad211, e211, hx211_0, hx211_1⟩ := at_T48 HR0.out 0 p211 q211; cases e211; have qi211 : (0 < l0.length) = True := eq_true (by omega); (try rw [show ((0 : Int)).toNat = 0 from rfl] at hx211_0); (try rw [show 0 * 2 = 0 from rfl] at hx211_0); (try rw [Addr.add_zero'] at hx211_0); (try rw [show ((0 : Int)).toNat = 0 from rfl] at hx211_1); (try rw [show 0 * 2 = 0 from rfl] at hx211_1); (try rw [Addr.add_zero'] at hx211_1); replace hx211_0 := (HB.out.cell (World.block_lt_of_cell? w _ hx211_0)).trans hx211_0; replace hx211_1 := (HB.out.cell (World.block_lt_of_cell? w _ hx211_1)).trans hx211_1; replace p211 := eq_true p211; replace q211 := eq_true q211)); try go_wp2_with (first | ((with_reducible refine gate_dst (N := 5) rfl ?_); refine bX (N := 5) (cs := #[.int .i64 a2_0, .int .i64 a2_1, .int .i64 a2_2, .int .i64 a2_3, .int .i64 a2_4, .int .i64 a2_5, .int .i64 a2_6, .int .i64 a2_7, .int .i64 a2_8, .int .i64 a2_9]) (t := 24) ?_; intro gb210 hg w5 hbox hb; have BK210 := Aside0.mk (hbox); have GE210 := sG HB hg; replace HB := sL HB hb; clear hb hbox hg; have p211 : 0 ≤ (0 : Int) := (by omega); have q211 : 0 < (l0.length : Int) := of_decide_eq_true (by first | (with_reducible assumption) | assumption); obtain ⟨ad211, e211, hx211_0, hx211_1⟩ := at_T48 HR0.out 0 p211 q211; cases e211; have qi211 : (0 < l0.length) = True := eq_true (by omega); (try rw [show ((0 : Int)).toNat = 0 from rfl] at hx211_0); (try rw [show 0 * 2 = 0 from rfl] at hx211_0); (try rw [Addr.add_zero'] at hx211_0); (try rw [show ((0 : Int)).toNat = 0 from rfl] at hx211_1); (try rw [show 0 * 2 = 0 from rfl] at hx211_1); (try rw [Addr.add_zero'] at hx211_1); replace hx211_0 := (HB.out.cell (World.block_lt_of_cell? w _ hx211_0)).trans hx211_0; replace hx211_1 := (HB.out.cell (World.block_lt_of_cell? w _ hx211_1)).trans hx211_1; replace p211 := eq_true p211; replace q211 := eq_true q211)))
  go_loopg [8, 9, 20] k (fun kq v8 v9 v20 w' => ∃ (x8_1 : Int) (x9_1 : Int) (x20_1 : Int), v8 = .int .i64 x8_1 ∧ v9 = .int .i64 x9_1 ∧ v20 = .int .i64 x20_1 ∧ Aside0 (plan_reach.l0 kq l0 a1 ((rd_T48 l0 0).f0) x8_1 x9_1 l0 (l0.length : Int) x20_1 a2_0 a2_1 a2_2 a2_3 a2_4 a2_5 a2_6 a2_7 a2_8 a2_9 = some r) ∧ Aside0 (kq ≤ k) ∧ Aside0 (w'.heap[gb210]? = some (.cells #[.int .i64 a2_0, .int .i64 a2_1, .int .i64 a2_2, .int .i64 a2_3, .int .i64 a2_4, .int .i64 a2_5, .int .i64 a2_6, .int .i64 a2_7, .int .i64 a2_8, .int .i64 a2_9] 24 (0, 0))) ∧ Aside0 (Below w.heap.size w w'))
  case atStart => exact ⟨((rd_T48 l0 0).f0), (0), (0), eR, eR, eR, H', ⟨Nat.le_refl _⟩, ⟨bU BK210⟩, ⟨lU HB⟩⟩
  case round =>
   clear H'
   try clear p2
   try clear q2
   try clear hx2
   try clear qi2
   try clear c3
   try clear c4
   try clear c4b0
   try clear c4b1
   try clear hx211_0
   try clear hx211_1
   try clear p211
   try clear q211
   obtain ⟨x8_1, x9_1, x20_1, rfl, rfl, rfl, HA, HK1, BK210, HB⟩ := hrel
   cases gk with
   | zero => exact absurd HA.out (by simp [plan_reach.l0])
   | succ k1 =>
    have H := HA.out
    clear HA
    simp only [plan_reach.l0] at H
    by_cases c6 : x20_1 < (l0.length : Int)
    ·rw [if_pos c6] at H
     have c6b0 : decide (x20_1 < (l0.length : Int)) = true := decide_eq_true c6
     clear c6
     by_cases c7 : 0 ≤ x20_1
     ·rw [if_pos c7] at H
      have c7b0 : decide (0 ≤ x20_1) = true := decide_eq_true c7
      clear c7
      by_cases c8 : x20_1 < (l0.length : Int)
      ·rw [if_pos c8] at H
       have c8b0 : decide (x20_1 < (l0.length : Int)) = true := decide_eq_true c8
       clear c8
       have HC9 := Aside0.mk H
       clear H
       have p212 : 0 ≤ (x20_1 : Int) := of_decide_eq_true (by first | (with_reducible assumption) | assumption)
       have q212 : x20_1 < (l0.length : Int) := of_decide_eq_true (by first | (with_reducible assumption) | assumption)
       obtain ⟨ad212, e212, hx212_0, hx212_1⟩ := at_T48 HR0.out x20_1 p212 q212
       obtain rfl : ad211 = ad212 := (by injection e212)
       replace hx212_0 := cB HB hx212_0
       replace hx212_1 := cB HB hx212_1
       replace p212 := eq_true p212
       replace q212 := eq_true q212
       go_upto_if 26 with (first | ((with_reducible refine gate_dst (N := 11) rfl ?_); refine bX (N := 11) (cs := #[.int .i64 0, .int .i64 0]) (t := 48) ?_; intro gb213 hg w10 hbox hb; have BK213 := Aside0.mk (hbox); have GW213 := sG HB hg; have GE213 := sG HB hg; have NB210_213 := sN BK210 hg; have NB213_210 := sM BK210 hg; replace BK210 := sB BK210 hb; replace HB := sL HB hb; clear hb hbox hg; have hnb11 := NB213_210.out; have hnc11 := NB210_213.out; obtain ⟨hcz12_0, hcz12_1⟩ := q2 BK213; obtain ⟨hfz12_0, hfz12_1⟩ := z2 BK213))
       repeat (go_quiet (first | ((with_reducible refine gate_dst (N := 11) rfl ?_); refine bX (N := 11) (cs := #[.int .i64 0, .int .i64 0]) (t := 48) ?_; intro gb213 hg w10 hbox hb; have BK213 := Aside0.mk (hbox); have GW213 := sG HB hg; have GE213 := sG HB hg; have NB210_213 := sN BK210 hg; have NB213_210 := sM BK210 hg; replace BK210 := sB BK210 hb; replace HB := sL HB hb; clear hb hbox hg; have hnb11 := NB213_210.out; have hnc11 := NB210_213.out; obtain ⟨hcz12_0, hcz12_1⟩ := q2 BK213; obtain ⟨hfz12_0, hfz12_1⟩ := z2 BK213)); go_upto_if 26 with (first | ((with_reducible refine gate_dst (N := 11) rfl ?_); refine bX (N := 11) (cs := #[.int .i64 0, .int .i64 0]) (t := 48) ?_; intro gb213 hg w10 hbox hb; have BK213 := Aside0.mk (hbox); have GW213 := sG HB hg; have GE213 := sG HB hg; have NB210_213 := sN BK210 hg; have NB213_210 := sM BK210 hg; replace BK210 := sB BK210 hb; replace HB := sL HB hb; clear hb hbox hg; have hnb11 := NB213_210.out; have hnc11 := NB210_213.out; obtain ⟨hcz12_0, hcz12_1⟩ := q2 BK213; obtain ⟨hfz12_0, hfz12_1⟩ := z2 BK213)))
       (try simp only [Act.put, List.setIfInBounds_toArray, List.set_cons_zero, List.set_cons_succ])
       go_cut [9] (fun v9 wc => ∃ (kq : Nat) (x9_8 : Int), v9 = .int .i64 x9_8 ∧ Aside0 (plan_reach.j1 kq l0 a1 ((rd_T48 l0 0).f0) x8_1 x9_8 l0 (l0.length : Int) x20_1 a2_0 a2_1 a2_2 a2_3 a2_4 a2_5 a2_6 a2_7 a2_8 a2_9 ((rd_T48 l0 x20_1).f0) ((rd_T48 l0 x20_1).f1) = some r) ∧ Aside0 (kq ≤ k1) ∧ Aside0 (wc.heap[gb210]? = some (.cells #[.int .i64 a2_0, .int .i64 a2_1, .int .i64 a2_2, .int .i64 a2_3, .int .i64 a2_4, .int .i64 a2_5, .int .i64 a2_6, .int .i64 a2_7, .int .i64 a2_8, .int .i64 a2_9] 24 (0, 0))) ∧ Aside0 (wc.heap[gb213]? = some (.cells #[.int .i64 ((rd_T48 l0 x20_1).f0), .int .i64 ((rd_T48 l0 x20_1).f1)] 48 (0, 0))) ∧ Aside0 (Below w.heap.size w wc))
       case first =>
        have H := HC9.out
        clear HC9
        by_cases c13 : x20_1 > 0
        ·rw [if_pos c13] at H
         have c13b0 : decide (0 < x20_1) = true := decide_eq_true c13
         clear c13
         (first | rw [c13b0] | (simp only [i64_w, i32_w]; rw [c13b0]) | skip)
         obtain ⟨ji14, hji14⟩ : ∃ j_ : Int, (wrap64 (x20_1 - 1)) = j_ := ⟨_, rfl⟩
         replace H : (if 0 ≤ (ji14) then (if (ji14) < (l0.length : Int) then (plan_reach.j1 k1 l0 a1 ((rd_T48 l0 0).f0) x8_1 (wrap64 (x9_1 + (wrap64 (((rd_T48 l0 x20_1).f0) - ((rd_T48 l0 (ji14)).f1))))) l0 (l0.length : Int) x20_1 a2_0 a2_1 a2_2 a2_3 a2_4 a2_5 a2_6 a2_7 a2_8 a2_9 ((rd_T48 l0 x20_1).f0) ((rd_T48 l0 x20_1).f1)) else (none)) else (none)) = some r := by first | (rw [hji14] at H; exact H) | (simp only [hji14] at H ⊢; exact H)
         have hji14w : (IntKind.i64.wrap (x20_1 - 1)) = ji14 := (i64_w _).trans hji14
         by_cases c15 : 0 ≤ (ji14)
         ·rw [if_pos c15] at H
          have c15b0 : decide (0 ≤ (ji14)) = true := decide_eq_true c15
          clear c15
          by_cases c16 : (ji14) < (l0.length : Int)
          ·rw [if_pos c16] at H
           have c16b0 : decide ((ji14) < (l0.length : Int)) = true := decide_eq_true c16
           clear c16
           have H' := Aside0.mk H
           clear H
           have hnb17 := NB213_210.out
           have hnc17 := NB210_213.out
           obtain ⟨hcz18_0, hcz18_1⟩ := q2 BK213
           obtain ⟨hfz18_0, hfz18_1⟩ := z2 BK213
           have p214 : 0 ≤ ((ji14) : Int) := of_decide_eq_true (by first | (with_reducible assumption) | assumption)
           have q214 : (ji14) < (l0.length : Int) := of_decide_eq_true (by first | (with_reducible assumption) | assumption)
           obtain ⟨ad214, e214, hx214_0, hx214_1⟩ := at_T48 HR0.out (ji14) p214 q214
           obtain rfl : ad211 = ad214 := (by injection e214)
           have hn214_0 : ad211.block ≠ gb213 := Nat.ne_of_lt (Nat.lt_of_lt_of_le (by have := World.block_lt_of_cell? _ _ hx214_0; first | rwa [add_block] at this | exact this) GW213.out)
           have hn214_1 : ad211.block ≠ gb213 := Nat.ne_of_lt (Nat.lt_of_lt_of_le (by have := World.block_lt_of_cell? _ _ hx214_0; first | rwa [add_block] at this | exact this) GW213.out)
           replace hx214_0 := cB HB hx214_0
           replace hx214_1 := cB HB hx214_1
           replace hx214_0 := (cell_far (p := ⟨gb213, 0, none⟩) (by first | (rw [add_block]; exact hn214_0) | (show (Addr.add _ _).block ≠ _; rw [add_block]; exact hn214_0) | exact hn214_0) (.int .i64 ((rd_T48 l0 x20_1).f0))).trans hx214_0
           replace hx214_1 := (cell_far (p := ⟨gb213, 0, none⟩) (by first | (rw [add_block]; exact hn214_0) | (show (Addr.add _ _).block ≠ _; rw [add_block]; exact hn214_0) | exact hn214_0) (.int .i64 ((rd_T48 l0 x20_1).f0))).trans hx214_1
           replace hx214_0 := (cell_far (p := ⟨gb213, 1, none⟩) (by first | (rw [add_block]; exact hn214_1) | (show (Addr.add _ _).block ≠ _; rw [add_block]; exact hn214_1) | exact hn214_1) (.int .i64 ((rd_T48 l0 x20_1).f1))).trans hx214_0
           replace hx214_1 := (cell_far (p := ⟨gb213, 1, none⟩) (by first | (rw [add_block]; exact hn214_1) | (show (Addr.add _ _).block ≠ _; rw [add_block]; exact hn214_1) | exact hn214_1) (.int .i64 ((rd_T48 l0 x20_1).f1))).trans hx214_1
           (try have hy214_0 := fun (n_ : Nat) => (show ((((w10.drewN n_).setCell ⟨gb213, 0, none⟩ (.int .i64 ((rd_T48 l0 x20_1).f0))).setCell ⟨gb213, 1, none⟩ (.int .i64 ((rd_T48 l0 x20_1).f1)))).cell? _ = some _ from hx214_0))
           (try have hy214_1 := fun (n_ : Nat) => (show ((((w10.drewN n_).setCell ⟨gb213, 0, none⟩ (.int .i64 ((rd_T48 l0 x20_1).f0))).setCell ⟨gb213, 1, none⟩ (.int .i64 ((rd_T48 l0 x20_1).f1)))).cell? _ = some _ from hx214_1))
           clear hn214_0
           clear hn214_1
           replace p214 := eq_true p214
           replace q214 := eq_true q214
           go_wp2
           repeat (go_quiet (fail); try go_wp2)
           go_meet
           case rel => exact ⟨_, (wrap64 (x9_1 + (wrap64 (((rd_T48 l0 x20_1).f0) - ((rd_T48 l0 (ji14)).f1))))), (by first | rfl | (simp; done) | (simp only [← hji14] <;> (first | rfl | simp)) | (simp [*]; done)), H', ⟨by have := HK1.out; first | omega | exact Nat.le_refl _⟩, ⟨bF BK210⟩, ⟨by (with_reducible repeat (first | refine blk_drewN ?_ _ | refine blk_drew ?_ | refine blk_alloc ?_ _)); refine blk_put (cs := #[.int .i64 ((rd_T48 l0 x20_1).f0), .int .i64 0]) ?_ 1 _ rfl; (with_reducible repeat (first | refine blk_drewN ?_ _ | refine blk_drew ?_ | refine blk_alloc ?_ _)); refine blk_put (cs := #[.int .i64 0, .int .i64 0]) ?_ 0 _ rfl; (with_reducible repeat (first | refine blk_drewN ?_ _ | refine blk_drew ?_ | refine blk_alloc ?_ _)); exact BK213.out⟩, ⟨lU HB⟩⟩
          ·rw [if_neg c16] at H
           exact absurd H (by simp)
         ·rw [if_neg c15] at H
          exact absurd H (by simp)
        ·rw [if_neg c13] at H
         have c13b0 : decide (0 < x20_1) = false := decide_eq_false c13
         clear c13
         (first | rw [c13b0] | (simp only [i64_w, i32_w]; rw [c13b0]) | skip)
         have H' := Aside0.mk H
         clear H
         go_wp2
         repeat (go_quiet (fail); try go_wp2)
         go_meet
         case rel => exact ⟨_, (x9_1), eR, H', ⟨by have := HK1.out; first | omega | exact Nat.le_refl _⟩, ⟨bF BK210⟩, ⟨by (with_reducible repeat (first | refine blk_drewN ?_ _ | refine blk_drew ?_ | refine blk_alloc ?_ _)); refine blk_put (cs := #[.int .i64 ((rd_T48 l0 x20_1).f0), .int .i64 0]) ?_ 1 _ rfl; (with_reducible repeat (first | refine blk_drewN ?_ _ | refine blk_drew ?_ | refine blk_alloc ?_ _)); refine blk_put (cs := #[.int .i64 0, .int .i64 0]) ?_ 0 _ rfl; (with_reducible repeat (first | refine blk_drewN ?_ _ | refine blk_drew ?_ | refine blk_alloc ?_ _)); exact BK213.out⟩, ⟨lU HB⟩⟩
       case rest =>
        clear HC9
        try clear c1
        try clear p2
        try clear q2
        try clear hx2
        try clear qi2
        try clear c3
        try clear c4
        try clear c4b0
        try clear c4b1
        try clear c6
        try clear c6b0
        try clear p6
        try clear c7
        try clear c7b0
        try clear c8
        try clear c8b0
        try clear c11
        try clear c13
        try clear c13b0
        try clear c15
        try clear c15b0
        try clear c16
        try clear c16b0
        try clear c17
        try clear hcz12_0
        try clear hcz12_1
        try clear hcz18_0
        try clear hcz18_1
        try clear hfz12_0
        try clear hfz12_1
        try clear hfz18_0
        try clear hfz18_1
        try clear hx211_0
        try clear hx211_1
        try clear hx212_0
        try clear hx212_1
        try clear hx214_0
        try clear hx214_1
        try clear p2
        try clear p211
        try clear p212
        try clear p214
        try clear q2
        try clear q211
        try clear q212
        try clear q214
        obtain ⟨kq, x9_8, rfl, HA, HJ8, BK210, BK213, HB⟩ := hcut
        cases kq with
        | zero => exact absurd HA.out (by simp [plan_reach.j1])
        | succ kj8 =>
         have H := HA.out
         clear HA
         simp only [plan_reach.j1] at H
         have HC19 := Aside0.mk H
         clear H
         go_upto_region 8 with (fail)
         repeat (go_quiet (fail); go_upto_region 8 with (fail))
         go_cut [47] (fun v47 wc => ∃ (kq : Nat) (x47_18 : Bool), v47 = .bool x47_18 ∧ Aside0 (plan_reach.j2 kq l0 a1 ((rd_T48 l0 0).f0) x8_1 x9_8 l0 (l0.length : Int) x20_1 x47_18 a2_0 a2_1 a2_2 a2_3 a2_4 a2_5 a2_6 a2_7 a2_8 a2_9 ((rd_T48 l0 x20_1).f0) ((rd_T48 l0 x20_1).f1) = some r) ∧ Aside0 (kq ≤ kj8) ∧ Aside0 (wc.heap[gb210]? = some (.cells #[.int .i64 a2_0, .int .i64 a2_1, .int .i64 a2_2, .int .i64 a2_3, .int .i64 a2_4, .int .i64 a2_5, .int .i64 a2_6, .int .i64 a2_7, .int .i64 a2_8, .int .i64 a2_9] 24 (0, 0))) ∧ Aside0 (wc.heap[gb213]? = some (.cells #[.int .i64 ((rd_T48 l0 x20_1).f0), .int .i64 ((rd_T48 l0 x20_1).f1)] 48 (0, 0))) ∧ Aside0 (Below w.heap.size w wc))
         case first =>
          have H := HC19.out
          clear HC19
          by_cases c20 : x9_8 > a2_1
          ·rw [if_pos c20] at H
           have c20b0 : decide (a2_1 < x9_8) = true := decide_eq_true c20
           clear c20
           (first | rw [c20b0] | (simp only [i64_w, i32_w]; rw [c20b0]) | skip)
           have H' := Aside0.mk H
           clear H
           have hnb21 := NB210_213.out
           have hnc21 := NB213_210.out
           obtain ⟨hcz22_0, hcz22_1, hcz22_2, hcz22_3, hcz22_4, hcz22_5, hcz22_6, hcz22_7, hcz22_8, hcz22_9⟩ := q10 BK210
           obtain ⟨hfz22_0, hfz22_1, hfz22_2, hfz22_3, hfz22_4, hfz22_5, hfz22_6, hfz22_7, hfz22_8, hfz22_9⟩ := z10 BK210
           go_wp2
           repeat (go_quiet (fail); try go_wp2)
           go_meet
           case rel => exact ⟨_, (true), eR, H', ⟨by have := HK1.out; have := HJ8.out; first | omega | exact Nat.le_refl _⟩, ⟨bU BK210⟩, ⟨bU BK213⟩, ⟨lU HB⟩⟩
          ·rw [if_neg c20] at H
           have c20b0 : decide (a2_1 < x9_8) = false := decide_eq_false c20
           clear c20
           (first | rw [c20b0] | (simp only [i64_w, i32_w]; rw [c20b0]) | skip)
           have H' := Aside0.mk H
           clear H
           have hnb23 := NB210_213.out
           have hnc23 := NB213_210.out
           obtain ⟨hcz24_0, hcz24_1, hcz24_2, hcz24_3, hcz24_4, hcz24_5, hcz24_6, hcz24_7, hcz24_8, hcz24_9⟩ := q10 BK210
           obtain ⟨hfz24_0, hfz24_1, hfz24_2, hfz24_3, hfz24_4, hfz24_5, hfz24_6, hfz24_7, hfz24_8, hfz24_9⟩ := z10 BK210
           obtain ⟨hcz25_0, hcz25_1⟩ := q2 BK213
           obtain ⟨hfz25_0, hfz25_1⟩ := z2 BK213
           go_wp2
           repeat (go_quiet (fail); try go_wp2)
           go_meet
           case rel => exact ⟨_, (decide (((rd_T48 l0 x20_1).f0) ≥ a1)), eR, H', ⟨by have := HK1.out; have := HJ8.out; first | omega | exact Nat.le_refl _⟩, ⟨bU BK210⟩, ⟨bU BK213⟩, ⟨lU HB⟩⟩
         case rest =>
          clear HC19
          try clear c1
          try clear c2
          try clear p2
          try clear q2
          try clear hx2
          try clear qi2
          try clear c3
          try clear c4
          try clear c4b0
          try clear c4b1
          try clear c6
          try clear c6b0
          try clear p6
          try clear c7
          try clear c7b0
          try clear c8
          try clear c8b0
          try clear c11
          try clear c13
          try clear c13b0
          try clear c15
          try clear c15b0
          try clear c16
          try clear c16b0
          try clear c17
          try clear c20
          try clear c20b0
          try clear c21
          try clear p21
          try clear q21
          try clear hx21
          try clear qi21
          try clear c23
          try clear hcz12_0
          try clear hcz12_1
          try clear hcz18_0
          try clear hcz18_1
          try clear hcz22_0
          try clear hcz22_1
          try clear hcz22_2
          try clear hcz22_3
          try clear hcz22_4
          try clear hcz22_5
          try clear hcz22_6
          try clear hcz22_7
          try clear hcz22_8
          try clear hcz22_9
          try clear hcz24_0
          try clear hcz24_1
          try clear hcz24_2
          try clear hcz24_3
          try clear hcz24_4
          try clear hcz24_5
          try clear hcz24_6
          try clear hcz24_7
          try clear hcz24_8
          try clear hcz24_9
          try clear hcz25_0
          try clear hcz25_1
          try clear hfz12_0
          try clear hfz12_1
          try clear hfz18_0
          try clear hfz18_1
          try clear hfz22_0
          try clear hfz22_1
          try clear hfz22_2
          try clear hfz22_3
          try clear hfz22_4
          try clear hfz22_5
          try clear hfz22_6
          try clear hfz22_7
          try clear hfz22_8
          try clear hfz22_9
          try clear hfz24_0
          try clear hfz24_1
          try clear hfz24_2
          try clear hfz24_3
          try clear hfz24_4
          try clear hfz24_5
          try clear hfz24_6
          try clear hfz24_7
          try clear hfz24_8
          try clear hfz24_9
          try clear hfz25_0
          try clear hfz25_1
          try clear hx211_0
          try clear hx211_1
          try clear hx212_0
          try clear hx212_1
          try clear hx214_0
          try clear hx214_1
          try clear p2
          try clear p211
          try clear p212
          try clear p214
          try clear p6
          try clear q2
          try clear q211
          try clear q212
          try clear q214
          obtain ⟨kq, x47_18, rfl, HA, HJ18, BK210, BK213, HB⟩ := hcut
          cases kq with
          | zero => exact absurd HA.out (by simp [plan_reach.j2])
          | succ kj18 =>
           have H := HA.out
           clear HA
           simp only [plan_reach.j2] at H
           by_cases c26 : x47_18 = true
           ·subst c26
            rw [if_pos rfl] at H
            obtain rfl := Option.some.inj H
            go_wp2
            repeat (go_quiet (fail); try go_wp2)
            go_ret
            exact ⟨eW, lU HB⟩
           ·replace c26 := Bool.eq_false_iff.mpr c26
            subst c26
            rw [if_neg (show ¬ (false = true) by decide)] at H
            have HC27 := Aside0.mk H
            clear H
            go_upto_region 9 with (fail)
            repeat (go_quiet (fail); go_upto_region 9 with (fail))
            go_cut [54] (fun v54 wc => ∃ (kq : Nat) (x54_26 : Bool), v54 = .bool x54_26 ∧ Aside0 (plan_reach.j3 kq l0 a1 ((rd_T48 l0 0).f0) x8_1 x9_8 l0 (l0.length : Int) x20_1 x54_26 a2_0 a2_1 a2_2 a2_3 a2_4 a2_5 a2_6 a2_7 a2_8 a2_9 ((rd_T48 l0 x20_1).f0) ((rd_T48 l0 x20_1).f1) = some r) ∧ Aside0 (kq ≤ kj18) ∧ Aside0 (wc.heap[gb210]? = some (.cells #[.int .i64 a2_0, .int .i64 a2_1, .int .i64 a2_2, .int .i64 a2_3, .int .i64 a2_4, .int .i64 a2_5, .int .i64 a2_6, .int .i64 a2_7, .int .i64 a2_8, .int .i64 a2_9] 24 (0, 0))) ∧ Aside0 (wc.heap[gb213]? = some (.cells #[.int .i64 ((rd_T48 l0 x20_1).f0), .int .i64 ((rd_T48 l0 x20_1).f1)] 48 (0, 0))) ∧ Aside0 (Below w.heap.size w wc))
            case first =>
             have H := HC27.out
             clear HC27
             by_cases c28 : ((rd_T48 l0 x20_1).f1) = 4611686018427387904
             ·rw [if_pos c28] at H
              have c28b0 : (((rd_T48 l0 x20_1).f1) == 4611686018427387904) = true := beq_iff_eq.mpr c28
              have c28b1 : (((rd_T48 l0 x20_1).f1) != 4611686018427387904) = false := bne_eq_false_iff_eq.mpr c28
              clear c28
              (first | rw [c28b0] | (simp only [i64_w, i32_w]; rw [c28b0]) | skip)
              have H' := Aside0.mk H
              clear H
              have hnb29 := NB213_210.out
              have hnc29 := NB210_213.out
              obtain ⟨hcz30_0, hcz30_1⟩ := q2 BK213
              obtain ⟨hfz30_0, hfz30_1⟩ := z2 BK213
              go_wp2
              repeat (go_quiet (fail); try go_wp2)
              go_meet
              case rel => exact ⟨_, ((a1 == 4611686018427387904)), eR, H', ⟨by have := HK1.out; have := HJ8.out; have := HJ18.out; first | omega | exact Nat.le_refl _⟩, ⟨bU BK210⟩, ⟨bU BK213⟩, ⟨lU HB⟩⟩
             ·rw [if_neg c28] at H
              have c28b0 : (((rd_T48 l0 x20_1).f1) == 4611686018427387904) = false := beq_eq_false_iff_ne.mpr c28
              have c28b1 : (((rd_T48 l0 x20_1).f1) != 4611686018427387904) = true := bne_iff_ne.mpr c28
              (first | rw [c28b0] | (simp only [i64_w, i32_w]; rw [c28b0]) | skip)
              have H' := Aside0.mk H
              clear H
              have hnb31 := NB213_210.out
              have hnc31 := NB210_213.out
              obtain ⟨hcz32_0, hcz32_1⟩ := q2 BK213
              obtain ⟨hfz32_0, hfz32_1⟩ := z2 BK213
              go_wp2
              repeat (go_quiet (fail); try go_wp2)
              go_meet
              case rel => exact ⟨_, (false), eR, H', ⟨by have := HK1.out; have := HJ8.out; have := HJ18.out; first | omega | exact Nat.le_refl _⟩, ⟨bU BK210⟩, ⟨bU BK213⟩, ⟨lU HB⟩⟩
            case rest =>
             clear HC27
             try clear c1
             try clear c2
             try clear p2
             try clear q2
             try clear hx2
             try clear qi2
             try clear c3
             try clear c4
             try clear c4b0
             try clear c4b1
             try clear c6
             try clear c6b0
             try clear p6
             try clear c7
             try clear c7b0
             try clear c8
             try clear c8b0
             try clear c11
             try clear c13
             try clear c13b0
             try clear c15
             try clear c15b0
             try clear c16
             try clear c16b0
             try clear c17
             try clear c20
             try clear c20b0
             try clear c21
             try clear p21
             try clear q21
             try clear hx21
             try clear qi21
             try clear c23
             try clear c26
             try clear c28
             try clear c28b0
             try clear c28b1
             try clear c29
             try clear c31
             try clear hcz12_0
             try clear hcz12_1
             try clear hcz18_0
             try clear hcz18_1
             try clear hcz22_0
             try clear hcz22_1
             try clear hcz22_2
             try clear hcz22_3
             try clear hcz22_4
             try clear hcz22_5
             try clear hcz22_6
             try clear hcz22_7
             try clear hcz22_8
             try clear hcz22_9
             try clear hcz24_0
             try clear hcz24_1
             try clear hcz24_2
             try clear hcz24_3
             try clear hcz24_4
             try clear hcz24_5
             try clear hcz24_6
             try clear hcz24_7
             try clear hcz24_8
             try clear hcz24_9
             try clear hcz25_0
             try clear hcz25_1
             try clear hcz30_0
             try clear hcz30_1
             try clear hcz32_0
             try clear hcz32_1
             try clear hfz12_0
             try clear hfz12_1
             try clear hfz18_0
             try clear hfz18_1
             try clear hfz22_0
             try clear hfz22_1
             try clear hfz22_2
             try clear hfz22_3
             try clear hfz22_4
             try clear hfz22_5
             try clear hfz22_6
             try clear hfz22_7
             try clear hfz22_8
             try clear hfz22_9
             try clear hfz24_0
             try clear hfz24_1
             try clear hfz24_2
             try clear hfz24_3
             try clear hfz24_4
             try clear hfz24_5
             try clear hfz24_6
             try clear hfz24_7
             try clear hfz24_8
             try clear hfz24_9
             try clear hfz25_0
             try clear hfz25_1
             try clear hfz30_0
             try clear hfz30_1
             try clear hfz32_0
             try clear hfz32_1
             try clear hx211_0
             try clear hx211_1
             try clear hx212_0
             try clear hx212_1
             try clear hx214_0
             try clear hx214_1
             try clear p2
             try clear p21
             try clear p211
             try clear p212
             try clear p214
             try clear p6
             try clear q2
             try clear q21
             try clear q211
             try clear q212
             try clear q214
             obtain ⟨kq, x54_26, rfl, HA, HJ26, BK210, BK213, HB⟩ := hcut
             cases kq with
             | zero => exact absurd HA.out (by simp [plan_reach.j3])
             | succ kj26 =>
              have H := HA.out
              clear HA
              simp only [plan_reach.j3] at H
              by_cases c33 : x54_26 = true
              ·subst c33
               rw [if_pos rfl] at H
               obtain rfl := Option.some.inj H
               go_wp2
               repeat (go_quiet (fail); try go_wp2)
               go_ret
               exact ⟨eW, lU HB⟩
              ·replace c33 := Bool.eq_false_iff.mpr c33
               subst c33
               rw [if_neg (show ¬ (false = true) by decide)] at H
               obtain ⟨ji34, hji34⟩ : ∃ j_ : Int, (mn ((rd_T48 l0 x20_1).f1) a1) = j_ := ⟨_, rfl⟩
               replace H : (if (wrap64 ((ji34) - ((rd_T48 l0 0).f0))) > a2_2 then (plan_reach.j4 kj26 l0 a1 ((rd_T48 l0 0).f0) x8_1 x9_8 (wrap64 (((rd_T48 l0 0).f0) + a2_2)) l0 (l0.length : Int) x20_1 a2_0 a2_1 a2_2 a2_3 a2_4 a2_5 a2_6 a2_7 a2_8 a2_9 ((rd_T48 l0 x20_1).f0) ((rd_T48 l0 x20_1).f1)) else (plan_reach.j4 kj26 l0 a1 ((rd_T48 l0 0).f0) x8_1 x9_8 ji34 l0 (l0.length : Int) x20_1 a2_0 a2_1 a2_2 a2_3 a2_4 a2_5 a2_6 a2_7 a2_8 a2_9 ((rd_T48 l0 x20_1).f0) ((rd_T48 l0 x20_1).f1))) = some r := by first | (rw [hji34] at H; exact H) | (simp only [hji34] at H ⊢; exact H)
               have hji34_ : (if a1 < ((rd_T48 l0 x20_1).f1) then a1 else ((rd_T48 l0 x20_1).f1)) = ji34 := hji34
               have HC35 := Aside0.mk H
               clear H
               have hnb36 := NB213_210.out
               have hnc36 := NB210_213.out
               obtain ⟨hcz37_0, hcz37_1⟩ := q2 BK213
               obtain ⟨hfz37_0, hfz37_1⟩ := z2 BK213
               obtain ⟨hcz38_0, hcz38_1, hcz38_2, hcz38_3, hcz38_4, hcz38_5, hcz38_6, hcz38_7, hcz38_8, hcz38_9⟩ := q10 BK210
               obtain ⟨hfz38_0, hfz38_1, hfz38_2, hfz38_3, hfz38_4, hfz38_5, hfz38_6, hfz38_7, hfz38_8, hfz38_9⟩ := z10 BK210
               go_upto_if 64 with (fail)
               repeat (go_quiet (fail); go_upto_if 64 with (fail))
               go_cut [12] (fun v12 wc => ∃ (kq : Nat) (x12_34 : Int), v12 = .int .i64 x12_34 ∧ Aside0 (plan_reach.j4 kq l0 a1 ((rd_T48 l0 0).f0) x8_1 x9_8 x12_34 l0 (l0.length : Int) x20_1 a2_0 a2_1 a2_2 a2_3 a2_4 a2_5 a2_6 a2_7 a2_8 a2_9 ((rd_T48 l0 x20_1).f0) ((rd_T48 l0 x20_1).f1) = some r) ∧ Aside0 (kq ≤ kj26) ∧ Aside0 (wc.heap[gb210]? = some (.cells #[.int .i64 a2_0, .int .i64 a2_1, .int .i64 a2_2, .int .i64 a2_3, .int .i64 a2_4, .int .i64 a2_5, .int .i64 a2_6, .int .i64 a2_7, .int .i64 a2_8, .int .i64 a2_9] 24 (0, 0))) ∧ Aside0 (wc.heap[gb213]? = some (.cells #[.int .i64 ((rd_T48 l0 x20_1).f0), .int .i64 ((rd_T48 l0 x20_1).f1)] 48 (0, 0))) ∧ Aside0 (Below w.heap.size w wc))
               case first =>
                have H := HC35.out
                clear HC35
                by_cases c39 : (wrap64 ((ji34) - ((rd_T48 l0 0).f0))) > a2_2
                ·rw [if_pos c39] at H
                 have c39b0 : decide (a2_2 < (wrap64 ((ji34) - ((rd_T48 l0 0).f0)))) = true := decide_eq_true c39
                 clear c39
                 (first | rw [c39b0] | (simp only [i64_w, i32_w]; rw [c39b0]) | skip)
                 have H' := Aside0.mk H
                 clear H
                 have hnb40 := NB210_213.out
                 have hnc40 := NB213_210.out
                 obtain ⟨hcz41_0, hcz41_1, hcz41_2, hcz41_3, hcz41_4, hcz41_5, hcz41_6, hcz41_7, hcz41_8, hcz41_9⟩ := q10 BK210
                 obtain ⟨hfz41_0, hfz41_1, hfz41_2, hfz41_3, hfz41_4, hfz41_5, hfz41_6, hfz41_7, hfz41_8, hfz41_9⟩ := z10 BK210
                 go_wp2
                 repeat (go_quiet (fail); try go_wp2)
                 go_meet
                 case rel => exact ⟨_, (wrap64 (((rd_T48 l0 0).f0) + a2_2)), eR, H', ⟨by have := HK1.out; have := HJ8.out; have := HJ18.out; have := HJ26.out; first | omega | exact Nat.le_refl _⟩, ⟨bU BK210⟩, ⟨bU BK213⟩, ⟨lU HB⟩⟩
                ·rw [if_neg c39] at H
                 have c39b0 : decide (a2_2 < (wrap64 ((ji34) - ((rd_T48 l0 0).f0)))) = false := decide_eq_false c39
                 clear c39
                 (first | rw [c39b0] | (simp only [i64_w, i32_w]; rw [c39b0]) | skip)
                 have H' := Aside0.mk H
                 clear H
                 go_wp2
                 repeat (go_quiet (fail); try go_wp2)
                 go_meet
                 case rel => exact ⟨_, (ji34), (by first | rfl | (simp; done) | (simp only [← hji34] <;> (first | rfl | simp)) | (simp [*]; done)), H', ⟨by have := HK1.out; have := HJ8.out; have := HJ18.out; have := HJ26.out; first | omega | exact Nat.le_refl _⟩, ⟨bU BK210⟩, ⟨bU BK213⟩, ⟨lU HB⟩⟩
               case rest =>
                clear HC35
                try clear c1
                try clear c2
                try clear p2
                try clear q2
                try clear hx2
                try clear qi2
                try clear c3
                try clear c4
                try clear c4b0
                try clear c4b1
                try clear c6
                try clear c6b0
                try clear p6
                try clear c7
                try clear c7b0
                try clear c8
                try clear c8b0
                try clear c11
                try clear c13
                try clear c13b0
                try clear c15
                try clear c15b0
                try clear c16
                try clear c16b0
                try clear c17
                try clear c20
                try clear c20b0
                try clear c21
                try clear p21
                try clear q21
                try clear hx21
                try clear qi21
                try clear c23
                try clear c26
                try clear c28
                try clear c28b0
                try clear c28b1
                try clear c29
                try clear c31
                try clear c33
                try clear c36
                try clear c39
                try clear c39b0
                try clear c40
                try clear hcz12_0
                try clear hcz12_1
                try clear hcz18_0
                try clear hcz18_1
                try clear hcz22_0
                try clear hcz22_1
                try clear hcz22_2
                try clear hcz22_3
                try clear hcz22_4
                try clear hcz22_5
                try clear hcz22_6
                try clear hcz22_7
                try clear hcz22_8
                try clear hcz22_9
                try clear hcz24_0
                try clear hcz24_1
                try clear hcz24_2
                try clear hcz24_3
                try clear hcz24_4
                try clear hcz24_5
                try clear hcz24_6
                try clear hcz24_7
                try clear hcz24_8
                try clear hcz24_9
                try clear hcz25_0
                try clear hcz25_1
                try clear hcz30_0
                try clear hcz30_1
                try clear hcz32_0
                try clear hcz32_1
                try clear hcz37_0
                try clear hcz37_1
                try clear hcz38_0
                try clear hcz38_1
                try clear hcz38_2
                try clear hcz38_3
                try clear hcz38_4
                try clear hcz38_5
                try clear hcz38_6
                try clear hcz38_7
                try clear hcz38_8
                try clear hcz38_9
                try clear hcz41_0
                try clear hcz41_1
                try clear hcz41_2
                try clear hcz41_3
                try clear hcz41_4
                try clear hcz41_5
                try clear hcz41_6
                try clear hcz41_7
                try clear hcz41_8
                try clear hcz41_9
                try clear hfz12_0
                try clear hfz12_1
                try clear hfz18_0
                try clear hfz18_1
                try clear hfz22_0
                try clear hfz22_1
                try clear hfz22_2
                try clear hfz22_3
                try clear hfz22_4
                try clear hfz22_5
                try clear hfz22_6
                try clear hfz22_7
                try clear hfz22_8
                try clear hfz22_9
                try clear hfz24_0
                try clear hfz24_1
                try clear hfz24_2
                try clear hfz24_3
                try clear hfz24_4
                try clear hfz24_5
                try clear hfz24_6
                try clear hfz24_7
                try clear hfz24_8
                try clear hfz24_9
                try clear hfz25_0
                try clear hfz25_1
                try clear hfz30_0
                try clear hfz30_1
                try clear hfz32_0
                try clear hfz32_1
                try clear hfz37_0
                try clear hfz37_1
                try clear hfz38_0
                try clear hfz38_1
                try clear hfz38_2
                try clear hfz38_3
                try clear hfz38_4
                try clear hfz38_5
                try clear hfz38_6
                try clear hfz38_7
                try clear hfz38_8
                try clear hfz38_9
                try clear hfz41_0
                try clear hfz41_1
                try clear hfz41_2
                try clear hfz41_3
                try clear hfz41_4
                try clear hfz41_5
                try clear hfz41_6
                try clear hfz41_7
                try clear hfz41_8
                try clear hfz41_9
                try clear hx211_0
                try clear hx211_1
                try clear hx212_0
                try clear hx212_1
                try clear hx214_0
                try clear hx214_1
                try clear p2
                try clear p21
                try clear p211
                try clear p212
                try clear p214
                try clear p6
                try clear q2
                try clear q21
                try clear q211
                try clear q212
                try clear q214
                obtain ⟨kq, x12_34, rfl, HA, HJ34, BK210, BK213, HB⟩ := hcut
                cases kq with
                | zero => exact absurd HA.out (by simp [plan_reach.j4])
                | succ kj34 =>
                 have H := HA.out
                 clear HA
                 simp only [plan_reach.j4] at H
                 have HC42 := Aside0.mk H
                 clear H
                 have hnb43 := NB213_210.out
                 have hnc43 := NB210_213.out
                 obtain ⟨hcz44_0, hcz44_1⟩ := q2 BK213
                 obtain ⟨hfz44_0, hfz44_1⟩ := z2 BK213
                 go_upto_if 72 with (fail)
                 repeat (go_quiet (fail); go_upto_if 72 with (fail))
                 go_cut [12] (fun v12 wc => ∃ (kq : Nat) (x12_41 : Int), v12 = .int .i64 x12_41 ∧ Aside0 (plan_reach.j5 kq l0 a1 ((rd_T48 l0 0).f0) x8_1 x9_8 x12_41 l0 (l0.length : Int) x20_1 a2_0 a2_1 a2_2 a2_3 a2_4 a2_5 a2_6 a2_7 a2_8 a2_9 ((rd_T48 l0 x20_1).f0) ((rd_T48 l0 x20_1).f1) = some r) ∧ Aside0 (kq ≤ kj34) ∧ Aside0 (wc.heap[gb210]? = some (.cells #[.int .i64 a2_0, .int .i64 a2_1, .int .i64 a2_2, .int .i64 a2_3, .int .i64 a2_4, .int .i64 a2_5, .int .i64 a2_6, .int .i64 a2_7, .int .i64 a2_8, .int .i64 a2_9] 24 (0, 0))) ∧ Aside0 (wc.heap[gb213]? = some (.cells #[.int .i64 ((rd_T48 l0 x20_1).f0), .int .i64 ((rd_T48 l0 x20_1).f1)] 48 (0, 0))) ∧ Aside0 (Below w.heap.size w wc))
                 case first =>
                  have H := HC42.out
                  clear HC42
                  by_cases c45 : x12_34 < ((rd_T48 l0 x20_1).f1)
                  ·rw [if_pos c45] at H
                   have c45b0 : decide (x12_34 < ((rd_T48 l0 x20_1).f1)) = true := decide_eq_true c45
                   clear c45
                   (first | rw [c45b0] | (simp only [i64_w, i32_w]; rw [c45b0]) | skip)
                   by_cases c46 : a2_0 = 0
                   ·rw [if_pos c46] at H
                    exact absurd H (by simp)
                   ·rw [if_neg c46] at H
                    have c46b0 : (a2_0 == 0) = false := beq_eq_false_iff_ne.mpr c46
                    have c46b1 : (a2_0 != 0) = true := bne_iff_ne.mpr c46
                    have H' := Aside0.mk H
                    clear H
                    have hnb47 := NB210_213.out
                    have hnc47 := NB213_210.out
                    obtain ⟨hcz48_0, hcz48_1, hcz48_2, hcz48_3, hcz48_4, hcz48_5, hcz48_6, hcz48_7, hcz48_8, hcz48_9⟩ := q10 BK210
                    obtain ⟨hfz48_0, hfz48_1, hfz48_2, hfz48_3, hfz48_4, hfz48_5, hfz48_6, hfz48_7, hfz48_8, hfz48_9⟩ := z10 BK210
                    go_wp2
                    repeat (go_quiet (fail); try go_wp2)
                    go_meet
                    case rel => exact ⟨_, (wrap64 (x12_34 - (Int.tmod x12_34 a2_0))), eR, H', ⟨by have := HK1.out; have := HJ8.out; have := HJ18.out; have := HJ26.out; have := HJ34.out; first | omega | exact Nat.le_refl _⟩, ⟨bU BK210⟩, ⟨bU BK213⟩, ⟨lU HB⟩⟩
                  ·rw [if_neg c45] at H
                   have c45b0 : decide (x12_34 < ((rd_T48 l0 x20_1).f1)) = false := decide_eq_false c45
                   clear c45
                   (first | rw [c45b0] | (simp only [i64_w, i32_w]; rw [c45b0]) | skip)
                   have H' := Aside0.mk H
                   clear H
                   go_wp2
                   repeat (go_quiet (fail); try go_wp2)
                   go_meet
                   case rel => exact ⟨_, (x12_34), eR, H', ⟨by have := HK1.out; have := HJ8.out; have := HJ18.out; have := HJ26.out; have := HJ34.out; first | omega | exact Nat.le_refl _⟩, ⟨bU BK210⟩, ⟨bU BK213⟩, ⟨lU HB⟩⟩
                 case rest =>
                  clear HC42
                  try clear c1
                  try clear c2
                  try clear p2
                  try clear q2
                  try clear hx2
                  try clear qi2
                  try clear c3
                  try clear c4
                  try clear c4b0
                  try clear c4b1
                  try clear c6
                  try clear c6b0
                  try clear p6
                  try clear c7
                  try clear c7b0
                  try clear c8
                  try clear c8b0
                  try clear c11
                  try clear c13
                  try clear c13b0
                  try clear c15
                  try clear c15b0
                  try clear c16
                  try clear c16b0
                  try clear c17
                  try clear c20
                  try clear c20b0
                  try clear c21
                  try clear p21
                  try clear q21
                  try clear hx21
                  try clear qi21
                  try clear c23
                  try clear c26
                  try clear c28
                  try clear c28b0
                  try clear c28b1
                  try clear c29
                  try clear c31
                  try clear c33
                  try clear c36
                  try clear c39
                  try clear c39b0
                  try clear c40
                  try clear c43
                  try clear c45
                  try clear c45b0
                  try clear c46
                  try clear c46b0
                  try clear c46b1
                  try clear c47
                  try clear hcz12_0
                  try clear hcz12_1
                  try clear hcz18_0
                  try clear hcz18_1
                  try clear hcz22_0
                  try clear hcz22_1
                  try clear hcz22_2
                  try clear hcz22_3
                  try clear hcz22_4
                  try clear hcz22_5
                  try clear hcz22_6
                  try clear hcz22_7
                  try clear hcz22_8
                  try clear hcz22_9
                  try clear hcz24_0
                  try clear hcz24_1
                  try clear hcz24_2
                  try clear hcz24_3
                  try clear hcz24_4
                  try clear hcz24_5
                  try clear hcz24_6
                  try clear hcz24_7
                  try clear hcz24_8
                  try clear hcz24_9
                  try clear hcz25_0
                  try clear hcz25_1
                  try clear hcz30_0
                  try clear hcz30_1
                  try clear hcz32_0
                  try clear hcz32_1
                  try clear hcz37_0
                  try clear hcz37_1
                  try clear hcz38_0
                  try clear hcz38_1
                  try clear hcz38_2
                  try clear hcz38_3
                  try clear hcz38_4
                  try clear hcz38_5
                  try clear hcz38_6
                  try clear hcz38_7
                  try clear hcz38_8
                  try clear hcz38_9
                  try clear hcz41_0
                  try clear hcz41_1
                  try clear hcz41_2
                  try clear hcz41_3
                  try clear hcz41_4
                  try clear hcz41_5
                  try clear hcz41_6
                  try clear hcz41_7
                  try clear hcz41_8
                  try clear hcz41_9
                  try clear hcz44_0
                  try clear hcz44_1
                  try clear hcz48_0
                  try clear hcz48_1
                  try clear hcz48_2
                  try clear hcz48_3
                  try clear hcz48_4
                  try clear hcz48_5
                  try clear hcz48_6
                  try clear hcz48_7
                  try clear hcz48_8
                  try clear hcz48_9
                  try clear hfz12_0
                  try clear hfz12_1
                  try clear hfz18_0
                  try clear hfz18_1
                  try clear hfz22_0
                  try clear hfz22_1
                  try clear hfz22_2
                  try clear hfz22_3
                  try clear hfz22_4
                  try clear hfz22_5
                  try clear hfz22_6
                  try clear hfz22_7
                  try clear hfz22_8
                  try clear hfz22_9
                  try clear hfz24_0
                  try clear hfz24_1
                  try clear hfz24_2
                  try clear hfz24_3
                  try clear hfz24_4
                  try clear hfz24_5
                  try clear hfz24_6
                  try clear hfz24_7
                  try clear hfz24_8
                  try clear hfz24_9
                  try clear hfz25_0
                  try clear hfz25_1
                  try clear hfz30_0
                  try clear hfz30_1
                  try clear hfz32_0
                  try clear hfz32_1
                  try clear hfz37_0
                  try clear hfz37_1
                  try clear hfz38_0
                  try clear hfz38_1
                  try clear hfz38_2
                  try clear hfz38_3
                  try clear hfz38_4
                  try clear hfz38_5
                  try clear hfz38_6
                  try clear hfz38_7
                  try clear hfz38_8
                  try clear hfz38_9
                  try clear hfz41_0
                  try clear hfz41_1
                  try clear hfz41_2
                  try clear hfz41_3
                  try clear hfz41_4
                  try clear hfz41_5
                  try clear hfz41_6
                  try clear hfz41_7
                  try clear hfz41_8
                  try clear hfz41_9
                  try clear hfz44_0
                  try clear hfz44_1
                  try clear hfz48_0
                  try clear hfz48_1
                  try clear hfz48_2
                  try clear hfz48_3
                  try clear hfz48_4
                  try clear hfz48_5
                  try clear hfz48_6
                  try clear hfz48_7
                  try clear hfz48_8
                  try clear hfz48_9
                  try clear hx211_0
                  try clear hx211_1
                  try clear hx212_0
                  try clear hx212_1
                  try clear hx214_0
                  try clear hx214_1
                  try clear p2
                  try clear p21
                  try clear p211
                  try clear p212
                  try clear p214
                  try clear p6
                  try clear q2
                  try clear q21
                  try clear q211
                  try clear q212
                  try clear q214
                  obtain ⟨kq, x12_41, rfl, HA, HJ41, BK210, BK213, HB⟩ := hcut
                  cases kq with
                  | zero => exact absurd HA.out (by simp [plan_reach.j5])
                  | succ kj41 =>
                   have H := HA.out
                   clear HA
                   simp only [plan_reach.j5] at H
                   by_cases c49 : x12_41 > ((rd_T48 l0 x20_1).f0)
                   ·rw [if_pos c49] at H
                    have c49b0 : decide (((rd_T48 l0 x20_1).f0) < x12_41) = true := decide_eq_true c49
                    clear c49
                    by_cases c50 : x12_41 < ((rd_T48 l0 x20_1).f1)
                    ·rw [if_pos c50] at H
                     have c50b0 : decide (x12_41 < ((rd_T48 l0 x20_1).f1)) = true := decide_eq_true c50
                     clear c50
                     obtain rfl := Option.some.inj H
                     have hnb51 := NB213_210.out
                     have hnc51 := NB210_213.out
                     obtain ⟨hcz52_0, hcz52_1⟩ := q2 BK213
                     obtain ⟨hfz52_0, hfz52_1⟩ := z2 BK213
                     go_wp2
                     repeat (go_quiet (fail); try go_wp2)
                     go_ret
                     exact ⟨by first | rfl | (simp [errW_none, errW_some] <;> rfl) | (simp only [← hji34]; first | rfl | (simp [errW_none, errW_some] <;> rfl)) | (simp [*, errW_none, errW_some] <;> rfl), lU HB⟩
                    ·rw [if_neg c50] at H
                     have c50b0 : decide (x12_41 < ((rd_T48 l0 x20_1).f1)) = false := decide_eq_false c50
                     clear c50
                     have H' := Aside0.mk H
                     clear H
                     have hnb53 := NB213_210.out
                     have hnc53 := NB210_213.out
                     obtain ⟨hcz54_0, hcz54_1⟩ := q2 BK213
                     obtain ⟨hfz54_0, hfz54_1⟩ := z2 BK213
                     go_wp2
                     repeat (go_quiet (fail); try go_wp2)
                     go_roundg kj41
                     case measure => have := HK1.out; have := HJ8.out; have := HJ18.out; have := HJ26.out; have := HJ34.out; have := HJ41.out; omega
                     case rel => exact ⟨(x12_41), (x9_8), (wrap64 (x20_1 + 1)), eR, eR, eR, H', ⟨by have := HK1.out; have := HJ8.out; have := HJ18.out; have := HJ26.out; have := HJ34.out; have := HJ41.out; omega⟩, ⟨bU BK210⟩, ⟨lU HB⟩⟩
                   ·rw [if_neg c49] at H
                    have c49b0 : decide (((rd_T48 l0 x20_1).f0) < x12_41) = false := decide_eq_false c49
                    clear c49
                    by_cases c55 : x12_41 < ((rd_T48 l0 x20_1).f1)
                    ·rw [if_pos c55] at H
                     have c55b0 : decide (x12_41 < ((rd_T48 l0 x20_1).f1)) = true := decide_eq_true c55
                     clear c55
                     obtain rfl := Option.some.inj H
                     have hnb56 := NB213_210.out
                     have hnc56 := NB210_213.out
                     obtain ⟨hcz57_0, hcz57_1⟩ := q2 BK213
                     obtain ⟨hfz57_0, hfz57_1⟩ := z2 BK213
                     go_wp2
                     repeat (go_quiet (fail); try go_wp2)
                     go_ret
                     exact ⟨by first | rfl | (simp [errW_none, errW_some] <;> rfl) | (simp only [← hji34]; first | rfl | (simp [errW_none, errW_some] <;> rfl)) | (simp [*, errW_none, errW_some] <;> rfl), lU HB⟩
                    ·rw [if_neg c55] at H
                     have c55b0 : decide (x12_41 < ((rd_T48 l0 x20_1).f1)) = false := decide_eq_false c55
                     clear c55
                     have H' := Aside0.mk H
                     clear H
                     have hnb58 := NB213_210.out
                     have hnc58 := NB210_213.out
                     obtain ⟨hcz59_0, hcz59_1⟩ := q2 BK213
                     obtain ⟨hfz59_0, hfz59_1⟩ := z2 BK213
                     go_wp2
                     repeat (go_quiet (fail); try go_wp2)
                     go_roundg kj41
                     case measure => have := HK1.out; have := HJ8.out; have := HJ18.out; have := HJ26.out; have := HJ34.out; have := HJ41.out; omega
                     case rel => exact ⟨(x8_1), (x9_8), (wrap64 (x20_1 + 1)), eR, eR, eR, H', ⟨by have := HK1.out; have := HJ8.out; have := HJ18.out; have := HJ26.out; have := HJ34.out; have := HJ41.out; omega⟩, ⟨bU BK210⟩, ⟨lU HB⟩⟩
      ·rw [if_neg c8] at H
       exact absurd H (by simp)
     ·rw [if_neg c7] at H
      exact absurd H (by simp)
    ·rw [if_neg c6] at H
     have c6b0 : decide (x20_1 < (l0.length : Int)) = false := decide_eq_false c6
     clear c6
     obtain rfl := Option.some.inj H
     go_wp2
     repeat (go_quiet (fail); try go_wp2)
     go_ret
     exact ⟨eW, lU HB⟩
 ·rw [if_neg c4] at H
  exact absurd H (by simp)
end Go.Proofs.Ytnaalaakhdbfbaa.XP
