-- Go functions of this seat as plain functions, and proofs that the code comes to these answers: written by a program (wip/tools/xprint.py over the kit's print).
import Derived.Test.YtnaalaakhdbfbaaV2XP0
import Derived.Test.YtnaalaakhdbfbaaV2XP16
import Derived.Test.YtnaalaakhdbfbaaV2XP17
import Derived.Test.YtnaalaakhdbfbaaV2XP20
namespace Go.Proofs.Ytnaalaakhdbfbaa.XP
open Go.RowKit Go.Proofs.YtnaalaakhdbfbaaW.PrintWords Go.Proofs.YtnaalaakhdbfbaaW.PrintLast Go.Proofs.YtnaalaakhdbfbaaW.PrintMore
attribute [local go_sem] max2_int min2_int max_two min_two max_three min_three max_four min_four   -- for this text's walks alone
set_option linter.unusedVariables false
set_option linter.unusedSimpArgs false

/-! ### mandolineref35_Plan: function 14 -/
mutual
def mandolineref35_Plan.l0 : Nat → List (S48) → Int → List (S48) → List (S48) → List (S48) → Int → Int → Int → Int → Int → Int → Int → Int → Int → Int → Option ((List (S48)) × Int)
 | 0, _, _, _, _, _, _, _, _, _, _, _, _, _, _, _ => none
 | k + 1, x1, x2, x10, x11, x12, x441000, x441001, x441002, x441003, x441004, x441005, x441006, x441007, x441008, x441009 => if (x12.length : Int) > 0 then (if 0 < (x12.length : Int) then ((mandolineref35_Ends.f k x12 ((rd_T48 x12 0).f0) x441000).bind fun t449 => (mandolineref35_Plan.l1 k x1 x2 x10 x11 x12 t449 (t449.length : Int) 0 x441000 x441001 x441002 x441003 x441004 x441005 x441006 x441007 x441008 x441009 ((rd_T48 x12 0).f0) ((rd_T48 x12 0).f0))) else (none)) else (some (x11, 0))
def mandolineref35_Plan.l1 : Nat → List (S48) → Int → List (S48) → List (S48) → List (S48) → List Int → Int → Int → Int → Int → Int → Int → Int → Int → Int → Int → Int → Int → Int → Int → Option ((List (S48)) × Int)
 | 0, _, _, _, _, _, _, _, _, _, _, _, _, _, _, _, _, _, _, _, _ => none
 | k + 1, x1, x2, x10, x11, x12, x47, x48, x49, x441000, x441001, x441002, x441003, x441004, x441005, x441006, x441007, x441008, x441009, x449000, x449001 => if x49 < x48 then (if 0 ≤ x49 then (if x49 < (x47.length : Int) then ((mandolineref35_Fetch.f k x449000 (rd x47 x49) x10 x1 x2 x441000 x441001 x441002 x441003 x441004 x441005 x441006 x441007 x441008 x441009).bind fun t454 => (if t454 = true then (mandolineref35_Plan.l1 k x1 x2 x10 x11 x12 x47 x48 (wrap64 (x49 + 1)) x441000 x441001 x441002 x441003 x441004 x441005 x441006 x441007 x441008 x441009 x449000 (rd x47 x49)) else (mandolineref35_Plan.l1 k x1 x2 x10 x11 x12 x47 x48 (wrap64 (x49 + 1)) x441000 x441001 x441002 x441003 x441004 x441005 x441006 x441007 x441008 x441009 x449000 x449001))) else (none)) else (none)) else (if x11.length < 8796093022208 then ((mandolineref02_Less.f k x12 (([(⟨x449000, x449001⟩ : S48)] : List (S48)))).bind fun t461 => (mandolineref35_Plan.l0 k x1 x2 x10 (x11 ++ [(⟨x449000, x449001⟩ : S48)]) t461 x441000 x441001 x441002 x441003 x441004 x441005 x441006 x441007 x441008 x441009)) else (none))
end
def mandolineref35_Plan.f (k : Nat) (l0 : List (S48)) (l1 : List (S48)) (a2 : Int) (a3_0 : Int) (a3_1 : Int) (a3_2 : Int) (a3_3 : Int) (a3_4 : Int) (a3_5 : Int) (a3_6 : Int) (a3_7 : Int) (a3_8 : Int) (a3_9 : Int) : Option ((List (S48)) × Int) := (mandolineref35_argOk.f k a2 a3_0 a3_1 a3_2 a3_3 a3_4 a3_5 a3_6 a3_7 a3_8 a3_9).bind fun t441 => (if t441 = true then ((mandolineref35_Units.f k l0 a2 a3_0).bind fun t442 => ((mandolineref35_held.f k t442 l1).bind fun t445 => (if t445 = true then (some (([] : List (S48)), 15)) else (mandolineref35_Plan.l0 k l1 a2 t442 ([] : List (S48)) t442 a3_0 a3_1 a3_2 a3_3 a3_4 a3_5 a3_6 a3_7 a3_8 a3_9)))) else (some (([] : List (S48)), 1)))
def mandolineref35_Plan.T9 : Bool × List (List Nat × List Nat) := (true, [([], []), ([0], [0]), ([1], [1]), ([2], [2]), ([], []), ([4], [4]), ([5], [5]), ([6], [6]), ([3, 7], [3, 7]), ([], []), ([9, 8, 0, 1, 2, 3, 4, 5, 6, 7, 8, 9], [8, 9])])
def mandolineref35_Plan.B9 : List Nat := [0, 1, 3, 7, 0, 16, 48, 112, 255, 0, 1023]
theorem mandolineref35_Plan.tab9 : rtab .any (opsOf Try.f14 9) = mandolineref35_Plan.T9 := by kernel_rfl
theorem mandolineref35_Plan.bits9 : waitsOk mandolineref35_Plan.T9.2 mandolineref35_Plan.B9 = true := by kernel_rfl
set_option maxHeartbeats 8000000 in
set_option maxRecDepth 100000 in
theorem mandolineref35_Plan.calls (k : Nat) (A0 : Option Addr) (c0 : Nat) (l0 : List (S48)) (A1 : Option Addr) (c1 : Nat) (l1 : List (S48)) (a2 : Int) (a3_0 : Int) (a3_1 : Int) (a3_2 : Int) (a3_3 : Int) (a3_4 : Int) (a3_5 : Int) (a3_6 : Int) (a3_7 : Int) (a3_8 : Int) (a3_9 : Int) (r1 : List (S48)) (r2 : Int) (w : World) (hr0 : Kd.C k48 w A0 l0.length l0) (hc0 : l0.length ≤ c0) (hr1 : Kd.C k48 w A1 l1.length l1) (hc1 : l1.length ≤ c1) (h : mandolineref35_Plan.f k l0 l1 a2 a3_0 a3_1 a3_2 a3_3 a3_4 a3_5 a3_6 a3_7 a3_8 a3_9 = some (r1, r2)) :
  Calls Try.prog 14 #[.slice A0 l0.length c0, .slice A1 l1.length c1, .int .i64 a2, .agg #[.int .i64 a3_0, .int .i64 a3_1, .int .i64 a3_2, .int .i64 a3_3, .int .i64 a3_4, .int .i64 a3_5, .int .i64 a3_6, .int .i64 a3_7, .int .i64 a3_8, .int .i64 a3_9]] w fun e w' => ∃ v0_ : Value, e = .returned (.tuple #[v0_, .int .i64 r2]) ∧ Kd.R k48 48 w' w.heap.size (fun _ => True) v0_ r1 ∧ Below w.heap.size w w' := by
 have hu24 := Try.underlying24
 have hu48 := Try.underlying48
 have HR0 := Aside0.mk hr0
 have HC0 := Aside0.mk hc0
 clear hr0 hc0
 have HR1 := Aside0.mk hr1
 have HC1 := Aside0.mk hc1
 clear hr1 hc1
 have HB := Aside0.mk (Below.refl w.heap.size w)
 unfold mandolineref35_Plan.f at h
 have H := h
 clear h
 obtain ⟨t441, A5, H⟩ := bO H
 by_cases c6 : t441 = true
 ·subst c6
  rw [if_pos rfl] at H
  obtain ⟨t442, A7, H⟩ := bO H
  obtain ⟨t445, A8, H⟩ := bO H
  by_cases c9 : t445 = true
  ·subst c9
   rw [if_pos rfl] at H
   simp only [Option.some.injEq, Prod.mk.injEq] at H
   obtain ⟨rfl, rfl⟩ := H
   go_enter Try.func14, Try.ntmps14
   go_wp2_with (first | ((with_reducible refine gate_dst (N := 7) rfl ?_); refine bX (N := 7) (cs := #[.int .i64 a3_0, .int .i64 a3_1, .int .i64 a3_2, .int .i64 a3_3, .int .i64 a3_4, .int .i64 a3_5, .int .i64 a3_6, .int .i64 a3_7, .int .i64 a3_8, .int .i64 a3_9]) (t := 24) ?_; intro gb440 hg w10 hbox hb; have BK440 := Aside0.mk (hbox); have GE440 := sG HB hg; replace HB := sL HB hb; clear hb hbox hg; obtain ⟨hcz11_0, hcz11_1, hcz11_2, hcz11_3, hcz11_4, hcz11_5, hcz11_6, hcz11_7, hcz11_8, hcz11_9⟩ := q10 BK440; obtain ⟨hfz11_0, hfz11_1, hfz11_2, hfz11_3, hfz11_4, hfz11_5, hfz11_6, hfz11_7, hfz11_8, hfz11_9⟩ := z10 BK440) | ((with_reducible refine gate_callee (f := 34) rfl ?_); refine gL (some 19) rfl rfl Try.func34 #[.int .i64 a2, .agg #[.int .i64 a3_0, .int .i64 a3_1, .int .i64 a3_2, .int .i64 a3_3, .int .i64 a3_4, .int .i64 a3_5, .int .i64 a3_6, .int .i64 a3_7, .int .i64 a3_8, .int .i64 a3_9]] rfl ?_; (with_reducible refine (mandolineref35_argOk.calls k a2 a3_0 a3_1 a3_2 a3_3 a3_4 a3_5 a3_6 a3_7 a3_8 a3_9 true _ A5.out).mono ?_); rintro e w12 ⟨rfl, hb⟩; refine ⟨_, rfl, ?_⟩; replace BK440 := sB BK440 hb; replace HB := sL HB hb; (try clear hb); (try clear hb2); (try clear hk); (try clear hi); obtain ⟨hcz13_0, hcz13_1, hcz13_2, hcz13_3, hcz13_4, hcz13_5, hcz13_6, hcz13_7, hcz13_8, hcz13_9⟩ := q10 BK440; obtain ⟨hfz13_0, hfz13_1, hfz13_2, hfz13_3, hfz13_4, hfz13_5, hfz13_6, hfz13_7, hfz13_8, hfz13_9⟩ := z10 BK440) | ((with_reducible refine gate_callee (f := 17) rfl ?_); refine gL (some 25) rfl rfl Try.func17 #[.slice A0 l0.length c0, .int .i64 a2, .int .i64 a3_0] rfl ?_; (with_reducible refine (mandolineref35_Units.calls k _ _ l0 a2 a3_0 t442 _ (cU (Kd.C_below HR0.out HB.out)) HC0.out A7.out).mono ?_); rintro e w14 ⟨v443, rfl, ho0, hb⟩; refine ⟨_, rfl, ?_⟩; have HO444 := Aside0.mk (Kd.R_lower ho0 (below_size (lU HB))); replace BK440 := sB BK440 hb; replace HB := sL HB hb; (try clear hb); (try clear hb2); (try clear hk); (try clear hi); (try clear ho0); obtain ⟨Ao15, co15, eo15⟩ := Kd.R_slice HO444.out; subst eo15) | ((with_reducible refine gate_callee (f := 35) rfl ?_); refine gL (some 28) rfl rfl Try.func35 #[.slice Ao15 t442.length co15, .slice A1 l1.length c1] rfl ?_; (with_reducible refine (mandolineref35_held.calls k _ _ t442 _ _ l1 true _ (cU (rC HO444)) (rN HO444) (cU (Kd.C_below HR1.out HB.out)) HC1.out A8.out).mono ?_); rintro e w16 ⟨rfl, hb⟩; refine ⟨_, rfl, ?_⟩; replace HO444 := rB HO444 hb; replace BK440 := sB BK440 hb; replace HB := sL HB hb; (try clear hb); (try clear hb2); (try clear hk); (try clear hi)))
   go_ret2
   exact ⟨_, eW, by first | exact Kd.R_nil _ _ _ _ _ | exact Kd.N_nil _ _ _ _ _ | exact Kd.V_nil _ _ _ _ _ | exact Kd.Q_nil _ _ _ _ _ | exact Kd.S_nil _ _ _ _ _, lU HB⟩
  ·replace c9 := Bool.eq_false_iff.mpr c9
   subst c9
   rw [if_neg (show ¬ (false = true) by decide)] at H
   have H' := Aside0.mk H
   clear H
   go_enter Try.func14, Try.ntmps14
   go_wp2_with (first | ((with_reducible refine gate_dst (N := 7) rfl ?_); refine bX (N := 7) (cs := #[.int .i64 a3_0, .int .i64 a3_1, .int .i64 a3_2, .int .i64 a3_3, .int .i64 a3_4, .int .i64 a3_5, .int .i64 a3_6, .int .i64 a3_7, .int .i64 a3_8, .int .i64 a3_9]) (t := 24) ?_; intro gb440 hg w17 hbox hb; have BK440 := Aside0.mk (hbox); have GE440 := sG HB hg; replace HB := sL HB hb; clear hb hbox hg; obtain ⟨hcz18_0, hcz18_1, hcz18_2, hcz18_3, hcz18_4, hcz18_5, hcz18_6, hcz18_7, hcz18_8, hcz18_9⟩ := q10 BK440; obtain ⟨hfz18_0, hfz18_1, hfz18_2, hfz18_3, hfz18_4, hfz18_5, hfz18_6, hfz18_7, hfz18_8, hfz18_9⟩ := z10 BK440) | ((with_reducible refine gate_callee (f := 34) rfl ?_); refine gL (some 19) rfl rfl Try.func34 #[.int .i64 a2, .agg #[.int .i64 a3_0, .int .i64 a3_1, .int .i64 a3_2, .int .i64 a3_3, .int .i64 a3_4, .int .i64 a3_5, .int .i64 a3_6, .int .i64 a3_7, .int .i64 a3_8, .int .i64 a3_9]] rfl ?_; (with_reducible refine (mandolineref35_argOk.calls k a2 a3_0 a3_1 a3_2 a3_3 a3_4 a3_5 a3_6 a3_7 a3_8 a3_9 true _ A5.out).mono ?_); rintro e w19 ⟨rfl, hb⟩; refine ⟨_, rfl, ?_⟩; replace BK440 := sB BK440 hb; replace HB := sL HB hb; (try clear hb); (try clear hb2); (try clear hk); (try clear hi); obtain ⟨hcz20_0, hcz20_1, hcz20_2, hcz20_3, hcz20_4, hcz20_5, hcz20_6, hcz20_7, hcz20_8, hcz20_9⟩ := q10 BK440; obtain ⟨hfz20_0, hfz20_1, hfz20_2, hfz20_3, hfz20_4, hfz20_5, hfz20_6, hfz20_7, hfz20_8, hfz20_9⟩ := z10 BK440) | ((with_reducible refine gate_callee (f := 17) rfl ?_); refine gL (some 25) rfl rfl Try.func17 #[.slice A0 l0.length c0, .int .i64 a2, .int .i64 a3_0] rfl ?_; (with_reducible refine (mandolineref35_Units.calls k _ _ l0 a2 a3_0 t442 _ (cU (Kd.C_below HR0.out HB.out)) HC0.out A7.out).mono ?_); rintro e w21 ⟨v443, rfl, ho0, hb⟩; refine ⟨_, rfl, ?_⟩; have HO444 := Aside0.mk (Kd.R_lower ho0 (below_size (lU HB))); replace BK440 := sB BK440 hb; replace HB := sL HB hb; (try clear hb); (try clear hb2); (try clear hk); (try clear hi); (try clear ho0); obtain ⟨Ao22, co22, eo22⟩ := Kd.R_slice HO444.out; subst eo22) | ((with_reducible refine gate_callee (f := 35) rfl ?_); refine gL (some 28) rfl rfl Try.func35 #[.slice Ao22 t442.length co22, .slice A1 l1.length c1] rfl ?_; (with_reducible refine (mandolineref35_held.calls k _ _ t442 _ _ l1 false _ (cU (rC HO444)) (rN HO444) (cU (Kd.C_below HR1.out HB.out)) HC1.out A8.out).mono ?_); rintro e w23 ⟨rfl, hb⟩; refine ⟨_, rfl, ?_⟩; replace HO444 := rB HO444 hb; replace BK440 := sB BK440 hb; replace HB := sL HB hb; (try clear hb); (try clear hb2); (try clear hk); (try clear hi)))
   go_loopg [11, 12] k (fun kq v11 v12 w' => ∃ (x11_1 : List (S48)) (x12_1 : List (S48)), Aside0 (mandolineref35_Plan.l0 kq l1 a2 t442 x11_1 x12_1 a3_0 a3_1 a3_2 a3_3 a3_4 a3_5 a3_6 a3_7 a3_8 a3_9 = some (r1, r2)) ∧ Aside0 (kq ≤ k) ∧ Aside0 (Kd.R k48 48 w' w.heap.size (fun k_ => some k_ ≠ (v11 : Value).ownBlock) (.slice Ao22 t442.length co22) t442) ∧ Aside0 (Kd.R k48 48 w' w.heap.size (fun k_ => some k_ ≠ ((.slice Ao22 t442.length co22) : Value).ownBlock ∧ some k_ ≠ (v12 : Value).ownBlock) v11 x11_1) ∧ Aside0 (Kd.R k48 48 w' w.heap.size (fun k_ => some k_ ≠ (v11 : Value).ownBlock) v12 x12_1) ∧ Aside0 (w'.heap[gb440]? = some (.cells #[.int .i64 a3_0, .int .i64 a3_1, .int .i64 a3_2, .int .i64 a3_3, .int .i64 a3_4, .int .i64 a3_5, .int .i64 a3_6, .int .i64 a3_7, .int .i64 a3_8, .int .i64 a3_9] 24 (0, 0))) ∧ Aside0 (Below w.heap.size w w'))
   case atStart => exact ⟨(([] : List (S48))), (t442), H', ⟨Nat.le_refl _⟩, ⟨rU (Kd.R_mono HO444.out (fun _ hk => (by simp [Value.ownBlock])))⟩, ⟨by first | exact Kd.R_nil _ _ _ _ _ | exact Kd.N_nil _ _ _ _ _ | exact Kd.V_nil _ _ _ _ _ | exact Kd.Q_nil _ _ _ _ _ | exact Kd.S_nil _ _ _ _ _⟩, ⟨rU (Kd.R_mono HO444.out (fun _ hk => (by simp [Value.ownBlock])))⟩, ⟨bU BK440⟩, ⟨lU HB⟩⟩
   case round =>
    clear H'
    try clear c1
    try clear p2
    try clear c3
    try clear c6
    try clear c9
    try clear c14
    try clear c17
    try clear hcz11_0
    try clear hcz11_1
    try clear hcz11_2
    try clear hcz11_3
    try clear hcz11_4
    try clear hcz11_5
    try clear hcz11_6
    try clear hcz11_7
    try clear hcz11_8
    try clear hcz11_9
    try clear hcz13_0
    try clear hcz13_1
    try clear hcz13_2
    try clear hcz13_3
    try clear hcz13_4
    try clear hcz13_5
    try clear hcz13_6
    try clear hcz13_7
    try clear hcz13_8
    try clear hcz13_9
    try clear hcz18_0
    try clear hcz18_1
    try clear hcz18_2
    try clear hcz18_3
    try clear hcz18_4
    try clear hcz18_5
    try clear hcz18_6
    try clear hcz18_7
    try clear hcz18_8
    try clear hcz18_9
    try clear hcz20_0
    try clear hcz20_1
    try clear hcz20_2
    try clear hcz20_3
    try clear hcz20_4
    try clear hcz20_5
    try clear hcz20_6
    try clear hcz20_7
    try clear hcz20_8
    try clear hcz20_9
    try clear hfz11_0
    try clear hfz11_1
    try clear hfz11_2
    try clear hfz11_3
    try clear hfz11_4
    try clear hfz11_5
    try clear hfz11_6
    try clear hfz11_7
    try clear hfz11_8
    try clear hfz11_9
    try clear hfz13_0
    try clear hfz13_1
    try clear hfz13_2
    try clear hfz13_3
    try clear hfz13_4
    try clear hfz13_5
    try clear hfz13_6
    try clear hfz13_7
    try clear hfz13_8
    try clear hfz13_9
    try clear hfz18_0
    try clear hfz18_1
    try clear hfz18_2
    try clear hfz18_3
    try clear hfz18_4
    try clear hfz18_5
    try clear hfz18_6
    try clear hfz18_7
    try clear hfz18_8
    try clear hfz18_9
    try clear hfz20_0
    try clear hfz20_1
    try clear hfz20_2
    try clear hfz20_3
    try clear hfz20_4
    try clear hfz20_5
    try clear hfz20_6
    try clear hfz20_7
    try clear hfz20_8
    try clear hfz20_9
    obtain ⟨x11_1, x12_1, HA, HK1, HO_10, HO_11, HO_12, BK440, HB⟩ := hrel
    cases gk with
    | zero => exact absurd HA.out (by simp [mandolineref35_Plan.l0])
    | succ k1 =>
     have H := HA.out
     clear HA
     simp only [mandolineref35_Plan.l0] at H
     by_cases c24 : (x12_1.length : Int) > 0
     ·rw [if_pos c24] at H
      have c24b0 : decide (0 < (x12_1.length : Int)) = true := decide_eq_true c24
      have c24b1 : decide (0 < x12_1.length) = true := decide_eq_true (by omega)
      clear c24
      by_cases c25 : 0 < (x12_1.length : Int)
      ·rw [if_pos c25] at H
       have c25b0 : decide (0 < (x12_1.length : Int)) = true := decide_eq_true c25
       have c25b1 : decide (0 < x12_1.length) = true := decide_eq_true (by omega)
       clear c25
       obtain ⟨t449, A26, H⟩ := bO H
       have H' := Aside0.mk H
       clear H
       obtain ⟨Ao27, co27, eo27⟩ := Kd.R_slice HO_12.out
       subst eo27
       try go_wp2
       replace HO_10 := Aside0.mk (Kd.R_drew HO_10.out)
       replace HO_11 := Aside0.mk (Kd.R_drew HO_11.out)
       replace HO_12 := Aside0.mk (Kd.R_drew HO_12.out)
       replace BK440 := Aside0.mk (blk_drew BK440.out)
       replace HB := Aside0.mk (below_drew1 HB.out)
       have p446 : 0 ≤ (0 : Int) := (by omega)
       have q446 : 0 < (x12_1.length : Int) := of_decide_eq_true (by first | (with_reducible assumption) | assumption)
       obtain ⟨ad446, e446, hx446_0, hx446_1⟩ := at_T48 (rC HO_12) 0 p446 q446
       cases e446
       have qi446 : (0 < x12_1.length) = True := eq_true (by omega)
       (try rw [show ((0 : Int)).toNat = 0 from rfl] at hx446_0)
       (try rw [show 0 * 2 = 0 from rfl] at hx446_0)
       (try rw [Addr.add_zero'] at hx446_0)
       (try rw [show ((0 : Int)).toNat = 0 from rfl] at hx446_1)
       (try rw [show 0 * 2 = 0 from rfl] at hx446_1)
       (try rw [Addr.add_zero'] at hx446_1)
       replace p446 := eq_true p446
       replace q446 := eq_true q446
       have p447 : 0 ≤ (0 : Int) := (by omega)
       have q447 : 0 < (x12_1.length : Int) := of_decide_eq_true (by first | (with_reducible assumption) | assumption)
       obtain ⟨ad447, e447, hx447_0, hx447_1⟩ := at_T48 (rC HO_12) 0 p447 q447
       obtain rfl : ad446 = ad447 := (by injection e447)
       have qi447 : (0 < x12_1.length) = True := eq_true (by omega)
       (try rw [show ((0 : Int)).toNat = 0 from rfl] at hx447_0)
       (try rw [show 0 * 2 = 0 from rfl] at hx447_0)
       (try rw [Addr.add_zero'] at hx447_0)
       (try rw [show ((0 : Int)).toNat = 0 from rfl] at hx447_1)
       (try rw [show 0 * 2 = 0 from rfl] at hx447_1)
       (try rw [Addr.add_zero'] at hx447_1)
       replace p447 := eq_true p447
       replace q447 := eq_true q447
       refine start_ (n := 11) (S := fun w' => w'.cell? ad446 = some (.int .i64 ((rd_T48 x12_1 0).f0)) ∧ w'.cell? ⟨ad446.block, ad446.off + 1, none⟩ = some (.int .i64 ((rd_T48 x12_1 0).f1)) ∧ w'.cell? ad446 = some (.int .i64 ((rd_T48 x12_1 0).f0)) ∧ w'.cell? ⟨ad446.block, ad446.off + 1, none⟩ = some (.int .i64 ((rd_T48 x12_1 0).f1))) (ds := []) #[false, false, false, false, false, false, false, false, false, false, false] (by kernel_rfl) rfl rfl ⟨hx446_0, hx446_1, hx447_0, hx447_1⟩ (fun hHeld => ?_); refine with_tabW mandolineref35_Plan.tab9 mandolineref35_Plan.bits9 (fun HT_ HW_ => ?_)
       generalize wr.drew = w28 at HO_10 HO_11 HO_12 BK440 HB hx446_0 hx446_1 hx447_0 hx447_1 hHeld ⊢
       refine pS (i := 0) (N := some 33) (ma 11 1) rfl rfl HT_.out ?_
       refine pS (i := 1) (N := some 34) (ma 11 3) rfl rfl HT_.out ?_
       refine pS (i := 2) (N := some 35) (ma 11 7) rfl rfl HT_.out ?_
       refine pS (i := 4) (N := some 37) (ma 11 23) rfl rfl HT_.out ?_
       refine pS (i := 5) (N := some 38) (ma 11 55) rfl rfl HT_.out ?_
       refine pS (i := 6) (N := some 39) (ma 11 119) rfl rfl HT_.out ?_
       refine tS (i := 3) (N := some 36) (ma 11 127) rfl rfl HT_.out HW_.out hHeld ?_
       refine tS (i := 7) (N := some 40) (ma 11 255) rfl rfl HT_.out HW_.out hHeld ?_
       refine pS (i := 8) (N := some 41) (ma 11 511) rfl rfl HT_.out ?_
       refine one_ (i := 9) (N := some 13) (ma 11 1023) rfl rfl (one_of HT_.out (by kernel_rfl)) (by decide) (fun K hK => ?_)
       refine bY (N := 13) (cs := #[.int .i64 0, .int .i64 0]) (t := 48) ?_
       intro gb448 hg w29 hbox hb
       have HS0_ := (hb.cell (World.block_lt_of_cell? _ _ (hHeld.1))).trans (hHeld.1)
       have HS1_ := (hb.cell (World.block_lt_of_cell? _ _ (hHeld.2.1))).trans (hHeld.2.1)
       have HS2_ := (hb.cell (World.block_lt_of_cell? _ _ (hHeld.2.2.1))).trans (hHeld.2.2.1)
       have HS3_ := (hb.cell (World.block_lt_of_cell? _ _ (hHeld.2.2.2))).trans (hHeld.2.2.2)
       have BK448 := Aside0.mk (hbox)
       have GE448 := sG HB hg
       have NB440_448 := sN BK440 hg
       have NB448_440 := sM BK440 hg
       replace HO_10 := Aside0.mk (Kd.R_below (Kd.R_elderB (rU HO_10.out) gb448 (Nat.le_of_eq hg.symm)) hb)
       replace HO_11 := Aside0.mk (Kd.R_below (Kd.R_elderB (rU HO_11.out) gb448 (Nat.le_of_eq hg.symm)) hb)
       replace HO_12 := Aside0.mk (Kd.R_below (Kd.R_elderB (rU HO_12.out) gb448 (Nat.le_of_eq hg.symm)) hb)
       replace BK440 := sB BK440 hb
       replace HB := sL HB hb
       clear hb hbox hg
       refine hK.out _ _ ⟨HS0_, HS1_, HS2_, HS3_⟩ (fun hHeld => ?_)
       clear hK K
       refine nP (some 13) ?_
       refine one_ (i := 10) (N := none) (ma 11 2047) rfl rfl (one_of HT_.out (by kernel_rfl)) (by decide) (fun K hK => ?_)
       have hs30 : w29.cell? ⟨gb448, 0, none⟩ = some (.int .i64 0) := (blk_cell BK448.out 0).trans rfl
       have hfs30 := blk_frozen BK448.out 0
       have hns30_0 := NB440_448.out
       have hms30_0 := NB448_440.out
       have hs31 : w29.cell? ⟨gb448, 1, none⟩ = some (.int .i64 0) := (blk_cell BK448.out 1).trans rfl
       have hfs31 := blk_frozen BK448.out 1
       have hns31_0 := NB440_448.out
       have hms31_0 := NB448_440.out
       refine skip_ (w1 := ?_) (by rfl) rfl ?_ ?_
       rotate_left
       ·go_simp
        rfl
       refine hK.out _ _ ⟨((cell_far (p := ⟨gb448, _, none⟩) (by first | exact Kd.own_blk (Kd.R_away HO_12.out (fun _ hk => hk.2)) | (rw [add_block]; exact Kd.own_blk (Kd.R_away HO_12.out (fun _ hk => hk.2))) | (show (Addr.add _ _).block ≠ _; rw [add_block]; exact Kd.own_blk (Kd.R_away HO_12.out (fun _ hk => hk.2))) | (dsimp only; exact Kd.own_blk (Kd.R_away HO_12.out (fun _ hk => hk.2)))) _).trans (((cell_far (p := ⟨gb448, _, none⟩) (by first | exact Kd.own_blk (Kd.R_away HO_12.out (fun _ hk => hk.2)) | (rw [add_block]; exact Kd.own_blk (Kd.R_away HO_12.out (fun _ hk => hk.2))) | (show (Addr.add _ _).block ≠ _; rw [add_block]; exact Kd.own_blk (Kd.R_away HO_12.out (fun _ hk => hk.2))) | (dsimp only; exact Kd.own_blk (Kd.R_away HO_12.out (fun _ hk => hk.2)))) _).trans (hHeld.1)))), ((cell_far (p := ⟨gb448, _, none⟩) (by first | exact Kd.own_blk (Kd.R_away HO_12.out (fun _ hk => hk.2)) | (rw [add_block]; exact Kd.own_blk (Kd.R_away HO_12.out (fun _ hk => hk.2))) | (show (Addr.add _ _).block ≠ _; rw [add_block]; exact Kd.own_blk (Kd.R_away HO_12.out (fun _ hk => hk.2))) | (dsimp only; exact Kd.own_blk (Kd.R_away HO_12.out (fun _ hk => hk.2)))) _).trans (((cell_far (p := ⟨gb448, _, none⟩) (by first | exact Kd.own_blk (Kd.R_away HO_12.out (fun _ hk => hk.2)) | (rw [add_block]; exact Kd.own_blk (Kd.R_away HO_12.out (fun _ hk => hk.2))) | (show (Addr.add _ _).block ≠ _; rw [add_block]; exact Kd.own_blk (Kd.R_away HO_12.out (fun _ hk => hk.2))) | (dsimp only; exact Kd.own_blk (Kd.R_away HO_12.out (fun _ hk => hk.2)))) _).trans (hHeld.2.1)))), ((cell_far (p := ⟨gb448, _, none⟩) (by first | exact Kd.own_blk (Kd.R_away HO_12.out (fun _ hk => hk.2)) | (rw [add_block]; exact Kd.own_blk (Kd.R_away HO_12.out (fun _ hk => hk.2))) | (show (Addr.add _ _).block ≠ _; rw [add_block]; exact Kd.own_blk (Kd.R_away HO_12.out (fun _ hk => hk.2))) | (dsimp only; exact Kd.own_blk (Kd.R_away HO_12.out (fun _ hk => hk.2)))) _).trans (((cell_far (p := ⟨gb448, _, none⟩) (by first | exact Kd.own_blk (Kd.R_away HO_12.out (fun _ hk => hk.2)) | (rw [add_block]; exact Kd.own_blk (Kd.R_away HO_12.out (fun _ hk => hk.2))) | (show (Addr.add _ _).block ≠ _; rw [add_block]; exact Kd.own_blk (Kd.R_away HO_12.out (fun _ hk => hk.2))) | (dsimp only; exact Kd.own_blk (Kd.R_away HO_12.out (fun _ hk => hk.2)))) _).trans (hHeld.2.2.1)))), ((cell_far (p := ⟨gb448, _, none⟩) (by first | exact Kd.own_blk (Kd.R_away HO_12.out (fun _ hk => hk.2)) | (rw [add_block]; exact Kd.own_blk (Kd.R_away HO_12.out (fun _ hk => hk.2))) | (show (Addr.add _ _).block ≠ _; rw [add_block]; exact Kd.own_blk (Kd.R_away HO_12.out (fun _ hk => hk.2))) | (dsimp only; exact Kd.own_blk (Kd.R_away HO_12.out (fun _ hk => hk.2)))) _).trans (((cell_far (p := ⟨gb448, _, none⟩) (by first | exact Kd.own_blk (Kd.R_away HO_12.out (fun _ hk => hk.2)) | (rw [add_block]; exact Kd.own_blk (Kd.R_away HO_12.out (fun _ hk => hk.2))) | (show (Addr.add _ _).block ≠ _; rw [add_block]; exact Kd.own_blk (Kd.R_away HO_12.out (fun _ hk => hk.2))) | (dsimp only; exact Kd.own_blk (Kd.R_away HO_12.out (fun _ hk => hk.2)))) _).trans (hHeld.2.2.2))))⟩ (fun hHeld => ?_)
       clear hK K
       refine done_ (done_of HT_.out (by kernel_rfl)) ?_
       have hnb32 := NB448_440.out
       have hnc32 := NB440_448.out
       obtain ⟨hcz33_0, hcz33_1⟩ := q2 BK448
       obtain ⟨hfz33_0, hfz33_1⟩ := z2 BK448
       obtain ⟨hcz34_0, hcz34_1, hcz34_2, hcz34_3, hcz34_4, hcz34_5, hcz34_6, hcz34_7, hcz34_8, hcz34_9⟩ := q10 BK440
       obtain ⟨hfz34_0, hfz34_1, hfz34_2, hfz34_3, hfz34_4, hfz34_5, hfz34_6, hfz34_7, hfz34_8, hfz34_9⟩ := z10 BK440
       try go_wp2_with (first | ((with_reducible refine gate_callee (f := 36) rfl ?_); refine gL (some 47) rfl rfl Try.func36 #[.slice (some ad446) x12_1.length co27, .int .i64 ((rd_T48 x12_1 0).f0), .int .i64 a3_0] rfl ?_; (with_reducible refine (mandolineref35_Ends.calls k1 _ _ x12_1 ((rd_T48 x12_1 0).f0) a3_0 t449 _ ?side1 ?side2 A26.out).mono ?_); (case side1 => refine (Kd.R_reads' (e := 48) (base := w.heap.size) (ok := fun k_ => (some k_ ≠ (u11 : Value).ownBlock ∧ k_ ≠ gb448)) (n := x12_1.length) (c := co27) ?_).2.2; exact (rU ((Kd.R_mono (Kd.R_far (p := ⟨gb448, 1, none⟩) (Kd.R_far (p := ⟨gb448, 0, none⟩) (Kd.R_mono HO_12.out (fun k_ hk => (⟨hk, hk.2⟩ : _ ∧ k_ ≠ gb448))) (fun _ hk => hk.2) (.int .i64 ((rd_T48 x12_1 0).f0))) (fun _ hk => hk.2) (.int .i64 ((rd_T48 x12_1 0).f0))) (fun _ h_ => h_.1))))); (case side2 => exact (rN HO_12)); rintro e w35 ⟨v450, rfl, ho0, hb⟩; refine ⟨_, rfl, ?_⟩; have HO451 := Aside0.mk (Kd.R_lower ho0 (below_size (lU HB))); replace HO_10 := Aside0.mk (Kd.R_below (rU ((Kd.R_mono (Kd.R_far (p := ⟨gb448, 1, none⟩) (Kd.R_far (p := ⟨gb448, 0, none⟩) (Kd.R_mono HO_10.out (fun k_ hk => (⟨hk, hk.2⟩ : _ ∧ k_ ≠ gb448))) (fun _ hk => hk.2) (.int .i64 ((rd_T48 x12_1 0).f0))) (fun _ hk => hk.2) (.int .i64 ((rd_T48 x12_1 0).f0))) (fun _ h_ => h_.1)))) hb); replace HO_11 := Aside0.mk (Kd.R_below (rU ((Kd.R_mono (Kd.R_far (p := ⟨gb448, 1, none⟩) (Kd.R_far (p := ⟨gb448, 0, none⟩) (Kd.R_mono HO_11.out (fun k_ hk => (⟨hk, hk.2⟩ : _ ∧ k_ ≠ gb448))) (fun _ hk => hk.2) (.int .i64 ((rd_T48 x12_1 0).f0))) (fun _ hk => hk.2) (.int .i64 ((rd_T48 x12_1 0).f0))) (fun _ h_ => h_.1)))) hb); replace HO_12 := Aside0.mk (Kd.R_below (rU ((Kd.R_mono (Kd.R_far (p := ⟨gb448, 1, none⟩) (Kd.R_far (p := ⟨gb448, 0, none⟩) (Kd.R_mono HO_12.out (fun k_ hk => (⟨hk, hk.2⟩ : _ ∧ k_ ≠ gb448))) (fun _ hk => hk.2) (.int .i64 ((rd_T48 x12_1 0).f0))) (fun _ hk => hk.2) (.int .i64 ((rd_T48 x12_1 0).f0))) (fun _ h_ => h_.1)))) hb); replace BK440 := Aside0.mk (blk_below (g := gb440) (o := .cells #[.int .i64 a3_0, .int .i64 a3_1, .int .i64 a3_2, .int .i64 a3_3, .int .i64 a3_4, .int .i64 a3_5, .int .i64 a3_6, .int .i64 a3_7, .int .i64 a3_8, .int .i64 a3_9] 24 (0, 0)) (bF BK440) hb); replace BK448 := Aside0.mk (blk_below (g := gb448) (o := .cells #[.int .i64 ((rd_T48 x12_1 0).f0), .int .i64 ((rd_T48 x12_1 0).f0)] 48 (0, 0)) (by (with_reducible repeat (first | refine blk_drewN ?_ _ | refine blk_drew ?_ | refine blk_alloc ?_ _)); refine blk_put (cs := #[.int .i64 ((rd_T48 x12_1 0).f0), .int .i64 0]) ?_ 1 _ rfl; (with_reducible repeat (first | refine blk_drewN ?_ _ | refine blk_drew ?_ | refine blk_alloc ?_ _)); refine blk_put (cs := #[.int .i64 0, .int .i64 0]) ?_ 0 _ rfl; (with_reducible repeat (first | refine blk_drewN ?_ _ | refine blk_drew ?_ | refine blk_alloc ?_ _)); exact BK448.out) hb); replace HB := sL HB hb; (try clear hb); (try clear hb2); (try clear hk); (try clear hi); (try clear ho0); obtain ⟨Ao36, co36, eo36⟩ := Kd.R_slice HO451.out; subst eo36))
       go_loopg [49] k1 (fun kq v49 w' => ∃ (x49_2 : Int) (x449000_2 : Int) (x449001_2 : Int), v49 = .int .i64 x49_2 ∧ Aside0 (mandolineref35_Plan.l1 kq l1 a2 t442 x11_1 x12_1 t449 (t449.length : Int) x49_2 a3_0 a3_1 a3_2 a3_3 a3_4 a3_5 a3_6 a3_7 a3_8 a3_9 x449000_2 x449001_2 = some (r1, r2)) ∧ Aside0 (kq ≤ k1) ∧ Aside0 (Kd.R k48 48 w' w.heap.size (fun k_ => some k_ ≠ (u11 : Value).ownBlock ∧ k_ ≠ gb448) (.slice Ao22 t442.length co22) t442) ∧ Aside0 (Kd.R k48 48 w' w.heap.size (fun k_ => some k_ ≠ ((.slice Ao22 t442.length co22) : Value).ownBlock ∧ some k_ ≠ ((.slice (some ad446) x12_1.length co27) : Value).ownBlock ∧ k_ ≠ gb448) u11 x11_1) ∧ Aside0 (Kd.R k48 48 w' w.heap.size (fun k_ => some k_ ≠ (u11 : Value).ownBlock ∧ k_ ≠ gb448) (.slice (some ad446) x12_1.length co27) x12_1) ∧ Aside0 (Kd.R (Kd.int .i64) 2 w' w.heap.size (fun _ => True) (.slice Ao36 t449.length co36) t449) ∧ Aside0 (w'.heap[gb440]? = some (.cells #[.int .i64 a3_0, .int .i64 a3_1, .int .i64 a3_2, .int .i64 a3_3, .int .i64 a3_4, .int .i64 a3_5, .int .i64 a3_6, .int .i64 a3_7, .int .i64 a3_8, .int .i64 a3_9] 24 (0, 0))) ∧ Aside0 (w'.heap[gb448]? = some (.cells #[.int .i64 x449000_2, .int .i64 x449001_2] 48 (0, 0))) ∧ Aside0 (Below w.heap.size w w'))
       case atStart => exact ⟨(0), ((rd_T48 x12_1 0).f0), ((rd_T48 x12_1 0).f0), eR, H', ⟨Nat.le_refl _⟩, ⟨rU HO_10.out⟩, ⟨rU (Kd.R_mono HO_11.out (fun _ hk => ⟨hk.1.1, ⟨hk.1.2, hk.2⟩⟩))⟩, ⟨rU HO_12.out⟩, ⟨rU HO451.out⟩, ⟨bU BK440⟩, ⟨bU BK448⟩, ⟨lU HB⟩⟩
       case round =>
        clear H'
        try clear c1
        try clear c2
        try clear p2
        try clear c3
        try clear p4
        try clear q4
        try clear hx4
        try clear qi4
        try clear c6
        try clear c9
        try clear c14
        try clear c17
        try clear c24
        try clear c24b0
        try clear c24b1
        try clear c25
        try clear c25b0
        try clear c25b1
        try clear c32
        try clear c34
        try clear c35
        try clear c36
        try clear hcz11_0
        try clear hcz11_1
        try clear hcz11_2
        try clear hcz11_3
        try clear hcz11_4
        try clear hcz11_5
        try clear hcz11_6
        try clear hcz11_7
        try clear hcz11_8
        try clear hcz11_9
        try clear hcz13_0
        try clear hcz13_1
        try clear hcz13_2
        try clear hcz13_3
        try clear hcz13_4
        try clear hcz13_5
        try clear hcz13_6
        try clear hcz13_7
        try clear hcz13_8
        try clear hcz13_9
        try clear hcz18_0
        try clear hcz18_1
        try clear hcz18_2
        try clear hcz18_3
        try clear hcz18_4
        try clear hcz18_5
        try clear hcz18_6
        try clear hcz18_7
        try clear hcz18_8
        try clear hcz18_9
        try clear hcz20_0
        try clear hcz20_1
        try clear hcz20_2
        try clear hcz20_3
        try clear hcz20_4
        try clear hcz20_5
        try clear hcz20_6
        try clear hcz20_7
        try clear hcz20_8
        try clear hcz20_9
        try clear hcz33_0
        try clear hcz33_1
        try clear hcz34_0
        try clear hcz34_1
        try clear hcz34_2
        try clear hcz34_3
        try clear hcz34_4
        try clear hcz34_5
        try clear hcz34_6
        try clear hcz34_7
        try clear hcz34_8
        try clear hcz34_9
        try clear hfz11_0
        try clear hfz11_1
        try clear hfz11_2
        try clear hfz11_3
        try clear hfz11_4
        try clear hfz11_5
        try clear hfz11_6
        try clear hfz11_7
        try clear hfz11_8
        try clear hfz11_9
        try clear hfz13_0
        try clear hfz13_1
        try clear hfz13_2
        try clear hfz13_3
        try clear hfz13_4
        try clear hfz13_5
        try clear hfz13_6
        try clear hfz13_7
        try clear hfz13_8
        try clear hfz13_9
        try clear hfz18_0
        try clear hfz18_1
        try clear hfz18_2
        try clear hfz18_3
        try clear hfz18_4
        try clear hfz18_5
        try clear hfz18_6
        try clear hfz18_7
        try clear hfz18_8
        try clear hfz18_9
        try clear hfz20_0
        try clear hfz20_1
        try clear hfz20_2
        try clear hfz20_3
        try clear hfz20_4
        try clear hfz20_5
        try clear hfz20_6
        try clear hfz20_7
        try clear hfz20_8
        try clear hfz20_9
        try clear hfz33_0
        try clear hfz33_1
        try clear hfz34_0
        try clear hfz34_1
        try clear hfz34_2
        try clear hfz34_3
        try clear hfz34_4
        try clear hfz34_5
        try clear hfz34_6
        try clear hfz34_7
        try clear hfz34_8
        try clear hfz34_9
        try clear hx446_0
        try clear hx446_1
        try clear hx447_0
        try clear hx447_1
        try clear p2
        try clear p446
        try clear p447
        try clear q446
        try clear q447
        obtain ⟨x49_2, x449000_2, x449001_2, rfl, HA, HK2, HO_10, HO_11, HO_12, HO_47, BK440, BK448, HB⟩ := hrel
        cases gk with
        | zero => exact absurd HA.out (by simp [mandolineref35_Plan.l1])
        | succ k2 =>
         have H := HA.out
         clear HA
         simp only [mandolineref35_Plan.l1] at H
         by_cases c37 : x49_2 < (t449.length : Int)
         ·rw [if_pos c37] at H
          have c37b0 : decide (x49_2 < (t449.length : Int)) = true := decide_eq_true c37
          clear c37
          by_cases c38 : 0 ≤ x49_2
          ·rw [if_pos c38] at H
           have c38b0 : decide (0 ≤ x49_2) = true := decide_eq_true c38
           clear c38
           by_cases c39 : x49_2 < (t449.length : Int)
           ·rw [if_pos c39] at H
            have c39b0 : decide (x49_2 < (t449.length : Int)) = true := decide_eq_true c39
            clear c39
            obtain ⟨t454, A40, H⟩ := bO H
            by_cases c41 : t454 = true
            ·subst c41
             rw [if_pos rfl] at H
             have H' := Aside0.mk H
             clear H
             have p452 : 0 ≤ (x49_2 : Int) := of_decide_eq_true (by first | (with_reducible assumption) | assumption)
             have q452 : x49_2 < (t449.length : Int) := of_decide_eq_true (by first | (with_reducible assumption) | assumption)
             obtain ⟨ad452, e452, hx452_0⟩ := Kd.at_int (rC HO_47) x49_2 p452 q452
             cases e452
             replace p452 := eq_true p452
             replace q452 := eq_true q452
             have hnb42 := NB448_440.out
             have hnc42 := NB440_448.out
             obtain ⟨hcz43_0, hcz43_1⟩ := q2 BK448
             obtain ⟨hfz43_0, hfz43_1⟩ := z2 BK448
             go_wp2_with (first | ((with_reducible refine gate_dst (N := 16) rfl ?_); refine bX (N := 16) (cs := #[.int .i64 0, .int .i64 0]) (t := 48) ?_; intro gb453 hg w44 hbox hb; have BK453 := Aside0.mk (hbox); have GE453 := sG HB hg; have NB440_453 := sN BK440 hg; have NB453_440 := sM BK440 hg; have NB448_453 := sN BK448 hg; have NB453_448 := sM BK448 hg; replace HO_10 := Aside0.mk (Kd.R_below (Kd.R_elderB (rU HO_10.out) gb453 (Nat.le_of_eq hg.symm)) hb); replace HO_11 := Aside0.mk (Kd.R_below (Kd.R_elderB (rU HO_11.out) gb453 (Nat.le_of_eq hg.symm)) hb); replace HO_12 := Aside0.mk (Kd.R_below (Kd.R_elderB (rU HO_12.out) gb453 (Nat.le_of_eq hg.symm)) hb); replace HO_47 := rB HO_47 hb; replace BK440 := sB BK440 hb; replace BK448 := sB BK448 hb; replace HB := sL HB hb; clear hb hbox hg; have hnb45 := NB453_440.out; have hnc45 := NB440_453.out; have hnb46 := NB453_448.out; have hnc46 := NB448_453.out; obtain ⟨hcz47_0, hcz47_1⟩ := q2 BK453; obtain ⟨hfz47_0, hfz47_1⟩ := z2 BK453; obtain ⟨hcz48_0, hcz48_1, hcz48_2, hcz48_3, hcz48_4, hcz48_5, hcz48_6, hcz48_7, hcz48_8, hcz48_9⟩ := q10 BK440; obtain ⟨hfz48_0, hfz48_1, hfz48_2, hfz48_3, hfz48_4, hfz48_5, hfz48_6, hfz48_7, hfz48_8, hfz48_9⟩ := z10 BK440) | ((with_reducible refine gate_callee (f := 37) rfl ?_); refine gL (some 62) rfl rfl Try.func37 #[.agg #[.int .i64 x449000_2, .int .i64 (rd t449 x49_2)], .slice Ao22 t442.length co22, .slice A1 l1.length c1, .int .i64 a2, .agg #[.int .i64 a3_0, .int .i64 a3_1, .int .i64 a3_2, .int .i64 a3_3, .int .i64 a3_4, .int .i64 a3_5, .int .i64 a3_6, .int .i64 a3_7, .int .i64 a3_8, .int .i64 a3_9]] rfl ?_; (with_reducible refine (mandolineref35_Fetch.calls k2 x449000_2 (rd t449 x49_2) _ _ t442 _ _ l1 a2 a3_0 a3_1 a3_2 a3_3 a3_4 a3_5 a3_6 a3_7 a3_8 a3_9 true _ ?side1 ?side2 ?side3 ?side4 A40.out).mono ?_); (case side1 => refine (Kd.R_reads' (e := 48) (base := w.heap.size) (ok := fun k_ => ((some k_ ≠ (u11 : Value).ownBlock ∧ k_ ≠ gb448) ∧ k_ ≠ gb453)) (n := t442.length) (c := co22) ?_).2.2; exact (rU ((Kd.R_mono (Kd.R_far (p := ⟨gb453, 1, none⟩) (Kd.R_far (p := ⟨gb453, 0, none⟩) (Kd.R_mono HO_10.out (fun k_ hk => (⟨hk, hk.2⟩ : _ ∧ k_ ≠ gb453))) (fun _ hk => hk.2) (.int .i64 x449000_2)) (fun _ hk => hk.2) (.int .i64 (rd t449 x49_2))) (fun _ h_ => h_.1))))); (case side2 => exact (rN HO_10)); (case side3 => exact Kd.C_below HR1.out (lU HB)); (case side4 => exact HC1.out); rintro e w49 ⟨rfl, hb⟩; refine ⟨_, rfl, ?_⟩; replace HO_10 := Aside0.mk (Kd.R_below (rU ((Kd.R_mono (Kd.R_far (p := ⟨gb453, 1, none⟩) (Kd.R_far (p := ⟨gb453, 0, none⟩) (Kd.R_mono HO_10.out (fun k_ hk => (⟨hk, hk.2⟩ : _ ∧ k_ ≠ gb453))) (fun _ hk => hk.2) (.int .i64 x449000_2)) (fun _ hk => hk.2) (.int .i64 (rd t449 x49_2))) (fun _ h_ => h_.1)))) hb); replace HO_11 := Aside0.mk (Kd.R_below (rU ((Kd.R_mono (Kd.R_far (p := ⟨gb453, 1, none⟩) (Kd.R_far (p := ⟨gb453, 0, none⟩) (Kd.R_mono HO_11.out (fun k_ hk => (⟨hk, hk.2⟩ : _ ∧ k_ ≠ gb453))) (fun _ hk => hk.2) (.int .i64 x449000_2)) (fun _ hk => hk.2) (.int .i64 (rd t449 x49_2))) (fun _ h_ => h_.1)))) hb); replace HO_12 := Aside0.mk (Kd.R_below (rU ((Kd.R_mono (Kd.R_far (p := ⟨gb453, 1, none⟩) (Kd.R_far (p := ⟨gb453, 0, none⟩) (Kd.R_mono HO_12.out (fun k_ hk => (⟨hk, hk.2⟩ : _ ∧ k_ ≠ gb453))) (fun _ hk => hk.2) (.int .i64 x449000_2)) (fun _ hk => hk.2) (.int .i64 (rd t449 x49_2))) (fun _ h_ => h_.1)))) hb); replace HO_47 := Aside0.mk (Kd.R_below (rU ((Kd.R_mono (Kd.R_far (p := ⟨gb453, 1, none⟩) (Kd.R_far (p := ⟨gb453, 0, none⟩) (Kd.R_types HO_47.out BK453.out (by decide)) (fun _ hk => hk.2) (.int .i64 x449000_2)) (fun _ hk => hk.2) (.int .i64 (rd t449 x49_2))) (fun _ h_ => h_.1)))) hb); replace BK440 := Aside0.mk (blk_below (g := gb440) (o := .cells #[.int .i64 a3_0, .int .i64 a3_1, .int .i64 a3_2, .int .i64 a3_3, .int .i64 a3_4, .int .i64 a3_5, .int .i64 a3_6, .int .i64 a3_7, .int .i64 a3_8, .int .i64 a3_9] 24 (0, 0)) (bF BK440) hb); replace BK448 := Aside0.mk (blk_below (g := gb448) (o := .cells #[.int .i64 x449000_2, .int .i64 x449001_2] 48 (0, 0)) (bF BK448) hb); replace BK453 := Aside0.mk (blk_below (g := gb453) (o := .cells #[.int .i64 x449000_2, .int .i64 (rd t449 x49_2)] 48 (0, 0)) (by (with_reducible repeat (first | refine blk_drewN ?_ _ | refine blk_drew ?_ | refine blk_alloc ?_ _)); refine blk_put (cs := #[.int .i64 x449000_2, .int .i64 0]) ?_ 1 _ rfl; (with_reducible repeat (first | refine blk_drewN ?_ _ | refine blk_drew ?_ | refine blk_alloc ?_ _)); refine blk_put (cs := #[.int .i64 0, .int .i64 0]) ?_ 0 _ rfl; (with_reducible repeat (first | refine blk_drewN ?_ _ | refine blk_drew ?_ | refine blk_alloc ?_ _)); exact BK453.out) hb); replace HB := sL HB hb; (try clear hb); (try clear hb2); (try clear hk); (try clear hi); obtain ⟨hcz50_0, hcz50_1⟩ := q2 BK453; obtain ⟨hfz50_0, hfz50_1⟩ := z2 BK453; obtain ⟨hcz51_0, hcz51_1⟩ := q2 BK448; obtain ⟨hfz51_0, hfz51_1⟩ := z2 BK448))
             go_roundg k2
             case measure => have := HK1.out; have := HK2.out; omega
             case rel => exact ⟨(wrap64 (x49_2 + 1)), (x449000_2), (rd t449 x49_2), eR, H', ⟨by have := HK1.out; have := HK2.out; omega⟩, ⟨rU (Kd.R_mono (Kd.R_far (p := ⟨gb448, 1, none⟩) (Kd.R_far (p := ⟨gb448, 0, none⟩) (Kd.R_mono HO_10.out (fun k_ hk => (⟨hk, hk.1.2⟩ : _ ∧ k_ ≠ gb448))) (fun _ hk => hk.2) (.int .i64 x449000_2)) (fun _ hk => hk.2) (.int .i64 (rd t449 x49_2))) (fun _ hk => ⟨hk.1.1.1, hk.1.1.2⟩))⟩, ⟨rU (Kd.R_mono (Kd.R_far (p := ⟨gb448, 1, none⟩) (Kd.R_far (p := ⟨gb448, 0, none⟩) (Kd.R_mono HO_11.out (fun k_ hk => (⟨hk, hk.1.2.2⟩ : _ ∧ k_ ≠ gb448))) (fun _ hk => hk.2) (.int .i64 x449000_2)) (fun _ hk => hk.2) (.int .i64 (rd t449 x49_2))) (fun _ hk => ⟨hk.1.1.1, ⟨hk.1.1.2.1, hk.1.1.2.2⟩⟩))⟩, ⟨rU (Kd.R_mono (Kd.R_far (p := ⟨gb448, 1, none⟩) (Kd.R_far (p := ⟨gb448, 0, none⟩) (Kd.R_mono HO_12.out (fun k_ hk => (⟨hk, hk.1.2⟩ : _ ∧ k_ ≠ gb448))) (fun _ hk => hk.2) (.int .i64 x449000_2)) (fun _ hk => hk.2) (.int .i64 (rd t449 x49_2))) (fun _ hk => ⟨hk.1.1.1, hk.1.1.2⟩))⟩, ⟨rU (Kd.R_mono (Kd.R_far (p := ⟨gb448, 1, none⟩) (Kd.R_far (p := ⟨gb448, 0, none⟩) (Kd.R_types HO_47.out BK448.out (by decide)) (fun _ hk => hk.2) (.int .i64 x449000_2)) (fun _ hk => hk.2) (.int .i64 (rd t449 x49_2))) (fun _ hk => trivial))⟩, ⟨bF BK440⟩, ⟨by (with_reducible repeat (first | refine blk_drewN ?_ _ | refine blk_drew ?_ | refine blk_alloc ?_ _)); refine blk_put (cs := #[.int .i64 x449000_2, .int .i64 x449001_2]) ?_ 1 _ rfl; (with_reducible repeat (first | refine blk_drewN ?_ _ | refine blk_drew ?_ | refine blk_alloc ?_ _)); refine blk_put (cs := #[.int .i64 x449000_2, .int .i64 x449001_2]) ?_ 0 _ rfl; (with_reducible repeat (first | refine blk_drewN ?_ _ | refine blk_drew ?_ | refine blk_alloc ?_ _)); exact BK448.out⟩, ⟨lU HB⟩⟩
            ·replace c41 := Bool.eq_false_iff.mpr c41
             subst c41
             rw [if_neg (show ¬ (false = true) by decide)] at H
             have H' := Aside0.mk H
             clear H
             have p452 : 0 ≤ (x49_2 : Int) := of_decide_eq_true (by first | (with_reducible assumption) | assumption)
             have q452 : x49_2 < (t449.length : Int) := of_decide_eq_true (by first | (with_reducible assumption) | assumption)
             obtain ⟨ad452, e452, hx452_0⟩ := Kd.at_int (rC HO_47) x49_2 p452 q452
             cases e452
             replace p452 := eq_true p452
             replace q452 := eq_true q452
             have hnb52 := NB448_440.out
             have hnc52 := NB440_448.out
             obtain ⟨hcz53_0, hcz53_1⟩ := q2 BK448
             obtain ⟨hfz53_0, hfz53_1⟩ := z2 BK448
             go_wp2_with (first | ((with_reducible refine gate_dst (N := 16) rfl ?_); refine bX (N := 16) (cs := #[.int .i64 0, .int .i64 0]) (t := 48) ?_; intro gb453 hg w54 hbox hb; have BK453 := Aside0.mk (hbox); have GE453 := sG HB hg; have NB440_453 := sN BK440 hg; have NB453_440 := sM BK440 hg; have NB448_453 := sN BK448 hg; have NB453_448 := sM BK448 hg; replace HO_10 := Aside0.mk (Kd.R_below (Kd.R_elderB (rU HO_10.out) gb453 (Nat.le_of_eq hg.symm)) hb); replace HO_11 := Aside0.mk (Kd.R_below (Kd.R_elderB (rU HO_11.out) gb453 (Nat.le_of_eq hg.symm)) hb); replace HO_12 := Aside0.mk (Kd.R_below (Kd.R_elderB (rU HO_12.out) gb453 (Nat.le_of_eq hg.symm)) hb); replace HO_47 := rB HO_47 hb; replace BK440 := sB BK440 hb; replace BK448 := sB BK448 hb; replace HB := sL HB hb; clear hb hbox hg; have hnb55 := NB453_440.out; have hnc55 := NB440_453.out; have hnb56 := NB453_448.out; have hnc56 := NB448_453.out; obtain ⟨hcz57_0, hcz57_1⟩ := q2 BK453; obtain ⟨hfz57_0, hfz57_1⟩ := z2 BK453; obtain ⟨hcz58_0, hcz58_1, hcz58_2, hcz58_3, hcz58_4, hcz58_5, hcz58_6, hcz58_7, hcz58_8, hcz58_9⟩ := q10 BK440; obtain ⟨hfz58_0, hfz58_1, hfz58_2, hfz58_3, hfz58_4, hfz58_5, hfz58_6, hfz58_7, hfz58_8, hfz58_9⟩ := z10 BK440) | ((with_reducible refine gate_callee (f := 37) rfl ?_); refine gL (some 62) rfl rfl Try.func37 #[.agg #[.int .i64 x449000_2, .int .i64 (rd t449 x49_2)], .slice Ao22 t442.length co22, .slice A1 l1.length c1, .int .i64 a2, .agg #[.int .i64 a3_0, .int .i64 a3_1, .int .i64 a3_2, .int .i64 a3_3, .int .i64 a3_4, .int .i64 a3_5, .int .i64 a3_6, .int .i64 a3_7, .int .i64 a3_8, .int .i64 a3_9]] rfl ?_; (with_reducible refine (mandolineref35_Fetch.calls k2 x449000_2 (rd t449 x49_2) _ _ t442 _ _ l1 a2 a3_0 a3_1 a3_2 a3_3 a3_4 a3_5 a3_6 a3_7 a3_8 a3_9 false _ ?side1 ?side2 ?side3 ?side4 A40.out).mono ?_); (case side1 => refine (Kd.R_reads' (e := 48) (base := w.heap.size) (ok := fun k_ => ((some k_ ≠ (u11 : Value).ownBlock ∧ k_ ≠ gb448) ∧ k_ ≠ gb453)) (n := t442.length) (c := co22) ?_).2.2; exact (rU ((Kd.R_mono (Kd.R_far (p := ⟨gb453, 1, none⟩) (Kd.R_far (p := ⟨gb453, 0, none⟩) (Kd.R_mono HO_10.out (fun k_ hk => (⟨hk, hk.2⟩ : _ ∧ k_ ≠ gb453))) (fun _ hk => hk.2) (.int .i64 x449000_2)) (fun _ hk => hk.2) (.int .i64 (rd t449 x49_2))) (fun _ h_ => h_.1))))); (case side2 => exact (rN HO_10)); (case side3 => exact Kd.C_below HR1.out (lU HB)); (case side4 => exact HC1.out); rintro e w59 ⟨rfl, hb⟩; refine ⟨_, rfl, ?_⟩; replace HO_10 := Aside0.mk (Kd.R_below (rU ((Kd.R_mono (Kd.R_far (p := ⟨gb453, 1, none⟩) (Kd.R_far (p := ⟨gb453, 0, none⟩) (Kd.R_mono HO_10.out (fun k_ hk => (⟨hk, hk.2⟩ : _ ∧ k_ ≠ gb453))) (fun _ hk => hk.2) (.int .i64 x449000_2)) (fun _ hk => hk.2) (.int .i64 (rd t449 x49_2))) (fun _ h_ => h_.1)))) hb); replace HO_11 := Aside0.mk (Kd.R_below (rU ((Kd.R_mono (Kd.R_far (p := ⟨gb453, 1, none⟩) (Kd.R_far (p := ⟨gb453, 0, none⟩) (Kd.R_mono HO_11.out (fun k_ hk => (⟨hk, hk.2⟩ : _ ∧ k_ ≠ gb453))) (fun _ hk => hk.2) (.int .i64 x449000_2)) (fun _ hk => hk.2) (.int .i64 (rd t449 x49_2))) (fun _ h_ => h_.1)))) hb); replace HO_12 := Aside0.mk (Kd.R_below (rU ((Kd.R_mono (Kd.R_far (p := ⟨gb453, 1, none⟩) (Kd.R_far (p := ⟨gb453, 0, none⟩) (Kd.R_mono HO_12.out (fun k_ hk => (⟨hk, hk.2⟩ : _ ∧ k_ ≠ gb453))) (fun _ hk => hk.2) (.int .i64 x449000_2)) (fun _ hk => hk.2) (.int .i64 (rd t449 x49_2))) (fun _ h_ => h_.1)))) hb); replace HO_47 := Aside0.mk (Kd.R_below (rU ((Kd.R_mono (Kd.R_far (p := ⟨gb453, 1, none⟩) (Kd.R_far (p := ⟨gb453, 0, none⟩) (Kd.R_types HO_47.out BK453.out (by decide)) (fun _ hk => hk.2) (.int .i64 x449000_2)) (fun _ hk => hk.2) (.int .i64 (rd t449 x49_2))) (fun _ h_ => h_.1)))) hb); replace BK440 := Aside0.mk (blk_below (g := gb440) (o := .cells #[.int .i64 a3_0, .int .i64 a3_1, .int .i64 a3_2, .int .i64 a3_3, .int .i64 a3_4, .int .i64 a3_5, .int .i64 a3_6, .int .i64 a3_7, .int .i64 a3_8, .int .i64 a3_9] 24 (0, 0)) (bF BK440) hb); replace BK448 := Aside0.mk (blk_below (g := gb448) (o := .cells #[.int .i64 x449000_2, .int .i64 x449001_2] 48 (0, 0)) (bF BK448) hb); replace BK453 := Aside0.mk (blk_below (g := gb453) (o := .cells #[.int .i64 x449000_2, .int .i64 (rd t449 x49_2)] 48 (0, 0)) (by (with_reducible repeat (first | refine blk_drewN ?_ _ | refine blk_drew ?_ | refine blk_alloc ?_ _)); refine blk_put (cs := #[.int .i64 x449000_2, .int .i64 0]) ?_ 1 _ rfl; (with_reducible repeat (first | refine blk_drewN ?_ _ | refine blk_drew ?_ | refine blk_alloc ?_ _)); refine blk_put (cs := #[.int .i64 0, .int .i64 0]) ?_ 0 _ rfl; (with_reducible repeat (first | refine blk_drewN ?_ _ | refine blk_drew ?_ | refine blk_alloc ?_ _)); exact BK453.out) hb); replace HB := sL HB hb; (try clear hb); (try clear hb2); (try clear hk); (try clear hi)))
             go_roundg k2
             case measure => have := HK1.out; have := HK2.out; omega
             case rel => exact ⟨(wrap64 (x49_2 + 1)), (x449000_2), (x449001_2), eR, H', ⟨by have := HK1.out; have := HK2.out; omega⟩, ⟨rU (Kd.R_mono HO_10.out (fun _ hk => ⟨hk.1.1, hk.1.2⟩))⟩, ⟨rU (Kd.R_mono HO_11.out (fun _ hk => ⟨hk.1.1, ⟨hk.1.2.1, hk.1.2.2⟩⟩))⟩, ⟨rU (Kd.R_mono HO_12.out (fun _ hk => ⟨hk.1.1, hk.1.2⟩))⟩, ⟨rU HO_47.out⟩, ⟨bU BK440⟩, ⟨bU BK448⟩, ⟨lU HB⟩⟩
           ·rw [if_neg c39] at H
            exact absurd H (by simp)
          ·rw [if_neg c38] at H
           exact absurd H (by simp)
         ·rw [if_neg c37] at H
          have c37b0 : decide (x49_2 < (t449.length : Int)) = false := decide_eq_false c37
          clear c37
          by_cases c60 : x11_1.length < 8796093022208
          ·rw [if_pos c60] at H
           have LMc60 := Aside0.mk c60
           clear c60
           obtain ⟨y455, hy455⟩ : ∃ y_ : List (S48), y_ = (x11_1 ++ [(⟨x449000_2, x449001_2⟩ : S48)]) := ⟨_, rfl⟩
           replace H : ((mandolineref02_Less.f k2 x12_1 (([(⟨x449000_2, x449001_2⟩ : S48)] : List (S48)))).bind fun t461 => (mandolineref35_Plan.l0 k2 l1 a2 t442 y455 t461 a3_0 a3_1 a3_2 a3_3 a3_4 a3_5 a3_6 a3_7 a3_8 a3_9)) = some (r1, r2) := by first | (rw [hy455]; with_reducible exact H) | (have H2_ := (Option.bind_some _ _).symm.trans H; rw [hy455]; with_reducible exact H2_) | (have H2_ := (Option.bind_some _ _).symm.trans H; with_reducible exact H2_) | with_reducible exact H | (rw [hy455]; exact H) | exact H
           have Ny455 := Aside0.mk hy455
           clear hy455
           obtain ⟨y458, hy458⟩ : ∃ y_ : List (S48), y_ = (([(⟨x449000_2, x449001_2⟩ : S48)] : List (S48))) := ⟨_, rfl⟩
           replace H : ((mandolineref02_Less.f k2 x12_1 y458).bind fun t461 => (mandolineref35_Plan.l0 k2 l1 a2 t442 y455 t461 a3_0 a3_1 a3_2 a3_3 a3_4 a3_5 a3_6 a3_7 a3_8 a3_9)) = some (r1, r2) := by first | (rw [hy458]; with_reducible exact H) | (have H2_ := (Option.bind_some _ _).symm.trans H; rw [hy458]; with_reducible exact H2_) | (have H2_ := (Option.bind_some _ _).symm.trans H; with_reducible exact H2_) | with_reducible exact H | (rw [hy458]; exact H) | exact H
           have Ny458 := Aside0.mk hy458
           clear hy458
           obtain ⟨t461, A61, H⟩ := bO H
           have H' := Aside0.mk H
           clear H
           have hnb62 := NB448_440.out
           have hnc62 := NB440_448.out
           obtain ⟨hcz63_0, hcz63_1⟩ := q2 BK448
           obtain ⟨hfz63_0, hfz63_1⟩ := z2 BK448
           go_wp2_with (first | ((with_reducible refine gate_builtin (b := .append) (xs := #[.tmp 65, .tmp 67]) rfl ?_); at_builtin; refine Kd.R_append k48 (w0 := w) w.heap.size rfl (.tmp 65) (.tmp 67) 22 48 (.agg #[(.int .i64 0), (.int .i64 0)]) 16 rfl Try.underlying22 info48 rfl (by decide) (by omega) u11 x11_1 (⟨x449000_2, x449001_2⟩ : S48) [.int .i64 x449000_2, .int .i64 x449001_2] (fun k_ => some k_ ≠ (.slice Ao22 t442.length co22 : Value).ownBlock ∧ some k_ ≠ (.slice (some ad446) x12_1.length co27 : Value).ownBlock ∧ k_ ≠ gb448) (fun _ => False) rfl rfl ?aP (fun _ hk => hk.elim) ?aF ?aO ?aB ?aS ?aL ?_; (case aP => exact k48_mkM _ _ _ (⟨x449000_2, x449001_2⟩ : S48)); (case aB => exact (lU HB)); (case aF => exact (fun k_ hk => ⟨Kd.fresh' (Kd.R_lt (rU HO_10.out)) k_ hk, Kd.fresh' (Kd.R_lt (rU HO_12.out)) k_ hk, Kd.freshB (g := gb448) (o := .cells #[.int .i64 x449000_2, .int .i64 x449001_2] 48 (0, 0)) (bU BK448) k_ hk⟩)); (case aO => exact (rU HO_11.out)); (case aS => exact (below_size (lU HB))); (case aL => have := LMc60.out; omega); intro v456 w64 ho hb hg hat; rw [← Ny455.out] at ho; have HO457 := Aside0.mk (ho); replace HO_10 := Aside0.mk (Kd.R_after (ok := (fun k_ => k_ ≠ gb448)) (rU (Kd.R_mono HO_10.out (fun _ hk => ⟨hk.2, hk.1⟩))) hg hat); replace HO_12 := Aside0.mk (Kd.R_after (ok := (fun k_ => k_ ≠ gb448)) (rU (Kd.R_mono HO_12.out (fun _ hk => ⟨hk.2, hk.1⟩))) hg hat); replace HO_47 := Aside0.mk (Kd.R_over' (rU HO_47.out) (Kd.R_typed (rU HO_11.out)) (by decide) hg); replace BK440 := Aside0.mk (blk_grown (g := gb440) (o := .cells #[.int .i64 a3_0, .int .i64 a3_1, .int .i64 a3_2, .int .i64 a3_3, .int .i64 a3_4, .int .i64 a3_5, .int .i64 a3_6, .int .i64 a3_7, .int .i64 a3_8, .int .i64 a3_9] 24 (0, 0)) (bU BK440) hg (Kd.R_ne HO_11.out BK440.out (by decide))); replace BK448 := Aside0.mk (blk_grown (g := gb448) (o := .cells #[.int .i64 x449000_2, .int .i64 x449001_2] 48 (0, 0)) (bU BK448) hg (Kd.R_away HO_11.out (fun _ hk => hk.2.2))); replace HB := Aside0.mk (hb); clear HO_11; clear ho hb hg hat; obtain ⟨hcz65_0, hcz65_1⟩ := q2 BK448; obtain ⟨hfz65_0, hfz65_1⟩ := z2 BK448) | ((with_reducible refine gate_dst (N := 71) rfl ?_); refine Kd.R_lit k48 _ 48 ?hg (N := 71) ?hd (xs := ([(⟨x449000_2, x449001_2⟩ : S48)] : List (S48))) (inner := [.int .i64 x449000_2, .int .i64 x449001_2]) (ok := fun _ => True) (okp := fun _ => True) ?hr ?hp (fun _ hk => hk) trivial (Below.refl _ _) (Nat.le_refl _) (by simp) ?_; (case hd => rfl); (case hg => rfl); (case hr => first | (go_simp; done) | (go_simp; rfl)); (case hp => exact (Reps.c2 (show Kd.M k48 _ _ _ (⟨x449000_2, x449001_2⟩ : S48) [.int .i64 x449000_2, .int .i64 x449001_2] from (k48_mkM _ _ _ (⟨x449000_2, x449001_2⟩ : S48) )) (Reps.none _ _))); intro v459 w66 ho67 hb hg_ hnew_; clear hg_ hnew_; (first | rw [← Ny458.out] at ho67 | (simp only [Int.reduceToNat] at ho67; rw [← Ny458.out] at ho67)); have HO460 := Aside0.mk (Kd.R_lower (Kd.R_newB (Kd.R_new' (Kd.R_new' (Kd.R_new' ho67 (Kd.R_lt (rU HO_10.out))) (Kd.R_lt (rU HO_12.out))) (Kd.R_lt (rU HO457.out))) (g := gb448) (o := .cells #[.int .i64 x449000_2, .int .i64 x449001_2] 48 (0, 0)) (bU BK448)) (below_size (lU HB))); replace HO_10 := rE HO_10 ho67 hb; replace HO_12 := rE HO_12 ho67 hb; replace HO_47 := rB HO_47 hb; replace HO457 := rE HO457 ho67 hb; replace BK440 := sB BK440 hb; replace BK448 := sB BK448 hb; replace HB := sL HB hb; clear hb ho67; obtain ⟨Ao68, co68, eo68⟩ := Kd.R_slice HO460.out; subst eo68) | ((with_reducible refine gate_callee (f := 38) rfl ?_); refine gL (some 72) rfl rfl Try.func38 #[.slice (some ad446) x12_1.length co27, .slice Ao68 y458.length co68] rfl ?_; (with_reducible refine (mandolineref02_Less.calls k2 _ _ x12_1 _ _ y458 t461 _ (cU (rC HO_12)) (rN HO_12) (cU (rC HO460)) (rN HO460) A61.out).mono ?_); rintro e w69 ⟨v462, rfl, ho0, hb⟩; refine ⟨_, rfl, ?_⟩; have HO463 := Aside0.mk (Kd.R_lower (Kd.R_newB (Kd.R_new' (Kd.R_new' (Kd.R_new' (Kd.R_new' ho0 (Kd.R_lt (rU HO_10.out))) (Kd.R_lt (rU HO_12.out))) (Kd.R_lt (rU HO457.out))) (Kd.R_lt (rU HO460.out))) (g := gb448) (o := .cells #[.int .i64 x449000_2, .int .i64 x449001_2] 48 (0, 0)) (bU BK448)) (below_size (lU HB))); replace HO_10 := rE HO_10 ho0 hb; replace HO_12 := rE HO_12 ho0 hb; replace HO_47 := rB HO_47 hb; replace HO457 := rE HO457 ho0 hb; replace HO460 := rE HO460 ho0 hb; replace BK440 := sB BK440 hb; replace BK448 := sB BK448 hb; replace HB := sL HB hb; (try clear hb); (try clear hb2); (try clear hk); (try clear hi); (try clear ho0)))
           go_roundg k2
           case measure => have := HK1.out; have := HK2.out; omega
           case rel => exact ⟨(y455), (t461), H', ⟨by have := HK1.out; have := HK2.out; omega⟩, ⟨rU (Kd.R_mono HO_10.out (fun _ hk => hk.1.1.2))⟩, ⟨rU (Kd.R_mono HO457.out (fun _ hk => ⟨hk.1.1.1, hk.2⟩))⟩, ⟨rU (Kd.R_mono HO463.out (fun _ hk => hk.1.1.2))⟩, ⟨bU BK440⟩, ⟨lU HB⟩⟩
          ·rw [if_neg c60] at H
           exact absurd H (by simp)
      ·rw [if_neg c25] at H
       exact absurd H (by simp)
     ·rw [if_neg c24] at H
      have c24b0 : decide (0 < (x12_1.length : Int)) = false := decide_eq_false c24
      have c24b1 : decide (0 < x12_1.length) = false := decide_eq_false (by omega)
      clear c24
      simp only [Option.some.injEq, Prod.mk.injEq] at H
      obtain ⟨rfl, rfl⟩ := H
      obtain ⟨Ao70, co70, eo70⟩ := Kd.R_slice HO_12.out
      subst eo70
      go_wp2
      go_ret2
      exact ⟨_, eW, by (with_reducible repeat (first | apply Kd.R_alloc | apply Kd.R_drewN | apply Kd.R_drew)); exact Kd.R_mono HO_11.out (fun _ hk => trivial), lU HB⟩
 ·replace c6 := Bool.eq_false_iff.mpr c6
  subst c6
  rw [if_neg (show ¬ (false = true) by decide)] at H
  simp only [Option.some.injEq, Prod.mk.injEq] at H
  obtain ⟨rfl, rfl⟩ := H
  go_enter Try.func14, Try.ntmps14
  go_wp2_with (first | ((with_reducible refine gate_dst (N := 7) rfl ?_); refine bX (N := 7) (cs := #[.int .i64 a3_0, .int .i64 a3_1, .int .i64 a3_2, .int .i64 a3_3, .int .i64 a3_4, .int .i64 a3_5, .int .i64 a3_6, .int .i64 a3_7, .int .i64 a3_8, .int .i64 a3_9]) (t := 24) ?_; intro gb440 hg w71 hbox hb; have BK440 := Aside0.mk (hbox); have GE440 := sG HB hg; replace HB := sL HB hb; clear hb hbox hg; obtain ⟨hcz72_0, hcz72_1, hcz72_2, hcz72_3, hcz72_4, hcz72_5, hcz72_6, hcz72_7, hcz72_8, hcz72_9⟩ := q10 BK440; obtain ⟨hfz72_0, hfz72_1, hfz72_2, hfz72_3, hfz72_4, hfz72_5, hfz72_6, hfz72_7, hfz72_8, hfz72_9⟩ := z10 BK440) | ((with_reducible refine gate_callee (f := 34) rfl ?_); refine gL (some 19) rfl rfl Try.func34 #[.int .i64 a2, .agg #[.int .i64 a3_0, .int .i64 a3_1, .int .i64 a3_2, .int .i64 a3_3, .int .i64 a3_4, .int .i64 a3_5, .int .i64 a3_6, .int .i64 a3_7, .int .i64 a3_8, .int .i64 a3_9]] rfl ?_; (with_reducible refine (mandolineref35_argOk.calls k a2 a3_0 a3_1 a3_2 a3_3 a3_4 a3_5 a3_6 a3_7 a3_8 a3_9 false _ A5.out).mono ?_); rintro e w73 ⟨rfl, hb⟩; refine ⟨_, rfl, ?_⟩; replace BK440 := sB BK440 hb; replace HB := sL HB hb; (try clear hb); (try clear hb2); (try clear hk); (try clear hi)))
  go_ret2
  exact ⟨_, eW, by first | exact Kd.R_nil _ _ _ _ _ | exact Kd.N_nil _ _ _ _ _ | exact Kd.V_nil _ _ _ _ _ | exact Kd.Q_nil _ _ _ _ _ | exact Kd.S_nil _ _ _ _ _, lU HB⟩

end Go.Proofs.Ytnaalaakhdbfbaa.XP
