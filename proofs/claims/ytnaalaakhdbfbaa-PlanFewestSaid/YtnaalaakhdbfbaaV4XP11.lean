-- Go functions as plain functions, and that the code comes to these answers (printed by a program).
import Derived.Test.YtnaalaakhdbfbaaV4XP0
import Derived.Test.YtnaalaakhdbfbaaV4XP2
import Derived.Test.YtnaalaakhdbfbaaV4XP3
import Derived.Test.YtnaalaakhdbfbaaV4XP7
import Derived.Test.YtnaalaakhdbfbaaV4XP8
import Derived.Test.YtnaalaakhdbfbaaV4XP9
import Derived.Test.YtnaalaakhdbfbaaV4XP10
namespace Go.Proofs.Ytnaalaakhdbfbaa.XP
open Go.RowKit Go.Proofs.YtnaalaakhdbfbaaW.PrintWords Go.Proofs.YtnaalaakhdbfbaaW.PrintLast Go.Proofs.YtnaalaakhdbfbaaW.PrintMore
attribute [local go_sem] max2_int min2_int max_two min_two max_three min_three max_four min_four
set_option linter.unusedVariables false
set_option linter.unusedSimpArgs false
def plan_Plan.l0 : Nat → List (S48) → List (S48) → Int → Int → Int → Int → Int → Int → Int → Int → Int → Int → List (S48) → Option ((List (S48)) × Int)
 | 0, _, _, _, _, _, _, _, _, _, _, _, _, _ => none
 | k + 1, x11, x217000, x218000, x218001, x218002, x218003, x218004, x218005, x218006, x218007, x218008, x218009, x223000 => (ranges_Set_Spans.f x223000).bind fun t227 => (if (t227.length : Int) = 0 then (some (x11, 0)) else (if 0 < (t227.length : Int) then ((ranges_Set_First.f x217000 ((rd_T48 t227 0).f0)).bind fun bt231 => ((plan_reach.f k t227 bt231.2.1 x218000 x218001 x218002 x218003 x218004 x218005 x218006 x218007 x218008 x218009).bind fun t236 => (if x11.length < 8796093022208 then ((ranges_Of.f k (([(⟨(rd_T48 t227 0).f0, t236⟩ : S48)] : List (S48)))).bind fun t244 => ((ranges_Set_Less.f k x223000 t244).bind fun t247 => (plan_Plan.l0 k (x11 ++ [(⟨(rd_T48 t227 0).f0, t236⟩ : S48)]) x217000 x218000 x218001 x218002 x218003 x218004 x218005 x218006 x218007 x218008 x218009 t247))) else (none)))) else (none)))
def plan_Plan.f (k : Nat) (l0_0 : List (S48)) (l1_0 : List (S48)) (a2 : Int) (a3_0 : Int) (a3_1 : Int) (a3_2 : Int) (a3_3 : Int) (a3_4 : Int) (a3_5 : Int) (a3_6 : Int) (a3_7 : Int) (a3_8 : Int) (a3_9 : Int) : Option ((List (S48)) × Int) := (plan_may.f a2 a3_0 a3_1 a3_2 a3_3 a3_4 a3_5 a3_6 a3_7 a3_8 a3_9).bind fun t218 => (if t218 = true then ((plan_Units.f k l0_0 a2 a3_0).bind fun t219 => ((ranges_Set_Less.f k t219 l1_0).bind fun t223 => ((ranges_Set_Len.f k t223).bind fun t226 => (if t226 > 0 then (some (([] : List (S48)), 15)) else (plan_Plan.l0 k ([] : List (S48)) l1_0 a3_0 a3_1 a3_2 a3_3 a3_4 a3_5 a3_6 a3_7 a3_8 a3_9 t219))))) else (some (([] : List (S48)), 1)))
theorem plan_Plan.mono_l : ∀ k, (∀ y0 y1 y2 y3 y4 y5 y6 y7 y8 y9 y10 y11 y12, LeO (plan_Plan.l0 k y0 y1 y2 y3 y4 y5 y6 y7 y8 y9 y10 y11 y12) (plan_Plan.l0 (k + 1) y0 y1 y2 y3 y4 y5 y6 y7 y8 y9 y10 y11 y12))
 | 0 => fun _ _ _ _ _ _ _ _ _ _ _ _ _ r h => by simp [plan_Plan.l0] at h
 | k + 1 => by
  have ih0 := plan_Plan.mono_l k
  ·intro y0 y1 y2 y3 y4 y5 y6 y7 y8 y9 y10 y11 y12
   unfold plan_Plan.l0
   repeat' first
   | with_reducible apply ih0
   | with_reducible apply plan_Units.mono
   | with_reducible apply plan_reach.mono
   | with_reducible apply ranges_Of.mono
   | with_reducible apply ranges_Set_Len.mono
   | with_reducible apply ranges_Set_Less.mono
   | with_reducible apply LeO.refl
   | with_reducible apply LeO.none
   | with_reducible refine LeO.ite ?_ ?_
   | with_reducible refine LeO.bind ?_ (fun _ => ?_)
theorem plan_Plan.mono : ∀ a0 a1 a2 a3 a4 a5 a6 a7 a8 a9 a10 a11 a12 k, LeO (plan_Plan.f k a0 a1 a2 a3 a4 a5 a6 a7 a8 a9 a10 a11 a12) (plan_Plan.f (k + 1) a0 a1 a2 a3 a4 a5 a6 a7 a8 a9 a10 a11 a12) := by
 intro a0 a1 a2 a3 a4 a5 a6 a7 a8 a9 a10 a11 a12 k
 have ih0 := plan_Plan.mono_l k
 unfold plan_Plan.f
 repeat' first
   | with_reducible apply ih0
   | with_reducible apply plan_Units.mono
   | with_reducible apply plan_reach.mono
   | with_reducible apply ranges_Of.mono
   | with_reducible apply ranges_Set_Len.mono
   | with_reducible apply ranges_Set_Less.mono
   | with_reducible apply LeO.refl
   | with_reducible apply LeO.none
   | with_reducible refine LeO.ite ?_ ?_
   | with_reducible refine LeO.bind ?_ (fun _ => ?_)
def plan_Plan.T10 : Bool × List (List Nat × List Nat) := (true, [([], []), ([], []), ([1], [1]), ([2], [2]), ([3], [3]), ([0, 4], [0, 4]), ([5], [5]), ([6], [6]), ([6], [6]), ([], []), ([9, 7, 5, 0, 1, 2, 3, 4, 5, 6, 7, 9], [7, 9]), ([8, 10, 0, 1, 2, 3, 4, 5, 6, 7, 8, 9, 10], [8])])
def plan_Plan.B10 : List Nat := [0, 0, 2, 6, 14, 31, 63, 127, 127, 0, 767, 2047]
theorem plan_Plan.tab10 : rtab .any (opsOf Try.f13 10) = plan_Plan.T10 := by kernel_rfl
theorem plan_Plan.bits10 : waitsOk plan_Plan.T10.2 plan_Plan.B10 = true := by kernel_rfl
def plan_Plan.T11 : Bool × List (List Nat × List Nat) := (true, [([], []), ([0], [0]), ([1], [1]), ([2], [2]), ([], []), ([], []), ([5], [5]), ([], []), ([4, 6, 7], [4, 6, 7]), ([3, 8], [3, 8]), ([], []), ([10, 9, 8, 0, 1, 2, 3, 4, 5, 6, 7, 8, 9, 10], [9, 10])])
def plan_Plan.B11 : List Nat := [0, 1, 3, 7, 0, 0, 32, 0, 240, 511, 0, 2047]
theorem plan_Plan.tab11 : rtab .any (opsOf Try.f13 11) = plan_Plan.T11 := by kernel_rfl
theorem plan_Plan.bits11 : waitsOk plan_Plan.T11.2 plan_Plan.B11 = true := by kernel_rfl
set_option maxHeartbeats 8000000 in
set_option maxRecDepth 100000 in
theorem plan_Plan.calls (k : Nat) (A0_0 : Option Addr) (c0_0 : Nat) (l0_0 : List (S48)) (A1_0 : Option Addr) (c1_0 : Nat) (l1_0 : List (S48)) (a2 : Int) (a3_0 : Int) (a3_1 : Int) (a3_2 : Int) (a3_3 : Int) (a3_4 : Int) (a3_5 : Int) (a3_6 : Int) (a3_7 : Int) (a3_8 : Int) (a3_9 : Int) (r1 : List (S48)) (r2 : Int) (w : World) (hr0_0 : Kd.C k48 w A0_0 l0_0.length l0_0) (hc0_0 : l0_0.length ≤ c0_0) (hr1_0 : Kd.C k48 w A1_0 l1_0.length l1_0) (hc1_0 : l1_0.length ≤ c1_0) (h : plan_Plan.f k l0_0 l1_0 a2 a3_0 a3_1 a3_2 a3_3 a3_4 a3_5 a3_6 a3_7 a3_8 a3_9 = some (r1, r2)) :
  Calls Try.prog 13 #[.agg #[.slice A0_0 l0_0.length c0_0], .agg #[.slice A1_0 l1_0.length c1_0], .int .i64 a2, .agg #[.int .i64 a3_0, .int .i64 a3_1, .int .i64 a3_2, .int .i64 a3_3, .int .i64 a3_4, .int .i64 a3_5, .int .i64 a3_6, .int .i64 a3_7, .int .i64 a3_8, .int .i64 a3_9]] w fun e w' => ∃ v0_ : Value, e = .returned (.tuple #[v0_, .int .i64 r2]) ∧ Kd.R k48 48 w' w.heap.size (fun _ => True) v0_ r1 ∧ Below w.heap.size w w' := by
 have hu30 := Try.underlying30
 have hu24 := Try.underlying24
 have hu48 := Try.underlying48
 have HR0_0 := Aside0.mk hr0_0
 have HC0_0 := Aside0.mk hc0_0
 clear hr0_0 hc0_0
 have HR1_0 := Aside0.mk hr1_0
 have HC1_0 := Aside0.mk hc1_0
 clear hr1_0 hc1_0
 have HB := Aside0.mk (Below.refl w.heap.size w)
 unfold plan_Plan.f at h
 have H := h
 clear h
 obtain ⟨t218, A5, H⟩ := bO H
 by_cases c6 : t218 = true
 ·subst c6
  rw [if_pos rfl] at H
  obtain ⟨t219, A7, H⟩ := bO H
  obtain ⟨t223, A8, H⟩ := bO H
  obtain ⟨t226, A9, H⟩ := bO H
  by_cases c10 : t226 > 0
  ·rw [if_pos c10] at H
   have c10b0 : decide (0 < t226) = true := decide_eq_true c10
   clear c10
   simp only [Option.some.injEq, Prod.mk.injEq] at H
   obtain ⟨rfl, rfl⟩ := H
   go_enter Try.func13, Try.ntmps13
   go_wp2_with (first | ((with_reducible refine gate_dst (N := 4) rfl ?_); refine bX (N := 4) (cs := #[.slice A0_0 l0_0.length c0_0]) (t := 30) ?_; intro gb215 hg w11 hbox hb; have BK215 := Aside0.mk (hbox); have GE215 := sG HB hg; replace HB := sL HB hb; clear hb hbox hg) | ((with_reducible refine gate_dst (N := 5) rfl ?_); refine bX (N := 5) (cs := #[.slice A1_0 l1_0.length c1_0]) (t := 30) ?_; intro gb216 hg w12 hbox hb; have BK216 := Aside0.mk (hbox); have GE216 := sG HB hg; have NB215_216 := sN BK215 hg; have NB216_215 := sM BK215 hg; replace BK215 := sB BK215 hb; replace HB := sL HB hb; clear hb hbox hg) | ((with_reducible refine gate_dst (N := 7) rfl ?_); refine bX (N := 7) (cs := #[.int .i64 a3_0, .int .i64 a3_1, .int .i64 a3_2, .int .i64 a3_3, .int .i64 a3_4, .int .i64 a3_5, .int .i64 a3_6, .int .i64 a3_7, .int .i64 a3_8, .int .i64 a3_9]) (t := 24) ?_; intro gb217 hg w13 hbox hb; have BK217 := Aside0.mk (hbox); have GE217 := sG HB hg; have NB215_217 := sN BK215 hg; have NB217_215 := sM BK215 hg; have NB216_217 := sN BK216 hg; have NB217_216 := sM BK216 hg; replace BK215 := sB BK215 hb; replace BK216 := sB BK216 hb; replace HB := sL HB hb; clear hb hbox hg; have hnb14 := NB217_215.out; have hnc14 := NB215_217.out; have hnb15 := NB217_216.out; have hnc15 := NB216_217.out; obtain ⟨hcz16_0, hcz16_1, hcz16_2, hcz16_3, hcz16_4, hcz16_5, hcz16_6, hcz16_7, hcz16_8, hcz16_9⟩ := q10 BK217; obtain ⟨hfz16_0, hfz16_1, hfz16_2, hfz16_3, hfz16_4, hfz16_5, hfz16_6, hfz16_7, hfz16_8, hfz16_9⟩ := z10 BK217) | ((with_reducible refine gate_callee (f := 31) rfl ?_); refine gL (some 18) rfl rfl Try.func31 #[.int .i64 a2, .agg #[.int .i64 a3_0, .int .i64 a3_1, .int .i64 a3_2, .int .i64 a3_3, .int .i64 a3_4, .int .i64 a3_5, .int .i64 a3_6, .int .i64 a3_7, .int .i64 a3_8, .int .i64 a3_9]] rfl ?_; (with_reducible refine (plan_may.calls a2 a3_0 a3_1 a3_2 a3_3 a3_4 a3_5 a3_6 a3_7 a3_8 a3_9 true _ A5.out).mono ?_); rintro e w17 ⟨rfl, hb⟩; refine ⟨_, rfl, ?_⟩; replace BK215 := sB BK215 hb; replace BK216 := sB BK216 hb; replace BK217 := sB BK217 hb; replace HB := sL HB hb; (try clear hb); (try clear hb2); (try clear hk); (try clear hi); have hnb18 := NB215_216.out; have hnc18 := NB216_215.out; have hcz19_0 := q1 BK215; have hfz19_0 := blk_frozen BK215.out 0; obtain ⟨hcz20_0, hcz20_1, hcz20_2, hcz20_3, hcz20_4, hcz20_5, hcz20_6, hcz20_7, hcz20_8, hcz20_9⟩ := q10 BK217; obtain ⟨hfz20_0, hfz20_1, hfz20_2, hfz20_3, hfz20_4, hfz20_5, hfz20_6, hfz20_7, hfz20_8, hfz20_9⟩ := z10 BK217) | ((with_reducible refine gate_callee (f := 20) rfl ?_); refine gL (some 24) rfl rfl Try.func20 #[.agg #[.slice A0_0 l0_0.length c0_0], .int .i64 a2, .int .i64 a3_0] rfl ?_; (with_reducible refine (plan_Units.calls k _ _ l0_0 a2 a3_0 t219 _ (cU (Kd.C_below HR0_0.out HB.out)) HC0_0.out A7.out).mono ?_); rintro e w21 ⟨v220, rfl, ho0, hb⟩; refine ⟨_, rfl, ?_⟩; have HO221 := Aside0.mk (Kd.R_lower ho0 (below_size (lU HB))); replace BK215 := sB BK215 hb; replace BK216 := sB BK216 hb; replace BK217 := sB BK217 hb; replace HB := sL HB hb; (try clear hb); (try clear hb2); (try clear hk); (try clear hi); (try clear ho0)) | ((with_reducible refine gate_dst (N := 10) rfl ?_); refine bX (N := 10) (cs := #[.slice none 0 0]) (t := 30) ?_; intro gb222 hg w22 hbox hb; have BK222 := Aside0.mk (hbox); have GE222 := sG HB hg; have NB215_222 := sN BK215 hg; have NB222_215 := sM BK215 hg; have NB216_222 := sN BK216 hg; have NB222_216 := sM BK216 hg; have NB217_222 := sN BK217 hg; have NB222_217 := sM BK217 hg; replace HO221 := rB HO221 hb; replace BK215 := sB BK215 hb; replace BK216 := sB BK216 hb; replace BK217 := sB BK217 hb; replace HB := sL HB hb; clear hb hbox hg; obtain ⟨Ao23, co23, eo23⟩ := Kd.R_slice HO221.out; subst eo23; have hnb24 := NB222_215.out; have hnc24 := NB215_222.out; have hnb25 := NB222_216.out; have hnc25 := NB216_222.out; have hnb26 := NB222_217.out; have hnc26 := NB217_222.out; have hcz27_0 := q1 BK222; have hfz27_0 := blk_frozen BK222.out 0; have hcz28_0 := q1 BK216; have hfz28_0 := blk_frozen BK216.out 0) | ((with_reducible refine gate_callee (f := 28) rfl ?_); refine gL (some 27) rfl rfl Try.func28 #[.agg #[.slice Ao23 t219.length co23], .agg #[.slice A1_0 l1_0.length c1_0]] rfl ?_; (with_reducible refine (ranges_Set_Less.calls k _ _ t219 _ _ l1_0 t223 _ ?side1 ?side2 ?side3 ?side4 A8.out).mono ?_); (case side1 => refine (Kd.R_reads' (e := 48) (base := w.heap.size) (ok := fun k_ => True) (n := t219.length) (c := co23) ?_).2.2; exact (rU ((Kd.R_mono (Kd.R_far (p := ⟨gb222, 0, none⟩) (Kd.R_types HO221.out BK222.out (by decide)) (fun _ hk => hk.2) (.slice Ao23 t219.length co23)) (fun _ h_ => h_.1))))); (case side2 => exact (rN HO221)); (case side3 => exact Kd.C_below HR1_0.out (lU HB)); (case side4 => exact HC1_0.out); rintro e w29 ⟨v224, rfl, ho0, hb⟩; refine ⟨_, rfl, ?_⟩; have HO225 := Aside0.mk (Kd.R_lower (Kd.R_new' ho0 (Kd.R_lt (rU ((Kd.R_mono (Kd.R_far (p := ⟨gb222, 0, none⟩) (Kd.R_types HO221.out BK222.out (by decide)) (fun _ hk => hk.2) (.slice Ao23 t219.length co23)) (fun _ h_ => h_.1)))))) (below_size (lU HB))); replace HO221 := Aside0.mk (Kd.R_elder' (rU ((Kd.R_mono (Kd.R_far (p := ⟨gb222, 0, none⟩) (Kd.R_types HO221.out BK222.out (by decide)) (fun _ hk => hk.2) (.slice Ao23 t219.length co23)) (fun _ h_ => h_.1)))) (Kd.R_base ho0) hb); replace BK215 := Aside0.mk (blk_below (g := gb215) (o := .cells #[.slice A0_0 l0_0.length c0_0] 30 (0, 0)) (bF BK215) hb); replace BK216 := Aside0.mk (blk_below (g := gb216) (o := .cells #[.slice A1_0 l1_0.length c1_0] 30 (0, 0)) (bF BK216) hb); replace BK217 := Aside0.mk (blk_below (g := gb217) (o := .cells #[.int .i64 a3_0, .int .i64 a3_1, .int .i64 a3_2, .int .i64 a3_3, .int .i64 a3_4, .int .i64 a3_5, .int .i64 a3_6, .int .i64 a3_7, .int .i64 a3_8, .int .i64 a3_9] 24 (0, 0)) (bF BK217) hb); replace BK222 := Aside0.mk (blk_below (g := gb222) (o := .cells #[.slice Ao23 t219.length co23] 30 (0, 0)) (by (with_reducible repeat (first | refine blk_drewN ?_ _ | refine blk_drew ?_ | refine blk_alloc ?_ _)); refine blk_put (cs := #[.slice none 0 0]) ?_ 0 _ rfl; (with_reducible repeat (first | refine blk_drewN ?_ _ | refine blk_drew ?_ | refine blk_alloc ?_ _)); exact BK222.out) hb); replace HB := sL HB hb; (try clear hb); (try clear hb2); (try clear hk); (try clear hi); (try clear ho0); obtain ⟨Ao30, co30, eo30⟩ := Kd.R_slice HO225.out; subst eo30) | ((with_reducible refine gate_callee (f := 26) rfl ?_); refine gL (some 28) rfl rfl Try.func26 #[.agg #[.slice Ao30 t223.length co30]] rfl ?_; (with_reducible refine (ranges_Set_Len.calls k _ _ t223 t226 _ (cU (rC HO225)) (rN HO225) A9.out).mono ?_); rintro e w31 ⟨rfl, hb⟩; refine ⟨_, rfl, ?_⟩; replace HO221 := rB HO221 hb; replace HO225 := rB HO225 hb; replace BK215 := sB BK215 hb; replace BK216 := sB BK216 hb; replace BK217 := sB BK217 hb; replace BK222 := sB BK222 hb; replace HB := sL HB hb; (try clear hb); (try clear hb2); (try clear hk); (try clear hi)))
   go_ret2
   exact ⟨_, eW, by first | exact Kd.R_nil _ _ _ _ _ | exact Kd.N_nil _ _ _ _ _ | exact Kd.V_nil _ _ _ _ _ | exact Kd.Q_nil _ _ _ _ _ | exact Kd.S_nil _ _ _ _ _, lU HB⟩
  ·rw [if_neg c10] at H
   have c10b0 : decide (0 < t226) = false := decide_eq_false c10
   clear c10
   have H' := Aside0.mk H
   clear H
   go_enter Try.func13, Try.ntmps13
   go_wp2_with (first | ((with_reducible refine gate_dst (N := 4) rfl ?_); refine bX (N := 4) (cs := #[.slice A0_0 l0_0.length c0_0]) (t := 30) ?_; intro gb215 hg w32 hbox hb; have BK215 := Aside0.mk (hbox); have GE215 := sG HB hg; replace HB := sL HB hb; clear hb hbox hg) | ((with_reducible refine gate_dst (N := 5) rfl ?_); refine bX (N := 5) (cs := #[.slice A1_0 l1_0.length c1_0]) (t := 30) ?_; intro gb216 hg w33 hbox hb; have BK216 := Aside0.mk (hbox); have GE216 := sG HB hg; have NB215_216 := sN BK215 hg; have NB216_215 := sM BK215 hg; replace BK215 := sB BK215 hb; replace HB := sL HB hb; clear hb hbox hg) | ((with_reducible refine gate_dst (N := 7) rfl ?_); refine bX (N := 7) (cs := #[.int .i64 a3_0, .int .i64 a3_1, .int .i64 a3_2, .int .i64 a3_3, .int .i64 a3_4, .int .i64 a3_5, .int .i64 a3_6, .int .i64 a3_7, .int .i64 a3_8, .int .i64 a3_9]) (t := 24) ?_; intro gb217 hg w34 hbox hb; have BK217 := Aside0.mk (hbox); have GE217 := sG HB hg; have NB215_217 := sN BK215 hg; have NB217_215 := sM BK215 hg; have NB216_217 := sN BK216 hg; have NB217_216 := sM BK216 hg; replace BK215 := sB BK215 hb; replace BK216 := sB BK216 hb; replace HB := sL HB hb; clear hb hbox hg; have hnb35 := NB217_215.out; have hnc35 := NB215_217.out; have hnb36 := NB217_216.out; have hnc36 := NB216_217.out; obtain ⟨hcz37_0, hcz37_1, hcz37_2, hcz37_3, hcz37_4, hcz37_5, hcz37_6, hcz37_7, hcz37_8, hcz37_9⟩ := q10 BK217; obtain ⟨hfz37_0, hfz37_1, hfz37_2, hfz37_3, hfz37_4, hfz37_5, hfz37_6, hfz37_7, hfz37_8, hfz37_9⟩ := z10 BK217) | ((with_reducible refine gate_callee (f := 31) rfl ?_); refine gL (some 18) rfl rfl Try.func31 #[.int .i64 a2, .agg #[.int .i64 a3_0, .int .i64 a3_1, .int .i64 a3_2, .int .i64 a3_3, .int .i64 a3_4, .int .i64 a3_5, .int .i64 a3_6, .int .i64 a3_7, .int .i64 a3_8, .int .i64 a3_9]] rfl ?_; (with_reducible refine (plan_may.calls a2 a3_0 a3_1 a3_2 a3_3 a3_4 a3_5 a3_6 a3_7 a3_8 a3_9 true _ A5.out).mono ?_); rintro e w38 ⟨rfl, hb⟩; refine ⟨_, rfl, ?_⟩; replace BK215 := sB BK215 hb; replace BK216 := sB BK216 hb; replace BK217 := sB BK217 hb; replace HB := sL HB hb; (try clear hb); (try clear hb2); (try clear hk); (try clear hi); have hnb39 := NB215_216.out; have hnc39 := NB216_215.out; have hcz40_0 := q1 BK215; have hfz40_0 := blk_frozen BK215.out 0; obtain ⟨hcz41_0, hcz41_1, hcz41_2, hcz41_3, hcz41_4, hcz41_5, hcz41_6, hcz41_7, hcz41_8, hcz41_9⟩ := q10 BK217; obtain ⟨hfz41_0, hfz41_1, hfz41_2, hfz41_3, hfz41_4, hfz41_5, hfz41_6, hfz41_7, hfz41_8, hfz41_9⟩ := z10 BK217) | ((with_reducible refine gate_callee (f := 20) rfl ?_); refine gL (some 24) rfl rfl Try.func20 #[.agg #[.slice A0_0 l0_0.length c0_0], .int .i64 a2, .int .i64 a3_0] rfl ?_; (with_reducible refine (plan_Units.calls k _ _ l0_0 a2 a3_0 t219 _ (cU (Kd.C_below HR0_0.out HB.out)) HC0_0.out A7.out).mono ?_); rintro e w42 ⟨v220, rfl, ho0, hb⟩; refine ⟨_, rfl, ?_⟩; have HO221 := Aside0.mk (Kd.R_lower ho0 (below_size (lU HB))); replace BK215 := sB BK215 hb; replace BK216 := sB BK216 hb; replace BK217 := sB BK217 hb; replace HB := sL HB hb; (try clear hb); (try clear hb2); (try clear hk); (try clear hi); (try clear ho0)) | ((with_reducible refine gate_dst (N := 10) rfl ?_); refine bX (N := 10) (cs := #[.slice none 0 0]) (t := 30) ?_; intro gb222 hg w43 hbox hb; have BK222 := Aside0.mk (hbox); have GE222 := sG HB hg; have NB215_222 := sN BK215 hg; have NB222_215 := sM BK215 hg; have NB216_222 := sN BK216 hg; have NB222_216 := sM BK216 hg; have NB217_222 := sN BK217 hg; have NB222_217 := sM BK217 hg; replace HO221 := rB HO221 hb; replace BK215 := sB BK215 hb; replace BK216 := sB BK216 hb; replace BK217 := sB BK217 hb; replace HB := sL HB hb; clear hb hbox hg; obtain ⟨Ao44, co44, eo44⟩ := Kd.R_slice HO221.out; subst eo44; have hnb45 := NB222_215.out; have hnc45 := NB215_222.out; have hnb46 := NB222_216.out; have hnc46 := NB216_222.out; have hnb47 := NB222_217.out; have hnc47 := NB217_222.out; have hcz48_0 := q1 BK222; have hfz48_0 := blk_frozen BK222.out 0; have hcz49_0 := q1 BK216; have hfz49_0 := blk_frozen BK216.out 0) | ((with_reducible refine gate_callee (f := 28) rfl ?_); refine gL (some 27) rfl rfl Try.func28 #[.agg #[.slice Ao44 t219.length co44], .agg #[.slice A1_0 l1_0.length c1_0]] rfl ?_; (with_reducible refine (ranges_Set_Less.calls k _ _ t219 _ _ l1_0 t223 _ ?side1 ?side2 ?side3 ?side4 A8.out).mono ?_); (case side1 => refine (Kd.R_reads' (e := 48) (base := w.heap.size) (ok := fun k_ => True) (n := t219.length) (c := co44) ?_).2.2; exact (rU ((Kd.R_mono (Kd.R_far (p := ⟨gb222, 0, none⟩) (Kd.R_types HO221.out BK222.out (by decide)) (fun _ hk => hk.2) (.slice Ao44 t219.length co44)) (fun _ h_ => h_.1))))); (case side2 => exact (rN HO221)); (case side3 => exact Kd.C_below HR1_0.out (lU HB)); (case side4 => exact HC1_0.out); rintro e w50 ⟨v224, rfl, ho0, hb⟩; refine ⟨_, rfl, ?_⟩; have HO225 := Aside0.mk (Kd.R_lower (Kd.R_new' ho0 (Kd.R_lt (rU ((Kd.R_mono (Kd.R_far (p := ⟨gb222, 0, none⟩) (Kd.R_types HO221.out BK222.out (by decide)) (fun _ hk => hk.2) (.slice Ao44 t219.length co44)) (fun _ h_ => h_.1)))))) (below_size (lU HB))); replace HO221 := Aside0.mk (Kd.R_elder' (rU ((Kd.R_mono (Kd.R_far (p := ⟨gb222, 0, none⟩) (Kd.R_types HO221.out BK222.out (by decide)) (fun _ hk => hk.2) (.slice Ao44 t219.length co44)) (fun _ h_ => h_.1)))) (Kd.R_base ho0) hb); replace BK215 := Aside0.mk (blk_below (g := gb215) (o := .cells #[.slice A0_0 l0_0.length c0_0] 30 (0, 0)) (bF BK215) hb); replace BK216 := Aside0.mk (blk_below (g := gb216) (o := .cells #[.slice A1_0 l1_0.length c1_0] 30 (0, 0)) (bF BK216) hb); replace BK217 := Aside0.mk (blk_below (g := gb217) (o := .cells #[.int .i64 a3_0, .int .i64 a3_1, .int .i64 a3_2, .int .i64 a3_3, .int .i64 a3_4, .int .i64 a3_5, .int .i64 a3_6, .int .i64 a3_7, .int .i64 a3_8, .int .i64 a3_9] 24 (0, 0)) (bF BK217) hb); replace BK222 := Aside0.mk (blk_below (g := gb222) (o := .cells #[.slice Ao44 t219.length co44] 30 (0, 0)) (by (with_reducible repeat (first | refine blk_drewN ?_ _ | refine blk_drew ?_ | refine blk_alloc ?_ _)); refine blk_put (cs := #[.slice none 0 0]) ?_ 0 _ rfl; (with_reducible repeat (first | refine blk_drewN ?_ _ | refine blk_drew ?_ | refine blk_alloc ?_ _)); exact BK222.out) hb); replace HB := sL HB hb; (try clear hb); (try clear hb2); (try clear hk); (try clear hi); (try clear ho0); obtain ⟨Ao51, co51, eo51⟩ := Kd.R_slice HO225.out; subst eo51) | ((with_reducible refine gate_callee (f := 26) rfl ?_); refine gL (some 28) rfl rfl Try.func26 #[.agg #[.slice Ao51 t223.length co51]] rfl ?_; (with_reducible refine (ranges_Set_Len.calls k _ _ t223 t226 _ (cU (rC HO225)) (rN HO225) A9.out).mono ?_); rintro e w52 ⟨rfl, hb⟩; refine ⟨_, rfl, ?_⟩; replace HO221 := rB HO221 hb; replace HO225 := rB HO225 hb; replace BK215 := sB BK215 hb; replace BK216 := sB BK216 hb; replace BK217 := sB BK217 hb; replace BK222 := sB BK222 hb; replace HB := sL HB hb; (try clear hb); (try clear hb2); (try clear hk); (try clear hi)))
   go_loopg [11] k (fun kq v11 w' => ∃ (x11_1 : List (S48)) (x223000_1 : List (S48)) (u223000 : Value), Aside0 (plan_Plan.l0 kq x11_1 l1_0 a3_0 a3_1 a3_2 a3_3 a3_4 a3_5 a3_6 a3_7 a3_8 a3_9 x223000_1 = some (r1, r2)) ∧ Aside0 (kq ≤ k) ∧ Aside0 (Kd.R k48 48 w' w.heap.size (fun k_ => some k_ ≠ (u223000 : Value).ownBlock) v11 x11_1) ∧ Aside0 (Kd.R k48 48 w' w.heap.size (fun k_ => some k_ ≠ (v11 : Value).ownBlock) u223000 x223000_1) ∧ Aside0 (w'.heap[gb215]? = some (.cells #[(.slice A0_0 l0_0.length c0_0)] 30 (0, 0))) ∧ Aside0 (w'.heap[gb216]? = some (.cells #[(.slice A1_0 l1_0.length c1_0)] 30 (0, 0))) ∧ Aside0 (w'.heap[gb217]? = some (.cells #[.int .i64 a3_0, .int .i64 a3_1, .int .i64 a3_2, .int .i64 a3_3, .int .i64 a3_4, .int .i64 a3_5, .int .i64 a3_6, .int .i64 a3_7, .int .i64 a3_8, .int .i64 a3_9] 24 (0, 0))) ∧ Aside0 (w'.heap[gb222]? = some (.cells #[u223000] 30 (0, 0))) ∧ Aside0 (Below w.heap.size w w'))
   case atStart => exact ⟨(([] : List (S48))), (t219), (.slice Ao44 t219.length co44), H', ⟨Nat.le_refl _⟩, ⟨by first | exact Kd.R_nil _ _ _ _ _ | exact Kd.N_nil _ _ _ _ _ | exact Kd.V_nil _ _ _ _ _ | exact Kd.Q_nil _ _ _ _ _ | exact Kd.S_nil _ _ _ _ _⟩, ⟨rU (Kd.R_mono HO221.out (fun _ hk => (by simp [Value.ownBlock])))⟩, ⟨bU BK215⟩, ⟨bU BK216⟩, ⟨bU BK217⟩, ⟨bU BK222⟩, ⟨lU HB⟩⟩
   case round =>
    clear H'
    try clear c1
    try clear c2
    try clear p2
    try clear c3
    try clear c4
    try clear c6
    try clear c10
    try clear c10b0
    try clear c13
    try clear c14
    try clear c15
    try clear c18
    try clear c20
    try clear c24
    try clear c25
    try clear c26
    try clear c28
    try clear c31
    try clear c35
    try clear c36
    try clear c39
    try clear c45
    try clear c46
    try clear c47
    try clear hcz16_0
    try clear hcz16_1
    try clear hcz16_2
    try clear hcz16_3
    try clear hcz16_4
    try clear hcz16_5
    try clear hcz16_6
    try clear hcz16_7
    try clear hcz16_8
    try clear hcz16_9
    try clear hcz19_0
    try clear hcz20_0
    try clear hcz20_1
    try clear hcz20_2
    try clear hcz20_3
    try clear hcz20_4
    try clear hcz20_5
    try clear hcz20_6
    try clear hcz20_7
    try clear hcz20_8
    try clear hcz20_9
    try clear hcz27_0
    try clear hcz28_0
    try clear hcz37_0
    try clear hcz37_1
    try clear hcz37_2
    try clear hcz37_3
    try clear hcz37_4
    try clear hcz37_5
    try clear hcz37_6
    try clear hcz37_7
    try clear hcz37_8
    try clear hcz37_9
    try clear hcz40_0
    try clear hcz41_0
    try clear hcz41_1
    try clear hcz41_2
    try clear hcz41_3
    try clear hcz41_4
    try clear hcz41_5
    try clear hcz41_6
    try clear hcz41_7
    try clear hcz41_8
    try clear hcz41_9
    try clear hcz48_0
    try clear hcz49_0
    try clear hfz16_0
    try clear hfz16_1
    try clear hfz16_2
    try clear hfz16_3
    try clear hfz16_4
    try clear hfz16_5
    try clear hfz16_6
    try clear hfz16_7
    try clear hfz16_8
    try clear hfz16_9
    try clear hfz19_0
    try clear hfz20_0
    try clear hfz20_1
    try clear hfz20_2
    try clear hfz20_3
    try clear hfz20_4
    try clear hfz20_5
    try clear hfz20_6
    try clear hfz20_7
    try clear hfz20_8
    try clear hfz20_9
    try clear hfz27_0
    try clear hfz28_0
    try clear hfz37_0
    try clear hfz37_1
    try clear hfz37_2
    try clear hfz37_3
    try clear hfz37_4
    try clear hfz37_5
    try clear hfz37_6
    try clear hfz37_7
    try clear hfz37_8
    try clear hfz37_9
    try clear hfz40_0
    try clear hfz41_0
    try clear hfz41_1
    try clear hfz41_2
    try clear hfz41_3
    try clear hfz41_4
    try clear hfz41_5
    try clear hfz41_6
    try clear hfz41_7
    try clear hfz41_8
    try clear hfz41_9
    try clear hfz48_0
    try clear hfz49_0
    obtain ⟨x11_1, x223000_1, u223000, HA, HK1, HO_11, HO_223000, BK215, BK216, BK217, BK222, HB⟩ := hrel
    cases gk with
    | zero => exact absurd HA.out (by simp [plan_Plan.l0])
    | succ k1 =>
     have H := HA.out
     clear HA
     simp only [plan_Plan.l0] at H
     obtain ⟨t227, A53, H⟩ := bO H
     by_cases c54 : (t227.length : Int) = 0
     ·rw [if_pos c54] at H
      have c54b0 : ((t227.length : Int) == 0) = true := beq_iff_eq.mpr c54
      have c54b1 : ((t227.length : Int) != 0) = false := bne_eq_false_iff_eq.mpr c54
      clear c54
      simp only [Option.some.injEq, Prod.mk.injEq] at H
      obtain ⟨rfl, rfl⟩ := H
      have hnb55 := NB222_215.out
      have hnc55 := NB215_222.out
      have hnb56 := NB222_216.out
      have hnc56 := NB216_222.out
      have hnb57 := NB222_217.out
      have hnc57 := NB217_222.out
      have hcz58_0 := q1 BK222
      have hfz58_0 := blk_frozen BK222.out 0
      obtain ⟨Ao59, co59, eo59⟩ := Kd.R_slice HO_223000.out
      subst eo59
      go_wp2_with (first | ((with_reducible refine gate_callee (f := 21) rfl ?_); refine gL (some 31) rfl rfl Try.func21 #[.agg #[.slice Ao59 x223000_1.length co59]] rfl ?_; (with_reducible refine (ranges_Set_Spans.calls _ _ x223000_1 t227 _ (cU (rC HO_223000)) (rN HO_223000) A53.out).mono ?_); rintro e w60 ⟨v228, rfl, ho0, hb⟩; refine ⟨_, rfl, ?_⟩; have HO229 := Aside0.mk (Kd.R_lower (Kd.R_new' (Kd.R_new' ho0 (Kd.R_lt (rU HO_11.out))) (Kd.R_lt (rU HO_223000.out))) (below_size (lU HB))); replace HO_11 := rE HO_11 ho0 hb; replace HO_223000 := rE HO_223000 ho0 hb; replace BK215 := sB BK215 hb; replace BK216 := sB BK216 hb; replace BK217 := sB BK217 hb; replace BK222 := sB BK222 hb; replace HB := sL HB hb; (try clear hb); (try clear hb2); (try clear hk); (try clear hi); (try clear ho0); obtain ⟨Ao61, co61, eo61⟩ := Kd.R_slice HO229.out; subst eo61))
      go_ret2
      exact ⟨_, eW, by (with_reducible repeat (first | apply Kd.R_alloc | apply Kd.R_drewN | apply Kd.R_drew)); exact Kd.R_mono HO_11.out (fun _ hk => trivial), lU HB⟩
     ·rw [if_neg c54] at H
      have c54b0 : ((t227.length : Int) == 0) = false := beq_eq_false_iff_ne.mpr c54
      have c54b1 : ((t227.length : Int) != 0) = true := bne_iff_ne.mpr c54
      have c54b2 : ¬ (t227 = []) := fun h_ => c54 (by rw [h_]; rfl)
      by_cases c62 : 0 < (t227.length : Int)
      ·rw [if_pos c62] at H
       have c62b0 : decide (0 < (t227.length : Int)) = true := decide_eq_true c62
       have c62b1 : decide (0 < t227.length) = true := decide_eq_true (by omega)
       clear c62
       replace H := Option.bind_eq_some_iff.mp H
       obtain ⟨⟨t231, t232, t233⟩, A630, H⟩ := H
       dsimp only at H
       have A63 := Aside0.mk A630
       clear A630
       obtain ⟨t236, A64, H⟩ := bO H
       by_cases c65 : x11_1.length < 8796093022208
       ·rw [if_pos c65] at H
        have LMc65 := Aside0.mk c65
        clear c65
        obtain ⟨y238, hy238⟩ : ∃ y_ : List (S48), y_ = (x11_1 ++ [(⟨(rd_T48 t227 0).f0, t236⟩ : S48)]) := ⟨_, rfl⟩
        replace H : ((ranges_Of.f k1 (([(⟨(rd_T48 t227 0).f0, t236⟩ : S48)] : List (S48)))).bind fun t244 => ((ranges_Set_Less.f k1 x223000_1 t244).bind fun t247 => (plan_Plan.l0 k1 y238 l1_0 a3_0 a3_1 a3_2 a3_3 a3_4 a3_5 a3_6 a3_7 a3_8 a3_9 t247))) = some (r1, r2) := by first | (rw [hy238]; with_reducible exact H) | (have H2_ := (Option.bind_some _ _).symm.trans H; rw [hy238]; with_reducible exact H2_) | (have H2_ := (Option.bind_some _ _).symm.trans H; with_reducible exact H2_) | with_reducible exact H | (rw [hy238]; exact H) | exact H
        have Ny238 := Aside0.mk hy238
        clear hy238
        obtain ⟨y241, hy241⟩ : ∃ y_ : List (S48), y_ = (([(⟨(rd_T48 t227 0).f0, t236⟩ : S48)] : List (S48))) := ⟨_, rfl⟩
        replace H : ((ranges_Of.f k1 y241).bind fun t244 => ((ranges_Set_Less.f k1 x223000_1 t244).bind fun t247 => (plan_Plan.l0 k1 y238 l1_0 a3_0 a3_1 a3_2 a3_3 a3_4 a3_5 a3_6 a3_7 a3_8 a3_9 t247))) = some (r1, r2) := by first | (rw [hy241]; with_reducible exact H) | (have H2_ := (Option.bind_some _ _).symm.trans H; rw [hy241]; with_reducible exact H2_) | (have H2_ := (Option.bind_some _ _).symm.trans H; with_reducible exact H2_) | with_reducible exact H | (rw [hy241]; exact H) | exact H
        have Ny241 := Aside0.mk hy241
        clear hy241
        obtain ⟨t244, A66, H⟩ := bO H
        obtain ⟨t247, A67, H⟩ := bO H
        have H' := Aside0.mk H
        clear H
        have hnb68 := NB222_215.out
        have hnc68 := NB215_222.out
        have hnb69 := NB222_216.out
        have hnc69 := NB216_222.out
        have hnb70 := NB222_217.out
        have hnc70 := NB217_222.out
        have hcz71_0 := q1 BK222
        have hfz71_0 := blk_frozen BK222.out 0
        obtain ⟨Ao72, co72, eo72⟩ := Kd.R_slice HO_223000.out
        subst eo72
        try go_wp2_with (first | ((with_reducible refine gate_callee (f := 21) rfl ?_); refine gL (some 31) rfl rfl Try.func21 #[.agg #[.slice Ao72 x223000_1.length co72]] rfl ?_; (with_reducible refine (ranges_Set_Spans.calls _ _ x223000_1 t227 _ (cU (rC HO_223000)) (rN HO_223000) A53.out).mono ?_); rintro e w73 ⟨v228, rfl, ho0, hb⟩; refine ⟨_, rfl, ?_⟩; have HO229 := Aside0.mk (Kd.R_lower (Kd.R_new' (Kd.R_new' ho0 (Kd.R_lt (rU HO_11.out))) (Kd.R_lt (rU HO_223000.out))) (below_size (lU HB))); replace HO_11 := rE HO_11 ho0 hb; replace HO_223000 := rE HO_223000 ho0 hb; replace BK215 := sB BK215 hb; replace BK216 := sB BK216 hb; replace BK217 := sB BK217 hb; replace BK222 := sB BK222 hb; replace HB := sL HB hb; (try clear hb); (try clear hb2); (try clear hk); (try clear hi); (try clear ho0); obtain ⟨Ao74, co74, eo74⟩ := Kd.R_slice HO229.out; subst eo74))
        replace HO_11 := Aside0.mk (Kd.R_drew HO_11.out)
        replace HO_223000 := Aside0.mk (Kd.R_drew HO_223000.out)
        replace HO229 := Aside0.mk (Kd.R_drew HO229.out)
        replace BK215 := Aside0.mk (blk_drew BK215.out)
        replace BK216 := Aside0.mk (blk_drew BK216.out)
        replace BK217 := Aside0.mk (blk_drew BK217.out)
        replace BK222 := Aside0.mk (blk_drew BK222.out)
        replace HB := Aside0.mk (below_drew1 HB.out)
        have p230 : 0 ≤ (0 : Int) := (by omega)
        have q230 : 0 < (t227.length : Int) := of_decide_eq_true (by first | (with_reducible assumption) | assumption)
        obtain ⟨ad230, e230, hx230_0, hx230_1⟩ := at_T48 (rC HO229) 0 p230 q230
        cases e230
        have qi230 : (0 < t227.length) = True := eq_true (by omega)
        (try rw [show ((0 : Int)).toNat = 0 from rfl] at hx230_0)
        (try rw [show 0 * 2 = 0 from rfl] at hx230_0)
        (try rw [Addr.add_zero'] at hx230_0)
        (try rw [show ((0 : Int)).toNat = 0 from rfl] at hx230_1)
        (try rw [show 0 * 2 = 0 from rfl] at hx230_1)
        (try rw [Addr.add_zero'] at hx230_1)
        replace p230 := eq_true p230
        replace q230 := eq_true q230
        refine start_ (n := 12) (S := fun w' => w'.cell? ⟨gb216, 0, none⟩ = some (.slice A1_0 l1_0.length c1_0) ∧ w'.cell? ad230 = some (.int .i64 ((rd_T48 t227 0).f0)) ∧ w'.cell? ⟨ad230.block, ad230.off + 1, none⟩ = some (.int .i64 ((rd_T48 t227 0).f1))) (ds := []) #[false, false, false, false, false, false, false, false, false, false, false, false] (by kernel_rfl) rfl rfl ⟨(blk_cell BK216.out 0).trans rfl, hx230_0, hx230_1⟩ (fun hHeld => ?_); refine with_tabW plan_Plan.tab10 plan_Plan.bits10 (fun HT_ HW_ => ?_)
        generalize w73.drew = w75 at HO_11 HO_223000 HO229 BK215 BK216 BK217 BK222 HB hx230_0 hx230_1 hHeld ⊢
        refine pS (i := 1) (N := some 38) (ma 12 2) rfl rfl HT_.out ?_
        refine pS (i := 2) (N := some 39) (ma 12 6) rfl rfl HT_.out ?_
        refine pS (i := 3) (N := some 40) (ma 12 14) rfl rfl HT_.out ?_
        refine tS (i := 0) (N := some 37) (ma 12 15) rfl rfl HT_.out HW_.out hHeld ?_
        refine tS (i := 4) (N := some 41) (ma 12 31) rfl rfl HT_.out HW_.out hHeld ?_
        refine join_ (σ := Nat) 2 #[true, true, true, true, true, true, true, true, true, true, false, false] (fun s_ => [(42, .tuple #[.agg #[.int .i64 t231, .int .i64 t232], .bool t233]), (13, .pointer (some ⟨s_, 0, none⟩)), (36, .tuple #[.agg #[.int .i64 t231, .int .i64 t232], .bool t233]), (43, .agg #[.int .i64 t231, .int .i64 t232]), (44, .bool t233)]) (fun s_ w' => (w'.cell? ⟨gb216, 0, none⟩ = some (.slice A1_0 l1_0.length c1_0) ∧ w'.cell? ad230 = some (.int .i64 ((rd_T48 t227 0).f0)) ∧ w'.cell? ⟨ad230.block, ad230.off + 1, none⟩ = some (.int .i64 ((rd_T48 t227 0).f1))) ∧ (Kd.R k48 48 w' w.heap.size (fun k_ => some k_ ≠ (u11 : Value).ownBlock ∧ some k_ ≠ (.slice Ao72 x223000_1.length co72 : Value).ownBlock ∧ k_ ≠ s_) (.slice (some ad230) t227.length co74) t227) ∧ (Kd.R k48 48 w' w.heap.size (fun k_ => some k_ ≠ (.slice (some ad230) t227.length co74 : Value).ownBlock ∧ some k_ ≠ (.slice Ao72 x223000_1.length co72 : Value).ownBlock ∧ k_ ≠ s_) u11 x11_1) ∧ (Kd.R k48 48 w' w.heap.size (fun k_ => some k_ ≠ (.slice (some ad230) t227.length co74 : Value).ownBlock ∧ some k_ ≠ (u11 : Value).ownBlock ∧ k_ ≠ s_) (.slice Ao72 x223000_1.length co72) x223000_1) ∧ (w'.heap[gb215]? = some (.cells #[.slice A0_0 l0_0.length c0_0] 30 (0, 0))) ∧ (w'.heap[gb216]? = some (.cells #[.slice A1_0 l1_0.length c1_0] 30 (0, 0))) ∧ (w'.heap[gb217]? = some (.cells #[.int .i64 a3_0, .int .i64 a3_1, .int .i64 a3_2, .int .i64 a3_3, .int .i64 a3_4, .int .i64 a3_5, .int .i64 a3_6, .int .i64 a3_7, .int .i64 a3_8, .int .i64 a3_9] 24 (0, 0))) ∧ (w'.heap[gb222]? = some (.cells #[.slice Ao72 x223000_1.length co72] 30 (0, 0))) ∧ (w'.heap[s_]? = some (.cells #[.int .i64 0, .int .i64 0] 48 (0, 0))) ∧ (w.heap.size ≤ s_) ∧ (w.heap.size ≤ s_) ∧ (gb215 ≠ s_) ∧ (s_ ≠ gb215) ∧ (gb216 ≠ s_) ∧ (s_ ≠ gb216) ∧ (gb217 ≠ s_) ∧ (s_ ≠ gb217) ∧ (gb222 ≠ s_) ∧ (s_ ≠ gb222) ∧ (Below w.heap.size w w')) ?_ ?_
        rotate_left
        ·intro hCont
         refine two_ (i := 5) (j := 9) (Ni := some 42) (Nj := some 13) #[true, true, true, true, true, true, false, false, false, false, false, false] #[true, true, true, true, true, false, false, false, false, true, false, false] rfl rfl rfl rfl (two_of HT_.out (by kernel_rfl)) (by decide) (by decide) (fun K hK => ?_) (fun K hK => ?_)
         ·skip
          refine gO Try.func32 #[.agg #[.slice A1_0 l1_0.length c1_0], .int .i64 ((rd_T48 t227 0).f0)] rfl rfl ?_
          with_reducible refine (ranges_Set_First.calls _ _ l1_0 ((rd_T48 t227 0).f0) t231 t232 t233 _ (cU (Kd.C_below HR1_0.out HB.out)) HC1_0.out A63.out).mono ?_
          rintro e w76 ⟨rfl, hb⟩
          have HS1_ := (hb.cell (World.block_lt_of_cell? _ _ (hHeld.2.1))).trans (hHeld.2.1)
          have HS2_ := (hb.cell (World.block_lt_of_cell? _ _ (hHeld.2.2))).trans (hHeld.2.2)
          refine ⟨_, rfl, ?_⟩
          replace HO_11 := rB HO_11 hb
          replace HO_223000 := rB HO_223000 hb
          replace HO229 := rB HO229 hb
          replace BK215 := sB BK215 hb
          replace BK216 := sB BK216 hb
          replace BK217 := sB BK217 hb
          replace BK222 := sB BK222 hb
          replace HB := sL HB hb
          (try clear hb)
          (try clear hb2)
          (try clear hk)
          (try clear hi)
          refine hK.out _ _ ⟨(blk_cell BK216.out 0).trans rfl, HS1_, HS2_⟩ (fun hHeld => ?_)
          clear hK K
          refine nP (some 42) ?_
          refine pS (i := 6) (N := some 36) (ma 12 127) rfl rfl HT_.out ?_
          refine pS (i := 7) (N := some 43) (ma 12 255) rfl rfl HT_.out ?_
          refine pS (i := 8) (N := some 44) (ma 12 511) rfl rfl HT_.out ?_
          refine one_ (i := 9) (N := some 13) (ma 12 1023) rfl rfl (one_of HT_.out (by kernel_rfl)) (by decide) (fun K hK => ?_)
          refine bY (N := 13) (cs := #[.int .i64 0, .int .i64 0]) (t := 48) ?_
          intro gb234 hg w77 hbox hb
          have HS1_ := (hb.cell (World.block_lt_of_cell? _ _ (hHeld.2.1))).trans (hHeld.2.1)
          have HS2_ := (hb.cell (World.block_lt_of_cell? _ _ (hHeld.2.2))).trans (hHeld.2.2)
          have BK234 := Aside0.mk (hbox)
          have GW234 := sG HB hg
          have GE234 := sG HB hg
          have NB215_234 := sN BK215 hg
          have NB234_215 := sM BK215 hg
          have NB216_234 := sN BK216 hg
          have NB234_216 := sM BK216 hg
          have NB217_234 := sN BK217 hg
          have NB234_217 := sM BK217 hg
          have NB222_234 := sN BK222 hg
          have NB234_222 := sM BK222 hg
          replace HO_11 := Aside0.mk (Kd.R_below (Kd.R_elderB (rU HO_11.out) gb234 (Nat.le_of_eq hg.symm)) hb)
          replace HO_223000 := Aside0.mk (Kd.R_below (Kd.R_elderB (rU HO_223000.out) gb234 (Nat.le_of_eq hg.symm)) hb)
          replace HO229 := Aside0.mk (Kd.R_below (Kd.R_elderB (rU HO229.out) gb234 (Nat.le_of_eq hg.symm)) hb)
          replace BK215 := sB BK215 hb
          replace BK216 := sB BK216 hb
          replace BK217 := sB BK217 hb
          replace BK222 := sB BK222 hb
          replace HB := sL HB hb
          clear hb hbox hg
          refine hK.out _ _ ⟨(blk_cell BK216.out 0).trans rfl, HS1_, HS2_⟩ (fun hHeld => ?_)
          clear hK K
          refine nP (some 13) ?_
          exact norm_ (by simp only [putAll, Act.put, List.setIfInBounds_toArray, List.set_cons_zero, List.set_cons_succ]) (hCont (gb234) _ ⟨hHeld, (rU (Kd.R_mono HO229.out (fun _ hk => ⟨hk.1.1.2, ⟨hk.1.2, hk.2⟩⟩))), (rU (Kd.R_mono HO_11.out (fun _ hk => ⟨hk.1.2, ⟨hk.1.1, hk.2⟩⟩))), (rU (Kd.R_mono HO_223000.out (fun _ hk => ⟨hk.1.2, ⟨hk.1.1, hk.2⟩⟩))), (bU BK215), (bU BK216), (bU BK217), (bU BK222), (bU BK234), GW234.out, GE234.out, NB215_234.out, NB234_215.out, NB216_234.out, NB234_216.out, NB217_234.out, NB234_217.out, NB222_234.out, NB234_222.out, (lU HB)⟩)
         ·skip
          refine bY (N := 13) (cs := #[.int .i64 0, .int .i64 0]) (t := 48) ?_
          intro gb234 hg w76 hbox hb
          have HS1_ := (hb.cell (World.block_lt_of_cell? _ _ (hHeld.2.1))).trans (hHeld.2.1)
          have HS2_ := (hb.cell (World.block_lt_of_cell? _ _ (hHeld.2.2))).trans (hHeld.2.2)
          have BK234 := Aside0.mk (hbox)
          have GW234 := sG HB hg
          have GE234 := sG HB hg
          have NB215_234 := sN BK215 hg
          have NB234_215 := sM BK215 hg
          have NB216_234 := sN BK216 hg
          have NB234_216 := sM BK216 hg
          have NB217_234 := sN BK217 hg
          have NB234_217 := sM BK217 hg
          have NB222_234 := sN BK222 hg
          have NB234_222 := sM BK222 hg
          replace HO_11 := Aside0.mk (Kd.R_below (Kd.R_elderB (rU HO_11.out) gb234 (Nat.le_of_eq hg.symm)) hb)
          replace HO_223000 := Aside0.mk (Kd.R_below (Kd.R_elderB (rU HO_223000.out) gb234 (Nat.le_of_eq hg.symm)) hb)
          replace HO229 := Aside0.mk (Kd.R_below (Kd.R_elderB (rU HO229.out) gb234 (Nat.le_of_eq hg.symm)) hb)
          replace BK215 := sB BK215 hb
          replace BK216 := sB BK216 hb
          replace BK217 := sB BK217 hb
          replace BK222 := sB BK222 hb
          replace HB := sL HB hb
          clear hb hbox hg
          refine hK.out _ _ ⟨(blk_cell BK216.out 0).trans rfl, HS1_, HS2_⟩ (fun hHeld => ?_)
          clear hK K
          refine nP (some 13) ?_
          refine one_ (i := 5) (N := some 42) (ma 12 575) rfl rfl (one_of HT_.out (by kernel_rfl)) (by decide) (fun K hK => ?_)
          refine gO Try.func32 #[.agg #[.slice A1_0 l1_0.length c1_0], .int .i64 ((rd_T48 t227 0).f0)] rfl rfl ?_
          with_reducible refine (ranges_Set_First.calls _ _ l1_0 ((rd_T48 t227 0).f0) t231 t232 t233 _ (cU (Kd.C_below HR1_0.out HB.out)) HC1_0.out A63.out).mono ?_
          rintro e w77 ⟨rfl, hb⟩
          have HS1_ := (hb.cell (World.block_lt_of_cell? _ _ (hHeld.2.1))).trans (hHeld.2.1)
          have HS2_ := (hb.cell (World.block_lt_of_cell? _ _ (hHeld.2.2))).trans (hHeld.2.2)
          refine ⟨_, rfl, ?_⟩
          replace HO_11 := rB HO_11 hb
          replace HO_223000 := rB HO_223000 hb
          replace HO229 := rB HO229 hb
          replace BK215 := sB BK215 hb
          replace BK216 := sB BK216 hb
          replace BK217 := sB BK217 hb
          replace BK222 := sB BK222 hb
          replace BK234 := sB BK234 hb
          replace HB := sL HB hb
          (try clear hb)
          (try clear hb2)
          (try clear hk)
          (try clear hi)
          refine hK.out _ _ ⟨(blk_cell BK216.out 0).trans rfl, HS1_, HS2_⟩ (fun hHeld => ?_)
          clear hK K
          refine nP (some 42) ?_
          refine pS (i := 6) (N := some 36) (ma 12 639) rfl rfl HT_.out ?_
          refine pS (i := 7) (N := some 43) (ma 12 767) rfl rfl HT_.out ?_
          refine pS (i := 8) (N := some 44) (ma 12 1023) rfl rfl HT_.out ?_
          exact norm_ (by simp only [putAll, Act.put, List.setIfInBounds_toArray, List.set_cons_zero, List.set_cons_succ]) (hCont (gb234) _ ⟨hHeld, (rU (Kd.R_mono HO229.out (fun _ hk => ⟨hk.1.1.2, ⟨hk.1.2, hk.2⟩⟩))), (rU (Kd.R_mono HO_11.out (fun _ hk => ⟨hk.1.2, ⟨hk.1.1, hk.2⟩⟩))), (rU (Kd.R_mono HO_223000.out (fun _ hk => ⟨hk.1.2, ⟨hk.1.1, hk.2⟩⟩))), (bU BK215), (bU BK216), (bU BK217), (bU BK222), (bU BK234), GW234.out, GE234.out, NB215_234.out, NB234_215.out, NB216_234.out, NB234_216.out, NB217_234.out, NB234_217.out, NB222_234.out, NB234_222.out, (lU HB)⟩)
        rintro gb234 w78 ⟨hS_, h0_, h1_, h2_, h3_, h4_, h5_, h6_, h7_, h8_, h9_, h10_, h11_, h12_, h13_, h14_, h15_, h16_, h17_, h18_⟩
        have n0_ := Aside0.mk h0_
        have n1_ := Aside0.mk h1_
        have n2_ := Aside0.mk h2_
        have n3_ := Aside0.mk h3_
        have n4_ := Aside0.mk h4_
        have n5_ := Aside0.mk h5_
        have n6_ := Aside0.mk h6_
        have n7_ := Aside0.mk h7_
        have n8_ := Aside0.mk h8_
        have n9_ := Aside0.mk h9_
        have n10_ := Aside0.mk h10_
        have n11_ := Aside0.mk h11_
        have n12_ := Aside0.mk h12_
        have n13_ := Aside0.mk h13_
        have n14_ := Aside0.mk h14_
        have n15_ := Aside0.mk h15_
        have n16_ := Aside0.mk h16_
        have n17_ := Aside0.mk h17_
        have n18_ := Aside0.mk h18_
        clear HO_11
        clear HO_223000
        clear HO229
        clear BK215
        clear BK216
        clear BK217
        clear BK222
        clear HB
        clear h0_ h1_ h2_ h3_ h4_ h5_ h6_ h7_ h8_ h9_ h10_ h11_ h12_ h13_ h14_ h15_ h16_ h17_ h18_
        have HO229 := n0_
        have HO_11 := n1_
        have HO_223000 := n2_
        have BK215 := n3_
        have BK216 := n4_
        have BK217 := n5_
        have BK222 := n6_
        have BK234 := n7_
        have GW234 := n8_
        have GE234 := n9_
        have NB215_234 := n10_
        have NB234_215 := n11_
        have NB216_234 := n12_
        have NB234_216 := n13_
        have NB217_234 := n14_
        have NB234_217 := n15_
        have NB222_234 := n16_
        have NB234_222 := n17_
        have HB := n18_
        clear n0_ n1_ n2_ n3_ n4_ n5_ n6_ n7_ n8_ n9_ n10_ n11_ n12_ n13_ n14_ n15_ n16_ n17_ n18_
        have hHeld : w78.cell? ⟨gb216, 0, none⟩ = some (.slice A1_0 l1_0.length c1_0) ∧ w78.cell? ad230 = some (.int .i64 ((rd_T48 t227 0).f0)) ∧ w78.cell? ⟨ad230.block, ad230.off + 1, none⟩ = some (.int .i64 ((rd_T48 t227 0).f1)) := hS_
        refine norm_ (a' := ?_) ?_ ?_
        rotate_left
        ·simp only [putAll, Act.put, List.setIfInBounds_toArray, List.set_cons_zero, List.set_cons_succ]
         rfl
        refine one_ (i := 10) (N := none) (ma 12 2047) rfl rfl (one_of HT_.out (by kernel_rfl)) (by decide) (fun K hK => ?_)
        have hs79 : w78.cell? ⟨gb234, 0, none⟩ = some (.int .i64 0) := (blk_cell BK234.out 0).trans rfl
        have hfs79 := blk_frozen BK234.out 0
        have hns79_0 := NB215_234.out
        have hns79_1 := NB216_234.out
        have hns79_2 := NB217_234.out
        have hns79_3 := NB222_234.out
        have hms79_0 := NB234_215.out
        have hms79_1 := NB234_216.out
        have hms79_2 := NB234_217.out
        have hms79_3 := NB234_222.out
        have hs80 : w78.cell? ⟨gb234, 1, none⟩ = some (.int .i64 0) := (blk_cell BK234.out 1).trans rfl
        have hfs80 := blk_frozen BK234.out 1
        have hns80_0 := NB215_234.out
        have hns80_1 := NB216_234.out
        have hns80_2 := NB217_234.out
        have hns80_3 := NB222_234.out
        have hms80_0 := NB234_215.out
        have hms80_1 := NB234_216.out
        have hms80_2 := NB234_217.out
        have hms80_3 := NB234_222.out
        refine skip_ (w1 := ?_) (by rfl) rfl ?_ ?_
        rotate_left
        ·go_simp
         rfl
        refine hK.out _ _ ⟨((cell_far (p := ⟨gb234, _, none⟩) NB216_234.out _).trans (((cell_far (p := ⟨gb234, _, none⟩) NB216_234.out _).trans (hHeld.1)))), ((cell_far (p := ⟨gb234, _, none⟩) (by first | exact Kd.own_blk (Kd.R_away HO229.out (fun _ hk => hk.2.2)) | (rw [add_block]; exact Kd.own_blk (Kd.R_away HO229.out (fun _ hk => hk.2.2))) | (show (Addr.add _ _).block ≠ _; rw [add_block]; exact Kd.own_blk (Kd.R_away HO229.out (fun _ hk => hk.2.2))) | (dsimp only; exact Kd.own_blk (Kd.R_away HO229.out (fun _ hk => hk.2.2)))) _).trans (((cell_far (p := ⟨gb234, _, none⟩) (by first | exact Kd.own_blk (Kd.R_away HO229.out (fun _ hk => hk.2.2)) | (rw [add_block]; exact Kd.own_blk (Kd.R_away HO229.out (fun _ hk => hk.2.2))) | (show (Addr.add _ _).block ≠ _; rw [add_block]; exact Kd.own_blk (Kd.R_away HO229.out (fun _ hk => hk.2.2))) | (dsimp only; exact Kd.own_blk (Kd.R_away HO229.out (fun _ hk => hk.2.2)))) _).trans (hHeld.2.1)))), ((cell_far (p := ⟨gb234, _, none⟩) (by first | exact Kd.own_blk (Kd.R_away HO229.out (fun _ hk => hk.2.2)) | (rw [add_block]; exact Kd.own_blk (Kd.R_away HO229.out (fun _ hk => hk.2.2))) | (show (Addr.add _ _).block ≠ _; rw [add_block]; exact Kd.own_blk (Kd.R_away HO229.out (fun _ hk => hk.2.2))) | (dsimp only; exact Kd.own_blk (Kd.R_away HO229.out (fun _ hk => hk.2.2)))) _).trans (((cell_far (p := ⟨gb234, _, none⟩) (by first | exact Kd.own_blk (Kd.R_away HO229.out (fun _ hk => hk.2.2)) | (rw [add_block]; exact Kd.own_blk (Kd.R_away HO229.out (fun _ hk => hk.2.2))) | (show (Addr.add _ _).block ≠ _; rw [add_block]; exact Kd.own_blk (Kd.R_away HO229.out (fun _ hk => hk.2.2))) | (dsimp only; exact Kd.own_blk (Kd.R_away HO229.out (fun _ hk => hk.2.2)))) _).trans (hHeld.2.2))))⟩ (fun hHeld => ?_)
        clear hK K
        refine pS (i := 11) (N := some 14) (ma 12 4095) rfl rfl HT_.out ?_
        refine done_ (done_of HT_.out (by kernel_rfl)) ?_
        try go_wp2
        have n0_ : Aside0 (Kd.R k48 48 ((w78.setCell ⟨gb234, 0, none⟩ (.int .i64 t231)).setCell ⟨gb234, 1, none⟩ (.int .i64 t232)) w.heap.size (fun k_ => some k_ ≠ (.slice Ao72 x223000_1.length co72 : Value).ownBlock ∧ some k_ ≠ (.slice (some ad230) t227.length co74 : Value).ownBlock ∧ k_ ≠ gb234) u11 x11_1) := ⟨rU (Kd.R_mono (Kd.R_far (p := ⟨gb234, 1, none⟩) (Kd.R_far (p := ⟨gb234, 0, none⟩) (Kd.R_mono HO_11.out (fun k_ hk => (⟨hk, hk.2.2⟩ : _ ∧ k_ ≠ gb234))) (fun _ hk => hk.2) (.int .i64 t231)) (fun _ hk => hk.2) (.int .i64 t232)) (fun _ hk => ⟨hk.1.2.1, ⟨hk.1.1, hk.1.2.2⟩⟩))⟩
        have n1_ : Aside0 (Kd.R k48 48 ((w78.setCell ⟨gb234, 0, none⟩ (.int .i64 t231)).setCell ⟨gb234, 1, none⟩ (.int .i64 t232)) w.heap.size (fun k_ => some k_ ≠ (u11 : Value).ownBlock ∧ some k_ ≠ (.slice (some ad230) t227.length co74 : Value).ownBlock ∧ k_ ≠ gb234) (.slice Ao72 x223000_1.length co72) x223000_1) := ⟨rU (Kd.R_mono (Kd.R_far (p := ⟨gb234, 1, none⟩) (Kd.R_far (p := ⟨gb234, 0, none⟩) (Kd.R_mono HO_223000.out (fun k_ hk => (⟨hk, hk.2.2⟩ : _ ∧ k_ ≠ gb234))) (fun _ hk => hk.2) (.int .i64 t231)) (fun _ hk => hk.2) (.int .i64 t232)) (fun _ hk => ⟨hk.1.2.1, ⟨hk.1.1, hk.1.2.2⟩⟩))⟩
        have n2_ : Aside0 (Kd.R k48 48 ((w78.setCell ⟨gb234, 0, none⟩ (.int .i64 t231)).setCell ⟨gb234, 1, none⟩ (.int .i64 t232)) w.heap.size (fun k_ => some k_ ≠ (u11 : Value).ownBlock ∧ some k_ ≠ (.slice Ao72 x223000_1.length co72 : Value).ownBlock ∧ k_ ≠ gb234) (.slice (some ad230) t227.length co74) t227) := ⟨rU (Kd.R_mono (Kd.R_far (p := ⟨gb234, 1, none⟩) (Kd.R_far (p := ⟨gb234, 0, none⟩) (Kd.R_mono HO229.out (fun k_ hk => (⟨hk, hk.2.2⟩ : _ ∧ k_ ≠ gb234))) (fun _ hk => hk.2) (.int .i64 t231)) (fun _ hk => hk.2) (.int .i64 t232)) (fun _ hk => ⟨hk.1.1, ⟨hk.1.2.1, hk.1.2.2⟩⟩))⟩
        have n3_ : Aside0 (((w78.setCell ⟨gb234, 0, none⟩ (.int .i64 t231)).setCell ⟨gb234, 1, none⟩ (.int .i64 t232)).heap[gb215]? = some (.cells #[.slice A0_0 l0_0.length c0_0] 30 (0, 0))) := ⟨bF BK215⟩
        have n4_ : Aside0 (((w78.setCell ⟨gb234, 0, none⟩ (.int .i64 t231)).setCell ⟨gb234, 1, none⟩ (.int .i64 t232)).heap[gb216]? = some (.cells #[.slice A1_0 l1_0.length c1_0] 30 (0, 0))) := ⟨bF BK216⟩
        have n5_ : Aside0 (((w78.setCell ⟨gb234, 0, none⟩ (.int .i64 t231)).setCell ⟨gb234, 1, none⟩ (.int .i64 t232)).heap[gb217]? = some (.cells #[.int .i64 a3_0, .int .i64 a3_1, .int .i64 a3_2, .int .i64 a3_3, .int .i64 a3_4, .int .i64 a3_5, .int .i64 a3_6, .int .i64 a3_7, .int .i64 a3_8, .int .i64 a3_9] 24 (0, 0))) := ⟨bF BK217⟩
        have n6_ : Aside0 (((w78.setCell ⟨gb234, 0, none⟩ (.int .i64 t231)).setCell ⟨gb234, 1, none⟩ (.int .i64 t232)).heap[gb222]? = some (.cells #[.slice Ao72 x223000_1.length co72] 30 (0, 0))) := ⟨bF BK222⟩
        have n7_ : Aside0 (((w78.setCell ⟨gb234, 0, none⟩ (.int .i64 t231)).setCell ⟨gb234, 1, none⟩ (.int .i64 t232)).heap[gb234]? = some (.cells #[.int .i64 t231, .int .i64 t232] 48 (0, 0))) := ⟨by (with_reducible repeat (first | refine blk_drewN ?_ _ | refine blk_drew ?_ | refine blk_alloc ?_ _)); refine blk_put (cs := #[.int .i64 t231, .int .i64 0]) ?_ 1 _ rfl; (with_reducible repeat (first | refine blk_drewN ?_ _ | refine blk_drew ?_ | refine blk_alloc ?_ _)); refine blk_put (cs := #[.int .i64 0, .int .i64 0]) ?_ 0 _ rfl; (with_reducible repeat (first | refine blk_drewN ?_ _ | refine blk_drew ?_ | refine blk_alloc ?_ _)); exact BK234.out⟩
        have n8_ : Aside0 (Below w.heap.size w ((w78.setCell ⟨gb234, 0, none⟩ (.int .i64 t231)).setCell ⟨gb234, 1, none⟩ (.int .i64 t232))) := ⟨lU HB⟩
        (try clear HO_11)
        (try clear HO_223000)
        (try clear HO229)
        (try clear BK215)
        (try clear BK216)
        (try clear BK217)
        (try clear BK222)
        (try clear BK234)
        (try clear HB)
        generalize ((w78.setCell ⟨gb234, 0, none⟩ (.int .i64 t231)).setCell ⟨gb234, 1, none⟩ (.int .i64 t232)) = w81 at n0_ n1_ n2_ n3_ n4_ n5_ n6_ n7_ n8_ ⊢
        have HO_11 := n0_
        have HO_223000 := n1_
        have HO229 := n2_
        have BK215 := n3_
        have BK216 := n4_
        have BK217 := n5_
        have BK222 := n6_
        have BK234 := n7_
        have HB := n8_
        clear n0_ n1_ n2_ n3_ n4_ n5_ n6_ n7_ n8_
        replace HO_11 := Aside0.mk (Kd.R_drew HO_11.out)
        replace HO_223000 := Aside0.mk (Kd.R_drew HO_223000.out)
        replace HO229 := Aside0.mk (Kd.R_drew HO229.out)
        replace BK215 := Aside0.mk (blk_drew BK215.out)
        replace BK216 := Aside0.mk (blk_drew BK216.out)
        replace BK217 := Aside0.mk (blk_drew BK217.out)
        replace BK222 := Aside0.mk (blk_drew BK222.out)
        replace BK234 := Aside0.mk (blk_drew BK234.out)
        replace HB := Aside0.mk (below_drew1 HB.out)
        have p235 : 0 ≤ (0 : Int) := (by omega)
        have q235 : 0 < (t227.length : Int) := of_decide_eq_true (by first | (with_reducible assumption) | assumption)
        obtain ⟨ad235, e235, hx235_0, hx235_1⟩ := at_T48 (rC HO229) 0 p235 q235
        obtain rfl : ad230 = ad235 := (by injection e235)
        have qi235 : (0 < t227.length) = True := eq_true (by omega)
        (try rw [show ((0 : Int)).toNat = 0 from rfl] at hx235_0)
        (try rw [show 0 * 2 = 0 from rfl] at hx235_0)
        (try rw [Addr.add_zero'] at hx235_0)
        (try rw [show ((0 : Int)).toNat = 0 from rfl] at hx235_1)
        (try rw [show 0 * 2 = 0 from rfl] at hx235_1)
        (try rw [Addr.add_zero'] at hx235_1)
        replace p235 := eq_true p235
        replace q235 := eq_true q235
        refine start_ (n := 12) (S := fun w' => w'.cell? ⟨gb234, 0, none⟩ = some (.int .i64 t231) ∧ w'.cell? ⟨gb234, 1, none⟩ = some (.int .i64 t232) ∧ w'.cell? ⟨gb217, 0, none⟩ = some (.int .i64 a3_0) ∧ w'.cell? ⟨gb217, 1, none⟩ = some (.int .i64 a3_1) ∧ w'.cell? ⟨gb217, 2, none⟩ = some (.int .i64 a3_2) ∧ w'.cell? ⟨gb217, 3, none⟩ = some (.int .i64 a3_3) ∧ w'.cell? ⟨gb217, 4, none⟩ = some (.int .i64 a3_4) ∧ w'.cell? ⟨gb217, 5, none⟩ = some (.int .i64 a3_5) ∧ w'.cell? ⟨gb217, 6, none⟩ = some (.int .i64 a3_6) ∧ w'.cell? ⟨gb217, 7, none⟩ = some (.int .i64 a3_7) ∧ w'.cell? ⟨gb217, 8, none⟩ = some (.int .i64 a3_8) ∧ w'.cell? ⟨gb217, 9, none⟩ = some (.int .i64 a3_9) ∧ w'.cell? ad230 = some (.int .i64 ((rd_T48 t227 0).f0)) ∧ w'.cell? ⟨ad230.block, ad230.off + 1, none⟩ = some (.int .i64 ((rd_T48 t227 0).f1))) (ds := []) #[false, false, false, false, false, false, false, false, false, false, false, false] (by kernel_rfl) rfl rfl ⟨(blk_cell BK234.out 0).trans rfl, (blk_cell BK234.out 1).trans rfl, (blk_cell BK217.out 0).trans rfl, (blk_cell BK217.out 1).trans rfl, (blk_cell BK217.out 2).trans rfl, (blk_cell BK217.out 3).trans rfl, (blk_cell BK217.out 4).trans rfl, (blk_cell BK217.out 5).trans rfl, (blk_cell BK217.out 6).trans rfl, (blk_cell BK217.out 7).trans rfl, (blk_cell BK217.out 8).trans rfl, (blk_cell BK217.out 9).trans rfl, hx235_0, hx235_1⟩ (fun hHeld => ?_); refine with_tabW plan_Plan.tab11 plan_Plan.bits11 (fun HT_ HW_ => ?_)
        generalize w81.drew = w82 at HO_11 HO_223000 HO229 BK215 BK216 BK217 BK222 BK234 HB hx235_0 hx235_1 hHeld ⊢
        refine pS (i := 0) (N := some 45) (ma 12 1) rfl rfl HT_.out ?_
        refine pS (i := 1) (N := some 46) (ma 12 3) rfl rfl HT_.out ?_
        refine pS (i := 2) (N := some 47) (ma 12 7) rfl rfl HT_.out ?_
        refine pS (i := 4) (N := some 49) (ma 12 23) rfl rfl HT_.out ?_
        refine pS (i := 5) (N := some 50) (ma 12 55) rfl rfl HT_.out ?_
        refine tS (i := 3) (N := some 48) (ma 12 63) rfl rfl HT_.out HW_.out hHeld ?_
        refine tS (i := 6) (N := some 51) (ma 12 127) rfl rfl HT_.out HW_.out hHeld ?_
        refine tS (i := 7) (N := some 52) (ma 12 255) rfl rfl HT_.out HW_.out hHeld ?_
        refine join_ (σ := Nat) 1 #[true, true, true, true, true, true, true, true, true, true, true, false] (fun s_ => [(53, .int .i64 t236), (15, .pointer (some ⟨s_, 0, none⟩)), (54, .agg #[.int .i64 ((rd_T48 t227 0).f0), .int .i64 t236])]) (fun s_ w' => (w'.cell? ⟨gb234, 0, none⟩ = some (.int .i64 t231) ∧ w'.cell? ⟨gb234, 1, none⟩ = some (.int .i64 t232) ∧ w'.cell? ⟨gb217, 0, none⟩ = some (.int .i64 a3_0) ∧ w'.cell? ⟨gb217, 1, none⟩ = some (.int .i64 a3_1) ∧ w'.cell? ⟨gb217, 2, none⟩ = some (.int .i64 a3_2) ∧ w'.cell? ⟨gb217, 3, none⟩ = some (.int .i64 a3_3) ∧ w'.cell? ⟨gb217, 4, none⟩ = some (.int .i64 a3_4) ∧ w'.cell? ⟨gb217, 5, none⟩ = some (.int .i64 a3_5) ∧ w'.cell? ⟨gb217, 6, none⟩ = some (.int .i64 a3_6) ∧ w'.cell? ⟨gb217, 7, none⟩ = some (.int .i64 a3_7) ∧ w'.cell? ⟨gb217, 8, none⟩ = some (.int .i64 a3_8) ∧ w'.cell? ⟨gb217, 9, none⟩ = some (.int .i64 a3_9) ∧ w'.cell? ad230 = some (.int .i64 ((rd_T48 t227 0).f0)) ∧ w'.cell? ⟨ad230.block, ad230.off + 1, none⟩ = some (.int .i64 ((rd_T48 t227 0).f1))) ∧ (Kd.R k48 48 w' w.heap.size (fun k_ => some k_ ≠ (u11 : Value).ownBlock ∧ some k_ ≠ (.slice Ao72 x223000_1.length co72 : Value).ownBlock ∧ k_ ≠ gb234 ∧ k_ ≠ s_) (.slice (some ad230) t227.length co74) t227) ∧ (Kd.R k48 48 w' w.heap.size (fun k_ => some k_ ≠ (.slice (some ad230) t227.length co74 : Value).ownBlock ∧ some k_ ≠ (.slice Ao72 x223000_1.length co72 : Value).ownBlock ∧ k_ ≠ gb234 ∧ k_ ≠ s_) u11 x11_1) ∧ (Kd.R k48 48 w' w.heap.size (fun k_ => some k_ ≠ (.slice (some ad230) t227.length co74 : Value).ownBlock ∧ some k_ ≠ (u11 : Value).ownBlock ∧ k_ ≠ gb234 ∧ k_ ≠ s_) (.slice Ao72 x223000_1.length co72) x223000_1) ∧ (w'.heap[gb215]? = some (.cells #[.slice A0_0 l0_0.length c0_0] 30 (0, 0))) ∧ (w'.heap[gb216]? = some (.cells #[.slice A1_0 l1_0.length c1_0] 30 (0, 0))) ∧ (w'.heap[gb217]? = some (.cells #[.int .i64 a3_0, .int .i64 a3_1, .int .i64 a3_2, .int .i64 a3_3, .int .i64 a3_4, .int .i64 a3_5, .int .i64 a3_6, .int .i64 a3_7, .int .i64 a3_8, .int .i64 a3_9] 24 (0, 0))) ∧ (w'.heap[gb222]? = some (.cells #[.slice Ao72 x223000_1.length co72] 30 (0, 0))) ∧ (w'.heap[gb234]? = some (.cells #[.int .i64 t231, .int .i64 t232] 48 (0, 0))) ∧ (w'.heap[s_]? = some (.cells #[.int .i64 0, .int .i64 0] 48 (0, 0))) ∧ (w.heap.size ≤ s_) ∧ (w.heap.size ≤ s_) ∧ (gb215 ≠ s_) ∧ (s_ ≠ gb215) ∧ (gb216 ≠ s_) ∧ (s_ ≠ gb216) ∧ (gb217 ≠ s_) ∧ (s_ ≠ gb217) ∧ (gb222 ≠ s_) ∧ (s_ ≠ gb222) ∧ (gb234 ≠ s_) ∧ (s_ ≠ gb234) ∧ (Below w.heap.size w w')) ?_ ?_
        rotate_left
        ·intro hCont
         refine two_ (i := 8) (j := 10) (Ni := some 53) (Nj := some 15) #[true, true, true, true, true, true, true, true, true, false, false, false] #[true, true, true, true, true, true, true, true, false, false, true, false] rfl rfl rfl rfl (two_of HT_.out (by kernel_rfl)) (by decide) (by decide) (fun K hK => ?_) (fun K hK => ?_)
         ·skip
          refine gO Try.func33 #[.slice (some ad230) t227.length co74, .int .i64 t232, .agg #[.int .i64 a3_0, .int .i64 a3_1, .int .i64 a3_2, .int .i64 a3_3, .int .i64 a3_4, .int .i64 a3_5, .int .i64 a3_6, .int .i64 a3_7, .int .i64 a3_8, .int .i64 a3_9]] rfl rfl ?_
          with_reducible refine (plan_reach.calls k1 _ _ t227 t232 a3_0 a3_1 a3_2 a3_3 a3_4 a3_5 a3_6 a3_7 a3_8 a3_9 t236 _ (cU (rC HO229)) (rN HO229) A64.out).mono ?_
          rintro e w83 ⟨rfl, hb⟩
          have HS12_ := (hb.cell (World.block_lt_of_cell? _ _ (hHeld.2.2.2.2.2.2.2.2.2.2.2.2.1))).trans (hHeld.2.2.2.2.2.2.2.2.2.2.2.2.1)
          have HS13_ := (hb.cell (World.block_lt_of_cell? _ _ (hHeld.2.2.2.2.2.2.2.2.2.2.2.2.2))).trans (hHeld.2.2.2.2.2.2.2.2.2.2.2.2.2)
          refine ⟨_, rfl, ?_⟩
          replace HO_11 := rB HO_11 hb
          replace HO_223000 := rB HO_223000 hb
          replace HO229 := rB HO229 hb
          replace BK215 := sB BK215 hb
          replace BK216 := sB BK216 hb
          replace BK217 := sB BK217 hb
          replace BK222 := sB BK222 hb
          replace BK234 := sB BK234 hb
          replace HB := sL HB hb
          (try clear hb)
          (try clear hb2)
          (try clear hk)
          (try clear hi)
          refine hK.out _ _ ⟨(blk_cell BK234.out 0).trans rfl, (blk_cell BK234.out 1).trans rfl, (blk_cell BK217.out 0).trans rfl, (blk_cell BK217.out 1).trans rfl, (blk_cell BK217.out 2).trans rfl, (blk_cell BK217.out 3).trans rfl, (blk_cell BK217.out 4).trans rfl, (blk_cell BK217.out 5).trans rfl, (blk_cell BK217.out 6).trans rfl, (blk_cell BK217.out 7).trans rfl, (blk_cell BK217.out 8).trans rfl, (blk_cell BK217.out 9).trans rfl, HS12_, HS13_⟩ (fun hHeld => ?_)
          clear hK K
          refine nP (some 53) ?_
          refine pS (i := 9) (N := some 54) (ma 12 1023) rfl rfl HT_.out ?_
          refine one_ (i := 10) (N := some 15) (ma 12 2047) rfl rfl (one_of HT_.out (by kernel_rfl)) (by decide) (fun K hK => ?_)
          refine bY (N := 15) (cs := #[.int .i64 0, .int .i64 0]) (t := 48) ?_
          intro gb237 hg w84 hbox hb
          have HS12_ := (hb.cell (World.block_lt_of_cell? _ _ (hHeld.2.2.2.2.2.2.2.2.2.2.2.2.1))).trans (hHeld.2.2.2.2.2.2.2.2.2.2.2.2.1)
          have HS13_ := (hb.cell (World.block_lt_of_cell? _ _ (hHeld.2.2.2.2.2.2.2.2.2.2.2.2.2))).trans (hHeld.2.2.2.2.2.2.2.2.2.2.2.2.2)
          have BK237 := Aside0.mk (hbox)
          have GW237 := sG HB hg
          have GE237 := sG HB hg
          have NB215_237 := sN BK215 hg
          have NB237_215 := sM BK215 hg
          have NB216_237 := sN BK216 hg
          have NB237_216 := sM BK216 hg
          have NB217_237 := sN BK217 hg
          have NB237_217 := sM BK217 hg
          have NB222_237 := sN BK222 hg
          have NB237_222 := sM BK222 hg
          have NB234_237 := sN BK234 hg
          have NB237_234 := sM BK234 hg
          replace HO_11 := Aside0.mk (Kd.R_below (Kd.R_elderB (rU HO_11.out) gb237 (Nat.le_of_eq hg.symm)) hb)
          replace HO_223000 := Aside0.mk (Kd.R_below (Kd.R_elderB (rU HO_223000.out) gb237 (Nat.le_of_eq hg.symm)) hb)
          replace HO229 := Aside0.mk (Kd.R_below (Kd.R_elderB (rU HO229.out) gb237 (Nat.le_of_eq hg.symm)) hb)
          replace BK215 := sB BK215 hb
          replace BK216 := sB BK216 hb
          replace BK217 := sB BK217 hb
          replace BK222 := sB BK222 hb
          replace BK234 := sB BK234 hb
          replace HB := sL HB hb
          clear hb hbox hg
          refine hK.out _ _ ⟨(blk_cell BK234.out 0).trans rfl, (blk_cell BK234.out 1).trans rfl, (blk_cell BK217.out 0).trans rfl, (blk_cell BK217.out 1).trans rfl, (blk_cell BK217.out 2).trans rfl, (blk_cell BK217.out 3).trans rfl, (blk_cell BK217.out 4).trans rfl, (blk_cell BK217.out 5).trans rfl, (blk_cell BK217.out 6).trans rfl, (blk_cell BK217.out 7).trans rfl, (blk_cell BK217.out 8).trans rfl, (blk_cell BK217.out 9).trans rfl, HS12_, HS13_⟩ (fun hHeld => ?_)
          clear hK K
          refine nP (some 15) ?_
          exact norm_ (by simp only [putAll, Act.put, List.setIfInBounds_toArray, List.set_cons_zero, List.set_cons_succ]) (hCont (gb237) _ ⟨hHeld, (rU (Kd.R_mono HO229.out (fun _ hk => ⟨hk.1.1, ⟨hk.1.2.1, ⟨hk.1.2.2, hk.2⟩⟩⟩))), (rU (Kd.R_mono HO_11.out (fun _ hk => ⟨hk.1.2.1, ⟨hk.1.1, ⟨hk.1.2.2, hk.2⟩⟩⟩))), (rU (Kd.R_mono HO_223000.out (fun _ hk => ⟨hk.1.2.1, ⟨hk.1.1, ⟨hk.1.2.2, hk.2⟩⟩⟩))), (bU BK215), (bU BK216), (bU BK217), (bU BK222), (bU BK234), (bU BK237), GW237.out, GE237.out, NB215_237.out, NB237_215.out, NB216_237.out, NB237_216.out, NB217_237.out, NB237_217.out, NB222_237.out, NB237_222.out, NB234_237.out, NB237_234.out, (lU HB)⟩)
         ·skip
          refine bY (N := 15) (cs := #[.int .i64 0, .int .i64 0]) (t := 48) ?_
          intro gb237 hg w83 hbox hb
          have HS12_ := (hb.cell (World.block_lt_of_cell? _ _ (hHeld.2.2.2.2.2.2.2.2.2.2.2.2.1))).trans (hHeld.2.2.2.2.2.2.2.2.2.2.2.2.1)
          have HS13_ := (hb.cell (World.block_lt_of_cell? _ _ (hHeld.2.2.2.2.2.2.2.2.2.2.2.2.2))).trans (hHeld.2.2.2.2.2.2.2.2.2.2.2.2.2)
          have BK237 := Aside0.mk (hbox)
          have GW237 := sG HB hg
          have GE237 := sG HB hg
          have NB215_237 := sN BK215 hg
          have NB237_215 := sM BK215 hg
          have NB216_237 := sN BK216 hg
          have NB237_216 := sM BK216 hg
          have NB217_237 := sN BK217 hg
          have NB237_217 := sM BK217 hg
          have NB222_237 := sN BK222 hg
          have NB237_222 := sM BK222 hg
          have NB234_237 := sN BK234 hg
          have NB237_234 := sM BK234 hg
          replace HO_11 := Aside0.mk (Kd.R_below (Kd.R_elderB (rU HO_11.out) gb237 (Nat.le_of_eq hg.symm)) hb)
          replace HO_223000 := Aside0.mk (Kd.R_below (Kd.R_elderB (rU HO_223000.out) gb237 (Nat.le_of_eq hg.symm)) hb)
          replace HO229 := Aside0.mk (Kd.R_below (Kd.R_elderB (rU HO229.out) gb237 (Nat.le_of_eq hg.symm)) hb)
          replace BK215 := sB BK215 hb
          replace BK216 := sB BK216 hb
          replace BK217 := sB BK217 hb
          replace BK222 := sB BK222 hb
          replace BK234 := sB BK234 hb
          replace HB := sL HB hb
          clear hb hbox hg
          refine hK.out _ _ ⟨(blk_cell BK234.out 0).trans rfl, (blk_cell BK234.out 1).trans rfl, (blk_cell BK217.out 0).trans rfl, (blk_cell BK217.out 1).trans rfl, (blk_cell BK217.out 2).trans rfl, (blk_cell BK217.out 3).trans rfl, (blk_cell BK217.out 4).trans rfl, (blk_cell BK217.out 5).trans rfl, (blk_cell BK217.out 6).trans rfl, (blk_cell BK217.out 7).trans rfl, (blk_cell BK217.out 8).trans rfl, (blk_cell BK217.out 9).trans rfl, HS12_, HS13_⟩ (fun hHeld => ?_)
          clear hK K
          refine nP (some 15) ?_
          refine one_ (i := 8) (N := some 53) (ma 12 1535) rfl rfl (one_of HT_.out (by kernel_rfl)) (by decide) (fun K hK => ?_)
          refine gO Try.func33 #[.slice (some ad230) t227.length co74, .int .i64 t232, .agg #[.int .i64 a3_0, .int .i64 a3_1, .int .i64 a3_2, .int .i64 a3_3, .int .i64 a3_4, .int .i64 a3_5, .int .i64 a3_6, .int .i64 a3_7, .int .i64 a3_8, .int .i64 a3_9]] rfl rfl ?_
          with_reducible refine (plan_reach.calls k1 _ _ t227 t232 a3_0 a3_1 a3_2 a3_3 a3_4 a3_5 a3_6 a3_7 a3_8 a3_9 t236 _ (cU (rC HO229)) (rN HO229) A64.out).mono ?_
          rintro e w84 ⟨rfl, hb⟩
          have HS12_ := (hb.cell (World.block_lt_of_cell? _ _ (hHeld.2.2.2.2.2.2.2.2.2.2.2.2.1))).trans (hHeld.2.2.2.2.2.2.2.2.2.2.2.2.1)
          have HS13_ := (hb.cell (World.block_lt_of_cell? _ _ (hHeld.2.2.2.2.2.2.2.2.2.2.2.2.2))).trans (hHeld.2.2.2.2.2.2.2.2.2.2.2.2.2)
          refine ⟨_, rfl, ?_⟩
          replace HO_11 := rB HO_11 hb
          replace HO_223000 := rB HO_223000 hb
          replace HO229 := rB HO229 hb
          replace BK215 := sB BK215 hb
          replace BK216 := sB BK216 hb
          replace BK217 := sB BK217 hb
          replace BK222 := sB BK222 hb
          replace BK234 := sB BK234 hb
          replace BK237 := sB BK237 hb
          replace HB := sL HB hb
          (try clear hb)
          (try clear hb2)
          (try clear hk)
          (try clear hi)
          refine hK.out _ _ ⟨(blk_cell BK234.out 0).trans rfl, (blk_cell BK234.out 1).trans rfl, (blk_cell BK217.out 0).trans rfl, (blk_cell BK217.out 1).trans rfl, (blk_cell BK217.out 2).trans rfl, (blk_cell BK217.out 3).trans rfl, (blk_cell BK217.out 4).trans rfl, (blk_cell BK217.out 5).trans rfl, (blk_cell BK217.out 6).trans rfl, (blk_cell BK217.out 7).trans rfl, (blk_cell BK217.out 8).trans rfl, (blk_cell BK217.out 9).trans rfl, HS12_, HS13_⟩ (fun hHeld => ?_)
          clear hK K
          refine nP (some 53) ?_
          refine pS (i := 9) (N := some 54) (ma 12 2047) rfl rfl HT_.out ?_
          exact norm_ (by simp only [putAll, Act.put, List.setIfInBounds_toArray, List.set_cons_zero, List.set_cons_succ]) (hCont (gb237) _ ⟨hHeld, (rU (Kd.R_mono HO229.out (fun _ hk => ⟨hk.1.1, ⟨hk.1.2.1, ⟨hk.1.2.2, hk.2⟩⟩⟩))), (rU (Kd.R_mono HO_11.out (fun _ hk => ⟨hk.1.2.1, ⟨hk.1.1, ⟨hk.1.2.2, hk.2⟩⟩⟩))), (rU (Kd.R_mono HO_223000.out (fun _ hk => ⟨hk.1.2.1, ⟨hk.1.1, ⟨hk.1.2.2, hk.2⟩⟩⟩))), (bU BK215), (bU BK216), (bU BK217), (bU BK222), (bU BK234), (bU BK237), GW237.out, GE237.out, NB215_237.out, NB237_215.out, NB216_237.out, NB237_216.out, NB217_237.out, NB237_217.out, NB222_237.out, NB237_222.out, NB234_237.out, NB237_234.out, (lU HB)⟩)
        rintro gb237 w85 ⟨hS_, h0_, h1_, h2_, h3_, h4_, h5_, h6_, h7_, h8_, h9_, h10_, h11_, h12_, h13_, h14_, h15_, h16_, h17_, h18_, h19_, h20_, h21_⟩
        have n0_ := Aside0.mk h0_
        have n1_ := Aside0.mk h1_
        have n2_ := Aside0.mk h2_
        have n3_ := Aside0.mk h3_
        have n4_ := Aside0.mk h4_
        have n5_ := Aside0.mk h5_
        have n6_ := Aside0.mk h6_
        have n7_ := Aside0.mk h7_
        have n8_ := Aside0.mk h8_
        have n9_ := Aside0.mk h9_
        have n10_ := Aside0.mk h10_
        have n11_ := Aside0.mk h11_
        have n12_ := Aside0.mk h12_
        have n13_ := Aside0.mk h13_
        have n14_ := Aside0.mk h14_
        have n15_ := Aside0.mk h15_
        have n16_ := Aside0.mk h16_
        have n17_ := Aside0.mk h17_
        have n18_ := Aside0.mk h18_
        have n19_ := Aside0.mk h19_
        have n20_ := Aside0.mk h20_
        have n21_ := Aside0.mk h21_
        clear HO_11
        clear HO_223000
        clear HO229
        clear BK215
        clear BK216
        clear BK217
        clear BK222
        clear BK234
        clear HB
        clear h0_ h1_ h2_ h3_ h4_ h5_ h6_ h7_ h8_ h9_ h10_ h11_ h12_ h13_ h14_ h15_ h16_ h17_ h18_ h19_ h20_ h21_
        have HO229 := n0_
        have HO_11 := n1_
        have HO_223000 := n2_
        have BK215 := n3_
        have BK216 := n4_
        have BK217 := n5_
        have BK222 := n6_
        have BK234 := n7_
        have BK237 := n8_
        have GW237 := n9_
        have GE237 := n10_
        have NB215_237 := n11_
        have NB237_215 := n12_
        have NB216_237 := n13_
        have NB237_216 := n14_
        have NB217_237 := n15_
        have NB237_217 := n16_
        have NB222_237 := n17_
        have NB237_222 := n18_
        have NB234_237 := n19_
        have NB237_234 := n20_
        have HB := n21_
        clear n0_ n1_ n2_ n3_ n4_ n5_ n6_ n7_ n8_ n9_ n10_ n11_ n12_ n13_ n14_ n15_ n16_ n17_ n18_ n19_ n20_ n21_
        have hHeld : w85.cell? ⟨gb234, 0, none⟩ = some (.int .i64 t231) ∧ w85.cell? ⟨gb234, 1, none⟩ = some (.int .i64 t232) ∧ w85.cell? ⟨gb217, 0, none⟩ = some (.int .i64 a3_0) ∧ w85.cell? ⟨gb217, 1, none⟩ = some (.int .i64 a3_1) ∧ w85.cell? ⟨gb217, 2, none⟩ = some (.int .i64 a3_2) ∧ w85.cell? ⟨gb217, 3, none⟩ = some (.int .i64 a3_3) ∧ w85.cell? ⟨gb217, 4, none⟩ = some (.int .i64 a3_4) ∧ w85.cell? ⟨gb217, 5, none⟩ = some (.int .i64 a3_5) ∧ w85.cell? ⟨gb217, 6, none⟩ = some (.int .i64 a3_6) ∧ w85.cell? ⟨gb217, 7, none⟩ = some (.int .i64 a3_7) ∧ w85.cell? ⟨gb217, 8, none⟩ = some (.int .i64 a3_8) ∧ w85.cell? ⟨gb217, 9, none⟩ = some (.int .i64 a3_9) ∧ w85.cell? ad230 = some (.int .i64 ((rd_T48 t227 0).f0)) ∧ w85.cell? ⟨ad230.block, ad230.off + 1, none⟩ = some (.int .i64 ((rd_T48 t227 0).f1)) := hS_
        refine norm_ (a' := ?_) ?_ ?_
        rotate_left
        ·simp only [putAll, Act.put, List.setIfInBounds_toArray, List.set_cons_zero, List.set_cons_succ]
         rfl
        refine one_ (i := 11) (N := none) (ma 12 4095) rfl rfl (one_of HT_.out (by kernel_rfl)) (by decide) (fun K hK => ?_)
        have hs86 : w85.cell? ⟨gb237, 0, none⟩ = some (.int .i64 0) := (blk_cell BK237.out 0).trans rfl
        have hfs86 := blk_frozen BK237.out 0
        have hns86_0 := NB215_237.out
        have hns86_1 := NB216_237.out
        have hns86_2 := NB217_237.out
        have hns86_3 := NB222_237.out
        have hns86_4 := NB234_237.out
        have hms86_0 := NB237_215.out
        have hms86_1 := NB237_216.out
        have hms86_2 := NB237_217.out
        have hms86_3 := NB237_222.out
        have hms86_4 := NB237_234.out
        have hs87 : w85.cell? ⟨gb237, 1, none⟩ = some (.int .i64 0) := (blk_cell BK237.out 1).trans rfl
        have hfs87 := blk_frozen BK237.out 1
        have hns87_0 := NB215_237.out
        have hns87_1 := NB216_237.out
        have hns87_2 := NB217_237.out
        have hns87_3 := NB222_237.out
        have hns87_4 := NB234_237.out
        have hms87_0 := NB237_215.out
        have hms87_1 := NB237_216.out
        have hms87_2 := NB237_217.out
        have hms87_3 := NB237_222.out
        have hms87_4 := NB237_234.out
        refine skip_ (w1 := ?_) (by rfl) rfl ?_ ?_
        rotate_left
        ·go_simp
         rfl
        refine hK.out _ _ ⟨((cell_far (p := ⟨gb237, _, none⟩) NB234_237.out _).trans (((cell_far (p := ⟨gb237, _, none⟩) NB234_237.out _).trans (hHeld.1)))), ((cell_far (p := ⟨gb237, _, none⟩) NB234_237.out _).trans (((cell_far (p := ⟨gb237, _, none⟩) NB234_237.out _).trans (hHeld.2.1)))), ((cell_far (p := ⟨gb237, _, none⟩) NB217_237.out _).trans (((cell_far (p := ⟨gb237, _, none⟩) NB217_237.out _).trans (hHeld.2.2.1)))), ((cell_far (p := ⟨gb237, _, none⟩) NB217_237.out _).trans (((cell_far (p := ⟨gb237, _, none⟩) NB217_237.out _).trans (hHeld.2.2.2.1)))), ((cell_far (p := ⟨gb237, _, none⟩) NB217_237.out _).trans (((cell_far (p := ⟨gb237, _, none⟩) NB217_237.out _).trans (hHeld.2.2.2.2.1)))), ((cell_far (p := ⟨gb237, _, none⟩) NB217_237.out _).trans (((cell_far (p := ⟨gb237, _, none⟩) NB217_237.out _).trans (hHeld.2.2.2.2.2.1)))), ((cell_far (p := ⟨gb237, _, none⟩) NB217_237.out _).trans (((cell_far (p := ⟨gb237, _, none⟩) NB217_237.out _).trans (hHeld.2.2.2.2.2.2.1)))), ((cell_far (p := ⟨gb237, _, none⟩) NB217_237.out _).trans (((cell_far (p := ⟨gb237, _, none⟩) NB217_237.out _).trans (hHeld.2.2.2.2.2.2.2.1)))), ((cell_far (p := ⟨gb237, _, none⟩) NB217_237.out _).trans (((cell_far (p := ⟨gb237, _, none⟩) NB217_237.out _).trans (hHeld.2.2.2.2.2.2.2.2.1)))), ((cell_far (p := ⟨gb237, _, none⟩) NB217_237.out _).trans (((cell_far (p := ⟨gb237, _, none⟩) NB217_237.out _).trans (hHeld.2.2.2.2.2.2.2.2.2.1)))), ((cell_far (p := ⟨gb237, _, none⟩) NB217_237.out _).trans (((cell_far (p := ⟨gb237, _, none⟩) NB217_237.out _).trans (hHeld.2.2.2.2.2.2.2.2.2.2.1)))), ((cell_far (p := ⟨gb237, _, none⟩) NB217_237.out _).trans (((cell_far (p := ⟨gb237, _, none⟩) NB217_237.out _).trans (hHeld.2.2.2.2.2.2.2.2.2.2.2.1)))), ((cell_far (p := ⟨gb237, _, none⟩) (by first | exact Kd.own_blk (Kd.R_away HO229.out (fun _ hk => hk.2.2.2)) | (rw [add_block]; exact Kd.own_blk (Kd.R_away HO229.out (fun _ hk => hk.2.2.2))) | (show (Addr.add _ _).block ≠ _; rw [add_block]; exact Kd.own_blk (Kd.R_away HO229.out (fun _ hk => hk.2.2.2))) | (dsimp only; exact Kd.own_blk (Kd.R_away HO229.out (fun _ hk => hk.2.2.2)))) _).trans (((cell_far (p := ⟨gb237, _, none⟩) (by first | exact Kd.own_blk (Kd.R_away HO229.out (fun _ hk => hk.2.2.2)) | (rw [add_block]; exact Kd.own_blk (Kd.R_away HO229.out (fun _ hk => hk.2.2.2))) | (show (Addr.add _ _).block ≠ _; rw [add_block]; exact Kd.own_blk (Kd.R_away HO229.out (fun _ hk => hk.2.2.2))) | (dsimp only; exact Kd.own_blk (Kd.R_away HO229.out (fun _ hk => hk.2.2.2)))) _).trans (hHeld.2.2.2.2.2.2.2.2.2.2.2.2.1)))), ((cell_far (p := ⟨gb237, _, none⟩) (by first | exact Kd.own_blk (Kd.R_away HO229.out (fun _ hk => hk.2.2.2)) | (rw [add_block]; exact Kd.own_blk (Kd.R_away HO229.out (fun _ hk => hk.2.2.2))) | (show (Addr.add _ _).block ≠ _; rw [add_block]; exact Kd.own_blk (Kd.R_away HO229.out (fun _ hk => hk.2.2.2))) | (dsimp only; exact Kd.own_blk (Kd.R_away HO229.out (fun _ hk => hk.2.2.2)))) _).trans (((cell_far (p := ⟨gb237, _, none⟩) (by first | exact Kd.own_blk (Kd.R_away HO229.out (fun _ hk => hk.2.2.2)) | (rw [add_block]; exact Kd.own_blk (Kd.R_away HO229.out (fun _ hk => hk.2.2.2))) | (show (Addr.add _ _).block ≠ _; rw [add_block]; exact Kd.own_blk (Kd.R_away HO229.out (fun _ hk => hk.2.2.2))) | (dsimp only; exact Kd.own_blk (Kd.R_away HO229.out (fun _ hk => hk.2.2.2)))) _).trans (hHeld.2.2.2.2.2.2.2.2.2.2.2.2.2))))⟩ (fun hHeld => ?_)
        clear hK K
        refine done_ (done_of HT_.out (by kernel_rfl)) ?_
        have hnb88 := NB237_215.out
        have hnc88 := NB215_237.out
        have hnb89 := NB237_216.out
        have hnc89 := NB216_237.out
        have hnb90 := NB237_217.out
        have hnc90 := NB217_237.out
        have hnb91 := NB237_222.out
        have hnc91 := NB222_237.out
        have hnb92 := NB237_234.out
        have hnc92 := NB234_237.out
        obtain ⟨hcz93_0, hcz93_1⟩ := q2 BK237
        obtain ⟨hfz93_0, hfz93_1⟩ := z2 BK237
        try go_wp2_with (first | ((with_reducible refine gate_builtin (b := .append) (xs := #[.tmp 55, .tmp 57]) rfl ?_); at_builtin; refine Kd.R_append k48 (w0 := w) w.heap.size rfl (.tmp 55) (.tmp 57) 22 48 (.agg #[(.int .i64 0), (.int .i64 0)]) 16 rfl Try.underlying22 info48 rfl (by decide) (by omega) u11 x11_1 (⟨(rd_T48 t227 0).f0, t236⟩ : S48) [.int .i64 ((rd_T48 t227 0).f0), .int .i64 t236] (fun k_ => some k_ ≠ (.slice Ao72 x223000_1.length co72 : Value).ownBlock ∧ some k_ ≠ (.slice (some ad230) t227.length co74 : Value).ownBlock ∧ k_ ≠ gb234 ∧ k_ ≠ gb237) (fun _ => False) rfl (by first | (go_simp; done) | (go_simp; rfl)) ?aP (fun _ hk => hk.elim) ?aF ?aO ?aB ?aS ?aL ?_; (case aP => exact k48_mkM _ _ _ (⟨(rd_T48 t227 0).f0, t236⟩ : S48)); (case aB => exact (lU HB)); (case aF => exact (fun k_ hk => ⟨Kd.fresh' (Kd.R_lt (rU ((Kd.R_mono (Kd.R_far (p := ⟨gb237, 1, none⟩) (Kd.R_far (p := ⟨gb237, 0, none⟩) (Kd.R_mono HO_223000.out (fun k_ hk => (⟨hk, hk.2.2.2⟩ : _ ∧ k_ ≠ gb237))) (fun _ hk => hk.2) (.int .i64 ((rd_T48 t227 0).f0))) (fun _ hk => hk.2) (.int .i64 t236)) (fun _ h_ => h_.1))))) k_ hk, Kd.fresh' (Kd.R_lt (rU ((Kd.R_mono (Kd.R_far (p := ⟨gb237, 1, none⟩) (Kd.R_far (p := ⟨gb237, 0, none⟩) (Kd.R_mono HO229.out (fun k_ hk => (⟨hk, hk.2.2.2⟩ : _ ∧ k_ ≠ gb237))) (fun _ hk => hk.2) (.int .i64 ((rd_T48 t227 0).f0))) (fun _ hk => hk.2) (.int .i64 t236)) (fun _ h_ => h_.1))))) k_ hk, Kd.freshB (g := gb234) (o := .cells #[.int .i64 t231, .int .i64 t232] 48 (0, 0)) (bF BK234) k_ hk, Kd.freshB (g := gb237) (o := .cells #[.int .i64 ((rd_T48 t227 0).f0), .int .i64 t236] 48 (0, 0)) (by (with_reducible repeat (first | refine blk_drewN ?_ _ | refine blk_drew ?_ | refine blk_alloc ?_ _)); refine blk_put (cs := #[.int .i64 ((rd_T48 t227 0).f0), .int .i64 0]) ?_ 1 _ rfl; (with_reducible repeat (first | refine blk_drewN ?_ _ | refine blk_drew ?_ | refine blk_alloc ?_ _)); refine blk_put (cs := #[.int .i64 0, .int .i64 0]) ?_ 0 _ rfl; (with_reducible repeat (first | refine blk_drewN ?_ _ | refine blk_drew ?_ | refine blk_alloc ?_ _)); exact BK237.out) k_ hk⟩)); (case aO => exact (rU (Kd.R_mono (Kd.R_far (p := ⟨gb237, 1, none⟩) (Kd.R_far (p := ⟨gb237, 0, none⟩) (Kd.R_mono HO_11.out (fun k_ hk => (⟨hk, hk.2.2.2⟩ : _ ∧ k_ ≠ gb237))) (fun _ hk => hk.2) (.int .i64 ((rd_T48 t227 0).f0))) (fun _ hk => hk.2) (.int .i64 t236)) (fun _ hk => ⟨hk.1.2.1, ⟨hk.1.1, ⟨hk.1.2.2.1, hk.1.2.2.2⟩⟩⟩)))); (case aS => exact (below_size (lU HB))); (case aL => have := LMc65.out; omega); intro v239 w94 ho hb hg hat; rw [← Ny238.out] at ho; have HO240 := Aside0.mk (ho); replace HO_223000 := Aside0.mk (Kd.R_after (ok := (fun k_ => some k_ ≠ (.slice (some ad230) t227.length co74 : Value).ownBlock ∧ k_ ≠ gb234 ∧ k_ ≠ gb237)) (rU (Kd.R_mono (Kd.R_far (p := ⟨gb237, 1, none⟩) (Kd.R_far (p := ⟨gb237, 0, none⟩) (Kd.R_mono HO_223000.out (fun k_ hk => (⟨hk, hk.2.2.2⟩ : _ ∧ k_ ≠ gb237))) (fun _ hk => hk.2) (.int .i64 ((rd_T48 t227 0).f0))) (fun _ hk => hk.2) (.int .i64 t236)) (fun _ hk => ⟨⟨hk.1.1, ⟨hk.1.2.2.1, hk.1.2.2.2⟩⟩, hk.1.2.1⟩))) hg hat); replace BK215 := Aside0.mk (blk_grown (g := gb215) (o := .cells #[.slice A0_0 l0_0.length c0_0] 30 (0, 0)) (bF BK215) hg (Kd.R_ne HO_11.out BK215.out (by decide))); replace BK216 := Aside0.mk (blk_grown (g := gb216) (o := .cells #[.slice A1_0 l1_0.length c1_0] 30 (0, 0)) (bF BK216) hg (Kd.R_ne HO_11.out BK216.out (by decide))); replace BK217 := Aside0.mk (blk_grown (g := gb217) (o := .cells #[.int .i64 a3_0, .int .i64 a3_1, .int .i64 a3_2, .int .i64 a3_3, .int .i64 a3_4, .int .i64 a3_5, .int .i64 a3_6, .int .i64 a3_7, .int .i64 a3_8, .int .i64 a3_9] 24 (0, 0)) (bF BK217) hg (Kd.R_ne HO_11.out BK217.out (by decide))); replace BK222 := Aside0.mk (blk_grown (g := gb222) (o := .cells #[.slice Ao72 x223000_1.length co72] 30 (0, 0)) (bF BK222) hg (Kd.R_ne HO_11.out BK222.out (by decide))); replace HO229 := Aside0.mk (Kd.R_after (ok := (fun k_ => some k_ ≠ (.slice Ao72 x223000_1.length co72 : Value).ownBlock ∧ k_ ≠ gb234 ∧ k_ ≠ gb237)) (rU (Kd.R_mono (Kd.R_far (p := ⟨gb237, 1, none⟩) (Kd.R_far (p := ⟨gb237, 0, none⟩) (Kd.R_mono HO229.out (fun k_ hk => (⟨hk, hk.2.2.2⟩ : _ ∧ k_ ≠ gb237))) (fun _ hk => hk.2) (.int .i64 ((rd_T48 t227 0).f0))) (fun _ hk => hk.2) (.int .i64 t236)) (fun _ hk => ⟨⟨hk.1.2.1, ⟨hk.1.2.2.1, hk.1.2.2.2⟩⟩, hk.1.1⟩))) hg hat); replace BK234 := Aside0.mk (blk_grown (g := gb234) (o := .cells #[.int .i64 t231, .int .i64 t232] 48 (0, 0)) (bF BK234) hg (Kd.R_away HO_11.out (fun _ hk => hk.2.2.1))); replace BK237 := Aside0.mk (blk_grown (g := gb237) (o := .cells #[.int .i64 ((rd_T48 t227 0).f0), .int .i64 t236] 48 (0, 0)) (by (with_reducible repeat (first | refine blk_drewN ?_ _ | refine blk_drew ?_ | refine blk_alloc ?_ _)); refine blk_put (cs := #[.int .i64 ((rd_T48 t227 0).f0), .int .i64 0]) ?_ 1 _ rfl; (with_reducible repeat (first | refine blk_drewN ?_ _ | refine blk_drew ?_ | refine blk_alloc ?_ _)); refine blk_put (cs := #[.int .i64 0, .int .i64 0]) ?_ 0 _ rfl; (with_reducible repeat (first | refine blk_drewN ?_ _ | refine blk_drew ?_ | refine blk_alloc ?_ _)); exact BK237.out) hg (Kd.R_away HO_11.out (fun _ hk => hk.2.2.2))); replace HB := Aside0.mk (hb); clear HO_11; clear ho hb hg hat))
        replace HO_223000 := Aside0.mk (Kd.R_drew HO_223000.out)
        replace HO229 := Aside0.mk (Kd.R_drew HO229.out)
        replace HO240 := Aside0.mk (Kd.R_drew HO240.out)
        replace BK215 := Aside0.mk (blk_drew BK215.out)
        replace BK216 := Aside0.mk (blk_drew BK216.out)
        replace BK217 := Aside0.mk (blk_drew BK217.out)
        replace BK222 := Aside0.mk (blk_drew BK222.out)
        replace BK234 := Aside0.mk (blk_drew BK234.out)
        replace BK237 := Aside0.mk (blk_drew BK237.out)
        replace HB := Aside0.mk (below_drew1 HB.out)
        refine start_ (n := 6) (S := fun w' => w'.cell? ⟨gb222, 0, none⟩ = some (.slice Ao72 x223000_1.length co72) ∧ w'.cell? ⟨gb237, 0, none⟩ = some (.int .i64 ((rd_T48 t227 0).f0)) ∧ w'.cell? ⟨gb237, 1, none⟩ = some (.int .i64 t236)) (ds := [5]) #[false, false, false, false, false, false] (by kernel_rfl) rfl rfl ⟨(blk_cell BK222.out 0).trans rfl, (blk_cell BK237.out 0).trans rfl, (blk_cell BK237.out 1).trans rfl⟩ (fun hHeld => ?_)
        generalize w94.drew = w95 at HO_223000 HO229 HO240 BK215 BK216 BK217 BK222 BK234 BK237 HB hHeld ⊢
        refine take_ (i := 0) (N := some 59) (v := ?_) (a' := ?_) #[true, false, false, false, false, false] rfl rfl (by kernel_rfl) (fun _ _ _ h => h) (Or.inl ⟨by rfl, ?_⟩) hHeld ?_ ?_
        rotate_left
        ·rintro w' ⟨s0, s1, s2⟩
         go_simp
         with_reducible rfl
        rotate_left
        ·simp only [Act.put, List.setIfInBounds_toArray, List.set_cons_zero, List.set_cons_succ, i64_w, i32_w]
         rfl
        refine take_ (i := 1) (N := some 60) (v := ?_) (a' := ?_) #[true, true, false, false, false, false] rfl rfl (by kernel_rfl) (fun _ _ _ h => h) (Or.inl ⟨by rfl, ?_⟩) hHeld ?_ ?_
        rotate_left
        ·rintro w' ⟨s0, s1, s2⟩
         go_simp
         with_reducible rfl
        rotate_left
        ·simp only [Act.put, List.setIfInBounds_toArray, List.set_cons_zero, List.set_cons_succ, i64_w, i32_w]
         rfl
        refine one_ (i := 2) (N := some 61) (ma 6 7) rfl rfl (by kernel_rfl) (by decide) (fun K hK => ?_)
        refine Kd.R_lit_step k48 _ 48 ?hg (N := 61) ?hd (xs := ([(⟨(rd_T48 t227 0).f0, t236⟩ : S48)] : List (S48))) (inner := [.int .i64 ((rd_T48 t227 0).f0), .int .i64 t236]) (ok := fun _ => True) (okp := fun _ => True) ?hr ?hp (fun _ hk => hk) trivial (Below.refl _ _) (Nat.le_refl _) (by simp) ?_; (case hd => rfl); (case hg => rfl); (case hr => first | (go_simp; done) | (go_simp; rfl)); (case hp => exact (Reps.c2 (show Kd.M k48 _ _ _ (⟨(rd_T48 t227 0).f0, t236⟩ : S48) [.int .i64 ((rd_T48 t227 0).f0), .int .i64 t236] from (k48_mkM _ _ _ (⟨(rd_T48 t227 0).f0, t236⟩ : S48) )) (Reps.none _ _)))
        intro v242 w96 ho97 hb hg_ hnew_
        clear hg_ hnew_
        (first | rw [← Ny241.out] at ho97 | (simp only [Int.reduceToNat] at ho97; rw [← Ny241.out] at ho97))
        have HO243 := Aside0.mk (Kd.R_lower (Kd.R_newB (Kd.R_newB (Kd.R_new' (Kd.R_new' (Kd.R_new' ho97 (Kd.R_lt (rU HO_223000.out))) (Kd.R_lt (rU HO229.out))) (Kd.R_lt (rU HO240.out))) (g := gb234) (o := .cells #[.int .i64 t231, .int .i64 t232] 48 (0, 0)) (bU BK234)) (g := gb237) (o := .cells #[.int .i64 ((rd_T48 t227 0).f0), .int .i64 t236] 48 (0, 0)) (bU BK237)) (below_size (lU HB)))
        replace HO_223000 := rE HO_223000 ho97 hb
        replace HO229 := rE HO229 ho97 hb
        replace HO240 := rE HO240 ho97 hb
        replace BK215 := sB BK215 hb
        replace BK216 := sB BK216 hb
        replace BK217 := sB BK217 hb
        replace BK222 := sB BK222 hb
        replace BK234 := sB BK234 hb
        replace BK237 := sB BK237 hb
        replace HB := sL HB hb
        clear hb ho97
        obtain ⟨Ao98, co98, eo98⟩ := Kd.R_slice HO243.out
        (first | subst eo98 | (injection eo98 with f1_ f2_ f3_; have f4_ := f1_.symm; have f5_ := f3_.symm; clear f1_ f2_ f3_; subst f4_; subst f5_))
        refine hK.out _ _ ⟨(blk_cell BK222.out 0).trans rfl, (blk_cell BK237.out 0).trans rfl, (blk_cell BK237.out 1).trans rfl⟩ (fun hHeld => ?_)
        clear hK K
        refine nP (some 61) ?_
        refine one_ (i := 3) (N := some 62) (ma 6 15) rfl rfl (by kernel_rfl) (by decide) (fun K hK => ?_)
        refine gO Try.func22 #[.slice Ao98 y241.length co98] rfl rfl ?_
        with_reducible refine (ranges_Of.calls k1 _ _ y241 t244 _ (cU (rC HO243)) (rN HO243) A66.out).mono ?_
        rintro e w99 ⟨v245, rfl, ho0, hb⟩
        refine ⟨_, rfl, ?_⟩
        have HO246 := Aside0.mk (Kd.R_lower (Kd.R_newB (Kd.R_newB (Kd.R_new' (Kd.R_new' (Kd.R_new' (Kd.R_new' ho0 (Kd.R_lt (rU HO_223000.out))) (Kd.R_lt (rU HO229.out))) (Kd.R_lt (rU HO240.out))) (Kd.R_lt (rU HO243.out))) (g := gb234) (o := .cells #[.int .i64 t231, .int .i64 t232] 48 (0, 0)) (bU BK234)) (g := gb237) (o := .cells #[.int .i64 ((rd_T48 t227 0).f0), .int .i64 t236] 48 (0, 0)) (bU BK237)) (below_size (lU HB)))
        replace HO_223000 := rE HO_223000 ho0 hb
        replace HO229 := rE HO229 ho0 hb
        replace HO240 := rE HO240 ho0 hb
        replace HO243 := rE HO243 ho0 hb
        replace BK215 := sB BK215 hb
        replace BK216 := sB BK216 hb
        replace BK217 := sB BK217 hb
        replace BK222 := sB BK222 hb
        replace BK234 := sB BK234 hb
        replace BK237 := sB BK237 hb
        replace HB := sL HB hb
        (try clear hb)
        (try clear hb2)
        (try clear hk)
        (try clear hi)
        (try clear ho0)
        obtain ⟨Ao100, co100, eo100⟩ := Kd.R_slice HO246.out
        (first | subst eo100 | (injection eo100 with f1_ f2_ f3_; have f4_ := f1_.symm; have f5_ := f3_.symm; clear f1_ f2_ f3_; subst f4_; subst f5_))
        refine hK.out _ _ ⟨(blk_cell BK222.out 0).trans rfl, (blk_cell BK237.out 0).trans rfl, (blk_cell BK237.out 1).trans rfl⟩ (fun hHeld => ?_)
        clear hK K
        refine nP (some 62) ?_
        refine one_ (i := 4) (N := some 63) (ma 6 31) rfl rfl (by kernel_rfl) (by decide) (fun K hK => ?_)
        refine gO Try.func28 #[.agg #[.slice Ao72 x223000_1.length co72], .agg #[.slice Ao100 t244.length co100]] rfl rfl ?_
        with_reducible refine (ranges_Set_Less.calls k1 _ _ x223000_1 _ _ t244 t247 _ (cU (rC HO_223000)) (rN HO_223000) (cU (rC HO246)) (rN HO246) A67.out).mono ?_
        rintro e w101 ⟨v248, rfl, ho0, hb⟩
        refine ⟨_, rfl, ?_⟩
        have HO249 := Aside0.mk (Kd.R_lower (Kd.R_newB (Kd.R_newB (Kd.R_new' (Kd.R_new' (Kd.R_new' (Kd.R_new' (Kd.R_new' ho0 (Kd.R_lt (rU HO_223000.out))) (Kd.R_lt (rU HO229.out))) (Kd.R_lt (rU HO240.out))) (Kd.R_lt (rU HO243.out))) (Kd.R_lt (rU HO246.out))) (g := gb234) (o := .cells #[.int .i64 t231, .int .i64 t232] 48 (0, 0)) (bU BK234)) (g := gb237) (o := .cells #[.int .i64 ((rd_T48 t227 0).f0), .int .i64 t236] 48 (0, 0)) (bU BK237)) (below_size (lU HB)))
        replace HO_223000 := rE HO_223000 ho0 hb
        replace HO229 := rE HO229 ho0 hb
        replace HO240 := rE HO240 ho0 hb
        replace HO243 := rE HO243 ho0 hb
        replace HO246 := rE HO246 ho0 hb
        replace BK215 := sB BK215 hb
        replace BK216 := sB BK216 hb
        replace BK217 := sB BK217 hb
        replace BK222 := sB BK222 hb
        replace BK234 := sB BK234 hb
        replace BK237 := sB BK237 hb
        replace HB := sL HB hb
        (try clear hb)
        (try clear hb2)
        (try clear hk)
        (try clear hi)
        (try clear ho0)
        obtain ⟨Ao102, co102, eo102⟩ := Kd.R_slice HO249.out
        (first | subst eo102 | (injection eo102 with f1_ f2_ f3_; have f4_ := f1_.symm; have f5_ := f3_.symm; clear f1_ f2_ f3_; subst f4_; subst f5_))
        refine hK.out _ _ ⟨(blk_cell BK222.out 0).trans rfl, (blk_cell BK237.out 0).trans rfl, (blk_cell BK237.out 1).trans rfl⟩ (fun hHeld => ?_)
        clear hK K
        refine nP (some 63) ?_
        refine last_ (i := 5) (N := none) #[true, true, true, true, true, true] rfl rfl (by kernel_rfl) (by decide) (fun K hK => ?_)
        have hs103 : w101.cell? ⟨gb222, 0, none⟩ = some (.slice Ao72 x223000_1.length co72) := (blk_cell BK222.out 0).trans rfl
        have hfs103 := blk_frozen BK222.out 0
        have hns103_0 := NB215_222.out
        have hns103_1 := NB216_222.out
        have hns103_2 := NB217_222.out
        have hns103_4 := NB234_222.out
        have hns103_5 := NB237_222.out
        have hms103_0 := NB222_215.out
        have hms103_1 := NB222_216.out
        have hms103_2 := NB222_217.out
        have hms103_4 := NB222_234.out
        have hms103_5 := NB222_237.out
        refine skip_ (w1 := ?_) (by rfl) rfl ?_ ?_
        rotate_left
        ·go_simp
         rfl
        refine hK.out _ _ ?_
        clear hK K
        refine done_ (by kernel_rfl) ?_
        try go_wp2
        go_roundg k1
        case measure => have := HK1.out; omega
        case rel => exact ⟨(y238), (t247), (.slice Ao102 t247.length co102), H', ⟨by have := HK1.out; omega⟩, ⟨rU (Kd.R_mono (Kd.R_far (p := ⟨gb222, 0, none⟩) (Kd.R_types HO240.out BK222.out (by decide)) (fun _ hk => hk.2) (.slice Ao102 t247.length co102)) (fun _ hk => hk.1.2))⟩, ⟨rU (Kd.R_mono (Kd.R_far (p := ⟨gb222, 0, none⟩) (Kd.R_types HO249.out BK222.out (by decide)) (fun _ hk => hk.2) (.slice Ao102 t247.length co102)) (fun _ hk => hk.1.1.1.1.1.2))⟩, ⟨bF BK215⟩, ⟨bF BK216⟩, ⟨bF BK217⟩, ⟨by (with_reducible repeat (first | refine blk_drewN ?_ _ | refine blk_drew ?_ | refine blk_alloc ?_ _)); refine blk_put (cs := #[.slice Ao72 x223000_1.length co72]) ?_ 0 _ rfl; (with_reducible repeat (first | refine blk_drewN ?_ _ | refine blk_drew ?_ | refine blk_alloc ?_ _)); exact BK222.out⟩, ⟨lU HB⟩⟩
       ·rw [if_neg c65] at H
        exact absurd H (by simp)
      ·rw [if_neg c62] at H
       exact absurd H (by simp)
 ·replace c6 := Bool.eq_false_iff.mpr c6
  subst c6
  rw [if_neg (show ¬ (false = true) by decide)] at H
  simp only [Option.some.injEq, Prod.mk.injEq] at H
  obtain ⟨rfl, rfl⟩ := H
  go_enter Try.func13, Try.ntmps13
  go_wp2_with (first | ((with_reducible refine gate_dst (N := 4) rfl ?_); refine bX (N := 4) (cs := #[.slice A0_0 l0_0.length c0_0]) (t := 30) ?_; intro gb215 hg w104 hbox hb; have BK215 := Aside0.mk (hbox); have GE215 := sG HB hg; replace HB := sL HB hb; clear hb hbox hg) | ((with_reducible refine gate_dst (N := 5) rfl ?_); refine bX (N := 5) (cs := #[.slice A1_0 l1_0.length c1_0]) (t := 30) ?_; intro gb216 hg w105 hbox hb; have BK216 := Aside0.mk (hbox); have GE216 := sG HB hg; have NB215_216 := sN BK215 hg; have NB216_215 := sM BK215 hg; replace BK215 := sB BK215 hb; replace HB := sL HB hb; clear hb hbox hg) | ((with_reducible refine gate_dst (N := 7) rfl ?_); refine bX (N := 7) (cs := #[.int .i64 a3_0, .int .i64 a3_1, .int .i64 a3_2, .int .i64 a3_3, .int .i64 a3_4, .int .i64 a3_5, .int .i64 a3_6, .int .i64 a3_7, .int .i64 a3_8, .int .i64 a3_9]) (t := 24) ?_; intro gb217 hg w106 hbox hb; have BK217 := Aside0.mk (hbox); have GE217 := sG HB hg; have NB215_217 := sN BK215 hg; have NB217_215 := sM BK215 hg; have NB216_217 := sN BK216 hg; have NB217_216 := sM BK216 hg; replace BK215 := sB BK215 hb; replace BK216 := sB BK216 hb; replace HB := sL HB hb; clear hb hbox hg; have hnb107 := NB217_215.out; have hnc107 := NB215_217.out; have hnb108 := NB217_216.out; have hnc108 := NB216_217.out; obtain ⟨hcz109_0, hcz109_1, hcz109_2, hcz109_3, hcz109_4, hcz109_5, hcz109_6, hcz109_7, hcz109_8, hcz109_9⟩ := q10 BK217; obtain ⟨hfz109_0, hfz109_1, hfz109_2, hfz109_3, hfz109_4, hfz109_5, hfz109_6, hfz109_7, hfz109_8, hfz109_9⟩ := z10 BK217) | ((with_reducible refine gate_callee (f := 31) rfl ?_); refine gL (some 18) rfl rfl Try.func31 #[.int .i64 a2, .agg #[.int .i64 a3_0, .int .i64 a3_1, .int .i64 a3_2, .int .i64 a3_3, .int .i64 a3_4, .int .i64 a3_5, .int .i64 a3_6, .int .i64 a3_7, .int .i64 a3_8, .int .i64 a3_9]] rfl ?_; (with_reducible refine (plan_may.calls a2 a3_0 a3_1 a3_2 a3_3 a3_4 a3_5 a3_6 a3_7 a3_8 a3_9 false _ A5.out).mono ?_); rintro e w110 ⟨rfl, hb⟩; refine ⟨_, rfl, ?_⟩; replace BK215 := sB BK215 hb; replace BK216 := sB BK216 hb; replace BK217 := sB BK217 hb; replace HB := sL HB hb; (try clear hb); (try clear hb2); (try clear hk); (try clear hi)))
  go_ret2
  exact ⟨_, eW, by first | exact Kd.R_nil _ _ _ _ _ | exact Kd.N_nil _ _ _ _ _ | exact Kd.V_nil _ _ _ _ _ | exact Kd.Q_nil _ _ _ _ _ | exact Kd.S_nil _ _ _ _ _, lU HB⟩
end Go.Proofs.Ytnaalaakhdbfbaa.XP
