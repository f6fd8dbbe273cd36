-- Go functions as plain functions, and that the code comes to these answers (printed by a program).
import Derived.Test.YtnaalaakhdbfbaaV4XP0
namespace Go.Proofs.Ytnaalaakhdbfbaa.XP
open Go.RowKit Go.Proofs.YtnaalaakhdbfbaaW.PrintWords Go.Proofs.YtnaalaakhdbfbaaW.PrintLast Go.Proofs.YtnaalaakhdbfbaaW.PrintMore
attribute [local go_sem] max2_int min2_int max_two min_two max_three min_three max_four min_four
set_option linter.unusedVariables false
set_option linter.unusedSimpArgs false
def mandolineref01_end.f  : Option (Int) := some 4611686018427387904
set_option maxHeartbeats 8000000 in
set_option maxRecDepth 100000 in
theorem mandolineref01_end.calls  (r : Int) (w : World) (h : mandolineref01_end.f  = some r) :
  Calls Try.prog 67 #[] w fun e w' => e = .returned (.int .i64 r) ∧ Drawn0 w w' := by
 unfold mandolineref01_end.f at h
 have H := h
 clear h
 obtain rfl := Option.some.inj H
 go_enter Try.func67, Try.ntmps67
 go_wp2
 go_ret
 exact ⟨by first | rfl | (simp; done) | (simp [*]; done), by repeat (first | exact Drawn0.refl _ | apply Drawn0.step)⟩
def mandolineref01_Right.f (a0_0 : Int) (a0_1 : Int) : Option (Bool) := if a0_0 ≥ 0 then (if a0_0 ≤ a0_1 then ((mandolineref01_end.f).bind fun t298 => (some (decide (a0_1 ≤ t298)))) else (some false)) else (some false)
set_option maxHeartbeats 8000000 in
set_option maxRecDepth 100000 in
theorem mandolineref01_Right.calls (a0_0 : Int) (a0_1 : Int) (r : Bool) (w : World) (h : mandolineref01_Right.f a0_0 a0_1 = some r) :
  Calls Try.prog 53 #[.agg #[.int .i64 a0_0, .int .i64 a0_1]] w fun e w' => e = .returned (.bool r) ∧ Below w.heap.size w w' := by
 have hu48 := Try.underlying48
 have HB := Aside0.mk (Below.refl w.heap.size w)
 unfold mandolineref01_Right.f at h
 have H := h
 clear h
 by_cases c2 : a0_0 ≥ 0
 ·rw [if_pos c2] at H
  have c2b0 : decide (0 ≤ a0_0) = true := decide_eq_true c2
  clear c2
  by_cases c3 : a0_0 ≤ a0_1
  ·rw [if_pos c3] at H
   have c3b0 : decide (a0_0 ≤ a0_1) = true := decide_eq_true c3
   clear c3
   obtain ⟨t298, A4, H⟩ := bO H
   obtain rfl := Option.some.inj H
   go_enter Try.func53, Try.ntmps53
   go_wp2_with (first | ((with_reducible refine gate_dst (N := 1) rfl ?_); refine bX (N := 1) (cs := #[.int .i64 a0_0, .int .i64 a0_1]) (t := 48) ?_; intro gb297 hg w5 hbox hb; have BK297 := Aside0.mk (hbox); have GE297 := sG HB hg; replace HB := sL HB hb; clear hb hbox hg; obtain ⟨hcz6_0, hcz6_1⟩ := q2 BK297; obtain ⟨hfz6_0, hfz6_1⟩ := z2 BK297) | (go_at_call 67; (with_reducible refine (mandolineref01_end.calls  t298 _ A4.out).mono ?_); rintro e w' ⟨rfl, ⟨nd, rfl⟩⟩; (try first | exact ⟨rfl, _, World.drewN_drewN _ _ _⟩ | exact ⟨rfl, _, Eq.trans (World.drewN_drewN _ _ _) (congrArg (World.drewN _) (Nat.add_assoc _ _ _))⟩)))
   repeat (go_quiet (first | ((with_reducible refine gate_dst (N := 1) rfl ?_); refine bX (N := 1) (cs := #[.int .i64 a0_0, .int .i64 a0_1]) (t := 48) ?_; intro gb297 hg w5 hbox hb; have BK297 := Aside0.mk (hbox); have GE297 := sG HB hg; replace HB := sL HB hb; clear hb hbox hg; obtain ⟨hcz6_0, hcz6_1⟩ := q2 BK297; obtain ⟨hfz6_0, hfz6_1⟩ := z2 BK297) | (go_at_call 67; (with_reducible refine (mandolineref01_end.calls  t298 _ A4.out).mono ?_); rintro e w' ⟨rfl, ⟨nd, rfl⟩⟩; (try first | exact ⟨rfl, _, World.drewN_drewN _ _ _⟩ | exact ⟨rfl, _, Eq.trans (World.drewN_drewN _ _ _) (congrArg (World.drewN _) (Nat.add_assoc _ _ _))⟩))); try go_wp2_with (first | ((with_reducible refine gate_dst (N := 1) rfl ?_); refine bX (N := 1) (cs := #[.int .i64 a0_0, .int .i64 a0_1]) (t := 48) ?_; intro gb297 hg w5 hbox hb; have BK297 := Aside0.mk (hbox); have GE297 := sG HB hg; replace HB := sL HB hb; clear hb hbox hg; obtain ⟨hcz6_0, hcz6_1⟩ := q2 BK297; obtain ⟨hfz6_0, hfz6_1⟩ := z2 BK297) | (go_at_call 67; (with_reducible refine (mandolineref01_end.calls  t298 _ A4.out).mono ?_); rintro e w' ⟨rfl, ⟨nd, rfl⟩⟩; (try first | exact ⟨rfl, _, World.drewN_drewN _ _ _⟩ | exact ⟨rfl, _, Eq.trans (World.drewN_drewN _ _ _) (congrArg (World.drewN _) (Nat.add_assoc _ _ _))⟩))))
   go_ret
   exact ⟨eW, lU HB⟩
  ·rw [if_neg c3] at H
   have c3b0 : decide (a0_0 ≤ a0_1) = false := decide_eq_false c3
   clear c3
   obtain rfl := Option.some.inj H
   go_enter Try.func53, Try.ntmps53
   go_wp2_with (first | ((with_reducible refine gate_dst (N := 1) rfl ?_); refine bX (N := 1) (cs := #[.int .i64 a0_0, .int .i64 a0_1]) (t := 48) ?_; intro gb297 hg w7 hbox hb; have BK297 := Aside0.mk (hbox); have GE297 := sG HB hg; replace HB := sL HB hb; clear hb hbox hg; obtain ⟨hcz8_0, hcz8_1⟩ := q2 BK297; obtain ⟨hfz8_0, hfz8_1⟩ := z2 BK297))
   repeat (go_quiet (first | ((with_reducible refine gate_dst (N := 1) rfl ?_); refine bX (N := 1) (cs := #[.int .i64 a0_0, .int .i64 a0_1]) (t := 48) ?_; intro gb297 hg w7 hbox hb; have BK297 := Aside0.mk (hbox); have GE297 := sG HB hg; replace HB := sL HB hb; clear hb hbox hg; obtain ⟨hcz8_0, hcz8_1⟩ := q2 BK297; obtain ⟨hfz8_0, hfz8_1⟩ := z2 BK297)); try go_wp2_with (first | ((with_reducible refine gate_dst (N := 1) rfl ?_); refine bX (N := 1) (cs := #[.int .i64 a0_0, .int .i64 a0_1]) (t := 48) ?_; intro gb297 hg w7 hbox hb; have BK297 := Aside0.mk (hbox); have GE297 := sG HB hg; replace HB := sL HB hb; clear hb hbox hg; obtain ⟨hcz8_0, hcz8_1⟩ := q2 BK297; obtain ⟨hfz8_0, hfz8_1⟩ := z2 BK297)))
   go_ret
   exact ⟨eW, lU HB⟩
 ·rw [if_neg c2] at H
  have c2b0 : decide (0 ≤ a0_0) = false := decide_eq_false c2
  clear c2
  obtain rfl := Option.some.inj H
  go_enter Try.func53, Try.ntmps53
  go_wp2_with (first | ((with_reducible refine gate_dst (N := 1) rfl ?_); refine bX (N := 1) (cs := #[.int .i64 a0_0, .int .i64 a0_1]) (t := 48) ?_; intro gb297 hg w9 hbox hb; have BK297 := Aside0.mk (hbox); have GE297 := sG HB hg; replace HB := sL HB hb; clear hb hbox hg; obtain ⟨hcz10_0, hcz10_1⟩ := q2 BK297; obtain ⟨hfz10_0, hfz10_1⟩ := z2 BK297))
  repeat (go_quiet (first | ((with_reducible refine gate_dst (N := 1) rfl ?_); refine bX (N := 1) (cs := #[.int .i64 a0_0, .int .i64 a0_1]) (t := 48) ?_; intro gb297 hg w9 hbox hb; have BK297 := Aside0.mk (hbox); have GE297 := sG HB hg; replace HB := sL HB hb; clear hb hbox hg; obtain ⟨hcz10_0, hcz10_1⟩ := q2 BK297; obtain ⟨hfz10_0, hfz10_1⟩ := z2 BK297)); try go_wp2_with (first | ((with_reducible refine gate_dst (N := 1) rfl ?_); refine bX (N := 1) (cs := #[.int .i64 a0_0, .int .i64 a0_1]) (t := 48) ?_; intro gb297 hg w9 hbox hb; have BK297 := Aside0.mk (hbox); have GE297 := sG HB hg; replace HB := sL HB hb; clear hb hbox hg; obtain ⟨hcz10_0, hcz10_1⟩ := q2 BK297; obtain ⟨hfz10_0, hfz10_1⟩ := z2 BK297)))
  go_ret
  exact ⟨eW, lU HB⟩
mutual
def mandolineref02_insert.l0 : Nat → List Int → Int → List Int → Bool → Int → Option (List Int)
 | 0, _, _, _, _, _ => none
 | k + 1, x0, x1, x5, x6, x7 => if x7 < (x0.length : Int) then (if x6 = true then (mandolineref02_insert.j1 k x0 x1 x5 x6 x7 false) else (if 0 ≤ x7 then (mandolineref02_insert.j1 k x0 x1 x5 x6 x7 (decide ((rd x0 x7) ≥ x1))) else (none))) else (if x6 = true then (some x5) else (if x5.length < 17592186044416 then (some (x5 ++ [x1])) else (none)))
def mandolineref02_insert.j1 : Nat → List Int → Int → List Int → Bool → Int → Bool → Option (List Int)
 | 0, _, _, _, _, _, _ => none
 | k + 1, x0, x1, x5, x6, x7, x23 => if x23 = true then (if 0 ≤ x7 then (if x7 < (x0.length : Int) then (if (rd x0 x7) > x1 then (if x5.length < 17592186044416 then ((some (x5 ++ [x1] : List Int)).bind fun y304 => (if y304.length < 17592186044416 then (mandolineref02_insert.l0 k x0 x1 (y304 ++ [rd x0 x7]) true (wrap64 (x7 + 1))) else (none))) else (none)) else (if x5.length < 17592186044416 then (mandolineref02_insert.l0 k x0 x1 (x5 ++ [rd x0 x7]) true (wrap64 (x7 + 1))) else (none))) else (none)) else (none)) else (if 0 ≤ x7 then (if x7 < (x0.length : Int) then (if x5.length < 17592186044416 then (mandolineref02_insert.l0 k x0 x1 (x5 ++ [rd x0 x7]) x6 (wrap64 (x7 + 1))) else (none)) else (none)) else (none))
end
def mandolineref02_insert.f (k : Nat) (l0 : List Int) (a1 : Int) : Option (List Int) := mandolineref02_insert.l0 k l0 a1 ([] : List Int) false 0
set_option maxHeartbeats 8000000 in
set_option maxRecDepth 100000 in
theorem mandolineref02_insert.calls (k : Nat) (A0 : Option Addr) (c0 : Nat) (l0 : List Int) (a1 : Int) (r : List Int) (w : World) (hr0 : Kd.C (Kd.int .i64) w A0 l0.length l0) (hc0 : l0.length ≤ c0) (h : mandolineref02_insert.f k l0 a1 = some r) :
  Calls Try.prog 72 #[.slice A0 l0.length c0, .int .i64 a1] w fun e w' => ∃ v0_ : Value, e = .returned (v0_) ∧ Kd.R (Kd.int .i64) 2 w' w.heap.size (fun _ => True) v0_ r ∧ Below w.heap.size w w' := by
 have HR0 := Aside0.mk hr0
 have HC0 := Aside0.mk hc0
 clear hr0 hc0
 have HB := Aside0.mk (Below.refl w.heap.size w)
 unfold mandolineref02_insert.f at h
 have H := h
 clear h
 have H' := Aside0.mk H
 clear H
 go_enter Try.func72, Try.ntmps72
 go_wp2
 go_loopg [5, 6, 7] k (fun kq v5 v6 v7 w' => ∃ (x5_1 : List Int) (x6_1 : Bool) (x7_1 : Int), v6 = .bool x6_1 ∧ v7 = .int .i64 x7_1 ∧ Aside0 (mandolineref02_insert.l0 kq l0 a1 x5_1 x6_1 x7_1 = some r) ∧ Aside0 (kq ≤ k) ∧ Aside0 (Kd.R (Kd.int .i64) 2 w' w.heap.size (fun _ => True) v5 x5_1) ∧ Aside0 (Below w.heap.size w w'))
 case atStart => exact ⟨(([] : List Int)), (false), (0), eR, eR, H', ⟨Nat.le_refl _⟩, ⟨by first | exact Kd.R_nil _ _ _ _ _ | exact Kd.N_nil _ _ _ _ _ | exact Kd.V_nil _ _ _ _ _ | exact Kd.Q_nil _ _ _ _ _ | exact Kd.S_nil _ _ _ _ _⟩, ⟨lU HB⟩⟩
 case round =>
  clear H'
  try clear p2
  obtain ⟨x5_1, x6_1, x7_1, rfl, rfl, HA, HK1, HO_5, HB⟩ := hrel
  cases gk with
  | zero => exact absurd HA.out (by simp [mandolineref02_insert.l0])
  | succ k1 =>
   have H := HA.out
   clear HA
   simp only [mandolineref02_insert.l0] at H
   by_cases c3 : x7_1 < (l0.length : Int)
   ·rw [if_pos c3] at H
    have c3b0 : decide (x7_1 < (l0.length : Int)) = true := decide_eq_true c3
    clear c3
    have HC4 := Aside0.mk H
    clear H
    go_upto_region 6 with (fail)
    go_cut [23] (fun v23 wc => ∃ (kq : Nat) (x23_3 : Bool), v23 = .bool x23_3 ∧ Aside0 (mandolineref02_insert.j1 kq l0 a1 x5_1 x6_1 x7_1 x23_3 = some r) ∧ Aside0 (kq ≤ k1) ∧ Aside0 (Kd.R (Kd.int .i64) 2 wc w.heap.size (fun _ => True) u5 x5_1) ∧ Aside0 (Below w.heap.size w wc))
    case first =>
     have H := HC4.out
     clear HC4
     by_cases c5 : x6_1 = true
     ·subst c5
      rw [if_pos rfl] at H
      have H' := Aside0.mk H
      clear H
      go_wp2
      go_meet
      case rel => exact ⟨_, (false), eR, H', ⟨by have := HK1.out; first | omega | exact Nat.le_refl _⟩, ⟨rU HO_5.out⟩, ⟨lU HB⟩⟩
     ·replace c5 := Bool.eq_false_iff.mpr c5
      subst c5
      rw [if_neg (show ¬ (false = true) by decide)] at H
      by_cases c6 : 0 ≤ x7_1
      ·rw [if_pos c6] at H
       have c6b0 : decide (0 ≤ x7_1) = true := decide_eq_true c6
       clear c6
       (first | rw [c6b0] | (simp only [i64_w, i32_w]; rw [c6b0]) | skip)
       have H' := Aside0.mk H
       clear H
       have p302 : 0 ≤ (x7_1 : Int) := of_decide_eq_true (by first | (with_reducible assumption) | assumption)
       have q302 : x7_1 < (l0.length : Int) := of_decide_eq_true (by first | (with_reducible assumption) | assumption)
       obtain ⟨ad302, e302, hx302_0⟩ := Kd.at_int HR0.out x7_1 p302 q302
       cases e302
       replace hx302_0 := cB HB hx302_0
       replace p302 := eq_true p302
       replace q302 := eq_true q302
       go_wp2
       go_meet
       case rel => exact ⟨_, (decide ((rd l0 x7_1) ≥ a1)), eR, H', ⟨by have := HK1.out; first | omega | exact Nat.le_refl _⟩, ⟨rU HO_5.out⟩, ⟨lU HB⟩⟩
      ·rw [if_neg c6] at H
       exact absurd H (by simp)
    case rest =>
     clear HC4
     try clear p2
     try clear c3
     try clear c3b0
     try clear p3
     try clear q3
     try clear hx3
     try clear c5
     try clear c6
     try clear c6b0
     try clear hx302_0
     try clear p2
     try clear p302
     try clear q302
     obtain ⟨kq, x23_3, rfl, HA, HJ3, HO_5, HB⟩ := hcut
     cases kq with
     | zero => exact absurd HA.out (by simp [mandolineref02_insert.j1])
     | succ kj3 =>
      have H := HA.out
      clear HA
      simp only [mandolineref02_insert.j1] at H
      by_cases c7 : x23_3 = true
      ·subst c7
       rw [if_pos rfl] at H
       by_cases c8 : 0 ≤ x7_1
       ·rw [if_pos c8] at H
        have c8b0 : decide (0 ≤ x7_1) = true := decide_eq_true c8
        clear c8
        by_cases c9 : x7_1 < (l0.length : Int)
        ·rw [if_pos c9] at H
         have c9b0 : decide (x7_1 < (l0.length : Int)) = true := decide_eq_true c9
         clear c9
         by_cases c10 : (rd l0 x7_1) > a1
         ·rw [if_pos c10] at H
          have c10b0 : decide (a1 < (rd l0 x7_1)) = true := decide_eq_true c10
          clear c10
          by_cases c11 : x5_1.length < 17592186044416
          ·rw [if_pos c11] at H
           have LMc11 := Aside0.mk c11
           clear c11
           obtain ⟨y304, hy304⟩ : ∃ y_ : List Int, y_ = (x5_1 ++ [a1]) := ⟨_, rfl⟩
           replace H : (if y304.length < 17592186044416 then (mandolineref02_insert.l0 kj3 l0 a1 (y304 ++ [rd l0 x7_1]) true (wrap64 (x7_1 + 1))) else (none)) = some r := by first | (rw [hy304]; with_reducible exact H) | (have H2_ := (Option.bind_some _ _).symm.trans H; rw [hy304]; with_reducible exact H2_) | (have H2_ := (Option.bind_some _ _).symm.trans H; with_reducible exact H2_) | with_reducible exact H | (rw [hy304]; exact H) | exact H
           have Ny304 := Aside0.mk hy304
           clear hy304
           by_cases c12 : y304.length < 17592186044416
           ·rw [if_pos c12] at H
            have LMc12 := Aside0.mk c12
            clear c12
            obtain ⟨y308, hy308⟩ : ∃ y_ : List Int, y_ = (y304 ++ [rd l0 x7_1]) := ⟨_, rfl⟩
            replace H : (mandolineref02_insert.l0 kj3 l0 a1 y308 true (wrap64 (x7_1 + 1))) = some r := by first | (rw [hy308]; with_reducible exact H) | (have H2_ := (Option.bind_some _ _).symm.trans H; rw [hy308]; with_reducible exact H2_) | (have H2_ := (Option.bind_some _ _).symm.trans H; with_reducible exact H2_) | with_reducible exact H | (rw [hy308]; exact H) | exact H
            have Ny308 := Aside0.mk hy308
            clear hy308
            have H' := Aside0.mk H
            clear H
            have p303 : 0 ≤ (x7_1 : Int) := of_decide_eq_true (by first | (with_reducible assumption) | assumption)
            have q303 : x7_1 < (l0.length : Int) := of_decide_eq_true (by first | (with_reducible assumption) | assumption)
            obtain ⟨ad303, e303, hx303_0⟩ := Kd.at_int HR0.out x7_1 p303 q303
            cases e303
            replace hx303_0 := cB HB hx303_0
            replace p303 := eq_true p303
            replace q303 := eq_true q303
            go_wp2_with (first | ((with_reducible refine gate_builtin (b := .append) (xs := #[.tmp 30, .tmp 32]) rfl ?_); at_builtin; refine Kd.R_append (Kd.int .i64) (w0 := w) w.heap.size rfl (.tmp 30) (.tmp 32) 63 2 (.int .i64 0) 8 rfl Try.underlying63 info2 rfl (by decide) (by omega) u5 x5_1 a1 [.int .i64 a1] (fun _ => True) (fun _ => False) rfl rfl ?aP (fun _ hk => hk.elim) ?aF ?aO ?aB ?aS ?aL ?_; (case aP => exact rfl); (case aB => exact (lU HB)); (case aF => exact (fun _ _ => trivial)); (case aO => exact (rU HO_5.out)); (case aS => exact (below_size (lU HB))); (case aL => have := LMc11.out; omega); intro v305 w13 ho hb hg hat; rw [← Ny304.out] at ho; have HO306 := Aside0.mk (ho); replace HB := Aside0.mk (hb); clear HO_5; clear ho hb hg hat; have p307 : 0 ≤ (x7_1 : Int) := of_decide_eq_true (by first | (with_reducible assumption) | assumption); have q307 : x7_1 < (l0.length : Int) := of_decide_eq_true (by first | (with_reducible assumption) | assumption); obtain ⟨ad307, e307, hx307_0⟩ := Kd.at_int HR0.out x7_1 p307 q307; obtain rfl : ad303 = ad307 := (by injection e307); replace hx307_0 := (HB.out.cell (World.block_lt_of_cell? w _ hx307_0)).trans hx307_0; replace p307 := eq_true p307; replace q307 := eq_true q307) | ((with_reducible refine gate_builtin (b := .append) (xs := #[.tmp 34, .tmp 39]) rfl ?_); at_builtin; refine Kd.R_append (Kd.int .i64) (w0 := w) w.heap.size rfl (.tmp 34) (.tmp 39) 63 2 (.int .i64 0) 8 rfl Try.underlying63 info2 rfl (by decide) (by omega) v305 y304 (rd l0 x7_1) [.int .i64 (rd l0 x7_1)] (fun _ => True) (fun _ => False) rfl rfl ?aP (fun _ hk => hk.elim) ?aF ?aO ?aB ?aS ?aL ?_; (case aP => exact rfl); (case aB => exact (lU HB)); (case aF => exact (fun _ _ => trivial)); (case aO => exact (rU HO306.out)); (case aS => exact (below_size (lU HB))); (case aL => have := LMc12.out; omega); intro v309 w14 ho hb hg hat; rw [← Ny308.out] at ho; have HO310 := Aside0.mk (ho); replace HB := Aside0.mk (hb); clear HO306; clear ho hb hg hat))
            go_roundg kj3
            case measure => have := HK1.out; have := HJ3.out; omega
            case rel => exact ⟨(y308), (true), (wrap64 (x7_1 + 1)), eR, eR, H', ⟨by have := HK1.out; have := HJ3.out; omega⟩, ⟨rU HO310.out⟩, ⟨lU HB⟩⟩
           ·rw [if_neg c12] at H
            exact absurd H (by simp)
          ·rw [if_neg c11] at H
           exact absurd H (by simp)
         ·rw [if_neg c10] at H
          have c10b0 : decide (a1 < (rd l0 x7_1)) = false := decide_eq_false c10
          clear c10
          by_cases c15 : x5_1.length < 17592186044416
          ·rw [if_pos c15] at H
           have LMc15 := Aside0.mk c15
           clear c15
           obtain ⟨y312, hy312⟩ : ∃ y_ : List Int, y_ = (x5_1 ++ [rd l0 x7_1]) := ⟨_, rfl⟩
           replace H : (mandolineref02_insert.l0 kj3 l0 a1 y312 true (wrap64 (x7_1 + 1))) = some r := by first | (rw [hy312]; with_reducible exact H) | (have H2_ := (Option.bind_some _ _).symm.trans H; rw [hy312]; with_reducible exact H2_) | (have H2_ := (Option.bind_some _ _).symm.trans H; with_reducible exact H2_) | with_reducible exact H | (rw [hy312]; exact H) | exact H
           have Ny312 := Aside0.mk hy312
           clear hy312
           have H' := Aside0.mk H
           clear H
           have p303 : 0 ≤ (x7_1 : Int) := of_decide_eq_true (by first | (with_reducible assumption) | assumption)
           have q303 : x7_1 < (l0.length : Int) := of_decide_eq_true (by first | (with_reducible assumption) | assumption)
           obtain ⟨ad303, e303, hx303_0⟩ := Kd.at_int HR0.out x7_1 p303 q303
           cases e303
           replace hx303_0 := cB HB hx303_0
           replace p303 := eq_true p303
           replace q303 := eq_true q303
           have p311 : 0 ≤ (x7_1 : Int) := of_decide_eq_true (by first | (with_reducible assumption) | assumption)
           have q311 : x7_1 < (l0.length : Int) := of_decide_eq_true (by first | (with_reducible assumption) | assumption)
           obtain ⟨ad311, e311, hx311_0⟩ := Kd.at_int HR0.out x7_1 p311 q311
           obtain rfl : ad303 = ad311 := (by injection e311)
           replace hx311_0 := cB HB hx311_0
           replace p311 := eq_true p311
           replace q311 := eq_true q311
           go_wp2_with (first | ((with_reducible refine gate_builtin (b := .append) (xs := #[.tmp 34, .tmp 39]) rfl ?_); at_builtin; refine Kd.R_append (Kd.int .i64) (w0 := w) w.heap.size rfl (.tmp 34) (.tmp 39) 63 2 (.int .i64 0) 8 rfl Try.underlying63 info2 rfl (by decide) (by omega) u5 x5_1 (rd l0 x7_1) [.int .i64 (rd l0 x7_1)] (fun _ => True) (fun _ => False) rfl rfl ?aP (fun _ hk => hk.elim) ?aF ?aO ?aB ?aS ?aL ?_; (case aP => exact rfl); (case aB => exact (lU HB)); (case aF => exact (fun _ _ => trivial)); (case aO => exact (rU HO_5.out)); (case aS => exact (below_size (lU HB))); (case aL => have := LMc15.out; omega); intro v313 w16 ho hb hg hat; rw [← Ny312.out] at ho; have HO314 := Aside0.mk (ho); replace HB := Aside0.mk (hb); clear HO_5; clear ho hb hg hat))
           go_roundg kj3
           case measure => have := HK1.out; have := HJ3.out; omega
           case rel => exact ⟨(y312), (true), (wrap64 (x7_1 + 1)), eR, eR, H', ⟨by have := HK1.out; have := HJ3.out; omega⟩, ⟨rU HO314.out⟩, ⟨lU HB⟩⟩
          ·rw [if_neg c15] at H
           exact absurd H (by simp)
        ·rw [if_neg c9] at H
         exact absurd H (by simp)
       ·rw [if_neg c8] at H
        exact absurd H (by simp)
      ·replace c7 := Bool.eq_false_iff.mpr c7
       subst c7
       rw [if_neg (show ¬ (false = true) by decide)] at H
       by_cases c17 : 0 ≤ x7_1
       ·rw [if_pos c17] at H
        have c17b0 : decide (0 ≤ x7_1) = true := decide_eq_true c17
        clear c17
        by_cases c18 : x7_1 < (l0.length : Int)
        ·rw [if_pos c18] at H
         have c18b0 : decide (x7_1 < (l0.length : Int)) = true := decide_eq_true c18
         clear c18
         by_cases c19 : x5_1.length < 17592186044416
         ·rw [if_pos c19] at H
          have LMc19 := Aside0.mk c19
          clear c19
          obtain ⟨y316, hy316⟩ : ∃ y_ : List Int, y_ = (x5_1 ++ [rd l0 x7_1]) := ⟨_, rfl⟩
          replace H : (mandolineref02_insert.l0 kj3 l0 a1 y316 x6_1 (wrap64 (x7_1 + 1))) = some r := by first | (rw [hy316]; with_reducible exact H) | (have H2_ := (Option.bind_some _ _).symm.trans H; rw [hy316]; with_reducible exact H2_) | (have H2_ := (Option.bind_some _ _).symm.trans H; with_reducible exact H2_) | with_reducible exact H | (rw [hy316]; exact H) | exact H
          have Ny316 := Aside0.mk hy316
          clear hy316
          have H' := Aside0.mk H
          clear H
          have p315 : 0 ≤ (x7_1 : Int) := of_decide_eq_true (by first | (with_reducible assumption) | assumption)
          have q315 : x7_1 < (l0.length : Int) := of_decide_eq_true (by first | (with_reducible assumption) | assumption)
          obtain ⟨ad315, e315, hx315_0⟩ := Kd.at_int HR0.out x7_1 p315 q315
          cases e315
          replace hx315_0 := cB HB hx315_0
          replace p315 := eq_true p315
          replace q315 := eq_true q315
          go_wp2_with (first | ((with_reducible refine gate_builtin (b := .append) (xs := #[.tmp 34, .tmp 39]) rfl ?_); at_builtin; refine Kd.R_append (Kd.int .i64) (w0 := w) w.heap.size rfl (.tmp 34) (.tmp 39) 63 2 (.int .i64 0) 8 rfl Try.underlying63 info2 rfl (by decide) (by omega) u5 x5_1 (rd l0 x7_1) [.int .i64 (rd l0 x7_1)] (fun _ => True) (fun _ => False) rfl rfl ?aP (fun _ hk => hk.elim) ?aF ?aO ?aB ?aS ?aL ?_; (case aP => exact rfl); (case aB => exact (lU HB)); (case aF => exact (fun _ _ => trivial)); (case aO => exact (rU HO_5.out)); (case aS => exact (below_size (lU HB))); (case aL => have := LMc19.out; omega); intro v317 w20 ho hb hg hat; rw [← Ny316.out] at ho; have HO318 := Aside0.mk (ho); replace HB := Aside0.mk (hb); clear HO_5; clear ho hb hg hat))
          go_roundg kj3
          case measure => have := HK1.out; have := HJ3.out; omega
          case rel => exact ⟨(y316), (x6_1), (wrap64 (x7_1 + 1)), eR, eR, H', ⟨by have := HK1.out; have := HJ3.out; omega⟩, ⟨rU HO318.out⟩, ⟨lU HB⟩⟩
         ·rw [if_neg c19] at H
          exact absurd H (by simp)
        ·rw [if_neg c18] at H
         exact absurd H (by simp)
       ·rw [if_neg c17] at H
        exact absurd H (by simp)
   ·rw [if_neg c3] at H
    have c3b0 : decide (x7_1 < (l0.length : Int)) = false := decide_eq_false c3
    clear c3
    by_cases c21 : x6_1 = true
    ·subst c21
     rw [if_pos rfl] at H
     obtain rfl := Option.some.inj H
     go_wp2
     go_ret
     exact ⟨_, eW, by (with_reducible repeat (first | apply Kd.R_alloc | apply Kd.R_drewN | apply Kd.R_drew)); exact HO_5.out, lU HB⟩
    ·replace c21 := Bool.eq_false_iff.mpr c21
     subst c21
     rw [if_neg (show ¬ (false = true) by decide)] at H
     by_cases c22 : x5_1.length < 17592186044416
     ·rw [if_pos c22] at H
      have LMc22 := Aside0.mk c22
      clear c22
      obtain ⟨y299, hy299⟩ : ∃ y_ : List Int, y_ = (x5_1 ++ [a1]) := ⟨_, rfl⟩
      replace H : (some y299) = some r := by first | (rw [hy299]; with_reducible exact H) | (have H2_ := (Option.bind_some _ _).symm.trans H; rw [hy299]; with_reducible exact H2_) | (have H2_ := (Option.bind_some _ _).symm.trans H; with_reducible exact H2_) | with_reducible exact H | (rw [hy299]; exact H) | exact H
      have Ny299 := Aside0.mk hy299
      clear hy299
      obtain rfl := Option.some.inj H
      go_wp2_with (first | ((with_reducible refine gate_builtin (b := .append) (xs := #[.tmp 43, .tmp 45]) rfl ?_); at_builtin; refine Kd.R_append (Kd.int .i64) (w0 := w) w.heap.size rfl (.tmp 43) (.tmp 45) 63 2 (.int .i64 0) 8 rfl Try.underlying63 info2 rfl (by decide) (by omega) u5 x5_1 a1 [.int .i64 a1] (fun _ => True) (fun _ => False) rfl rfl ?aP (fun _ hk => hk.elim) ?aF ?aO ?aB ?aS ?aL ?_; (case aP => exact rfl); (case aB => exact (lU HB)); (case aF => exact (fun _ _ => trivial)); (case aO => exact (rU HO_5.out)); (case aS => exact (below_size (lU HB))); (case aL => have := LMc22.out; omega); intro v300 w23 ho hb hg hat; rw [← Ny299.out] at ho; have HO301 := Aside0.mk (ho); replace HB := Aside0.mk (hb); clear HO_5; clear ho hb hg hat))
      go_ret
      exact ⟨_, eW, by (with_reducible repeat (first | apply Kd.R_alloc | apply Kd.R_drewN | apply Kd.R_drew)); exact HO301.out, lU HB⟩
     ·rw [if_neg c22] at H
      exact absurd H (by simp)
def mandolineref02_ends.l0 : Nat → List Int → List (S48) → Int → Option (List Int)
 | 0, _, _, _ => none
 | k + 1, x5, x6, x7 => if x7 < (x6.length : Int) then (if 0 ≤ x7 then ((mandolineref01_Right.f ((rd_T48 x6 x7).f0) ((rd_T48 x6 x7).f1)).bind fun t329 => (if t329 = true then ((mandolineref02_insert.f k x5 ((rd_T48 x6 x7).f0)).bind fun t331 => ((mandolineref02_insert.f k t331 ((rd_T48 x6 x7).f1)).bind fun t335 => (mandolineref02_ends.l0 k t335 x6 (wrap64 (x7 + 1))))) else (mandolineref02_ends.l0 k x5 x6 (wrap64 (x7 + 1))))) else (none)) else (some x5)
def mandolineref02_ends.f (k : Nat) (l0 : List (S48)) (l1 : List (S48)) : Option (List Int) := (some (([] : List (S48)) : List (S48))).bind fun y319 => (if y319.length + l0.length < 8796093022208 then ((some (y319 ++ l0 : List (S48))).bind fun y322 => (if y322.length + l1.length < 8796093022208 then (mandolineref02_ends.l0 k ([] : List Int) (y322 ++ l1) 0) else (none))) else (none))
def mandolineref02_ends.T7 : Bool × List (List Nat × List Nat) := (true, [([], []), ([], []), ([], []), ([1, 2], [1, 2]), ([3], [3]), ([4], [4]), ([0, 5], [0, 5]), ([], []), ([], []), ([7, 8], [7, 8]), ([9], [9]), ([10], [10]), ([6, 11, 6], [6, 11]), ([12, 12, 0, 1, 2, 3, 4, 5, 6, 7, 8, 9, 10, 11, 12], [0, 12])])
def mandolineref02_ends.B7 : List Nat := [0, 0, 0, 6, 14, 30, 63, 0, 0, 384, 896, 1920, 4095, 8191]
theorem mandolineref02_ends.tab7 : rtab .any (opsOf Try.f62 7) = mandolineref02_ends.T7 := by kernel_rfl
theorem mandolineref02_ends.bits7 : waitsOk mandolineref02_ends.T7.2 mandolineref02_ends.B7 = true := by kernel_rfl
set_option maxHeartbeats 8000000 in
set_option maxRecDepth 100000 in
theorem mandolineref02_ends.calls (k : Nat) (A0 : Option Addr) (c0 : Nat) (l0 : List (S48)) (A1 : Option Addr) (c1 : Nat) (l1 : List (S48)) (r : List Int) (w : World) (hr0 : Kd.C k48 w A0 l0.length l0) (hc0 : l0.length ≤ c0) (hr1 : Kd.C k48 w A1 l1.length l1) (hc1 : l1.length ≤ c1) (h : mandolineref02_ends.f k l0 l1 = some r) :
  Calls Try.prog 62 #[.slice A0 l0.length c0, .slice A1 l1.length c1] w fun e w' => ∃ v0_ : Value, e = .returned (v0_) ∧ Kd.R (Kd.int .i64) 2 w' w.heap.size (fun _ => True) v0_ r ∧ Below w.heap.size w w' := by
 have hu48 := Try.underlying48
 have HR0 := Aside0.mk hr0
 have HC0 := Aside0.mk hc0
 clear hr0 hc0
 have HR1 := Aside0.mk hr1
 have HC1 := Aside0.mk hc1
 clear hr1 hc1
 have HB := Aside0.mk (Below.refl w.heap.size w)
 unfold mandolineref02_ends.f at h
 have H := h
 clear h
 obtain ⟨y319, hy319⟩ : ∃ y_ : List (S48), y_ = (([] : List (S48))) := ⟨_, rfl⟩
 replace H : (if y319.length + l0.length < 8796093022208 then ((some (y319 ++ l0 : List (S48))).bind fun y322 => (if y322.length + l1.length < 8796093022208 then (mandolineref02_ends.l0 k ([] : List Int) (y322 ++ l1) 0) else (none))) else (none)) = some r := by first | (rw [hy319]; with_reducible exact H) | (have H2_ := (Option.bind_some _ _).symm.trans H; rw [hy319]; with_reducible exact H2_) | (have H2_ := (Option.bind_some _ _).symm.trans H; with_reducible exact H2_) | with_reducible exact H | (rw [hy319]; exact H) | exact H
 have Ny319 := Aside0.mk hy319
 clear hy319
 by_cases c3 : y319.length + l0.length < 8796093022208
 ·rw [if_pos c3] at H
  have LMc3 := Aside0.mk c3
  clear c3
  obtain ⟨y322, hy322⟩ : ∃ y_ : List (S48), y_ = (y319 ++ l0) := ⟨_, rfl⟩
  replace H : (if y322.length + l1.length < 8796093022208 then (mandolineref02_ends.l0 k ([] : List Int) (y322 ++ l1) 0) else (none)) = some r := by first | (rw [hy322]; with_reducible exact H) | (have H2_ := (Option.bind_some _ _).symm.trans H; rw [hy322]; with_reducible exact H2_) | (have H2_ := (Option.bind_some _ _).symm.trans H; with_reducible exact H2_) | with_reducible exact H | (rw [hy322]; exact H) | exact H
  have Ny322 := Aside0.mk hy322
  clear hy322
  by_cases c4 : y322.length + l1.length < 8796093022208
  ·rw [if_pos c4] at H
   have LMc4 := Aside0.mk c4
   clear c4
   obtain ⟨y325, hy325⟩ : ∃ y_ : List (S48), y_ = (y322 ++ l1) := ⟨_, rfl⟩
   replace H : (mandolineref02_ends.l0 k ([] : List Int) y325 0) = some r := by first | (rw [hy325]; with_reducible exact H) | (have H2_ := (Option.bind_some _ _).symm.trans H; rw [hy325]; with_reducible exact H2_) | (have H2_ := (Option.bind_some _ _).symm.trans H; with_reducible exact H2_) | with_reducible exact H | (rw [hy325]; exact H) | exact H
   have Ny325 := Aside0.mk hy325
   clear hy325
   have H' := Aside0.mk H
   clear H
   go_enter Try.func62, Try.ntmps62
   go_wp2_with (first | ((with_reducible refine gate_dst (N := 8) rfl ?_); refine Kd.R_lit k48 _ 48 ?hg (N := 8) ?hd (xs := ([] : List (S48))) (inner := []) (ok := fun _ => True) (okp := fun _ => True) ?hr ?hp (fun _ hk => hk) trivial (Below.refl _ _) (Nat.le_refl _) (by simp) ?_; (case hd => rfl); (case hg => rfl); (case hr => first | (go_simp; done) | (go_simp; rfl)); (case hp => exact (Reps.none _ _)); intro v320 w5 ho6 hb hg_ hnew_; clear hg_ hnew_; (first | rw [← Ny319.out] at ho6 | (simp only [Int.reduceToNat] at ho6; rw [← Ny319.out] at ho6)); have HO321 := Aside0.mk (Kd.R_lower ho6 (below_size (lU HB))); replace HB := sL HB hb; clear hb ho6) | ((with_reducible refine gate_builtin (b := .append) (xs := #[.tmp 8, .tmp 9]) rfl ?_); at_builtin; refine Kd.R_append_rows k48 (w0 := w) w.heap.size rfl (.tmp 8) (.tmp 9) 22 48 (.agg #[(.int .i64 0), (.int .i64 0)]) 16 rfl Try.underlying22 info48 rfl (by decide) (by omega) v320 y319 l0 _ _ _ (fun _ => True) (fun _ => False) rfl rfl ?aO ?aR (fun _ _ h => h) (fun _ h => h.elim) ?aF ?aB ?aS ?aL ?_; (case aR => repeat (first | exact (Kd.C_below HR0.out HB.out) | (with_reducible refine Kd.C_alloc ?_ _) | (with_reducible refine Kd.C_drewN ?_ _) | (with_reducible refine Kd.C_drew ?_))); (case aB => exact (lU HB)); (case aF => exact (fun _ _ => trivial)); (case aO => exact (rU HO321.out)); (case aS => exact (below_size (lU HB))); (case aL => have := LMc3.out; omega); intro v323 w7 ho hb hg hat; rw [← Ny322.out] at ho; have HO324 := Aside0.mk (ho); replace HB := Aside0.mk (hb); clear HO321; clear ho hb hg hat) | ((with_reducible refine gate_builtin (b := .append) (xs := #[.tmp 10, .tmp 11]) rfl ?_); at_builtin; refine Kd.R_append_rows k48 (w0 := w) w.heap.size rfl (.tmp 10) (.tmp 11) 22 48 (.agg #[(.int .i64 0), (.int .i64 0)]) 16 rfl Try.underlying22 info48 rfl (by decide) (by omega) v323 y322 l1 _ _ _ (fun _ => True) (fun _ => False) rfl rfl ?aO ?aR (fun _ _ h => h) (fun _ h => h.elim) ?aF ?aB ?aS ?aL ?_; (case aR => repeat (first | exact (Kd.C_below HR1.out HB.out) | (with_reducible refine Kd.C_alloc ?_ _) | (with_reducible refine Kd.C_drewN ?_ _) | (with_reducible refine Kd.C_drew ?_))); (case aB => exact (lU HB)); (case aF => exact (fun _ _ => trivial)); (case aO => exact (rU HO324.out)); (case aS => exact (below_size (lU HB))); (case aL => have := LMc4.out; omega); intro v326 w8 ho hb hg hat; rw [← Ny325.out] at ho; have HO327 := Aside0.mk (ho); replace HB := Aside0.mk (hb); clear HO324; clear ho hb hg hat))
   go_loopg [5, 7] k (fun kq v5 v7 w' => ∃ (x5_1 : List Int) (x7_1 : Int), v7 = .int .i64 x7_1 ∧ Aside0 (mandolineref02_ends.l0 kq x5_1 y325 x7_1 = some r) ∧ Aside0 (kq ≤ k) ∧ Aside0 (Kd.R (Kd.int .i64) 2 w' w.heap.size (fun _ => True) v5 x5_1) ∧ Aside0 (Kd.R k48 48 w' w.heap.size (fun _ => True) v326 y325) ∧ Aside0 (Below w.heap.size w w'))
   case atStart => exact ⟨(([] : List Int)), (0), eR, H', ⟨Nat.le_refl _⟩, ⟨by first | exact Kd.R_nil _ _ _ _ _ | exact Kd.N_nil _ _ _ _ _ | exact Kd.V_nil _ _ _ _ _ | exact Kd.Q_nil _ _ _ _ _ | exact Kd.S_nil _ _ _ _ _⟩, ⟨rU HO327.out⟩, ⟨lU HB⟩⟩
   case round =>
    clear H'
    try clear c1
    try clear p2
    try clear c3
    try clear c4
    try clear c6
    obtain ⟨x5_1, x7_1, rfl, HA, HK1, HO_5, HO_6, HB⟩ := hrel
    cases gk with
    | zero => exact absurd HA.out (by simp [mandolineref02_ends.l0])
    | succ k1 =>
     have H := HA.out
     clear HA
     simp only [mandolineref02_ends.l0] at H
     by_cases c9 : x7_1 < (y325.length : Int)
     ·rw [if_pos c9] at H
      have c9b0 : decide (x7_1 < (y325.length : Int)) = true := decide_eq_true c9
      clear c9
      by_cases c10 : 0 ≤ x7_1
      ·rw [if_pos c10] at H
       have c10b0 : decide (0 ≤ x7_1) = true := decide_eq_true c10
       clear c10
       obtain ⟨t329, A11, H⟩ := bO H
       by_cases c12 : t329 = true
       ·subst c12
        rw [if_pos rfl] at H
        obtain ⟨t331, A13, H⟩ := bO H
        obtain ⟨t335, A14, H⟩ := bO H
        have H' := Aside0.mk H
        clear H
        obtain ⟨Ao15, co15, eo15⟩ := Kd.R_slice HO_6.out
        subst eo15
        have p328 : 0 ≤ (x7_1 : Int) := of_decide_eq_true (by first | (with_reducible assumption) | assumption)
        have q328 : x7_1 < (y325.length : Int) := of_decide_eq_true (by first | (with_reducible assumption) | assumption)
        obtain ⟨ad328, e328, hx328_0, hx328_1⟩ := at_T48 (rC HO_6) x7_1 p328 q328
        cases e328
        replace p328 := eq_true p328
        replace q328 := eq_true q328
        try go_wp2_with (first | ((with_reducible refine gate_callee (f := 53) rfl ?_); refine gL (some 23) rfl rfl Try.func53 #[.agg #[.int .i64 ((rd_T48 y325 x7_1).f0), .int .i64 ((rd_T48 y325 x7_1).f1)]] rfl ?_; (with_reducible refine (mandolineref01_Right.calls ((rd_T48 y325 x7_1).f0) ((rd_T48 y325 x7_1).f1) true _ A11.out).mono ?_); rintro e w16 ⟨rfl, hb⟩; refine ⟨_, rfl, ?_⟩; replace HO_5 := rB HO_5 hb; replace HO_6 := rB HO_6 hb; replace HB := sL HB hb; (try clear hb); (try clear hb2); (try clear hk); (try clear hi)))
        replace HO_5 := Aside0.mk (Kd.R_drew HO_5.out)
        replace HO_6 := Aside0.mk (Kd.R_drew HO_6.out)
        replace HB := Aside0.mk (below_drew1 HB.out)
        have p330 : 0 ≤ (x7_1 : Int) := of_decide_eq_true (by first | (with_reducible assumption) | assumption)
        have q330 : x7_1 < (y325.length : Int) := of_decide_eq_true (by first | (with_reducible assumption) | assumption)
        obtain ⟨ad330, e330, hx330_0, hx330_1⟩ := at_T48 (rC HO_6) x7_1 p330 q330
        obtain rfl : ad328 = ad330 := (by injection e330)
        replace p330 := eq_true p330
        replace q330 := eq_true q330
        have p334 : 0 ≤ (x7_1 : Int) := of_decide_eq_true (by first | (with_reducible assumption) | assumption)
        have q334 : x7_1 < (y325.length : Int) := of_decide_eq_true (by first | (with_reducible assumption) | assumption)
        obtain ⟨ad334, e334, hx334_0, hx334_1⟩ := at_T48 (rC HO_6) x7_1 p334 q334
        obtain rfl : ad328 = ad334 := (by injection e334)
        replace p334 := eq_true p334
        replace q334 := eq_true q334
        obtain ⟨Ao18, co18, eo18⟩ := Kd.R_slice HO_5.out
        (first | subst eo18 | (injection eo18 with f1_ f2_ f3_; have f4_ := f1_.symm; have f5_ := f3_.symm; clear f1_ f2_ f3_; subst f4_; subst f5_))
        refine start_ (n := 14) (S := fun w' => w'.cell? (ad328.add ((x7_1).toNat * 2)) = some (.int .i64 ((rd_T48 y325 x7_1).f0)) ∧ w'.cell? ⟨(ad328.add ((x7_1).toNat * 2)).block, (ad328.add ((x7_1).toNat * 2)).off + 1, none⟩ = some (.int .i64 ((rd_T48 y325 x7_1).f1)) ∧ w'.cell? (ad328.add ((x7_1).toNat * 2)) = some (.int .i64 ((rd_T48 y325 x7_1).f0)) ∧ w'.cell? ⟨(ad328.add ((x7_1).toNat * 2)).block, (ad328.add ((x7_1).toNat * 2)).off + 1, none⟩ = some (.int .i64 ((rd_T48 y325 x7_1).f1))) (ds := []) #[false, false, false, false, false, false, false, false, false, false, false, false, false, false] (by kernel_rfl) rfl rfl ⟨hx330_0, hx330_1, hx334_0, hx334_1⟩ (fun hHeld => ?_); refine with_tabW mandolineref02_ends.tab7 mandolineref02_ends.bits7 (fun HT_ HW_ => ?_)
        generalize w16.drew = w17 at HO_5 HO_6 HB hx330_0 hx330_1 hx334_0 hx334_1 hHeld ⊢
        refine pS (i := 0) (N := some 24) (ma 14 1) rfl rfl HT_.out ?_
        refine pS (i := 1) (N := some 25) (ma 14 3) rfl rfl HT_.out ?_
        refine pS (i := 2) (N := some 26) (ma 14 7) rfl rfl HT_.out ?_
        refine pS (i := 3) (N := some 27) (ma 14 15) rfl rfl HT_.out ?_
        refine pS (i := 4) (N := some 28) (ma 14 31) rfl rfl HT_.out ?_
        refine pS (i := 7) (N := some 31) (ma 14 159) rfl rfl HT_.out ?_
        refine pS (i := 8) (N := some 32) (ma 14 415) rfl rfl HT_.out ?_
        refine pS (i := 9) (N := some 33) (ma 14 927) rfl rfl HT_.out ?_
        refine pS (i := 10) (N := some 34) (ma 14 1951) rfl rfl HT_.out ?_
        refine tS (i := 5) (N := some 29) (ma 14 1983) rfl rfl HT_.out HW_.out hHeld ?_
        refine tS (i := 11) (N := some 35) (ma 14 4031) rfl rfl HT_.out HW_.out hHeld ?_
        refine one_ (i := 6) (N := some 30) (ma 14 4095) rfl rfl (one_of HT_.out (by kernel_rfl)) (by decide) (fun K hK => ?_)
        refine gO Try.func72 #[.slice Ao18 x5_1.length co18, .int .i64 ((rd_T48 y325 x7_1).f0)] rfl rfl ?_
        with_reducible refine (mandolineref02_insert.calls k1 _ _ x5_1 ((rd_T48 y325 x7_1).f0) t331 _ (cU (rC HO_5)) (rN HO_5) A13.out).mono ?_
        rintro e w19 ⟨v332, rfl, ho0, hb⟩
        have HS0_ := (hb.cell (World.block_lt_of_cell? _ _ (hHeld.1))).trans (hHeld.1)
        have HS1_ := (hb.cell (World.block_lt_of_cell? _ _ (hHeld.2.1))).trans (hHeld.2.1)
        have HS2_ := (hb.cell (World.block_lt_of_cell? _ _ (hHeld.2.2.1))).trans (hHeld.2.2.1)
        have HS3_ := (hb.cell (World.block_lt_of_cell? _ _ (hHeld.2.2.2))).trans (hHeld.2.2.2)
        refine ⟨_, rfl, ?_⟩
        have HO333 := Aside0.mk (Kd.R_lower (Kd.R_new' ho0 (Kd.R_lt (rU HO_5.out))) (below_size (lU HB)))
        replace HO_5 := rE HO_5 ho0 hb
        replace HO_6 := rB HO_6 hb
        replace HB := sL HB hb
        (try clear hb)
        (try clear hb2)
        (try clear hk)
        (try clear hi)
        (try clear ho0)
        obtain ⟨Ao20, co20, eo20⟩ := Kd.R_slice HO333.out
        (first | subst eo20 | (injection eo20 with f1_ f2_ f3_; have f4_ := f1_.symm; have f5_ := f3_.symm; clear f1_ f2_ f3_; subst f4_; subst f5_))
        refine hK.out _ _ ⟨HS0_, HS1_, HS2_, HS3_⟩ (fun hHeld => ?_)
        clear hK K
        refine nP (some 30) ?_
        refine one_ (i := 12) (N := some 36) (ma 14 8191) rfl rfl (one_of HT_.out (by kernel_rfl)) (by decide) (fun K hK => ?_)
        refine gO Try.func72 #[.slice Ao20 t331.length co20, .int .i64 ((rd_T48 y325 x7_1).f1)] rfl rfl ?_
        with_reducible refine (mandolineref02_insert.calls k1 _ _ t331 ((rd_T48 y325 x7_1).f1) t335 _ (cU (rC HO333)) (rN HO333) A14.out).mono ?_
        rintro e w21 ⟨v336, rfl, ho0, hb⟩
        have HS0_ := (hb.cell (World.block_lt_of_cell? _ _ (hHeld.1))).trans (hHeld.1)
        have HS1_ := (hb.cell (World.block_lt_of_cell? _ _ (hHeld.2.1))).trans (hHeld.2.1)
        have HS2_ := (hb.cell (World.block_lt_of_cell? _ _ (hHeld.2.2.1))).trans (hHeld.2.2.1)
        have HS3_ := (hb.cell (World.block_lt_of_cell? _ _ (hHeld.2.2.2))).trans (hHeld.2.2.2)
        refine ⟨_, rfl, ?_⟩
        have HO337 := Aside0.mk (Kd.R_lower (Kd.R_new' (Kd.R_new' ho0 (Kd.R_lt (rU HO_5.out))) (Kd.R_lt (rU HO333.out))) (below_size (lU HB)))
        replace HO_5 := rE HO_5 ho0 hb
        replace HO_6 := rB HO_6 hb
        replace HO333 := rE HO333 ho0 hb
        replace HB := sL HB hb
        (try clear hb)
        (try clear hb2)
        (try clear hk)
        (try clear hi)
        (try clear ho0)
        refine hK.out _ _ ⟨HS0_, HS1_, HS2_, HS3_⟩ (fun hHeld => ?_)
        clear hK K
        refine nP (some 36) ?_
        refine pS (i := 13) (N := some 5) (ma 14 16383) rfl rfl HT_.out ?_
        refine done_ (done_of HT_.out (by kernel_rfl)) ?_
        try go_wp2
        go_roundg k1
        case measure => have := HK1.out; omega
        case rel => exact ⟨(t335), (wrap64 (x7_1 + 1)), eR, H', ⟨by have := HK1.out; omega⟩, ⟨rU (Kd.R_mono HO337.out (fun _ hk => trivial))⟩, ⟨rU HO_6.out⟩, ⟨lU HB⟩⟩
       ·replace c12 := Bool.eq_false_iff.mpr c12
        subst c12
        rw [if_neg (show ¬ (false = true) by decide)] at H
        have H' := Aside0.mk H
        clear H
        obtain ⟨Ao22, co22, eo22⟩ := Kd.R_slice HO_6.out
        subst eo22
        have p328 : 0 ≤ (x7_1 : Int) := of_decide_eq_true (by first | (with_reducible assumption) | assumption)
        have q328 : x7_1 < (y325.length : Int) := of_decide_eq_true (by first | (with_reducible assumption) | assumption)
        obtain ⟨ad328, e328, hx328_0, hx328_1⟩ := at_T48 (rC HO_6) x7_1 p328 q328
        cases e328
        replace p328 := eq_true p328
        replace q328 := eq_true q328
        go_wp2_with (first | ((with_reducible refine gate_callee (f := 53) rfl ?_); refine gL (some 23) rfl rfl Try.func53 #[.agg #[.int .i64 ((rd_T48 y325 x7_1).f0), .int .i64 ((rd_T48 y325 x7_1).f1)]] rfl ?_; (with_reducible refine (mandolineref01_Right.calls ((rd_T48 y325 x7_1).f0) ((rd_T48 y325 x7_1).f1) false _ A11.out).mono ?_); rintro e w23 ⟨rfl, hb⟩; refine ⟨_, rfl, ?_⟩; replace HO_5 := rB HO_5 hb; replace HO_6 := rB HO_6 hb; replace HB := sL HB hb; (try clear hb); (try clear hb2); (try clear hk); (try clear hi)))
        go_roundg k1
        case measure => have := HK1.out; omega
        case rel => exact ⟨(x5_1), (wrap64 (x7_1 + 1)), eR, H', ⟨by have := HK1.out; omega⟩, ⟨rU HO_5.out⟩, ⟨rU HO_6.out⟩, ⟨lU HB⟩⟩
      ·rw [if_neg c10] at H
       exact absurd H (by simp)
     ·rw [if_neg c9] at H
      have c9b0 : decide (x7_1 < (y325.length : Int)) = false := decide_eq_false c9
      clear c9
      obtain rfl := Option.some.inj H
      obtain ⟨Ao24, co24, eo24⟩ := Kd.R_slice HO_6.out
      subst eo24
      go_wp2
      go_ret
      exact ⟨_, eW, by (with_reducible repeat (first | apply Kd.R_alloc | apply Kd.R_drewN | apply Kd.R_drew)); exact HO_5.out, lU HB⟩
  ·rw [if_neg c4] at H
   exact absurd H (by simp)
 ·rw [if_neg c3] at H
  exact absurd H (by simp)
end Go.Proofs.Ytnaalaakhdbfbaa.XP
