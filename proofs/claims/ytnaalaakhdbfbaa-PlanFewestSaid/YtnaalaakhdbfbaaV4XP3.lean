-- Go functions as plain functions, and that the code comes to these answers (printed by a program).
import Derived.Test.YtnaalaakhdbfbaaV4XP0
import Derived.Test.YtnaalaakhdbfbaaV4XP2
namespace Go.Proofs.Ytnaalaakhdbfbaa.XP
open Go.RowKit Go.Proofs.YtnaalaakhdbfbaaW.PrintWords Go.Proofs.YtnaalaakhdbfbaaW.PrintLast Go.Proofs.YtnaalaakhdbfbaaW.PrintMore
attribute [local go_sem] max2_int min2_int max_two min_two max_three min_three max_four min_four
set_option linter.unusedVariables false
set_option linter.unusedSimpArgs false
mutual
def ranges_Of.l0 : Nat → List (S48) → List (S48) → Int → Int → Option ((List (S48)))
 | 0, _, _, _, _ => none
 | k + 1, x3, x10, x11, x12 => if x12 < x11 then (if 0 ≤ x12 then (if x12 < (x10.length : Int) then ((span_Right.f ((rd_T48 x10 x12).f0) ((rd_T48 x10 x12).f1)).bind fun t109 => (if t109 = true then (if ((rd_T48 x10 x12).f0) < ((rd_T48 x10 x12).f1) then (if x3.length < 8796093022208 then (ranges_Of.l0 k (x3 ++ [(⟨(rd_T48 x10 x12).f0, (rd_T48 x10 x12).f1⟩ : S48)]) x10 x11 (wrap64 (x12 + 1))) else (none)) else (ranges_Of.l0 k x3 x10 x11 (wrap64 (x12 + 1)))) else (ranges_Of.l0 k x3 x10 x11 (wrap64 (x12 + 1))))) else (none)) else (none)) else ((api_Span_50.f x3).bind fun t113 => (ranges_Of.l1 k ([] : List (S48)) t113 (x3.length : Int) 0))
def ranges_Of.l1 : Nat → List (S48) → List (S48) → Int → Int → Option ((List (S48)))
 | 0, _, _, _, _ => none
 | k + 1, x6, x32, x33, x34 => if x34 < x33 then (if 0 ≤ x34 then (if x34 < (x32.length : Int) then (if (wrap64 ((x6.length : Int) - 1)) ≥ 0 then (if 0 ≤ (wrap64 ((x6.length : Int) - 1)) then (if (wrap64 ((x6.length : Int) - 1)) < (x6.length : Int) then (if ((rd_T48 x32 x34).f0) ≤ ((rd_T48 x6 (wrap64 ((x6.length : Int) - 1))).f1) then (ranges_Of.l1 k (x6.set ((wrap64 ((x6.length : Int) - 1)) : Int).toNat (⟨(rd_T48 x6 (wrap64 ((x6.length : Int) - 1))).f0, mx ((rd_T48 x6 (wrap64 ((x6.length : Int) - 1))).f1) ((rd_T48 x32 x34).f1)⟩ : S48)) x32 x33 (wrap64 (x34 + 1))) else (if x6.length < 8796093022208 then (ranges_Of.l1 k (x6 ++ [(⟨(rd_T48 x32 x34).f0, (rd_T48 x32 x34).f1⟩ : S48)]) x32 x33 (wrap64 (x34 + 1))) else (none))) else (none)) else (none)) else (if x6.length < 8796093022208 then (ranges_Of.l1 k (x6 ++ [(⟨(rd_T48 x32 x34).f0, (rd_T48 x32 x34).f1⟩ : S48)]) x32 x33 (wrap64 (x34 + 1))) else (none))) else (none)) else (none)) else (some x6)
end
def ranges_Of.f (k : Nat) (l0 : List (S48)) : Option ((List (S48))) := ranges_Of.l0 k ([] : List (S48)) l0 (l0.length : Int) 0
theorem ranges_Of.mono_l : ∀ k, (∀ y0 y1 y2 y3, LeO (ranges_Of.l0 k y0 y1 y2 y3) (ranges_Of.l0 (k + 1) y0 y1 y2 y3)) ∧ (∀ y0 y1 y2 y3, LeO (ranges_Of.l1 k y0 y1 y2 y3) (ranges_Of.l1 (k + 1) y0 y1 y2 y3))
 | 0 => ⟨fun _ _ _ _ r h => by simp [ranges_Of.l0] at h, fun _ _ _ _ r h => by simp [ranges_Of.l1] at h⟩
 | k + 1 => by
  obtain ⟨ih0, ih1⟩ := ranges_Of.mono_l k
  refine ⟨?_, ?_⟩
  ·intro y0 y1 y2 y3
   unfold ranges_Of.l0
   repeat' first
   | with_reducible apply ih0
   | with_reducible apply ih1
   | with_reducible apply LeO.refl
   | with_reducible apply LeO.none
   | with_reducible refine LeO.ite ?_ ?_
   | with_reducible refine LeO.bind ?_ (fun _ => ?_)
  ·intro y0 y1 y2 y3
   unfold ranges_Of.l1
   repeat' first
   | with_reducible apply ih0
   | with_reducible apply ih1
   | with_reducible apply LeO.refl
   | with_reducible apply LeO.none
   | with_reducible refine LeO.ite ?_ ?_
   | with_reducible refine LeO.bind ?_ (fun _ => ?_)
theorem ranges_Of.mono : ∀ a0 k, LeO (ranges_Of.f k a0) (ranges_Of.f (k + 1) a0) := by
 intro a0 k
 obtain ⟨ih0, ih1⟩ := ranges_Of.mono_l k
 unfold ranges_Of.f
 repeat' first
   | with_reducible apply ih0
   | with_reducible apply ih1
   | with_reducible apply LeO.refl
   | with_reducible apply LeO.none
   | with_reducible refine LeO.ite ?_ ?_
   | with_reducible refine LeO.bind ?_ (fun _ => ?_)
def ranges_Of.T14 : Bool × List (List Nat × List Nat) := (true, [([], []), ([0], [0]), ([1], [1]), ([2], [2]), ([3, 2], [2, 3]), ([2], [2]), ([2], [2]), ([5, 6, 2], [2, 5, 6]), ([7, 2], [2, 7]), ([8, 2], [2, 8]), ([4, 9, 2], [2, 4, 9]), ([2, 10], [2, 10])])
def ranges_Of.B14 : List Nat := [0, 1, 3, 7, 15, 7, 7, 103, 231, 487, 1023, 2047]
theorem ranges_Of.tab14 : rtab .any (opsOf Try.f22 14) = ranges_Of.T14 := by kernel_rfl
theorem ranges_Of.bits14 : waitsOk ranges_Of.T14.2 ranges_Of.B14 = true := by kernel_rfl
def ranges_Of.T15 : Bool × List (List Nat × List Nat) := (true, [([], []), ([], []), ([], []), ([], []), ([2, 3], [2, 3]), ([4], [4]), ([5], [5]), ([], []), ([7], [7]), ([6, 8], [6, 8]), ([0, 1, 0, 1, 2, 3, 4, 5, 6, 7, 8, 9], [0, 1]), ([10, 0, 1, 2, 3, 4, 5, 6, 7, 8, 9], [10]), ([11, 9, 0, 1, 2, 3, 4, 5, 6, 7, 8, 9], [9, 11])])
def ranges_Of.B15 : List Nat := [0, 0, 0, 0, 12, 28, 60, 0, 128, 508, 1023, 2047, 4095]
theorem ranges_Of.tab15 : rtab .any (opsOf Try.f22 15) = ranges_Of.T15 := by kernel_rfl
theorem ranges_Of.bits15 : waitsOk ranges_Of.T15.2 ranges_Of.B15 = true := by kernel_rfl
set_option maxHeartbeats 8000000 in
set_option maxRecDepth 100000 in
theorem ranges_Of.calls (k : Nat) (A0 : Option Addr) (c0 : Nat) (l0 : List (S48)) (r : List (S48)) (w : World) (hr0 : Kd.C k48 w A0 l0.length l0) (hc0 : l0.length ≤ c0) (h : ranges_Of.f k l0 = some r) :
  Calls Try.prog 22 #[.slice A0 l0.length c0] w fun e w' => ∃ v0_ : Value, e = .returned (.agg #[v0_]) ∧ Kd.R k48 48 w' w.heap.size (fun _ => True) v0_ r ∧ Below w.heap.size w w' := by
 have hu30 := Try.underlying30
 have hu48 := Try.underlying48
 have HR0 := Aside0.mk hr0
 have HC0 := Aside0.mk hc0
 clear hr0 hc0
 have HB := Aside0.mk (Below.refl w.heap.size w)
 unfold ranges_Of.f at h
 have H := h
 clear h
 have H' := Aside0.mk H
 clear H
 go_enter Try.func22, Try.ntmps22
 go_wp2_with (first | ((with_reducible refine gate_dst (N := 2) rfl ?_); refine bX (N := 2) (cs := #[.slice none 0 0]) (t := 30) ?_; intro gb106 hg w2 hbox hb; have BK106 := Aside0.mk (hbox); have GE106 := sG HB hg; replace HB := sL HB hb; clear hb hbox hg))
 go_loopg [3, 12] k (fun kq v3 v12 w' => ∃ (x3_1 : List (S48)) (x12_1 : Int), v12 = .int .i64 x12_1 ∧ Aside0 (ranges_Of.l0 kq x3_1 l0 (l0.length : Int) x12_1 = some r) ∧ Aside0 (kq ≤ k) ∧ Aside0 (Kd.R k48 48 w' w.heap.size (fun _ => True) v3 x3_1) ∧ Aside0 (w'.heap[gb106]? = some (.cells #[(.slice none 0 0)] 30 (0, 0))) ∧ Aside0 (Below w.heap.size w w'))
 case atStart => exact ⟨(([] : List (S48))), (0), eR, H', ⟨Nat.le_refl _⟩, ⟨by first | exact Kd.R_nil _ _ _ _ _ | exact Kd.N_nil _ _ _ _ _ | exact Kd.V_nil _ _ _ _ _ | exact Kd.Q_nil _ _ _ _ _ | exact Kd.S_nil _ _ _ _ _⟩, ⟨bU BK106⟩, ⟨lU HB⟩⟩
 case round =>
  clear H'
  try clear c2
  try clear p2
  obtain ⟨x3_1, x12_1, rfl, HA, HK1, HO_3, BK106, HB⟩ := hrel
  cases gk with
  | zero => exact absurd HA.out (by simp [ranges_Of.l0])
  | succ k1 =>
   have H := HA.out
   clear HA
   simp only [ranges_Of.l0] at H
   by_cases c3 : x12_1 < (l0.length : Int)
   ·rw [if_pos c3] at H
    have c3b0 : decide (x12_1 < (l0.length : Int)) = true := decide_eq_true c3
    clear c3
    by_cases c4 : 0 ≤ x12_1
    ·rw [if_pos c4] at H
     have c4b0 : decide (0 ≤ x12_1) = true := decide_eq_true c4
     clear c4
     by_cases c5 : x12_1 < (l0.length : Int)
     ·rw [if_pos c5] at H
      have c5b0 : decide (x12_1 < (l0.length : Int)) = true := decide_eq_true c5
      clear c5
      obtain ⟨t109, A6, H⟩ := bO H
      by_cases c7 : t109 = true
      ·subst c7
       rw [if_pos rfl] at H
       by_cases c8 : ((rd_T48 l0 x12_1).f0) < ((rd_T48 l0 x12_1).f1)
       ·rw [if_pos c8] at H
        have c8b0 : decide (((rd_T48 l0 x12_1).f0) < ((rd_T48 l0 x12_1).f1)) = true := decide_eq_true c8
        clear c8
        by_cases c9 : x3_1.length < 8796093022208
        ·rw [if_pos c9] at H
         have LMc9 := Aside0.mk c9
         clear c9
         obtain ⟨y110, hy110⟩ : ∃ y_ : List (S48), y_ = (x3_1 ++ [(⟨(rd_T48 l0 x12_1).f0, (rd_T48 l0 x12_1).f1⟩ : S48)]) := ⟨_, rfl⟩
         replace H : (ranges_Of.l0 k1 y110 l0 (l0.length : Int) (wrap64 (x12_1 + 1))) = some r := by first | (rw [hy110]; with_reducible exact H) | (have H2_ := (Option.bind_some _ _).symm.trans H; rw [hy110]; with_reducible exact H2_) | (have H2_ := (Option.bind_some _ _).symm.trans H; with_reducible exact H2_) | with_reducible exact H | (rw [hy110]; exact H) | exact H
         have Ny110 := Aside0.mk hy110
         clear hy110
         have H' := Aside0.mk H
         clear H
         have p107 : 0 ≤ (x12_1 : Int) := of_decide_eq_true (by first | (with_reducible assumption) | assumption)
         have q107 : x12_1 < (l0.length : Int) := of_decide_eq_true (by first | (with_reducible assumption) | assumption)
         obtain ⟨ad107, e107, hx107_0, hx107_1⟩ := at_T48 HR0.out x12_1 p107 q107
         cases e107
         replace hx107_0 := cB HB hx107_0
         replace hx107_1 := cB HB hx107_1
         replace p107 := eq_true p107
         replace q107 := eq_true q107
         go_wp2_with (first | ((with_reducible refine gate_dst (N := 5) rfl ?_); refine bX (N := 5) (cs := #[.int .i64 0, .int .i64 0]) (t := 48) ?_; intro gb108 hg w10 hbox hb; have BK108 := Aside0.mk (hbox); have GE108 := sG HB hg; have NB106_108 := sN BK106 hg; have NB108_106 := sM BK106 hg; replace HO_3 := Aside0.mk (Kd.R_below (Kd.R_elderB (rU HO_3.out) gb108 (Nat.le_of_eq hg.symm)) hb); replace BK106 := sB BK106 hb; replace HB := sL HB hb; clear hb hbox hg; have hnb11 := NB108_106.out; have hnc11 := NB106_108.out; obtain ⟨hcz12_0, hcz12_1⟩ := q2 BK108; obtain ⟨hfz12_0, hfz12_1⟩ := z2 BK108) | ((with_reducible refine gate_callee (f := 49) rfl ?_); refine gL (some 17) rfl rfl Try.func49 #[.agg #[.int .i64 ((rd_T48 l0 x12_1).f0), .int .i64 ((rd_T48 l0 x12_1).f1)]] rfl ?_; (with_reducible refine (span_Right.calls ((rd_T48 l0 x12_1).f0) ((rd_T48 l0 x12_1).f1) true _ A6.out).mono ?_); rintro e w13 ⟨rfl, hb⟩; refine ⟨_, rfl, ?_⟩; replace HO_3 := Aside0.mk (Kd.R_below (rU ((Kd.R_mono (Kd.R_far (p := ⟨gb108, 1, none⟩) (Kd.R_far (p := ⟨gb108, 0, none⟩) (Kd.R_mono HO_3.out (fun k_ hk => (⟨hk, hk.2⟩ : _ ∧ k_ ≠ gb108))) (fun _ hk => hk.2) (.int .i64 ((rd_T48 l0 x12_1).f0))) (fun _ hk => hk.2) (.int .i64 ((rd_T48 l0 x12_1).f1))) (fun _ h_ => h_.1)))) hb); replace BK106 := Aside0.mk (blk_below (g := gb106) (o := .cells #[.slice none 0 0] 30 (0, 0)) (bF BK106) hb); replace BK108 := Aside0.mk (blk_below (g := gb108) (o := .cells #[.int .i64 ((rd_T48 l0 x12_1).f0), .int .i64 ((rd_T48 l0 x12_1).f1)] 48 (0, 0)) (by (with_reducible repeat (first | refine blk_drewN ?_ _ | refine blk_drew ?_ | refine blk_alloc ?_ _)); refine blk_put (cs := #[.int .i64 ((rd_T48 l0 x12_1).f0), .int .i64 0]) ?_ 1 _ rfl; (with_reducible repeat (first | refine blk_drewN ?_ _ | refine blk_drew ?_ | refine blk_alloc ?_ _)); refine blk_put (cs := #[.int .i64 0, .int .i64 0]) ?_ 0 _ rfl; (with_reducible repeat (first | refine blk_drewN ?_ _ | refine blk_drew ?_ | refine blk_alloc ?_ _)); exact BK108.out) hb); replace HB := sL HB hb; (try clear hb); (try clear hb2); (try clear hk); (try clear hi); obtain ⟨hcz14_0, hcz14_1⟩ := q2 BK108; obtain ⟨hfz14_0, hfz14_1⟩ := z2 BK108) | ((with_reducible refine gate_builtin (b := .append) (xs := #[.tmp 25, .tmp 27]) rfl ?_); at_builtin; refine Kd.R_append k48 (w0 := w) w.heap.size rfl (.tmp 25) (.tmp 27) 22 48 (.agg #[(.int .i64 0), (.int .i64 0)]) 16 rfl Try.underlying22 info48 rfl (by decide) (by omega) u3 x3_1 (⟨(rd_T48 l0 x12_1).f0, (rd_T48 l0 x12_1).f1⟩ : S48) [.int .i64 ((rd_T48 l0 x12_1).f0), .int .i64 ((rd_T48 l0 x12_1).f1)] (fun k_ => k_ ≠ gb108) (fun _ => False) rfl rfl ?aP (fun _ hk => hk.elim) ?aF ?aO ?aB ?aS ?aL ?_; (case aP => exact k48_mkM _ _ _ (⟨(rd_T48 l0 x12_1).f0, (rd_T48 l0 x12_1).f1⟩ : S48)); (case aB => exact (lU HB)); (case aF => exact (fun k_ hk => Kd.freshB (g := gb108) (o := .cells #[.int .i64 ((rd_T48 l0 x12_1).f0), .int .i64 ((rd_T48 l0 x12_1).f1)] 48 (0, 0)) (bU BK108) k_ hk)); (case aO => exact (rU (Kd.R_mono HO_3.out (fun _ hk => hk.2)))); (case aS => exact (below_size (lU HB))); (case aL => have := LMc9.out; omega); intro v111 w15 ho hb hg hat; rw [← Ny110.out] at ho; have HO112 := Aside0.mk (ho); replace BK106 := Aside0.mk (blk_grown (g := gb106) (o := .cells #[.slice none 0 0] 30 (0, 0)) (bU BK106) hg (Kd.R_ne HO_3.out BK106.out (by decide))); replace BK108 := Aside0.mk (blk_grown (g := gb108) (o := .cells #[.int .i64 ((rd_T48 l0 x12_1).f0), .int .i64 ((rd_T48 l0 x12_1).f1)] 48 (0, 0)) (bU BK108) hg (Kd.R_away HO_3.out (fun _ hk => hk.2))); replace HB := Aside0.mk (hb); clear HO_3; clear ho hb hg hat))
         go_roundg k1
         case measure => have := HK1.out; omega
         case rel => exact ⟨(y110), (wrap64 (x12_1 + 1)), eR, H', ⟨by have := HK1.out; omega⟩, ⟨rU (Kd.R_mono HO112.out (fun _ hk => trivial))⟩, ⟨bU BK106⟩, ⟨lU HB⟩⟩
        ·rw [if_neg c9] at H
         exact absurd H (by simp)
       ·rw [if_neg c8] at H
        have c8b0 : decide (((rd_T48 l0 x12_1).f0) < ((rd_T48 l0 x12_1).f1)) = false := decide_eq_false c8
        clear c8
        have H' := Aside0.mk H
        clear H
        have p107 : 0 ≤ (x12_1 : Int) := of_decide_eq_true (by first | (with_reducible assumption) | assumption)
        have q107 : x12_1 < (l0.length : Int) := of_decide_eq_true (by first | (with_reducible assumption) | assumption)
        obtain ⟨ad107, e107, hx107_0, hx107_1⟩ := at_T48 HR0.out x12_1 p107 q107
        cases e107
        replace hx107_0 := cB HB hx107_0
        replace hx107_1 := cB HB hx107_1
        replace p107 := eq_true p107
        replace q107 := eq_true q107
        go_wp2_with (first | ((with_reducible refine gate_dst (N := 5) rfl ?_); refine bX (N := 5) (cs := #[.int .i64 0, .int .i64 0]) (t := 48) ?_; intro gb108 hg w16 hbox hb; have BK108 := Aside0.mk (hbox); have GE108 := sG HB hg; have NB106_108 := sN BK106 hg; have NB108_106 := sM BK106 hg; replace HO_3 := Aside0.mk (Kd.R_below (Kd.R_elderB (rU HO_3.out) gb108 (Nat.le_of_eq hg.symm)) hb); replace BK106 := sB BK106 hb; replace HB := sL HB hb; clear hb hbox hg; have hnb17 := NB108_106.out; have hnc17 := NB106_108.out; obtain ⟨hcz18_0, hcz18_1⟩ := q2 BK108; obtain ⟨hfz18_0, hfz18_1⟩ := z2 BK108) | ((with_reducible refine gate_callee (f := 49) rfl ?_); refine gL (some 17) rfl rfl Try.func49 #[.agg #[.int .i64 ((rd_T48 l0 x12_1).f0), .int .i64 ((rd_T48 l0 x12_1).f1)]] rfl ?_; (with_reducible refine (span_Right.calls ((rd_T48 l0 x12_1).f0) ((rd_T48 l0 x12_1).f1) true _ A6.out).mono ?_); rintro e w19 ⟨rfl, hb⟩; refine ⟨_, rfl, ?_⟩; replace HO_3 := Aside0.mk (Kd.R_below (rU ((Kd.R_mono (Kd.R_far (p := ⟨gb108, 1, none⟩) (Kd.R_far (p := ⟨gb108, 0, none⟩) (Kd.R_mono HO_3.out (fun k_ hk => (⟨hk, hk.2⟩ : _ ∧ k_ ≠ gb108))) (fun _ hk => hk.2) (.int .i64 ((rd_T48 l0 x12_1).f0))) (fun _ hk => hk.2) (.int .i64 ((rd_T48 l0 x12_1).f1))) (fun _ h_ => h_.1)))) hb); replace BK106 := Aside0.mk (blk_below (g := gb106) (o := .cells #[.slice none 0 0] 30 (0, 0)) (bF BK106) hb); replace BK108 := Aside0.mk (blk_below (g := gb108) (o := .cells #[.int .i64 ((rd_T48 l0 x12_1).f0), .int .i64 ((rd_T48 l0 x12_1).f1)] 48 (0, 0)) (by (with_reducible repeat (first | refine blk_drewN ?_ _ | refine blk_drew ?_ | refine blk_alloc ?_ _)); refine blk_put (cs := #[.int .i64 ((rd_T48 l0 x12_1).f0), .int .i64 0]) ?_ 1 _ rfl; (with_reducible repeat (first | refine blk_drewN ?_ _ | refine blk_drew ?_ | refine blk_alloc ?_ _)); refine blk_put (cs := #[.int .i64 0, .int .i64 0]) ?_ 0 _ rfl; (with_reducible repeat (first | refine blk_drewN ?_ _ | refine blk_drew ?_ | refine blk_alloc ?_ _)); exact BK108.out) hb); replace HB := sL HB hb; (try clear hb); (try clear hb2); (try clear hk); (try clear hi); obtain ⟨hcz20_0, hcz20_1⟩ := q2 BK108; obtain ⟨hfz20_0, hfz20_1⟩ := z2 BK108))
        go_roundg k1
        case measure => have := HK1.out; omega
        case rel => exact ⟨(x3_1), (wrap64 (x12_1 + 1)), eR, H', ⟨by have := HK1.out; omega⟩, ⟨rU (Kd.R_mono HO_3.out (fun _ hk => trivial))⟩, ⟨bU BK106⟩, ⟨lU HB⟩⟩
      ·replace c7 := Bool.eq_false_iff.mpr c7
       subst c7
       rw [if_neg (show ¬ (false = true) by decide)] at H
       have H' := Aside0.mk H
       clear H
       have p107 : 0 ≤ (x12_1 : Int) := of_decide_eq_true (by first | (with_reducible assumption) | assumption)
       have q107 : x12_1 < (l0.length : Int) := of_decide_eq_true (by first | (with_reducible assumption) | assumption)
       obtain ⟨ad107, e107, hx107_0, hx107_1⟩ := at_T48 HR0.out x12_1 p107 q107
       cases e107
       replace hx107_0 := cB HB hx107_0
       replace hx107_1 := cB HB hx107_1
       replace p107 := eq_true p107
       replace q107 := eq_true q107
       go_wp2_with (first | ((with_reducible refine gate_dst (N := 5) rfl ?_); refine bX (N := 5) (cs := #[.int .i64 0, .int .i64 0]) (t := 48) ?_; intro gb108 hg w21 hbox hb; have BK108 := Aside0.mk (hbox); have GE108 := sG HB hg; have NB106_108 := sN BK106 hg; have NB108_106 := sM BK106 hg; replace HO_3 := Aside0.mk (Kd.R_below (Kd.R_elderB (rU HO_3.out) gb108 (Nat.le_of_eq hg.symm)) hb); replace BK106 := sB BK106 hb; replace HB := sL HB hb; clear hb hbox hg; have hnb22 := NB108_106.out; have hnc22 := NB106_108.out; obtain ⟨hcz23_0, hcz23_1⟩ := q2 BK108; obtain ⟨hfz23_0, hfz23_1⟩ := z2 BK108) | ((with_reducible refine gate_callee (f := 49) rfl ?_); refine gL (some 17) rfl rfl Try.func49 #[.agg #[.int .i64 ((rd_T48 l0 x12_1).f0), .int .i64 ((rd_T48 l0 x12_1).f1)]] rfl ?_; (with_reducible refine (span_Right.calls ((rd_T48 l0 x12_1).f0) ((rd_T48 l0 x12_1).f1) false _ A6.out).mono ?_); rintro e w24 ⟨rfl, hb⟩; refine ⟨_, rfl, ?_⟩; replace HO_3 := Aside0.mk (Kd.R_below (rU ((Kd.R_mono (Kd.R_far (p := ⟨gb108, 1, none⟩) (Kd.R_far (p := ⟨gb108, 0, none⟩) (Kd.R_mono HO_3.out (fun k_ hk => (⟨hk, hk.2⟩ : _ ∧ k_ ≠ gb108))) (fun _ hk => hk.2) (.int .i64 ((rd_T48 l0 x12_1).f0))) (fun _ hk => hk.2) (.int .i64 ((rd_T48 l0 x12_1).f1))) (fun _ h_ => h_.1)))) hb); replace BK106 := Aside0.mk (blk_below (g := gb106) (o := .cells #[.slice none 0 0] 30 (0, 0)) (bF BK106) hb); replace BK108 := Aside0.mk (blk_below (g := gb108) (o := .cells #[.int .i64 ((rd_T48 l0 x12_1).f0), .int .i64 ((rd_T48 l0 x12_1).f1)] 48 (0, 0)) (by (with_reducible repeat (first | refine blk_drewN ?_ _ | refine blk_drew ?_ | refine blk_alloc ?_ _)); refine blk_put (cs := #[.int .i64 ((rd_T48 l0 x12_1).f0), .int .i64 0]) ?_ 1 _ rfl; (with_reducible repeat (first | refine blk_drewN ?_ _ | refine blk_drew ?_ | refine blk_alloc ?_ _)); refine blk_put (cs := #[.int .i64 0, .int .i64 0]) ?_ 0 _ rfl; (with_reducible repeat (first | refine blk_drewN ?_ _ | refine blk_drew ?_ | refine blk_alloc ?_ _)); exact BK108.out) hb); replace HB := sL HB hb; (try clear hb); (try clear hb2); (try clear hk); (try clear hi)))
       go_roundg k1
       case measure => have := HK1.out; omega
       case rel => exact ⟨(x3_1), (wrap64 (x12_1 + 1)), eR, H', ⟨by have := HK1.out; omega⟩, ⟨rU (Kd.R_mono HO_3.out (fun _ hk => trivial))⟩, ⟨bU BK106⟩, ⟨lU HB⟩⟩
     ·rw [if_neg c5] at H
      exact absurd H (by simp)
    ·rw [if_neg c4] at H
     exact absurd H (by simp)
   ·rw [if_neg c3] at H
    have c3b0 : decide (x12_1 < (l0.length : Int)) = false := decide_eq_false c3
    clear c3
    obtain ⟨t113, A25, H⟩ := bO H
    have H' := Aside0.mk H
    clear H
    obtain ⟨Ao26, co26, eo26⟩ := Kd.R_slice HO_3.out
    subst eo26
    go_wp2_with (first | ((with_reducible refine gate_callee (f := 50) rfl ?_); refine gL (some 31) rfl rfl Try.func50 #[.slice Ao26 x3_1.length co26, .func (.func 51) #[] #[]] rfl ?_; (with_reducible refine (api_Span_50.calls (fun k_ => some k_ = (.slice Ao26 x3_1.length co26 : Value).ownBlock) (.slice Ao26 x3_1.length co26) x3_1 t113 w _ ?side1 ?side2 A25.out).mono ?_); (case side1 => repeat (first | (with_reducible first | exact HB.out | apply below_alloc | apply pw_below_drewN | apply below_drew1 | refine below_set ?_ GE106.out) | exact HB.out)); (case side2 => exact Kd.R_tight rfl HO_3.out); rintro e w27 ⟨rfl, hy0, hb, hkp⟩; refine ⟨_, rfl, ?_⟩; replace BK106 := Aside0.mk (blk_kept (bU BK106) hkp (fun hs_ => (fun e_ => (Kd.R_ne HO_3.out BK106.out (by decide)) e_) hs_)); replace HO_3 := Aside0.mk (Kd.R_reok rfl hy0 (fun k_ e_ => HO_3.out.1 k_ e_)); replace HB := Aside0.mk (hb); (try clear hb); (try clear hkp); (try clear hy0)))
    go_loopg [6, 34] k1 (fun kq v6 v34 w' => ∃ (x6_2 : List (S48)) (x32_2 : List (S48)) (x34_2 : Int), v34 = .int .i64 x34_2 ∧ Aside0 (ranges_Of.l1 kq x6_2 x32_2 (x3_1.length : Int) x34_2 = some r) ∧ Aside0 (kq ≤ k1) ∧ Aside0 (Kd.R k48 48 w' w.heap.size (fun k_ => some k_ ≠ ((.slice Ao26 x3_1.length co26) : Value).ownBlock) v6 x6_2) ∧ Aside0 (Kd.R k48 48 w' w.heap.size (fun k_ => some k_ ≠ (v6 : Value).ownBlock) (.slice Ao26 x3_1.length co26) x32_2) ∧ Aside0 (w'.heap[gb106]? = some (.cells #[(.slice none 0 0)] 30 (0, 0))) ∧ Aside0 (Below w.heap.size w w'))
    case atStart => exact ⟨(([] : List (S48))), (t113), (0), eR, H', ⟨Nat.le_refl _⟩, ⟨by first | exact Kd.R_nil _ _ _ _ _ | exact Kd.N_nil _ _ _ _ _ | exact Kd.V_nil _ _ _ _ _ | exact Kd.Q_nil _ _ _ _ _ | exact Kd.S_nil _ _ _ _ _⟩, ⟨rU (Kd.R_mono HO_3.out (fun _ hk => (by simp [Value.ownBlock])))⟩, ⟨bU BK106⟩, ⟨lU HB⟩⟩
    case round =>
     clear H'
     try clear c1
     try clear p1
     try clear q1
     try clear hx1
     try clear c2
     try clear p2
     try clear c3
     try clear c3b0
     try clear c4
     try clear c4b0
     try clear c5
     try clear c5b0
     try clear p6
     try clear c7
     try clear c8
     try clear c8b0
     try clear c9
     try clear p10
     try clear q10
     try clear hx10
     try clear c11
     try clear c17
     try clear c22
     try clear hcz12_0
     try clear hcz12_1
     try clear hcz14_0
     try clear hcz14_1
     try clear hcz18_0
     try clear hcz18_1
     try clear hcz20_0
     try clear hcz20_1
     try clear hcz23_0
     try clear hcz23_1
     try clear hfz12_0
     try clear hfz12_1
     try clear hfz14_0
     try clear hfz14_1
     try clear hfz18_0
     try clear hfz18_1
     try clear hfz20_0
     try clear hfz20_1
     try clear hfz23_0
     try clear hfz23_1
     try clear hx107_0
     try clear hx107_1
     try clear p107
     try clear p2
     try clear q107
     obtain ⟨x6_2, x32_2, x34_2, rfl, HA, HK2, HO_6, HO_32, BK106, HB⟩ := hrel
     have hl32_2 := (Kd.R_reads' HO_32.out).1
     rw [hl32_2] at HO_32
     (try simp only [hl32_2])
     (try simp only [hl32_2] at BK106)
     (try simp only [hl32_2] at HO_6)
     cases gk with
     | zero => exact absurd HA.out (by simp [ranges_Of.l1])
     | succ k2 =>
      have H := HA.out
      clear HA
      simp only [ranges_Of.l1] at H
      by_cases c28 : x34_2 < (x3_1.length : Int)
      ·rw [if_pos c28] at H
       have c28b0 : decide (x34_2 < (x3_1.length : Int)) = true := decide_eq_true c28
       clear c28
       by_cases c29 : 0 ≤ x34_2
       ·rw [if_pos c29] at H
        have c29b0 : decide (0 ≤ x34_2) = true := decide_eq_true c29
        clear c29
        by_cases c30 : x34_2 < (x32_2.length : Int)
        ·rw [if_pos c30] at H
         have c30b0 : decide (x34_2 < (x32_2.length : Int)) = true := decide_eq_true c30
         clear c30
         by_cases c31 : (wrap64 ((x6_2.length : Int) - 1)) ≥ 0
         ·rw [if_pos c31] at H
          have c31b0 : decide (0 ≤ (wrap64 ((x6_2.length : Int) - 1))) = true := decide_eq_true c31
          clear c31
          obtain ⟨ji32, hji32⟩ : ∃ j_ : Int, (wrap64 ((x6_2.length : Int) - 1)) = j_ := ⟨_, rfl⟩
          replace H : (if 0 ≤ (ji32) then (if (ji32) < (x6_2.length : Int) then (if ((rd_T48 x32_2 x34_2).f0) ≤ ((rd_T48 x6_2 (ji32)).f1) then (ranges_Of.l1 k2 (x6_2.set ((ji32) : Int).toNat (⟨(rd_T48 x6_2 (ji32)).f0, mx ((rd_T48 x6_2 (ji32)).f1) ((rd_T48 x32_2 x34_2).f1)⟩ : S48)) x32_2 (x3_1.length : Int) (wrap64 (x34_2 + 1))) else (if x6_2.length < 8796093022208 then (ranges_Of.l1 k2 (x6_2 ++ [(⟨(rd_T48 x32_2 x34_2).f0, (rd_T48 x32_2 x34_2).f1⟩ : S48)]) x32_2 (x3_1.length : Int) (wrap64 (x34_2 + 1))) else (none))) else (none)) else (none)) = some r := by first | (rw [hji32] at H; exact H) | (simp only [hji32] at H ⊢; exact H)
          (try rw [hji32] at c31b0)
          have hji32w : (IntKind.i64.wrap ((x6_2.length : Int) - 1)) = ji32 := (i64_w _).trans hji32
          by_cases c33 : 0 ≤ (ji32)
          ·rw [if_pos c33] at H
           have c33b0 : decide (0 ≤ (ji32)) = true := decide_eq_true c33
           clear c33
           by_cases c34 : (ji32) < (x6_2.length : Int)
           ·rw [if_pos c34] at H
            have c34b0 : decide ((ji32) < (x6_2.length : Int)) = true := decide_eq_true c34
            clear c34
            by_cases c35 : ((rd_T48 x32_2 x34_2).f0) ≤ ((rd_T48 x6_2 (ji32)).f1)
            ·rw [if_pos c35] at H
             have c35b0 : decide (((rd_T48 x32_2 x34_2).f0) ≤ ((rd_T48 x6_2 (ji32)).f1)) = true := decide_eq_true c35
             clear c35
             obtain ⟨ji36, hji36⟩ : ∃ j_ : Int, (mx ((rd_T48 x6_2 (ji32)).f1) ((rd_T48 x32_2 x34_2).f1)) = j_ := ⟨_, rfl⟩
             replace H : (ranges_Of.l1 k2 (x6_2.set ((ji32) : Int).toNat (⟨(rd_T48 x6_2 (ji32)).f0, ji36⟩ : S48)) x32_2 (x3_1.length : Int) (wrap64 (x34_2 + 1))) = some r := by first | (rw [hji36] at H; exact H) | (simp only [hji36] at H ⊢; exact H)
             have hji36_ : (if ((rd_T48 x6_2 (ji32)).f1) < ((rd_T48 x32_2 x34_2).f1) then ((rd_T48 x32_2 x34_2).f1) else ((rd_T48 x6_2 (ji32)).f1)) = ji36 := hji36
             obtain ⟨y118, hy118⟩ : ∃ y_ : List (S48), y_ = (x6_2.set ((ji32) : Int).toNat (⟨(rd_T48 x6_2 (ji32)).f0, ji36⟩ : S48)) := ⟨_, rfl⟩
             replace H : (ranges_Of.l1 k2 y118 x32_2 (x3_1.length : Int) (wrap64 (x34_2 + 1))) = some r := by first | (rw [hy118]; with_reducible exact H) | (have H2_ := (Option.bind_some _ _).symm.trans H; rw [hy118]; with_reducible exact H2_) | (have H2_ := (Option.bind_some _ _).symm.trans H; with_reducible exact H2_) | with_reducible exact H | (rw [hy118]; exact H) | exact H
             have Ny118 := Aside0.mk hy118
             clear hy118
             have H' := Aside0.mk H
             clear H
             have p114 : 0 ≤ (x34_2 : Int) := of_decide_eq_true (by first | (with_reducible assumption) | assumption)
             have q114 : x34_2 < (x32_2.length : Int) := of_decide_eq_true (by first | (with_reducible assumption) | assumption)
             obtain ⟨ad114, e114, hx114_0, hx114_1⟩ := at_T48 (rC HO_32) x34_2 p114 q114
             cases e114
             replace p114 := eq_true p114
             replace q114 := eq_true q114
             try go_wp2_with (first | ((with_reducible refine gate_dst (N := 8) rfl ?_); refine bX (N := 8) (cs := #[.int .i64 0, .int .i64 0]) (t := 48) ?_; intro gb115 hg w38 hbox hb; have BK115 := Aside0.mk (hbox); have GE115 := sG HB hg; have NB106_115 := sN BK106 hg; have NB115_106 := sM BK106 hg; replace HO_6 := Aside0.mk (Kd.R_below (Kd.R_elderB (rU HO_6.out) gb115 (Nat.le_of_eq hg.symm)) hb); replace HO_32 := Aside0.mk (Kd.R_below (Kd.R_elderB (rU HO_32.out) gb115 (Nat.le_of_eq hg.symm)) hb); replace BK106 := sB BK106 hb; replace HB := sL HB hb; clear hb hbox hg; have hnb39 := NB115_106.out; have hnc39 := NB106_115.out; obtain ⟨hcz40_0, hcz40_1⟩ := q2 BK115; obtain ⟨hfz40_0, hfz40_1⟩ := z2 BK115; obtain ⟨Ao41, co41, eo41⟩ := Kd.R_slice HO_6.out; subst eo41))
             have n0_ : Aside0 (Kd.R k48 48 ((w38.setCell ⟨gb115, 0, none⟩ (.int .i64 ((rd_T48 x32_2 x34_2).f0))).setCell ⟨gb115, 1, none⟩ (.int .i64 ((rd_T48 x32_2 x34_2).f1))) w.heap.size (fun k_ => some k_ ≠ (.slice (some ad114) x32_2.length co26 : Value).ownBlock ∧ k_ ≠ gb115) (.slice Ao41 x6_2.length co41) x6_2) := ⟨rU (Kd.R_mono (Kd.R_far (p := ⟨gb115, 1, none⟩) (Kd.R_far (p := ⟨gb115, 0, none⟩) (Kd.R_mono HO_6.out (fun k_ hk => (⟨hk, hk.2⟩ : _ ∧ k_ ≠ gb115))) (fun _ hk => hk.2) (.int .i64 ((rd_T48 x32_2 x34_2).f0))) (fun _ hk => hk.2) (.int .i64 ((rd_T48 x32_2 x34_2).f1))) (fun _ hk => ⟨hk.1.1, hk.1.2⟩))⟩
             have n1_ : Aside0 (Kd.R k48 48 ((w38.setCell ⟨gb115, 0, none⟩ (.int .i64 ((rd_T48 x32_2 x34_2).f0))).setCell ⟨gb115, 1, none⟩ (.int .i64 ((rd_T48 x32_2 x34_2).f1))) w.heap.size (fun k_ => some k_ ≠ (.slice Ao41 x6_2.length co41 : Value).ownBlock ∧ k_ ≠ gb115) (.slice (some ad114) x32_2.length co26) x32_2) := ⟨rU (Kd.R_mono (Kd.R_far (p := ⟨gb115, 1, none⟩) (Kd.R_far (p := ⟨gb115, 0, none⟩) (Kd.R_mono HO_32.out (fun k_ hk => (⟨hk, hk.2⟩ : _ ∧ k_ ≠ gb115))) (fun _ hk => hk.2) (.int .i64 ((rd_T48 x32_2 x34_2).f0))) (fun _ hk => hk.2) (.int .i64 ((rd_T48 x32_2 x34_2).f1))) (fun _ hk => ⟨hk.1.1, hk.1.2⟩))⟩
             have n2_ : Aside0 (((w38.setCell ⟨gb115, 0, none⟩ (.int .i64 ((rd_T48 x32_2 x34_2).f0))).setCell ⟨gb115, 1, none⟩ (.int .i64 ((rd_T48 x32_2 x34_2).f1))).heap[gb106]? = some (.cells #[.slice none 0 0] 30 (0, 0))) := ⟨bF BK106⟩
             have n3_ : Aside0 (((w38.setCell ⟨gb115, 0, none⟩ (.int .i64 ((rd_T48 x32_2 x34_2).f0))).setCell ⟨gb115, 1, none⟩ (.int .i64 ((rd_T48 x32_2 x34_2).f1))).heap[gb115]? = some (.cells #[.int .i64 ((rd_T48 x32_2 x34_2).f0), .int .i64 ((rd_T48 x32_2 x34_2).f1)] 48 (0, 0))) := ⟨by (with_reducible repeat (first | refine blk_drewN ?_ _ | refine blk_drew ?_ | refine blk_alloc ?_ _)); refine blk_put (cs := #[.int .i64 ((rd_T48 x32_2 x34_2).f0), .int .i64 0]) ?_ 1 _ rfl; (with_reducible repeat (first | refine blk_drewN ?_ _ | refine blk_drew ?_ | refine blk_alloc ?_ _)); refine blk_put (cs := #[.int .i64 0, .int .i64 0]) ?_ 0 _ rfl; (with_reducible repeat (first | refine blk_drewN ?_ _ | refine blk_drew ?_ | refine blk_alloc ?_ _)); exact BK115.out⟩
             have n4_ : Aside0 (Below w.heap.size w ((w38.setCell ⟨gb115, 0, none⟩ (.int .i64 ((rd_T48 x32_2 x34_2).f0))).setCell ⟨gb115, 1, none⟩ (.int .i64 ((rd_T48 x32_2 x34_2).f1)))) := ⟨lU HB⟩
             (try clear HO_6)
             (try clear HO_32)
             (try clear BK106)
             (try clear BK115)
             (try clear HB)
             generalize ((w38.setCell ⟨gb115, 0, none⟩ (.int .i64 ((rd_T48 x32_2 x34_2).f0))).setCell ⟨gb115, 1, none⟩ (.int .i64 ((rd_T48 x32_2 x34_2).f1))) = w42 at n0_ n1_ n2_ n3_ n4_ ⊢
             have HO_6 := n0_
             have HO_32 := n1_
             have BK106 := n2_
             have BK115 := n3_
             have HB := n4_
             clear n0_ n1_ n2_ n3_ n4_
             replace HO_6 := Aside0.mk (Kd.R_drew HO_6.out)
             replace HO_32 := Aside0.mk (Kd.R_drew HO_32.out)
             replace BK106 := Aside0.mk (blk_drew BK106.out)
             replace BK115 := Aside0.mk (blk_drew BK115.out)
             replace HB := Aside0.mk (below_drew1 HB.out)
             have p116 : 0 ≤ ((ji32) : Int) := of_decide_eq_true (by first | (with_reducible assumption) | assumption)
             have q116 : (ji32) < (x6_2.length : Int) := of_decide_eq_true (by first | (with_reducible assumption) | assumption)
             obtain ⟨ad116, e116, hx116_0, hx116_1⟩ := at_T48 (rC HO_6) (ji32) p116 q116
             cases e116
             replace p116 := eq_true p116
             replace q116 := eq_true q116
             refine start_ (n := 12) (S := fun w' => w'.cell? ⟨gb115, 0, none⟩ = some (.int .i64 ((rd_T48 x32_2 x34_2).f0)) ∧ w'.cell? ⟨gb115, 1, none⟩ = some (.int .i64 ((rd_T48 x32_2 x34_2).f1)) ∧ w'.cell? (ad116.add (((ji32)).toNat * 2)) = some (.int .i64 ((rd_T48 x6_2 (ji32)).f0)) ∧ w'.cell? ⟨(ad116.add (((ji32)).toNat * 2)).block, (ad116.add (((ji32)).toNat * 2)).off + 1, none⟩ = some (.int .i64 ((rd_T48 x6_2 (ji32)).f1))) (ds := []) #[false, false, false, false, false, false, false, false, false, false, false, false] (by kernel_rfl) rfl rfl ⟨(blk_cell BK115.out 0).trans rfl, (blk_cell BK115.out 1).trans rfl, hx116_0, hx116_1⟩ (fun hHeld => ?_); refine with_tabW ranges_Of.tab14 ranges_Of.bits14 (fun HT_ HW_ => ?_)
             generalize w42.drew = w43 at HO_6 HO_32 BK106 BK115 HB hx116_0 hx116_1 hHeld ⊢
             refine pS (i := 0) (N := some 41) (ma 12 1) rfl rfl HT_.out ?_
             refine pS (i := 1) (N := some 42) (ma 12 3) rfl rfl HT_.out ?_
             refine pS (i := 2) (N := some 43) (ma 12 7) rfl rfl HT_.out ?_
             refine pS (i := 3) (N := some 44) (ma 12 15) rfl rfl HT_.out ?_
             refine pS (i := 5) (N := some 46) (ma 12 47) rfl rfl HT_.out ?_
             refine pS (i := 6) (N := some 47) (ma 12 111) rfl rfl HT_.out ?_
             refine pS (i := 7) (N := some 48) (ma 12 239) rfl rfl HT_.out ?_
             refine pS (i := 8) (N := some 49) (ma 12 495) rfl rfl HT_.out ?_
             refine tS (i := 4) (N := some 45) (ma 12 511) rfl rfl HT_.out HW_.out hHeld ?_
             refine tS (i := 9) (N := some 50) (ma 12 1023) rfl rfl HT_.out HW_.out hHeld ?_
             refine pS (i := 10) (N := some 51) (ma 12 2047) rfl rfl HT_.out ?_
             refine pS (i := 11) (N := some 52) (ma 12 4095) rfl rfl HT_.out ?_
             refine done_ (done_of HT_.out (by kernel_rfl)) ?_
             try go_wp2
             replace HO_6 := Aside0.mk (Kd.R_drew HO_6.out)
             replace HO_32 := Aside0.mk (Kd.R_drew HO_32.out)
             replace BK106 := Aside0.mk (blk_drew BK106.out)
             replace BK115 := Aside0.mk (blk_drew BK115.out)
             replace HB := Aside0.mk (below_drew1 HB.out)
             have p117 : 0 ≤ ((ji32) : Int) := of_decide_eq_true (by first | (with_reducible assumption) | assumption)
             have q117 : (ji32) < (x6_2.length : Int) := of_decide_eq_true (by first | (with_reducible assumption) | assumption)
             obtain ⟨ad117, e117, hx117_0, hx117_1⟩ := at_T48 (rC HO_6) (ji32) p117 q117
             obtain rfl : ad116 = ad117 := (by injection e117)
             replace p117 := eq_true p117
             replace q117 := eq_true q117
             have p37 : 0 ≤ ((ji32) : Int) := of_decide_eq_true (by first | (with_reducible assumption) | assumption)
             have q37 : ((ji32) : Int) < ((x6_2.length : Int) : Int) := of_decide_eq_true (by first | (with_reducible assumption) | assumption)
             obtain ⟨go37, co37, eo37, gb37, gl37, cl37, HG37⟩ := Kd.R_form HO_6.out (by omega)
             (first | cases eo37 | (injection eo37 with ea_ en_ ec_; (first | subst ea_ | (injection ea_ with ea_; subst ea_)); subst ec_; clear en_))
             have GB37 := Aside0.mk gb37
             have GG37 := Aside0.mk HG37
             clear gb37 gl37 HG37
             (first | simp only [add_plain] at hx116_0 | skip)
             (first | simp only [add_plain] at hx116_1 | skip)
             (first | simp only [add_plain] at hx117_0 | skip)
             (first | simp only [add_plain] at hx117_1 | skip)
             obtain ⟨ce37, hcl37, hM37, hcc37, hfr37⟩ := Kd.R_elem HO_6.out z48 ((ji32) : Int) p37 q37
             obtain rfl := k48_openM hM37
             have hx37_0 : World.cell? _ ⟨go37, ((ji32) : Int).toNat * 2, none⟩ = some (.int .i64 ((rd_T48 x6_2 (ji32)).f0)) := hcc37 0 _ rfl
             have hx37_1 : World.cell? _ ⟨go37, ((ji32) : Int).toNat * 2 + 1, none⟩ = some (.int .i64 ((rd_T48 x6_2 (ji32)).f1)) := hcc37 1 _ rfl
             have hf37_0 : World.frozen? _ ⟨go37, ((ji32) : Int).toNat * 2, none⟩ = false := hfr37 0
             have hf37_1 : World.frozen? _ ⟨go37, ((ji32) : Int).toNat * 2 + 1, none⟩ = false := hfr37 1
             clear hcl37 hcc37 hfr37 hM37
             replace p37 := eq_true p37
             replace q37 := eq_true q37
             obtain ⟨ce45, hcl45, hM45, hcc45, hfr45⟩ := Kd.R_elem HO_6.out z48 ((ji32) : Int) (of_decide_eq_true (by first | (with_reducible assumption) | assumption)) (by have h_ : ((ji32) : Int) < ((x6_2.length : Int) : Int) := of_decide_eq_true (by first | (with_reducible assumption) | assumption); first | exact h_ | (have e_ := (Kd.R_reads' HO_6.out).1; omega) | simpa using h_)
             obtain rfl := k48_openM hM45
             have HP45 := (Kd.R_seg HO_6.out ((ji32) : Int) (of_decide_eq_true (by first | (with_reducible assumption) | assumption)) (by have h_ : ((ji32) : Int) < ((x6_2.length : Int) : Int) := of_decide_eq_true (by first | (with_reducible assumption) | assumption); first | exact h_ | (have e_ := (Kd.R_reads' HO_6.out).1; omega) | simpa using h_) (seg := [.int .i64 ji36]) (j := 1) hcl45 hcc45 (show 2 ≤ 2 from by decide) (x' := (⟨(rd_T48 x6_2 (ji32)).f0, ji36⟩ : S48)) (k48_mkM _ _ _ (⟨(rd_T48 x6_2 (ji32)).f0, ji36⟩ : S48) ) (fun _ hk => hk)).1
             rw [← Ny118.out] at HP45
             have HQ45 := Aside0.mk HP45
             clear hcl45 hcc45 hfr45 hM45 HP45
             refine start_ (n := 13) (S := fun w' => w'.cell? ⟨gb115, 0, none⟩ = some (.int .i64 ((rd_T48 x32_2 x34_2).f0)) ∧ w'.cell? ⟨gb115, 1, none⟩ = some (.int .i64 ((rd_T48 x32_2 x34_2).f1)) ∧ w'.cell? ⟨go37, ((ji32)).toNat * 2, none⟩ = some (.int .i64 ((rd_T48 x6_2 (ji32)).f0)) ∧ w'.cell? ⟨go37, ((ji32)).toNat * 2 + 1, none⟩ = some (.int .i64 ((rd_T48 x6_2 (ji32)).f1))) (ds := [12]) #[false, false, false, false, false, false, false, false, false, false, false, false, false] (by kernel_rfl) rfl rfl ⟨(blk_cell BK115.out 0).trans rfl, (blk_cell BK115.out 1).trans rfl, hx117_0, hx117_1⟩ (fun hHeld => ?_); refine with_tabW ranges_Of.tab15 ranges_Of.bits15 (fun HT_ HW_ => ?_)
             generalize w43.drew = w44 at HO_6 HO_32 BK106 BK115 HB GG37 HQ45 hf37_0 hf37_1 hx116_0 hx116_1 hx117_0 hx117_1 hx37_0 hx37_1 hHeld ⊢
             refine pS (i := 0) (N := some 53) (ma 13 1) rfl rfl HT_.out ?_
             refine pS (i := 1) (N := some 54) (ma 13 3) rfl rfl HT_.out ?_
             refine pS (i := 2) (N := some 55) (ma 13 7) rfl rfl HT_.out ?_
             refine pS (i := 3) (N := some 56) (ma 13 15) rfl rfl HT_.out ?_
             refine pS (i := 4) (N := some 57) (ma 13 31) rfl rfl HT_.out ?_
             refine pS (i := 5) (N := some 58) (ma 13 63) rfl rfl HT_.out ?_
             refine pS (i := 7) (N := some 60) (ma 13 191) rfl rfl HT_.out ?_
             refine tS (i := 6) (N := some 59) (ma 13 255) rfl rfl HT_.out HW_.out hHeld ?_
             refine tS (i := 8) (N := some 61) (ma 13 511) rfl rfl HT_.out HW_.out hHeld ?_
             refine pS (i := 9) (N := some 62) (ma 13 1023) rfl rfl HT_.out ?_
             refine pS (i := 10) (N := some 63) (ma 13 2047) rfl rfl HT_.out ?_
             refine pS (i := 11) (N := some 64) (ma 13 4095) rfl rfl HT_.out ?_
             refine last_ (i := 12) (N := none) #[true, true, true, true, true, true, true, true, true, true, true, true, true] rfl rfl (one_of HT_.out (by kernel_rfl)) (by decide) (fun K hK => ?_)
             refine skip_ (w1 := ?_) (by rfl) rfl ?_ ?_
             rotate_left
             ·go_simp
              rfl
             refine hK.out _ _ ?_
             clear hK K
             refine done_ (done_of HT_.out (by kernel_rfl)) ?_
             try go_wp2
             (try simp only [← hl32_2])
             go_roundg k2
             case measure => have := HK1.out; have := HK2.out; omega
             case rel => exact ⟨(y118), (x32_2), (wrap64 (x34_2 + 1)), eR, H', ⟨by have := HK1.out; have := HK2.out; omega⟩, ⟨by (try simp only [hl32_2]); (with_reducible repeat (first | apply Kd.R_alloc | apply Kd.R_drewN | apply Kd.R_drew)); exact Kd.R_mono HQ45.out (fun _ hk => hk.1)⟩, ⟨by (try simp only [hl32_2]); (with_reducible repeat (first | apply Kd.R_alloc | apply Kd.R_drewN | apply Kd.R_drew)); exact Kd.R_mono (Kd.R_far (p := ⟨go37, ((ji32) : Int).toNat * 2 + 1, none⟩) (Kd.R_mono HO_32.out (fun k_ hk => (⟨hk, fun e_ => hk.1 (by rw [e_]; rfl)⟩ : _ ∧ k_ ≠ go37))) (fun _ hk => hk.2) (.int .i64 ji36)) (fun _ hk => hk.1.1)⟩, ⟨by (try simp only [hl32_2]); (with_reducible repeat (first | refine blk_drewN ?_ _ | refine blk_drew ?_ | refine blk_alloc ?_ _)); refine blk_far ?_ (by have h_ := Kd.R_ne HO_6.out BK106.out (by decide); intro e_; exact h_ (by rw [e_]; rfl)) _; (with_reducible repeat (first | refine blk_drewN ?_ _ | refine blk_drew ?_ | refine blk_alloc ?_ _)); exact BK106.out⟩, ⟨lU HB⟩⟩
            ·rw [if_neg c35] at H
             have c35b0 : decide (((rd_T48 x32_2 x34_2).f0) ≤ ((rd_T48 x6_2 (ji32)).f1)) = false := decide_eq_false c35
             clear c35
             by_cases c46 : x6_2.length < 8796093022208
             ·rw [if_pos c46] at H
              have LMc46 := Aside0.mk c46
              clear c46
              obtain ⟨y119, hy119⟩ : ∃ y_ : List (S48), y_ = (x6_2 ++ [(⟨(rd_T48 x32_2 x34_2).f0, (rd_T48 x32_2 x34_2).f1⟩ : S48)]) := ⟨_, rfl⟩
              replace H : (ranges_Of.l1 k2 y119 x32_2 (x3_1.length : Int) (wrap64 (x34_2 + 1))) = some r := by first | (rw [hy119]; with_reducible exact H) | (have H2_ := (Option.bind_some _ _).symm.trans H; rw [hy119]; with_reducible exact H2_) | (have H2_ := (Option.bind_some _ _).symm.trans H; with_reducible exact H2_) | with_reducible exact H | (rw [hy119]; exact H) | exact H
              have Ny119 := Aside0.mk hy119
              clear hy119
              have H' := Aside0.mk H
              clear H
              have p114 : 0 ≤ (x34_2 : Int) := of_decide_eq_true (by first | (with_reducible assumption) | assumption)
              have q114 : x34_2 < (x32_2.length : Int) := of_decide_eq_true (by first | (with_reducible assumption) | assumption)
              obtain ⟨ad114, e114, hx114_0, hx114_1⟩ := at_T48 (rC HO_32) x34_2 p114 q114
              cases e114
              replace p114 := eq_true p114
              replace q114 := eq_true q114
              try go_wp2_with (first | ((with_reducible refine gate_dst (N := 8) rfl ?_); refine bX (N := 8) (cs := #[.int .i64 0, .int .i64 0]) (t := 48) ?_; intro gb115 hg w47 hbox hb; have BK115 := Aside0.mk (hbox); have GE115 := sG HB hg; have NB106_115 := sN BK106 hg; have NB115_106 := sM BK106 hg; replace HO_6 := Aside0.mk (Kd.R_below (Kd.R_elderB (rU HO_6.out) gb115 (Nat.le_of_eq hg.symm)) hb); replace HO_32 := Aside0.mk (Kd.R_below (Kd.R_elderB (rU HO_32.out) gb115 (Nat.le_of_eq hg.symm)) hb); replace BK106 := sB BK106 hb; replace HB := sL HB hb; clear hb hbox hg; have hnb48 := NB115_106.out; have hnc48 := NB106_115.out; obtain ⟨hcz49_0, hcz49_1⟩ := q2 BK115; obtain ⟨hfz49_0, hfz49_1⟩ := z2 BK115; obtain ⟨Ao50, co50, eo50⟩ := Kd.R_slice HO_6.out; subst eo50))
              have n0_ : Aside0 (Kd.R k48 48 ((w47.setCell ⟨gb115, 0, none⟩ (.int .i64 ((rd_T48 x32_2 x34_2).f0))).setCell ⟨gb115, 1, none⟩ (.int .i64 ((rd_T48 x32_2 x34_2).f1))) w.heap.size (fun k_ => some k_ ≠ (.slice (some ad114) x32_2.length co26 : Value).ownBlock ∧ k_ ≠ gb115) (.slice Ao50 x6_2.length co50) x6_2) := ⟨rU (Kd.R_mono (Kd.R_far (p := ⟨gb115, 1, none⟩) (Kd.R_far (p := ⟨gb115, 0, none⟩) (Kd.R_mono HO_6.out (fun k_ hk => (⟨hk, hk.2⟩ : _ ∧ k_ ≠ gb115))) (fun _ hk => hk.2) (.int .i64 ((rd_T48 x32_2 x34_2).f0))) (fun _ hk => hk.2) (.int .i64 ((rd_T48 x32_2 x34_2).f1))) (fun _ hk => ⟨hk.1.1, hk.1.2⟩))⟩
              have n1_ : Aside0 (Kd.R k48 48 ((w47.setCell ⟨gb115, 0, none⟩ (.int .i64 ((rd_T48 x32_2 x34_2).f0))).setCell ⟨gb115, 1, none⟩ (.int .i64 ((rd_T48 x32_2 x34_2).f1))) w.heap.size (fun k_ => some k_ ≠ (.slice Ao50 x6_2.length co50 : Value).ownBlock ∧ k_ ≠ gb115) (.slice (some ad114) x32_2.length co26) x32_2) := ⟨rU (Kd.R_mono (Kd.R_far (p := ⟨gb115, 1, none⟩) (Kd.R_far (p := ⟨gb115, 0, none⟩) (Kd.R_mono HO_32.out (fun k_ hk => (⟨hk, hk.2⟩ : _ ∧ k_ ≠ gb115))) (fun _ hk => hk.2) (.int .i64 ((rd_T48 x32_2 x34_2).f0))) (fun _ hk => hk.2) (.int .i64 ((rd_T48 x32_2 x34_2).f1))) (fun _ hk => ⟨hk.1.1, hk.1.2⟩))⟩
              have n2_ : Aside0 (((w47.setCell ⟨gb115, 0, none⟩ (.int .i64 ((rd_T48 x32_2 x34_2).f0))).setCell ⟨gb115, 1, none⟩ (.int .i64 ((rd_T48 x32_2 x34_2).f1))).heap[gb106]? = some (.cells #[.slice none 0 0] 30 (0, 0))) := ⟨bF BK106⟩
              have n3_ : Aside0 (((w47.setCell ⟨gb115, 0, none⟩ (.int .i64 ((rd_T48 x32_2 x34_2).f0))).setCell ⟨gb115, 1, none⟩ (.int .i64 ((rd_T48 x32_2 x34_2).f1))).heap[gb115]? = some (.cells #[.int .i64 ((rd_T48 x32_2 x34_2).f0), .int .i64 ((rd_T48 x32_2 x34_2).f1)] 48 (0, 0))) := ⟨by (with_reducible repeat (first | refine blk_drewN ?_ _ | refine blk_drew ?_ | refine blk_alloc ?_ _)); refine blk_put (cs := #[.int .i64 ((rd_T48 x32_2 x34_2).f0), .int .i64 0]) ?_ 1 _ rfl; (with_reducible repeat (first | refine blk_drewN ?_ _ | refine blk_drew ?_ | refine blk_alloc ?_ _)); refine blk_put (cs := #[.int .i64 0, .int .i64 0]) ?_ 0 _ rfl; (with_reducible repeat (first | refine blk_drewN ?_ _ | refine blk_drew ?_ | refine blk_alloc ?_ _)); exact BK115.out⟩
              have n4_ : Aside0 (Below w.heap.size w ((w47.setCell ⟨gb115, 0, none⟩ (.int .i64 ((rd_T48 x32_2 x34_2).f0))).setCell ⟨gb115, 1, none⟩ (.int .i64 ((rd_T48 x32_2 x34_2).f1)))) := ⟨lU HB⟩
              (try clear HO_6)
              (try clear HO_32)
              (try clear BK106)
              (try clear BK115)
              (try clear HB)
              generalize ((w47.setCell ⟨gb115, 0, none⟩ (.int .i64 ((rd_T48 x32_2 x34_2).f0))).setCell ⟨gb115, 1, none⟩ (.int .i64 ((rd_T48 x32_2 x34_2).f1))) = w51 at n0_ n1_ n2_ n3_ n4_ ⊢
              have HO_6 := n0_
              have HO_32 := n1_
              have BK106 := n2_
              have BK115 := n3_
              have HB := n4_
              clear n0_ n1_ n2_ n3_ n4_
              replace HO_6 := Aside0.mk (Kd.R_drew HO_6.out)
              replace HO_32 := Aside0.mk (Kd.R_drew HO_32.out)
              replace BK106 := Aside0.mk (blk_drew BK106.out)
              replace BK115 := Aside0.mk (blk_drew BK115.out)
              replace HB := Aside0.mk (below_drew1 HB.out)
              have p116 : 0 ≤ ((ji32) : Int) := of_decide_eq_true (by first | (with_reducible assumption) | assumption)
              have q116 : (ji32) < (x6_2.length : Int) := of_decide_eq_true (by first | (with_reducible assumption) | assumption)
              obtain ⟨ad116, e116, hx116_0, hx116_1⟩ := at_T48 (rC HO_6) (ji32) p116 q116
              cases e116
              replace p116 := eq_true p116
              replace q116 := eq_true q116
              refine start_ (n := 12) (S := fun w' => w'.cell? ⟨gb115, 0, none⟩ = some (.int .i64 ((rd_T48 x32_2 x34_2).f0)) ∧ w'.cell? ⟨gb115, 1, none⟩ = some (.int .i64 ((rd_T48 x32_2 x34_2).f1)) ∧ w'.cell? (ad116.add (((ji32)).toNat * 2)) = some (.int .i64 ((rd_T48 x6_2 (ji32)).f0)) ∧ w'.cell? ⟨(ad116.add (((ji32)).toNat * 2)).block, (ad116.add (((ji32)).toNat * 2)).off + 1, none⟩ = some (.int .i64 ((rd_T48 x6_2 (ji32)).f1))) (ds := []) #[false, false, false, false, false, false, false, false, false, false, false, false] (by kernel_rfl) rfl rfl ⟨(blk_cell BK115.out 0).trans rfl, (blk_cell BK115.out 1).trans rfl, hx116_0, hx116_1⟩ (fun hHeld => ?_); refine with_tabW ranges_Of.tab14 ranges_Of.bits14 (fun HT_ HW_ => ?_)
              generalize w51.drew = w52 at HO_6 HO_32 BK106 BK115 HB hx116_0 hx116_1 hHeld ⊢
              refine pS (i := 0) (N := some 41) (ma 12 1) rfl rfl HT_.out ?_
              refine pS (i := 1) (N := some 42) (ma 12 3) rfl rfl HT_.out ?_
              refine pS (i := 2) (N := some 43) (ma 12 7) rfl rfl HT_.out ?_
              refine pS (i := 3) (N := some 44) (ma 12 15) rfl rfl HT_.out ?_
              refine pS (i := 5) (N := some 46) (ma 12 47) rfl rfl HT_.out ?_
              refine pS (i := 6) (N := some 47) (ma 12 111) rfl rfl HT_.out ?_
              refine pS (i := 7) (N := some 48) (ma 12 239) rfl rfl HT_.out ?_
              refine pS (i := 8) (N := some 49) (ma 12 495) rfl rfl HT_.out ?_
              refine tS (i := 4) (N := some 45) (ma 12 511) rfl rfl HT_.out HW_.out hHeld ?_
              refine tS (i := 9) (N := some 50) (ma 12 1023) rfl rfl HT_.out HW_.out hHeld ?_
              refine pS (i := 10) (N := some 51) (ma 12 2047) rfl rfl HT_.out ?_
              refine pS (i := 11) (N := some 52) (ma 12 4095) rfl rfl HT_.out ?_
              refine done_ (done_of HT_.out (by kernel_rfl)) ?_
              obtain ⟨hcz53_0, hcz53_1⟩ := q2 BK115
              obtain ⟨hfz53_0, hfz53_1⟩ := z2 BK115
              try go_wp2_with (first | ((with_reducible refine gate_builtin (b := .append) (xs := #[.tmp 65, .tmp 67]) rfl ?_); at_builtin; refine Kd.R_append k48 (w0 := w) w.heap.size rfl (.tmp 65) (.tmp 67) 22 48 (.agg #[(.int .i64 0), (.int .i64 0)]) 16 rfl Try.underlying22 info48 rfl (by decide) (by omega) (.slice (some ad116) x6_2.length co50) x6_2 (⟨(rd_T48 x32_2 x34_2).f0, (rd_T48 x32_2 x34_2).f1⟩ : S48) [.int .i64 ((rd_T48 x32_2 x34_2).f0), .int .i64 ((rd_T48 x32_2 x34_2).f1)] (fun k_ => some k_ ≠ (.slice (some ad114) x32_2.length co26 : Value).ownBlock ∧ k_ ≠ gb115) (fun _ => False) rfl rfl ?aP (fun _ hk => hk.elim) ?aF ?aO ?aB ?aS ?aL ?_; (case aP => exact k48_mkM _ _ _ (⟨(rd_T48 x32_2 x34_2).f0, (rd_T48 x32_2 x34_2).f1⟩ : S48)); (case aB => exact (lU HB)); (case aF => exact (fun k_ hk => ⟨Kd.fresh' (Kd.R_lt (rU HO_32.out)) k_ hk, Kd.freshB (g := gb115) (o := .cells #[.int .i64 ((rd_T48 x32_2 x34_2).f0), .int .i64 ((rd_T48 x32_2 x34_2).f1)] 48 (0, 0)) (bU BK115) k_ hk⟩)); (case aO => exact (rU HO_6.out)); (case aS => exact (below_size (lU HB))); (case aL => have := LMc46.out; omega); intro v120 w54 ho hb hg hat; rw [← Ny119.out] at ho; have HO121 := Aside0.mk (ho); replace HO_32 := Aside0.mk (Kd.R_after (ok := (fun k_ => k_ ≠ gb115)) (rU (Kd.R_mono HO_32.out (fun _ hk => ⟨hk.2, hk.1⟩))) hg hat); replace BK106 := Aside0.mk (blk_grown (g := gb106) (o := .cells #[.slice none 0 0] 30 (0, 0)) (bU BK106) hg (Kd.R_ne HO_6.out BK106.out (by decide))); replace BK115 := Aside0.mk (blk_grown (g := gb115) (o := .cells #[.int .i64 ((rd_T48 x32_2 x34_2).f0), .int .i64 ((rd_T48 x32_2 x34_2).f1)] 48 (0, 0)) (bU BK115) hg (Kd.R_away HO_6.out (fun _ hk => hk.2))); replace HB := Aside0.mk (hb); clear HO_6; clear ho hb hg hat))
              (try simp only [← hl32_2])
              go_roundg k2
              case measure => have := HK1.out; have := HK2.out; omega
              case rel => exact ⟨(y119), (x32_2), (wrap64 (x34_2 + 1)), eR, H', ⟨by have := HK1.out; have := HK2.out; omega⟩, ⟨by (try simp only [hl32_2]); (with_reducible repeat (first | apply Kd.R_alloc | apply Kd.R_drewN | apply Kd.R_drew)); exact Kd.R_mono HO121.out (fun _ hk => hk.1)⟩, ⟨by (try simp only [hl32_2]); (with_reducible repeat (first | apply Kd.R_alloc | apply Kd.R_drewN | apply Kd.R_drew)); exact Kd.R_mono HO_32.out (fun _ hk => hk.2)⟩, ⟨by (try simp only [hl32_2]); (with_reducible repeat (first | refine blk_drewN ?_ _ | refine blk_drew ?_ | refine blk_alloc ?_ _)); exact BK106.out⟩, ⟨lU HB⟩⟩
             ·rw [if_neg c46] at H
              exact absurd H (by simp)
           ·rw [if_neg c34] at H
            exact absurd H (by simp)
          ·rw [if_neg c33] at H
           exact absurd H (by simp)
         ·rw [if_neg c31] at H
          have c31b0 : decide (0 ≤ (wrap64 ((x6_2.length : Int) - 1))) = false := decide_eq_false c31
          clear c31
          by_cases c55 : x6_2.length < 8796093022208
          ·rw [if_pos c55] at H
           have LMc55 := Aside0.mk c55
           clear c55
           obtain ⟨y122, hy122⟩ : ∃ y_ : List (S48), y_ = (x6_2 ++ [(⟨(rd_T48 x32_2 x34_2).f0, (rd_T48 x32_2 x34_2).f1⟩ : S48)]) := ⟨_, rfl⟩
           replace H : (ranges_Of.l1 k2 y122 x32_2 (x3_1.length : Int) (wrap64 (x34_2 + 1))) = some r := by first | (rw [hy122]; with_reducible exact H) | (have H2_ := (Option.bind_some _ _).symm.trans H; rw [hy122]; with_reducible exact H2_) | (have H2_ := (Option.bind_some _ _).symm.trans H; with_reducible exact H2_) | with_reducible exact H | (rw [hy122]; exact H) | exact H
           have Ny122 := Aside0.mk hy122
           clear hy122
           have H' := Aside0.mk H
           clear H
           have p114 : 0 ≤ (x34_2 : Int) := of_decide_eq_true (by first | (with_reducible assumption) | assumption)
           have q114 : x34_2 < (x32_2.length : Int) := of_decide_eq_true (by first | (with_reducible assumption) | assumption)
           obtain ⟨ad114, e114, hx114_0, hx114_1⟩ := at_T48 (rC HO_32) x34_2 p114 q114
           cases e114
           replace p114 := eq_true p114
           replace q114 := eq_true q114
           try go_wp2_with (first | ((with_reducible refine gate_dst (N := 8) rfl ?_); refine bX (N := 8) (cs := #[.int .i64 0, .int .i64 0]) (t := 48) ?_; intro gb115 hg w56 hbox hb; have BK115 := Aside0.mk (hbox); have GE115 := sG HB hg; have NB106_115 := sN BK106 hg; have NB115_106 := sM BK106 hg; replace HO_6 := Aside0.mk (Kd.R_below (Kd.R_elderB (rU HO_6.out) gb115 (Nat.le_of_eq hg.symm)) hb); replace HO_32 := Aside0.mk (Kd.R_below (Kd.R_elderB (rU HO_32.out) gb115 (Nat.le_of_eq hg.symm)) hb); replace BK106 := sB BK106 hb; replace HB := sL HB hb; clear hb hbox hg; have hnb57 := NB115_106.out; have hnc57 := NB106_115.out; obtain ⟨hcz58_0, hcz58_1⟩ := q2 BK115; obtain ⟨hfz58_0, hfz58_1⟩ := z2 BK115; obtain ⟨Ao59, co59, eo59⟩ := Kd.R_slice HO_6.out; subst eo59))
           have n0_ : Aside0 (Kd.R k48 48 ((w56.setCell ⟨gb115, 0, none⟩ (.int .i64 ((rd_T48 x32_2 x34_2).f0))).setCell ⟨gb115, 1, none⟩ (.int .i64 ((rd_T48 x32_2 x34_2).f1))) w.heap.size (fun k_ => some k_ ≠ (.slice (some ad114) x32_2.length co26 : Value).ownBlock ∧ k_ ≠ gb115) (.slice Ao59 x6_2.length co59) x6_2) := ⟨rU (Kd.R_mono (Kd.R_far (p := ⟨gb115, 1, none⟩) (Kd.R_far (p := ⟨gb115, 0, none⟩) (Kd.R_mono HO_6.out (fun k_ hk => (⟨hk, hk.2⟩ : _ ∧ k_ ≠ gb115))) (fun _ hk => hk.2) (.int .i64 ((rd_T48 x32_2 x34_2).f0))) (fun _ hk => hk.2) (.int .i64 ((rd_T48 x32_2 x34_2).f1))) (fun _ hk => ⟨hk.1.1, hk.1.2⟩))⟩
           have n1_ : Aside0 (Kd.R k48 48 ((w56.setCell ⟨gb115, 0, none⟩ (.int .i64 ((rd_T48 x32_2 x34_2).f0))).setCell ⟨gb115, 1, none⟩ (.int .i64 ((rd_T48 x32_2 x34_2).f1))) w.heap.size (fun k_ => some k_ ≠ (.slice Ao59 x6_2.length co59 : Value).ownBlock ∧ k_ ≠ gb115) (.slice (some ad114) x32_2.length co26) x32_2) := ⟨rU (Kd.R_mono (Kd.R_far (p := ⟨gb115, 1, none⟩) (Kd.R_far (p := ⟨gb115, 0, none⟩) (Kd.R_mono HO_32.out (fun k_ hk => (⟨hk, hk.2⟩ : _ ∧ k_ ≠ gb115))) (fun _ hk => hk.2) (.int .i64 ((rd_T48 x32_2 x34_2).f0))) (fun _ hk => hk.2) (.int .i64 ((rd_T48 x32_2 x34_2).f1))) (fun _ hk => ⟨hk.1.1, hk.1.2⟩))⟩
           have n2_ : Aside0 (((w56.setCell ⟨gb115, 0, none⟩ (.int .i64 ((rd_T48 x32_2 x34_2).f0))).setCell ⟨gb115, 1, none⟩ (.int .i64 ((rd_T48 x32_2 x34_2).f1))).heap[gb106]? = some (.cells #[.slice none 0 0] 30 (0, 0))) := ⟨bF BK106⟩
           have n3_ : Aside0 (((w56.setCell ⟨gb115, 0, none⟩ (.int .i64 ((rd_T48 x32_2 x34_2).f0))).setCell ⟨gb115, 1, none⟩ (.int .i64 ((rd_T48 x32_2 x34_2).f1))).heap[gb115]? = some (.cells #[.int .i64 ((rd_T48 x32_2 x34_2).f0), .int .i64 ((rd_T48 x32_2 x34_2).f1)] 48 (0, 0))) := ⟨by (with_reducible repeat (first | refine blk_drewN ?_ _ | refine blk_drew ?_ | refine blk_alloc ?_ _)); refine blk_put (cs := #[.int .i64 ((rd_T48 x32_2 x34_2).f0), .int .i64 0]) ?_ 1 _ rfl; (with_reducible repeat (first | refine blk_drewN ?_ _ | refine blk_drew ?_ | refine blk_alloc ?_ _)); refine blk_put (cs := #[.int .i64 0, .int .i64 0]) ?_ 0 _ rfl; (with_reducible repeat (first | refine blk_drewN ?_ _ | refine blk_drew ?_ | refine blk_alloc ?_ _)); exact BK115.out⟩
           have n4_ : Aside0 (Below w.heap.size w ((w56.setCell ⟨gb115, 0, none⟩ (.int .i64 ((rd_T48 x32_2 x34_2).f0))).setCell ⟨gb115, 1, none⟩ (.int .i64 ((rd_T48 x32_2 x34_2).f1)))) := ⟨lU HB⟩
           (try clear HO_6)
           (try clear HO_32)
           (try clear BK106)
           (try clear BK115)
           (try clear HB)
           generalize ((w56.setCell ⟨gb115, 0, none⟩ (.int .i64 ((rd_T48 x32_2 x34_2).f0))).setCell ⟨gb115, 1, none⟩ (.int .i64 ((rd_T48 x32_2 x34_2).f1))) = w60 at n0_ n1_ n2_ n3_ n4_ ⊢
           have HO_6 := n0_
           have HO_32 := n1_
           have BK106 := n2_
           have BK115 := n3_
           have HB := n4_
           clear n0_ n1_ n2_ n3_ n4_
           replace HO_6 := Aside0.mk (Kd.R_drew HO_6.out)
           replace HO_32 := Aside0.mk (Kd.R_drew HO_32.out)
           replace BK106 := Aside0.mk (blk_drew BK106.out)
           replace BK115 := Aside0.mk (blk_drew BK115.out)
           replace HB := Aside0.mk (below_drew1 HB.out)
           refine start_ (n := 12) (S := fun w' => True) (ds := []) #[false, false, false, false, false, false, false, false, false, false, false, false] (by kernel_rfl) rfl rfl trivial (fun hHeld => ?_); refine with_tabW ranges_Of.tab14 ranges_Of.bits14 (fun HT_ HW_ => ?_)
           generalize w60.drew = w61 at HO_6 HO_32 BK106 BK115 HB hHeld ⊢
           refine pS (i := 0) (N := some 41) (ma 12 1) rfl rfl HT_.out ?_
           refine pS (i := 1) (N := some 42) (ma 12 3) rfl rfl HT_.out ?_
           refine pS (i := 2) (N := some 43) (ma 12 7) rfl rfl HT_.out ?_
           refine pU (i := 3) (N := some 44) (ma 12 15) rfl rfl HT_.out ?_
           refine pU (i := 4) (N := some 45) (ma 12 31) rfl rfl HT_.out ?_
           refine pU (i := 5) (N := some 46) (ma 12 63) rfl rfl HT_.out ?_
           refine pU (i := 6) (N := some 47) (ma 12 127) rfl rfl HT_.out ?_
           refine pU (i := 7) (N := some 48) (ma 12 255) rfl rfl HT_.out ?_
           refine pU (i := 8) (N := some 49) (ma 12 511) rfl rfl HT_.out ?_
           refine pU (i := 9) (N := some 50) (ma 12 1023) rfl rfl HT_.out ?_
           refine pU (i := 10) (N := some 51) (ma 12 2047) rfl rfl HT_.out ?_
           refine pS (i := 11) (N := some 52) (ma 12 4095) rfl rfl HT_.out ?_
           refine done_ (done_of HT_.out (by kernel_rfl)) ?_
           obtain ⟨hcz62_0, hcz62_1⟩ := q2 BK115
           obtain ⟨hfz62_0, hfz62_1⟩ := z2 BK115
           try go_wp2_with (first | ((with_reducible refine gate_builtin (b := .append) (xs := #[.tmp 65, .tmp 67]) rfl ?_); at_builtin; refine Kd.R_append k48 (w0 := w) w.heap.size rfl (.tmp 65) (.tmp 67) 22 48 (.agg #[(.int .i64 0), (.int .i64 0)]) 16 rfl Try.underlying22 info48 rfl (by decide) (by omega) (.slice Ao59 x6_2.length co59) x6_2 (⟨(rd_T48 x32_2 x34_2).f0, (rd_T48 x32_2 x34_2).f1⟩ : S48) [.int .i64 ((rd_T48 x32_2 x34_2).f0), .int .i64 ((rd_T48 x32_2 x34_2).f1)] (fun k_ => some k_ ≠ (.slice (some ad114) x32_2.length co26 : Value).ownBlock ∧ k_ ≠ gb115) (fun _ => False) rfl rfl ?aP (fun _ hk => hk.elim) ?aF ?aO ?aB ?aS ?aL ?_; (case aP => exact k48_mkM _ _ _ (⟨(rd_T48 x32_2 x34_2).f0, (rd_T48 x32_2 x34_2).f1⟩ : S48)); (case aB => exact (lU HB)); (case aF => exact (fun k_ hk => ⟨Kd.fresh' (Kd.R_lt (rU HO_32.out)) k_ hk, Kd.freshB (g := gb115) (o := .cells #[.int .i64 ((rd_T48 x32_2 x34_2).f0), .int .i64 ((rd_T48 x32_2 x34_2).f1)] 48 (0, 0)) (bU BK115) k_ hk⟩)); (case aO => exact (rU HO_6.out)); (case aS => exact (below_size (lU HB))); (case aL => have := LMc55.out; omega); intro v123 w63 ho hb hg hat; rw [← Ny122.out] at ho; have HO124 := Aside0.mk (ho); replace HO_32 := Aside0.mk (Kd.R_after (ok := (fun k_ => k_ ≠ gb115)) (rU (Kd.R_mono HO_32.out (fun _ hk => ⟨hk.2, hk.1⟩))) hg hat); replace BK106 := Aside0.mk (blk_grown (g := gb106) (o := .cells #[.slice none 0 0] 30 (0, 0)) (bU BK106) hg (Kd.R_ne HO_6.out BK106.out (by decide))); replace BK115 := Aside0.mk (blk_grown (g := gb115) (o := .cells #[.int .i64 ((rd_T48 x32_2 x34_2).f0), .int .i64 ((rd_T48 x32_2 x34_2).f1)] 48 (0, 0)) (bU BK115) hg (Kd.R_away HO_6.out (fun _ hk => hk.2))); replace HB := Aside0.mk (hb); clear HO_6; clear ho hb hg hat))
           (try simp only [← hl32_2])
           go_roundg k2
           case measure => have := HK1.out; have := HK2.out; omega
           case rel => exact ⟨(y122), (x32_2), (wrap64 (x34_2 + 1)), eR, H', ⟨by have := HK1.out; have := HK2.out; omega⟩, ⟨by (try simp only [hl32_2]); (with_reducible repeat (first | apply Kd.R_alloc | apply Kd.R_drewN | apply Kd.R_drew)); exact Kd.R_mono HO124.out (fun _ hk => hk.1)⟩, ⟨by (try simp only [hl32_2]); (with_reducible repeat (first | apply Kd.R_alloc | apply Kd.R_drewN | apply Kd.R_drew)); exact Kd.R_mono HO_32.out (fun _ hk => hk.2)⟩, ⟨by (try simp only [hl32_2]); (with_reducible repeat (first | refine blk_drewN ?_ _ | refine blk_drew ?_ | refine blk_alloc ?_ _)); exact BK106.out⟩, ⟨lU HB⟩⟩
          ·rw [if_neg c55] at H
           exact absurd H (by simp)
        ·rw [if_neg c30] at H
         exact absurd H (by simp)
       ·rw [if_neg c29] at H
        exact absurd H (by simp)
      ·rw [if_neg c28] at H
       have c28b0 : decide (x34_2 < (x3_1.length : Int)) = false := decide_eq_false c28
       (try simp only [hl32_2] at c28b0)
       clear c28
       obtain rfl := Option.some.inj H
       obtain ⟨Ao64, co64, eo64⟩ := Kd.R_slice HO_6.out
       subst eo64
       have hcz65_0 := q1 BK106
       have hfz65_0 := blk_frozen BK106.out 0
       go_wp2
       refine bodyPost_ret (results_cell_row rfl _ _ gb106 30 #[.slice Ao64 x6_2.length co64] (0, 0) _ rfl (by (with_reducible repeat (first | refine blk_drewN ?_ _ | refine blk_drew ?_ | refine blk_alloc ?_ _)); refine blk_put (cs := #[.slice none 0 0]) ?_ 0 _ rfl; (with_reducible repeat (first | refine blk_drewN ?_ _ | refine blk_drew ?_ | refine blk_alloc ?_ _)); exact BK106.out) Try.underlying30 rfl (by kernel_rfl)) rfl ?_
       exact ⟨_, eW, by (with_reducible repeat (first | apply Kd.R_alloc | apply Kd.R_drewN | apply Kd.R_drew)); exact Kd.R_mono (Kd.R_far (p := ⟨gb106, 0, none⟩) (Kd.R_types HO_6.out BK106.out (by decide)) (fun _ hk => hk.2) (.slice Ao64 x6_2.length co64)) (fun _ hk => trivial), lU HB⟩
end Go.Proofs.Ytnaalaakhdbfbaa.XP
