-- Go functions as plain functions, and that the code comes to these answers (printed by a program).
import Derived.Test.YtnaalaakhdbfbaaV4XP0
import Derived.Test.YtnaalaakhdbfbaaV4XP2
import Derived.Test.YtnaalaakhdbfbaaV4XP3
import Derived.Test.YtnaalaakhdbfbaaV4XP5
import Derived.Test.YtnaalaakhdbfbaaV4XP6
namespace Go.Proofs.Ytnaalaakhdbfbaa.XP
open Go.RowKit Go.Proofs.YtnaalaakhdbfbaaW.PrintWords Go.Proofs.YtnaalaakhdbfbaaW.PrintLast Go.Proofs.YtnaalaakhdbfbaaW.PrintMore
attribute [local go_sem] max2_int min2_int max_two min_two max_three min_three max_four min_four
set_option linter.unusedVariables false
set_option linter.unusedSimpArgs false
mutual
def plan_Units.j0 : Nat → Int → Int → Bool → List (S48) → Option ((List (S48)))
 | 0, _, _, _, _ => none
 | k + 1, x1, x2, x20, x152000 => if x20 = true then (some ([] : List (S48))) else ((plan_object.f x1).bind fun bt155 => ((ranges_Of.f k (([(⟨bt155.1, bt155.2⟩ : S48)] : List (S48)))).bind fun t161 => ((ranges_Set_And.f k x152000 t161).bind fun t164 => ((ranges_Set_Spans.f t164).bind fun t167 => (plan_Units.l0 k x2 ([] : List (S48)) t167 (t167.length : Int) 0 bt155.1 bt155.2)))))
def plan_Units.l0 : Nat → Int → List (S48) → List (S48) → Int → Int → Int → Int → Option ((List (S48)))
 | 0, _, _, _, _, _, _, _ => none
 | k + 1, x2, x8, x29, x30, x31, x158000, x158001 => if x31 < x30 then (if 0 ≤ x31 then (if x31 < (x29.length : Int) then ((span_Align.f k ((rd_T48 x29 x31).f0) ((rd_T48 x29 x31).f1) x2).bind fun bt172 => (if x8.length < 8796093022208 then (plan_Units.l0 k x2 (x8 ++ [(⟨bt172.1, mn bt172.2.1 x158001⟩ : S48)]) x29 x30 (wrap64 (x31 + 1)) x158000 x158001) else (none))) else (none)) else (none)) else ((ranges_Of.f k x8).bind fun t179 => (some t179))
end
def plan_Units.f (k : Nat) (l0_0 : List (S48)) (a1 : Int) (a2 : Int) : Option ((List (S48))) := (plan_unitMay.f a2).bind fun t153 => (if t153 = true then ((plan_lengthMay.f a1).bind fun t154 => (plan_Units.j0 k a1 a2 (!t154) l0_0)) else (plan_Units.j0 k a1 a2 true l0_0))
theorem plan_Units.mono_l : ∀ k, (∀ y0 y1 y2 y3, LeO (plan_Units.j0 k y0 y1 y2 y3) (plan_Units.j0 (k + 1) y0 y1 y2 y3)) ∧ (∀ y0 y1 y2 y3 y4 y5 y6, LeO (plan_Units.l0 k y0 y1 y2 y3 y4 y5 y6) (plan_Units.l0 (k + 1) y0 y1 y2 y3 y4 y5 y6))
 | 0 => ⟨fun _ _ _ _ r h => by simp [plan_Units.j0] at h, fun _ _ _ _ _ _ _ r h => by simp [plan_Units.l0] at h⟩
 | k + 1 => by
  obtain ⟨ih0, ih1⟩ := plan_Units.mono_l k
  refine ⟨?_, ?_⟩
  ·intro y0 y1 y2 y3
   unfold plan_Units.j0
   repeat' first
   | with_reducible apply ih0
   | with_reducible apply ih1
   | with_reducible apply ranges_Of.mono
   | with_reducible apply ranges_Set_And.mono
   | with_reducible apply span_Align.mono
   | with_reducible apply LeO.refl
   | with_reducible apply LeO.none
   | with_reducible refine LeO.ite ?_ ?_
   | with_reducible refine LeO.bind ?_ (fun _ => ?_)
  ·intro y0 y1 y2 y3 y4 y5 y6
   unfold plan_Units.l0
   repeat' first
   | with_reducible apply ih0
   | with_reducible apply ih1
   | with_reducible apply ranges_Of.mono
   | with_reducible apply ranges_Set_And.mono
   | with_reducible apply span_Align.mono
   | with_reducible apply LeO.refl
   | with_reducible apply LeO.none
   | with_reducible refine LeO.ite ?_ ?_
   | with_reducible refine LeO.bind ?_ (fun _ => ?_)
theorem plan_Units.mono : ∀ a0 a1 a2 k, LeO (plan_Units.f k a0 a1 a2) (plan_Units.f (k + 1) a0 a1 a2) := by
 intro a0 a1 a2 k
 obtain ⟨ih0, ih1⟩ := plan_Units.mono_l k
 unfold plan_Units.f
 repeat' first
   | with_reducible apply ih0
   | with_reducible apply ih1
   | with_reducible apply ranges_Of.mono
   | with_reducible apply ranges_Set_And.mono
   | with_reducible apply span_Align.mono
   | with_reducible apply LeO.refl
   | with_reducible apply LeO.none
   | with_reducible refine LeO.ite ?_ ?_
   | with_reducible refine LeO.bind ?_ (fun _ => ?_)
def plan_Units.T5 : Bool × List (List Nat × List Nat) := (true, [([], []), ([], []), ([1], [1]), ([2], [2]), ([0, 3, 3], [0, 3]), ([4, 4], [4]), ([5], [5]), ([], [])])
def plan_Units.B5 : List Nat := [0, 0, 2, 6, 15, 31, 63, 0]
theorem plan_Units.tab5 : rtab .any (opsOf Try.f20 5) = plan_Units.T5 := by kernel_rfl
theorem plan_Units.bits5 : waitsOk plan_Units.T5.2 plan_Units.B5 = true := by kernel_rfl
set_option maxHeartbeats 8000000 in
set_option maxRecDepth 100000 in
theorem plan_Units.calls (k : Nat) (A0_0 : Option Addr) (c0_0 : Nat) (l0_0 : List (S48)) (a1 : Int) (a2 : Int) (r : List (S48)) (w : World) (hr0_0 : Kd.C k48 w A0_0 l0_0.length l0_0) (hc0_0 : l0_0.length ≤ c0_0) (h : plan_Units.f k l0_0 a1 a2 = some r) :
  Calls Try.prog 20 #[.agg #[.slice A0_0 l0_0.length c0_0], .int .i64 a1, .int .i64 a2] w fun e w' => ∃ v0_ : Value, e = .returned (.agg #[v0_]) ∧ Kd.R k48 48 w' w.heap.size (fun _ => True) v0_ r ∧ Below w.heap.size w w' := by
 have hu30 := Try.underlying30
 have hu48 := Try.underlying48
 have HR0_0 := Aside0.mk hr0_0
 have HC0_0 := Aside0.mk hc0_0
 clear hr0_0 hc0_0
 have HB := Aside0.mk (Below.refl w.heap.size w)
 unfold plan_Units.f at h
 have H := h
 clear h
 have HC4 := Aside0.mk H
 clear H
 go_enter Try.func20, Try.ntmps20
 go_upto_region 1 with (first | ((with_reducible refine gate_dst (N := 3) rfl ?_); refine bX (N := 3) (cs := #[.slice A0_0 l0_0.length c0_0]) (t := 30) ?_; intro gb151 hg w5 hbox hb; have BK151 := Aside0.mk (hbox); have GE151 := sG HB hg; replace HB := sL HB hb; clear hb hbox hg) | ((with_reducible refine gate_dst (N := 6) rfl ?_); refine bX (N := 6) (cs := #[.slice none 0 0]) (t := 30) ?_; intro gb152 hg w6 hbox hb; have BK152 := Aside0.mk (hbox); have GE152 := sG HB hg; have NB151_152 := sN BK151 hg; have NB152_151 := sM BK151 hg; replace BK151 := sB BK151 hb; replace HB := sL HB hb; clear hb hbox hg))
 (try simp only [Act.put, List.setIfInBounds_toArray, List.set_cons_zero, List.set_cons_succ])
 go_cut [20] (fun v20 wc => ∃ (kq : Nat) (x20_3 : Bool), v20 = .bool x20_3 ∧ Aside0 (plan_Units.j0 kq a1 a2 x20_3 l0_0 = some r) ∧ Aside0 (kq ≤ k) ∧ Aside0 (wc.heap[gb151]? = some (.cells #[(.slice A0_0 l0_0.length c0_0)] 30 (0, 0))) ∧ Aside0 (wc.heap[gb152]? = some (.cells #[(.slice none 0 0)] 30 (0, 0))) ∧ Aside0 (Below w.heap.size w wc))
 case first =>
  have H := HC4.out
  clear HC4
  obtain ⟨t153, A7, H⟩ := bO H
  by_cases c8 : t153 = true
  ·subst c8
   rw [if_pos rfl] at H
   obtain ⟨t154, A9, H⟩ := bO H
   have H' := Aside0.mk H
   clear H
   go_wp2_with (first | ((with_reducible refine gate_callee (f := 44) rfl ?_); refine gL (some 14) rfl rfl Try.func44 #[.int .i64 a2] rfl ?_; (with_reducible refine (plan_unitMay.calls a2 true _ A7.out).mono ?_); rintro e w' ⟨rfl, ⟨nd, rfl⟩⟩; refine ⟨_, rfl, ?_⟩) | (go_at_call 45; (with_reducible refine (plan_lengthMay.calls a1 t154 _ A9.out).mono ?_); rintro e w' ⟨rfl, ⟨nd, rfl⟩⟩))
   go_meet
   case rel => exact ⟨_, (!t154), eR, H', ⟨by first | omega | exact Nat.le_refl _⟩, ⟨bU BK151⟩, ⟨bU BK152⟩, ⟨lU HB⟩⟩
  ·replace c8 := Bool.eq_false_iff.mpr c8
   subst c8
   rw [if_neg (show ¬ (false = true) by decide)] at H
   have H' := Aside0.mk H
   clear H
   go_wp2_with (first | ((with_reducible refine gate_callee (f := 44) rfl ?_); refine gL (some 14) rfl rfl Try.func44 #[.int .i64 a2] rfl ?_; (with_reducible refine (plan_unitMay.calls a2 false _ A7.out).mono ?_); rintro e w' ⟨rfl, ⟨nd, rfl⟩⟩; refine ⟨_, rfl, ?_⟩))
   go_meet
   case rel => exact ⟨_, (true), eR, H', ⟨by first | omega | exact Nat.le_refl _⟩, ⟨bU BK151⟩, ⟨bU BK152⟩, ⟨lU HB⟩⟩
 case rest =>
  clear HC4
  try clear c2
  try clear p2
  try clear c4
  try clear c8
  obtain ⟨kq, x20_3, rfl, HA, HJ3, BK151, BK152, HB⟩ := hcut
  cases kq with
  | zero => exact absurd HA.out (by simp [plan_Units.j0])
  | succ kj3 =>
   have H := HA.out
   clear HA
   simp only [plan_Units.j0] at H
   by_cases c10 : x20_3 = true
   ·subst c10
    rw [if_pos rfl] at H
    obtain rfl := Option.some.inj H
    have hnb11 := NB152_151.out
    have hnc11 := NB151_152.out
    have hcz12_0 := q1 BK152
    have hfz12_0 := blk_frozen BK152.out 0
    go_wp2
    refine bodyPost_ret (results_cell_row rfl _ _ gb152 30 #[.slice none 0 0] (0, 0) _ rfl (by (with_reducible repeat (first | refine blk_drewN ?_ _ | refine blk_drew ?_ | refine blk_alloc ?_ _)); refine blk_put (cs := #[.slice none 0 0]) ?_ 0 _ rfl; (with_reducible repeat (first | refine blk_drewN ?_ _ | refine blk_drew ?_ | refine blk_alloc ?_ _)); exact BK152.out) Try.underlying30 rfl (by kernel_rfl)) rfl ?_
    exact ⟨_, eW, by first | exact Kd.R_nil _ _ _ _ _ | exact Kd.N_nil _ _ _ _ _ | exact Kd.V_nil _ _ _ _ _ | exact Kd.Q_nil _ _ _ _ _ | exact Kd.S_nil _ _ _ _ _, lU HB⟩
   ·replace c10 := Bool.eq_false_iff.mpr c10
    subst c10
    rw [if_neg (show ¬ (false = true) by decide)] at H
    replace H := Option.bind_eq_some_iff.mp H
    obtain ⟨⟨t155, t156⟩, A130, H⟩ := H
    dsimp only at H
    have A13 := Aside0.mk A130
    clear A130
    obtain ⟨y158, hy158⟩ : ∃ y_ : List (S48), y_ = (([(⟨t155, t156⟩ : S48)] : List (S48))) := ⟨_, rfl⟩
    replace H : ((ranges_Of.f kj3 y158).bind fun t161 => ((ranges_Set_And.f kj3 l0_0 t161).bind fun t164 => ((ranges_Set_Spans.f t164).bind fun t167 => (plan_Units.l0 kj3 a2 ([] : List (S48)) t167 (t167.length : Int) 0 t155 t156)))) = some r := by first | (rw [hy158]; with_reducible exact H) | (have H2_ := (Option.bind_some _ _).symm.trans H; rw [hy158]; with_reducible exact H2_) | (have H2_ := (Option.bind_some _ _).symm.trans H; with_reducible exact H2_) | with_reducible exact H | (rw [hy158]; exact H) | exact H
    have Ny158 := Aside0.mk hy158
    clear hy158
    obtain ⟨t161, A14, H⟩ := bO H
    obtain ⟨t164, A15, H⟩ := bO H
    obtain ⟨t167, A16, H⟩ := bO H
    have H' := Aside0.mk H
    clear H
    try go_wp2_with (first | ((with_reducible refine gate_callee (f := 46) rfl ?_); refine gL (some 23) rfl rfl Try.func46 #[.int .i64 a1] rfl ?_; (with_reducible refine (plan_object.calls a1 t155 t156 _ A13.out).mono ?_); rintro e w17 ⟨rfl, hb⟩; refine ⟨_, rfl, ?_⟩; replace BK151 := sB BK151 hb; replace BK152 := sB BK152 hb; replace HB := sL HB hb; (try clear hb); (try clear hb2); (try clear hk); (try clear hi)) | ((with_reducible refine gate_dst (N := 7) rfl ?_); refine bX (N := 7) (cs := #[.int .i64 0, .int .i64 0]) (t := 48) ?_; intro gb157 hg w18 hbox hb; have BK157 := Aside0.mk (hbox); have GE157 := sG HB hg; have NB151_157 := sN BK151 hg; have NB157_151 := sM BK151 hg; have NB152_157 := sN BK152 hg; have NB157_152 := sM BK152 hg; replace BK151 := sB BK151 hb; replace BK152 := sB BK152 hb; replace HB := sL HB hb; clear hb hbox hg; have hnb19 := NB157_151.out; have hnc19 := NB151_157.out; have hnb20 := NB157_152.out; have hnc20 := NB152_157.out; obtain ⟨hcz21_0, hcz21_1⟩ := q2 BK157; obtain ⟨hfz21_0, hfz21_1⟩ := z2 BK157))
    have n0_ : Aside0 (((w18.setCell ⟨gb157, 0, none⟩ (.int .i64 t155)).setCell ⟨gb157, 1, none⟩ (.int .i64 t156)).heap[gb151]? = some (.cells #[.slice A0_0 l0_0.length c0_0] 30 (0, 0))) := ⟨bF BK151⟩
    have n1_ : Aside0 (((w18.setCell ⟨gb157, 0, none⟩ (.int .i64 t155)).setCell ⟨gb157, 1, none⟩ (.int .i64 t156)).heap[gb152]? = some (.cells #[.slice none 0 0] 30 (0, 0))) := ⟨bF BK152⟩
    have n2_ : Aside0 (((w18.setCell ⟨gb157, 0, none⟩ (.int .i64 t155)).setCell ⟨gb157, 1, none⟩ (.int .i64 t156)).heap[gb157]? = some (.cells #[.int .i64 t155, .int .i64 t156] 48 (0, 0))) := ⟨by (with_reducible repeat (first | refine blk_drewN ?_ _ | refine blk_drew ?_ | refine blk_alloc ?_ _)); refine blk_put (cs := #[.int .i64 t155, .int .i64 0]) ?_ 1 _ rfl; (with_reducible repeat (first | refine blk_drewN ?_ _ | refine blk_drew ?_ | refine blk_alloc ?_ _)); refine blk_put (cs := #[.int .i64 0, .int .i64 0]) ?_ 0 _ rfl; (with_reducible repeat (first | refine blk_drewN ?_ _ | refine blk_drew ?_ | refine blk_alloc ?_ _)); exact BK157.out⟩
    have n3_ : Aside0 (Below w.heap.size w ((w18.setCell ⟨gb157, 0, none⟩ (.int .i64 t155)).setCell ⟨gb157, 1, none⟩ (.int .i64 t156))) := ⟨lU HB⟩
    (try clear BK151)
    (try clear BK152)
    (try clear BK157)
    (try clear HB)
    generalize ((w18.setCell ⟨gb157, 0, none⟩ (.int .i64 t155)).setCell ⟨gb157, 1, none⟩ (.int .i64 t156)) = w22 at n0_ n1_ n2_ n3_ ⊢
    have BK151 := n0_
    have BK152 := n1_
    have BK157 := n2_
    have HB := n3_
    clear n0_ n1_ n2_ n3_
    replace BK151 := Aside0.mk (blk_drew BK151.out)
    replace BK152 := Aside0.mk (blk_drew BK152.out)
    replace BK157 := Aside0.mk (blk_drew BK157.out)
    replace HB := Aside0.mk (below_drew1 HB.out)
    refine start_ (n := 8) (S := fun w' => w'.cell? ⟨gb151, 0, none⟩ = some (.slice A0_0 l0_0.length c0_0) ∧ w'.cell? ⟨gb157, 0, none⟩ = some (.int .i64 t155) ∧ w'.cell? ⟨gb157, 1, none⟩ = some (.int .i64 t156)) (ds := []) #[false, false, false, false, false, false, false, false] (by kernel_rfl) rfl rfl ⟨(blk_cell BK151.out 0).trans rfl, (blk_cell BK157.out 0).trans rfl, (blk_cell BK157.out 1).trans rfl⟩ (fun hHeld => ?_); refine with_tabW plan_Units.tab5 plan_Units.bits5 (fun HT_ HW_ => ?_)
    generalize w22.drew = w23 at BK151 BK152 BK157 HB hHeld ⊢
    refine pS (i := 7) (N := some 31) (ma 8 128) rfl rfl HT_.out ?_
    refine tS (i := 0) (N := some 24) (ma 8 129) rfl rfl HT_.out HW_.out hHeld ?_
    refine tS (i := 1) (N := some 25) (ma 8 131) rfl rfl HT_.out HW_.out hHeld ?_
    refine one_ (i := 2) (N := some 26) (ma 8 135) rfl rfl (one_of HT_.out (by kernel_rfl)) (by decide) (fun K hK => ?_)
    refine Kd.R_lit_step k48 _ 48 ?hg (N := 26) ?hd (xs := ([(⟨t155, t156⟩ : S48)] : List (S48))) (inner := [.int .i64 t155, .int .i64 t156]) (ok := fun _ => True) (okp := fun _ => True) ?hr ?hp (fun _ hk => hk) trivial (Below.refl _ _) (Nat.le_refl _) (by simp) ?_; (case hd => rfl); (case hg => rfl); (case hr => first | (go_simp; done) | (go_simp; rfl)); (case hp => exact (Reps.c2 (show Kd.M k48 _ _ _ (⟨t155, t156⟩ : S48) [.int .i64 t155, .int .i64 t156] from (k48_mkM _ _ _ (⟨t155, t156⟩ : S48) )) (Reps.none _ _)))
    intro v159 w24 ho25 hb hg_ hnew_
    clear hg_ hnew_
    (first | rw [← Ny158.out] at ho25 | (simp only [Int.reduceToNat] at ho25; rw [← Ny158.out] at ho25))
    have HO160 := Aside0.mk (Kd.R_lower (Kd.R_newB ho25 (g := gb157) (o := .cells #[.int .i64 t155, .int .i64 t156] 48 (0, 0)) (bU BK157)) (below_size (lU HB)))
    replace BK151 := sB BK151 hb
    replace BK152 := sB BK152 hb
    replace BK157 := sB BK157 hb
    replace HB := sL HB hb
    clear hb ho25
    obtain ⟨Ao26, co26, eo26⟩ := Kd.R_slice HO160.out
    (first | subst eo26 | (injection eo26 with f1_ f2_ f3_; have f4_ := f1_.symm; have f5_ := f3_.symm; clear f1_ f2_ f3_; subst f4_; subst f5_))
    refine hK.out _ _ ⟨(blk_cell BK151.out 0).trans rfl, (blk_cell BK157.out 0).trans rfl, (blk_cell BK157.out 1).trans rfl⟩ (fun hHeld => ?_)
    clear hK K
    refine nP (some 26) ?_
    refine one_ (i := 3) (N := some 27) (ma 8 143) rfl rfl (one_of HT_.out (by kernel_rfl)) (by decide) (fun K hK => ?_)
    refine gO Try.func22 #[.slice Ao26 y158.length co26] rfl rfl ?_
    with_reducible refine (ranges_Of.calls kj3 _ _ y158 t161 _ (cU (rC HO160)) (rN HO160) A14.out).mono ?_
    rintro e w27 ⟨v162, rfl, ho0, hb⟩
    refine ⟨_, rfl, ?_⟩
    have HO163 := Aside0.mk (Kd.R_lower (Kd.R_newB (Kd.R_new' ho0 (Kd.R_lt (rU HO160.out))) (g := gb157) (o := .cells #[.int .i64 t155, .int .i64 t156] 48 (0, 0)) (bU BK157)) (below_size (lU HB)))
    replace HO160 := rE HO160 ho0 hb
    replace BK151 := sB BK151 hb
    replace BK152 := sB BK152 hb
    replace BK157 := sB BK157 hb
    replace HB := sL HB hb
    (try clear hb)
    (try clear hb2)
    (try clear hk)
    (try clear hi)
    (try clear ho0)
    obtain ⟨Ao28, co28, eo28⟩ := Kd.R_slice HO163.out
    (first | subst eo28 | (injection eo28 with f1_ f2_ f3_; have f4_ := f1_.symm; have f5_ := f3_.symm; clear f1_ f2_ f3_; subst f4_; subst f5_))
    refine hK.out _ _ ⟨(blk_cell BK151.out 0).trans rfl, (blk_cell BK157.out 0).trans rfl, (blk_cell BK157.out 1).trans rfl⟩ (fun hHeld => ?_)
    clear hK K
    refine nP (some 27) ?_
    refine one_ (i := 4) (N := some 28) (ma 8 159) rfl rfl (one_of HT_.out (by kernel_rfl)) (by decide) (fun K hK => ?_)
    refine gO Try.func25 #[.agg #[.slice A0_0 l0_0.length c0_0], .agg #[.slice Ao28 t161.length co28]] rfl rfl ?_
    with_reducible refine (ranges_Set_And.calls kj3 _ _ l0_0 _ _ t161 t164 _ (cU (Kd.C_below HR0_0.out HB.out)) HC0_0.out (cU (rC HO163)) (rN HO163) A15.out).mono ?_
    rintro e w29 ⟨v165, rfl, ho0, hb⟩
    refine ⟨_, rfl, ?_⟩
    have HO166 := Aside0.mk (Kd.R_lower (Kd.R_newB (Kd.R_new' (Kd.R_new' ho0 (Kd.R_lt (rU HO160.out))) (Kd.R_lt (rU HO163.out))) (g := gb157) (o := .cells #[.int .i64 t155, .int .i64 t156] 48 (0, 0)) (bU BK157)) (below_size (lU HB)))
    replace HO160 := rE HO160 ho0 hb
    replace HO163 := rE HO163 ho0 hb
    replace BK151 := sB BK151 hb
    replace BK152 := sB BK152 hb
    replace BK157 := sB BK157 hb
    replace HB := sL HB hb
    (try clear hb)
    (try clear hb2)
    (try clear hk)
    (try clear hi)
    (try clear ho0)
    obtain ⟨Ao30, co30, eo30⟩ := Kd.R_slice HO166.out
    (first | subst eo30 | (injection eo30 with f1_ f2_ f3_; have f4_ := f1_.symm; have f5_ := f3_.symm; clear f1_ f2_ f3_; subst f4_; subst f5_))
    refine hK.out _ _ ⟨(blk_cell BK151.out 0).trans rfl, (blk_cell BK157.out 0).trans rfl, (blk_cell BK157.out 1).trans rfl⟩ (fun hHeld => ?_)
    clear hK K
    refine nP (some 28) ?_
    refine one_ (i := 5) (N := some 29) (ma 8 191) rfl rfl (one_of HT_.out (by kernel_rfl)) (by decide) (fun K hK => ?_)
    refine gO Try.func21 #[.agg #[.slice Ao30 t164.length co30]] rfl rfl ?_
    with_reducible refine (ranges_Set_Spans.calls _ _ t164 t167 _ (cU (rC HO166)) (rN HO166) A16.out).mono ?_
    rintro e w31 ⟨v168, rfl, ho0, hb⟩
    refine ⟨_, rfl, ?_⟩
    have HO169 := Aside0.mk (Kd.R_lower (Kd.R_newB (Kd.R_new' (Kd.R_new' (Kd.R_new' ho0 (Kd.R_lt (rU HO160.out))) (Kd.R_lt (rU HO163.out))) (Kd.R_lt (rU HO166.out))) (g := gb157) (o := .cells #[.int .i64 t155, .int .i64 t156] 48 (0, 0)) (bU BK157)) (below_size (lU HB)))
    replace HO160 := rE HO160 ho0 hb
    replace HO163 := rE HO163 ho0 hb
    replace HO166 := rE HO166 ho0 hb
    replace BK151 := sB BK151 hb
    replace BK152 := sB BK152 hb
    replace BK157 := sB BK157 hb
    replace HB := sL HB hb
    (try clear hb)
    (try clear hb2)
    (try clear hk)
    (try clear hi)
    (try clear ho0)
    obtain ⟨Ao32, co32, eo32⟩ := Kd.R_slice HO169.out
    (first | subst eo32 | (injection eo32 with f1_ f2_ f3_; have f4_ := f1_.symm; have f5_ := f3_.symm; clear f1_ f2_ f3_; subst f4_; subst f5_))
    refine hK.out _ _ ⟨(blk_cell BK151.out 0).trans rfl, (blk_cell BK157.out 0).trans rfl, (blk_cell BK157.out 1).trans rfl⟩ (fun hHeld => ?_)
    clear hK K
    refine nP (some 29) ?_
    refine pS (i := 6) (N := some 30) (ma 8 255) rfl rfl HT_.out ?_
    refine done_ (done_of HT_.out (by kernel_rfl)) ?_
    try go_wp2
    go_loopg [8, 31] kj3 (fun kq v8 v31 w' => ∃ (x8_2 : List (S48)) (x31_2 : Int), v31 = .int .i64 x31_2 ∧ Aside0 (plan_Units.l0 kq a2 x8_2 t167 (t167.length : Int) x31_2 t155 t156 = some r) ∧ Aside0 (kq ≤ kj3) ∧ Aside0 (Kd.R k48 48 w' w.heap.size (fun k_ => some k_ ≠ ((.slice Ao32 t167.length co32) : Value).ownBlock ∧ k_ ≠ gb157) v8 x8_2) ∧ Aside0 (Kd.R k48 48 w' w.heap.size (fun k_ => some k_ ≠ (v8 : Value).ownBlock ∧ k_ ≠ gb157) (.slice Ao32 t167.length co32) t167) ∧ Aside0 (w'.heap[gb151]? = some (.cells #[(.slice A0_0 l0_0.length c0_0)] 30 (0, 0))) ∧ Aside0 (w'.heap[gb152]? = some (.cells #[(.slice none 0 0)] 30 (0, 0))) ∧ Aside0 (w'.heap[gb157]? = some (.cells #[.int .i64 t155, .int .i64 t156] 48 (0, 0))) ∧ Aside0 (Below w.heap.size w w'))
    case atStart => exact ⟨(([] : List (S48))), (0), eR, H', ⟨Nat.le_refl _⟩, ⟨by first | exact Kd.R_nil _ _ _ _ _ | exact Kd.N_nil _ _ _ _ _ | exact Kd.V_nil _ _ _ _ _ | exact Kd.Q_nil _ _ _ _ _ | exact Kd.S_nil _ _ _ _ _⟩, ⟨rU (Kd.R_mono HO169.out (fun _ hk => ⟨(by simp [Value.ownBlock]), hk.2⟩))⟩, ⟨bU BK151⟩, ⟨bU BK152⟩, ⟨bU BK157⟩, ⟨lU HB⟩⟩
    case round =>
     clear H'
     try clear c1
     try clear c2
     try clear p2
     try clear c4
     try clear c8
     try clear c10
     try clear c11
     try clear c19
     try clear c20
     try clear c21
     try clear c22
     try clear c25
     try clear hcz12_0
     try clear hcz21_0
     try clear hcz21_1
     try clear hfz12_0
     try clear hfz21_0
     try clear hfz21_1
     try clear p2
     obtain ⟨x8_2, x31_2, rfl, HA, HK2, HO_8, HO_29, BK151, BK152, BK157, HB⟩ := hrel
     cases gk with
     | zero => exact absurd HA.out (by simp [plan_Units.l0])
     | succ k2 =>
      have H := HA.out
      clear HA
      simp only [plan_Units.l0] at H
      by_cases c33 : x31_2 < (t167.length : Int)
      ·rw [if_pos c33] at H
       have c33b0 : decide (x31_2 < (t167.length : Int)) = true := decide_eq_true c33
       clear c33
       by_cases c34 : 0 ≤ x31_2
       ·rw [if_pos c34] at H
        have c34b0 : decide (0 ≤ x31_2) = true := decide_eq_true c34
        clear c34
        by_cases c35 : x31_2 < (t167.length : Int)
        ·rw [if_pos c35] at H
         have c35b0 : decide (x31_2 < (t167.length : Int)) = true := decide_eq_true c35
         clear c35
         replace H := Option.bind_eq_some_iff.mp H
         obtain ⟨⟨t172, t173, t174⟩, A360, H⟩ := H
         dsimp only at H
         have A36 := Aside0.mk A360
         clear A360
         obtain ⟨ji37, hji37⟩ : ∃ j_ : Int, (mn t173 t156) = j_ := ⟨_, rfl⟩
         replace H : (if x8_2.length < 8796093022208 then (plan_Units.l0 k2 a2 (x8_2 ++ [(⟨t172, ji37⟩ : S48)]) t167 (t167.length : Int) (wrap64 (x31_2 + 1)) t155 t156) else (none)) = some r := by first | (rw [hji37] at H; exact H) | (simp only [hji37] at H ⊢; exact H)
         (try rw [hji37] at A36)
         have hji37_ : (if t156 < t173 then t156 else t173) = ji37 := hji37
         by_cases c38 : x8_2.length < 8796093022208
         ·rw [if_pos c38] at H
          have LMc38 := Aside0.mk c38
          clear c38
          obtain ⟨y176, hy176⟩ : ∃ y_ : List (S48), y_ = (x8_2 ++ [(⟨t172, ji37⟩ : S48)]) := ⟨_, rfl⟩
          replace H : (plan_Units.l0 k2 a2 y176 t167 (t167.length : Int) (wrap64 (x31_2 + 1)) t155 t156) = some r := by first | (rw [hy176]; with_reducible exact H) | (have H2_ := (Option.bind_some _ _).symm.trans H; rw [hy176]; with_reducible exact H2_) | (have H2_ := (Option.bind_some _ _).symm.trans H; with_reducible exact H2_) | with_reducible exact H | (rw [hy176]; exact H) | exact H
          have Ny176 := Aside0.mk hy176
          clear hy176
          have H' := Aside0.mk H
          clear H
          have p170 : 0 ≤ (x31_2 : Int) := of_decide_eq_true (by first | (with_reducible assumption) | assumption)
          have q170 : x31_2 < (t167.length : Int) := of_decide_eq_true (by first | (with_reducible assumption) | assumption)
          obtain ⟨ad170, e170, hx170_0, hx170_1⟩ := at_T48 (rC HO_29) x31_2 p170 q170
          cases e170
          replace p170 := eq_true p170
          replace q170 := eq_true q170
          go_wp2_with (first | ((with_reducible refine gate_dst (N := 10) rfl ?_); refine bX (N := 10) (cs := #[.int .i64 0, .int .i64 0]) (t := 48) ?_; intro gb171 hg w39 hbox hb; have BK171 := Aside0.mk (hbox); have GE171 := sG HB hg; have NB151_171 := sN BK151 hg; have NB171_151 := sM BK151 hg; have NB152_171 := sN BK152 hg; have NB171_152 := sM BK152 hg; have NB157_171 := sN BK157 hg; have NB171_157 := sM BK157 hg; replace HO_8 := Aside0.mk (Kd.R_below (Kd.R_elderB (rU HO_8.out) gb171 (Nat.le_of_eq hg.symm)) hb); replace HO_29 := Aside0.mk (Kd.R_below (Kd.R_elderB (rU HO_29.out) gb171 (Nat.le_of_eq hg.symm)) hb); replace BK151 := sB BK151 hb; replace BK152 := sB BK152 hb; replace BK157 := sB BK157 hb; replace HB := sL HB hb; clear hb hbox hg; have hnb40 := NB171_151.out; have hnc40 := NB151_171.out; have hnb41 := NB171_152.out; have hnc41 := NB152_171.out; have hnb42 := NB171_157.out; have hnc42 := NB157_171.out; obtain ⟨hcz43_0, hcz43_1⟩ := q2 BK171; obtain ⟨hfz43_0, hfz43_1⟩ := z2 BK171) | ((with_reducible refine gate_callee (f := 47) rfl ?_); refine gL (some 38) rfl rfl Try.func47 #[.agg #[.int .i64 ((rd_T48 t167 x31_2).f0), .int .i64 ((rd_T48 t167 x31_2).f1)], .int .i64 a2] rfl ?_; (with_reducible refine (span_Align.calls k2 ((rd_T48 t167 x31_2).f0) ((rd_T48 t167 x31_2).f1) a2 t172 t173 t174 _ A36.out).mono ?_); rintro e w44 ⟨rfl, hb⟩; refine ⟨_, rfl, ?_⟩; replace HO_8 := Aside0.mk (Kd.R_below (rU ((Kd.R_mono (Kd.R_far (p := ⟨gb171, 1, none⟩) (Kd.R_far (p := ⟨gb171, 0, none⟩) (Kd.R_mono HO_8.out (fun k_ hk => (⟨hk, hk.2⟩ : _ ∧ k_ ≠ gb171))) (fun _ hk => hk.2) (.int .i64 ((rd_T48 t167 x31_2).f0))) (fun _ hk => hk.2) (.int .i64 ((rd_T48 t167 x31_2).f1))) (fun _ h_ => h_.1)))) hb); replace HO_29 := Aside0.mk (Kd.R_below (rU ((Kd.R_mono (Kd.R_far (p := ⟨gb171, 1, none⟩) (Kd.R_far (p := ⟨gb171, 0, none⟩) (Kd.R_mono HO_29.out (fun k_ hk => (⟨hk, hk.2⟩ : _ ∧ k_ ≠ gb171))) (fun _ hk => hk.2) (.int .i64 ((rd_T48 t167 x31_2).f0))) (fun _ hk => hk.2) (.int .i64 ((rd_T48 t167 x31_2).f1))) (fun _ h_ => h_.1)))) hb); replace BK151 := Aside0.mk (blk_below (g := gb151) (o := .cells #[.slice A0_0 l0_0.length c0_0] 30 (0, 0)) (bF BK151) hb); replace BK152 := Aside0.mk (blk_below (g := gb152) (o := .cells #[.slice none 0 0] 30 (0, 0)) (bF BK152) hb); replace BK157 := Aside0.mk (blk_below (g := gb157) (o := .cells #[.int .i64 t155, .int .i64 t156] 48 (0, 0)) (bF BK157) hb); replace BK171 := Aside0.mk (blk_below (g := gb171) (o := .cells #[.int .i64 ((rd_T48 t167 x31_2).f0), .int .i64 ((rd_T48 t167 x31_2).f1)] 48 (0, 0)) (by (with_reducible repeat (first | refine blk_drewN ?_ _ | refine blk_drew ?_ | refine blk_alloc ?_ _)); refine blk_put (cs := #[.int .i64 ((rd_T48 t167 x31_2).f0), .int .i64 0]) ?_ 1 _ rfl; (with_reducible repeat (first | refine blk_drewN ?_ _ | refine blk_drew ?_ | refine blk_alloc ?_ _)); refine blk_put (cs := #[.int .i64 0, .int .i64 0]) ?_ 0 _ rfl; (with_reducible repeat (first | refine blk_drewN ?_ _ | refine blk_drew ?_ | refine blk_alloc ?_ _)); exact BK171.out) hb); replace HB := sL HB hb; (try clear hb); (try clear hb2); (try clear hk); (try clear hi)) | ((with_reducible refine gate_dst (N := 11) rfl ?_); refine bX (N := 11) (cs := #[.int .i64 0, .int .i64 0]) (t := 48) ?_; intro gb175 hg w45 hbox hb; have BK175 := Aside0.mk (hbox); have GE175 := sG HB hg; have NB151_175 := sN BK151 hg; have NB175_151 := sM BK151 hg; have NB152_175 := sN BK152 hg; have NB175_152 := sM BK152 hg; have NB157_175 := sN BK157 hg; have NB175_157 := sM BK157 hg; have NB171_175 := sN BK171 hg; have NB175_171 := sM BK171 hg; replace HO_8 := Aside0.mk (Kd.R_below (Kd.R_elderB (rU HO_8.out) gb175 (Nat.le_of_eq hg.symm)) hb); replace HO_29 := Aside0.mk (Kd.R_below (Kd.R_elderB (rU HO_29.out) gb175 (Nat.le_of_eq hg.symm)) hb); replace BK151 := sB BK151 hb; replace BK152 := sB BK152 hb; replace BK157 := sB BK157 hb; replace BK171 := sB BK171 hb; replace HB := sL HB hb; clear hb hbox hg; have hnb46 := NB175_151.out; have hnc46 := NB151_175.out; have hnb47 := NB175_152.out; have hnc47 := NB152_175.out; have hnb48 := NB175_157.out; have hnc48 := NB157_175.out; have hnb49 := NB175_171.out; have hnc49 := NB171_175.out; obtain ⟨hcz50_0, hcz50_1⟩ := q2 BK175; obtain ⟨hfz50_0, hfz50_1⟩ := z2 BK175; have hnb51 := NB157_151.out; have hnc51 := NB151_157.out; have hnb52 := NB157_152.out; have hnc52 := NB152_157.out; obtain ⟨hcz53_0, hcz53_1⟩ := q2 BK157; obtain ⟨hfz53_0, hfz53_1⟩ := z2 BK157) | ((with_reducible refine gate_builtin (b := .append) (xs := #[.tmp 41, .tmp 50]) rfl ?_); at_builtin; refine Kd.R_append k48 (w0 := w) w.heap.size rfl (.tmp 41) (.tmp 50) 22 48 (.agg #[(.int .i64 0), (.int .i64 0)]) 16 rfl Try.underlying22 info48 rfl (by decide) (by omega) u8 x8_2 (⟨t172, ji37⟩ : S48) [.int .i64 t172, .int .i64 ji37] (fun k_ => some k_ ≠ (.slice (some ad170) t167.length co32 : Value).ownBlock ∧ k_ ≠ gb157 ∧ k_ ≠ gb171 ∧ k_ ≠ gb175) (fun _ => False) rfl (by first | (go_simp; done) | (go_simp; rfl)) ?aP (fun _ hk => hk.elim) ?aF ?aO ?aB ?aS ?aL ?_; (case aP => exact k48_mkM _ _ _ (⟨t172, ji37⟩ : S48)); (case aB => exact (lU HB)); (case aF => exact (fun k_ hk => ⟨Kd.fresh' (Kd.R_lt (rU ((Kd.R_mono (Kd.R_far (p := ⟨gb175, 1, none⟩) (Kd.R_far (p := ⟨gb175, 0, none⟩) (Kd.R_mono HO_29.out (fun k_ hk => (⟨hk, hk.2⟩ : _ ∧ k_ ≠ gb175))) (fun _ hk => hk.2) (.int .i64 t172)) (fun _ hk => hk.2) (.int .i64 t173)) (fun _ h_ => h_.1))))) k_ hk, Kd.freshB (g := gb157) (o := .cells #[.int .i64 t155, .int .i64 t156] 48 (0, 0)) (bF BK157) k_ hk, Kd.freshB (g := gb171) (o := .cells #[.int .i64 ((rd_T48 t167 x31_2).f0), .int .i64 ((rd_T48 t167 x31_2).f1)] 48 (0, 0)) (bF BK171) k_ hk, Kd.freshB (g := gb175) (o := .cells #[.int .i64 t172, .int .i64 t173] 48 (0, 0)) (by (with_reducible repeat (first | refine blk_drewN ?_ _ | refine blk_drew ?_ | refine blk_alloc ?_ _)); refine blk_put (cs := #[.int .i64 t172, .int .i64 0]) ?_ 1 _ rfl; (with_reducible repeat (first | refine blk_drewN ?_ _ | refine blk_drew ?_ | refine blk_alloc ?_ _)); refine blk_put (cs := #[.int .i64 0, .int .i64 0]) ?_ 0 _ rfl; (with_reducible repeat (first | refine blk_drewN ?_ _ | refine blk_drew ?_ | refine blk_alloc ?_ _)); exact BK175.out) k_ hk⟩)); (case aO => exact (rU (Kd.R_mono (Kd.R_far (p := ⟨gb175, 1, none⟩) (Kd.R_far (p := ⟨gb175, 0, none⟩) (Kd.R_mono HO_8.out (fun k_ hk => (⟨hk, hk.2⟩ : _ ∧ k_ ≠ gb175))) (fun _ hk => hk.2) (.int .i64 t172)) (fun _ hk => hk.2) (.int .i64 t173)) (fun _ hk => ⟨hk.1.1.1.1, ⟨hk.1.1.1.2, ⟨hk.1.1.2, hk.1.2⟩⟩⟩)))); (case aS => exact (below_size (lU HB))); (case aL => have := LMc38.out; omega); intro v177 w54 ho hb hg hat; rw [← Ny176.out] at ho; have HO178 := Aside0.mk (ho); replace HO_29 := Aside0.mk (Kd.R_after (ok := (fun k_ => k_ ≠ gb157 ∧ k_ ≠ gb171 ∧ k_ ≠ gb175)) (rU (Kd.R_mono (Kd.R_far (p := ⟨gb175, 1, none⟩) (Kd.R_far (p := ⟨gb175, 0, none⟩) (Kd.R_mono HO_29.out (fun k_ hk => (⟨hk, hk.2⟩ : _ ∧ k_ ≠ gb175))) (fun _ hk => hk.2) (.int .i64 t172)) (fun _ hk => hk.2) (.int .i64 t173)) (fun _ hk => ⟨⟨hk.1.1.1.2, ⟨hk.1.1.2, hk.1.2⟩⟩, hk.1.1.1.1⟩))) hg hat); replace BK151 := Aside0.mk (blk_grown (g := gb151) (o := .cells #[.slice A0_0 l0_0.length c0_0] 30 (0, 0)) (bF BK151) hg (Kd.R_ne HO_8.out BK151.out (by decide))); replace BK152 := Aside0.mk (blk_grown (g := gb152) (o := .cells #[.slice none 0 0] 30 (0, 0)) (bF BK152) hg (Kd.R_ne HO_8.out BK152.out (by decide))); replace BK157 := Aside0.mk (blk_grown (g := gb157) (o := .cells #[.int .i64 t155, .int .i64 t156] 48 (0, 0)) (bF BK157) hg (Kd.R_away HO_8.out (fun _ hk => hk.1.1.2))); replace BK171 := Aside0.mk (blk_grown (g := gb171) (o := .cells #[.int .i64 ((rd_T48 t167 x31_2).f0), .int .i64 ((rd_T48 t167 x31_2).f1)] 48 (0, 0)) (bF BK171) hg (Kd.R_away HO_8.out (fun _ hk => hk.1.2))); replace BK175 := Aside0.mk (blk_grown (g := gb175) (o := .cells #[.int .i64 t172, .int .i64 t173] 48 (0, 0)) (by (with_reducible repeat (first | refine blk_drewN ?_ _ | refine blk_drew ?_ | refine blk_alloc ?_ _)); refine blk_put (cs := #[.int .i64 t172, .int .i64 0]) ?_ 1 _ rfl; (with_reducible repeat (first | refine blk_drewN ?_ _ | refine blk_drew ?_ | refine blk_alloc ?_ _)); refine blk_put (cs := #[.int .i64 0, .int .i64 0]) ?_ 0 _ rfl; (with_reducible repeat (first | refine blk_drewN ?_ _ | refine blk_drew ?_ | refine blk_alloc ?_ _)); exact BK175.out) hg (Kd.R_away HO_8.out (fun _ hk => hk.2))); replace HB := Aside0.mk (hb); clear HO_8; clear ho hb hg hat))
          go_roundg k2
          case measure => have := HJ3.out; have := HK2.out; omega
          case rel => exact ⟨(y176), (wrap64 (x31_2 + 1)), eR, H', ⟨by have := HJ3.out; have := HK2.out; omega⟩, ⟨rU (Kd.R_mono HO178.out (fun _ hk => ⟨hk.1, hk.2.1⟩))⟩, ⟨rU (Kd.R_mono HO_29.out (fun _ hk => ⟨hk.2, hk.1.1⟩))⟩, ⟨bU BK151⟩, ⟨bU BK152⟩, ⟨bU BK157⟩, ⟨lU HB⟩⟩
         ·rw [if_neg c38] at H
          exact absurd H (by simp)
        ·rw [if_neg c35] at H
         exact absurd H (by simp)
       ·rw [if_neg c34] at H
        exact absurd H (by simp)
      ·rw [if_neg c33] at H
       have c33b0 : decide (x31_2 < (t167.length : Int)) = false := decide_eq_false c33
       clear c33
       obtain ⟨t179, A55, H⟩ := bO H
       obtain rfl := Option.some.inj H
       obtain ⟨Ao56, co56, eo56⟩ := Kd.R_slice HO_8.out
       subst eo56
       go_wp2_with (first | ((with_reducible refine gate_callee (f := 22) rfl ?_); refine gL (some 54) rfl rfl Try.func22 #[.slice Ao56 x8_2.length co56] rfl ?_; (with_reducible refine (ranges_Of.calls k2 _ _ x8_2 t179 _ (cU (rC HO_8)) (rN HO_8) A55.out).mono ?_); rintro e w57 ⟨v180, rfl, ho0, hb⟩; refine ⟨_, rfl, ?_⟩; have HO181 := Aside0.mk (Kd.R_lower (Kd.R_newB (Kd.R_new' (Kd.R_new' ho0 (Kd.R_lt (rU HO_8.out))) (Kd.R_lt (rU HO_29.out))) (g := gb157) (o := .cells #[.int .i64 t155, .int .i64 t156] 48 (0, 0)) (bU BK157)) (below_size (lU HB))); replace HO_8 := rE HO_8 ho0 hb; replace HO_29 := rE HO_29 ho0 hb; replace BK151 := sB BK151 hb; replace BK152 := sB BK152 hb; replace BK157 := sB BK157 hb; replace HB := sL HB hb; (try clear hb); (try clear hb2); (try clear hk); (try clear hi); (try clear ho0); obtain ⟨Ao58, co58, eo58⟩ := Kd.R_slice HO181.out; subst eo58; have hnb59 := NB152_151.out; have hnc59 := NB151_152.out; have hnb60 := NB152_157.out; have hnc60 := NB157_152.out; have hcz61_0 := q1 BK152; have hfz61_0 := blk_frozen BK152.out 0))
       refine bodyPost_ret (results_cell_row rfl _ _ gb152 30 #[.slice Ao58 t179.length co58] (0, 0) _ rfl (by (with_reducible repeat (first | refine blk_drewN ?_ _ | refine blk_drew ?_ | refine blk_alloc ?_ _)); refine blk_put (cs := #[.slice none 0 0]) ?_ 0 _ rfl; (with_reducible repeat (first | refine blk_drewN ?_ _ | refine blk_drew ?_ | refine blk_alloc ?_ _)); exact BK152.out) Try.underlying30 rfl (by kernel_rfl)) rfl ?_
       exact ⟨_, eW, by (with_reducible repeat (first | apply Kd.R_alloc | apply Kd.R_drewN | apply Kd.R_drew)); exact Kd.R_mono (Kd.R_far (p := ⟨gb152, 0, none⟩) (Kd.R_types HO181.out BK152.out (by decide)) (fun _ hk => hk.2) (.slice Ao58 t179.length co58)) (fun _ hk => trivial), lU HB⟩
def ranges_Set_Len.l0 : Nat → Int → List (S48) → Int → Int → Option (Int)
 | 0, _, _, _, _ => none
 | k + 1, x3, x7, x8, x9 => if x9 < x8 then (if 0 ≤ x9 then (if x9 < (x7.length : Int) then (if ((rd_T48 x7 x9).f1) = 4611686018427387904 then (some 4611686018427387904) else (ranges_Set_Len.l0 k (wrap64 (x3 + (wrap64 (((rd_T48 x7 x9).f1) - ((rd_T48 x7 x9).f0))))) x7 x8 (wrap64 (x9 + 1)))) else (none)) else (none)) else (some x3)
def ranges_Set_Len.f (k : Nat) (l0_0 : List (S48)) : Option (Int) := ranges_Set_Len.l0 k 0 l0_0 (l0_0.length : Int) 0
theorem ranges_Set_Len.mono_l : ∀ k, (∀ y0 y1 y2 y3, LeO (ranges_Set_Len.l0 k y0 y1 y2 y3) (ranges_Set_Len.l0 (k + 1) y0 y1 y2 y3))
 | 0 => fun _ _ _ _ r h => by simp [ranges_Set_Len.l0] at h
 | k + 1 => by
  have ih0 := ranges_Set_Len.mono_l k
  ·intro y0 y1 y2 y3
   unfold ranges_Set_Len.l0
   repeat' first
   | with_reducible apply ih0
   | with_reducible apply LeO.refl
   | with_reducible apply LeO.none
   | with_reducible refine LeO.ite ?_ ?_
   | with_reducible refine LeO.bind ?_ (fun _ => ?_)
theorem ranges_Set_Len.mono : ∀ a0 k, LeO (ranges_Set_Len.f k a0) (ranges_Set_Len.f (k + 1) a0) := by
 intro a0 k
 have ih0 := ranges_Set_Len.mono_l k
 unfold ranges_Set_Len.f
 repeat' first
   | with_reducible apply ih0
   | with_reducible apply LeO.refl
   | with_reducible apply LeO.none
   | with_reducible refine LeO.ite ?_ ?_
   | with_reducible refine LeO.bind ?_ (fun _ => ?_)
set_option maxHeartbeats 8000000 in
set_option maxRecDepth 100000 in
theorem ranges_Set_Len.calls (k : Nat) (A0_0 : Option Addr) (c0_0 : Nat) (l0_0 : List (S48)) (r : Int) (w : World) (hr0_0 : Kd.C k48 w A0_0 l0_0.length l0_0) (hc0_0 : l0_0.length ≤ c0_0) (h : ranges_Set_Len.f k l0_0 = some r) :
  Calls Try.prog 26 #[.agg #[.slice A0_0 l0_0.length c0_0]] w fun e w' => e = .returned (.int .i64 r) ∧ Below w.heap.size w w' := by
 have hu30 := Try.underlying30
 have hu48 := Try.underlying48
 have HR0_0 := Aside0.mk hr0_0
 have HC0_0 := Aside0.mk hc0_0
 clear hr0_0 hc0_0
 have HB := Aside0.mk (Below.refl w.heap.size w)
 unfold ranges_Set_Len.f at h
 have H := h
 clear h
 have H' := Aside0.mk H
 clear H
 go_enter Try.func26, Try.ntmps26
 go_wp2_with (first | ((with_reducible refine gate_dst (N := 1) rfl ?_); refine bX (N := 1) (cs := #[.slice A0_0 l0_0.length c0_0]) (t := 30) ?_; intro gb182 hg w2 hbox hb; have BK182 := Aside0.mk (hbox); have GE182 := sG HB hg; replace HB := sL HB hb; clear hb hbox hg; have hcz3_0 := q1 BK182; have hfz3_0 := blk_frozen BK182.out 0))
 go_loopg [3, 9] k (fun kq v3 v9 w' => ∃ (x3_1 : Int) (x9_1 : Int), v3 = .int .i64 x3_1 ∧ v9 = .int .i64 x9_1 ∧ Aside0 (ranges_Set_Len.l0 kq x3_1 l0_0 (l0_0.length : Int) x9_1 = some r) ∧ Aside0 (kq ≤ k) ∧ Aside0 (w'.heap[gb182]? = some (.cells #[(.slice A0_0 l0_0.length c0_0)] 30 (0, 0))) ∧ Aside0 (Below w.heap.size w w'))
 case atStart => exact ⟨(0), (0), eR, eR, H', ⟨Nat.le_refl _⟩, ⟨bU BK182⟩, ⟨lU HB⟩⟩
 case round =>
  clear H'
  try clear c2
  try clear p2
  try clear hcz3_0
  try clear hfz3_0
  obtain ⟨x3_1, x9_1, rfl, rfl, HA, HK1, BK182, HB⟩ := hrel
  cases gk with
  | zero => exact absurd HA.out (by simp [ranges_Set_Len.l0])
  | succ k1 =>
   have H := HA.out
   clear HA
   simp only [ranges_Set_Len.l0] at H
   by_cases c4 : x9_1 < (l0_0.length : Int)
   ·rw [if_pos c4] at H
    have c4b0 : decide (x9_1 < (l0_0.length : Int)) = true := decide_eq_true c4
    clear c4
    by_cases c5 : 0 ≤ x9_1
    ·rw [if_pos c5] at H
     have c5b0 : decide (0 ≤ x9_1) = true := decide_eq_true c5
     clear c5
     by_cases c6 : x9_1 < (l0_0.length : Int)
     ·rw [if_pos c6] at H
      have c6b0 : decide (x9_1 < (l0_0.length : Int)) = true := decide_eq_true c6
      clear c6
      by_cases c7 : ((rd_T48 l0_0 x9_1).f1) = 4611686018427387904
      ·rw [if_pos c7] at H
       have c7b0 : (((rd_T48 l0_0 x9_1).f1) == 4611686018427387904) = true := beq_iff_eq.mpr c7
       have c7b1 : (((rd_T48 l0_0 x9_1).f1) != 4611686018427387904) = false := bne_eq_false_iff_eq.mpr c7
       clear c7
       obtain rfl := Option.some.inj H
       have p183 : 0 ≤ (x9_1 : Int) := of_decide_eq_true (by first | (with_reducible assumption) | assumption)
       have q183 : x9_1 < (l0_0.length : Int) := of_decide_eq_true (by first | (with_reducible assumption) | assumption)
       obtain ⟨ad183, e183, hx183_0, hx183_1⟩ := at_T48 HR0_0.out x9_1 p183 q183
       cases e183
       replace hx183_0 := cB HB hx183_0
       replace hx183_1 := cB HB hx183_1
       replace p183 := eq_true p183
       replace q183 := eq_true q183
       go_wp2_with (first | ((with_reducible refine gate_dst (N := 5) rfl ?_); refine bX (N := 5) (cs := #[.int .i64 0, .int .i64 0]) (t := 48) ?_; intro gb184 hg w8 hbox hb; have BK184 := Aside0.mk (hbox); have GE184 := sG HB hg; have NB182_184 := sN BK182 hg; have NB184_182 := sM BK182 hg; replace BK182 := sB BK182 hb; replace HB := sL HB hb; clear hb hbox hg; have hnb9 := NB184_182.out; have hnc9 := NB182_184.out; obtain ⟨hcz10_0, hcz10_1⟩ := q2 BK184; obtain ⟨hfz10_0, hfz10_1⟩ := z2 BK184))
       go_ret
       exact ⟨eW, lU HB⟩
      ·rw [if_neg c7] at H
       have c7b0 : (((rd_T48 l0_0 x9_1).f1) == 4611686018427387904) = false := beq_eq_false_iff_ne.mpr c7
       have c7b1 : (((rd_T48 l0_0 x9_1).f1) != 4611686018427387904) = true := bne_iff_ne.mpr c7
       have H' := Aside0.mk H
       clear H
       have p183 : 0 ≤ (x9_1 : Int) := of_decide_eq_true (by first | (with_reducible assumption) | assumption)
       have q183 : x9_1 < (l0_0.length : Int) := of_decide_eq_true (by first | (with_reducible assumption) | assumption)
       obtain ⟨ad183, e183, hx183_0, hx183_1⟩ := at_T48 HR0_0.out x9_1 p183 q183
       cases e183
       replace hx183_0 := cB HB hx183_0
       replace hx183_1 := cB HB hx183_1
       replace p183 := eq_true p183
       replace q183 := eq_true q183
       go_wp2_with (first | ((with_reducible refine gate_dst (N := 5) rfl ?_); refine bX (N := 5) (cs := #[.int .i64 0, .int .i64 0]) (t := 48) ?_; intro gb184 hg w11 hbox hb; have BK184 := Aside0.mk (hbox); have GE184 := sG HB hg; have NB182_184 := sN BK182 hg; have NB184_182 := sM BK182 hg; replace BK182 := sB BK182 hb; replace HB := sL HB hb; clear hb hbox hg; have hnb12 := NB184_182.out; have hnc12 := NB182_184.out; obtain ⟨hcz13_0, hcz13_1⟩ := q2 BK184; obtain ⟨hfz13_0, hfz13_1⟩ := z2 BK184))
       go_roundg k1
       case measure => have := HK1.out; omega
       case rel => exact ⟨(wrap64 (x3_1 + (wrap64 (((rd_T48 l0_0 x9_1).f1) - ((rd_T48 l0_0 x9_1).f0))))), (wrap64 (x9_1 + 1)), eR, eR, H', ⟨by have := HK1.out; omega⟩, ⟨bF BK182⟩, ⟨lU HB⟩⟩
     ·rw [if_neg c6] at H
      exact absurd H (by simp)
    ·rw [if_neg c5] at H
     exact absurd H (by simp)
   ·rw [if_neg c4] at H
    have c4b0 : decide (x9_1 < (l0_0.length : Int)) = false := decide_eq_false c4
    clear c4
    obtain rfl := Option.some.inj H
    go_wp2
    go_ret
    exact ⟨eW, lU HB⟩
end Go.Proofs.Ytnaalaakhdbfbaa.XP
