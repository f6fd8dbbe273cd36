-- Go functions as plain functions, and that the code comes to these answers (printed by a program).
import Derived.Test.YtnaalaakhdbfbaaV3XP0
import Derived.Test.YtnaalaakhdbfbaaV3XP2
import Derived.Test.YtnaalaakhdbfbaaV3XP3
import Derived.Test.YtnaalaakhdbfbaaV3XP7
import Derived.Test.YtnaalaakhdbfbaaV3XP8
namespace Go.Proofs.Ytnaalaakhdbfbaa.XP
open Go.RowKit Go.Proofs.YtnaalaakhdbfbaaW.PrintWords Go.Proofs.YtnaalaakhdbfbaaW.PrintLast Go.Proofs.YtnaalaakhdbfbaaW.PrintMore
attribute [local go_sem] max2_int min2_int max_two min_two max_three min_three max_four min_four
set_option linter.unusedVariables false
set_option linter.unusedSimpArgs false
def plan_Waste.f (k : Nat) (a0_0 : Int) (a0_1 : Int) (l1_0 : List (S48)) : Option (Int) := (span_Right.f a0_0 a0_1).bind fun t583 => (if t583 = true then ((ranges_Of.f k (([(⟨a0_0, a0_1⟩ : S48)] : List (S48)))).bind fun t587 => ((ranges_Set_Less.f k t587 l1_0).bind fun t590 => ((ranges_Set_Len.f k t590).bind fun t593 => (some t593)))) else (some 0))
set_option maxHeartbeats 8000000 in
set_option maxRecDepth 100000 in
theorem plan_Waste.calls (k : Nat) (a0_0 : Int) (a0_1 : Int) (A1_0 : Option Addr) (c1_0 : Nat) (l1_0 : List (S48)) (r : Int) (w : World) (hr1_0 : Kd.C k48 w A1_0 l1_0.length l1_0) (hc1_0 : l1_0.length ≤ c1_0) (h : plan_Waste.f k a0_0 a0_1 l1_0 = some r) :
  Calls Try.prog 23 #[.agg #[.int .i64 a0_0, .int .i64 a0_1], .agg #[.slice A1_0 l1_0.length c1_0]] w fun e w' => e = .returned (.int .i64 r) ∧ Below w.heap.size w w' := by
 have hu48 := Try.underlying48
 have hu30 := Try.underlying30
 have HR1_0 := Aside0.mk hr1_0
 have HC1_0 := Aside0.mk hc1_0
 clear hr1_0 hc1_0
 have HB := Aside0.mk (Below.refl w.heap.size w)
 unfold plan_Waste.f at h
 have H := h
 clear h
 obtain ⟨t583, A3, H⟩ := bO H
 by_cases c4 : t583 = true
 ·subst c4
  rw [if_pos rfl] at H
  obtain ⟨y584, hy584⟩ : ∃ y_ : List (S48), y_ = (([(⟨a0_0, a0_1⟩ : S48)] : List (S48))) := ⟨_, rfl⟩
  replace H : ((ranges_Of.f k y584).bind fun t587 => ((ranges_Set_Less.f k t587 l1_0).bind fun t590 => ((ranges_Set_Len.f k t590).bind fun t593 => (some t593)))) = some r := by first | (rw [hy584]; with_reducible exact H) | (have H2_ := (Option.bind_some _ _).symm.trans H; rw [hy584]; with_reducible exact H2_) | (have H2_ := (Option.bind_some _ _).symm.trans H; with_reducible exact H2_) | with_reducible exact H | (rw [hy584]; exact H) | exact H
  have Ny584 := Aside0.mk hy584
  clear hy584
  obtain ⟨t587, A5, H⟩ := bO H
  obtain ⟨t590, A6, H⟩ := bO H
  obtain ⟨t593, A7, H⟩ := bO H
  obtain rfl := Option.some.inj H
  go_enter Try.func23, Try.ntmps23
  try go_wp2_with (first | ((with_reducible refine gate_dst (N := 2) rfl ?_); refine bX (N := 2) (cs := #[.int .i64 a0_0, .int .i64 a0_1]) (t := 48) ?_; intro gb581 hg w8 hbox hb; have BK581 := Aside0.mk (hbox); have GE581 := sG HB hg; replace HB := sL HB hb; clear hb hbox hg) | ((with_reducible refine gate_dst (N := 3) rfl ?_); refine bX (N := 3) (cs := #[.slice A1_0 l1_0.length c1_0]) (t := 30) ?_; intro gb582 hg w9 hbox hb; have BK582 := Aside0.mk (hbox); have GE582 := sG HB hg; have NB581_582 := sN BK581 hg; have NB582_581 := sM BK581 hg; replace BK581 := sB BK581 hb; replace HB := sL HB hb; clear hb hbox hg; have hnb10 := NB581_582.out; have hnc10 := NB582_581.out; obtain ⟨hcz11_0, hcz11_1⟩ := q2 BK581; obtain ⟨hfz11_0, hfz11_1⟩ := z2 BK581) | ((with_reducible refine gate_callee (f := 49) rfl ?_); refine gL (some 6) rfl rfl Try.func49 #[.agg #[.int .i64 a0_0, .int .i64 a0_1]] rfl ?_; (with_reducible refine (span_Right.calls a0_0 a0_1 true _ A3.out).mono ?_); rintro e w12 ⟨rfl, hb⟩; refine ⟨_, rfl, ?_⟩; replace BK581 := sB BK581 hb; replace BK582 := sB BK582 hb; replace HB := sL HB hb; (try clear hb); (try clear hb2); (try clear hk); (try clear hi)))
  replace BK581 := Aside0.mk (blk_drew BK581.out)
  replace BK582 := Aside0.mk (blk_drew BK582.out)
  replace HB := Aside0.mk (below_drew1 HB.out)
  refine start_ (n := 7) (S := fun w' => w'.cell? ⟨gb581, 0, none⟩ = some (.int .i64 a0_0) ∧ w'.cell? ⟨gb581, 1, none⟩ = some (.int .i64 a0_1) ∧ w'.cell? ⟨gb582, 0, none⟩ = some (.slice A1_0 l1_0.length c1_0)) (ds := []) #[false, false, false, false, false, false, false] (by kernel_rfl) rfl rfl ⟨(blk_cell BK581.out 0).trans rfl, (blk_cell BK581.out 1).trans rfl, (blk_cell BK582.out 0).trans rfl⟩ (fun hHeld => ?_)
  generalize w12.drew = w13 at BK581 BK582 HB hHeld ⊢
  refine take_ (i := 0) (N := some 8) (v := ?_) (a' := ?_) #[true, false, false, false, false, false, false] rfl rfl (by kernel_rfl) (fun _ _ _ h => h) (Or.inl ⟨by rfl, ?_⟩) hHeld ?_ ?_
  rotate_left
  ·rintro w' ⟨s0, s1, s2⟩
   go_simp
   with_reducible rfl
  rotate_left
  ·simp only [Act.put, List.setIfInBounds_toArray, List.set_cons_zero, List.set_cons_succ, i64_w, i32_w]
   rfl
  refine take_ (i := 3) (N := some 11) (v := ?_) (a' := ?_) #[true, false, false, true, false, false, false] rfl rfl (by kernel_rfl) (fun _ _ _ h => h) (Or.inl ⟨by rfl, ?_⟩) hHeld ?_ ?_
  rotate_left
  ·rintro w' ⟨s0, s1, s2⟩
   go_simp
   with_reducible rfl
  rotate_left
  ·simp only [Act.put, List.setIfInBounds_toArray, List.set_cons_zero, List.set_cons_succ, i64_w, i32_w]
   rfl
  refine one_ (i := 1) (N := some 9) (ma 7 11) rfl rfl (by kernel_rfl) (by decide) (fun K hK => ?_)
  refine Kd.R_lit_step k48 _ 48 ?hg (N := 9) ?hd (xs := ([(⟨a0_0, a0_1⟩ : S48)] : List (S48))) (inner := [.int .i64 a0_0, .int .i64 a0_1]) (ok := fun _ => True) (okp := fun _ => True) ?hr ?hp (fun _ hk => hk) trivial (Below.refl _ _) (Nat.le_refl _) (by simp) ?_; (case hd => rfl); (case hg => rfl); (case hr => first | (go_simp; done) | (go_simp; rfl)); (case hp => exact (Reps.c2 (show Kd.M k48 _ _ _ (⟨a0_0, a0_1⟩ : S48) [.int .i64 a0_0, .int .i64 a0_1] from (k48_mkM _ _ _ (⟨a0_0, a0_1⟩ : S48) )) (Reps.none _ _)))
  intro v585 w14 ho15 hb hg_ hnew_
  clear hg_ hnew_
  (first | rw [← Ny584.out] at ho15 | (simp only [Int.reduceToNat] at ho15; rw [← Ny584.out] at ho15))
  have HO586 := Aside0.mk (Kd.R_lower (Kd.R_newB ho15 (g := gb581) (o := .cells #[.int .i64 a0_0, .int .i64 a0_1] 48 (0, 0)) (bU BK581)) (below_size (lU HB)))
  replace BK581 := sB BK581 hb
  replace BK582 := sB BK582 hb
  replace HB := sL HB hb
  clear hb ho15
  obtain ⟨Ao16, co16, eo16⟩ := Kd.R_slice HO586.out
  (first | subst eo16 | (injection eo16 with f1_ f2_ f3_; have f4_ := f1_.symm; have f5_ := f3_.symm; clear f1_ f2_ f3_; subst f4_; subst f5_))
  refine hK.out _ _ ⟨(blk_cell BK581.out 0).trans rfl, (blk_cell BK581.out 1).trans rfl, (blk_cell BK582.out 0).trans rfl⟩ (fun hHeld => ?_)
  clear hK K
  refine nP (some 9) ?_
  refine one_ (i := 2) (N := some 10) (ma 7 15) rfl rfl (by kernel_rfl) (by decide) (fun K hK => ?_)
  refine gO Try.func22 #[.slice Ao16 y584.length co16] rfl rfl ?_
  with_reducible refine (ranges_Of.calls k _ _ y584 t587 _ (cU (rC HO586)) (rN HO586) A5.out).mono ?_
  rintro e w17 ⟨v588, rfl, ho0, hb⟩
  refine ⟨_, rfl, ?_⟩
  have HO589 := Aside0.mk (Kd.R_lower (Kd.R_newB (Kd.R_new' ho0 (Kd.R_lt (rU HO586.out))) (g := gb581) (o := .cells #[.int .i64 a0_0, .int .i64 a0_1] 48 (0, 0)) (bU BK581)) (below_size (lU HB)))
  replace HO586 := rE HO586 ho0 hb
  replace BK581 := sB BK581 hb
  replace BK582 := sB BK582 hb
  replace HB := sL HB hb
  (try clear hb)
  (try clear hb2)
  (try clear hk)
  (try clear hi)
  (try clear ho0)
  obtain ⟨Ao18, co18, eo18⟩ := Kd.R_slice HO589.out
  (first | subst eo18 | (injection eo18 with f1_ f2_ f3_; have f4_ := f1_.symm; have f5_ := f3_.symm; clear f1_ f2_ f3_; subst f4_; subst f5_))
  refine hK.out _ _ ⟨(blk_cell BK581.out 0).trans rfl, (blk_cell BK581.out 1).trans rfl, (blk_cell BK582.out 0).trans rfl⟩ (fun hHeld => ?_)
  clear hK K
  refine nP (some 10) ?_
  refine one_ (i := 4) (N := some 12) (ma 7 31) rfl rfl (by kernel_rfl) (by decide) (fun K hK => ?_)
  refine gO Try.func28 #[.agg #[.slice Ao18 t587.length co18], .agg #[.slice A1_0 l1_0.length c1_0]] rfl rfl ?_
  with_reducible refine (ranges_Set_Less.calls k _ _ t587 _ _ l1_0 t590 _ (cU (rC HO589)) (rN HO589) (cU (Kd.C_below HR1_0.out HB.out)) HC1_0.out A6.out).mono ?_
  rintro e w19 ⟨v591, rfl, ho0, hb⟩
  refine ⟨_, rfl, ?_⟩
  have HO592 := Aside0.mk (Kd.R_lower (Kd.R_newB (Kd.R_new' (Kd.R_new' ho0 (Kd.R_lt (rU HO586.out))) (Kd.R_lt (rU HO589.out))) (g := gb581) (o := .cells #[.int .i64 a0_0, .int .i64 a0_1] 48 (0, 0)) (bU BK581)) (below_size (lU HB)))
  replace HO586 := rE HO586 ho0 hb
  replace HO589 := rE HO589 ho0 hb
  replace BK581 := sB BK581 hb
  replace BK582 := sB BK582 hb
  replace HB := sL HB hb
  (try clear hb)
  (try clear hb2)
  (try clear hk)
  (try clear hi)
  (try clear ho0)
  obtain ⟨Ao20, co20, eo20⟩ := Kd.R_slice HO592.out
  (first | subst eo20 | (injection eo20 with f1_ f2_ f3_; have f4_ := f1_.symm; have f5_ := f3_.symm; clear f1_ f2_ f3_; subst f4_; subst f5_))
  refine hK.out _ _ ⟨(blk_cell BK581.out 0).trans rfl, (blk_cell BK581.out 1).trans rfl, (blk_cell BK582.out 0).trans rfl⟩ (fun hHeld => ?_)
  clear hK K
  refine nP (some 12) ?_
  refine one_ (i := 5) (N := some 13) (ma 7 63) rfl rfl (by kernel_rfl) (by decide) (fun K hK => ?_)
  refine gO Try.func26 #[.agg #[.slice Ao20 t590.length co20]] rfl rfl ?_
  with_reducible refine (ranges_Set_Len.calls k _ _ t590 t593 _ (cU (rC HO592)) (rN HO592) A7.out).mono ?_
  rintro e w21 ⟨rfl, hb⟩
  refine ⟨_, rfl, ?_⟩
  replace HO586 := rB HO586 hb
  replace HO589 := rB HO589 hb
  replace HO592 := rB HO592 hb
  replace BK581 := sB BK581 hb
  replace BK582 := sB BK582 hb
  replace HB := sL HB hb
  (try clear hb)
  (try clear hb2)
  (try clear hk)
  (try clear hi)
  refine hK.out _ _ ⟨(blk_cell BK581.out 0).trans rfl, (blk_cell BK581.out 1).trans rfl, (blk_cell BK582.out 0).trans rfl⟩ (fun hHeld => ?_)
  clear hK K
  refine nP (some 13) ?_
  refine pure_ (i := 6) (N := some 4) (v := ?_) (a' := ?_) #[true, true, true, true, true, true, true] rfl rfl (by kernel_rfl) (fun _ _ _ h => h) (Or.inl ⟨by rfl, ?_⟩) ?_ ?_
  rotate_left
  ·intro w'
   go_simp
   with_reducible rfl
  rotate_left
  ·simp only [Act.put, List.setIfInBounds_toArray, List.set_cons_zero, List.set_cons_succ, i64_w, i32_w]
   rfl
  refine done_ (by kernel_rfl) ?_
  try go_wp2
  go_ret
  exact ⟨eW, lU HB⟩
 ·replace c4 := Bool.eq_false_iff.mpr c4
  subst c4
  rw [if_neg (show ¬ (false = true) by decide)] at H
  obtain rfl := Option.some.inj H
  go_enter Try.func23, Try.ntmps23
  go_wp2_with (first | ((with_reducible refine gate_dst (N := 2) rfl ?_); refine bX (N := 2) (cs := #[.int .i64 a0_0, .int .i64 a0_1]) (t := 48) ?_; intro gb581 hg w22 hbox hb; have BK581 := Aside0.mk (hbox); have GE581 := sG HB hg; replace HB := sL HB hb; clear hb hbox hg) | ((with_reducible refine gate_dst (N := 3) rfl ?_); refine bX (N := 3) (cs := #[.slice A1_0 l1_0.length c1_0]) (t := 30) ?_; intro gb582 hg w23 hbox hb; have BK582 := Aside0.mk (hbox); have GE582 := sG HB hg; have NB581_582 := sN BK581 hg; have NB582_581 := sM BK581 hg; replace BK581 := sB BK581 hb; replace HB := sL HB hb; clear hb hbox hg; have hnb24 := NB581_582.out; have hnc24 := NB582_581.out; obtain ⟨hcz25_0, hcz25_1⟩ := q2 BK581; obtain ⟨hfz25_0, hfz25_1⟩ := z2 BK581) | ((with_reducible refine gate_callee (f := 49) rfl ?_); refine gL (some 6) rfl rfl Try.func49 #[.agg #[.int .i64 a0_0, .int .i64 a0_1]] rfl ?_; (with_reducible refine (span_Right.calls a0_0 a0_1 false _ A3.out).mono ?_); rintro e w26 ⟨rfl, hb⟩; refine ⟨_, rfl, ?_⟩; replace BK581 := sB BK581 hb; replace BK582 := sB BK582 hb; replace HB := sL HB hb; (try clear hb); (try clear hb2); (try clear hk); (try clear hi)))
  go_ret
  exact ⟨eW, lU HB⟩
-- NOT PRINTED: function 6 (mandolinelaw35_PlanWidens)
-- NOT PRINTED: function 68 (api_Span_68)
-- NOT PRINTED: function 56 (api_Span_56)
end Go.Proofs.Ytnaalaakhdbfbaa.XP
