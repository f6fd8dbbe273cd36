-- Go functions as plain functions, and that the code comes to these answers (printed by a program).
import Derived.Test.YtnaalaakhdbfbaaV5XP0
import Derived.Test.YtnaalaakhdbfbaaV5XP2
import Derived.Test.YtnaalaakhdbfbaaV5XP3
import Derived.Test.YtnaalaakhdbfbaaV5XP7
import Derived.Test.YtnaalaakhdbfbaaV5XP8
namespace Go.Proofs.Ytnaalaakhdbfbaa.XP
open Go.RowKit Go.Proofs.YtnaalaakhdbfbaaW.PrintWords Go.Proofs.YtnaalaakhdbfbaaW.PrintLast Go.Proofs.YtnaalaakhdbfbaaW.PrintMore
attribute [local go_sem] max2_int min2_int max_two min_two max_three min_three max_four min_four
set_option linter.unusedVariables false
set_option linter.unusedSimpArgs false
def plan_Waste.f (k : Nat) (a0_0 : Int) (a0_1 : Int) (l1_0 : List (S48)) : Option (Int) := (span_Right.f a0_0 a0_1).bind fun t583 => (if t583 = true then ((ranges_Of.f k (([(⟨a0_0, a0_1⟩ : S48)] : List (S48)))).bind fun t587 => ((ranges_Set_Less.f k t587 l1_0).bind fun t590 => ((ranges_Set_Len.f k t590).bind fun t593 => (some t593)))) else (some 0))
set_option maxHeartbeats 8000000 in
set_option maxRecDepth 100000 in
theorem plan_Waste.calls (k : Nat) (a0_0 : Int) (a0_1 : Int) (A1_0 : Option Addr) (c1_0 : Nat) (l1_0 : List (S48)) (r : Int) (w : World) (hr1_0 : Kd.C k48 w A1_0 l1_0.length l1_0) (hc1_0 : l1_0.length ≤ c1_0) (h : plan_Waste.f k a0_0 a0_1 l1_0 = some r) :
  Calls Try.prog 23 #[.agg #[.int .i64 a0_0, .int .i64 a0_1], .agg #[.slice A1_0 l1_0.length c1_0]] w fun e w' => e = .returned (.int .i64 r) ∧ Below w.heap.size w w' := by
 have hu48 := Try.underlying48
 have hu30 := Try.underlying30
 have HR1_0 := Aside0.mk hr1_0
 have HC1_0 := Aside0.mk hc1_0
 clear hr1_0 hc1_0
 have HB := Aside0.mk (Below.refl w.heap.size w)
 unfold plan_Waste.f at h
 have H := h
 clear h
 obtain ⟨t583, A3, H⟩ := bO H
 by_cases c4 : t583 = true
 ·subst c4
  rw [if_pos rfl] at H
  obtain ⟨y584, hy584⟩ : ∃ y_ : List (S48), y_ = (([(⟨a0_0, a0_1⟩ : S48)] : List (S48))) := ⟨_, rfl⟩
  replace H : ((ranges_Of.f k y584).bind fun t587 => ((ranges_Set_Less.f k t587 l1_0).bind fun t590 => ((ranges_Set_Len.f k t590).bind fun t593 => (some t593)))) = some r := by first | (rw [hy584]; with_reducible exact H) | (have H2_ := (Option.bind_some _ _).symm.trans H; rw [hy584]; with_reducible exact H2_) | (have H2_ := (Option.bind_some _ _).symm.trans H; with_reducible exact H2_) | with_reducible exact H | (rw [hy584]; exact H) | exact H
  have Ny584 := Aside0.mk hy584
  clear hy584
  obtain ⟨t587, A5, H⟩ := bO H
  obtain ⟨t590, A6, H⟩ := bO H
  obtain ⟨t593, A7, H⟩ := bO H
  obtain rfl := Option.some.inj H
  go_enter Try.func23, Try.ntmps23
  try go_wp2_with (first | ((with_reducible refine gate_dst (N := 2) rfl ?_); refine bX (N := 2) (cs := #[.int .i64 a0_0, .int .i64 a0_1]) (t := 48) ?_; intro gb581 hg w8 hbox hb; have BK581 := Aside0.mk (hbox); have GE581 := sG HB hg; replace HB := sL HB hb; clear hb hbox hg) | ((with_reducible refine gate_dst (N := 3) rfl ?_); refine bX (N := 3) (cs := #[.slice A1_0 l1_0.length c1_0]) (t := 30) ?_; intro gb582 hg w9 hbox hb; have BK582 := Aside0.mk (hbox); have GE582 := sG HB hg; have NB581_582 := sN BK581 hg; have NB582_581 := sM BK581 hg; replace BK581 := sB BK581 hb; replace HB := sL HB hb; clear hb hbox hg; have hnb10 := NB581_582.out; have hnc10 := NB582_581.out; obtain ⟨hcz11_0, hcz11_1⟩ := q2 BK581; obtain ⟨hfz11_0, hfz11_1⟩ := z2 BK581) | ((with_reducible refine gate_callee (f := 49) rfl ?_); refine gL (some 6) rfl rfl Try.func49 #[.agg #[.int .i64 a0_0, .int .i64 a0_1]] rfl ?_; (with_reducible refine (span_Right.calls a0_0 a0_1 true _ A3.out).mono ?_); rintro e w12 ⟨rfl, hb⟩; refine ⟨_, rfl, ?_⟩; replace BK581 := sB BK581 hb; replace BK582 := sB BK582 hb; replace HB := sL HB hb; (try clear hb); (try clear hb2); (try clear hk); (try clear hi)))
  replace BK581 := Aside0.mk (blk_drew BK581.out)
  replace BK582 := Aside0.mk (blk_drew BK582.out)
  replace HB := Aside0.mk (below_drew1 HB.out)
  refine start_ (n := 7) (S := fun w' => w'.cell? ⟨gb581, 0, none⟩ = some (.int .i64 a0_0) ∧ w'.cell? ⟨gb581, 1, none⟩ = some (.int .i64 a0_1) ∧ w'.cell? ⟨gb582, 0, none⟩ = some (.slice A1_0 l1_0.length c1_0)) (ds := []) #[false, false, false, false, false, false, false] (by kernel_rfl) rfl rfl ⟨(blk_cell BK581.out 0).trans rfl, (blk_cell BK581.out 1).trans rfl, (blk_cell BK582.out 0).trans rfl⟩ (fun hHeld => ?_)
  generalize w12.drew = w13 at BK581 BK582 HB hHeld ⊢
  refine take_ (i := 0) (N := some 8) (v := ?_) (a' := ?_) #[true, false, false, false, false, false, false] rfl rfl (by kernel_rfl) (fun _ _ _ h => h) (Or.inl ⟨by rfl, ?_⟩) hHeld ?_ ?_
  rotate_left
  ·rintro w' ⟨s0, s1, s2⟩
   go_simp
   with_reducible rfl
  rotate_left
  ·simp only [Act.put, List.setIfInBounds_toArray, List.set_cons_zero, List.set_cons_succ, i64_w, i32_w]
   rfl
  refine take_ (i := 3) (N := some 11) (v := ?_) (a' := ?_) #[true, false, false, true, false, false, false] rfl rfl (by kernel_rfl) (fun _ _ _ h => h) (Or.inl ⟨by rfl, ?_⟩) hHeld ?_ ?_
  rotate_left
  ·rintro w' ⟨s0, s1, s2⟩
   go_simp
   with_reducible rfl
  rotate_left
  ·simp only [Act.put, List.setIfInBounds_toArray, List.set_cons_zero, List.set_cons_succ, i64_w, i32_w]
   rfl
  refine one_ (i := 1) (N := some 9) (ma 7 11) rfl rfl (by kernel_rfl) (by decide) (fun K hK => ?_)
  refine Kd.R_lit_step k48 _ 48 ?hg (N := 9) ?hd (xs := ([(⟨a0_0, a0_1⟩ : S48)] : List (S48))) (inner := [.int .i64 a0_0, .int .i64 a0_1]) (ok := fun _ => True) (okp := fun _ => True) ?hr ?hp (fun _ hk => hk) trivial (Below.refl _ _) (Nat.le_refl _) (by simp) ?_; (case hd => rfl); (case hg => rfl); (case hr => first | (go_simp; done) | (go_simp; rfl)); (case hp => exact (Reps.c2 (show Kd.M k48 _ _ _ (⟨a0_0, a0_1⟩ : S48) [.int .i64 a0_0, .int .i64 a0_1] from (k48_mkM _ _ _ (⟨a0_0, a0_1⟩ : S48) )) (Reps.none _ _)))
  intro v585 w14 ho15 hb hg_ hnew_
  clear hg_ hnew_
  (first | rw [← Ny584.out] at ho15 | (simp only [Int.reduceToNat] at ho15; rw [← Ny584.out] at ho15))
  have HO586 := Aside0.mk (Kd.R_lower (Kd.R_newB ho15 (g := gb581) (o := .cells #[.int .i64 a0_0, .int .i64 a0_1] 48 (0, 0)) (bU BK581)) (below_size (lU HB)))
  replace BK581 := sB BK581 hb
  replace BK582 := sB BK582 hb
  replace HB := sL HB hb
  clear hb ho15
  obtain ⟨Ao16, co16, eo16⟩ := Kd.R_slice HO586.out
  (first | subst eo16 | (injection eo16 with f1_ f2_ f3_; have f4_ := f1_.symm; have f5_ := f3_.symm; clear f1_ f2_ f3_; subst f4_; subst f5_))
  refine hK.out _ _ ⟨(blk_cell BK581.out 0).trans rfl, (blk_cell BK581.out 1).trans rfl, (blk_cell BK582.out 0).trans rfl⟩ (fun hHeld => ?_)
  clear hK K
  refine nP (some 9) ?_
  refine one_ (i := 2) (N := some 10) (ma 7 15) rfl rfl (by kernel_rfl) (by decide) (fun K hK => ?_)
  refine gO Try.func22 #[.slice Ao16 y584.length co16] rfl rfl ?_
  with_reducible refine (ranges_Of.calls k _ _ y584 t587 _ (cU (rC HO586)) (rN HO586) A5.out).mono ?_
  rintro e w17 ⟨v588, rfl, ho0, hb⟩
  refine ⟨_, rfl, ?_⟩
  have HO589 := Aside0.mk (Kd.R_lower (Kd.R_newB (Kd.R_new' ho0 (Kd.R_lt (rU HO586.out))) (g := gb581) (o := .cells #[.int .i64 a0_0, .int .i64 a0_1] 48 (0, 0)) (bU BK581)) (below_size (lU HB)))
  replace HO586 := rE HO586 ho0 hb
  replace BK581 := sB BK581 hb
  replace BK582 := sB BK582 hb
  replace HB := sL HB hb
  (try clear hb)
  (try clear hb2)
  (try clear hk)
  (try clear hi)
  (try clear ho0)
  obtain ⟨Ao18, co18, eo18⟩ := Kd.R_slice HO589.out
  (first | subst eo18 | (injection eo18 with f1_ f2_ f3_; have f4_ := f1_.symm; have f5_ := f3_.symm; clear f1_ f2_ f3_; subst f4_; subst f5_))
  refine hK.out _ _ ⟨(blk_cell BK581.out 0).trans rfl, (blk_cell BK581.out 1).trans rfl, (blk_cell BK582.out 0).trans rfl⟩ (fun hHeld => ?_)
  clear hK K
  refine nP (some 10) ?_
  refine one_ (i := 4) (N := some 12) (ma 7 31) rfl rfl (by kernel_rfl) (by decide) (fun K hK => ?_)
  refine gO Try.func28 #[.agg #[.slice Ao18 t587.length co18], .agg #[.slice A1_0 l1_0.length c1_0]] rfl rfl ?_
  with_reducible refine (ranges_Set_Less.calls k _ _ t587 _ _ l1_0 t590 _ (cU (rC HO589)) (rN HO589) (cU (Kd.C_below HR1_0.out HB.out)) HC1_0.out A6.out).mono ?_
  rintro e w19 ⟨v591, rfl, ho0, hb⟩
  refine ⟨_, rfl, ?_⟩
  have HO592 := Aside0.mk (Kd.R_lower (Kd.R_newB (Kd.R_new' (Kd.R_new' ho0 (Kd.R_lt (rU HO586.out))) (Kd.R_lt (rU HO589.out))) (g := gb581) (o := .cells #[.int .i64 a0_0, .int .i64 a0_1] 48 (0, 0)) (bU BK581)) (below_size (lU HB)))
  replace HO586 := rE HO586 ho0 hb
  replace HO589 := rE HO589 ho0 hb
  replace BK581 := sB BK581 hb
  replace BK582 := sB BK582 hb
  replace HB := sL HB hb
  (try clear hb)
  (try clear hb2)
  (try clear hk)
  (try clear hi)
  (try clear ho0)
  obtain ⟨Ao20, co20, eo20⟩ := Kd.R_slice HO592.out
  (first | subst eo20 | (injection eo20 with f1_ f2_ f3_; have f4_ := f1_.symm; have f5_ := f3_.symm; clear f1_ f2_ f3_; subst f4_; subst f5_))
  refine hK.out _ _ ⟨(blk_cell BK581.out 0).trans rfl, (blk_cell BK581.out 1).trans rfl, (blk_cell BK582.out 0).trans rfl⟩ (fun hHeld => ?_)
  clear hK K
  refine nP (some 12) ?_
  refine one_ (i := 5) (N := some 13) (ma 7 63) rfl rfl (by kernel_rfl) (by decide) (fun K hK => ?_)
  refine gO Try.func26 #[.agg #[.slice Ao20 t590.length co20]] rfl rfl ?_
  with_reducible refine (ranges_Set_Len.calls k _ _ t590 t593 _ (cU (rC HO592)) (rN HO592) A7.out).mono ?_
  rintro e w21 ⟨rfl, hb⟩
  refine ⟨_, rfl, ?_⟩
  replace HO586 := rB HO586 hb
  replace HO589 := rB HO589 hb
  replace HO592 := rB HO592 hb
  replace BK581 := sB BK581 hb
  replace BK582 := sB BK582 hb
  replace HB := sL HB hb
  (try clear hb)
  (try clear hb2)
  (try clear hk)
  (try clear hi)
  refine hK.out _ _ ⟨(blk_cell BK581.out 0).trans rfl, (blk_cell BK581.out 1).trans rfl, (blk_cell BK582.out 0).trans rfl⟩ (fun hHeld => ?_)
  clear hK K
  refine nP (some 13) ?_
  refine pure_ (i := 6) (N := some 4) (v := ?_) (a' := ?_) #[true, true, true, true, true, true, true] rfl rfl (by kernel_rfl) (fun _ _ _ h => h) (Or.inl ⟨by rfl, ?_⟩) ?_ ?_
  rotate_left
  ·intro w'
   go_simp
   with_reducible rfl
  rotate_left
  ·simp only [Act.put, List.setIfInBounds_toArray, List.set_cons_zero, List.set_cons_succ, i64_w, i32_w]
   rfl
  refine done_ (by kernel_rfl) ?_
  try go_wp2
  go_ret
  exact ⟨eW, lU HB⟩
 ·replace c4 := Bool.eq_false_iff.mpr c4
  subst c4
  rw [if_neg (show ¬ (false = true) by decide)] at H
  obtain rfl := Option.some.inj H
  go_enter Try.func23, Try.ntmps23
  go_wp2_with (first | ((with_reducible refine gate_dst (N := 2) rfl ?_); refine bX (N := 2) (cs := #[.int .i64 a0_0, .int .i64 a0_1]) (t := 48) ?_; intro gb581 hg w22 hbox hb; have BK581 := Aside0.mk (hbox); have GE581 := sG HB hg; replace HB := sL HB hb; clear hb hbox hg) | ((with_reducible refine gate_dst (N := 3) rfl ?_); refine bX (N := 3) (cs := #[.slice A1_0 l1_0.length c1_0]) (t := 30) ?_; intro gb582 hg w23 hbox hb; have BK582 := Aside0.mk (hbox); have GE582 := sG HB hg; have NB581_582 := sN BK581 hg; have NB582_581 := sM BK581 hg; replace BK581 := sB BK581 hb; replace HB := sL HB hb; clear hb hbox hg; have hnb24 := NB581_582.out; have hnc24 := NB582_581.out; obtain ⟨hcz25_0, hcz25_1⟩ := q2 BK581; obtain ⟨hfz25_0, hfz25_1⟩ := z2 BK581) | ((with_reducible refine gate_callee (f := 49) rfl ?_); refine gL (some 6) rfl rfl Try.func49 #[.agg #[.int .i64 a0_0, .int .i64 a0_1]] rfl ?_; (with_reducible refine (span_Right.calls a0_0 a0_1 false _ A3.out).mono ?_); rintro e w26 ⟨rfl, hb⟩; refine ⟨_, rfl, ?_⟩; replace BK581 := sB BK581 hb; replace BK582 := sB BK582 hb; replace HB := sL HB hb; (try clear hb); (try clear hb2); (try clear hk); (try clear hi)))
  go_ret
  exact ⟨eW, lU HB⟩
-- NOT PRINTED: function 6 (mandolinelaw35_PlanWidens)
-- NOT PRINTED: function 68 (api_Span_68)
-- NOT PRINTED: function 56 (api_Span_56)
set_option maxRecDepth 100000 in
set_option maxHeartbeats 1000000 in
theorem grow_any (n : Nat) (hn : n ≤ 1000000) (w : World) : Calls Try.prog 68 #[.slice none 0 0, .int .i64 n] w fun e w' =>
  ∃ v, e = .returned v ∧ w'.ownsRow w.heap.size 48 2 v 0 [] ∧ Below w.heap.size w w' := by
 have hn' : (n : Int) ≤ 1000000 := by omega
 have h0 : decide ((n : Int) < 0) = false := by simp <;> omega
 by_cases hz : n = 0
 ·subst hz
  go_enter Try.func68, Try.ntmps68
  go_wp2
  go_ret
  exact ⟨_, rfl, ⟨rfl, .inl ⟨rfl, rfl⟩⟩, Below.refl _ _⟩
 ·have hp : 0 < n := by omega
  have hp' : (0 : Int) < (n : Int) := by omega
  have hd : decide ((0 : Int) < (n : Int)) = true := by simp; omega
  have hzero : k48.M w w.heap.size (fun _ => False) z48 (Value.agg #[.int .i64 0, .int .i64 0]).cells.toList := k48_mkM w w.heap.size (fun _ => False) z48
  have HL := Lib.hid (show (([] : List S48).length + ((n : Int)).toNat) * 16 ≤ 140737488355328 by simp; omega)
  go_enter Try.func68, Try.ntmps68
  go_wp2_with (at_builtin; go_must (refine Kd.R_append_zeros k48 (w0 := w) w.heap.size rfl _ _ 22 3 48 (.agg #[.int .i64 0, .int .i64 0]) 16 rfl Try.underlying22 Try.underlying3 infoSpan rfl (by decide) (by decide) (.slice none 0 0) ([] : List S48) z48 (n : Int) (fun _ => True) rfl rfl hzero (fun _ _ => trivial) (Kd.R_nil _ _ _ _ _) (by omega) (Below.refl _ _) (Nat.le_refl _) HL.out ?_); intro v1 w1 hR hB1 _ _; obtain ⟨_, inner, hown, _⟩ := hR; rcases hown.2 with ⟨_, hx⟩ | ⟨g, cap, cur, rfl, hbg, hh, hnc, hcm, hcs, htk⟩; (exfalso; simp at hx; omega); have hcap : ¬ (cap = 0) := by (simp at hnc; omega))
  go_ret
  exact ⟨_, rfl, ⟨rfl, .inr ⟨g, cap, cur, rfl, hbg, hh, Nat.zero_le _, hcm, hcs, by simp⟩⟩, hB1⟩
/-- An element of a row of rows. -/
theorem rows_at {w : World} {A : Option Addr} {l : List (List S48)} (h : Kd.C (Kd.slice 48 k48) w A l.length l) (j : Nat) (hj : j < l.length) :
  ∃ ad B c, A = some ad ∧ w.cell? (ad.add j) = some (.slice B l[j].length c) ∧ Kd.C k48 w B l[j].length l[j] := by
 obtain ⟨ad, cs, e, hl, hk, hc⟩ := Kd.C_get h [] (j : Int) (by omega) (by omega)
 obtain ⟨B, c, rfl, hlc, hC⟩ := hk
 have he : l.getD ((j : Int)).toNat [] = l[j] := by rw [Int.toNat_natCast, List.getD_eq_getElem?_getD, List.getElem?_eq_getElem hj]; rfl
 rw [he] at hC hc
 have := hc 0 _ rfl
 rw [Int.toNat_natCast, show (Kd.slice 48 k48).sz = 1 from rfl, Nat.mul_one, Nat.add_zero] at this
 exact ⟨ad, B, c, e, this, hC⟩
def tot (l : List (List S48)) : Nat := (l.map List.length).sum
theorem tot_take (l : List (List S48)) (j : Nat) (hj : j < l.length) : tot (l.take (j + 1)) = tot (l.take j) + l[j].length := by
 unfold tot
 rw [List.take_succ_eq_append_getElem hj, List.map_append, List.sum_append]
 simp
theorem tot_le (l : List (List S48)) (j : Nat) : tot (l.take j) ≤ tot l := by
 have e : l = l.take j ++ l.drop j := (List.take_append_drop j l).symm
 have : tot l = tot (l.take j) + tot (l.drop j) := by
  unfold tot
  rw [← List.sum_append, ← List.map_append, ← e]
 omega
theorem flatten_take (l : List (List S48)) (j : Nat) (hj : j < l.length) : (l.take (j + 1)).flatten = (l.take j).flatten ++ l[j] := by
 rw [List.take_succ_eq_append_getElem hj, List.flatten_append]
 simp
theorem flatten_len (l : List (List S48)) (j : Nat) : ((l.take j).flatten).length = tot (l.take j) := by simp [tot, List.length_flatten]
theorem flatS_append (a b : List S48) : flatS (a ++ b) = flatS a ++ flatS b := by simp [flatS]
set_option maxRecDepth 100000 in
set_option maxHeartbeats 4000000 in
theorem concat_any (A0 : Option Addr) (c0 : Nat) (l0 : List (List S48)) (w : World) (hr0 : Kd.C (Kd.slice 48 k48) w A0 l0.length l0) (hlen : l0.length ≤ 1000) (ht : tot l0 ≤ 1000000) :
  Calls Try.prog 56 #[.slice A0 l0.length c0] w fun e w' => ∃ v0_ : Value, e = .returned (v0_) ∧ Kd.R k48 48 w' w.heap.size (fun _ => True) v0_ l0.flatten ∧ Below w.heap.size w w' := by
 have hl' : (l0.length : Int) ≤ 1000 := by omega
 obtain ⟨i0, hi0, hz0, hz1, hz2⟩ := info_parts infoSpan
 go_enter Try.func56, Try.ntmps56
 go_wp2_with fail
 go_loopg [3, 11] (l0.length) (fun n sv iv wq => ∃ i : Nat, i ≤ l0.length ∧ iv = .int .i64 i ∧ sv = .int .i64 (tot (l0.take i)) ∧ n = l0.length - i ∧ w = wq)
 case atStart => exact ⟨0, by omega, rfl, by simp [tot], rfl, rfl⟩
 case round =>
  obtain ⟨i, hi, rfl, rfl, hgi, rfl⟩ := hrel
  have Agi : Aside (gk = l0.length - i) := hgi
  clear hgi
  have hti := tot_le l0 i
  by_cases hlt : i < l0.length
  ·obtain ⟨ad, B, cB, rfl, p0, hCB⟩ := rows_at hr0 i hlt
   have htt := tot_take l0 i hlt
   have ht2 := tot_le l0 (i + 1)
   obtain ⟨x, hx⟩ : ∃ x, x = l0[i] := ⟨_, rfl⟩
   rw [← hx] at p0 hCB htt
   have hsum : (x.length : Int) ≤ 1000000 := by omega
   have hsum2 : ((tot (l0.take i) : Nat) : Int) + (x.length : Int) ≤ 1000000 := by omega
   have hneg : decide (((tot (l0.take i) : Nat) : Int) + (x.length : Int) < 0) = false := by simp; omega
   have Htt := Lib.hid htt
   clear htt hx
   go_wp2_with fail
   go_roundg (l0.length - (i + 1))
   case measure => have := Agi.out; omega
   exact ⟨i + 1, by omega, by simp, by rw [Htt.out]; simp, rfl, rfl⟩
  ·have hie : i = l0.length := by omega
   subst hie
   rw [List.take_length] at *
   have hgr := grow_any (tot l0) (by omega) w
   go_wp2_with fail
   refine hgr.mono ?_
   rintro e w2 ⟨v, rfl, hown, hB2⟩
   have hC2 := Kd.C_below hr0 hB2
   go_wp2_with fail
   go_loopg [6, 27] (l0.length) (fun n vv iv wq => ∃ i : Nat, i ≤ l0.length ∧ iv = .int .i64 i ∧ n = l0.length - i ∧ wq.ownsRow w.heap.size 48 2 vv (tot (l0.take i)) (flatS (l0.take i).flatten) ∧ Below w.heap.size w wq)
   case atStart => exact ⟨0, by omega, rfl, rfl, by simpa [tot, flatS] using hown, hB2⟩
   case round =>
    obtain ⟨i, hi, rfl, hgi, howni, hBi⟩ := hrel
    have Agi : Aside (gk = l0.length - i) := hgi
    clear hgi
    have hti := tot_le l0 i
    by_cases hlt : i < l0.length
    ·obtain ⟨ad, B, cB, rfl, p0, hCB⟩ := rows_at (Kd.C_below hr0 hBi) i hlt
     have htt := Lib.hid (tot_take l0 i hlt)
     have hft := Lib.hid (flatten_take l0 i hlt)
     have ht2 := tot_le l0 (i + 1)
     have htt2 := tot_take l0 i hlt
     obtain ⟨x, hx⟩ : ∃ x, x = l0[i] := ⟨_, rfl⟩
     rw [← hx] at p0 hCB htt hft htt2
     have HL1 := Lib.hid (show tot (l0.take i) + x.length ≤ maxLen by unfold maxLen; omega)
     have HL2 := Lib.hid (show (tot (l0.take i) + x.length) * 16 ≤ 140737488355328 by omega)
     clear hx htt2 hown hC2 hgr
     have hbs : w.heap.size ≤ wr.heap.size := hBi.size
     cases B with
     | none =>
      have hx0 : x = [] := by
       cases x with
       | nil => rfl
       | cons y x => obtain ⟨_, e, _⟩ := CS_cells hCB (by simp); cases e
      subst hx0
      have hk1 : (tot (l0.take i) : Int) ≤ 1000000 := by omega
      have hown0 := Lib.hid howni
      obtain ⟨hle, ⟨rfl, hk0⟩ | ⟨g, cap, cur, rfl, hbg, hhg, hcl, hcm, hcs, hct⟩⟩ := howni
      ·go_wp2_with fail
       go_roundg (l0.length - (i + 1))
       case measure => have := Agi.out; omega
       refine ⟨i + 1, by omega, by simp, rfl, ?_, hBi⟩
       rw [htt.out, hft.out, flatS_append]
       have h := hown0.out
       simpa [flatS] using h
      ·go_wp2_with fail
       go_roundg (l0.length - (i + 1))
       case measure => have := Agi.out; omega
       refine ⟨i + 1, by omega, by simp, rfl, ?_, hBi⟩
       rw [htt.out, hft.out, flatS_append]
       have h := hown0.out
       simpa [flatS] using h
     | some ab =>
      have HC := Lib.hid (show ∀ j u, (flatS x)[j]? = some u → wr.cell? (ab.add j) = some u from by
       intro j u hj
       have hpos : 0 < x.length := by
        cases x with
        | nil => simp [flatS] at hj
        | cons y x => simp
       obtain ⟨ad, e, hc⟩ := CS_cells hCB hpos
       cases e
       exact hc j u hj)
      clear hCB
      go_wp2_with (at_builtin; go_must (refine wpList_append_own _ rfl _ _ 22 rfl w.heap.size 48 i0 (.agg #[.int .i64 0, .int .i64 0]) 2 16 Try.underlying22 hi0 hz0 hz1 hz2 rfl (by decide) _ _ _ rfl howni ab x.length cB (flatS x) rfl (flatS_length x) HC.out (flatS_one x) HL1.out HL2.out hbs ?_); intro v' w3 hown' hgrow _)
      go_roundg (l0.length - (i + 1))
      case measure => have := Agi.out; omega
      refine ⟨i + 1, by omega, by simp, rfl, ?_, hBi.grown hgrow hbs (fun k e => own_base howni k e)⟩
      rw [htt.out, hft.out, flatS_append]
      exact hown'
    ·have hie : i = l0.length := by omega
     subst hie
     rw [List.take_length] at howni
     go_wp2
     go_ret
     refine ⟨_, rfl, RS_of_own ?_, hBi⟩
     have e : l0.flatten.length = tot l0 := by have := flatten_len l0 l0.length; rwa [List.take_length] at this
     rw [e]
     exact howni
theorem C_two {w : World} {ad : Addr} {A0 A1 : Option Addr} {c0 c1 : Nat} {l0 l1 : List S48} (p0 : w.cell? ad = some (.slice A0 l0.length c0)) (p1 : w.cell? (ad.add 1) = some (.slice A1 l1.length c1)) (h0 : Kd.C k48 w A0 l0.length l0) (hc0 : l0.length ≤ c0) (h1 : Kd.C k48 w A1 l1.length l1) (hc1 : l1.length ≤ c1) :
  Kd.C (Kd.slice 48 k48) w (some ad) [l0, l1].length [l0, l1] := by
 refine ⟨rfl, by simp, fun _ => ⟨ad, rfl, ?_⟩⟩
 intro j p hj
 match j with
 | 0 =>
  simp at hj; subst hj
  refine ⟨[.slice A0 l0.length c0], rfl, ⟨A0, c0, rfl, hc0, h0⟩, fun i u hu => ?_⟩
  match i with
  | 0 => simp at hu; subst hu; simpa [Addr.add] using p0
  | i + 1 => simp at hu
 | 1 =>
  simp at hj; subst hj
  refine ⟨[.slice A1 l1.length c1], rfl, ⟨A1, c1, rfl, hc1, h1⟩, fun i u hu => ?_⟩
  match i with
  | 0 => simp at hu; subst hu; exact p1
  | i + 1 => simp at hu
 | j + 2 => simp at hj
def ranges_Set_Or.f (k : Nat) (l0_0 : List S48) (l1_0 : List S48) : Option (List S48) := if l0_0.length + l1_0.length ≤ 1000000 then ranges_Of.f k (l0_0 ++ l1_0) else none
set_option maxRecDepth 100000 in
set_option maxHeartbeats 4000000 in
theorem ranges_Set_Or.calls (k : Nat) (A0_0 : Option Addr) (c0_0 : Nat) (l0_0 : List S48) (A1_0 : Option Addr) (c1_0 : Nat) (l1_0 : List S48) (r : List S48) (w : World) (hr0_0 : Kd.C k48 w A0_0 l0_0.length l0_0) (hc0_0 : l0_0.length ≤ c0_0) (hr1_0 : Kd.C k48 w A1_0 l1_0.length l1_0) (hc1_0 : l1_0.length ≤ c1_0) (h : ranges_Set_Or.f k l0_0 l1_0 = some r) :
  Calls Try.prog 27 #[.agg #[.slice A0_0 l0_0.length c0_0], .agg #[.slice A1_0 l1_0.length c1_0]] w fun e w' => ∃ v0_ : Value, e = .returned (.agg #[v0_]) ∧ Kd.R k48 48 w' w.heap.size (fun _ => True) v0_ r ∧ Below w.heap.size w w' := by
 unfold ranges_Set_Or.f at h
 split at h
 ·rename_i hlt
  have hb := ((((Below.refl w.heap.size w).alloc (Nat.le_refl _) (.cells #[.slice A0_0 l0_0.length c0_0] 30)).alloc (by simp <;> omega) (.cells #[.slice A1_0 l1_0.length c1_0] 30)).alloc (by simp <;> omega) (.cells #[.slice none 0 0] 30)).alloc (by simp <;> omega) (.cells #[.slice A0_0 l0_0.length c0_0, .slice A1_0 l1_0.length c1_0] 22)
  go_enter Try.func27, Try.ntmps27
  go_wp2_with fail
  obtain ⟨w3, hw3⟩ : ∃ w3, w3 = ((w.alloc (.cells #[.slice A0_0 l0_0.length c0_0] 30)).alloc (.cells #[.slice A1_0 l1_0.length c1_0] 30)).alloc (.cells #[.slice none 0 0] 30) := ⟨_, rfl⟩
  have hs3 : w3.heap.size = w.heap.size + 1 + 1 + 1 := by rw [hw3]; simp
  have p0 := heap_alloc_new w3 (.cells #[.slice A0_0 l0_0.length c0_0, .slice A1_0 l1_0.length c1_0] 22)
  have q0 : w3.heap[w.heap.size + 1 + 1]? = some (.cells #[.slice none 0 0] 30 (0, 0)) := by
   rw [hw3]; have := heap_alloc_new ((w.alloc (.cells #[.slice A0_0 l0_0.length c0_0] 30)).alloc (.cells #[.slice A1_0 l1_0.length c1_0] 30)) (.cells #[.slice none 0 0] 30)
   simpa using this
  rw [← hw3] at hb ⊢
  rw [← hs3]
  have HS := Lib.hid hs3
  clear hs3 hw3
  obtain ⟨w4, hw4⟩ : ∃ w4, w4 = w3.alloc (.cells #[.slice A0_0 l0_0.length c0_0, .slice A1_0 l1_0.length c1_0] 22) := ⟨_, rfl⟩
  have q1 : w4.heap[w.heap.size + 1 + 1]? = some (.cells #[.slice none 0 0] 30 (0, 0)) := by
   rw [hw4]
   exact ((Below.refl w3.heap.size w3).alloc (Nat.le_refl _) _ |>.block _ (Array.getElem?_eq_some_iff.1 q0).1).trans q0
  rw [← hw4] at hb p0 ⊢
  clear hw4 q0
  refine (concat_any _ 2 [l0_0, l1_0] _ (C_two (cell_of_row _ _ 0 _ _ _ p0) (cell_of_row _ _ 1 _ _ _ p0) (Kd.C_below hr0_0 hb) hc0_0 (Kd.C_below hr1_0 hb) hc1_0) (by simp) (by simp [tot]; omega)).mono ?_
  rintro e w5 ⟨v2, rfl, hR2, hB2⟩
  have hB3 := hb.trans (hB2.mono hb.size)
  obtain ⟨A2, c2, rfl, hc2, hC2⟩ := Kd.R_reads hR2
  have hfl : [l0_0, l1_0].flatten = l0_0 ++ l1_0 := by simp
  rw [hfl] at hC2 hc2
  have q2 := (hB2.block _ (Array.getElem?_eq_some_iff.1 q1).1).trans q1
  clear hfl
  go_wp2_with fail
  rw [← List.length_append]
  refine (ranges_Of.calls _ _ _ _ _ _ hC2 hc2 h).mono ?_
  rintro e w6 ⟨v3, rfl, hR3, hB4⟩
  obtain ⟨A3, c3, rfl, hc3, hC3⟩ := Kd.R_reads hR3
  have q3 := (hB4.block _ (Array.getElem?_eq_some_iff.1 q2).1).trans q2
  have f3 := frozen_of_row w6 _ 0 _ _ q3
  have e3 := cell_of_row w6 _ 0 _ _ _ q3
  simp at e3
  have hB5 := hB3.trans (hB4.mono hB3.size)
  have q4 : (w6.setCell ⟨w.heap.size + 1 + 1, 0, none⟩ (.slice A3 r.length c3)).heap[w.heap.size + 1 + 1]? = some (.cells #[.slice A3 r.length c3] 30 (0, 0)) := by
   have := heap_setCell_same w6 _ 0 _ _ (.slice A3 r.length c3) q3
   simpa using this
  have e4 := cell_of_row _ _ 0 _ _ _ q4
  simp at e4
  go_wp2_with fail
  refine bodyPost_ret (v := .agg #[.slice A3 r.length c3]) (by simp [results, Try.results27, go_sem, e4]) rfl ⟨_, rfl, ?_, hB5.setCell (by simp <;> omega) _⟩
  exact Kd.R_mono (Kd.R_set (Kd.R_lower hR3 hB3.size) q3 (by simp [k48, Kd.iso, Kd.pair, Kd.int, Kd.scalar]) 0 _) (fun _ _ => trivial)
 ·cases h
end Go.Proofs.Ytnaalaakhdbfbaa.XP
