-- Go functions as plain functions, and that the code comes to these answers (printed by a program).
import Derived.Test.YtnaalaakhdbfbaaV4XP0
import Derived.Test.YtnaalaakhdbfbaaV4XP13
import Derived.Test.YtnaalaakhdbfbaaV4XP17
namespace Go.Proofs.Ytnaalaakhdbfbaa.XP
open Go.RowKit Go.Proofs.YtnaalaakhdbfbaaW.PrintWords Go.Proofs.YtnaalaakhdbfbaaW.PrintLast Go.Proofs.YtnaalaakhdbfbaaW.PrintMore
attribute [local go_sem] max2_int min2_int max_two min_two max_three min_three max_four min_four
set_option linter.unusedVariables false
set_option linter.unusedSimpArgs false
def mandolineref02_Holds.f (k : Nat) (l0 : List (S48)) (a1_0 : Int) (a1_1 : Int) : Option (Bool) := (mandolineref01_Right.f a1_0 a1_1).bind fun t427 => (if t427 = true then ((mandolineref02_Less.f k (([(⟨a1_0, a1_1⟩ : S48)] : List (S48))) l0).bind fun t431 => (some ((t431.length : Int) == 0))) else (some false))
set_option maxHeartbeats 8000000 in
set_option maxRecDepth 100000 in
theorem mandolineref02_Holds.calls (k : Nat) (A0 : Option Addr) (c0 : Nat) (l0 : List (S48)) (a1_0 : Int) (a1_1 : Int) (r : Bool) (w : World) (hr0 : Kd.C k48 w A0 l0.length l0) (hc0 : l0.length ≤ c0) (h : mandolineref02_Holds.f k l0 a1_0 a1_1 = some r) :
  Calls Try.prog 61 #[.slice A0 l0.length c0, .agg #[.int .i64 a1_0, .int .i64 a1_1]] w fun e w' => e = .returned (.bool r) ∧ Below w.heap.size w w' := by
 have hu48 := Try.underlying48
 have HR0 := Aside0.mk hr0
 have HC0 := Aside0.mk hc0
 clear hr0 hc0
 have HB := Aside0.mk (Below.refl w.heap.size w)
 unfold mandolineref02_Holds.f at h
 have H := h
 clear h
 obtain ⟨t427, A3, H⟩ := bO H
 by_cases c4 : t427 = true
 ·subst c4
  rw [if_pos rfl] at H
  obtain ⟨y428, hy428⟩ : ∃ y_ : List (S48), y_ = (([(⟨a1_0, a1_1⟩ : S48)] : List (S48))) := ⟨_, rfl⟩
  replace H : ((mandolineref02_Less.f k y428 l0).bind fun t431 => (some ((t431.length : Int) == 0))) = some r := by first | (rw [hy428]; with_reducible exact H) | (have H2_ := (Option.bind_some _ _).symm.trans H; rw [hy428]; with_reducible exact H2_) | (have H2_ := (Option.bind_some _ _).symm.trans H; with_reducible exact H2_) | with_reducible exact H | (rw [hy428]; exact H) | exact H
  have Ny428 := Aside0.mk hy428
  clear hy428
  obtain ⟨t431, A5, H⟩ := bO H
  obtain rfl := Option.some.inj H
  go_enter Try.func61, Try.ntmps61
  go_wp2_with (first | ((with_reducible refine gate_dst (N := 3) rfl ?_); (try (refine gate_guard (by rfl) ?_; dsimp only)); refine bX (N := 3) (cs := #[.int .i64 a1_0, .int .i64 a1_1]) (t := 48) ?_; intro gb426 hg w6 hbox hb; have BK426 := Aside0.mk (hbox); have GE426 := sG HB hg; replace HB := sL HB hb; clear hb hbox hg; obtain ⟨hcz7_0, hcz7_1⟩ := q2 BK426; obtain ⟨hfz7_0, hfz7_1⟩ := z2 BK426) | ((with_reducible refine gate_callee (f := 53) rfl ?_); refine gL (some 6) rfl rfl Try.func53 #[.agg #[.int .i64 a1_0, .int .i64 a1_1]] rfl ?_; (with_reducible refine (mandolineref01_Right.calls a1_0 a1_1 true _ A3.out).mono ?_); rintro e w8 ⟨rfl, hb⟩; refine ⟨_, rfl, ?_⟩; replace BK426 := sB BK426 hb; replace HB := sL HB hb; (try clear hb); (try clear hb2); (try clear hk); (try clear hi); obtain ⟨hcz9_0, hcz9_1⟩ := q2 BK426; obtain ⟨hfz9_0, hfz9_1⟩ := z2 BK426) | ((with_reducible refine gate_dst (N := 9) rfl ?_); (try (refine gate_guard (by rfl) ?_; dsimp only)); refine Kd.R_lit k48 _ 48 ?hg (N := 9) ?hd (xs := ([(⟨a1_0, a1_1⟩ : S48)] : List (S48))) (inner := [.int .i64 a1_0, .int .i64 a1_1]) (ok := fun _ => True) (okp := fun _ => True) ?hr ?hp (fun _ hk => hk) trivial (Below.refl _ _) (Nat.le_refl _) (by simp) ?_; (case hd => rfl); (case hg => rfl); (case hr => first | (go_simp; done) | (go_simp; rfl)); (case hp => exact (Reps.c2 (show Kd.M k48 _ _ _ (⟨a1_0, a1_1⟩ : S48) [.int .i64 a1_0, .int .i64 a1_1] from (k48_mkM _ _ _ (⟨a1_0, a1_1⟩ : S48) )) (Reps.none _ _))); intro v429 w10 ho11 hb hg_ hnew_; clear hg_ hnew_; (first | rw [← Ny428.out] at ho11 | (simp only [Int.reduceToNat] at ho11; rw [← Ny428.out] at ho11)); have HO430 := Aside0.mk (Kd.R_lower (Kd.R_newB ho11 (g := gb426) (o := .cells #[.int .i64 a1_0, .int .i64 a1_1] 48 (0, 0)) (bU BK426)) (below_size (lU HB))); replace BK426 := sB BK426 hb; replace HB := sL HB hb; clear hb ho11; obtain ⟨Ao12, co12, eo12⟩ := Kd.R_slice HO430.out; subst eo12) | (go_at_call 38; (with_reducible refine (mandolineref02_Less.calls k _ _ y428 _ _ l0 t431 _ (cU (rC HO430)) (rN HO430) (cU (Kd.C_below HR0.out HB.out)) HC0.out A5.out).mono ?_); rintro e w13 ⟨v432, rfl, ho0, hb⟩; have HO433 := Aside0.mk (Kd.R_lower (Kd.R_newB (Kd.R_new' ho0 (Kd.R_lt (rU HO430.out))) (g := gb426) (o := .cells #[.int .i64 a1_0, .int .i64 a1_1] 48 (0, 0)) (bU BK426)) (below_size (lU HB))); replace HO430 := rE HO430 ho0 hb; replace BK426 := sB BK426 hb; replace HB := sL HB hb; (try clear hb); (try clear hb2); (try clear hk); (try clear hi); (try clear ho0); obtain ⟨Ao14, co14, eo14⟩ := Kd.R_slice HO433.out; subst eo14))
  go_ret
  exact ⟨eW, lU HB⟩
 ·replace c4 := Bool.eq_false_iff.mpr c4
  subst c4
  rw [if_neg (show ¬ (false = true) by decide)] at H
  obtain rfl := Option.some.inj H
  go_enter Try.func61, Try.ntmps61
  go_wp2_with (first | ((with_reducible refine gate_dst (N := 3) rfl ?_); (try (refine gate_guard (by rfl) ?_; dsimp only)); refine bX (N := 3) (cs := #[.int .i64 a1_0, .int .i64 a1_1]) (t := 48) ?_; intro gb426 hg w15 hbox hb; have BK426 := Aside0.mk (hbox); have GE426 := sG HB hg; replace HB := sL HB hb; clear hb hbox hg; obtain ⟨hcz16_0, hcz16_1⟩ := q2 BK426; obtain ⟨hfz16_0, hfz16_1⟩ := z2 BK426) | ((with_reducible refine gate_callee (f := 53) rfl ?_); refine gL (some 6) rfl rfl Try.func53 #[.agg #[.int .i64 a1_0, .int .i64 a1_1]] rfl ?_; (with_reducible refine (mandolineref01_Right.calls a1_0 a1_1 false _ A3.out).mono ?_); rintro e w17 ⟨rfl, hb⟩; refine ⟨_, rfl, ?_⟩; replace BK426 := sB BK426 hb; replace HB := sL HB hb; (try clear hb); (try clear hb2); (try clear hk); (try clear hi)))
  go_ret
  exact ⟨eW, lU HB⟩
end Go.Proofs.Ytnaalaakhdbfbaa.XP
