-- Go functions as plain functions, and that the code comes to these answers (printed by a program).
import Derived.Test.YtnaalaakhdbfbaaV4XP0
import Derived.Test.YtnaalaakhdbfbaaV4XP1
import Derived.Test.YtnaalaakhdbfbaaV4XP3
import Derived.Test.YtnaalaakhdbfbaaV4XP11
namespace Go.Proofs.Ytnaalaakhdbfbaa.XP
open Go.RowKit Go.Proofs.YtnaalaakhdbfbaaW.PrintWords Go.Proofs.YtnaalaakhdbfbaaW.PrintLast Go.Proofs.YtnaalaakhdbfbaaW.PrintMore
attribute [local go_sem] max2_int min2_int max_two min_two max_three min_three max_four min_four
set_option linter.unusedVariables false
set_option linter.unusedSimpArgs false
attribute [local go_sem high] eqA48
def mandolineref02_List.l0 : Nat → List (S48) → List (S48) → Int → Option (Bool)
 | 0, _, _, _ => none
 | k + 1, x0, x1, x5 => if x5 < (x0.length : Int) then (if 0 ≤ x5 then (if x5 < (x1.length : Int) then (if (!(((rd_T48 x0 x5).f0) == ((rd_T48 x1 x5).f0)) || (!(((rd_T48 x0 x5).f1) == ((rd_T48 x1 x5).f1)))) = true then (some false) else (mandolineref02_List.l0 k x0 x1 (wrap64 (x5 + 1)))) else (none)) else (none)) else (some true)
def mandolineref02_List.f (k : Nat) (l0 : List (S48)) (l1 : List (S48)) : Option (Bool) := if (l0.length : Int) = (l1.length : Int) then (mandolineref02_List.l0 k l0 l1 0) else (some false)
theorem mandolineref02_List.mono_l : ∀ k, (∀ y0 y1 y2, LeO (mandolineref02_List.l0 k y0 y1 y2) (mandolineref02_List.l0 (k + 1) y0 y1 y2))
 | 0 => fun _ _ _ r h => by simp [mandolineref02_List.l0] at h
 | k + 1 => by
  have ih0 := mandolineref02_List.mono_l k
  ·intro y0 y1 y2
   unfold mandolineref02_List.l0
   repeat' first
   | with_reducible apply ih0
   | with_reducible apply LeO.refl
   | with_reducible apply LeO.none
   | with_reducible refine LeO.ite ?_ ?_
   | with_reducible refine LeO.bind ?_ (fun _ => ?_)
theorem mandolineref02_List.mono : ∀ a0 a1 k, LeO (mandolineref02_List.f k a0 a1) (mandolineref02_List.f (k + 1) a0 a1) := by
 intro a0 a1 k
 have ih0 := mandolineref02_List.mono_l k
 unfold mandolineref02_List.f
 repeat' first
   | with_reducible apply ih0
   | with_reducible apply LeO.refl
   | with_reducible apply LeO.none
   | with_reducible refine LeO.ite ?_ ?_
   | with_reducible refine LeO.bind ?_ (fun _ => ?_)
set_option maxHeartbeats 8000000 in
set_option maxRecDepth 100000 in
theorem mandolineref02_List.calls (k : Nat) (A0 : Option Addr) (c0 : Nat) (l0 : List (S48)) (A1 : Option Addr) (c1 : Nat) (l1 : List (S48)) (r : Bool) (w : World) (hr0 : Kd.C k48 w A0 l0.length l0) (hc0 : l0.length ≤ c0) (hr1 : Kd.C k48 w A1 l1.length l1) (hc1 : l1.length ≤ c1) (h : mandolineref02_List.f k l0 l1 = some r) :
  Calls Try.prog 16 #[.slice A0 l0.length c0, .slice A1 l1.length c1] w fun e w' => e = .returned (.bool r) ∧ Drawn0 w w' := by
 have hu48 := Try.underlying48
 have HR0 := Aside0.mk hr0
 have HC0 := Aside0.mk hc0
 clear hr0 hc0
 have HR1 := Aside0.mk hr1
 have HC1 := Aside0.mk hc1
 clear hr1 hc1
 unfold mandolineref02_List.f at h
 have H := h
 clear h
 by_cases c3 : (l0.length : Int) = (l1.length : Int)
 ·rw [if_pos c3] at H
  have c3b0 : ((l0.length : Int) == (l1.length : Int)) = true := beq_iff_eq.mpr c3
  have c3b1 : ((l0.length : Int) != (l1.length : Int)) = false := bne_eq_false_iff_eq.mpr c3
  have c3b2 : (l0.length == l1.length) = true := by first | simpa using c3 | (simp at c3 ⊢; omega)
  clear c3
  have H' := Aside0.mk H
  clear H
  go_enter Try.func16, Try.ntmps16
  go_wp2
  repeat (go_quiet (fail); try go_wp2)
  go_loopg [5] k (fun kq v5 w' => ∃ (x5_1 : Int), v5 = .int .i64 x5_1 ∧ Aside0 (mandolineref02_List.l0 kq l0 l1 x5_1 = some r) ∧ Aside0 (kq ≤ k) ∧ Drawn0 w w')
  case atStart => exact ⟨(0), eR, H', ⟨Nat.le_refl _⟩, by repeat (first | exact Drawn0.refl _ | apply Drawn0.step)⟩
  case round =>
   clear H'
   try clear c1
   try clear p2
   try clear c3
   try clear c3b0
   try clear c3b1
   try clear c3b2
   obtain ⟨x5_1, rfl, HA, HK1, ⟨m1, rfl⟩⟩ := hrel
   cases gk with
   | zero => exact absurd HA.out (by simp [mandolineref02_List.l0])
   | succ k1 =>
    have H := HA.out
    clear HA
    simp only [mandolineref02_List.l0] at H
    by_cases c4 : x5_1 < (l0.length : Int)
    ·rw [if_pos c4] at H
     have c4b0 : decide (x5_1 < (l0.length : Int)) = true := decide_eq_true c4
     clear c4
     by_cases c5 : 0 ≤ x5_1
     ·rw [if_pos c5] at H
      have c5b0 : decide (0 ≤ x5_1) = true := decide_eq_true c5
      clear c5
      by_cases c6 : x5_1 < (l1.length : Int)
      ·rw [if_pos c6] at H
       have c6b0 : decide (x5_1 < (l1.length : Int)) = true := decide_eq_true c6
       clear c6
       by_cases c7 : (!(((rd_T48 l0 x5_1).f0) == ((rd_T48 l1 x5_1).f0)) || (!(((rd_T48 l0 x5_1).f1) == ((rd_T48 l1 x5_1).f1)))) = true
       ·rw [if_pos c7] at H
        have c7b0 : (!(((rd_T48 l0 x5_1).f0) == ((rd_T48 l1 x5_1).f0)) || (!(((rd_T48 l0 x5_1).f1) == ((rd_T48 l1 x5_1).f1)))) = true := c7
        clear c7
        obtain rfl := Option.some.inj H
        have p250 : 0 ≤ (x5_1 : Int) := of_decide_eq_true (by first | (with_reducible assumption) | assumption)
        have q250 : x5_1 < (l0.length : Int) := of_decide_eq_true (by first | (with_reducible assumption) | assumption)
        obtain ⟨ad250, e250, hx250_0, hx250_1⟩ := at_T48 HR0.out x5_1 p250 q250
        cases e250
        replace p250 := eq_true p250
        replace q250 := eq_true q250
        have p251 : 0 ≤ (x5_1 : Int) := of_decide_eq_true (by first | (with_reducible assumption) | assumption)
        have q251 : x5_1 < (l1.length : Int) := of_decide_eq_true (by first | (with_reducible assumption) | assumption)
        obtain ⟨ad251, e251, hx251_0, hx251_1⟩ := at_T48 HR1.out x5_1 p251 q251
        cases e251
        replace p251 := eq_true p251
        replace q251 := eq_true q251
        go_wp2
        repeat (go_quiet (fail); try go_wp2)
        go_ret
        exact ⟨by first | rfl | (simp; done) | (simp [*]; done), by repeat (first | exact Drawn0.refl _ | apply Drawn0.step)⟩
       ·rw [if_neg c7] at H
        have c7b0 : (!(((rd_T48 l0 x5_1).f0) == ((rd_T48 l1 x5_1).f0)) || (!(((rd_T48 l0 x5_1).f1) == ((rd_T48 l1 x5_1).f1)))) = false := by simpa using c7
        clear c7
        have H' := Aside0.mk H
        clear H
        have p250 : 0 ≤ (x5_1 : Int) := of_decide_eq_true (by first | (with_reducible assumption) | assumption)
        have q250 : x5_1 < (l0.length : Int) := of_decide_eq_true (by first | (with_reducible assumption) | assumption)
        obtain ⟨ad250, e250, hx250_0, hx250_1⟩ := at_T48 HR0.out x5_1 p250 q250
        cases e250
        replace p250 := eq_true p250
        replace q250 := eq_true q250
        have p251 : 0 ≤ (x5_1 : Int) := of_decide_eq_true (by first | (with_reducible assumption) | assumption)
        have q251 : x5_1 < (l1.length : Int) := of_decide_eq_true (by first | (with_reducible assumption) | assumption)
        obtain ⟨ad251, e251, hx251_0, hx251_1⟩ := at_T48 HR1.out x5_1 p251 q251
        cases e251
        replace p251 := eq_true p251
        replace q251 := eq_true q251
        go_wp2
        repeat (go_quiet (fail); try go_wp2)
        go_roundg k1
        case measure => have := HK1.out; omega
        case rel => exact ⟨(wrap64 (x5_1 + 1)), eR, H', ⟨by have := HK1.out; omega⟩, by repeat (first | exact Drawn0.refl _ | apply Drawn0.step)⟩
      ·rw [if_neg c6] at H
       exact absurd H (by simp)
     ·rw [if_neg c5] at H
      exact absurd H (by simp)
    ·rw [if_neg c4] at H
     have c4b0 : decide (x5_1 < (l0.length : Int)) = false := decide_eq_false c4
     clear c4
     obtain rfl := Option.some.inj H
     go_wp2
     repeat (go_quiet (fail); try go_wp2)
     go_ret
     exact ⟨by first | rfl | (simp; done) | (simp [*]; done), by repeat (first | exact Drawn0.refl _ | apply Drawn0.step)⟩
 ·rw [if_neg c3] at H
  have c3b0 : ((l0.length : Int) == (l1.length : Int)) = false := beq_eq_false_iff_ne.mpr c3
  have c3b1 : ((l0.length : Int) != (l1.length : Int)) = true := bne_iff_ne.mpr c3
  have c3b2 : (l0.length == l1.length) = false := by first | simpa using c3 | (simp at c3 ⊢; omega)
  obtain rfl := Option.some.inj H
  go_enter Try.func16, Try.ntmps16
  go_wp2
  repeat (go_quiet (fail); try go_wp2)
  go_ret
  exact ⟨by first | rfl | (simp; done) | (simp [*]; done), by repeat (first | exact Drawn0.refl _ | apply Drawn0.step)⟩
def mandolinelaw35_alive.f (k : Nat)  : Option (Bool) := (ranges_Of.f k (([(⟨1, 3⟩ : S48), (⟨9, 14⟩ : S48)] : List (S48)))).bind fun t255 => ((ranges_Of.f k (([(⟨0, 40⟩ : S48)] : List (S48)))).bind fun t262 => ((plan_Plan.f k t255 t262 40 4 4 16 0 0 0 0 0 0 0).bind fun bt266 => ((plan_Plan.f k t255 t262 40 4 0 16 0 0 0 0 0 0 0).bind fun bt270 => (if bt266.2 = 0 then (if bt270.2 = 0 then ((mandolineref02_List.f k bt266.1 (([(⟨0, 16⟩ : S48)] : List (S48)))).bind fun t277 => (if t277 = true then ((mandolineref02_List.f k bt270.1 (([(⟨0, 4⟩ : S48), (⟨8, 16⟩ : S48)] : List (S48)))).bind fun t281 => (some t281)) else (some false))) else (some false)) else (some false)))))
theorem mandolinelaw35_alive.mono : ∀ k, LeO (mandolinelaw35_alive.f k ) (mandolinelaw35_alive.f (k + 1) ) := by
 intro  k
 unfold mandolinelaw35_alive.f
 repeat' first
   | with_reducible apply mandolineref02_List.mono
   | with_reducible apply plan_Plan.mono
   | with_reducible apply ranges_Of.mono
   | with_reducible apply LeO.refl
   | with_reducible apply LeO.none
   | with_reducible refine LeO.ite ?_ ?_
   | with_reducible refine LeO.bind ?_ (fun _ => ?_)
set_option maxHeartbeats 8000000 in
set_option maxRecDepth 100000 in
theorem mandolinelaw35_alive.calls (k : Nat)  (r : Bool) (w : World) (h : mandolinelaw35_alive.f k  = some r) :
  Calls Try.prog 10 #[] w fun e w' => e = .returned (.bool r) ∧ Below w.heap.size w w' := by
 have hu48 := Try.underlying48
 have hu30 := Try.underlying30
 have hu24 := Try.underlying24
 have HB := Aside0.mk (Below.refl w.heap.size w)
 unfold mandolinelaw35_alive.f at h
 have H := h
 clear h
 obtain ⟨y252, hy252⟩ : ∃ y_ : List (S48), y_ = (([(⟨1, 3⟩ : S48), (⟨9, 14⟩ : S48)] : List (S48))) := ⟨_, rfl⟩
 replace H : ((ranges_Of.f k y252).bind fun t255 => ((ranges_Of.f k (([(⟨0, 40⟩ : S48)] : List (S48)))).bind fun t262 => ((plan_Plan.f k t255 t262 40 4 4 16 0 0 0 0 0 0 0).bind fun bt266 => ((plan_Plan.f k t255 t262 40 4 0 16 0 0 0 0 0 0 0).bind fun bt270 => (if bt266.2 = 0 then (if bt270.2 = 0 then ((mandolineref02_List.f k bt266.1 (([(⟨0, 16⟩ : S48)] : List (S48)))).bind fun t277 => (if t277 = true then ((mandolineref02_List.f k bt270.1 (([(⟨0, 4⟩ : S48), (⟨8, 16⟩ : S48)] : List (S48)))).bind fun t281 => (some t281)) else (some false))) else (some false)) else (some false)))))) = some r := by first | (rw [hy252]; with_reducible exact H) | (have H2_ := (Option.bind_some _ _).symm.trans H; rw [hy252]; with_reducible exact H2_) | (have H2_ := (Option.bind_some _ _).symm.trans H; with_reducible exact H2_) | with_reducible exact H | (rw [hy252]; exact H) | exact H
 have Ny252 := Aside0.mk hy252
 clear hy252
 obtain ⟨t255, A1, H⟩ := bO H
 obtain ⟨y259, hy259⟩ : ∃ y_ : List (S48), y_ = (([(⟨0, 40⟩ : S48)] : List (S48))) := ⟨_, rfl⟩
 replace H : ((ranges_Of.f k y259).bind fun t262 => ((plan_Plan.f k t255 t262 40 4 4 16 0 0 0 0 0 0 0).bind fun bt266 => ((plan_Plan.f k t255 t262 40 4 0 16 0 0 0 0 0 0 0).bind fun bt270 => (if bt266.2 = 0 then (if bt270.2 = 0 then ((mandolineref02_List.f k bt266.1 (([(⟨0, 16⟩ : S48)] : List (S48)))).bind fun t277 => (if t277 = true then ((mandolineref02_List.f k bt270.1 (([(⟨0, 4⟩ : S48), (⟨8, 16⟩ : S48)] : List (S48)))).bind fun t281 => (some t281)) else (some false))) else (some false)) else (some false))))) = some r := by first | (rw [hy259]; with_reducible exact H) | (have H2_ := (Option.bind_some _ _).symm.trans H; rw [hy259]; with_reducible exact H2_) | (have H2_ := (Option.bind_some _ _).symm.trans H; with_reducible exact H2_) | with_reducible exact H | (rw [hy259]; exact H) | exact H
 have Ny259 := Aside0.mk hy259
 clear hy259
 obtain ⟨t262, A2, H⟩ := bO H
 replace H := Option.bind_eq_some_iff.mp H
 obtain ⟨⟨t266, t269⟩, A30, H⟩ := H
 dsimp only at H
 have A3 := Aside0.mk A30
 clear A30
 replace H := Option.bind_eq_some_iff.mp H
 obtain ⟨⟨t270, t273⟩, A40, H⟩ := H
 dsimp only at H
 have A4 := Aside0.mk A40
 clear A40
 by_cases c5 : t269 = 0
 ·rw [if_pos c5] at H
  have c5b0 : (t269 == 0) = true := beq_iff_eq.mpr c5
  have c5b1 : (t269 != 0) = false := bne_eq_false_iff_eq.mpr c5
  clear c5
  by_cases c6 : t273 = 0
  ·rw [if_pos c6] at H
   have c6b0 : (t273 == 0) = true := beq_iff_eq.mpr c6
   have c6b1 : (t273 != 0) = false := bne_eq_false_iff_eq.mpr c6
   clear c6
   obtain ⟨y274, hy274⟩ : ∃ y_ : List (S48), y_ = (([(⟨0, 16⟩ : S48)] : List (S48))) := ⟨_, rfl⟩
   replace H : ((mandolineref02_List.f k t266 y274).bind fun t277 => (if t277 = true then ((mandolineref02_List.f k t270 (([(⟨0, 4⟩ : S48), (⟨8, 16⟩ : S48)] : List (S48)))).bind fun t281 => (some t281)) else (some false))) = some r := by first | (rw [hy274]; with_reducible exact H) | (have H2_ := (Option.bind_some _ _).symm.trans H; rw [hy274]; with_reducible exact H2_) | (have H2_ := (Option.bind_some _ _).symm.trans H; with_reducible exact H2_) | with_reducible exact H | (rw [hy274]; exact H) | exact H
   have Ny274 := Aside0.mk hy274
   clear hy274
   obtain ⟨t277, A7, H⟩ := bO H
   by_cases c8 : t277 = true
   ·subst c8
    rw [if_pos rfl] at H
    obtain ⟨y278, hy278⟩ : ∃ y_ : List (S48), y_ = (([(⟨0, 4⟩ : S48), (⟨8, 16⟩ : S48)] : List (S48))) := ⟨_, rfl⟩
    replace H : ((mandolineref02_List.f k t270 y278).bind fun t281 => (some t281)) = some r := by first | (rw [hy278]; with_reducible exact H) | (have H2_ := (Option.bind_some _ _).symm.trans H; rw [hy278]; with_reducible exact H2_) | (have H2_ := (Option.bind_some _ _).symm.trans H; with_reducible exact H2_) | with_reducible exact H | (rw [hy278]; exact H) | exact H
    have Ny278 := Aside0.mk hy278
    clear hy278
    obtain ⟨t281, A9, H⟩ := bO H
    obtain rfl := Option.some.inj H
    go_enter Try.func10, Try.ntmps10
    go_wp2_with (first | ((with_reducible refine gate_dst (N := 9) rfl ?_); (try (refine gate_guard (by rfl) ?_; dsimp only)); refine Kd.R_lit k48 _ 48 ?hg (N := 9) ?hd (xs := ([(⟨1, 3⟩ : S48), (⟨9, 14⟩ : S48)] : List (S48))) (inner := [.int .i64 1, .int .i64 3, .int .i64 9, .int .i64 14]) (ok := fun _ => True) (okp := fun _ => True) ?hr ?hp (fun _ hk => hk) trivial (Below.refl _ _) (Nat.le_refl _) (by simp) ?_; (case hd => rfl); (case hg => rfl); (case hr => first | (go_simp; done) | (go_simp; rfl)); (case hp => exact (Reps.c2 (show Kd.M k48 _ _ _ (⟨1, 3⟩ : S48) [.int .i64 1, .int .i64 3] from (k48_mkM _ _ _ (⟨1, 3⟩ : S48) )) (Reps.c2 (show Kd.M k48 _ _ _ (⟨9, 14⟩ : S48) [.int .i64 9, .int .i64 14] from (k48_mkM _ _ _ (⟨9, 14⟩ : S48) )) (Reps.none _ _)))); intro v253 w10 ho11 hb hg_ hnew_; clear hg_ hnew_; (first | rw [← Ny252.out] at ho11 | (simp only [Int.reduceToNat] at ho11; rw [← Ny252.out] at ho11)); have HO254 := Aside0.mk (Kd.R_lower ho11 (below_size (lU HB))); replace HB := sL HB hb; clear hb ho11; obtain ⟨Ao12, co12, eo12⟩ := Kd.R_slice HO254.out; subst eo12) | ((with_reducible refine gate_callee (f := 22) rfl ?_); refine gL (some 10) rfl rfl Try.func22 #[.slice Ao12 y252.length co12] rfl ?_; (with_reducible refine (ranges_Of.calls k _ _ y252 t255 _ (cU (rC HO254)) (rN HO254) A1.out).mono ?_); rintro e w13 ⟨v256, rfl, ho0, hb⟩; refine ⟨_, rfl, ?_⟩; have HO257 := Aside0.mk (Kd.R_lower (Kd.R_new' ho0 (Kd.R_lt (rU HO254.out))) (below_size (lU HB))); replace HO254 := rE HO254 ho0 hb; replace HB := sL HB hb; (try clear hb); (try clear hb2); (try clear hk); (try clear hi); (try clear ho0)) | ((with_reducible refine gate_dst (N := 1) rfl ?_); (try (refine gate_guard (by rfl) ?_; dsimp only)); refine bX (N := 1) (cs := #[.slice none 0 0]) (t := 30) ?_; intro gb258 hg w14 hbox hb; have BK258 := Aside0.mk (hbox); have GE258 := sG HB hg; replace HO254 := rB HO254 hb; replace HO257 := rB HO257 hb; replace HB := sL HB hb; clear hb hbox hg; obtain ⟨Ao15, co15, eo15⟩ := Kd.R_slice HO257.out; subst eo15; have hcz16_0 := q1 BK258; have hfz16_0 := blk_frozen BK258.out 0) | ((with_reducible refine gate_dst (N := 12) rfl ?_); (try (refine gate_guard (by rfl) ?_; dsimp only)); refine Kd.R_lit k48 _ 48 ?hg (N := 12) ?hd (xs := ([(⟨0, 40⟩ : S48)] : List (S48))) (inner := [.int .i64 0, .int .i64 40]) (ok := fun _ => True) (okp := fun _ => True) ?hr ?hp (fun _ hk => hk) trivial (Below.refl _ _) (Nat.le_refl _) (by simp) ?_; (case hd => rfl); (case hg => rfl); (case hr => first | (go_simp; done) | (go_simp; rfl)); (case hp => exact (Reps.c2 (show Kd.M k48 _ _ _ (⟨0, 40⟩ : S48) [.int .i64 0, .int .i64 40] from (k48_mkM _ _ _ (⟨0, 40⟩ : S48) )) (Reps.none _ _))); intro v260 w17 ho18 hb hg_ hnew_; clear hg_ hnew_; (first | rw [← Ny259.out] at ho18 | (simp only [Int.reduceToNat] at ho18; rw [← Ny259.out] at ho18)); have HO261 := Aside0.mk (Kd.R_lower (Kd.R_new' (Kd.R_new' ho18 (Kd.R_lt (rU ((Kd.R_mono (Kd.R_far (p := ⟨gb258, 0, none⟩) (Kd.R_types HO254.out BK258.out (by decide)) (fun _ hk => hk.2) (.slice Ao15 t255.length co15)) (fun _ h_ => h_.1)))))) (Kd.R_lt (rU ((Kd.R_mono (Kd.R_far (p := ⟨gb258, 0, none⟩) (Kd.R_types HO257.out BK258.out (by decide)) (fun _ hk => hk.2) (.slice Ao15 t255.length co15)) (fun _ h_ => h_.1)))))) (below_size (lU HB))); replace HO254 := Aside0.mk (Kd.R_elder' (rU ((Kd.R_mono (Kd.R_far (p := ⟨gb258, 0, none⟩) (Kd.R_types HO254.out BK258.out (by decide)) (fun _ hk => hk.2) (.slice Ao15 t255.length co15)) (fun _ h_ => h_.1)))) (Kd.R_base ho18) hb); replace HO257 := Aside0.mk (Kd.R_elder' (rU ((Kd.R_mono (Kd.R_far (p := ⟨gb258, 0, none⟩) (Kd.R_types HO257.out BK258.out (by decide)) (fun _ hk => hk.2) (.slice Ao15 t255.length co15)) (fun _ h_ => h_.1)))) (Kd.R_base ho18) hb); replace BK258 := Aside0.mk (blk_below (g := gb258) (o := .cells #[.slice Ao15 t255.length co15] 30 (0, 0)) (by (with_reducible repeat (first | refine blk_drewN ?_ _ | refine blk_drew ?_ | refine blk_alloc ?_ _)); refine blk_put (cs := #[.slice none 0 0]) ?_ 0 _ rfl; (with_reducible repeat (first | refine blk_drewN ?_ _ | refine blk_drew ?_ | refine blk_alloc ?_ _)); exact BK258.out) hb); replace HB := sL HB hb; clear hb ho18; obtain ⟨Ao19, co19, eo19⟩ := Kd.R_slice HO261.out; subst eo19) | ((with_reducible refine gate_callee (f := 22) rfl ?_); refine gL (some 13) rfl rfl Try.func22 #[.slice Ao19 y259.length co19] rfl ?_; (with_reducible refine (ranges_Of.calls k _ _ y259 t262 _ (cU (rC HO261)) (rN HO261) A2.out).mono ?_); rintro e w20 ⟨v263, rfl, ho0, hb⟩; refine ⟨_, rfl, ?_⟩; have HO264 := Aside0.mk (Kd.R_lower (Kd.R_new' (Kd.R_new' (Kd.R_new' ho0 (Kd.R_lt (rU HO254.out))) (Kd.R_lt (rU HO257.out))) (Kd.R_lt (rU HO261.out))) (below_size (lU HB))); replace HO254 := rE HO254 ho0 hb; replace HO257 := rE HO257 ho0 hb; replace HO261 := rE HO261 ho0 hb; replace BK258 := sB BK258 hb; replace HB := sL HB hb; (try clear hb); (try clear hb2); (try clear hk); (try clear hi); (try clear ho0)) | ((with_reducible refine gate_dst (N := 2) rfl ?_); (try (refine gate_guard (by rfl) ?_; dsimp only)); refine bX (N := 2) (cs := #[.slice none 0 0]) (t := 30) ?_; intro gb265 hg w21 hbox hb; have BK265 := Aside0.mk (hbox); have GE265 := sG HB hg; have NB258_265 := sN BK258 hg; have NB265_258 := sM BK258 hg; replace HO254 := rB HO254 hb; replace HO257 := rB HO257 hb; replace HO261 := rB HO261 hb; replace HO264 := rB HO264 hb; replace BK258 := sB BK258 hb; replace HB := sL HB hb; clear hb hbox hg; obtain ⟨Ao22, co22, eo22⟩ := Kd.R_slice HO264.out; subst eo22; have hnb23 := NB265_258.out; have hnc23 := NB258_265.out; have hcz24_0 := q1 BK265; have hfz24_0 := blk_frozen BK265.out 0; have hcz25_0 := q1 BK258; have hfz25_0 := blk_frozen BK258.out 0) | ((with_reducible refine gate_callee (f := 13) rfl ?_); refine gL (some 18) rfl rfl Try.func13 #[.agg #[.slice Ao15 t255.length co15], .agg #[.slice Ao22 t262.length co22], .int .i64 40, .agg #[.int .i64 4, .int .i64 4, .int .i64 16, .int .i64 0, .int .i64 0, .int .i64 0, .int .i64 0, .int .i64 0, .int .i64 0, .int .i64 0]] rfl ?_; (with_reducible refine (plan_Plan.calls k _ _ t255 _ _ t262 40 4 4 16 0 0 0 0 0 0 0 t266 t269 _ ?side1 ?side2 ?side3 ?side4 A3.out).mono ?_); (case side1 => refine (Kd.R_reads' (e := 48) (base := w.heap.size) (ok := fun k_ => (((True ∧ some k_ ≠ (.slice Ao12 y252.length co12 : Value).ownBlock) ∧ some k_ ≠ (.slice Ao19 y259.length co19 : Value).ownBlock) ∧ some k_ ≠ (.slice Ao22 t262.length co22 : Value).ownBlock)) (n := t255.length) (c := co15) ?_).2.2; exact (rU ((Kd.R_mono (Kd.R_far (p := ⟨gb265, 0, none⟩) (Kd.R_types HO257.out BK265.out (by decide)) (fun _ hk => hk.2) (.slice Ao22 t262.length co22)) (fun _ h_ => h_.1))))); (case side2 => exact (rN HO257)); (case side3 => refine (Kd.R_reads' (e := 48) (base := w.heap.size) (ok := fun k_ => (((True ∧ some k_ ≠ (.slice Ao12 y252.length co12 : Value).ownBlock) ∧ some k_ ≠ (.slice Ao15 t255.length co15 : Value).ownBlock) ∧ some k_ ≠ (.slice Ao19 y259.length co19 : Value).ownBlock)) (n := t262.length) (c := co22) ?_).2.2; exact (rU ((Kd.R_mono (Kd.R_far (p := ⟨gb265, 0, none⟩) (Kd.R_types HO264.out BK265.out (by decide)) (fun _ hk => hk.2) (.slice Ao22 t262.length co22)) (fun _ h_ => h_.1))))); (case side4 => exact (rN HO264)); rintro e w26 ⟨v267, rfl, ho0, hb⟩; refine ⟨_, rfl, ?_⟩; have HO268 := Aside0.mk (Kd.R_lower (Kd.R_new' (Kd.R_new' (Kd.R_new' (Kd.R_new' ho0 (Kd.R_lt (rU ((Kd.R_mono (Kd.R_far (p := ⟨gb265, 0, none⟩) (Kd.R_types HO254.out BK265.out (by decide)) (fun _ hk => hk.2) (.slice Ao22 t262.length co22)) (fun _ h_ => h_.1)))))) (Kd.R_lt (rU ((Kd.R_mono (Kd.R_far (p := ⟨gb265, 0, none⟩) (Kd.R_types HO257.out BK265.out (by decide)) (fun _ hk => hk.2) (.slice Ao22 t262.length co22)) (fun _ h_ => h_.1)))))) (Kd.R_lt (rU ((Kd.R_mono (Kd.R_far (p := ⟨gb265, 0, none⟩) (Kd.R_types HO261.out BK265.out (by decide)) (fun _ hk => hk.2) (.slice Ao22 t262.length co22)) (fun _ h_ => h_.1)))))) (Kd.R_lt (rU ((Kd.R_mono (Kd.R_far (p := ⟨gb265, 0, none⟩) (Kd.R_types HO264.out BK265.out (by decide)) (fun _ hk => hk.2) (.slice Ao22 t262.length co22)) (fun _ h_ => h_.1)))))) (below_size (lU HB))); replace HO254 := Aside0.mk (Kd.R_elder' (rU ((Kd.R_mono (Kd.R_far (p := ⟨gb265, 0, none⟩) (Kd.R_types HO254.out BK265.out (by decide)) (fun _ hk => hk.2) (.slice Ao22 t262.length co22)) (fun _ h_ => h_.1)))) (Kd.R_base ho0) hb); replace HO257 := Aside0.mk (Kd.R_elder' (rU ((Kd.R_mono (Kd.R_far (p := ⟨gb265, 0, none⟩) (Kd.R_types HO257.out BK265.out (by decide)) (fun _ hk => hk.2) (.slice Ao22 t262.length co22)) (fun _ h_ => h_.1)))) (Kd.R_base ho0) hb); replace HO261 := Aside0.mk (Kd.R_elder' (rU ((Kd.R_mono (Kd.R_far (p := ⟨gb265, 0, none⟩) (Kd.R_types HO261.out BK265.out (by decide)) (fun _ hk => hk.2) (.slice Ao22 t262.length co22)) (fun _ h_ => h_.1)))) (Kd.R_base ho0) hb); replace HO264 := Aside0.mk (Kd.R_elder' (rU ((Kd.R_mono (Kd.R_far (p := ⟨gb265, 0, none⟩) (Kd.R_types HO264.out BK265.out (by decide)) (fun _ hk => hk.2) (.slice Ao22 t262.length co22)) (fun _ h_ => h_.1)))) (Kd.R_base ho0) hb); replace BK258 := Aside0.mk (blk_below (g := gb258) (o := .cells #[.slice Ao15 t255.length co15] 30 (0, 0)) (bF BK258) hb); replace BK265 := Aside0.mk (blk_below (g := gb265) (o := .cells #[.slice Ao22 t262.length co22] 30 (0, 0)) (by (with_reducible repeat (first | refine blk_drewN ?_ _ | refine blk_drew ?_ | refine blk_alloc ?_ _)); refine blk_put (cs := #[.slice none 0 0]) ?_ 0 _ rfl; (with_reducible repeat (first | refine blk_drewN ?_ _ | refine blk_drew ?_ | refine blk_alloc ?_ _)); exact BK265.out) hb); replace HB := sL HB hb; (try clear hb); (try clear hb2); (try clear hk); (try clear hi); (try clear ho0); have hcz27_0 := q1 BK258; have hfz27_0 := blk_frozen BK258.out 0; have hcz28_0 := q1 BK265; have hfz28_0 := blk_frozen BK265.out 0) | ((with_reducible refine gate_callee (f := 13) rfl ?_); refine gL (some 25) rfl rfl Try.func13 #[.agg #[.slice Ao15 t255.length co15], .agg #[.slice Ao22 t262.length co22], .int .i64 40, .agg #[.int .i64 4, .int .i64 0, .int .i64 16, .int .i64 0, .int .i64 0, .int .i64 0, .int .i64 0, .int .i64 0, .int .i64 0, .int .i64 0]] rfl ?_; (with_reducible refine (plan_Plan.calls k _ _ t255 _ _ t262 40 4 0 16 0 0 0 0 0 0 0 t270 t273 _ (cU (rC HO257)) (rN HO257) (cU (rC HO264)) (rN HO264) A4.out).mono ?_); rintro e w29 ⟨v271, rfl, ho0, hb⟩; refine ⟨_, rfl, ?_⟩; have HO272 := Aside0.mk (Kd.R_lower (Kd.R_new' (Kd.R_new' (Kd.R_new' (Kd.R_new' (Kd.R_new' ho0 (Kd.R_lt (rU HO254.out))) (Kd.R_lt (rU HO257.out))) (Kd.R_lt (rU HO261.out))) (Kd.R_lt (rU HO264.out))) (Kd.R_lt (rU HO268.out))) (below_size (lU HB))); replace HO254 := rE HO254 ho0 hb; replace HO257 := rE HO257 ho0 hb; replace HO261 := rE HO261 ho0 hb; replace HO264 := rE HO264 ho0 hb; replace HO268 := rE HO268 ho0 hb; replace BK258 := sB BK258 hb; replace BK265 := sB BK265 hb; replace HB := sL HB hb; (try clear hb); (try clear hb2); (try clear hk); (try clear hi); (try clear ho0)) | ((with_reducible refine gate_dst (N := 37) rfl ?_); (try (refine gate_guard (by rfl) ?_; dsimp only)); refine Kd.R_lit k48 _ 48 ?hg (N := 37) ?hd (xs := ([(⟨0, 16⟩ : S48)] : List (S48))) (inner := [.int .i64 0, .int .i64 16]) (ok := fun _ => True) (okp := fun _ => True) ?hr ?hp (fun _ hk => hk) trivial (Below.refl _ _) (Nat.le_refl _) (by simp) ?_; (case hd => rfl); (case hg => rfl); (case hr => first | (go_simp; done) | (go_simp; rfl)); (case hp => exact (Reps.c2 (show Kd.M k48 _ _ _ (⟨0, 16⟩ : S48) [.int .i64 0, .int .i64 16] from (k48_mkM _ _ _ (⟨0, 16⟩ : S48) )) (Reps.none _ _))); intro v275 w30 ho31 hb hg_ hnew_; clear hg_ hnew_; (first | rw [← Ny274.out] at ho31 | (simp only [Int.reduceToNat] at ho31; rw [← Ny274.out] at ho31)); have HO276 := Aside0.mk (Kd.R_lower (Kd.R_new' (Kd.R_new' (Kd.R_new' (Kd.R_new' (Kd.R_new' (Kd.R_new' ho31 (Kd.R_lt (rU HO254.out))) (Kd.R_lt (rU HO257.out))) (Kd.R_lt (rU HO261.out))) (Kd.R_lt (rU HO264.out))) (Kd.R_lt (rU HO268.out))) (Kd.R_lt (rU HO272.out))) (below_size (lU HB))); replace HO254 := rE HO254 ho31 hb; replace HO257 := rE HO257 ho31 hb; replace HO261 := rE HO261 ho31 hb; replace HO264 := rE HO264 ho31 hb; replace HO268 := rE HO268 ho31 hb; replace HO272 := rE HO272 ho31 hb; replace BK258 := sB BK258 hb; replace BK265 := sB BK265 hb; replace HB := sL HB hb; clear hb ho31; obtain ⟨Ao32, co32, eo32⟩ := Kd.R_slice HO268.out; subst eo32; obtain ⟨Ao33, co33, eo33⟩ := Kd.R_slice HO276.out; subst eo33) | (go_at_call 16; (with_reducible refine (mandolineref02_List.calls k _ _ t266 _ _ y274 true _ (cU (rC HO268)) (rN HO268) (cU (rC HO276)) (rN HO276) A7.out).mono ?_); rintro e w' ⟨rfl, ⟨nd, rfl⟩⟩) | ((with_reducible refine gate_dst (N := 44) rfl ?_); (try (refine gate_guard (by rfl) ?_; dsimp only)); refine Kd.R_lit k48 _ 48 ?hg (N := 44) ?hd (xs := ([(⟨0, 4⟩ : S48), (⟨8, 16⟩ : S48)] : List (S48))) (inner := [.int .i64 0, .int .i64 4, .int .i64 8, .int .i64 16]) (ok := fun _ => True) (okp := fun _ => True) ?hr ?hp (fun _ hk => hk) trivial (Below.refl _ _) (Nat.le_refl _) (by simp) ?_; (case hd => rfl); (case hg => rfl); (case hr => first | (go_simp; done) | (go_simp; rfl)); (case hp => exact (Reps.c2 (show Kd.M k48 _ _ _ (⟨0, 4⟩ : S48) [.int .i64 0, .int .i64 4] from (k48_mkM _ _ _ (⟨0, 4⟩ : S48) )) (Reps.c2 (show Kd.M k48 _ _ _ (⟨8, 16⟩ : S48) [.int .i64 8, .int .i64 16] from (k48_mkM _ _ _ (⟨8, 16⟩ : S48) )) (Reps.none _ _)))); intro v279 w34 ho35 hb hg_ hnew_; clear hg_ hnew_; (first | rw [← Ny278.out] at ho35 | (simp only [Int.reduceToNat] at ho35; rw [← Ny278.out] at ho35)); have HO280 := Aside0.mk (Kd.R_lower (Kd.R_new' (Kd.R_new' (Kd.R_new' (Kd.R_new' (Kd.R_new' (Kd.R_new' (Kd.R_new' ho35 (Kd.R_lt (rU HO254.out))) (Kd.R_lt (rU HO257.out))) (Kd.R_lt (rU HO261.out))) (Kd.R_lt (rU HO264.out))) (Kd.R_lt (rU HO268.out))) (Kd.R_lt (rU HO272.out))) (Kd.R_lt (rU HO276.out))) (below_size (lU HB))); replace HO254 := rE HO254 ho35 hb; replace HO257 := rE HO257 ho35 hb; replace HO261 := rE HO261 ho35 hb; replace HO264 := rE HO264 ho35 hb; replace HO268 := rE HO268 ho35 hb; replace HO272 := rE HO272 ho35 hb; replace HO276 := rE HO276 ho35 hb; replace BK258 := sB BK258 hb; replace BK265 := sB BK265 hb; replace HB := sL HB hb; clear hb ho35; obtain ⟨Ao36, co36, eo36⟩ := Kd.R_slice HO272.out; subst eo36; obtain ⟨Ao37, co37, eo37⟩ := Kd.R_slice HO280.out; subst eo37) | (go_at_call 16; (with_reducible refine (mandolineref02_List.calls k _ _ t270 _ _ y278 t281 _ (cU (rC HO272)) (rN HO272) (cU (rC HO280)) (rN HO280) A9.out).mono ?_); rintro e w' ⟨rfl, ⟨nd, rfl⟩⟩))
    go_ret
    exact ⟨eW, lU HB⟩
   ·replace c8 := Bool.eq_false_iff.mpr c8
    subst c8
    rw [if_neg (show ¬ (false = true) by decide)] at H
    obtain rfl := Option.some.inj H
    go_enter Try.func10, Try.ntmps10
    go_wp2_with (first | ((with_reducible refine gate_dst (N := 9) rfl ?_); (try (refine gate_guard (by rfl) ?_; dsimp only)); refine Kd.R_lit k48 _ 48 ?hg (N := 9) ?hd (xs := ([(⟨1, 3⟩ : S48), (⟨9, 14⟩ : S48)] : List (S48))) (inner := [.int .i64 1, .int .i64 3, .int .i64 9, .int .i64 14]) (ok := fun _ => True) (okp := fun _ => True) ?hr ?hp (fun _ hk => hk) trivial (Below.refl _ _) (Nat.le_refl _) (by simp) ?_; (case hd => rfl); (case hg => rfl); (case hr => first | (go_simp; done) | (go_simp; rfl)); (case hp => exact (Reps.c2 (show Kd.M k48 _ _ _ (⟨1, 3⟩ : S48) [.int .i64 1, .int .i64 3] from (k48_mkM _ _ _ (⟨1, 3⟩ : S48) )) (Reps.c2 (show Kd.M k48 _ _ _ (⟨9, 14⟩ : S48) [.int .i64 9, .int .i64 14] from (k48_mkM _ _ _ (⟨9, 14⟩ : S48) )) (Reps.none _ _)))); intro v253 w38 ho39 hb hg_ hnew_; clear hg_ hnew_; (first | rw [← Ny252.out] at ho39 | (simp only [Int.reduceToNat] at ho39; rw [← Ny252.out] at ho39)); have HO254 := Aside0.mk (Kd.R_lower ho39 (below_size (lU HB))); replace HB := sL HB hb; clear hb ho39; obtain ⟨Ao40, co40, eo40⟩ := Kd.R_slice HO254.out; subst eo40) | ((with_reducible refine gate_callee (f := 22) rfl ?_); refine gL (some 10) rfl rfl Try.func22 #[.slice Ao40 y252.length co40] rfl ?_; (with_reducible refine (ranges_Of.calls k _ _ y252 t255 _ (cU (rC HO254)) (rN HO254) A1.out).mono ?_); rintro e w41 ⟨v256, rfl, ho0, hb⟩; refine ⟨_, rfl, ?_⟩; have HO257 := Aside0.mk (Kd.R_lower (Kd.R_new' ho0 (Kd.R_lt (rU HO254.out))) (below_size (lU HB))); replace HO254 := rE HO254 ho0 hb; replace HB := sL HB hb; (try clear hb); (try clear hb2); (try clear hk); (try clear hi); (try clear ho0)) | ((with_reducible refine gate_dst (N := 1) rfl ?_); (try (refine gate_guard (by rfl) ?_; dsimp only)); refine bX (N := 1) (cs := #[.slice none 0 0]) (t := 30) ?_; intro gb258 hg w42 hbox hb; have BK258 := Aside0.mk (hbox); have GE258 := sG HB hg; replace HO254 := rB HO254 hb; replace HO257 := rB HO257 hb; replace HB := sL HB hb; clear hb hbox hg; obtain ⟨Ao43, co43, eo43⟩ := Kd.R_slice HO257.out; subst eo43; have hcz44_0 := q1 BK258; have hfz44_0 := blk_frozen BK258.out 0) | ((with_reducible refine gate_dst (N := 12) rfl ?_); (try (refine gate_guard (by rfl) ?_; dsimp only)); refine Kd.R_lit k48 _ 48 ?hg (N := 12) ?hd (xs := ([(⟨0, 40⟩ : S48)] : List (S48))) (inner := [.int .i64 0, .int .i64 40]) (ok := fun _ => True) (okp := fun _ => True) ?hr ?hp (fun _ hk => hk) trivial (Below.refl _ _) (Nat.le_refl _) (by simp) ?_; (case hd => rfl); (case hg => rfl); (case hr => first | (go_simp; done) | (go_simp; rfl)); (case hp => exact (Reps.c2 (show Kd.M k48 _ _ _ (⟨0, 40⟩ : S48) [.int .i64 0, .int .i64 40] from (k48_mkM _ _ _ (⟨0, 40⟩ : S48) )) (Reps.none _ _))); intro v260 w45 ho46 hb hg_ hnew_; clear hg_ hnew_; (first | rw [← Ny259.out] at ho46 | (simp only [Int.reduceToNat] at ho46; rw [← Ny259.out] at ho46)); have HO261 := Aside0.mk (Kd.R_lower (Kd.R_new' (Kd.R_new' ho46 (Kd.R_lt (rU ((Kd.R_mono (Kd.R_far (p := ⟨gb258, 0, none⟩) (Kd.R_types HO254.out BK258.out (by decide)) (fun _ hk => hk.2) (.slice Ao43 t255.length co43)) (fun _ h_ => h_.1)))))) (Kd.R_lt (rU ((Kd.R_mono (Kd.R_far (p := ⟨gb258, 0, none⟩) (Kd.R_types HO257.out BK258.out (by decide)) (fun _ hk => hk.2) (.slice Ao43 t255.length co43)) (fun _ h_ => h_.1)))))) (below_size (lU HB))); replace HO254 := Aside0.mk (Kd.R_elder' (rU ((Kd.R_mono (Kd.R_far (p := ⟨gb258, 0, none⟩) (Kd.R_types HO254.out BK258.out (by decide)) (fun _ hk => hk.2) (.slice Ao43 t255.length co43)) (fun _ h_ => h_.1)))) (Kd.R_base ho46) hb); replace HO257 := Aside0.mk (Kd.R_elder' (rU ((Kd.R_mono (Kd.R_far (p := ⟨gb258, 0, none⟩) (Kd.R_types HO257.out BK258.out (by decide)) (fun _ hk => hk.2) (.slice Ao43 t255.length co43)) (fun _ h_ => h_.1)))) (Kd.R_base ho46) hb); replace BK258 := Aside0.mk (blk_below (g := gb258) (o := .cells #[.slice Ao43 t255.length co43] 30 (0, 0)) (by (with_reducible repeat (first | refine blk_drewN ?_ _ | refine blk_drew ?_ | refine blk_alloc ?_ _)); refine blk_put (cs := #[.slice none 0 0]) ?_ 0 _ rfl; (with_reducible repeat (first | refine blk_drewN ?_ _ | refine blk_drew ?_ | refine blk_alloc ?_ _)); exact BK258.out) hb); replace HB := sL HB hb; clear hb ho46; obtain ⟨Ao47, co47, eo47⟩ := Kd.R_slice HO261.out; subst eo47) | ((with_reducible refine gate_callee (f := 22) rfl ?_); refine gL (some 13) rfl rfl Try.func22 #[.slice Ao47 y259.length co47] rfl ?_; (with_reducible refine (ranges_Of.calls k _ _ y259 t262 _ (cU (rC HO261)) (rN HO261) A2.out).mono ?_); rintro e w48 ⟨v263, rfl, ho0, hb⟩; refine ⟨_, rfl, ?_⟩; have HO264 := Aside0.mk (Kd.R_lower (Kd.R_new' (Kd.R_new' (Kd.R_new' ho0 (Kd.R_lt (rU HO254.out))) (Kd.R_lt (rU HO257.out))) (Kd.R_lt (rU HO261.out))) (below_size (lU HB))); replace HO254 := rE HO254 ho0 hb; replace HO257 := rE HO257 ho0 hb; replace HO261 := rE HO261 ho0 hb; replace BK258 := sB BK258 hb; replace HB := sL HB hb; (try clear hb); (try clear hb2); (try clear hk); (try clear hi); (try clear ho0)) | ((with_reducible refine gate_dst (N := 2) rfl ?_); (try (refine gate_guard (by rfl) ?_; dsimp only)); refine bX (N := 2) (cs := #[.slice none 0 0]) (t := 30) ?_; intro gb265 hg w49 hbox hb; have BK265 := Aside0.mk (hbox); have GE265 := sG HB hg; have NB258_265 := sN BK258 hg; have NB265_258 := sM BK258 hg; replace HO254 := rB HO254 hb; replace HO257 := rB HO257 hb; replace HO261 := rB HO261 hb; replace HO264 := rB HO264 hb; replace BK258 := sB BK258 hb; replace HB := sL HB hb; clear hb hbox hg; obtain ⟨Ao50, co50, eo50⟩ := Kd.R_slice HO264.out; subst eo50; have hnb51 := NB265_258.out; have hnc51 := NB258_265.out; have hcz52_0 := q1 BK265; have hfz52_0 := blk_frozen BK265.out 0; have hcz53_0 := q1 BK258; have hfz53_0 := blk_frozen BK258.out 0) | ((with_reducible refine gate_callee (f := 13) rfl ?_); refine gL (some 18) rfl rfl Try.func13 #[.agg #[.slice Ao43 t255.length co43], .agg #[.slice Ao50 t262.length co50], .int .i64 40, .agg #[.int .i64 4, .int .i64 4, .int .i64 16, .int .i64 0, .int .i64 0, .int .i64 0, .int .i64 0, .int .i64 0, .int .i64 0, .int .i64 0]] rfl ?_; (with_reducible refine (plan_Plan.calls k _ _ t255 _ _ t262 40 4 4 16 0 0 0 0 0 0 0 t266 t269 _ ?side1 ?side2 ?side3 ?side4 A3.out).mono ?_); (case side1 => refine (Kd.R_reads' (e := 48) (base := w.heap.size) (ok := fun k_ => (((True ∧ some k_ ≠ (.slice Ao40 y252.length co40 : Value).ownBlock) ∧ some k_ ≠ (.slice Ao47 y259.length co47 : Value).ownBlock) ∧ some k_ ≠ (.slice Ao50 t262.length co50 : Value).ownBlock)) (n := t255.length) (c := co43) ?_).2.2; exact (rU ((Kd.R_mono (Kd.R_far (p := ⟨gb265, 0, none⟩) (Kd.R_types HO257.out BK265.out (by decide)) (fun _ hk => hk.2) (.slice Ao50 t262.length co50)) (fun _ h_ => h_.1))))); (case side2 => exact (rN HO257)); (case side3 => refine (Kd.R_reads' (e := 48) (base := w.heap.size) (ok := fun k_ => (((True ∧ some k_ ≠ (.slice Ao40 y252.length co40 : Value).ownBlock) ∧ some k_ ≠ (.slice Ao43 t255.length co43 : Value).ownBlock) ∧ some k_ ≠ (.slice Ao47 y259.length co47 : Value).ownBlock)) (n := t262.length) (c := co50) ?_).2.2; exact (rU ((Kd.R_mono (Kd.R_far (p := ⟨gb265, 0, none⟩) (Kd.R_types HO264.out BK265.out (by decide)) (fun _ hk => hk.2) (.slice Ao50 t262.length co50)) (fun _ h_ => h_.1))))); (case side4 => exact (rN HO264)); rintro e w54 ⟨v267, rfl, ho0, hb⟩; refine ⟨_, rfl, ?_⟩; have HO268 := Aside0.mk (Kd.R_lower (Kd.R_new' (Kd.R_new' (Kd.R_new' (Kd.R_new' ho0 (Kd.R_lt (rU ((Kd.R_mono (Kd.R_far (p := ⟨gb265, 0, none⟩) (Kd.R_types HO254.out BK265.out (by decide)) (fun _ hk => hk.2) (.slice Ao50 t262.length co50)) (fun _ h_ => h_.1)))))) (Kd.R_lt (rU ((Kd.R_mono (Kd.R_far (p := ⟨gb265, 0, none⟩) (Kd.R_types HO257.out BK265.out (by decide)) (fun _ hk => hk.2) (.slice Ao50 t262.length co50)) (fun _ h_ => h_.1)))))) (Kd.R_lt (rU ((Kd.R_mono (Kd.R_far (p := ⟨gb265, 0, none⟩) (Kd.R_types HO261.out BK265.out (by decide)) (fun _ hk => hk.2) (.slice Ao50 t262.length co50)) (fun _ h_ => h_.1)))))) (Kd.R_lt (rU ((Kd.R_mono (Kd.R_far (p := ⟨gb265, 0, none⟩) (Kd.R_types HO264.out BK265.out (by decide)) (fun _ hk => hk.2) (.slice Ao50 t262.length co50)) (fun _ h_ => h_.1)))))) (below_size (lU HB))); replace HO254 := Aside0.mk (Kd.R_elder' (rU ((Kd.R_mono (Kd.R_far (p := ⟨gb265, 0, none⟩) (Kd.R_types HO254.out BK265.out (by decide)) (fun _ hk => hk.2) (.slice Ao50 t262.length co50)) (fun _ h_ => h_.1)))) (Kd.R_base ho0) hb); replace HO257 := Aside0.mk (Kd.R_elder' (rU ((Kd.R_mono (Kd.R_far (p := ⟨gb265, 0, none⟩) (Kd.R_types HO257.out BK265.out (by decide)) (fun _ hk => hk.2) (.slice Ao50 t262.length co50)) (fun _ h_ => h_.1)))) (Kd.R_base ho0) hb); replace HO261 := Aside0.mk (Kd.R_elder' (rU ((Kd.R_mono (Kd.R_far (p := ⟨gb265, 0, none⟩) (Kd.R_types HO261.out BK265.out (by decide)) (fun _ hk => hk.2) (.slice Ao50 t262.length co50)) (fun _ h_ => h_.1)))) (Kd.R_base ho0) hb); replace HO264 := Aside0.mk (Kd.R_elder' (rU ((Kd.R_mono (Kd.R_far (p := ⟨gb265, 0, none⟩) (Kd.R_types HO264.out BK265.out (by decide)) (fun _ hk => hk.2) (.slice Ao50 t262.length co50)) (fun _ h_ => h_.1)))) (Kd.R_base ho0) hb); replace BK258 := Aside0.mk (blk_below (g := gb258) (o := .cells #[.slice Ao43 t255.length co43] 30 (0, 0)) (bF BK258) hb); replace BK265 := Aside0.mk (blk_below (g := gb265) (o := .cells #[.slice Ao50 t262.length co50] 30 (0, 0)) (by (with_reducible repeat (first | refine blk_drewN ?_ _ | refine blk_drew ?_ | refine blk_alloc ?_ _)); refine blk_put (cs := #[.slice none 0 0]) ?_ 0 _ rfl; (with_reducible repeat (first | refine blk_drewN ?_ _ | refine blk_drew ?_ | refine blk_alloc ?_ _)); exact BK265.out) hb); replace HB := sL HB hb; (try clear hb); (try clear hb2); (try clear hk); (try clear hi); (try clear ho0); have hcz55_0 := q1 BK258; have hfz55_0 := blk_frozen BK258.out 0; have hcz56_0 := q1 BK265; have hfz56_0 := blk_frozen BK265.out 0) | ((with_reducible refine gate_callee (f := 13) rfl ?_); refine gL (some 25) rfl rfl Try.func13 #[.agg #[.slice Ao43 t255.length co43], .agg #[.slice Ao50 t262.length co50], .int .i64 40, .agg #[.int .i64 4, .int .i64 0, .int .i64 16, .int .i64 0, .int .i64 0, .int .i64 0, .int .i64 0, .int .i64 0, .int .i64 0, .int .i64 0]] rfl ?_; (with_reducible refine (plan_Plan.calls k _ _ t255 _ _ t262 40 4 0 16 0 0 0 0 0 0 0 t270 t273 _ (cU (rC HO257)) (rN HO257) (cU (rC HO264)) (rN HO264) A4.out).mono ?_); rintro e w57 ⟨v271, rfl, ho0, hb⟩; refine ⟨_, rfl, ?_⟩; have HO272 := Aside0.mk (Kd.R_lower (Kd.R_new' (Kd.R_new' (Kd.R_new' (Kd.R_new' (Kd.R_new' ho0 (Kd.R_lt (rU HO254.out))) (Kd.R_lt (rU HO257.out))) (Kd.R_lt (rU HO261.out))) (Kd.R_lt (rU HO264.out))) (Kd.R_lt (rU HO268.out))) (below_size (lU HB))); replace HO254 := rE HO254 ho0 hb; replace HO257 := rE HO257 ho0 hb; replace HO261 := rE HO261 ho0 hb; replace HO264 := rE HO264 ho0 hb; replace HO268 := rE HO268 ho0 hb; replace BK258 := sB BK258 hb; replace BK265 := sB BK265 hb; replace HB := sL HB hb; (try clear hb); (try clear hb2); (try clear hk); (try clear hi); (try clear ho0)) | ((with_reducible refine gate_dst (N := 37) rfl ?_); (try (refine gate_guard (by rfl) ?_; dsimp only)); refine Kd.R_lit k48 _ 48 ?hg (N := 37) ?hd (xs := ([(⟨0, 16⟩ : S48)] : List (S48))) (inner := [.int .i64 0, .int .i64 16]) (ok := fun _ => True) (okp := fun _ => True) ?hr ?hp (fun _ hk => hk) trivial (Below.refl _ _) (Nat.le_refl _) (by simp) ?_; (case hd => rfl); (case hg => rfl); (case hr => first | (go_simp; done) | (go_simp; rfl)); (case hp => exact (Reps.c2 (show Kd.M k48 _ _ _ (⟨0, 16⟩ : S48) [.int .i64 0, .int .i64 16] from (k48_mkM _ _ _ (⟨0, 16⟩ : S48) )) (Reps.none _ _))); intro v275 w58 ho59 hb hg_ hnew_; clear hg_ hnew_; (first | rw [← Ny274.out] at ho59 | (simp only [Int.reduceToNat] at ho59; rw [← Ny274.out] at ho59)); have HO276 := Aside0.mk (Kd.R_lower (Kd.R_new' (Kd.R_new' (Kd.R_new' (Kd.R_new' (Kd.R_new' (Kd.R_new' ho59 (Kd.R_lt (rU HO254.out))) (Kd.R_lt (rU HO257.out))) (Kd.R_lt (rU HO261.out))) (Kd.R_lt (rU HO264.out))) (Kd.R_lt (rU HO268.out))) (Kd.R_lt (rU HO272.out))) (below_size (lU HB))); replace HO254 := rE HO254 ho59 hb; replace HO257 := rE HO257 ho59 hb; replace HO261 := rE HO261 ho59 hb; replace HO264 := rE HO264 ho59 hb; replace HO268 := rE HO268 ho59 hb; replace HO272 := rE HO272 ho59 hb; replace BK258 := sB BK258 hb; replace BK265 := sB BK265 hb; replace HB := sL HB hb; clear hb ho59; obtain ⟨Ao60, co60, eo60⟩ := Kd.R_slice HO268.out; subst eo60; obtain ⟨Ao61, co61, eo61⟩ := Kd.R_slice HO276.out; subst eo61) | (go_at_call 16; (with_reducible refine (mandolineref02_List.calls k _ _ t266 _ _ y274 false _ (cU (rC HO268)) (rN HO268) (cU (rC HO276)) (rN HO276) A7.out).mono ?_); rintro e w' ⟨rfl, ⟨nd, rfl⟩⟩))
    go_ret
    exact ⟨eW, lU HB⟩
  ·rw [if_neg c6] at H
   have c6b0 : (t273 == 0) = false := beq_eq_false_iff_ne.mpr c6
   have c6b1 : (t273 != 0) = true := bne_iff_ne.mpr c6
   obtain rfl := Option.some.inj H
   go_enter Try.func10, Try.ntmps10
   go_wp2_with (first | ((with_reducible refine gate_dst (N := 9) rfl ?_); (try (refine gate_guard (by rfl) ?_; dsimp only)); refine Kd.R_lit k48 _ 48 ?hg (N := 9) ?hd (xs := ([(⟨1, 3⟩ : S48), (⟨9, 14⟩ : S48)] : List (S48))) (inner := [.int .i64 1, .int .i64 3, .int .i64 9, .int .i64 14]) (ok := fun _ => True) (okp := fun _ => True) ?hr ?hp (fun _ hk => hk) trivial (Below.refl _ _) (Nat.le_refl _) (by simp) ?_; (case hd => rfl); (case hg => rfl); (case hr => first | (go_simp; done) | (go_simp; rfl)); (case hp => exact (Reps.c2 (show Kd.M k48 _ _ _ (⟨1, 3⟩ : S48) [.int .i64 1, .int .i64 3] from (k48_mkM _ _ _ (⟨1, 3⟩ : S48) )) (Reps.c2 (show Kd.M k48 _ _ _ (⟨9, 14⟩ : S48) [.int .i64 9, .int .i64 14] from (k48_mkM _ _ _ (⟨9, 14⟩ : S48) )) (Reps.none _ _)))); intro v253 w62 ho63 hb hg_ hnew_; clear hg_ hnew_; (first | rw [← Ny252.out] at ho63 | (simp only [Int.reduceToNat] at ho63; rw [← Ny252.out] at ho63)); have HO254 := Aside0.mk (Kd.R_lower ho63 (below_size (lU HB))); replace HB := sL HB hb; clear hb ho63; obtain ⟨Ao64, co64, eo64⟩ := Kd.R_slice HO254.out; subst eo64) | ((with_reducible refine gate_callee (f := 22) rfl ?_); refine gL (some 10) rfl rfl Try.func22 #[.slice Ao64 y252.length co64] rfl ?_; (with_reducible refine (ranges_Of.calls k _ _ y252 t255 _ (cU (rC HO254)) (rN HO254) A1.out).mono ?_); rintro e w65 ⟨v256, rfl, ho0, hb⟩; refine ⟨_, rfl, ?_⟩; have HO257 := Aside0.mk (Kd.R_lower (Kd.R_new' ho0 (Kd.R_lt (rU HO254.out))) (below_size (lU HB))); replace HO254 := rE HO254 ho0 hb; replace HB := sL HB hb; (try clear hb); (try clear hb2); (try clear hk); (try clear hi); (try clear ho0)) | ((with_reducible refine gate_dst (N := 1) rfl ?_); (try (refine gate_guard (by rfl) ?_; dsimp only)); refine bX (N := 1) (cs := #[.slice none 0 0]) (t := 30) ?_; intro gb258 hg w66 hbox hb; have BK258 := Aside0.mk (hbox); have GE258 := sG HB hg; replace HO254 := rB HO254 hb; replace HO257 := rB HO257 hb; replace HB := sL HB hb; clear hb hbox hg; obtain ⟨Ao67, co67, eo67⟩ := Kd.R_slice HO257.out; subst eo67; have hcz68_0 := q1 BK258; have hfz68_0 := blk_frozen BK258.out 0) | ((with_reducible refine gate_dst (N := 12) rfl ?_); (try (refine gate_guard (by rfl) ?_; dsimp only)); refine Kd.R_lit k48 _ 48 ?hg (N := 12) ?hd (xs := ([(⟨0, 40⟩ : S48)] : List (S48))) (inner := [.int .i64 0, .int .i64 40]) (ok := fun _ => True) (okp := fun _ => True) ?hr ?hp (fun _ hk => hk) trivial (Below.refl _ _) (Nat.le_refl _) (by simp) ?_; (case hd => rfl); (case hg => rfl); (case hr => first | (go_simp; done) | (go_simp; rfl)); (case hp => exact (Reps.c2 (show Kd.M k48 _ _ _ (⟨0, 40⟩ : S48) [.int .i64 0, .int .i64 40] from (k48_mkM _ _ _ (⟨0, 40⟩ : S48) )) (Reps.none _ _))); intro v260 w69 ho70 hb hg_ hnew_; clear hg_ hnew_; (first | rw [← Ny259.out] at ho70 | (simp only [Int.reduceToNat] at ho70; rw [← Ny259.out] at ho70)); have HO261 := Aside0.mk (Kd.R_lower (Kd.R_new' (Kd.R_new' ho70 (Kd.R_lt (rU ((Kd.R_mono (Kd.R_far (p := ⟨gb258, 0, none⟩) (Kd.R_types HO254.out BK258.out (by decide)) (fun _ hk => hk.2) (.slice Ao67 t255.length co67)) (fun _ h_ => h_.1)))))) (Kd.R_lt (rU ((Kd.R_mono (Kd.R_far (p := ⟨gb258, 0, none⟩) (Kd.R_types HO257.out BK258.out (by decide)) (fun _ hk => hk.2) (.slice Ao67 t255.length co67)) (fun _ h_ => h_.1)))))) (below_size (lU HB))); replace HO254 := Aside0.mk (Kd.R_elder' (rU ((Kd.R_mono (Kd.R_far (p := ⟨gb258, 0, none⟩) (Kd.R_types HO254.out BK258.out (by decide)) (fun _ hk => hk.2) (.slice Ao67 t255.length co67)) (fun _ h_ => h_.1)))) (Kd.R_base ho70) hb); replace HO257 := Aside0.mk (Kd.R_elder' (rU ((Kd.R_mono (Kd.R_far (p := ⟨gb258, 0, none⟩) (Kd.R_types HO257.out BK258.out (by decide)) (fun _ hk => hk.2) (.slice Ao67 t255.length co67)) (fun _ h_ => h_.1)))) (Kd.R_base ho70) hb); replace BK258 := Aside0.mk (blk_below (g := gb258) (o := .cells #[.slice Ao67 t255.length co67] 30 (0, 0)) (by (with_reducible repeat (first | refine blk_drewN ?_ _ | refine blk_drew ?_ | refine blk_alloc ?_ _)); refine blk_put (cs := #[.slice none 0 0]) ?_ 0 _ rfl; (with_reducible repeat (first | refine blk_drewN ?_ _ | refine blk_drew ?_ | refine blk_alloc ?_ _)); exact BK258.out) hb); replace HB := sL HB hb; clear hb ho70; obtain ⟨Ao71, co71, eo71⟩ := Kd.R_slice HO261.out; subst eo71) | ((with_reducible refine gate_callee (f := 22) rfl ?_); refine gL (some 13) rfl rfl Try.func22 #[.slice Ao71 y259.length co71] rfl ?_; (with_reducible refine (ranges_Of.calls k _ _ y259 t262 _ (cU (rC HO261)) (rN HO261) A2.out).mono ?_); rintro e w72 ⟨v263, rfl, ho0, hb⟩; refine ⟨_, rfl, ?_⟩; have HO264 := Aside0.mk (Kd.R_lower (Kd.R_new' (Kd.R_new' (Kd.R_new' ho0 (Kd.R_lt (rU HO254.out))) (Kd.R_lt (rU HO257.out))) (Kd.R_lt (rU HO261.out))) (below_size (lU HB))); replace HO254 := rE HO254 ho0 hb; replace HO257 := rE HO257 ho0 hb; replace HO261 := rE HO261 ho0 hb; replace BK258 := sB BK258 hb; replace HB := sL HB hb; (try clear hb); (try clear hb2); (try clear hk); (try clear hi); (try clear ho0)) | ((with_reducible refine gate_dst (N := 2) rfl ?_); (try (refine gate_guard (by rfl) ?_; dsimp only)); refine bX (N := 2) (cs := #[.slice none 0 0]) (t := 30) ?_; intro gb265 hg w73 hbox hb; have BK265 := Aside0.mk (hbox); have GE265 := sG HB hg; have NB258_265 := sN BK258 hg; have NB265_258 := sM BK258 hg; replace HO254 := rB HO254 hb; replace HO257 := rB HO257 hb; replace HO261 := rB HO261 hb; replace HO264 := rB HO264 hb; replace BK258 := sB BK258 hb; replace HB := sL HB hb; clear hb hbox hg; obtain ⟨Ao74, co74, eo74⟩ := Kd.R_slice HO264.out; subst eo74; have hnb75 := NB265_258.out; have hnc75 := NB258_265.out; have hcz76_0 := q1 BK265; have hfz76_0 := blk_frozen BK265.out 0; have hcz77_0 := q1 BK258; have hfz77_0 := blk_frozen BK258.out 0) | ((with_reducible refine gate_callee (f := 13) rfl ?_); refine gL (some 18) rfl rfl Try.func13 #[.agg #[.slice Ao67 t255.length co67], .agg #[.slice Ao74 t262.length co74], .int .i64 40, .agg #[.int .i64 4, .int .i64 4, .int .i64 16, .int .i64 0, .int .i64 0, .int .i64 0, .int .i64 0, .int .i64 0, .int .i64 0, .int .i64 0]] rfl ?_; (with_reducible refine (plan_Plan.calls k _ _ t255 _ _ t262 40 4 4 16 0 0 0 0 0 0 0 t266 t269 _ ?side1 ?side2 ?side3 ?side4 A3.out).mono ?_); (case side1 => refine (Kd.R_reads' (e := 48) (base := w.heap.size) (ok := fun k_ => (((True ∧ some k_ ≠ (.slice Ao64 y252.length co64 : Value).ownBlock) ∧ some k_ ≠ (.slice Ao71 y259.length co71 : Value).ownBlock) ∧ some k_ ≠ (.slice Ao74 t262.length co74 : Value).ownBlock)) (n := t255.length) (c := co67) ?_).2.2; exact (rU ((Kd.R_mono (Kd.R_far (p := ⟨gb265, 0, none⟩) (Kd.R_types HO257.out BK265.out (by decide)) (fun _ hk => hk.2) (.slice Ao74 t262.length co74)) (fun _ h_ => h_.1))))); (case side2 => exact (rN HO257)); (case side3 => refine (Kd.R_reads' (e := 48) (base := w.heap.size) (ok := fun k_ => (((True ∧ some k_ ≠ (.slice Ao64 y252.length co64 : Value).ownBlock) ∧ some k_ ≠ (.slice Ao67 t255.length co67 : Value).ownBlock) ∧ some k_ ≠ (.slice Ao71 y259.length co71 : Value).ownBlock)) (n := t262.length) (c := co74) ?_).2.2; exact (rU ((Kd.R_mono (Kd.R_far (p := ⟨gb265, 0, none⟩) (Kd.R_types HO264.out BK265.out (by decide)) (fun _ hk => hk.2) (.slice Ao74 t262.length co74)) (fun _ h_ => h_.1))))); (case side4 => exact (rN HO264)); rintro e w78 ⟨v267, rfl, ho0, hb⟩; refine ⟨_, rfl, ?_⟩; have HO268 := Aside0.mk (Kd.R_lower (Kd.R_new' (Kd.R_new' (Kd.R_new' (Kd.R_new' ho0 (Kd.R_lt (rU ((Kd.R_mono (Kd.R_far (p := ⟨gb265, 0, none⟩) (Kd.R_types HO254.out BK265.out (by decide)) (fun _ hk => hk.2) (.slice Ao74 t262.length co74)) (fun _ h_ => h_.1)))))) (Kd.R_lt (rU ((Kd.R_mono (Kd.R_far (p := ⟨gb265, 0, none⟩) (Kd.R_types HO257.out BK265.out (by decide)) (fun _ hk => hk.2) (.slice Ao74 t262.length co74)) (fun _ h_ => h_.1)))))) (Kd.R_lt (rU ((Kd.R_mono (Kd.R_far (p := ⟨gb265, 0, none⟩) (Kd.R_types HO261.out BK265.out (by decide)) (fun _ hk => hk.2) (.slice Ao74 t262.length co74)) (fun _ h_ => h_.1)))))) (Kd.R_lt (rU ((Kd.R_mono (Kd.R_far (p := ⟨gb265, 0, none⟩) (Kd.R_types HO264.out BK265.out (by decide)) (fun _ hk => hk.2) (.slice Ao74 t262.length co74)) (fun _ h_ => h_.1)))))) (below_size (lU HB))); replace HO254 := Aside0.mk (Kd.R_elder' (rU ((Kd.R_mono (Kd.R_far (p := ⟨gb265, 0, none⟩) (Kd.R_types HO254.out BK265.out (by decide)) (fun _ hk => hk.2) (.slice Ao74 t262.length co74)) (fun _ h_ => h_.1)))) (Kd.R_base ho0) hb); replace HO257 := Aside0.mk (Kd.R_elder' (rU ((Kd.R_mono (Kd.R_far (p := ⟨gb265, 0, none⟩) (Kd.R_types HO257.out BK265.out (by decide)) (fun _ hk => hk.2) (.slice Ao74 t262.length co74)) (fun _ h_ => h_.1)))) (Kd.R_base ho0) hb); replace HO261 := Aside0.mk (Kd.R_elder' (rU ((Kd.R_mono (Kd.R_far (p := ⟨gb265, 0, none⟩) (Kd.R_types HO261.out BK265.out (by decide)) (fun _ hk => hk.2) (.slice Ao74 t262.length co74)) (fun _ h_ => h_.1)))) (Kd.R_base ho0) hb); replace HO264 := Aside0.mk (Kd.R_elder' (rU ((Kd.R_mono (Kd.R_far (p := ⟨gb265, 0, none⟩) (Kd.R_types HO264.out BK265.out (by decide)) (fun _ hk => hk.2) (.slice Ao74 t262.length co74)) (fun _ h_ => h_.1)))) (Kd.R_base ho0) hb); replace BK258 := Aside0.mk (blk_below (g := gb258) (o := .cells #[.slice Ao67 t255.length co67] 30 (0, 0)) (bF BK258) hb); replace BK265 := Aside0.mk (blk_below (g := gb265) (o := .cells #[.slice Ao74 t262.length co74] 30 (0, 0)) (by (with_reducible repeat (first | refine blk_drewN ?_ _ | refine blk_drew ?_ | refine blk_alloc ?_ _)); refine blk_put (cs := #[.slice none 0 0]) ?_ 0 _ rfl; (with_reducible repeat (first | refine blk_drewN ?_ _ | refine blk_drew ?_ | refine blk_alloc ?_ _)); exact BK265.out) hb); replace HB := sL HB hb; (try clear hb); (try clear hb2); (try clear hk); (try clear hi); (try clear ho0); have hcz79_0 := q1 BK258; have hfz79_0 := blk_frozen BK258.out 0; have hcz80_0 := q1 BK265; have hfz80_0 := blk_frozen BK265.out 0) | ((with_reducible refine gate_callee (f := 13) rfl ?_); refine gL (some 25) rfl rfl Try.func13 #[.agg #[.slice Ao67 t255.length co67], .agg #[.slice Ao74 t262.length co74], .int .i64 40, .agg #[.int .i64 4, .int .i64 0, .int .i64 16, .int .i64 0, .int .i64 0, .int .i64 0, .int .i64 0, .int .i64 0, .int .i64 0, .int .i64 0]] rfl ?_; (with_reducible refine (plan_Plan.calls k _ _ t255 _ _ t262 40 4 0 16 0 0 0 0 0 0 0 t270 t273 _ (cU (rC HO257)) (rN HO257) (cU (rC HO264)) (rN HO264) A4.out).mono ?_); rintro e w81 ⟨v271, rfl, ho0, hb⟩; refine ⟨_, rfl, ?_⟩; have HO272 := Aside0.mk (Kd.R_lower (Kd.R_new' (Kd.R_new' (Kd.R_new' (Kd.R_new' (Kd.R_new' ho0 (Kd.R_lt (rU HO254.out))) (Kd.R_lt (rU HO257.out))) (Kd.R_lt (rU HO261.out))) (Kd.R_lt (rU HO264.out))) (Kd.R_lt (rU HO268.out))) (below_size (lU HB))); replace HO254 := rE HO254 ho0 hb; replace HO257 := rE HO257 ho0 hb; replace HO261 := rE HO261 ho0 hb; replace HO264 := rE HO264 ho0 hb; replace HO268 := rE HO268 ho0 hb; replace BK258 := sB BK258 hb; replace BK265 := sB BK265 hb; replace HB := sL HB hb; (try clear hb); (try clear hb2); (try clear hk); (try clear hi); (try clear ho0)))
   go_ret
   exact ⟨eW, lU HB⟩
 ·rw [if_neg c5] at H
  have c5b0 : (t269 == 0) = false := beq_eq_false_iff_ne.mpr c5
  have c5b1 : (t269 != 0) = true := bne_iff_ne.mpr c5
  obtain rfl := Option.some.inj H
  go_enter Try.func10, Try.ntmps10
  go_wp2_with (first | ((with_reducible refine gate_dst (N := 9) rfl ?_); (try (refine gate_guard (by rfl) ?_; dsimp only)); refine Kd.R_lit k48 _ 48 ?hg (N := 9) ?hd (xs := ([(⟨1, 3⟩ : S48), (⟨9, 14⟩ : S48)] : List (S48))) (inner := [.int .i64 1, .int .i64 3, .int .i64 9, .int .i64 14]) (ok := fun _ => True) (okp := fun _ => True) ?hr ?hp (fun _ hk => hk) trivial (Below.refl _ _) (Nat.le_refl _) (by simp) ?_; (case hd => rfl); (case hg => rfl); (case hr => first | (go_simp; done) | (go_simp; rfl)); (case hp => exact (Reps.c2 (show Kd.M k48 _ _ _ (⟨1, 3⟩ : S48) [.int .i64 1, .int .i64 3] from (k48_mkM _ _ _ (⟨1, 3⟩ : S48) )) (Reps.c2 (show Kd.M k48 _ _ _ (⟨9, 14⟩ : S48) [.int .i64 9, .int .i64 14] from (k48_mkM _ _ _ (⟨9, 14⟩ : S48) )) (Reps.none _ _)))); intro v253 w82 ho83 hb hg_ hnew_; clear hg_ hnew_; (first | rw [← Ny252.out] at ho83 | (simp only [Int.reduceToNat] at ho83; rw [← Ny252.out] at ho83)); have HO254 := Aside0.mk (Kd.R_lower ho83 (below_size (lU HB))); replace HB := sL HB hb; clear hb ho83; obtain ⟨Ao84, co84, eo84⟩ := Kd.R_slice HO254.out; subst eo84) | ((with_reducible refine gate_callee (f := 22) rfl ?_); refine gL (some 10) rfl rfl Try.func22 #[.slice Ao84 y252.length co84] rfl ?_; (with_reducible refine (ranges_Of.calls k _ _ y252 t255 _ (cU (rC HO254)) (rN HO254) A1.out).mono ?_); rintro e w85 ⟨v256, rfl, ho0, hb⟩; refine ⟨_, rfl, ?_⟩; have HO257 := Aside0.mk (Kd.R_lower (Kd.R_new' ho0 (Kd.R_lt (rU HO254.out))) (below_size (lU HB))); replace HO254 := rE HO254 ho0 hb; replace HB := sL HB hb; (try clear hb); (try clear hb2); (try clear hk); (try clear hi); (try clear ho0)) | ((with_reducible refine gate_dst (N := 1) rfl ?_); (try (refine gate_guard (by rfl) ?_; dsimp only)); refine bX (N := 1) (cs := #[.slice none 0 0]) (t := 30) ?_; intro gb258 hg w86 hbox hb; have BK258 := Aside0.mk (hbox); have GE258 := sG HB hg; replace HO254 := rB HO254 hb; replace HO257 := rB HO257 hb; replace HB := sL HB hb; clear hb hbox hg; obtain ⟨Ao87, co87, eo87⟩ := Kd.R_slice HO257.out; subst eo87; have hcz88_0 := q1 BK258; have hfz88_0 := blk_frozen BK258.out 0) | ((with_reducible refine gate_dst (N := 12) rfl ?_); (try (refine gate_guard (by rfl) ?_; dsimp only)); refine Kd.R_lit k48 _ 48 ?hg (N := 12) ?hd (xs := ([(⟨0, 40⟩ : S48)] : List (S48))) (inner := [.int .i64 0, .int .i64 40]) (ok := fun _ => True) (okp := fun _ => True) ?hr ?hp (fun _ hk => hk) trivial (Below.refl _ _) (Nat.le_refl _) (by simp) ?_; (case hd => rfl); (case hg => rfl); (case hr => first | (go_simp; done) | (go_simp; rfl)); (case hp => exact (Reps.c2 (show Kd.M k48 _ _ _ (⟨0, 40⟩ : S48) [.int .i64 0, .int .i64 40] from (k48_mkM _ _ _ (⟨0, 40⟩ : S48) )) (Reps.none _ _))); intro v260 w89 ho90 hb hg_ hnew_; clear hg_ hnew_; (first | rw [← Ny259.out] at ho90 | (simp only [Int.reduceToNat] at ho90; rw [← Ny259.out] at ho90)); have HO261 := Aside0.mk (Kd.R_lower (Kd.R_new' (Kd.R_new' ho90 (Kd.R_lt (rU ((Kd.R_mono (Kd.R_far (p := ⟨gb258, 0, none⟩) (Kd.R_types HO254.out BK258.out (by decide)) (fun _ hk => hk.2) (.slice Ao87 t255.length co87)) (fun _ h_ => h_.1)))))) (Kd.R_lt (rU ((Kd.R_mono (Kd.R_far (p := ⟨gb258, 0, none⟩) (Kd.R_types HO257.out BK258.out (by decide)) (fun _ hk => hk.2) (.slice Ao87 t255.length co87)) (fun _ h_ => h_.1)))))) (below_size (lU HB))); replace HO254 := Aside0.mk (Kd.R_elder' (rU ((Kd.R_mono (Kd.R_far (p := ⟨gb258, 0, none⟩) (Kd.R_types HO254.out BK258.out (by decide)) (fun _ hk => hk.2) (.slice Ao87 t255.length co87)) (fun _ h_ => h_.1)))) (Kd.R_base ho90) hb); replace HO257 := Aside0.mk (Kd.R_elder' (rU ((Kd.R_mono (Kd.R_far (p := ⟨gb258, 0, none⟩) (Kd.R_types HO257.out BK258.out (by decide)) (fun _ hk => hk.2) (.slice Ao87 t255.length co87)) (fun _ h_ => h_.1)))) (Kd.R_base ho90) hb); replace BK258 := Aside0.mk (blk_below (g := gb258) (o := .cells #[.slice Ao87 t255.length co87] 30 (0, 0)) (by (with_reducible repeat (first | refine blk_drewN ?_ _ | refine blk_drew ?_ | refine blk_alloc ?_ _)); refine blk_put (cs := #[.slice none 0 0]) ?_ 0 _ rfl; (with_reducible repeat (first | refine blk_drewN ?_ _ | refine blk_drew ?_ | refine blk_alloc ?_ _)); exact BK258.out) hb); replace HB := sL HB hb; clear hb ho90; obtain ⟨Ao91, co91, eo91⟩ := Kd.R_slice HO261.out; subst eo91) | ((with_reducible refine gate_callee (f := 22) rfl ?_); refine gL (some 13) rfl rfl Try.func22 #[.slice Ao91 y259.length co91] rfl ?_; (with_reducible refine (ranges_Of.calls k _ _ y259 t262 _ (cU (rC HO261)) (rN HO261) A2.out).mono ?_); rintro e w92 ⟨v263, rfl, ho0, hb⟩; refine ⟨_, rfl, ?_⟩; have HO264 := Aside0.mk (Kd.R_lower (Kd.R_new' (Kd.R_new' (Kd.R_new' ho0 (Kd.R_lt (rU HO254.out))) (Kd.R_lt (rU HO257.out))) (Kd.R_lt (rU HO261.out))) (below_size (lU HB))); replace HO254 := rE HO254 ho0 hb; replace HO257 := rE HO257 ho0 hb; replace HO261 := rE HO261 ho0 hb; replace BK258 := sB BK258 hb; replace HB := sL HB hb; (try clear hb); (try clear hb2); (try clear hk); (try clear hi); (try clear ho0)) | ((with_reducible refine gate_dst (N := 2) rfl ?_); (try (refine gate_guard (by rfl) ?_; dsimp only)); refine bX (N := 2) (cs := #[.slice none 0 0]) (t := 30) ?_; intro gb265 hg w93 hbox hb; have BK265 := Aside0.mk (hbox); have GE265 := sG HB hg; have NB258_265 := sN BK258 hg; have NB265_258 := sM BK258 hg; replace HO254 := rB HO254 hb; replace HO257 := rB HO257 hb; replace HO261 := rB HO261 hb; replace HO264 := rB HO264 hb; replace BK258 := sB BK258 hb; replace HB := sL HB hb; clear hb hbox hg; obtain ⟨Ao94, co94, eo94⟩ := Kd.R_slice HO264.out; subst eo94; have hnb95 := NB265_258.out; have hnc95 := NB258_265.out; have hcz96_0 := q1 BK265; have hfz96_0 := blk_frozen BK265.out 0; have hcz97_0 := q1 BK258; have hfz97_0 := blk_frozen BK258.out 0) | ((with_reducible refine gate_callee (f := 13) rfl ?_); refine gL (some 18) rfl rfl Try.func13 #[.agg #[.slice Ao87 t255.length co87], .agg #[.slice Ao94 t262.length co94], .int .i64 40, .agg #[.int .i64 4, .int .i64 4, .int .i64 16, .int .i64 0, .int .i64 0, .int .i64 0, .int .i64 0, .int .i64 0, .int .i64 0, .int .i64 0]] rfl ?_; (with_reducible refine (plan_Plan.calls k _ _ t255 _ _ t262 40 4 4 16 0 0 0 0 0 0 0 t266 t269 _ ?side1 ?side2 ?side3 ?side4 A3.out).mono ?_); (case side1 => refine (Kd.R_reads' (e := 48) (base := w.heap.size) (ok := fun k_ => (((True ∧ some k_ ≠ (.slice Ao84 y252.length co84 : Value).ownBlock) ∧ some k_ ≠ (.slice Ao91 y259.length co91 : Value).ownBlock) ∧ some k_ ≠ (.slice Ao94 t262.length co94 : Value).ownBlock)) (n := t255.length) (c := co87) ?_).2.2; exact (rU ((Kd.R_mono (Kd.R_far (p := ⟨gb265, 0, none⟩) (Kd.R_types HO257.out BK265.out (by decide)) (fun _ hk => hk.2) (.slice Ao94 t262.length co94)) (fun _ h_ => h_.1))))); (case side2 => exact (rN HO257)); (case side3 => refine (Kd.R_reads' (e := 48) (base := w.heap.size) (ok := fun k_ => (((True ∧ some k_ ≠ (.slice Ao84 y252.length co84 : Value).ownBlock) ∧ some k_ ≠ (.slice Ao87 t255.length co87 : Value).ownBlock) ∧ some k_ ≠ (.slice Ao91 y259.length co91 : Value).ownBlock)) (n := t262.length) (c := co94) ?_).2.2; exact (rU ((Kd.R_mono (Kd.R_far (p := ⟨gb265, 0, none⟩) (Kd.R_types HO264.out BK265.out (by decide)) (fun _ hk => hk.2) (.slice Ao94 t262.length co94)) (fun _ h_ => h_.1))))); (case side4 => exact (rN HO264)); rintro e w98 ⟨v267, rfl, ho0, hb⟩; refine ⟨_, rfl, ?_⟩; have HO268 := Aside0.mk (Kd.R_lower (Kd.R_new' (Kd.R_new' (Kd.R_new' (Kd.R_new' ho0 (Kd.R_lt (rU ((Kd.R_mono (Kd.R_far (p := ⟨gb265, 0, none⟩) (Kd.R_types HO254.out BK265.out (by decide)) (fun _ hk => hk.2) (.slice Ao94 t262.length co94)) (fun _ h_ => h_.1)))))) (Kd.R_lt (rU ((Kd.R_mono (Kd.R_far (p := ⟨gb265, 0, none⟩) (Kd.R_types HO257.out BK265.out (by decide)) (fun _ hk => hk.2) (.slice Ao94 t262.length co94)) (fun _ h_ => h_.1)))))) (Kd.R_lt (rU ((Kd.R_mono (Kd.R_far (p := ⟨gb265, 0, none⟩) (Kd.R_types HO261.out BK265.out (by decide)) (fun _ hk => hk.2) (.slice Ao94 t262.length co94)) (fun _ h_ => h_.1)))))) (Kd.R_lt (rU ((Kd.R_mono (Kd.R_far (p := ⟨gb265, 0, none⟩) (Kd.R_types HO264.out BK265.out (by decide)) (fun _ hk => hk.2) (.slice Ao94 t262.length co94)) (fun _ h_ => h_.1)))))) (below_size (lU HB))); replace HO254 := Aside0.mk (Kd.R_elder' (rU ((Kd.R_mono (Kd.R_far (p := ⟨gb265, 0, none⟩) (Kd.R_types HO254.out BK265.out (by decide)) (fun _ hk => hk.2) (.slice Ao94 t262.length co94)) (fun _ h_ => h_.1)))) (Kd.R_base ho0) hb); replace HO257 := Aside0.mk (Kd.R_elder' (rU ((Kd.R_mono (Kd.R_far (p := ⟨gb265, 0, none⟩) (Kd.R_types HO257.out BK265.out (by decide)) (fun _ hk => hk.2) (.slice Ao94 t262.length co94)) (fun _ h_ => h_.1)))) (Kd.R_base ho0) hb); replace HO261 := Aside0.mk (Kd.R_elder' (rU ((Kd.R_mono (Kd.R_far (p := ⟨gb265, 0, none⟩) (Kd.R_types HO261.out BK265.out (by decide)) (fun _ hk => hk.2) (.slice Ao94 t262.length co94)) (fun _ h_ => h_.1)))) (Kd.R_base ho0) hb); replace HO264 := Aside0.mk (Kd.R_elder' (rU ((Kd.R_mono (Kd.R_far (p := ⟨gb265, 0, none⟩) (Kd.R_types HO264.out BK265.out (by decide)) (fun _ hk => hk.2) (.slice Ao94 t262.length co94)) (fun _ h_ => h_.1)))) (Kd.R_base ho0) hb); replace BK258 := Aside0.mk (blk_below (g := gb258) (o := .cells #[.slice Ao87 t255.length co87] 30 (0, 0)) (bF BK258) hb); replace BK265 := Aside0.mk (blk_below (g := gb265) (o := .cells #[.slice Ao94 t262.length co94] 30 (0, 0)) (by (with_reducible repeat (first | refine blk_drewN ?_ _ | refine blk_drew ?_ | refine blk_alloc ?_ _)); refine blk_put (cs := #[.slice none 0 0]) ?_ 0 _ rfl; (with_reducible repeat (first | refine blk_drewN ?_ _ | refine blk_drew ?_ | refine blk_alloc ?_ _)); exact BK265.out) hb); replace HB := sL HB hb; (try clear hb); (try clear hb2); (try clear hk); (try clear hi); (try clear ho0); have hcz99_0 := q1 BK258; have hfz99_0 := blk_frozen BK258.out 0; have hcz100_0 := q1 BK265; have hfz100_0 := blk_frozen BK265.out 0) | ((with_reducible refine gate_callee (f := 13) rfl ?_); refine gL (some 25) rfl rfl Try.func13 #[.agg #[.slice Ao87 t255.length co87], .agg #[.slice Ao94 t262.length co94], .int .i64 40, .agg #[.int .i64 4, .int .i64 0, .int .i64 16, .int .i64 0, .int .i64 0, .int .i64 0, .int .i64 0, .int .i64 0, .int .i64 0, .int .i64 0]] rfl ?_; (with_reducible refine (plan_Plan.calls k _ _ t255 _ _ t262 40 4 0 16 0 0 0 0 0 0 0 t270 t273 _ (cU (rC HO257)) (rN HO257) (cU (rC HO264)) (rN HO264) A4.out).mono ?_); rintro e w101 ⟨v271, rfl, ho0, hb⟩; refine ⟨_, rfl, ?_⟩; have HO272 := Aside0.mk (Kd.R_lower (Kd.R_new' (Kd.R_new' (Kd.R_new' (Kd.R_new' (Kd.R_new' ho0 (Kd.R_lt (rU HO254.out))) (Kd.R_lt (rU HO257.out))) (Kd.R_lt (rU HO261.out))) (Kd.R_lt (rU HO264.out))) (Kd.R_lt (rU HO268.out))) (below_size (lU HB))); replace HO254 := rE HO254 ho0 hb; replace HO257 := rE HO257 ho0 hb; replace HO261 := rE HO261 ho0 hb; replace HO264 := rE HO264 ho0 hb; replace HO268 := rE HO268 ho0 hb; replace BK258 := sB BK258 hb; replace BK265 := sB BK265 hb; replace HB := sL HB hb; (try clear hb); (try clear hb2); (try clear hk); (try clear hi); (try clear ho0)))
  go_ret
  exact ⟨eW, lU HB⟩
def mandolineref35_unitOk.l0 : Nat → Int → Int → Option (Bool)
 | 0, _, _ => none
 | k + 1, x0, x3 => if x3 ≤ 1048576 then (if x3 = x0 then (some true) else (mandolineref35_unitOk.l0 k x0 (wrap64 (x3 * 2)))) else (some false)
def mandolineref35_unitOk.f (k : Nat) (a0 : Int) : Option (Bool) := mandolineref35_unitOk.l0 k a0 4
set_option maxHeartbeats 8000000 in
set_option maxRecDepth 100000 in
theorem mandolineref35_unitOk.calls (k : Nat) (a0 : Int) (r : Bool) (w : World) (h : mandolineref35_unitOk.f k a0 = some r) :
  Calls Try.prog 40 #[.int .i64 a0] w fun e w' => e = .returned (.bool r) ∧ Drawn0 w w' := by
 unfold mandolineref35_unitOk.f at h
 have H := h
 clear h
 have H' := Aside0.mk H
 clear H
 go_enter Try.func40, Try.ntmps40
 go_wp2
 go_loopg [3] k (fun kq v3 w' => ∃ (x3_1 : Int), v3 = .int .i64 x3_1 ∧ Aside0 (mandolineref35_unitOk.l0 kq a0 x3_1 = some r) ∧ Aside0 (kq ≤ k) ∧ Drawn0 w w')
 case atStart => exact ⟨(4), eR, H', ⟨Nat.le_refl _⟩, by repeat (first | exact Drawn0.refl _ | apply Drawn0.step)⟩
 case round =>
  clear H'
  obtain ⟨x3_1, rfl, HA, HK1, ⟨m1, rfl⟩⟩ := hrel
  cases gk with
  | zero => exact absurd HA.out (by simp [mandolineref35_unitOk.l0])
  | succ k1 =>
   have H := HA.out
   clear HA
   simp only [mandolineref35_unitOk.l0] at H
   by_cases c2 : x3_1 ≤ 1048576
   ·rw [if_pos c2] at H
    have c2b0 : decide (x3_1 ≤ 1048576) = true := decide_eq_true c2
    clear c2
    by_cases c3 : x3_1 = a0
    ·rw [if_pos c3] at H
     have c3b0 : (x3_1 == a0) = true := beq_iff_eq.mpr c3
     have c3b1 : (x3_1 != a0) = false := bne_eq_false_iff_eq.mpr c3
     clear c3
     obtain rfl := Option.some.inj H
     go_wp2
     go_ret
     exact ⟨by first | rfl | (simp; done) | (simp [*]; done), by repeat (first | exact Drawn0.refl _ | apply Drawn0.step)⟩
    ·rw [if_neg c3] at H
     have c3b0 : (x3_1 == a0) = false := beq_eq_false_iff_ne.mpr c3
     have c3b1 : (x3_1 != a0) = true := bne_iff_ne.mpr c3
     have H' := Aside0.mk H
     clear H
     go_wp2
     go_roundg k1
     case measure => have := HK1.out; omega
     case rel => exact ⟨(wrap64 (x3_1 * 2)), eR, H', ⟨by have := HK1.out; omega⟩, by repeat (first | exact Drawn0.refl _ | apply Drawn0.step)⟩
   ·rw [if_neg c2] at H
    have c2b0 : decide (x3_1 ≤ 1048576) = false := decide_eq_false c2
    clear c2
    obtain rfl := Option.some.inj H
    go_wp2
    go_ret
    exact ⟨by first | rfl | (simp; done) | (simp [*]; done), by repeat (first | exact Drawn0.refl _ | apply Drawn0.step)⟩
def mandolineref35_Small.l0 : Nat → List (S48) → Int → Int → List (S48) → Int → Int → Option (Bool)
 | 0, _, _, _, _, _, _ => none
 | k + 1, x0, x1, x2, x9, x10, x11 => if x11 < x10 then (if 0 ≤ x11 then (if x11 < (x9.length : Int) then (if ((rd_T48 x9 x11).f0) < 0 then (some false) else (if ((rd_T48 x9 x11).f0) > (wrap64 (x1 * x2)) then (some false) else (if ((rd_T48 x9 x11).f1) > (wrap64 (x1 * x2)) then (if ((rd_T48 x9 x11).f1) = 4611686018427387904 then (mandolineref35_Small.l0 k x0 x1 x2 x9 x10 (wrap64 (x11 + 1))) else (some false)) else (mandolineref35_Small.l0 k x0 x1 x2 x9 x10 (wrap64 (x11 + 1)))))) else (none)) else (none)) else (if (x0.length : Int) ≤ 12 then ((mandolineref35_unitOk.f k x1).bind fun t284 => (some t284)) else (some false))
def mandolineref35_Small.f (k : Nat) (l0 : List (S48)) (a1 : Int) (a2 : Int) : Option (Bool) := mandolineref35_Small.l0 k l0 a1 a2 l0 (l0.length : Int) 0
set_option maxHeartbeats 8000000 in
set_option maxRecDepth 100000 in
theorem mandolineref35_Small.calls (k : Nat) (A0 : Option Addr) (c0 : Nat) (l0 : List (S48)) (a1 : Int) (a2 : Int) (r : Bool) (w : World) (hr0 : Kd.C k48 w A0 l0.length l0) (hc0 : l0.length ≤ c0) (h : mandolineref35_Small.f k l0 a1 a2 = some r) :
  Calls Try.prog 30 #[.slice A0 l0.length c0, .int .i64 a1, .int .i64 a2] w fun e w' => e = .returned (.bool r) ∧ Below w.heap.size w w' := by
 have hu48 := Try.underlying48
 have HR0 := Aside0.mk hr0
 have HC0 := Aside0.mk hc0
 clear hr0 hc0
 have HB := Aside0.mk (Below.refl w.heap.size w)
 unfold mandolineref35_Small.f at h
 have H := h
 clear h
 have H' := Aside0.mk H
 clear H
 go_enter Try.func30, Try.ntmps30
 go_wp2
 go_loopg [11] k (fun kq v11 w' => ∃ (x11_1 : Int), v11 = .int .i64 x11_1 ∧ Aside0 (mandolineref35_Small.l0 kq l0 a1 a2 l0 (l0.length : Int) x11_1 = some r) ∧ Aside0 (kq ≤ k) ∧ Aside0 (Below w.heap.size w w'))
 case atStart => exact ⟨(0), eR, H', ⟨Nat.le_refl _⟩, ⟨lU HB⟩⟩
 case round =>
  clear H'
  try clear p2
  try clear c3
  obtain ⟨x11_1, rfl, HA, HK1, HB⟩ := hrel
  cases gk with
  | zero => exact absurd HA.out (by simp [mandolineref35_Small.l0])
  | succ k1 =>
   have H := HA.out
   clear HA
   simp only [mandolineref35_Small.l0] at H
   by_cases c4 : x11_1 < (l0.length : Int)
   ·rw [if_pos c4] at H
    have c4b0 : decide (x11_1 < (l0.length : Int)) = true := decide_eq_true c4
    clear c4
    by_cases c5 : 0 ≤ x11_1
    ·rw [if_pos c5] at H
     have c5b0 : decide (0 ≤ x11_1) = true := decide_eq_true c5
     clear c5
     by_cases c6 : x11_1 < (l0.length : Int)
     ·rw [if_pos c6] at H
      have c6b0 : decide (x11_1 < (l0.length : Int)) = true := decide_eq_true c6
      clear c6
      by_cases c7 : ((rd_T48 l0 x11_1).f0) < 0
      ·rw [if_pos c7] at H
       have c7b0 : decide (((rd_T48 l0 x11_1).f0) < 0) = true := decide_eq_true c7
       clear c7
       obtain rfl := Option.some.inj H
       have p282 : 0 ≤ (x11_1 : Int) := of_decide_eq_true (by first | (with_reducible assumption) | assumption)
       have q282 : x11_1 < (l0.length : Int) := of_decide_eq_true (by first | (with_reducible assumption) | assumption)
       obtain ⟨ad282, e282, hx282_0, hx282_1⟩ := at_T48 HR0.out x11_1 p282 q282
       cases e282
       replace hx282_0 := cB HB hx282_0
       replace hx282_1 := cB HB hx282_1
       replace p282 := eq_true p282
       replace q282 := eq_true q282
       go_wp2_with (first | ((with_reducible refine gate_dst (N := 8) rfl ?_); refine bX (N := 8) (cs := #[.int .i64 0, .int .i64 0]) (t := 48) ?_; intro gb283 hg w8 hbox hb; have BK283 := Aside0.mk (hbox); have GE283 := sG HB hg; replace HB := sL HB hb; clear hb hbox hg; obtain ⟨hcz9_0, hcz9_1⟩ := q2 BK283; obtain ⟨hfz9_0, hfz9_1⟩ := z2 BK283))
       go_ret
       exact ⟨eW, lU HB⟩
      ·rw [if_neg c7] at H
       have c7b0 : decide (((rd_T48 l0 x11_1).f0) < 0) = false := decide_eq_false c7
       clear c7
       by_cases c10 : ((rd_T48 l0 x11_1).f0) > (wrap64 (a1 * a2))
       ·rw [if_pos c10] at H
        have c10b0 : decide ((wrap64 (a1 * a2)) < ((rd_T48 l0 x11_1).f0)) = true := decide_eq_true c10
        clear c10
        obtain rfl := Option.some.inj H
        have p282 : 0 ≤ (x11_1 : Int) := of_decide_eq_true (by first | (with_reducible assumption) | assumption)
        have q282 : x11_1 < (l0.length : Int) := of_decide_eq_true (by first | (with_reducible assumption) | assumption)
        obtain ⟨ad282, e282, hx282_0, hx282_1⟩ := at_T48 HR0.out x11_1 p282 q282
        cases e282
        replace hx282_0 := cB HB hx282_0
        replace hx282_1 := cB HB hx282_1
        replace p282 := eq_true p282
        replace q282 := eq_true q282
        go_wp2_with (first | ((with_reducible refine gate_dst (N := 8) rfl ?_); refine bX (N := 8) (cs := #[.int .i64 0, .int .i64 0]) (t := 48) ?_; intro gb283 hg w11 hbox hb; have BK283 := Aside0.mk (hbox); have GE283 := sG HB hg; replace HB := sL HB hb; clear hb hbox hg; obtain ⟨hcz12_0, hcz12_1⟩ := q2 BK283; obtain ⟨hfz12_0, hfz12_1⟩ := z2 BK283))
        go_ret
        exact ⟨eW, lU HB⟩
       ·rw [if_neg c10] at H
        have c10b0 : decide ((wrap64 (a1 * a2)) < ((rd_T48 l0 x11_1).f0)) = false := decide_eq_false c10
        clear c10
        by_cases c13 : ((rd_T48 l0 x11_1).f1) > (wrap64 (a1 * a2))
        ·rw [if_pos c13] at H
         have c13b0 : decide ((wrap64 (a1 * a2)) < ((rd_T48 l0 x11_1).f1)) = true := decide_eq_true c13
         clear c13
         by_cases c14 : ((rd_T48 l0 x11_1).f1) = 4611686018427387904
         ·rw [if_pos c14] at H
          have c14b0 : (((rd_T48 l0 x11_1).f1) == 4611686018427387904) = true := beq_iff_eq.mpr c14
          have c14b1 : (((rd_T48 l0 x11_1).f1) != 4611686018427387904) = false := bne_eq_false_iff_eq.mpr c14
          clear c14
          have H' := Aside0.mk H
          clear H
          have p282 : 0 ≤ (x11_1 : Int) := of_decide_eq_true (by first | (with_reducible assumption) | assumption)
          have q282 : x11_1 < (l0.length : Int) := of_decide_eq_true (by first | (with_reducible assumption) | assumption)
          obtain ⟨ad282, e282, hx282_0, hx282_1⟩ := at_T48 HR0.out x11_1 p282 q282
          cases e282
          replace hx282_0 := cB HB hx282_0
          replace hx282_1 := cB HB hx282_1
          replace p282 := eq_true p282
          replace q282 := eq_true q282
          go_wp2_with (first | ((with_reducible refine gate_dst (N := 8) rfl ?_); refine bX (N := 8) (cs := #[.int .i64 0, .int .i64 0]) (t := 48) ?_; intro gb283 hg w15 hbox hb; have BK283 := Aside0.mk (hbox); have GE283 := sG HB hg; replace HB := sL HB hb; clear hb hbox hg; obtain ⟨hcz16_0, hcz16_1⟩ := q2 BK283; obtain ⟨hfz16_0, hfz16_1⟩ := z2 BK283))
          go_roundg k1
          case measure => have := HK1.out; omega
          case rel => exact ⟨(wrap64 (x11_1 + 1)), eR, H', ⟨by have := HK1.out; omega⟩, ⟨lU HB⟩⟩
         ·rw [if_neg c14] at H
          have c14b0 : (((rd_T48 l0 x11_1).f1) == 4611686018427387904) = false := beq_eq_false_iff_ne.mpr c14
          have c14b1 : (((rd_T48 l0 x11_1).f1) != 4611686018427387904) = true := bne_iff_ne.mpr c14
          obtain rfl := Option.some.inj H
          have p282 : 0 ≤ (x11_1 : Int) := of_decide_eq_true (by first | (with_reducible assumption) | assumption)
          have q282 : x11_1 < (l0.length : Int) := of_decide_eq_true (by first | (with_reducible assumption) | assumption)
          obtain ⟨ad282, e282, hx282_0, hx282_1⟩ := at_T48 HR0.out x11_1 p282 q282
          cases e282
          replace hx282_0 := cB HB hx282_0
          replace hx282_1 := cB HB hx282_1
          replace p282 := eq_true p282
          replace q282 := eq_true q282
          go_wp2_with (first | ((with_reducible refine gate_dst (N := 8) rfl ?_); refine bX (N := 8) (cs := #[.int .i64 0, .int .i64 0]) (t := 48) ?_; intro gb283 hg w17 hbox hb; have BK283 := Aside0.mk (hbox); have GE283 := sG HB hg; replace HB := sL HB hb; clear hb hbox hg; obtain ⟨hcz18_0, hcz18_1⟩ := q2 BK283; obtain ⟨hfz18_0, hfz18_1⟩ := z2 BK283))
          go_ret
          exact ⟨eW, lU HB⟩
        ·rw [if_neg c13] at H
         have c13b0 : decide ((wrap64 (a1 * a2)) < ((rd_T48 l0 x11_1).f1)) = false := decide_eq_false c13
         clear c13
         have H' := Aside0.mk H
         clear H
         have p282 : 0 ≤ (x11_1 : Int) := of_decide_eq_true (by first | (with_reducible assumption) | assumption)
         have q282 : x11_1 < (l0.length : Int) := of_decide_eq_true (by first | (with_reducible assumption) | assumption)
         obtain ⟨ad282, e282, hx282_0, hx282_1⟩ := at_T48 HR0.out x11_1 p282 q282
         cases e282
         replace hx282_0 := cB HB hx282_0
         replace hx282_1 := cB HB hx282_1
         replace p282 := eq_true p282
         replace q282 := eq_true q282
         go_wp2_with (first | ((with_reducible refine gate_dst (N := 8) rfl ?_); refine bX (N := 8) (cs := #[.int .i64 0, .int .i64 0]) (t := 48) ?_; intro gb283 hg w19 hbox hb; have BK283 := Aside0.mk (hbox); have GE283 := sG HB hg; replace HB := sL HB hb; clear hb hbox hg; obtain ⟨hcz20_0, hcz20_1⟩ := q2 BK283; obtain ⟨hfz20_0, hfz20_1⟩ := z2 BK283))
         go_roundg k1
         case measure => have := HK1.out; omega
         case rel => exact ⟨(wrap64 (x11_1 + 1)), eR, H', ⟨by have := HK1.out; omega⟩, ⟨lU HB⟩⟩
     ·rw [if_neg c6] at H
      exact absurd H (by simp)
    ·rw [if_neg c5] at H
     exact absurd H (by simp)
   ·rw [if_neg c4] at H
    have c4b0 : decide (x11_1 < (l0.length : Int)) = false := decide_eq_false c4
    clear c4
    by_cases c21 : (l0.length : Int) ≤ 12
    ·rw [if_pos c21] at H
     have c21b0 : decide ((l0.length : Int) ≤ 12) = true := decide_eq_true c21
     have c21b1 : decide (l0.length ≤ 12) = true := decide_eq_true (by omega)
     clear c21
     obtain ⟨t284, A22, H⟩ := bO H
     obtain rfl := Option.some.inj H
     go_wp2_with (first | (go_at_call 40; (with_reducible refine (mandolineref35_unitOk.calls k1 a1 t284 _ A22.out).mono ?_); rintro e w' ⟨rfl, ⟨nd, rfl⟩⟩))
     go_ret
     exact ⟨eW, lU HB⟩
    ·rw [if_neg c21] at H
     have c21b0 : decide ((l0.length : Int) ≤ 12) = false := decide_eq_false c21
     have c21b1 : decide (l0.length ≤ 12) = false := decide_eq_false (by omega)
     clear c21
     obtain rfl := Option.some.inj H
     go_wp2
     go_ret
     exact ⟨eW, lU HB⟩
def mandolinelaw35_fine.f (k : Nat) (l0_0 : List (S48)) (l0_1 : List (S48)) (a0_2 : Int) (a0_3 : Int) (a0_4 : Int) (a0_5 : Int) (a0_6 : Int) (a0_7 : Int) (a0_8 : Int) (a0_9 : Int) (a0_10 : Int) (a0_11 : Int) (a0_12 : Int) (a1 : Int) : Option (Bool) := (mandolineref35_Small.f k l0_0 a0_3 a1).bind fun t286 => (if t286 = true then ((mandolineref35_Small.f k l0_1 a0_3 (wrap64 (4 * a1))).bind fun t287 => (if t287 = true then (if a0_2 ≤ (wrap64 (a0_3 * a1)) then (if a0_5 ≤ (wrap64 (a0_3 * 300)) then (some (decide (a0_4 ≤ 1099511627776))) else (some false)) else (if a0_2 > 1099511627776 then (if a0_5 ≤ (wrap64 (a0_3 * 300)) then (some (decide (a0_4 ≤ 1099511627776))) else (some false)) else (some false))) else (some false))) else (some false))
set_option maxHeartbeats 8000000 in
set_option maxRecDepth 100000 in
theorem mandolinelaw35_fine.calls (k : Nat) (A0_0 : Option Addr) (c0_0 : Nat) (l0_0 : List (S48)) (A0_1 : Option Addr) (c0_1 : Nat) (l0_1 : List (S48)) (a0_2 : Int) (a0_3 : Int) (a0_4 : Int) (a0_5 : Int) (a0_6 : Int) (a0_7 : Int) (a0_8 : Int) (a0_9 : Int) (a0_10 : Int) (a0_11 : Int) (a0_12 : Int) (a1 : Int) (r : Bool) (w : World) (hr0_0 : Kd.C k48 w A0_0 l0_0.length l0_0) (hc0_0 : l0_0.length ≤ c0_0) (hr0_1 : Kd.C k48 w A0_1 l0_1.length l0_1) (hc0_1 : l0_1.length ≤ c0_1) (h : mandolinelaw35_fine.f k l0_0 l0_1 a0_2 a0_3 a0_4 a0_5 a0_6 a0_7 a0_8 a0_9 a0_10 a0_11 a0_12 a1 = some r) :
  Calls Try.prog 11 #[.agg #[.slice A0_0 l0_0.length c0_0, .slice A0_1 l0_1.length c0_1, .int .i64 a0_2, .int .i64 a0_3, .int .i64 a0_4, .int .i64 a0_5, .int .i64 a0_6, .int .i64 a0_7, .int .i64 a0_8, .int .i64 a0_9, .int .i64 a0_10, .int .i64 a0_11, .int .i64 a0_12], .int .i64 a1] w fun e w' => e = .returned (.bool r) ∧ Below w.heap.size w w' := by
 have hu26 := Try.underlying26
 have HR0_0 := Aside0.mk hr0_0
 have HC0_0 := Aside0.mk hc0_0
 clear hr0_0 hc0_0
 have HR0_1 := Aside0.mk hr0_1
 have HC0_1 := Aside0.mk hc0_1
 clear hr0_1 hc0_1
 have HB := Aside0.mk (Below.refl w.heap.size w)
 unfold mandolinelaw35_fine.f at h
 have H := h
 clear h
 obtain ⟨t286, A3, H⟩ := bO H
 by_cases c4 : t286 = true
 ·subst c4
  rw [if_pos rfl] at H
  obtain ⟨t287, A5, H⟩ := bO H
  by_cases c6 : t287 = true
  ·subst c6
   rw [if_pos rfl] at H
   by_cases c7 : a0_2 ≤ (wrap64 (a0_3 * a1))
   ·rw [if_pos c7] at H
    have c7b0 : decide (a0_2 ≤ (wrap64 (a0_3 * a1))) = true := decide_eq_true c7
    clear c7
    by_cases c8 : a0_5 ≤ (wrap64 (a0_3 * 300))
    ·rw [if_pos c8] at H
     have c8b0 : decide (a0_5 ≤ (wrap64 (a0_3 * 300))) = true := decide_eq_true c8
     clear c8
     obtain rfl := Option.some.inj H
     go_enter Try.func11, Try.ntmps11
     go_wp2_with (first | ((with_reducible refine gate_dst (N := 2) rfl ?_); refine bX (N := 2) (cs := #[.slice A0_0 l0_0.length c0_0, .slice A0_1 l0_1.length c0_1, .int .i64 a0_2, .int .i64 a0_3, .int .i64 a0_4, .int .i64 a0_5, .int .i64 a0_6, .int .i64 a0_7, .int .i64 a0_8, .int .i64 a0_9, .int .i64 a0_10, .int .i64 a0_11, .int .i64 a0_12]) (t := 26) ?_; intro gb285 hg w9 hbox hb; have BK285 := Aside0.mk (hbox); have GE285 := sG HB hg; replace HB := sL HB hb; clear hb hbox hg; obtain ⟨hcz10_0, hcz10_1, hcz10_2, hcz10_3, hcz10_4, hcz10_5, hcz10_6, hcz10_7, hcz10_8, hcz10_9, hcz10_10, hcz10_11, hcz10_12⟩ := q13 BK285; obtain ⟨hfz10_0, hfz10_1, hfz10_2, hfz10_3, hfz10_4, hfz10_5, hfz10_6, hfz10_7, hfz10_8, hfz10_9, hfz10_10, hfz10_11, hfz10_12⟩ := z13 BK285) | ((with_reducible refine gate_callee (f := 30) rfl ?_); refine gL (some 11) rfl rfl Try.func30 #[.slice A0_0 l0_0.length c0_0, .int .i64 a0_3, .int .i64 a1] rfl ?_; (with_reducible refine (mandolineref35_Small.calls k _ _ l0_0 a0_3 a1 true _ (cU (Kd.C_below HR0_0.out HB.out)) HC0_0.out A3.out).mono ?_); rintro e w11 ⟨rfl, hb⟩; refine ⟨_, rfl, ?_⟩; replace BK285 := sB BK285 hb; replace HB := sL HB hb; (try clear hb); (try clear hb2); (try clear hk); (try clear hi); obtain ⟨hcz12_0, hcz12_1, hcz12_2, hcz12_3, hcz12_4, hcz12_5, hcz12_6, hcz12_7, hcz12_8, hcz12_9, hcz12_10, hcz12_11, hcz12_12⟩ := q13 BK285; obtain ⟨hfz12_0, hfz12_1, hfz12_2, hfz12_3, hfz12_4, hfz12_5, hfz12_6, hfz12_7, hfz12_8, hfz12_9, hfz12_10, hfz12_11, hfz12_12⟩ := z13 BK285) | (go_at_call 30; (with_reducible refine (mandolineref35_Small.calls k _ _ l0_1 a0_3 (wrap64 (4 * a1)) true _ (cU (Kd.C_below HR0_1.out HB.out)) HC0_1.out A5.out).mono ?_); rintro e w13 ⟨rfl, hb⟩; replace BK285 := sB BK285 hb; replace HB := sL HB hb; (try clear hb); (try clear hb2); (try clear hk); (try clear hi); obtain ⟨hcz14_0, hcz14_1, hcz14_2, hcz14_3, hcz14_4, hcz14_5, hcz14_6, hcz14_7, hcz14_8, hcz14_9, hcz14_10, hcz14_11, hcz14_12⟩ := q13 BK285; obtain ⟨hfz14_0, hfz14_1, hfz14_2, hfz14_3, hfz14_4, hfz14_5, hfz14_6, hfz14_7, hfz14_8, hfz14_9, hfz14_10, hfz14_11, hfz14_12⟩ := z13 BK285))
     go_ret
     exact ⟨eW, lU HB⟩
    ·rw [if_neg c8] at H
     have c8b0 : decide (a0_5 ≤ (wrap64 (a0_3 * 300))) = false := decide_eq_false c8
     clear c8
     obtain rfl := Option.some.inj H
     go_enter Try.func11, Try.ntmps11
     go_wp2_with (first | ((with_reducible refine gate_dst (N := 2) rfl ?_); refine bX (N := 2) (cs := #[.slice A0_0 l0_0.length c0_0, .slice A0_1 l0_1.length c0_1, .int .i64 a0_2, .int .i64 a0_3, .int .i64 a0_4, .int .i64 a0_5, .int .i64 a0_6, .int .i64 a0_7, .int .i64 a0_8, .int .i64 a0_9, .int .i64 a0_10, .int .i64 a0_11, .int .i64 a0_12]) (t := 26) ?_; intro gb285 hg w15 hbox hb; have BK285 := Aside0.mk (hbox); have GE285 := sG HB hg; replace HB := sL HB hb; clear hb hbox hg; obtain ⟨hcz16_0, hcz16_1, hcz16_2, hcz16_3, hcz16_4, hcz16_5, hcz16_6, hcz16_7, hcz16_8, hcz16_9, hcz16_10, hcz16_11, hcz16_12⟩ := q13 BK285; obtain ⟨hfz16_0, hfz16_1, hfz16_2, hfz16_3, hfz16_4, hfz16_5, hfz16_6, hfz16_7, hfz16_8, hfz16_9, hfz16_10, hfz16_11, hfz16_12⟩ := z13 BK285) | ((with_reducible refine gate_callee (f := 30) rfl ?_); refine gL (some 11) rfl rfl Try.func30 #[.slice A0_0 l0_0.length c0_0, .int .i64 a0_3, .int .i64 a1] rfl ?_; (with_reducible refine (mandolineref35_Small.calls k _ _ l0_0 a0_3 a1 true _ (cU (Kd.C_below HR0_0.out HB.out)) HC0_0.out A3.out).mono ?_); rintro e w17 ⟨rfl, hb⟩; refine ⟨_, rfl, ?_⟩; replace BK285 := sB BK285 hb; replace HB := sL HB hb; (try clear hb); (try clear hb2); (try clear hk); (try clear hi); obtain ⟨hcz18_0, hcz18_1, hcz18_2, hcz18_3, hcz18_4, hcz18_5, hcz18_6, hcz18_7, hcz18_8, hcz18_9, hcz18_10, hcz18_11, hcz18_12⟩ := q13 BK285; obtain ⟨hfz18_0, hfz18_1, hfz18_2, hfz18_3, hfz18_4, hfz18_5, hfz18_6, hfz18_7, hfz18_8, hfz18_9, hfz18_10, hfz18_11, hfz18_12⟩ := z13 BK285) | (go_at_call 30; (with_reducible refine (mandolineref35_Small.calls k _ _ l0_1 a0_3 (wrap64 (4 * a1)) true _ (cU (Kd.C_below HR0_1.out HB.out)) HC0_1.out A5.out).mono ?_); rintro e w19 ⟨rfl, hb⟩; replace BK285 := sB BK285 hb; replace HB := sL HB hb; (try clear hb); (try clear hb2); (try clear hk); (try clear hi); obtain ⟨hcz20_0, hcz20_1, hcz20_2, hcz20_3, hcz20_4, hcz20_5, hcz20_6, hcz20_7, hcz20_8, hcz20_9, hcz20_10, hcz20_11, hcz20_12⟩ := q13 BK285; obtain ⟨hfz20_0, hfz20_1, hfz20_2, hfz20_3, hfz20_4, hfz20_5, hfz20_6, hfz20_7, hfz20_8, hfz20_9, hfz20_10, hfz20_11, hfz20_12⟩ := z13 BK285))
     go_ret
     exact ⟨eW, lU HB⟩
   ·rw [if_neg c7] at H
    have c7b0 : decide (a0_2 ≤ (wrap64 (a0_3 * a1))) = false := decide_eq_false c7
    clear c7
    by_cases c21 : a0_2 > 1099511627776
    ·rw [if_pos c21] at H
     have c21b0 : decide (1099511627776 < a0_2) = true := decide_eq_true c21
     clear c21
     by_cases c22 : a0_5 ≤ (wrap64 (a0_3 * 300))
     ·rw [if_pos c22] at H
      have c22b0 : decide (a0_5 ≤ (wrap64 (a0_3 * 300))) = true := decide_eq_true c22
      clear c22
      obtain rfl := Option.some.inj H
      go_enter Try.func11, Try.ntmps11
      go_wp2_with (first | ((with_reducible refine gate_dst (N := 2) rfl ?_); refine bX (N := 2) (cs := #[.slice A0_0 l0_0.length c0_0, .slice A0_1 l0_1.length c0_1, .int .i64 a0_2, .int .i64 a0_3, .int .i64 a0_4, .int .i64 a0_5, .int .i64 a0_6, .int .i64 a0_7, .int .i64 a0_8, .int .i64 a0_9, .int .i64 a0_10, .int .i64 a0_11, .int .i64 a0_12]) (t := 26) ?_; intro gb285 hg w23 hbox hb; have BK285 := Aside0.mk (hbox); have GE285 := sG HB hg; replace HB := sL HB hb; clear hb hbox hg; obtain ⟨hcz24_0, hcz24_1, hcz24_2, hcz24_3, hcz24_4, hcz24_5, hcz24_6, hcz24_7, hcz24_8, hcz24_9, hcz24_10, hcz24_11, hcz24_12⟩ := q13 BK285; obtain ⟨hfz24_0, hfz24_1, hfz24_2, hfz24_3, hfz24_4, hfz24_5, hfz24_6, hfz24_7, hfz24_8, hfz24_9, hfz24_10, hfz24_11, hfz24_12⟩ := z13 BK285) | ((with_reducible refine gate_callee (f := 30) rfl ?_); refine gL (some 11) rfl rfl Try.func30 #[.slice A0_0 l0_0.length c0_0, .int .i64 a0_3, .int .i64 a1] rfl ?_; (with_reducible refine (mandolineref35_Small.calls k _ _ l0_0 a0_3 a1 true _ (cU (Kd.C_below HR0_0.out HB.out)) HC0_0.out A3.out).mono ?_); rintro e w25 ⟨rfl, hb⟩; refine ⟨_, rfl, ?_⟩; replace BK285 := sB BK285 hb; replace HB := sL HB hb; (try clear hb); (try clear hb2); (try clear hk); (try clear hi); obtain ⟨hcz26_0, hcz26_1, hcz26_2, hcz26_3, hcz26_4, hcz26_5, hcz26_6, hcz26_7, hcz26_8, hcz26_9, hcz26_10, hcz26_11, hcz26_12⟩ := q13 BK285; obtain ⟨hfz26_0, hfz26_1, hfz26_2, hfz26_3, hfz26_4, hfz26_5, hfz26_6, hfz26_7, hfz26_8, hfz26_9, hfz26_10, hfz26_11, hfz26_12⟩ := z13 BK285) | (go_at_call 30; (with_reducible refine (mandolineref35_Small.calls k _ _ l0_1 a0_3 (wrap64 (4 * a1)) true _ (cU (Kd.C_below HR0_1.out HB.out)) HC0_1.out A5.out).mono ?_); rintro e w27 ⟨rfl, hb⟩; replace BK285 := sB BK285 hb; replace HB := sL HB hb; (try clear hb); (try clear hb2); (try clear hk); (try clear hi); obtain ⟨hcz28_0, hcz28_1, hcz28_2, hcz28_3, hcz28_4, hcz28_5, hcz28_6, hcz28_7, hcz28_8, hcz28_9, hcz28_10, hcz28_11, hcz28_12⟩ := q13 BK285; obtain ⟨hfz28_0, hfz28_1, hfz28_2, hfz28_3, hfz28_4, hfz28_5, hfz28_6, hfz28_7, hfz28_8, hfz28_9, hfz28_10, hfz28_11, hfz28_12⟩ := z13 BK285))
      go_ret
      exact ⟨eW, lU HB⟩
     ·rw [if_neg c22] at H
      have c22b0 : decide (a0_5 ≤ (wrap64 (a0_3 * 300))) = false := decide_eq_false c22
      clear c22
      obtain rfl := Option.some.inj H
      go_enter Try.func11, Try.ntmps11
      go_wp2_with (first | ((with_reducible refine gate_dst (N := 2) rfl ?_); refine bX (N := 2) (cs := #[.slice A0_0 l0_0.length c0_0, .slice A0_1 l0_1.length c0_1, .int .i64 a0_2, .int .i64 a0_3, .int .i64 a0_4, .int .i64 a0_5, .int .i64 a0_6, .int .i64 a0_7, .int .i64 a0_8, .int .i64 a0_9, .int .i64 a0_10, .int .i64 a0_11, .int .i64 a0_12]) (t := 26) ?_; intro gb285 hg w29 hbox hb; have BK285 := Aside0.mk (hbox); have GE285 := sG HB hg; replace HB := sL HB hb; clear hb hbox hg; obtain ⟨hcz30_0, hcz30_1, hcz30_2, hcz30_3, hcz30_4, hcz30_5, hcz30_6, hcz30_7, hcz30_8, hcz30_9, hcz30_10, hcz30_11, hcz30_12⟩ := q13 BK285; obtain ⟨hfz30_0, hfz30_1, hfz30_2, hfz30_3, hfz30_4, hfz30_5, hfz30_6, hfz30_7, hfz30_8, hfz30_9, hfz30_10, hfz30_11, hfz30_12⟩ := z13 BK285) | ((with_reducible refine gate_callee (f := 30) rfl ?_); refine gL (some 11) rfl rfl Try.func30 #[.slice A0_0 l0_0.length c0_0, .int .i64 a0_3, .int .i64 a1] rfl ?_; (with_reducible refine (mandolineref35_Small.calls k _ _ l0_0 a0_3 a1 true _ (cU (Kd.C_below HR0_0.out HB.out)) HC0_0.out A3.out).mono ?_); rintro e w31 ⟨rfl, hb⟩; refine ⟨_, rfl, ?_⟩; replace BK285 := sB BK285 hb; replace HB := sL HB hb; (try clear hb); (try clear hb2); (try clear hk); (try clear hi); obtain ⟨hcz32_0, hcz32_1, hcz32_2, hcz32_3, hcz32_4, hcz32_5, hcz32_6, hcz32_7, hcz32_8, hcz32_9, hcz32_10, hcz32_11, hcz32_12⟩ := q13 BK285; obtain ⟨hfz32_0, hfz32_1, hfz32_2, hfz32_3, hfz32_4, hfz32_5, hfz32_6, hfz32_7, hfz32_8, hfz32_9, hfz32_10, hfz32_11, hfz32_12⟩ := z13 BK285) | (go_at_call 30; (with_reducible refine (mandolineref35_Small.calls k _ _ l0_1 a0_3 (wrap64 (4 * a1)) true _ (cU (Kd.C_below HR0_1.out HB.out)) HC0_1.out A5.out).mono ?_); rintro e w33 ⟨rfl, hb⟩; replace BK285 := sB BK285 hb; replace HB := sL HB hb; (try clear hb); (try clear hb2); (try clear hk); (try clear hi); obtain ⟨hcz34_0, hcz34_1, hcz34_2, hcz34_3, hcz34_4, hcz34_5, hcz34_6, hcz34_7, hcz34_8, hcz34_9, hcz34_10, hcz34_11, hcz34_12⟩ := q13 BK285; obtain ⟨hfz34_0, hfz34_1, hfz34_2, hfz34_3, hfz34_4, hfz34_5, hfz34_6, hfz34_7, hfz34_8, hfz34_9, hfz34_10, hfz34_11, hfz34_12⟩ := z13 BK285))
      go_ret
      exact ⟨eW, lU HB⟩
    ·rw [if_neg c21] at H
     have c21b0 : decide (1099511627776 < a0_2) = false := decide_eq_false c21
     clear c21
     obtain rfl := Option.some.inj H
     go_enter Try.func11, Try.ntmps11
     go_wp2_with (first | ((with_reducible refine gate_dst (N := 2) rfl ?_); refine bX (N := 2) (cs := #[.slice A0_0 l0_0.length c0_0, .slice A0_1 l0_1.length c0_1, .int .i64 a0_2, .int .i64 a0_3, .int .i64 a0_4, .int .i64 a0_5, .int .i64 a0_6, .int .i64 a0_7, .int .i64 a0_8, .int .i64 a0_9, .int .i64 a0_10, .int .i64 a0_11, .int .i64 a0_12]) (t := 26) ?_; intro gb285 hg w35 hbox hb; have BK285 := Aside0.mk (hbox); have GE285 := sG HB hg; replace HB := sL HB hb; clear hb hbox hg; obtain ⟨hcz36_0, hcz36_1, hcz36_2, hcz36_3, hcz36_4, hcz36_5, hcz36_6, hcz36_7, hcz36_8, hcz36_9, hcz36_10, hcz36_11, hcz36_12⟩ := q13 BK285; obtain ⟨hfz36_0, hfz36_1, hfz36_2, hfz36_3, hfz36_4, hfz36_5, hfz36_6, hfz36_7, hfz36_8, hfz36_9, hfz36_10, hfz36_11, hfz36_12⟩ := z13 BK285) | ((with_reducible refine gate_callee (f := 30) rfl ?_); refine gL (some 11) rfl rfl Try.func30 #[.slice A0_0 l0_0.length c0_0, .int .i64 a0_3, .int .i64 a1] rfl ?_; (with_reducible refine (mandolineref35_Small.calls k _ _ l0_0 a0_3 a1 true _ (cU (Kd.C_below HR0_0.out HB.out)) HC0_0.out A3.out).mono ?_); rintro e w37 ⟨rfl, hb⟩; refine ⟨_, rfl, ?_⟩; replace BK285 := sB BK285 hb; replace HB := sL HB hb; (try clear hb); (try clear hb2); (try clear hk); (try clear hi); obtain ⟨hcz38_0, hcz38_1, hcz38_2, hcz38_3, hcz38_4, hcz38_5, hcz38_6, hcz38_7, hcz38_8, hcz38_9, hcz38_10, hcz38_11, hcz38_12⟩ := q13 BK285; obtain ⟨hfz38_0, hfz38_1, hfz38_2, hfz38_3, hfz38_4, hfz38_5, hfz38_6, hfz38_7, hfz38_8, hfz38_9, hfz38_10, hfz38_11, hfz38_12⟩ := z13 BK285) | (go_at_call 30; (with_reducible refine (mandolineref35_Small.calls k _ _ l0_1 a0_3 (wrap64 (4 * a1)) true _ (cU (Kd.C_below HR0_1.out HB.out)) HC0_1.out A5.out).mono ?_); rintro e w39 ⟨rfl, hb⟩; replace BK285 := sB BK285 hb; replace HB := sL HB hb; (try clear hb); (try clear hb2); (try clear hk); (try clear hi); obtain ⟨hcz40_0, hcz40_1, hcz40_2, hcz40_3, hcz40_4, hcz40_5, hcz40_6, hcz40_7, hcz40_8, hcz40_9, hcz40_10, hcz40_11, hcz40_12⟩ := q13 BK285; obtain ⟨hfz40_0, hfz40_1, hfz40_2, hfz40_3, hfz40_4, hfz40_5, hfz40_6, hfz40_7, hfz40_8, hfz40_9, hfz40_10, hfz40_11, hfz40_12⟩ := z13 BK285))
     go_ret
     exact ⟨eW, lU HB⟩
  ·replace c6 := Bool.eq_false_iff.mpr c6
   subst c6
   rw [if_neg (show ¬ (false = true) by decide)] at H
   obtain rfl := Option.some.inj H
   go_enter Try.func11, Try.ntmps11
   go_wp2_with (first | ((with_reducible refine gate_dst (N := 2) rfl ?_); refine bX (N := 2) (cs := #[.slice A0_0 l0_0.length c0_0, .slice A0_1 l0_1.length c0_1, .int .i64 a0_2, .int .i64 a0_3, .int .i64 a0_4, .int .i64 a0_5, .int .i64 a0_6, .int .i64 a0_7, .int .i64 a0_8, .int .i64 a0_9, .int .i64 a0_10, .int .i64 a0_11, .int .i64 a0_12]) (t := 26) ?_; intro gb285 hg w41 hbox hb; have BK285 := Aside0.mk (hbox); have GE285 := sG HB hg; replace HB := sL HB hb; clear hb hbox hg; obtain ⟨hcz42_0, hcz42_1, hcz42_2, hcz42_3, hcz42_4, hcz42_5, hcz42_6, hcz42_7, hcz42_8, hcz42_9, hcz42_10, hcz42_11, hcz42_12⟩ := q13 BK285; obtain ⟨hfz42_0, hfz42_1, hfz42_2, hfz42_3, hfz42_4, hfz42_5, hfz42_6, hfz42_7, hfz42_8, hfz42_9, hfz42_10, hfz42_11, hfz42_12⟩ := z13 BK285) | ((with_reducible refine gate_callee (f := 30) rfl ?_); refine gL (some 11) rfl rfl Try.func30 #[.slice A0_0 l0_0.length c0_0, .int .i64 a0_3, .int .i64 a1] rfl ?_; (with_reducible refine (mandolineref35_Small.calls k _ _ l0_0 a0_3 a1 true _ (cU (Kd.C_below HR0_0.out HB.out)) HC0_0.out A3.out).mono ?_); rintro e w43 ⟨rfl, hb⟩; refine ⟨_, rfl, ?_⟩; replace BK285 := sB BK285 hb; replace HB := sL HB hb; (try clear hb); (try clear hb2); (try clear hk); (try clear hi); obtain ⟨hcz44_0, hcz44_1, hcz44_2, hcz44_3, hcz44_4, hcz44_5, hcz44_6, hcz44_7, hcz44_8, hcz44_9, hcz44_10, hcz44_11, hcz44_12⟩ := q13 BK285; obtain ⟨hfz44_0, hfz44_1, hfz44_2, hfz44_3, hfz44_4, hfz44_5, hfz44_6, hfz44_7, hfz44_8, hfz44_9, hfz44_10, hfz44_11, hfz44_12⟩ := z13 BK285) | (go_at_call 30; (with_reducible refine (mandolineref35_Small.calls k _ _ l0_1 a0_3 (wrap64 (4 * a1)) false _ (cU (Kd.C_below HR0_1.out HB.out)) HC0_1.out A5.out).mono ?_); rintro e w45 ⟨rfl, hb⟩; replace BK285 := sB BK285 hb; replace HB := sL HB hb; (try clear hb); (try clear hb2); (try clear hk); (try clear hi)))
   go_ret
   exact ⟨eW, lU HB⟩
 ·replace c4 := Bool.eq_false_iff.mpr c4
  subst c4
  rw [if_neg (show ¬ (false = true) by decide)] at H
  obtain rfl := Option.some.inj H
  go_enter Try.func11, Try.ntmps11
  go_wp2_with (first | ((with_reducible refine gate_dst (N := 2) rfl ?_); refine bX (N := 2) (cs := #[.slice A0_0 l0_0.length c0_0, .slice A0_1 l0_1.length c0_1, .int .i64 a0_2, .int .i64 a0_3, .int .i64 a0_4, .int .i64 a0_5, .int .i64 a0_6, .int .i64 a0_7, .int .i64 a0_8, .int .i64 a0_9, .int .i64 a0_10, .int .i64 a0_11, .int .i64 a0_12]) (t := 26) ?_; intro gb285 hg w46 hbox hb; have BK285 := Aside0.mk (hbox); have GE285 := sG HB hg; replace HB := sL HB hb; clear hb hbox hg; obtain ⟨hcz47_0, hcz47_1, hcz47_2, hcz47_3, hcz47_4, hcz47_5, hcz47_6, hcz47_7, hcz47_8, hcz47_9, hcz47_10, hcz47_11, hcz47_12⟩ := q13 BK285; obtain ⟨hfz47_0, hfz47_1, hfz47_2, hfz47_3, hfz47_4, hfz47_5, hfz47_6, hfz47_7, hfz47_8, hfz47_9, hfz47_10, hfz47_11, hfz47_12⟩ := z13 BK285) | ((with_reducible refine gate_callee (f := 30) rfl ?_); refine gL (some 11) rfl rfl Try.func30 #[.slice A0_0 l0_0.length c0_0, .int .i64 a0_3, .int .i64 a1] rfl ?_; (with_reducible refine (mandolineref35_Small.calls k _ _ l0_0 a0_3 a1 false _ (cU (Kd.C_below HR0_0.out HB.out)) HC0_0.out A3.out).mono ?_); rintro e w48 ⟨rfl, hb⟩; refine ⟨_, rfl, ?_⟩; replace BK285 := sB BK285 hb; replace HB := sL HB hb; (try clear hb); (try clear hb2); (try clear hk); (try clear hi)))
  go_ret
  exact ⟨eW, lU HB⟩
def mandolinelaw35_sets.f (k : Nat) (l0_0 : List (S48)) (l0_1 : List (S48)) (a0_2 : Int) (a0_3 : Int) (a0_4 : Int) (a0_5 : Int) (a0_6 : Int) (a0_7 : Int) (a0_8 : Int) (a0_9 : Int) (a0_10 : Int) (a0_11 : Int) (a0_12 : Int) : Option ((List (S48)) × (List (S48))) := (ranges_Of.f k l0_0).bind fun t291 => ((ranges_Of.f k l0_1).bind fun t294 => (some (t291, t294)))
def mandolinelaw35_sets.T1 : Bool × List (List Nat × List Nat) := (true, [([], []), ([0], [0]), ([1], [1]), ([], []), ([3], [3]), ([4, 2], [4]), ([2, 5, 0, 1, 2], [2]), ([5, 6, 0, 1, 2, 3, 4, 5, 6], [5])])
def mandolinelaw35_sets.B1 : List Nat := [0, 1, 3, 0, 8, 31, 63, 127]
theorem mandolinelaw35_sets.tab1 : rtab .any (opsOf Try.f12 1) = mandolinelaw35_sets.T1 := by kernel_rfl
theorem mandolinelaw35_sets.bits1 : waitsOk mandolinelaw35_sets.T1.2 mandolinelaw35_sets.B1 = true := by kernel_rfl
set_option maxHeartbeats 8000000 in
set_option maxRecDepth 100000 in
theorem mandolinelaw35_sets.calls (k : Nat) (A0_0 : Option Addr) (c0_0 : Nat) (l0_0 : List (S48)) (A0_1 : Option Addr) (c0_1 : Nat) (l0_1 : List (S48)) (a0_2 : Int) (a0_3 : Int) (a0_4 : Int) (a0_5 : Int) (a0_6 : Int) (a0_7 : Int) (a0_8 : Int) (a0_9 : Int) (a0_10 : Int) (a0_11 : Int) (a0_12 : Int) (r1 : List (S48)) (r2 : List (S48)) (w : World) (hr0_0 : Kd.C k48 w A0_0 l0_0.length l0_0) (hc0_0 : l0_0.length ≤ c0_0) (hr0_1 : Kd.C k48 w A0_1 l0_1.length l0_1) (hc0_1 : l0_1.length ≤ c0_1) (h : mandolinelaw35_sets.f k l0_0 l0_1 a0_2 a0_3 a0_4 a0_5 a0_6 a0_7 a0_8 a0_9 a0_10 a0_11 a0_12 = some (r1, r2)) :
  Calls Try.prog 12 #[.agg #[.slice A0_0 l0_0.length c0_0, .slice A0_1 l0_1.length c0_1, .int .i64 a0_2, .int .i64 a0_3, .int .i64 a0_4, .int .i64 a0_5, .int .i64 a0_6, .int .i64 a0_7, .int .i64 a0_8, .int .i64 a0_9, .int .i64 a0_10, .int .i64 a0_11, .int .i64 a0_12]] w fun e w' => ∃ v0_ v1_ : Value, e = .returned (.tuple #[.agg #[v0_], .agg #[v1_]]) ∧ Kd.R k48 48 w' w.heap.size (fun k_ => some k_ ≠ (v1_ : Value).ownBlock) v0_ r1 ∧ Kd.R k48 48 w' w.heap.size (fun k_ => some k_ ≠ (v0_ : Value).ownBlock) v1_ r2 ∧ Below w.heap.size w w' := by
 have hu26 := Try.underlying26
 have hu30 := Try.underlying30
 have HR0_0 := Aside0.mk hr0_0
 have HC0_0 := Aside0.mk hc0_0
 clear hr0_0 hc0_0
 have HR0_1 := Aside0.mk hr0_1
 have HC0_1 := Aside0.mk hc0_1
 clear hr0_1 hc0_1
 have HB := Aside0.mk (Below.refl w.heap.size w)
 unfold mandolinelaw35_sets.f at h
 have H := h
 clear h
 obtain ⟨t291, A2, H⟩ := bO H
 obtain ⟨t294, A3, H⟩ := bO H
 simp only [Option.some.injEq, Prod.mk.injEq] at H
 obtain ⟨rfl, rfl⟩ := H
 go_enter Try.func12, Try.ntmps12
 try go_wp2_with (first | ((with_reducible refine gate_dst (N := 1) rfl ?_); refine bX (N := 1) (cs := #[.slice A0_0 l0_0.length c0_0, .slice A0_1 l0_1.length c0_1, .int .i64 a0_2, .int .i64 a0_3, .int .i64 a0_4, .int .i64 a0_5, .int .i64 a0_6, .int .i64 a0_7, .int .i64 a0_8, .int .i64 a0_9, .int .i64 a0_10, .int .i64 a0_11, .int .i64 a0_12]) (t := 26) ?_; intro gb288 hg w4 hbox hb; have BK288 := Aside0.mk (hbox); have GE288 := sG HB hg; replace HB := sL HB hb; clear hb hbox hg) | ((with_reducible refine gate_dst (N := 2) rfl ?_); refine bX (N := 2) (cs := #[.slice none 0 0]) (t := 30) ?_; intro gb289 hg w5 hbox hb; have BK289 := Aside0.mk (hbox); have GE289 := sG HB hg; have NB288_289 := sN BK288 hg; have NB289_288 := sM BK288 hg; replace BK288 := sB BK288 hb; replace HB := sL HB hb; clear hb hbox hg) | ((with_reducible refine gate_dst (N := 3) rfl ?_); refine bX (N := 3) (cs := #[.slice none 0 0]) (t := 30) ?_; intro gb290 hg w6 hbox hb; have BK290 := Aside0.mk (hbox); have GE290 := sG HB hg; have NB288_290 := sN BK288 hg; have NB290_288 := sM BK288 hg; have NB289_290 := sN BK289 hg; have NB290_289 := sM BK289 hg; replace BK288 := sB BK288 hb; replace BK289 := sB BK289 hb; replace HB := sL HB hb; clear hb hbox hg))
 replace BK288 := Aside0.mk (blk_drew BK288.out)
 replace BK289 := Aside0.mk (blk_drew BK289.out)
 replace BK290 := Aside0.mk (blk_drew BK290.out)
 replace HB := Aside0.mk (below_drew1 HB.out)
 refine start_ (n := 8) (S := fun w' => w'.cell? ⟨gb288, 0, none⟩ = some (.slice A0_0 l0_0.length c0_0) ∧ w'.cell? ⟨gb288, 1, none⟩ = some (.slice A0_1 l0_1.length c0_1) ∧ w'.cell? ⟨gb288, 2, none⟩ = some (.int .i64 a0_2) ∧ w'.cell? ⟨gb288, 3, none⟩ = some (.int .i64 a0_3) ∧ w'.cell? ⟨gb288, 4, none⟩ = some (.int .i64 a0_4) ∧ w'.cell? ⟨gb288, 5, none⟩ = some (.int .i64 a0_5) ∧ w'.cell? ⟨gb288, 6, none⟩ = some (.int .i64 a0_6) ∧ w'.cell? ⟨gb288, 7, none⟩ = some (.int .i64 a0_7) ∧ w'.cell? ⟨gb288, 8, none⟩ = some (.int .i64 a0_8) ∧ w'.cell? ⟨gb288, 9, none⟩ = some (.int .i64 a0_9) ∧ w'.cell? ⟨gb288, 10, none⟩ = some (.int .i64 a0_10) ∧ w'.cell? ⟨gb288, 11, none⟩ = some (.int .i64 a0_11) ∧ w'.cell? ⟨gb288, 12, none⟩ = some (.int .i64 a0_12)) (ds := []) #[false, false, false, false, false, false, false, false] (by kernel_rfl) rfl rfl ⟨(blk_cell BK288.out 0).trans rfl, (blk_cell BK288.out 1).trans rfl, (blk_cell BK288.out 2).trans rfl, (blk_cell BK288.out 3).trans rfl, (blk_cell BK288.out 4).trans rfl, (blk_cell BK288.out 5).trans rfl, (blk_cell BK288.out 6).trans rfl, (blk_cell BK288.out 7).trans rfl, (blk_cell BK288.out 8).trans rfl, (blk_cell BK288.out 9).trans rfl, (blk_cell BK288.out 10).trans rfl, (blk_cell BK288.out 11).trans rfl, (blk_cell BK288.out 12).trans rfl⟩ (fun hHeld => ?_); refine with_tabW mandolinelaw35_sets.tab1 mandolinelaw35_sets.bits1 (fun HT_ HW_ => ?_)
 generalize w6.drew = w7 at BK288 BK289 BK290 HB hHeld ⊢
 refine pS (i := 0) (N := some 4) (ma 8 1) rfl rfl HT_.out ?_
 refine pS (i := 3) (N := some 7) (ma 8 9) rfl rfl HT_.out ?_
 refine tS (i := 1) (N := some 5) (ma 8 11) rfl rfl HT_.out HW_.out hHeld ?_
 refine tS (i := 4) (N := some 8) (ma 8 27) rfl rfl HT_.out HW_.out hHeld ?_
 refine one_ (i := 2) (N := some 6) (ma 8 31) rfl rfl (one_of HT_.out (by kernel_rfl)) (by decide) (fun K hK => ?_)
 refine gO Try.func22 #[.slice A0_0 l0_0.length c0_0] rfl rfl ?_
 with_reducible refine (ranges_Of.calls k _ _ l0_0 t291 _ (cU (Kd.C_below HR0_0.out HB.out)) HC0_0.out A2.out).mono ?_
 rintro e w8 ⟨v292, rfl, ho0, hb⟩
 refine ⟨_, rfl, ?_⟩
 have HO293 := Aside0.mk (Kd.R_lower ho0 (below_size (lU HB)))
 replace BK288 := sB BK288 hb
 replace BK289 := sB BK289 hb
 replace BK290 := sB BK290 hb
 replace HB := sL HB hb
 (try clear hb)
 (try clear hb2)
 (try clear hk)
 (try clear hi)
 (try clear ho0)
 refine hK.out _ _ ⟨(blk_cell BK288.out 0).trans rfl, (blk_cell BK288.out 1).trans rfl, (blk_cell BK288.out 2).trans rfl, (blk_cell BK288.out 3).trans rfl, (blk_cell BK288.out 4).trans rfl, (blk_cell BK288.out 5).trans rfl, (blk_cell BK288.out 6).trans rfl, (blk_cell BK288.out 7).trans rfl, (blk_cell BK288.out 8).trans rfl, (blk_cell BK288.out 9).trans rfl, (blk_cell BK288.out 10).trans rfl, (blk_cell BK288.out 11).trans rfl, (blk_cell BK288.out 12).trans rfl⟩ (fun hHeld => ?_)
 clear hK K
 refine nP (some 6) ?_
 refine one_ (i := 5) (N := some 9) (ma 8 63) rfl rfl (one_of HT_.out (by kernel_rfl)) (by decide) (fun K hK => ?_)
 refine gO Try.func22 #[.slice A0_1 l0_1.length c0_1] rfl rfl ?_
 with_reducible refine (ranges_Of.calls k _ _ l0_1 t294 _ (cU (Kd.C_below HR0_1.out HB.out)) HC0_1.out A3.out).mono ?_
 rintro e w9 ⟨v295, rfl, ho0, hb⟩
 refine ⟨_, rfl, ?_⟩
 have HO296 := Aside0.mk (Kd.R_lower (Kd.R_new' ho0 (Kd.R_lt (rU HO293.out))) (below_size (lU HB)))
 replace HO293 := rE HO293 ho0 hb
 replace BK288 := sB BK288 hb
 replace BK289 := sB BK289 hb
 replace BK290 := sB BK290 hb
 replace HB := sL HB hb
 (try clear hb)
 (try clear hb2)
 (try clear hk)
 (try clear hi)
 (try clear ho0)
 obtain ⟨Ao10, co10, eo10⟩ := Kd.R_slice HO293.out
 (first | subst eo10 | (injection eo10 with f1_ f2_ f3_; have f4_ := f1_.symm; have f5_ := f3_.symm; clear f1_ f2_ f3_; subst f4_; subst f5_))
 obtain ⟨Ao12, co12, eo12⟩ := Kd.R_slice HO296.out
 (first | subst eo12 | (injection eo12 with f1_ f2_ f3_; have f4_ := f1_.symm; have f5_ := f3_.symm; clear f1_ f2_ f3_; subst f4_; subst f5_))
 refine hK.out _ _ ⟨(blk_cell BK288.out 0).trans rfl, (blk_cell BK288.out 1).trans rfl, (blk_cell BK288.out 2).trans rfl, (blk_cell BK288.out 3).trans rfl, (blk_cell BK288.out 4).trans rfl, (blk_cell BK288.out 5).trans rfl, (blk_cell BK288.out 6).trans rfl, (blk_cell BK288.out 7).trans rfl, (blk_cell BK288.out 8).trans rfl, (blk_cell BK288.out 9).trans rfl, (blk_cell BK288.out 10).trans rfl, (blk_cell BK288.out 11).trans rfl, (blk_cell BK288.out 12).trans rfl⟩ (fun hHeld => ?_)
 clear hK K
 refine nP (some 9) ?_
 refine one_ (i := 6) (N := none) (ma 8 127) rfl rfl (one_of HT_.out (by kernel_rfl)) (by decide) (fun K hK => ?_)
 have hs11 : w9.cell? ⟨gb289, 0, none⟩ = some (.slice none 0 0) := (blk_cell BK289.out 0).trans rfl
 have hfs11 := blk_frozen BK289.out 0
 have hns11_0 := NB288_289.out
 have hns11_2 := NB290_289.out
 have hms11_0 := NB289_288.out
 have hms11_2 := NB289_290.out
 refine skip_ (w1 := ?_) (by rfl) rfl ?_ ?_
 rotate_left
 ·go_simp
  rfl
 refine hK.out _ _ ⟨((cell_far (p := ⟨gb289, _, none⟩) NB288_289.out _).trans (hHeld.1)), ((cell_far (p := ⟨gb289, _, none⟩) NB288_289.out _).trans (hHeld.2.1)), ((cell_far (p := ⟨gb289, _, none⟩) NB288_289.out _).trans (hHeld.2.2.1)), ((cell_far (p := ⟨gb289, _, none⟩) NB288_289.out _).trans (hHeld.2.2.2.1)), ((cell_far (p := ⟨gb289, _, none⟩) NB288_289.out _).trans (hHeld.2.2.2.2.1)), ((cell_far (p := ⟨gb289, _, none⟩) NB288_289.out _).trans (hHeld.2.2.2.2.2.1)), ((cell_far (p := ⟨gb289, _, none⟩) NB288_289.out _).trans (hHeld.2.2.2.2.2.2.1)), ((cell_far (p := ⟨gb289, _, none⟩) NB288_289.out _).trans (hHeld.2.2.2.2.2.2.2.1)), ((cell_far (p := ⟨gb289, _, none⟩) NB288_289.out _).trans (hHeld.2.2.2.2.2.2.2.2.1)), ((cell_far (p := ⟨gb289, _, none⟩) NB288_289.out _).trans (hHeld.2.2.2.2.2.2.2.2.2.1)), ((cell_far (p := ⟨gb289, _, none⟩) NB288_289.out _).trans (hHeld.2.2.2.2.2.2.2.2.2.2.1)), ((cell_far (p := ⟨gb289, _, none⟩) NB288_289.out _).trans (hHeld.2.2.2.2.2.2.2.2.2.2.2.1)), ((cell_far (p := ⟨gb289, _, none⟩) NB288_289.out _).trans (hHeld.2.2.2.2.2.2.2.2.2.2.2.2))⟩ (fun hHeld => ?_)
 clear hK K
 refine one_ (i := 7) (N := none) (ma 8 255) rfl rfl (one_of HT_.out (by kernel_rfl)) (by decide) (fun K hK => ?_)
 have hs13 : w9.cell? ⟨gb290, 0, none⟩ = some (.slice none 0 0) := (blk_cell BK290.out 0).trans rfl
 have hfs13 := blk_frozen BK290.out 0
 have hns13_0 := NB288_290.out
 have hns13_1 := NB289_290.out
 have hms13_0 := NB290_288.out
 have hms13_1 := NB290_289.out
 refine skip_ (w1 := ?_) (by rfl) rfl ?_ ?_
 rotate_left
 ·go_simp
  rfl
 refine hK.out _ _ ⟨((cell_far (p := ⟨gb290, _, none⟩) NB288_290.out _).trans (hHeld.1)), ((cell_far (p := ⟨gb290, _, none⟩) NB288_290.out _).trans (hHeld.2.1)), ((cell_far (p := ⟨gb290, _, none⟩) NB288_290.out _).trans (hHeld.2.2.1)), ((cell_far (p := ⟨gb290, _, none⟩) NB288_290.out _).trans (hHeld.2.2.2.1)), ((cell_far (p := ⟨gb290, _, none⟩) NB288_290.out _).trans (hHeld.2.2.2.2.1)), ((cell_far (p := ⟨gb290, _, none⟩) NB288_290.out _).trans (hHeld.2.2.2.2.2.1)), ((cell_far (p := ⟨gb290, _, none⟩) NB288_290.out _).trans (hHeld.2.2.2.2.2.2.1)), ((cell_far (p := ⟨gb290, _, none⟩) NB288_290.out _).trans (hHeld.2.2.2.2.2.2.2.1)), ((cell_far (p := ⟨gb290, _, none⟩) NB288_290.out _).trans (hHeld.2.2.2.2.2.2.2.2.1)), ((cell_far (p := ⟨gb290, _, none⟩) NB288_290.out _).trans (hHeld.2.2.2.2.2.2.2.2.2.1)), ((cell_far (p := ⟨gb290, _, none⟩) NB288_290.out _).trans (hHeld.2.2.2.2.2.2.2.2.2.2.1)), ((cell_far (p := ⟨gb290, _, none⟩) NB288_290.out _).trans (hHeld.2.2.2.2.2.2.2.2.2.2.2.1)), ((cell_far (p := ⟨gb290, _, none⟩) NB288_290.out _).trans (hHeld.2.2.2.2.2.2.2.2.2.2.2.2))⟩ (fun hHeld => ?_)
 clear hK K
 refine done_ (done_of HT_.out (by kernel_rfl)) ?_
 try go_wp2
 refine bodyPost_ret (results_cc rfl _ _ gb289 gb290 30 30 #[.slice Ao10 t291.length co10] #[.slice Ao12 t294.length co12] (0, 0) (0, 0) _ _ rfl (by (with_reducible repeat (first | refine blk_drewN ?_ _ | refine blk_drew ?_ | refine blk_alloc ?_ _)); refine blk_far ?_ NB289_290.out _; (with_reducible repeat (first | refine blk_drewN ?_ _ | refine blk_drew ?_ | refine blk_alloc ?_ _)); refine blk_put (cs := #[.slice none 0 0]) ?_ 0 _ rfl; (with_reducible repeat (first | refine blk_drewN ?_ _ | refine blk_drew ?_ | refine blk_alloc ?_ _)); exact BK289.out) Try.underlying30 rfl (by kernel_rfl) rfl (by (with_reducible repeat (first | refine blk_drewN ?_ _ | refine blk_drew ?_ | refine blk_alloc ?_ _)); refine blk_put (cs := #[.slice none 0 0]) ?_ 0 _ rfl; (with_reducible repeat (first | refine blk_drewN ?_ _ | refine blk_drew ?_ | refine blk_alloc ?_ _)); refine blk_far ?_ NB290_289.out _; (with_reducible repeat (first | refine blk_drewN ?_ _ | refine blk_drew ?_ | refine blk_alloc ?_ _)); exact BK290.out) Try.underlying30 rfl (by kernel_rfl)) rfl ?_
 exact ⟨_, _, eW, by (with_reducible repeat (first | apply Kd.R_alloc | apply Kd.R_drewN | apply Kd.R_drew)); exact Kd.R_mono (Kd.R_far (p := ⟨gb290, 0, none⟩) (Kd.R_far (p := ⟨gb289, 0, none⟩) (Kd.R_types (Kd.R_types HO293.out BK289.out (by decide)) BK290.out (by decide)) (fun _ hk => hk.1.2) (.slice Ao10 t291.length co10)) (fun _ hk => hk.2) (.slice Ao12 t294.length co12)) (fun _ hk => hk.1.1.2), by (with_reducible repeat (first | apply Kd.R_alloc | apply Kd.R_drewN | apply Kd.R_drew)); exact Kd.R_mono (Kd.R_far (p := ⟨gb290, 0, none⟩) (Kd.R_far (p := ⟨gb289, 0, none⟩) (Kd.R_types (Kd.R_types HO296.out BK289.out (by decide)) BK290.out (by decide)) (fun _ hk => hk.1.2) (.slice Ao10 t291.length co10)) (fun _ hk => hk.2) (.slice Ao12 t294.length co12)) (fun _ hk => hk.1.1.2), lU HB⟩
end Go.Proofs.Ytnaalaakhdbfbaa.XP
