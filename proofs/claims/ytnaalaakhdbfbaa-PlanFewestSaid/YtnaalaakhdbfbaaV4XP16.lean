-- Go functions as plain functions, and that the code comes to these answers (printed by a program).
import Derived.Test.YtnaalaakhdbfbaaV4XP0
import Derived.Test.YtnaalaakhdbfbaaV4XP12
import Derived.Test.YtnaalaakhdbfbaaV4XP15
namespace Go.Proofs.Ytnaalaakhdbfbaa.XP
open Go.RowKit Go.Proofs.YtnaalaakhdbfbaaW.PrintWords Go.Proofs.YtnaalaakhdbfbaaW.PrintLast Go.Proofs.YtnaalaakhdbfbaaW.PrintMore
attribute [local go_sem] max2_int min2_int max_two min_two max_three min_three max_four min_four
set_option linter.unusedVariables false
set_option linter.unusedSimpArgs false
def mandolineref02_Of.f (k : Nat) (l0 : List (S48)) : Option ((List (S48))) := (mandolineref02_of.f k l0 ([] : List (S48)) 1).bind fun t363 => (some t363)
set_option maxHeartbeats 8000000 in
set_option maxRecDepth 100000 in
theorem mandolineref02_Of.calls (k : Nat) (A0 : Option Addr) (c0 : Nat) (l0 : List (S48)) (r : List (S48)) (w : World) (hr0 : Kd.C k48 w A0 l0.length l0) (hc0 : l0.length ≤ c0) (h : mandolineref02_Of.f k l0 = some r) :
  Calls Try.prog 15 #[.slice A0 l0.length c0] w fun e w' => ∃ v0_ : Value, e = .returned (v0_) ∧ Kd.R k48 48 w' w.heap.size (fun _ => True) v0_ r ∧ Below w.heap.size w w' := by
 have HR0 := Aside0.mk hr0
 have HC0 := Aside0.mk hc0
 clear hr0 hc0
 have HB := Aside0.mk (Below.refl w.heap.size w)
 unfold mandolineref02_Of.f at h
 have H := h
 clear h
 obtain ⟨t363, A2, H⟩ := bO H
 obtain rfl := Option.some.inj H
 go_enter Try.func15, Try.ntmps15
 go_wp2_with (first | ((with_reducible refine gate_callee (f := 39) rfl ?_); refine gL (some 4) rfl rfl Try.func39 #[.slice A0 l0.length c0, .slice none 0 0, .int .i64 1] rfl ?_; (refine (mandolineref02_of.calls k _ _ l0 _ _ ([] : List (S48)) 1 t363 _ (cU HR0.out) HC0.out (Kd.C_nil _ _) (Nat.le_refl _) A2.out).mono ?_); rintro e w3 ⟨v364, rfl, ho0, hb⟩; refine ⟨_, rfl, ?_⟩; have HO365 := Aside0.mk (Kd.R_lower ho0 (below_size (lU HB))); replace HB := sL HB hb; (try clear hb); (try clear hb2); (try clear hk); (try clear hi); (try clear ho0)))
 go_ret
 exact ⟨_, eW, by (with_reducible repeat (first | apply Kd.R_alloc | apply Kd.R_drewN | apply Kd.R_drew)); exact HO365.out, lU HB⟩
def mandolineref35_lengthOk.f (a0 : Int) : Option (Bool) := if a0 ≥ (-1) then (some (decide (a0 ≤ 1099511627776))) else (some false)
set_option maxHeartbeats 8000000 in
set_option maxRecDepth 100000 in
theorem mandolineref35_lengthOk.calls (a0 : Int) (r : Bool) (w : World) (h : mandolineref35_lengthOk.f a0 = some r) :
  Calls Try.prog 41 #[.int .i64 a0] w fun e w' => e = .returned (.bool r) ∧ Drawn0 w w' := by
 unfold mandolineref35_lengthOk.f at h
 have H := h
 clear h
 by_cases c2 : a0 ≥ (-1)
 ·rw [if_pos c2] at H
  have c2b0 : decide ((-1) ≤ a0) = true := decide_eq_true c2
  clear c2
  obtain rfl := Option.some.inj H
  go_enter Try.func41, Try.ntmps41
  go_wp2
  go_ret
  exact ⟨by first | rfl | (simp; done) | (simp [*]; done), by repeat (first | exact Drawn0.refl _ | apply Drawn0.step)⟩
 ·rw [if_neg c2] at H
  have c2b0 : decide ((-1) ≤ a0) = false := decide_eq_false c2
  clear c2
  obtain rfl := Option.some.inj H
  go_enter Try.func41, Try.ntmps41
  go_wp2
  go_ret
  exact ⟨by first | rfl | (simp; done) | (simp [*]; done), by repeat (first | exact Drawn0.refl _ | apply Drawn0.step)⟩
def mandolineref02_And.f (k : Nat) (l0 : List (S48)) (l1 : List (S48)) : Option ((List (S48))) := (mandolineref02_of.f k l0 l1 2).bind fun t366 => (some t366)
set_option maxHeartbeats 8000000 in
set_option maxRecDepth 100000 in
theorem mandolineref02_And.calls (k : Nat) (A0 : Option Addr) (c0 : Nat) (l0 : List (S48)) (A1 : Option Addr) (c1 : Nat) (l1 : List (S48)) (r : List (S48)) (w : World) (hr0 : Kd.C k48 w A0 l0.length l0) (hc0 : l0.length ≤ c0) (hr1 : Kd.C k48 w A1 l1.length l1) (hc1 : l1.length ≤ c1) (h : mandolineref02_And.f k l0 l1 = some r) :
  Calls Try.prog 42 #[.slice A0 l0.length c0, .slice A1 l1.length c1] w fun e w' => ∃ v0_ : Value, e = .returned (v0_) ∧ Kd.R k48 48 w' w.heap.size (fun _ => True) v0_ r ∧ Below w.heap.size w w' := by
 have HR0 := Aside0.mk hr0
 have HC0 := Aside0.mk hc0
 clear hr0 hc0
 have HR1 := Aside0.mk hr1
 have HC1 := Aside0.mk hc1
 clear hr1 hc1
 have HB := Aside0.mk (Below.refl w.heap.size w)
 unfold mandolineref02_And.f at h
 have H := h
 clear h
 obtain ⟨t366, A3, H⟩ := bO H
 obtain rfl := Option.some.inj H
 go_enter Try.func42, Try.ntmps42
 go_wp2_with (first | ((with_reducible refine gate_callee (f := 39) rfl ?_); refine gL (some 7) rfl rfl Try.func39 #[.slice A0 l0.length c0, .slice A1 l1.length c1, .int .i64 2] rfl ?_; (with_reducible refine (mandolineref02_of.calls k _ _ l0 _ _ l1 2 t366 _ (cU HR0.out) HC0.out (cU HR1.out) HC1.out A3.out).mono ?_); rintro e w4 ⟨v367, rfl, ho0, hb⟩; refine ⟨_, rfl, ?_⟩; have HO368 := Aside0.mk (Kd.R_lower ho0 (below_size (lU HB))); replace HB := sL HB hb; (try clear hb); (try clear hb2); (try clear hk); (try clear hi); (try clear ho0)))
 go_ret
 exact ⟨_, eW, by (with_reducible repeat (first | apply Kd.R_alloc | apply Kd.R_drewN | apply Kd.R_drew)); exact HO368.out, lU HB⟩
def mandolineref35_end.f (a0 : Int) : Option (Int) := if a0 < 0 then (some 4611686018427387904) else (some a0)
set_option maxHeartbeats 8000000 in
set_option maxRecDepth 100000 in
theorem mandolineref35_end.calls (a0 : Int) (r : Int) (w : World) (h : mandolineref35_end.f a0 = some r) :
  Calls Try.prog 43 #[.int .i64 a0] w fun e w' => e = .returned (.int .i64 r) ∧ Drawn0 w w' := by
 unfold mandolineref35_end.f at h
 have H := h
 clear h
 by_cases c2 : a0 < 0
 ·rw [if_pos c2] at H
  have c2b0 : decide (a0 < 0) = true := decide_eq_true c2
  clear c2
  obtain rfl := Option.some.inj H
  go_enter Try.func43, Try.ntmps43
  go_wp2
  go_ret
  exact ⟨by first | rfl | (simp; done) | (simp [*]; done), by repeat (first | exact Drawn0.refl _ | apply Drawn0.step)⟩
 ·rw [if_neg c2] at H
  have c2b0 : decide (a0 < 0) = false := decide_eq_false c2
  clear c2
  obtain rfl := Option.some.inj H
  go_enter Try.func43, Try.ntmps43
  go_wp2
  go_ret
  exact ⟨by first | rfl | (simp; done) | (simp [*]; done), by repeat (first | exact Drawn0.refl _ | apply Drawn0.step)⟩
mutual
def mandolineref35_Units.j0 : Nat → List (S48) → Int → Int → Bool → Option ((List (S48)))
 | 0, _, _, _, _ => none
 | k + 1, x0, x1, x2, x18 => if x18 = true then (some ([] : List (S48))) else ((mandolineref35_end.f x1).bind fun t371 => ((mandolineref02_And.f k x0 (([(⟨0, t371⟩ : S48)] : List (S48)))).bind fun t375 => (mandolineref35_Units.l0 k x1 x2 ([] : List (S48)) t375 (t375.length : Int) 0)))
def mandolineref35_Units.l0 : Nat → Int → Int → List (S48) → List (S48) → Int → Int → Option ((List (S48)))
 | 0, _, _, _, _, _, _ => none
 | k + 1, x1, x2, x7, x24, x25, x26 => if x26 < x25 then (if 0 ≤ x26 then (if x26 < (x24.length : Int) then (if x2 = 0 then (none) else (if ((rd_T48 x24 x26).f1) < 4611686018427387904 then ((mandolineref35_end.f x1).bind fun t381 => (if x7.length < 8796093022208 then (mandolineref35_Units.l0 k x1 x2 (x7 ++ [(⟨wrap64 (((rd_T48 x24 x26).f0) - (Int.tmod ((rd_T48 x24 x26).f0) x2)), mn (wrap64 (((rd_T48 x24 x26).f1) + (Int.tmod (wrap64 (x2 - (Int.tmod ((rd_T48 x24 x26).f1) x2))) x2))) t381⟩ : S48)]) x24 x25 (wrap64 (x26 + 1))) else (none))) else (if x7.length < 8796093022208 then (mandolineref35_Units.l0 k x1 x2 (x7 ++ [(⟨wrap64 (((rd_T48 x24 x26).f0) - (Int.tmod ((rd_T48 x24 x26).f0) x2)), 4611686018427387904⟩ : S48)]) x24 x25 (wrap64 (x26 + 1))) else (none)))) else (none)) else (none)) else ((mandolineref02_Of.f k x7).bind fun t388 => (some t388))
end
def mandolineref35_Units.f (k : Nat) (l0 : List (S48)) (a1 : Int) (a2 : Int) : Option ((List (S48))) := (mandolineref35_unitOk.f k a2).bind fun t369 => (if t369 = true then ((mandolineref35_lengthOk.f a1).bind fun t370 => (mandolineref35_Units.j0 k l0 a1 a2 (!t370))) else (mandolineref35_Units.j0 k l0 a1 a2 true))
def mandolineref35_Units.T7 : Bool × List (List Nat × List Nat) := (true, [([], []), ([0], [0]), ([], []), ([2], [2]), ([], []), ([3, 4], [3, 4]), ([1, 5], [1, 5]), ([6], [6]), ([], []), ([8, 7, 0, 1, 2, 3, 4, 5, 6, 7, 8], [7, 8])])
def mandolineref35_Units.B7 : List Nat := [0, 1, 0, 4, 0, 28, 63, 127, 0, 511]
theorem mandolineref35_Units.tab7 : rtab .any (opsOf Try.f17 7) = mandolineref35_Units.T7 := by kernel_rfl
theorem mandolineref35_Units.bits7 : waitsOk mandolineref35_Units.T7.2 mandolineref35_Units.B7 = true := by kernel_rfl
def mandolineref35_Units.T9 : Bool × List (List Nat × List Nat) := (true, [([], []), ([0], [0]), ([], []), ([], []), ([3], [3]), ([], []), ([4, 5], [4, 5]), ([2, 6], [2, 6]), ([], []), ([7, 8], [7, 8]), ([1, 9], [1, 9]), ([], []), ([11], [11]), ([10, 12], [10, 12]), ([0, 1, 2, 3, 4, 5, 6, 7, 8, 9, 10, 11, 12, 13], []), ([14, 13, 12, 0, 1, 2, 3, 4, 5, 6, 7, 8, 9, 10, 11, 12, 13], [13, 14])])
def mandolineref35_Units.B9 : List Nat := [0, 1, 0, 0, 8, 0, 56, 124, 0, 508, 1023, 0, 2048, 8191, 16383, 32767]
theorem mandolineref35_Units.tab9 : rtab .any (opsOf Try.f17 9) = mandolineref35_Units.T9 := by kernel_rfl
theorem mandolineref35_Units.bits9 : waitsOk mandolineref35_Units.T9.2 mandolineref35_Units.B9 = true := by kernel_rfl
set_option maxHeartbeats 8000000 in
set_option maxRecDepth 100000 in
theorem mandolineref35_Units.calls (k : Nat) (A0 : Option Addr) (c0 : Nat) (l0 : List (S48)) (a1 : Int) (a2 : Int) (r : List (S48)) (w : World) (hr0 : Kd.C k48 w A0 l0.length l0) (hc0 : l0.length ≤ c0) (h : mandolineref35_Units.f k l0 a1 a2 = some r) :
  Calls Try.prog 17 #[.slice A0 l0.length c0, .int .i64 a1, .int .i64 a2] w fun e w' => ∃ v0_ : Value, e = .returned (v0_) ∧ Kd.R k48 48 w' w.heap.size (fun _ => True) v0_ r ∧ Below w.heap.size w w' := by
 have hu48 := Try.underlying48
 have HR0 := Aside0.mk hr0
 have HC0 := Aside0.mk hc0
 clear hr0 hc0
 have HB := Aside0.mk (Below.refl w.heap.size w)
 unfold mandolineref35_Units.f at h
 have H := h
 clear h
 have HC4 := Aside0.mk H
 clear H
 go_enter Try.func17, Try.ntmps17
 go_upto_region 1 with (fail)
 go_cut [18] (fun v18 wc => ∃ (kq : Nat) (x18_3 : Bool), v18 = .bool x18_3 ∧ Aside0 (mandolineref35_Units.j0 kq l0 a1 a2 x18_3 = some r) ∧ Aside0 (kq ≤ k) ∧ Aside0 (Below w.heap.size w wc))
 case first =>
  have H := HC4.out
  clear HC4
  obtain ⟨t369, A5, H⟩ := bO H
  by_cases c6 : t369 = true
  ·subst c6
   rw [if_pos rfl] at H
   obtain ⟨t370, A7, H⟩ := bO H
   have H' := Aside0.mk H
   clear H
   go_wp2_with (first | ((with_reducible refine gate_callee (f := 40) rfl ?_); refine gL (some 12) rfl rfl Try.func40 #[.int .i64 a2] rfl ?_; (with_reducible refine (mandolineref35_unitOk.calls k a2 true _ A5.out).mono ?_); rintro e w' ⟨rfl, ⟨nd, rfl⟩⟩; refine ⟨_, rfl, ?_⟩) | (go_at_call 41; (with_reducible refine (mandolineref35_lengthOk.calls a1 t370 _ A7.out).mono ?_); rintro e w' ⟨rfl, ⟨nd, rfl⟩⟩))
   go_meet
   case rel => exact ⟨_, (!t370), eR, H', ⟨by first | omega | exact Nat.le_refl _⟩, ⟨lU HB⟩⟩
  ·replace c6 := Bool.eq_false_iff.mpr c6
   subst c6
   rw [if_neg (show ¬ (false = true) by decide)] at H
   have H' := Aside0.mk H
   clear H
   go_wp2_with (first | ((with_reducible refine gate_callee (f := 40) rfl ?_); refine gL (some 12) rfl rfl Try.func40 #[.int .i64 a2] rfl ?_; (with_reducible refine (mandolineref35_unitOk.calls k a2 false _ A5.out).mono ?_); rintro e w' ⟨rfl, ⟨nd, rfl⟩⟩; refine ⟨_, rfl, ?_⟩))
   go_meet
   case rel => exact ⟨_, (true), eR, H', ⟨by first | omega | exact Nat.le_refl _⟩, ⟨lU HB⟩⟩
 case rest =>
  clear HC4
  try clear c1
  try clear p2
  try clear c4
  try clear c6
  obtain ⟨kq, x18_3, rfl, HA, HJ3, HB⟩ := hcut
  cases kq with
  | zero => exact absurd HA.out (by simp [mandolineref35_Units.j0])
  | succ kj3 =>
   have H := HA.out
   clear HA
   simp only [mandolineref35_Units.j0] at H
   by_cases c8 : x18_3 = true
   ·subst c8
    rw [if_pos rfl] at H
    obtain rfl := Option.some.inj H
    go_wp2
    go_ret
    exact ⟨_, eW, by first | exact Kd.R_nil _ _ _ _ _ | exact Kd.N_nil _ _ _ _ _ | exact Kd.V_nil _ _ _ _ _ | exact Kd.Q_nil _ _ _ _ _ | exact Kd.S_nil _ _ _ _ _, lU HB⟩
   ·replace c8 := Bool.eq_false_iff.mpr c8
    subst c8
    rw [if_neg (show ¬ (false = true) by decide)] at H
    obtain ⟨t371, A9, H⟩ := bO H
    obtain ⟨y372, hy372⟩ : ∃ y_ : List (S48), y_ = (([(⟨0, t371⟩ : S48)] : List (S48))) := ⟨_, rfl⟩
    replace H : ((mandolineref02_And.f kj3 l0 y372).bind fun t375 => (mandolineref35_Units.l0 kj3 a1 a2 ([] : List (S48)) t375 (t375.length : Int) 0)) = some r := by first | (rw [hy372]; with_reducible exact H) | (have H2_ := (Option.bind_some _ _).symm.trans H; rw [hy372]; with_reducible exact H2_) | (have H2_ := (Option.bind_some _ _).symm.trans H; with_reducible exact H2_) | with_reducible exact H | (rw [hy372]; exact H) | exact H
    have Ny372 := Aside0.mk hy372
    clear hy372
    obtain ⟨t375, A10, H⟩ := bO H
    have H' := Aside0.mk H
    clear H
    go_wp2_with (first | ((with_reducible refine gate_callee (f := 43) rfl ?_); refine gL (some 21) rfl rfl Try.func43 #[.int .i64 a1] rfl ?_; (with_reducible refine (mandolineref35_end.calls a1 t371 _ A9.out).mono ?_); rintro e w' ⟨rfl, ⟨nd, rfl⟩⟩; refine ⟨_, rfl, ?_⟩) | ((with_reducible refine gate_dst (N := 23) rfl ?_); refine Kd.R_lit k48 _ 48 ?hg (N := 23) ?hd (xs := ([(⟨0, t371⟩ : S48)] : List (S48))) (inner := [.int .i64 0, .int .i64 t371]) (ok := fun _ => True) (okp := fun _ => True) ?hr ?hp (fun _ hk => hk) trivial (Below.refl _ _) (Nat.le_refl _) (by simp) ?_; (case hd => rfl); (case hg => rfl); (case hr => first | (go_simp; done) | (go_simp; rfl)); (case hp => exact (Reps.c2 (show Kd.M k48 _ _ _ (⟨0, t371⟩ : S48) [.int .i64 0, .int .i64 t371] from (k48_mkM _ _ _ (⟨0, t371⟩ : S48) )) (Reps.none _ _))); intro v373 w11 ho12 hb hg_ hnew_; clear hg_ hnew_; (first | rw [← Ny372.out] at ho12 | (simp only [Int.reduceToNat] at ho12; rw [← Ny372.out] at ho12)); have HO374 := Aside0.mk (Kd.R_lower ho12 (below_size (lU HB))); replace HB := sL HB hb; clear hb ho12; obtain ⟨Ao13, co13, eo13⟩ := Kd.R_slice HO374.out; subst eo13) | ((with_reducible refine gate_callee (f := 42) rfl ?_); refine gL (some 24) rfl rfl Try.func42 #[.slice A0 l0.length c0, .slice Ao13 y372.length co13] rfl ?_; (with_reducible refine (mandolineref02_And.calls kj3 _ _ l0 _ _ y372 t375 _ (cU (Kd.C_below HR0.out HB.out)) HC0.out (cU (rC HO374)) (rN HO374) A10.out).mono ?_); rintro e w14 ⟨v376, rfl, ho0, hb⟩; refine ⟨_, rfl, ?_⟩; have HO377 := Aside0.mk (Kd.R_lower (Kd.R_new' ho0 (Kd.R_lt (rU HO374.out))) (below_size (lU HB))); replace HO374 := rE HO374 ho0 hb; replace HB := sL HB hb; (try clear hb); (try clear hb2); (try clear hk); (try clear hi); (try clear ho0); obtain ⟨Ao15, co15, eo15⟩ := Kd.R_slice HO377.out; subst eo15))
    go_loopg [7, 26] kj3 (fun kq v7 v26 w' => ∃ (x7_2 : List (S48)) (x26_2 : Int), v26 = .int .i64 x26_2 ∧ Aside0 (mandolineref35_Units.l0 kq a1 a2 x7_2 t375 (t375.length : Int) x26_2 = some r) ∧ Aside0 (kq ≤ kj3) ∧ Aside0 (Kd.R k48 48 w' w.heap.size (fun k_ => some k_ ≠ ((.slice Ao15 t375.length co15) : Value).ownBlock) v7 x7_2) ∧ Aside0 (Kd.R k48 48 w' w.heap.size (fun k_ => some k_ ≠ (v7 : Value).ownBlock) (.slice Ao15 t375.length co15) t375) ∧ Aside0 (Below w.heap.size w w'))
    case atStart => exact ⟨(([] : List (S48))), (0), eR, H', ⟨Nat.le_refl _⟩, ⟨by first | exact Kd.R_nil _ _ _ _ _ | exact Kd.N_nil _ _ _ _ _ | exact Kd.V_nil _ _ _ _ _ | exact Kd.Q_nil _ _ _ _ _ | exact Kd.S_nil _ _ _ _ _⟩, ⟨rU (Kd.R_mono HO377.out (fun _ hk => (by simp [Value.ownBlock])))⟩, ⟨lU HB⟩⟩
    case round =>
     clear H'
     try clear c1
     try clear c2
     try clear p2
     try clear c4
     try clear c6
     try clear c8
     try clear p2
     obtain ⟨x7_2, x26_2, rfl, HA, HK2, HO_7, HO_24, HB⟩ := hrel
     cases gk with
     | zero => exact absurd HA.out (by simp [mandolineref35_Units.l0])
     | succ k2 =>
      have H := HA.out
      clear HA
      simp only [mandolineref35_Units.l0] at H
      by_cases c16 : x26_2 < (t375.length : Int)
      ·rw [if_pos c16] at H
       have c16b0 : decide (x26_2 < (t375.length : Int)) = true := decide_eq_true c16
       clear c16
       by_cases c17 : 0 ≤ x26_2
       ·rw [if_pos c17] at H
        have c17b0 : decide (0 ≤ x26_2) = true := decide_eq_true c17
        clear c17
        by_cases c18 : x26_2 < (t375.length : Int)
        ·rw [if_pos c18] at H
         have c18b0 : decide (x26_2 < (t375.length : Int)) = true := decide_eq_true c18
         clear c18
         by_cases c19 : a2 = 0
         ·rw [if_pos c19] at H
          exact absurd H (by simp)
         ·rw [if_neg c19] at H
          have c19b0 : (a2 == 0) = false := beq_eq_false_iff_ne.mpr c19
          have c19b1 : (a2 != 0) = true := bne_iff_ne.mpr c19
          by_cases c20 : ((rd_T48 t375 x26_2).f1) < 4611686018427387904
          ·rw [if_pos c20] at H
           have c20b0 : decide (((rd_T48 t375 x26_2).f1) < 4611686018427387904) = true := decide_eq_true c20
           clear c20
           obtain ⟨t381, A21, H⟩ := bO H
           obtain ⟨ji22, hji22⟩ : ∃ j_ : Int, (mn (wrap64 (((rd_T48 t375 x26_2).f1) + (Int.tmod (wrap64 (a2 - (Int.tmod ((rd_T48 t375 x26_2).f1) a2))) a2))) t381) = j_ := ⟨_, rfl⟩
           replace H : (if x7_2.length < 8796093022208 then (mandolineref35_Units.l0 k2 a1 a2 (x7_2 ++ [(⟨wrap64 (((rd_T48 t375 x26_2).f0) - (Int.tmod ((rd_T48 t375 x26_2).f0) a2)), ji22⟩ : S48)]) t375 (t375.length : Int) (wrap64 (x26_2 + 1))) else (none)) = some r := by first | (rw [hji22] at H; exact H) | (simp only [hji22] at H ⊢; exact H)
           (try rw [hji22] at A21)
           have hji22_ : (if t381 < (wrap64 (((rd_T48 t375 x26_2).f1) + (Int.tmod (wrap64 (a2 - (Int.tmod ((rd_T48 t375 x26_2).f1) a2))) a2))) then t381 else (wrap64 (((rd_T48 t375 x26_2).f1) + (Int.tmod (wrap64 (a2 - (Int.tmod ((rd_T48 t375 x26_2).f1) a2))) a2)))) = ji22 := hji22
           by_cases c23 : x7_2.length < 8796093022208
           ·rw [if_pos c23] at H
            have LMc23 := Aside0.mk c23
            clear c23
            obtain ⟨y382, hy382⟩ : ∃ y_ : List (S48), y_ = (x7_2 ++ [(⟨wrap64 (((rd_T48 t375 x26_2).f0) - (Int.tmod ((rd_T48 t375 x26_2).f0) a2)), ji22⟩ : S48)]) := ⟨_, rfl⟩
            replace H : (mandolineref35_Units.l0 k2 a1 a2 y382 t375 (t375.length : Int) (wrap64 (x26_2 + 1))) = some r := by first | (rw [hy382]; with_reducible exact H) | (have H2_ := (Option.bind_some _ _).symm.trans H; rw [hy382]; with_reducible exact H2_) | (have H2_ := (Option.bind_some _ _).symm.trans H; with_reducible exact H2_) | with_reducible exact H | (rw [hy382]; exact H) | exact H
            have Ny382 := Aside0.mk hy382
            clear hy382
            have H' := Aside0.mk H
            clear H
            have p378 : 0 ≤ (x26_2 : Int) := of_decide_eq_true (by first | (with_reducible assumption) | assumption)
            have q378 : x26_2 < (t375.length : Int) := of_decide_eq_true (by first | (with_reducible assumption) | assumption)
            obtain ⟨ad378, e378, hx378_0, hx378_1⟩ := at_T48 (rC HO_24) x26_2 p378 q378
            cases e378
            replace p378 := eq_true p378
            replace q378 := eq_true q378
            try go_wp2_with (first | ((with_reducible refine gate_dst (N := 9) rfl ?_); refine bX (N := 9) (cs := #[.int .i64 0, .int .i64 0]) (t := 48) ?_; intro gb379 hg w24 hbox hb; have BK379 := Aside0.mk (hbox); have GE379 := sG HB hg; replace HO_7 := Aside0.mk (Kd.R_below (Kd.R_elderB (rU HO_7.out) gb379 (Nat.le_of_eq hg.symm)) hb); replace HO_24 := Aside0.mk (Kd.R_below (Kd.R_elderB (rU HO_24.out) gb379 (Nat.le_of_eq hg.symm)) hb); replace HB := sL HB hb; clear hb hbox hg; obtain ⟨hcz25_0, hcz25_1⟩ := q2 BK379; obtain ⟨hfz25_0, hfz25_1⟩ := z2 BK379))
            have n0_ : Aside0 (Kd.R k48 48 ((w24.setCell ⟨gb379, 0, none⟩ (.int .i64 ((rd_T48 t375 x26_2).f0))).setCell ⟨gb379, 1, none⟩ (.int .i64 ((rd_T48 t375 x26_2).f1))) w.heap.size (fun k_ => some k_ ≠ (.slice (some ad378) t375.length co15 : Value).ownBlock ∧ k_ ≠ gb379) u7 x7_2) := ⟨rU (Kd.R_mono (Kd.R_far (p := ⟨gb379, 1, none⟩) (Kd.R_far (p := ⟨gb379, 0, none⟩) (Kd.R_mono HO_7.out (fun k_ hk => (⟨hk, hk.2⟩ : _ ∧ k_ ≠ gb379))) (fun _ hk => hk.2) (.int .i64 ((rd_T48 t375 x26_2).f0))) (fun _ hk => hk.2) (.int .i64 ((rd_T48 t375 x26_2).f1))) (fun _ hk => ⟨hk.1.1, hk.1.2⟩))⟩
            have n1_ : Aside0 (Kd.R k48 48 ((w24.setCell ⟨gb379, 0, none⟩ (.int .i64 ((rd_T48 t375 x26_2).f0))).setCell ⟨gb379, 1, none⟩ (.int .i64 ((rd_T48 t375 x26_2).f1))) w.heap.size (fun k_ => some k_ ≠ (u7 : Value).ownBlock ∧ k_ ≠ gb379) (.slice (some ad378) t375.length co15) t375) := ⟨rU (Kd.R_mono (Kd.R_far (p := ⟨gb379, 1, none⟩) (Kd.R_far (p := ⟨gb379, 0, none⟩) (Kd.R_mono HO_24.out (fun k_ hk => (⟨hk, hk.2⟩ : _ ∧ k_ ≠ gb379))) (fun _ hk => hk.2) (.int .i64 ((rd_T48 t375 x26_2).f0))) (fun _ hk => hk.2) (.int .i64 ((rd_T48 t375 x26_2).f1))) (fun _ hk => ⟨hk.1.1, hk.1.2⟩))⟩
            have n2_ : Aside0 (((w24.setCell ⟨gb379, 0, none⟩ (.int .i64 ((rd_T48 t375 x26_2).f0))).setCell ⟨gb379, 1, none⟩ (.int .i64 ((rd_T48 t375 x26_2).f1))).heap[gb379]? = some (.cells #[.int .i64 ((rd_T48 t375 x26_2).f0), .int .i64 ((rd_T48 t375 x26_2).f1)] 48 (0, 0))) := ⟨by (with_reducible repeat (first | refine blk_drewN ?_ _ | refine blk_drew ?_ | refine blk_alloc ?_ _)); refine blk_put (cs := #[.int .i64 ((rd_T48 t375 x26_2).f0), .int .i64 0]) ?_ 1 _ rfl; (with_reducible repeat (first | refine blk_drewN ?_ _ | refine blk_drew ?_ | refine blk_alloc ?_ _)); refine blk_put (cs := #[.int .i64 0, .int .i64 0]) ?_ 0 _ rfl; (with_reducible repeat (first | refine blk_drewN ?_ _ | refine blk_drew ?_ | refine blk_alloc ?_ _)); exact BK379.out⟩
            have n3_ : Aside0 (Below w.heap.size w ((w24.setCell ⟨gb379, 0, none⟩ (.int .i64 ((rd_T48 t375 x26_2).f0))).setCell ⟨gb379, 1, none⟩ (.int .i64 ((rd_T48 t375 x26_2).f1)))) := ⟨lU HB⟩
            (try clear HO_7)
            (try clear HO_24)
            (try clear BK379)
            (try clear HB)
            generalize ((w24.setCell ⟨gb379, 0, none⟩ (.int .i64 ((rd_T48 t375 x26_2).f0))).setCell ⟨gb379, 1, none⟩ (.int .i64 ((rd_T48 t375 x26_2).f1))) = w26 at n0_ n1_ n2_ n3_ ⊢
            have HO_7 := n0_
            have HO_24 := n1_
            have BK379 := n2_
            have HB := n3_
            clear n0_ n1_ n2_ n3_
            replace HO_7 := Aside0.mk (Kd.R_drew HO_7.out)
            replace HO_24 := Aside0.mk (Kd.R_drew HO_24.out)
            replace BK379 := Aside0.mk (blk_drew BK379.out)
            replace HB := Aside0.mk (below_drew1 HB.out)
            refine start_ (n := 10) (S := fun w' => w'.cell? ⟨gb379, 0, none⟩ = some (.int .i64 ((rd_T48 t375 x26_2).f0)) ∧ w'.cell? ⟨gb379, 1, none⟩ = some (.int .i64 ((rd_T48 t375 x26_2).f1))) (ds := []) #[false, false, false, false, false, false, false, false, false, false] (by kernel_rfl) rfl rfl ⟨(blk_cell BK379.out 0).trans rfl, (blk_cell BK379.out 1).trans rfl⟩ (fun hHeld => ?_); refine with_tabW mandolineref35_Units.tab7 mandolineref35_Units.bits7 (fun HT_ HW_ => ?_)
            generalize w26.drew = w27 at HO_7 HO_24 BK379 HB hHeld ⊢
            refine pS (i := 0) (N := some 30) (ma 10 1) rfl rfl HT_.out ?_
            refine pS (i := 2) (N := some 32) (ma 10 5) rfl rfl HT_.out ?_
            refine pS (i := 4) (N := some 34) (ma 10 21) rfl rfl HT_.out ?_
            refine tS (i := 1) (N := some 31) (ma 10 23) rfl rfl HT_.out HW_.out hHeld ?_
            refine tS (i := 3) (N := some 33) (ma 10 31) rfl rfl HT_.out HW_.out hHeld ?_
            refine pS (i := 5) (N := some 35) (ma 10 63) rfl rfl HT_.out ?_
            refine pS (i := 6) (N := some 36) (ma 10 127) rfl rfl HT_.out ?_
            refine pS (i := 7) (N := some 37) (ma 10 255) rfl rfl HT_.out ?_
            refine one_ (i := 8) (N := some 10) (ma 10 511) rfl rfl (one_of HT_.out (by kernel_rfl)) (by decide) (fun K hK => ?_)
            refine bY (N := 10) (cs := #[.int .i64 0, .int .i64 0]) (t := 48) ?_
            intro gb380 hg w28 hbox hb
            have BK380 := Aside0.mk (hbox)
            have GE380 := sG HB hg
            have NB379_380 := sN BK379 hg
            have NB380_379 := sM BK379 hg
            replace HO_7 := Aside0.mk (Kd.R_below (Kd.R_elderB (rU HO_7.out) gb380 (Nat.le_of_eq hg.symm)) hb)
            replace HO_24 := Aside0.mk (Kd.R_below (Kd.R_elderB (rU HO_24.out) gb380 (Nat.le_of_eq hg.symm)) hb)
            replace BK379 := sB BK379 hb
            replace HB := sL HB hb
            clear hb hbox hg
            refine hK.out _ _ ⟨(blk_cell BK379.out 0).trans rfl, (blk_cell BK379.out 1).trans rfl⟩ (fun hHeld => ?_)
            clear hK K
            refine nP (some 10) ?_
            refine one_ (i := 9) (N := none) (ma 10 1023) rfl rfl (one_of HT_.out (by kernel_rfl)) (by decide) (fun K hK => ?_)
            have hs29 : w28.cell? ⟨gb380, 0, none⟩ = some (.int .i64 0) := (blk_cell BK380.out 0).trans rfl
            have hfs29 := blk_frozen BK380.out 0
            have hns29_0 := NB379_380.out
            have hms29_0 := NB380_379.out
            have hs30 : w28.cell? ⟨gb380, 1, none⟩ = some (.int .i64 0) := (blk_cell BK380.out 1).trans rfl
            have hfs30 := blk_frozen BK380.out 1
            have hns30_0 := NB379_380.out
            have hms30_0 := NB380_379.out
            refine skip_ (w1 := ?_) (by rfl) rfl ?_ ?_
            rotate_left
            ·go_simp
             rfl
            refine hK.out _ _ ⟨((cell_far (p := ⟨gb380, _, none⟩) NB379_380.out _).trans (((cell_far (p := ⟨gb380, _, none⟩) NB379_380.out _).trans (hHeld.1)))), ((cell_far (p := ⟨gb380, _, none⟩) NB379_380.out _).trans (((cell_far (p := ⟨gb380, _, none⟩) NB379_380.out _).trans (hHeld.2))))⟩ (fun hHeld => ?_)
            clear hK K
            refine done_ (done_of HT_.out (by kernel_rfl)) ?_
            have hnb31 := NB379_380.out
            have hnc31 := NB380_379.out
            obtain ⟨hcz32_0, hcz32_1⟩ := q2 BK379
            obtain ⟨hfz32_0, hfz32_1⟩ := z2 BK379
            try go_wp2
            have n0_ : Aside0 (Kd.R k48 48 ((w28.setCell ⟨gb380, 0, none⟩ (.int .i64 (wrap64 (((rd_T48 t375 x26_2).f0) - (Int.tmod ((rd_T48 t375 x26_2).f0) a2))))).setCell ⟨gb380, 1, none⟩ (.int .i64 4611686018427387904)) w.heap.size (fun k_ => some k_ ≠ (.slice (some ad378) t375.length co15 : Value).ownBlock ∧ k_ ≠ gb379 ∧ k_ ≠ gb380) u7 x7_2) := ⟨rU (Kd.R_mono (Kd.R_far (p := ⟨gb380, 1, none⟩) (Kd.R_far (p := ⟨gb380, 0, none⟩) (Kd.R_mono HO_7.out (fun k_ hk => (⟨hk, hk.2⟩ : _ ∧ k_ ≠ gb380))) (fun _ hk => hk.2) (.int .i64 (wrap64 (((rd_T48 t375 x26_2).f0) - (Int.tmod ((rd_T48 t375 x26_2).f0) a2))))) (fun _ hk => hk.2) (.int .i64 4611686018427387904)) (fun _ hk => ⟨hk.1.1.1, ⟨hk.1.1.2, hk.1.2⟩⟩))⟩
            have n1_ : Aside0 (Kd.R k48 48 ((w28.setCell ⟨gb380, 0, none⟩ (.int .i64 (wrap64 (((rd_T48 t375 x26_2).f0) - (Int.tmod ((rd_T48 t375 x26_2).f0) a2))))).setCell ⟨gb380, 1, none⟩ (.int .i64 4611686018427387904)) w.heap.size (fun k_ => some k_ ≠ (u7 : Value).ownBlock ∧ k_ ≠ gb379 ∧ k_ ≠ gb380) (.slice (some ad378) t375.length co15) t375) := ⟨rU (Kd.R_mono (Kd.R_far (p := ⟨gb380, 1, none⟩) (Kd.R_far (p := ⟨gb380, 0, none⟩) (Kd.R_mono HO_24.out (fun k_ hk => (⟨hk, hk.2⟩ : _ ∧ k_ ≠ gb380))) (fun _ hk => hk.2) (.int .i64 (wrap64 (((rd_T48 t375 x26_2).f0) - (Int.tmod ((rd_T48 t375 x26_2).f0) a2))))) (fun _ hk => hk.2) (.int .i64 4611686018427387904)) (fun _ hk => ⟨hk.1.1.1, ⟨hk.1.1.2, hk.1.2⟩⟩))⟩
            have n2_ : Aside0 (((w28.setCell ⟨gb380, 0, none⟩ (.int .i64 (wrap64 (((rd_T48 t375 x26_2).f0) - (Int.tmod ((rd_T48 t375 x26_2).f0) a2))))).setCell ⟨gb380, 1, none⟩ (.int .i64 4611686018427387904)).heap[gb379]? = some (.cells #[.int .i64 ((rd_T48 t375 x26_2).f0), .int .i64 ((rd_T48 t375 x26_2).f1)] 48 (0, 0))) := ⟨bF BK379⟩
            have n3_ : Aside0 (((w28.setCell ⟨gb380, 0, none⟩ (.int .i64 (wrap64 (((rd_T48 t375 x26_2).f0) - (Int.tmod ((rd_T48 t375 x26_2).f0) a2))))).setCell ⟨gb380, 1, none⟩ (.int .i64 4611686018427387904)).heap[gb380]? = some (.cells #[.int .i64 (wrap64 (((rd_T48 t375 x26_2).f0) - (Int.tmod ((rd_T48 t375 x26_2).f0) a2))), .int .i64 4611686018427387904] 48 (0, 0))) := ⟨by (with_reducible repeat (first | refine blk_drewN ?_ _ | refine blk_drew ?_ | refine blk_alloc ?_ _)); refine blk_put (cs := #[.int .i64 (wrap64 (((rd_T48 t375 x26_2).f0) - (Int.tmod ((rd_T48 t375 x26_2).f0) a2))), .int .i64 0]) ?_ 1 _ rfl; (with_reducible repeat (first | refine blk_drewN ?_ _ | refine blk_drew ?_ | refine blk_alloc ?_ _)); refine blk_put (cs := #[.int .i64 0, .int .i64 0]) ?_ 0 _ rfl; (with_reducible repeat (first | refine blk_drewN ?_ _ | refine blk_drew ?_ | refine blk_alloc ?_ _)); exact BK380.out⟩
            have n4_ : Aside0 (Below w.heap.size w ((w28.setCell ⟨gb380, 0, none⟩ (.int .i64 (wrap64 (((rd_T48 t375 x26_2).f0) - (Int.tmod ((rd_T48 t375 x26_2).f0) a2))))).setCell ⟨gb380, 1, none⟩ (.int .i64 4611686018427387904))) := ⟨lU HB⟩
            (try clear HO_7)
            (try clear HO_24)
            (try clear BK379)
            (try clear BK380)
            (try clear HB)
            generalize ((w28.setCell ⟨gb380, 0, none⟩ (.int .i64 (wrap64 (((rd_T48 t375 x26_2).f0) - (Int.tmod ((rd_T48 t375 x26_2).f0) a2))))).setCell ⟨gb380, 1, none⟩ (.int .i64 4611686018427387904)) = w33 at n0_ n1_ n2_ n3_ n4_ ⊢
            have HO_7 := n0_
            have HO_24 := n1_
            have BK379 := n2_
            have BK380 := n3_
            have HB := n4_
            clear n0_ n1_ n2_ n3_ n4_
            replace HO_7 := Aside0.mk (Kd.R_drew HO_7.out)
            replace HO_24 := Aside0.mk (Kd.R_drew HO_24.out)
            replace BK379 := Aside0.mk (blk_drew BK379.out)
            replace BK380 := Aside0.mk (blk_drew BK380.out)
            replace HB := Aside0.mk (below_drew1 HB.out)
            refine start_ (n := 16) (S := fun w' => w'.cell? ⟨gb379, 0, none⟩ = some (.int .i64 ((rd_T48 t375 x26_2).f0)) ∧ w'.cell? ⟨gb379, 1, none⟩ = some (.int .i64 ((rd_T48 t375 x26_2).f1))) (ds := []) #[false, false, false, false, false, false, false, false, false, false, false, false, false, false, false, false] (by kernel_rfl) rfl rfl ⟨(blk_cell BK379.out 0).trans rfl, (blk_cell BK379.out 1).trans rfl⟩ (fun hHeld => ?_); refine with_tabW mandolineref35_Units.tab9 mandolineref35_Units.bits9 (fun HT_ HW_ => ?_)
            generalize w33.drew = w34 at HO_7 HO_24 BK379 BK380 HB hHeld ⊢
            refine pS (i := 0) (N := some 41) (ma 16 1) rfl rfl HT_.out ?_
            refine pS (i := 2) (N := some 43) (ma 16 5) rfl rfl HT_.out ?_
            refine pS (i := 3) (N := some 44) (ma 16 13) rfl rfl HT_.out ?_
            refine pS (i := 5) (N := some 46) (ma 16 45) rfl rfl HT_.out ?_
            refine pS (i := 8) (N := some 49) (ma 16 301) rfl rfl HT_.out ?_
            refine pS (i := 11) (N := some 52) (ma 16 2349) rfl rfl HT_.out ?_
            refine tS (i := 1) (N := some 42) (ma 16 2351) rfl rfl HT_.out HW_.out hHeld ?_
            refine tS (i := 4) (N := some 45) (ma 16 2367) rfl rfl HT_.out HW_.out hHeld ?_
            refine pS (i := 6) (N := some 47) (ma 16 2431) rfl rfl HT_.out ?_
            refine pS (i := 7) (N := some 48) (ma 16 2559) rfl rfl HT_.out ?_
            refine pS (i := 9) (N := some 50) (ma 16 3071) rfl rfl HT_.out ?_
            refine pS (i := 10) (N := some 51) (ma 16 4095) rfl rfl HT_.out ?_
            refine one_ (i := 12) (N := some 53) (ma 16 8191) rfl rfl (one_of HT_.out (by kernel_rfl)) (by decide) (fun K hK => ?_)
            refine gO Try.func43 #[.int .i64 a1] rfl rfl ?_
            with_reducible refine (mandolineref35_end.calls a1 t381 _ A21.out).mono ?_
            rintro e w' ⟨rfl, ⟨nd, rfl⟩⟩
            refine ⟨_, rfl, ?_⟩
            refine hK.out _ _ ⟨(blk_cell BK379.out 0).trans rfl, (blk_cell BK379.out 1).trans rfl⟩ (fun hHeld => ?_)
            clear hK K
            refine nP (some 53) ?_
            refine pS (i := 13) (N := some 54) (ma 16 16383) rfl rfl HT_.out ?_
            refine pS (i := 14) (N := some 55) (ma 16 32767) rfl rfl HT_.out ?_
            refine one_ (i := 15) (N := none) (ma 16 65535) rfl rfl (one_of HT_.out (by kernel_rfl)) (by decide) (fun K hK => ?_)
            have hs35 : w34.cell? ⟨gb380, 1, none⟩ = some (.int .i64 4611686018427387904) := (blk_cell BK380.out 1).trans rfl
            have hfs35 := blk_frozen BK380.out 1
            have hns35_0 := NB379_380.out
            have hms35_0 := NB380_379.out
            refine skip_ (w1 := ?_) (by rfl) rfl ?_ ?_
            rotate_left
            ·go_simp
             rfl
            refine hK.out _ _ ⟨((cell_far (p := ⟨gb380, _, none⟩) NB379_380.out _).trans (hHeld.1)), ((cell_far (p := ⟨gb380, _, none⟩) NB379_380.out _).trans (hHeld.2))⟩ (fun hHeld => ?_)
            clear hK K
            refine done_ (done_of HT_.out (by kernel_rfl)) ?_
            obtain ⟨hcz36_0, hcz36_1⟩ := q2 BK380
            obtain ⟨hfz36_0, hfz36_1⟩ := z2 BK380
            try go_wp2_with (first | ((with_reducible refine gate_builtin (b := .append) (xs := #[.tmp 56, .tmp 58]) rfl ?_); at_builtin; refine Kd.R_append k48 (w0 := w) w.heap.size rfl (.tmp 56) (.tmp 58) 22 48 (.agg #[(.int .i64 0), (.int .i64 0)]) 16 rfl Try.underlying22 info48 rfl (by decide) (by omega) u7 x7_2 (⟨wrap64 (((rd_T48 t375 x26_2).f0) - (Int.tmod ((rd_T48 t375 x26_2).f0) a2)), ji22⟩ : S48) [.int .i64 (wrap64 (((rd_T48 t375 x26_2).f0) - (Int.tmod ((rd_T48 t375 x26_2).f0) a2))), .int .i64 ji22] (fun k_ => some k_ ≠ (.slice (some ad378) t375.length co15 : Value).ownBlock ∧ k_ ≠ gb379 ∧ k_ ≠ gb380) (fun _ => False) rfl (by first | (go_simp; done) | (go_simp; rfl)) ?aP (fun _ hk => hk.elim) ?aF ?aO ?aB ?aS ?aL ?_; (case aP => exact k48_mkM _ _ _ (⟨wrap64 (((rd_T48 t375 x26_2).f0) - (Int.tmod ((rd_T48 t375 x26_2).f0) a2)), ji22⟩ : S48)); (case aB => exact (lU HB)); (case aF => exact (fun k_ hk => ⟨Kd.fresh' (Kd.R_lt (rU ((Kd.R_mono (Kd.R_far (p := ⟨gb380, 1, none⟩) (Kd.R_mono HO_24.out (fun k_ hk => (⟨hk, hk.2.2⟩ : _ ∧ k_ ≠ gb380))) (fun _ hk => hk.2) (.int .i64 ji22)) (fun _ h_ => h_.1))))) k_ hk, Kd.freshB (g := gb379) (o := .cells #[.int .i64 ((rd_T48 t375 x26_2).f0), .int .i64 ((rd_T48 t375 x26_2).f1)] 48 (0, 0)) (bF BK379) k_ hk, Kd.freshB (g := gb380) (o := .cells #[.int .i64 (wrap64 (((rd_T48 t375 x26_2).f0) - (Int.tmod ((rd_T48 t375 x26_2).f0) a2))), .int .i64 ji22] 48 (0, 0)) (by (with_reducible repeat (first | refine blk_drewN ?_ _ | refine blk_drew ?_ | refine blk_alloc ?_ _)); refine blk_put (cs := #[.int .i64 (wrap64 (((rd_T48 t375 x26_2).f0) - (Int.tmod ((rd_T48 t375 x26_2).f0) a2))), .int .i64 4611686018427387904]) ?_ 1 _ rfl; (with_reducible repeat (first | refine blk_drewN ?_ _ | refine blk_drew ?_ | refine blk_alloc ?_ _)); exact BK380.out) k_ hk⟩)); (case aO => exact (rU (Kd.R_mono (Kd.R_far (p := ⟨gb380, 1, none⟩) (Kd.R_mono HO_7.out (fun k_ hk => (⟨hk, hk.2.2⟩ : _ ∧ k_ ≠ gb380))) (fun _ hk => hk.2) (.int .i64 ji22)) (fun _ hk => ⟨hk.1.1, ⟨hk.1.2.1, hk.1.2.2⟩⟩)))); (case aS => exact (below_size (lU HB))); (case aL => have := LMc23.out; omega); intro v383 w37 ho hb hg hat; rw [← Ny382.out] at ho; have HO384 := Aside0.mk (ho); replace HO_24 := Aside0.mk (Kd.R_after (ok := (fun k_ => k_ ≠ gb379 ∧ k_ ≠ gb380)) (rU (Kd.R_mono (Kd.R_far (p := ⟨gb380, 1, none⟩) (Kd.R_mono HO_24.out (fun k_ hk => (⟨hk, hk.2.2⟩ : _ ∧ k_ ≠ gb380))) (fun _ hk => hk.2) (.int .i64 ji22)) (fun _ hk => ⟨⟨hk.1.2.1, hk.1.2.2⟩, hk.1.1⟩))) hg hat); replace BK379 := Aside0.mk (blk_grown (g := gb379) (o := .cells #[.int .i64 ((rd_T48 t375 x26_2).f0), .int .i64 ((rd_T48 t375 x26_2).f1)] 48 (0, 0)) (bF BK379) hg (Kd.R_away HO_7.out (fun _ hk => hk.2.1))); replace BK380 := Aside0.mk (blk_grown (g := gb380) (o := .cells #[.int .i64 (wrap64 (((rd_T48 t375 x26_2).f0) - (Int.tmod ((rd_T48 t375 x26_2).f0) a2))), .int .i64 ji22] 48 (0, 0)) (by (with_reducible repeat (first | refine blk_drewN ?_ _ | refine blk_drew ?_ | refine blk_alloc ?_ _)); refine blk_put (cs := #[.int .i64 (wrap64 (((rd_T48 t375 x26_2).f0) - (Int.tmod ((rd_T48 t375 x26_2).f0) a2))), .int .i64 4611686018427387904]) ?_ 1 _ rfl; (with_reducible repeat (first | refine blk_drewN ?_ _ | refine blk_drew ?_ | refine blk_alloc ?_ _)); exact BK380.out) hg (Kd.R_away HO_7.out (fun _ hk => hk.2.2))); replace HB := Aside0.mk (hb); clear HO_7; clear ho hb hg hat))
            go_roundg k2
            case measure => have := HJ3.out; have := HK2.out; omega
            case rel => exact ⟨(y382), (wrap64 (x26_2 + 1)), eR, H', ⟨by have := HJ3.out; have := HK2.out; omega⟩, ⟨rU (Kd.R_mono HO384.out (fun _ hk => hk.1))⟩, ⟨rU (Kd.R_mono HO_24.out (fun _ hk => hk.2))⟩, ⟨lU HB⟩⟩
           ·rw [if_neg c23] at H
            exact absurd H (by simp)
          ·rw [if_neg c20] at H
           have c20b0 : decide (((rd_T48 t375 x26_2).f1) < 4611686018427387904) = false := decide_eq_false c20
           clear c20
           by_cases c38 : x7_2.length < 8796093022208
           ·rw [if_pos c38] at H
            have LMc38 := Aside0.mk c38
            clear c38
            obtain ⟨y385, hy385⟩ : ∃ y_ : List (S48), y_ = (x7_2 ++ [(⟨wrap64 (((rd_T48 t375 x26_2).f0) - (Int.tmod ((rd_T48 t375 x26_2).f0) a2)), 4611686018427387904⟩ : S48)]) := ⟨_, rfl⟩
            replace H : (mandolineref35_Units.l0 k2 a1 a2 y385 t375 (t375.length : Int) (wrap64 (x26_2 + 1))) = some r := by first | (rw [hy385]; with_reducible exact H) | (have H2_ := (Option.bind_some _ _).symm.trans H; rw [hy385]; with_reducible exact H2_) | (have H2_ := (Option.bind_some _ _).symm.trans H; with_reducible exact H2_) | with_reducible exact H | (rw [hy385]; exact H) | exact H
            have Ny385 := Aside0.mk hy385
            clear hy385
            have H' := Aside0.mk H
            clear H
            have p378 : 0 ≤ (x26_2 : Int) := of_decide_eq_true (by first | (with_reducible assumption) | assumption)
            have q378 : x26_2 < (t375.length : Int) := of_decide_eq_true (by first | (with_reducible assumption) | assumption)
            obtain ⟨ad378, e378, hx378_0, hx378_1⟩ := at_T48 (rC HO_24) x26_2 p378 q378
            cases e378
            replace p378 := eq_true p378
            replace q378 := eq_true q378
            try go_wp2_with (first | ((with_reducible refine gate_dst (N := 9) rfl ?_); refine bX (N := 9) (cs := #[.int .i64 0, .int .i64 0]) (t := 48) ?_; intro gb379 hg w39 hbox hb; have BK379 := Aside0.mk (hbox); have GE379 := sG HB hg; replace HO_7 := Aside0.mk (Kd.R_below (Kd.R_elderB (rU HO_7.out) gb379 (Nat.le_of_eq hg.symm)) hb); replace HO_24 := Aside0.mk (Kd.R_below (Kd.R_elderB (rU HO_24.out) gb379 (Nat.le_of_eq hg.symm)) hb); replace HB := sL HB hb; clear hb hbox hg; obtain ⟨hcz40_0, hcz40_1⟩ := q2 BK379; obtain ⟨hfz40_0, hfz40_1⟩ := z2 BK379))
            have n0_ : Aside0 (Kd.R k48 48 ((w39.setCell ⟨gb379, 0, none⟩ (.int .i64 ((rd_T48 t375 x26_2).f0))).setCell ⟨gb379, 1, none⟩ (.int .i64 ((rd_T48 t375 x26_2).f1))) w.heap.size (fun k_ => some k_ ≠ (.slice (some ad378) t375.length co15 : Value).ownBlock ∧ k_ ≠ gb379) u7 x7_2) := ⟨rU (Kd.R_mono (Kd.R_far (p := ⟨gb379, 1, none⟩) (Kd.R_far (p := ⟨gb379, 0, none⟩) (Kd.R_mono HO_7.out (fun k_ hk => (⟨hk, hk.2⟩ : _ ∧ k_ ≠ gb379))) (fun _ hk => hk.2) (.int .i64 ((rd_T48 t375 x26_2).f0))) (fun _ hk => hk.2) (.int .i64 ((rd_T48 t375 x26_2).f1))) (fun _ hk => ⟨hk.1.1, hk.1.2⟩))⟩
            have n1_ : Aside0 (Kd.R k48 48 ((w39.setCell ⟨gb379, 0, none⟩ (.int .i64 ((rd_T48 t375 x26_2).f0))).setCell ⟨gb379, 1, none⟩ (.int .i64 ((rd_T48 t375 x26_2).f1))) w.heap.size (fun k_ => some k_ ≠ (u7 : Value).ownBlock ∧ k_ ≠ gb379) (.slice (some ad378) t375.length co15) t375) := ⟨rU (Kd.R_mono (Kd.R_far (p := ⟨gb379, 1, none⟩) (Kd.R_far (p := ⟨gb379, 0, none⟩) (Kd.R_mono HO_24.out (fun k_ hk => (⟨hk, hk.2⟩ : _ ∧ k_ ≠ gb379))) (fun _ hk => hk.2) (.int .i64 ((rd_T48 t375 x26_2).f0))) (fun _ hk => hk.2) (.int .i64 ((rd_T48 t375 x26_2).f1))) (fun _ hk => ⟨hk.1.1, hk.1.2⟩))⟩
            have n2_ : Aside0 (((w39.setCell ⟨gb379, 0, none⟩ (.int .i64 ((rd_T48 t375 x26_2).f0))).setCell ⟨gb379, 1, none⟩ (.int .i64 ((rd_T48 t375 x26_2).f1))).heap[gb379]? = some (.cells #[.int .i64 ((rd_T48 t375 x26_2).f0), .int .i64 ((rd_T48 t375 x26_2).f1)] 48 (0, 0))) := ⟨by (with_reducible repeat (first | refine blk_drewN ?_ _ | refine blk_drew ?_ | refine blk_alloc ?_ _)); refine blk_put (cs := #[.int .i64 ((rd_T48 t375 x26_2).f0), .int .i64 0]) ?_ 1 _ rfl; (with_reducible repeat (first | refine blk_drewN ?_ _ | refine blk_drew ?_ | refine blk_alloc ?_ _)); refine blk_put (cs := #[.int .i64 0, .int .i64 0]) ?_ 0 _ rfl; (with_reducible repeat (first | refine blk_drewN ?_ _ | refine blk_drew ?_ | refine blk_alloc ?_ _)); exact BK379.out⟩
            have n3_ : Aside0 (Below w.heap.size w ((w39.setCell ⟨gb379, 0, none⟩ (.int .i64 ((rd_T48 t375 x26_2).f0))).setCell ⟨gb379, 1, none⟩ (.int .i64 ((rd_T48 t375 x26_2).f1)))) := ⟨lU HB⟩
            (try clear HO_7)
            (try clear HO_24)
            (try clear BK379)
            (try clear HB)
            generalize ((w39.setCell ⟨gb379, 0, none⟩ (.int .i64 ((rd_T48 t375 x26_2).f0))).setCell ⟨gb379, 1, none⟩ (.int .i64 ((rd_T48 t375 x26_2).f1))) = w41 at n0_ n1_ n2_ n3_ ⊢
            have HO_7 := n0_
            have HO_24 := n1_
            have BK379 := n2_
            have HB := n3_
            clear n0_ n1_ n2_ n3_
            replace HO_7 := Aside0.mk (Kd.R_drew HO_7.out)
            replace HO_24 := Aside0.mk (Kd.R_drew HO_24.out)
            replace BK379 := Aside0.mk (blk_drew BK379.out)
            replace HB := Aside0.mk (below_drew1 HB.out)
            refine start_ (n := 10) (S := fun w' => w'.cell? ⟨gb379, 0, none⟩ = some (.int .i64 ((rd_T48 t375 x26_2).f0)) ∧ w'.cell? ⟨gb379, 1, none⟩ = some (.int .i64 ((rd_T48 t375 x26_2).f1))) (ds := []) #[false, false, false, false, false, false, false, false, false, false] (by kernel_rfl) rfl rfl ⟨(blk_cell BK379.out 0).trans rfl, (blk_cell BK379.out 1).trans rfl⟩ (fun hHeld => ?_); refine with_tabW mandolineref35_Units.tab7 mandolineref35_Units.bits7 (fun HT_ HW_ => ?_)
            generalize w41.drew = w42 at HO_7 HO_24 BK379 HB hHeld ⊢
            refine pS (i := 0) (N := some 30) (ma 10 1) rfl rfl HT_.out ?_
            refine pS (i := 2) (N := some 32) (ma 10 5) rfl rfl HT_.out ?_
            refine pS (i := 4) (N := some 34) (ma 10 21) rfl rfl HT_.out ?_
            refine tS (i := 1) (N := some 31) (ma 10 23) rfl rfl HT_.out HW_.out hHeld ?_
            refine tS (i := 3) (N := some 33) (ma 10 31) rfl rfl HT_.out HW_.out hHeld ?_
            refine pS (i := 5) (N := some 35) (ma 10 63) rfl rfl HT_.out ?_
            refine pS (i := 6) (N := some 36) (ma 10 127) rfl rfl HT_.out ?_
            refine pS (i := 7) (N := some 37) (ma 10 255) rfl rfl HT_.out ?_
            refine one_ (i := 8) (N := some 10) (ma 10 511) rfl rfl (one_of HT_.out (by kernel_rfl)) (by decide) (fun K hK => ?_)
            refine bY (N := 10) (cs := #[.int .i64 0, .int .i64 0]) (t := 48) ?_
            intro gb380 hg w43 hbox hb
            have BK380 := Aside0.mk (hbox)
            have GE380 := sG HB hg
            have NB379_380 := sN BK379 hg
            have NB380_379 := sM BK379 hg
            replace HO_7 := Aside0.mk (Kd.R_below (Kd.R_elderB (rU HO_7.out) gb380 (Nat.le_of_eq hg.symm)) hb)
            replace HO_24 := Aside0.mk (Kd.R_below (Kd.R_elderB (rU HO_24.out) gb380 (Nat.le_of_eq hg.symm)) hb)
            replace BK379 := sB BK379 hb
            replace HB := sL HB hb
            clear hb hbox hg
            refine hK.out _ _ ⟨(blk_cell BK379.out 0).trans rfl, (blk_cell BK379.out 1).trans rfl⟩ (fun hHeld => ?_)
            clear hK K
            refine nP (some 10) ?_
            refine one_ (i := 9) (N := none) (ma 10 1023) rfl rfl (one_of HT_.out (by kernel_rfl)) (by decide) (fun K hK => ?_)
            have hs44 : w43.cell? ⟨gb380, 0, none⟩ = some (.int .i64 0) := (blk_cell BK380.out 0).trans rfl
            have hfs44 := blk_frozen BK380.out 0
            have hns44_0 := NB379_380.out
            have hms44_0 := NB380_379.out
            have hs45 : w43.cell? ⟨gb380, 1, none⟩ = some (.int .i64 0) := (blk_cell BK380.out 1).trans rfl
            have hfs45 := blk_frozen BK380.out 1
            have hns45_0 := NB379_380.out
            have hms45_0 := NB380_379.out
            refine skip_ (w1 := ?_) (by rfl) rfl ?_ ?_
            rotate_left
            ·go_simp
             rfl
            refine hK.out _ _ ⟨((cell_far (p := ⟨gb380, _, none⟩) NB379_380.out _).trans (((cell_far (p := ⟨gb380, _, none⟩) NB379_380.out _).trans (hHeld.1)))), ((cell_far (p := ⟨gb380, _, none⟩) NB379_380.out _).trans (((cell_far (p := ⟨gb380, _, none⟩) NB379_380.out _).trans (hHeld.2))))⟩ (fun hHeld => ?_)
            clear hK K
            refine done_ (done_of HT_.out (by kernel_rfl)) ?_
            have hnb46 := NB379_380.out
            have hnc46 := NB380_379.out
            obtain ⟨hcz47_0, hcz47_1⟩ := q2 BK379
            obtain ⟨hfz47_0, hfz47_1⟩ := z2 BK379
            obtain ⟨hcz48_0, hcz48_1⟩ := q2 BK380
            obtain ⟨hfz48_0, hfz48_1⟩ := z2 BK380
            try go_wp2_with (first | ((with_reducible refine gate_builtin (b := .append) (xs := #[.tmp 56, .tmp 58]) rfl ?_); at_builtin; refine Kd.R_append k48 (w0 := w) w.heap.size rfl (.tmp 56) (.tmp 58) 22 48 (.agg #[(.int .i64 0), (.int .i64 0)]) 16 rfl Try.underlying22 info48 rfl (by decide) (by omega) u7 x7_2 (⟨wrap64 (((rd_T48 t375 x26_2).f0) - (Int.tmod ((rd_T48 t375 x26_2).f0) a2)), 4611686018427387904⟩ : S48) [.int .i64 (wrap64 (((rd_T48 t375 x26_2).f0) - (Int.tmod ((rd_T48 t375 x26_2).f0) a2))), .int .i64 4611686018427387904] (fun k_ => some k_ ≠ (.slice (some ad378) t375.length co15 : Value).ownBlock ∧ k_ ≠ gb379 ∧ k_ ≠ gb380) (fun _ => False) rfl (by first | (go_simp; done) | (go_simp; rfl)) ?aP (fun _ hk => hk.elim) ?aF ?aO ?aB ?aS ?aL ?_; (case aP => exact k48_mkM _ _ _ (⟨wrap64 (((rd_T48 t375 x26_2).f0) - (Int.tmod ((rd_T48 t375 x26_2).f0) a2)), 4611686018427387904⟩ : S48)); (case aB => exact (lU HB)); (case aF => exact (fun k_ hk => ⟨Kd.fresh' (Kd.R_lt (rU ((Kd.R_mono (Kd.R_far (p := ⟨gb380, 1, none⟩) (Kd.R_far (p := ⟨gb380, 0, none⟩) (Kd.R_mono HO_24.out (fun k_ hk => (⟨hk, hk.2⟩ : _ ∧ k_ ≠ gb380))) (fun _ hk => hk.2) (.int .i64 (wrap64 (((rd_T48 t375 x26_2).f0) - (Int.tmod ((rd_T48 t375 x26_2).f0) a2))))) (fun _ hk => hk.2) (.int .i64 4611686018427387904)) (fun _ h_ => h_.1))))) k_ hk, Kd.freshB (g := gb379) (o := .cells #[.int .i64 ((rd_T48 t375 x26_2).f0), .int .i64 ((rd_T48 t375 x26_2).f1)] 48 (0, 0)) (bF BK379) k_ hk, Kd.freshB (g := gb380) (o := .cells #[.int .i64 (wrap64 (((rd_T48 t375 x26_2).f0) - (Int.tmod ((rd_T48 t375 x26_2).f0) a2))), .int .i64 4611686018427387904] 48 (0, 0)) (by (with_reducible repeat (first | refine blk_drewN ?_ _ | refine blk_drew ?_ | refine blk_alloc ?_ _)); refine blk_put (cs := #[.int .i64 (wrap64 (((rd_T48 t375 x26_2).f0) - (Int.tmod ((rd_T48 t375 x26_2).f0) a2))), .int .i64 0]) ?_ 1 _ rfl; (with_reducible repeat (first | refine blk_drewN ?_ _ | refine blk_drew ?_ | refine blk_alloc ?_ _)); refine blk_put (cs := #[.int .i64 0, .int .i64 0]) ?_ 0 _ rfl; (with_reducible repeat (first | refine blk_drewN ?_ _ | refine blk_drew ?_ | refine blk_alloc ?_ _)); exact BK380.out) k_ hk⟩)); (case aO => exact (rU (Kd.R_mono (Kd.R_far (p := ⟨gb380, 1, none⟩) (Kd.R_far (p := ⟨gb380, 0, none⟩) (Kd.R_mono HO_7.out (fun k_ hk => (⟨hk, hk.2⟩ : _ ∧ k_ ≠ gb380))) (fun _ hk => hk.2) (.int .i64 (wrap64 (((rd_T48 t375 x26_2).f0) - (Int.tmod ((rd_T48 t375 x26_2).f0) a2))))) (fun _ hk => hk.2) (.int .i64 4611686018427387904)) (fun _ hk => ⟨hk.1.1.1, ⟨hk.1.1.2, hk.1.2⟩⟩)))); (case aS => exact (below_size (lU HB))); (case aL => have := LMc38.out; omega); intro v386 w49 ho hb hg hat; rw [← Ny385.out] at ho; have HO387 := Aside0.mk (ho); replace HO_24 := Aside0.mk (Kd.R_after (ok := (fun k_ => k_ ≠ gb379 ∧ k_ ≠ gb380)) (rU (Kd.R_mono (Kd.R_far (p := ⟨gb380, 1, none⟩) (Kd.R_far (p := ⟨gb380, 0, none⟩) (Kd.R_mono HO_24.out (fun k_ hk => (⟨hk, hk.2⟩ : _ ∧ k_ ≠ gb380))) (fun _ hk => hk.2) (.int .i64 (wrap64 (((rd_T48 t375 x26_2).f0) - (Int.tmod ((rd_T48 t375 x26_2).f0) a2))))) (fun _ hk => hk.2) (.int .i64 4611686018427387904)) (fun _ hk => ⟨⟨hk.1.1.2, hk.1.2⟩, hk.1.1.1⟩))) hg hat); replace BK379 := Aside0.mk (blk_grown (g := gb379) (o := .cells #[.int .i64 ((rd_T48 t375 x26_2).f0), .int .i64 ((rd_T48 t375 x26_2).f1)] 48 (0, 0)) (bF BK379) hg (Kd.R_away HO_7.out (fun _ hk => hk.1.2))); replace BK380 := Aside0.mk (blk_grown (g := gb380) (o := .cells #[.int .i64 (wrap64 (((rd_T48 t375 x26_2).f0) - (Int.tmod ((rd_T48 t375 x26_2).f0) a2))), .int .i64 4611686018427387904] 48 (0, 0)) (by (with_reducible repeat (first | refine blk_drewN ?_ _ | refine blk_drew ?_ | refine blk_alloc ?_ _)); refine blk_put (cs := #[.int .i64 (wrap64 (((rd_T48 t375 x26_2).f0) - (Int.tmod ((rd_T48 t375 x26_2).f0) a2))), .int .i64 0]) ?_ 1 _ rfl; (with_reducible repeat (first | refine blk_drewN ?_ _ | refine blk_drew ?_ | refine blk_alloc ?_ _)); refine blk_put (cs := #[.int .i64 0, .int .i64 0]) ?_ 0 _ rfl; (with_reducible repeat (first | refine blk_drewN ?_ _ | refine blk_drew ?_ | refine blk_alloc ?_ _)); exact BK380.out) hg (Kd.R_away HO_7.out (fun _ hk => hk.2))); replace HB := Aside0.mk (hb); clear HO_7; clear ho hb hg hat))
            go_roundg k2
            case measure => have := HJ3.out; have := HK2.out; omega
            case rel => exact ⟨(y385), (wrap64 (x26_2 + 1)), eR, H', ⟨by have := HJ3.out; have := HK2.out; omega⟩, ⟨rU (Kd.R_mono HO387.out (fun _ hk => hk.1))⟩, ⟨rU (Kd.R_mono HO_24.out (fun _ hk => hk.2))⟩, ⟨lU HB⟩⟩
           ·rw [if_neg c38] at H
            exact absurd H (by simp)
        ·rw [if_neg c18] at H
         exact absurd H (by simp)
       ·rw [if_neg c17] at H
        exact absurd H (by simp)
      ·rw [if_neg c16] at H
       have c16b0 : decide (x26_2 < (t375.length : Int)) = false := decide_eq_false c16
       clear c16
       obtain ⟨t388, A50, H⟩ := bO H
       obtain rfl := Option.some.inj H
       obtain ⟨Ao51, co51, eo51⟩ := Kd.R_slice HO_7.out
       subst eo51
       go_wp2_with (first | ((with_reducible refine gate_callee (f := 15) rfl ?_); refine gL (some 62) rfl rfl Try.func15 #[.slice Ao51 x7_2.length co51] rfl ?_; (with_reducible refine (mandolineref02_Of.calls k2 _ _ x7_2 t388 _ (cU (rC HO_7)) (rN HO_7) A50.out).mono ?_); rintro e w52 ⟨v389, rfl, ho0, hb⟩; refine ⟨_, rfl, ?_⟩; have HO390 := Aside0.mk (Kd.R_lower (Kd.R_new' (Kd.R_new' ho0 (Kd.R_lt (rU HO_7.out))) (Kd.R_lt (rU HO_24.out))) (below_size (lU HB))); replace HO_7 := rE HO_7 ho0 hb; replace HO_24 := rE HO_24 ho0 hb; replace HB := sL HB hb; (try clear hb); (try clear hb2); (try clear hk); (try clear hi); (try clear ho0)))
       go_ret
       exact ⟨_, eW, by (with_reducible repeat (first | apply Kd.R_alloc | apply Kd.R_drewN | apply Kd.R_drew)); exact Kd.R_mono HO390.out (fun _ hk => trivial), lU HB⟩
end Go.Proofs.Ytnaalaakhdbfbaa.XP
