-- Go functions as plain functions, and that the code comes to these answers (printed by a program).
import Derived.Test.YtnaalaakhdbfbaaV4XP0
import Derived.Test.YtnaalaakhdbfbaaV4XP13
import Derived.Test.YtnaalaakhdbfbaaV4XP14
namespace Go.Proofs.Ytnaalaakhdbfbaa.XP
open Go.RowKit Go.Proofs.YtnaalaakhdbfbaaW.PrintWords Go.Proofs.YtnaalaakhdbfbaaW.PrintLast Go.Proofs.YtnaalaakhdbfbaaW.PrintMore
attribute [local go_sem] max2_int min2_int max_two min_two max_three min_three max_four min_four
set_option linter.unusedVariables false
set_option linter.unusedSimpArgs false
mutual
def mandolineref02_of.l0 : Nat → List (S48) → List (S48) → Int → List (S48) → List Int → Int → Option ((List (S48)))
 | 0, _, _, _, _, _, _ => none
 | k + 1, x0, x1, x2, x7, x8, x9 => if (wrap64 (x9 + 1)) < (x8.length : Int) then (if 0 ≤ x9 then (if x9 < (x8.length : Int) then ((mandolineref02_In.f k x0 (rd x8 x9)).bind fun t346 => ((mandolineref02_In.f k x1 (rd x8 x9)).bind fun t348 => (if x2 = 1 then (if t346 = true then (mandolineref02_of.j1 k x0 x1 x2 x7 x8 x9 true) else (if t348 = true then (mandolineref02_of.j1 k x0 x1 x2 x7 x8 x9 true) else (if x2 = 2 then (if x2 = 3 then (mandolineref02_of.j1 k x0 x1 x2 x7 x8 x9 false) else (mandolineref02_of.j1 k x0 x1 x2 x7 x8 x9 false)) else (if x2 = 3 then (mandolineref02_of.j1 k x0 x1 x2 x7 x8 x9 false) else (mandolineref02_of.j1 k x0 x1 x2 x7 x8 x9 false))))) else (if x2 = 2 then (if t346 = true then (if t348 = true then (mandolineref02_of.j1 k x0 x1 x2 x7 x8 x9 true) else (if x2 = 3 then (mandolineref02_of.j1 k x0 x1 x2 x7 x8 x9 (!t348)) else (mandolineref02_of.j1 k x0 x1 x2 x7 x8 x9 false))) else (if x2 = 3 then (mandolineref02_of.j1 k x0 x1 x2 x7 x8 x9 false) else (mandolineref02_of.j1 k x0 x1 x2 x7 x8 x9 false))) else (if x2 = 3 then (if t346 = true then (mandolineref02_of.j1 k x0 x1 x2 x7 x8 x9 (!t348)) else (mandolineref02_of.j1 k x0 x1 x2 x7 x8 x9 false)) else (mandolineref02_of.j1 k x0 x1 x2 x7 x8 x9 false)))))) else (none)) else (none)) else (some x7)
def mandolineref02_of.j1 : Nat → List (S48) → List (S48) → Int → List (S48) → List Int → Int → Bool → Option ((List (S48)))
 | 0, _, _, _, _, _, _, _ => none
 | k + 1, x0, x1, x2, x7, x8, x9, x12 => if x12 = true then (if (wrap64 ((x7.length : Int) - 1)) ≥ 0 then (if 0 ≤ (wrap64 ((x7.length : Int) - 1)) then (if (wrap64 ((x7.length : Int) - 1)) < (x7.length : Int) then (if 0 ≤ x9 then (if x9 < (x8.length : Int) then (if ((rd_T48 x7 (wrap64 ((x7.length : Int) - 1))).f1) = (rd x8 x9) then (if 0 ≤ (wrap64 (x9 + 1)) then (if (wrap64 (x9 + 1)) < (x8.length : Int) then (mandolineref02_of.l0 k x0 x1 x2 (x7.set ((wrap64 ((x7.length : Int) - 1)) : Int).toNat (⟨(rd_T48 x7 (wrap64 ((x7.length : Int) - 1))).f0, rd x8 (wrap64 (x9 + 1))⟩ : S48)) x8 (wrap64 (x9 + 1))) else (none)) else (none)) else (if 0 ≤ (wrap64 (x9 + 1)) then (if (wrap64 (x9 + 1)) < (x8.length : Int) then (if x7.length < 8796093022208 then (mandolineref02_of.l0 k x0 x1 x2 (x7 ++ [(⟨rd x8 x9, rd x8 (wrap64 (x9 + 1))⟩ : S48)]) x8 (wrap64 (x9 + 1))) else (none)) else (none)) else (none))) else (none)) else (none)) else (none)) else (none)) else (if 0 ≤ x9 then (if x9 < (x8.length : Int) then (if 0 ≤ (wrap64 (x9 + 1)) then (if (wrap64 (x9 + 1)) < (x8.length : Int) then (if x7.length < 8796093022208 then (mandolineref02_of.l0 k x0 x1 x2 (x7 ++ [(⟨rd x8 x9, rd x8 (wrap64 (x9 + 1))⟩ : S48)]) x8 (wrap64 (x9 + 1))) else (none)) else (none)) else (none)) else (none)) else (none))) else (mandolineref02_of.l0 k x0 x1 x2 x7 x8 (wrap64 (x9 + 1)))
end
def mandolineref02_of.f (k : Nat) (l0 : List (S48)) (l1 : List (S48)) (a2 : Int) : Option ((List (S48))) := (mandolineref02_ends.f k l0 l1).bind fun t342 => (mandolineref02_of.l0 k l0 l1 a2 ([] : List (S48)) t342 0)
def mandolineref02_of.T6 : Bool × List (List Nat × List Nat) := (true, [([], []), ([], []), ([], []), ([1, 2], [1, 2]), ([3], [3]), ([0, 4], [0, 4]), ([], []), ([], []), ([], []), ([7, 8], [7, 8]), ([9], [9]), ([6, 10, 5], [6, 10]), ([5, 11, 0, 1, 2, 3, 4, 5], [5]), ([11, 12, 0, 1, 2, 3, 4, 5, 6, 7, 8, 9, 10, 11, 12], [11])])
def mandolineref02_of.B6 : List Nat := [0, 0, 0, 6, 14, 31, 0, 0, 0, 384, 896, 2047, 4095, 8191]
theorem mandolineref02_of.tab6 : rtab .any (opsOf Try.f39 6) = mandolineref02_of.T6 := by kernel_rfl
theorem mandolineref02_of.bits6 : waitsOk mandolineref02_of.T6.2 mandolineref02_of.B6 = true := by kernel_rfl
def mandolineref02_of.T10 : Bool × List (List Nat × List Nat) := (true, [([], []), ([0], [0]), ([1], [1]), ([2], [2]), ([2], [2]), ([3, 4, 2], [2, 3, 4]), ([5, 2], [2, 5]), ([6, 2], [2, 6]), ([2], [2]), ([2], [2]), ([8, 9, 2], [2, 8, 9]), ([10, 2], [2, 10]), ([7, 11, 2], [2, 7, 11]), ([2, 12], [2, 12])])
def mandolineref02_of.B10 : List Nat := [0, 1, 3, 7, 7, 31, 63, 127, 7, 7, 775, 1799, 4095, 8191]
theorem mandolineref02_of.tab10 : rtab .any (opsOf Try.f39 10) = mandolineref02_of.T10 := by kernel_rfl
theorem mandolineref02_of.bits10 : waitsOk mandolineref02_of.T10.2 mandolineref02_of.B10 = true := by kernel_rfl
def mandolineref02_of.T12 : Bool × List (List Nat × List Nat) := (true, [([], []), ([], []), ([], []), ([1, 2], [1, 2]), ([3], [3]), ([], []), ([], []), ([6], [6]), ([5, 7], [5, 7]), ([8], [8]), ([4, 9], [4, 9]), ([10], [10]), ([0, 11], [0, 11]), ([12, 12, 0, 1, 2, 3, 4, 5, 6, 7, 8, 9, 10, 11, 12], [0, 12])])
def mandolineref02_of.B12 : List Nat := [0, 0, 0, 6, 14, 0, 0, 64, 224, 480, 1022, 2046, 4095, 8191]
theorem mandolineref02_of.tab12 : rtab .any (opsOf Try.f39 12) = mandolineref02_of.T12 := by kernel_rfl
theorem mandolineref02_of.bits12 : waitsOk mandolineref02_of.T12.2 mandolineref02_of.B12 = true := by kernel_rfl
set_option maxHeartbeats 8000000 in
set_option maxRecDepth 100000 in
theorem mandolineref02_of.calls (k : Nat) (A0 : Option Addr) (c0 : Nat) (l0 : List (S48)) (A1 : Option Addr) (c1 : Nat) (l1 : List (S48)) (a2 : Int) (r : List (S48)) (w : World) (hr0 : Kd.C k48 w A0 l0.length l0) (hc0 : l0.length ≤ c0) (hr1 : Kd.C k48 w A1 l1.length l1) (hc1 : l1.length ≤ c1) (h : mandolineref02_of.f k l0 l1 a2 = some r) :
  Calls Try.prog 39 #[.slice A0 l0.length c0, .slice A1 l1.length c1, .int .i64 a2] w fun e w' => ∃ v0_ : Value, e = .returned (v0_) ∧ Kd.R k48 48 w' w.heap.size (fun _ => True) v0_ r ∧ Below w.heap.size w w' := by
 have hu48 := Try.underlying48
 have HR0 := Aside0.mk hr0
 have HC0 := Aside0.mk hc0
 clear hr0 hc0
 have HR1 := Aside0.mk hr1
 have HC1 := Aside0.mk hc1
 clear hr1 hc1
 have HB := Aside0.mk (Below.refl w.heap.size w)
 unfold mandolineref02_of.f at h
 have H := h
 clear h
 obtain ⟨t342, A4, H⟩ := bO H
 have H' := Aside0.mk H
 clear H
 go_enter Try.func39, Try.ntmps39
 go_wp2_with (first | ((with_reducible refine gate_callee (f := 62) rfl ?_); refine gL (some 16) rfl rfl Try.func62 #[.slice A0 l0.length c0, .slice A1 l1.length c1] rfl ?_; (with_reducible refine (mandolineref02_ends.calls k _ _ l0 _ _ l1 t342 _ (cU HR0.out) HC0.out (cU HR1.out) HC1.out A4.out).mono ?_); rintro e w5 ⟨v343, rfl, ho0, hb⟩; refine ⟨_, rfl, ?_⟩; have HO344 := Aside0.mk (Kd.R_lower ho0 (below_size (lU HB))); replace HB := sL HB hb; (try clear hb); (try clear hb2); (try clear hk); (try clear hi); (try clear ho0)))
 go_loopg [7, 9] k (fun kq v7 v9 w' => ∃ (x7_1 : List (S48)) (x9_1 : Int), v9 = .int .i64 x9_1 ∧ Aside0 (mandolineref02_of.l0 kq l0 l1 a2 x7_1 t342 x9_1 = some r) ∧ Aside0 (kq ≤ k) ∧ Aside0 (Kd.R k48 48 w' w.heap.size (fun _ => True) v7 x7_1) ∧ Aside0 (Kd.R (Kd.int .i64) 2 w' w.heap.size (fun _ => True) v343 t342) ∧ Aside0 (Below w.heap.size w w'))
 case atStart => exact ⟨(([] : List (S48))), (0), eR, H', ⟨Nat.le_refl _⟩, ⟨by first | exact Kd.R_nil _ _ _ _ _ | exact Kd.N_nil _ _ _ _ _ | exact Kd.V_nil _ _ _ _ _ | exact Kd.Q_nil _ _ _ _ _ | exact Kd.S_nil _ _ _ _ _⟩, ⟨rU HO344.out⟩, ⟨lU HB⟩⟩
 case round =>
  clear H'
  try clear c1
  try clear p2
  try clear c3
  obtain ⟨x7_1, x9_1, rfl, HA, HK1, HO_7, HO_8, HB⟩ := hrel
  cases gk with
  | zero => exact absurd HA.out (by simp [mandolineref02_of.l0])
  | succ k1 =>
   have H := HA.out
   clear HA
   simp only [mandolineref02_of.l0] at H
   by_cases c6 : (wrap64 (x9_1 + 1)) < (t342.length : Int)
   ·rw [if_pos c6] at H
    have c6b0 : decide ((wrap64 (x9_1 + 1)) < (t342.length : Int)) = true := decide_eq_true c6
    clear c6
    by_cases c7 : 0 ≤ x9_1
    ·rw [if_pos c7] at H
     have c7b0 : decide (0 ≤ x9_1) = true := decide_eq_true c7
     clear c7
     by_cases c8 : x9_1 < (t342.length : Int)
     ·rw [if_pos c8] at H
      have c8b0 : decide (x9_1 < (t342.length : Int)) = true := decide_eq_true c8
      clear c8
      obtain ⟨t346, A9, H⟩ := bO H
      obtain ⟨t348, A10, H⟩ := bO H
      have HC11 := Aside0.mk H
      clear H
      obtain ⟨Ao12, co12, eo12⟩ := Kd.R_slice HO_8.out
      subst eo12
      try go_wp2
      replace HO_7 := Aside0.mk (Kd.R_drew HO_7.out)
      replace HO_8 := Aside0.mk (Kd.R_drew HO_8.out)
      replace HB := Aside0.mk (below_drew1 HB.out)
      have p345 : 0 ≤ (x9_1 : Int) := of_decide_eq_true (by first | (with_reducible assumption) | assumption)
      have q345 : x9_1 < (t342.length : Int) := of_decide_eq_true (by first | (with_reducible assumption) | assumption)
      obtain ⟨ad345, e345, hx345_0⟩ := Kd.at_int (rC HO_8) x9_1 p345 q345
      cases e345
      replace p345 := eq_true p345
      replace q345 := eq_true q345
      have p347 : 0 ≤ (x9_1 : Int) := of_decide_eq_true (by first | (with_reducible assumption) | assumption)
      have q347 : x9_1 < (t342.length : Int) := of_decide_eq_true (by first | (with_reducible assumption) | assumption)
      obtain ⟨ad347, e347, hx347_0⟩ := Kd.at_int (rC HO_8) x9_1 p347 q347
      obtain rfl : ad345 = ad347 := (by injection e347)
      replace p347 := eq_true p347
      replace q347 := eq_true q347
      refine start_ (n := 14) (S := fun w' => w'.cell? (ad345.add (x9_1).toNat) = some (.int .i64 (rd t342 x9_1)) ∧ w'.cell? (ad345.add (x9_1).toNat) = some (.int .i64 (rd t342 x9_1))) (ds := []) #[false, false, false, false, false, false, false, false, false, false, false, false, false, false] (by kernel_rfl) rfl rfl ⟨hx345_0, hx347_0⟩ (fun hHeld => ?_); refine with_tabW mandolineref02_of.tab6 mandolineref02_of.bits6 (fun HT_ HW_ => ?_)
      generalize wr.drew = w13 at HO_7 HO_8 HB hx345_0 hx347_0 hHeld ⊢
      refine pS (i := 0) (N := some 24) (ma 14 1) rfl rfl HT_.out ?_
      refine pS (i := 1) (N := some 25) (ma 14 3) rfl rfl HT_.out ?_
      refine pS (i := 2) (N := some 26) (ma 14 7) rfl rfl HT_.out ?_
      refine pS (i := 3) (N := some 27) (ma 14 15) rfl rfl HT_.out ?_
      refine pS (i := 6) (N := some 30) (ma 14 79) rfl rfl HT_.out ?_
      refine pS (i := 7) (N := some 31) (ma 14 207) rfl rfl HT_.out ?_
      refine pS (i := 8) (N := some 32) (ma 14 463) rfl rfl HT_.out ?_
      refine pS (i := 9) (N := some 33) (ma 14 975) rfl rfl HT_.out ?_
      refine tS (i := 4) (N := some 28) (ma 14 991) rfl rfl HT_.out HW_.out hHeld ?_
      refine tS (i := 10) (N := some 34) (ma 14 2015) rfl rfl HT_.out HW_.out hHeld ?_
      refine one_ (i := 5) (N := some 29) (ma 14 2047) rfl rfl (one_of HT_.out (by kernel_rfl)) (by decide) (fun K hK => ?_)
      refine gO Try.func63 #[.slice A0 l0.length c0, .int .i64 (rd t342 x9_1)] rfl rfl ?_
      with_reducible refine (mandolineref02_In.calls k1 _ _ l0 (rd t342 x9_1) t346 _ (cU (Kd.C_below HR0.out HB.out)) HC0.out A9.out).mono ?_
      rintro e w14 ⟨rfl, hb⟩
      have HS0_ := (hb.cell (World.block_lt_of_cell? _ _ (hHeld.1))).trans (hHeld.1)
      have HS1_ := (hb.cell (World.block_lt_of_cell? _ _ (hHeld.2))).trans (hHeld.2)
      refine ⟨_, rfl, ?_⟩
      replace HO_7 := rB HO_7 hb
      replace HO_8 := rB HO_8 hb
      replace HB := sL HB hb
      (try clear hb)
      (try clear hb2)
      (try clear hk)
      (try clear hi)
      refine hK.out _ _ ⟨HS0_, HS1_⟩ (fun hHeld => ?_)
      clear hK K
      refine nP (some 29) ?_
      refine one_ (i := 11) (N := some 35) (ma 14 4095) rfl rfl (one_of HT_.out (by kernel_rfl)) (by decide) (fun K hK => ?_)
      refine gO Try.func63 #[.slice A1 l1.length c1, .int .i64 (rd t342 x9_1)] rfl rfl ?_
      with_reducible refine (mandolineref02_In.calls k1 _ _ l1 (rd t342 x9_1) t348 _ (cU (Kd.C_below HR1.out HB.out)) HC1.out A10.out).mono ?_
      rintro e w15 ⟨rfl, hb⟩
      have HS0_ := (hb.cell (World.block_lt_of_cell? _ _ (hHeld.1))).trans (hHeld.1)
      have HS1_ := (hb.cell (World.block_lt_of_cell? _ _ (hHeld.2))).trans (hHeld.2)
      refine ⟨_, rfl, ?_⟩
      replace HO_7 := rB HO_7 hb
      replace HO_8 := rB HO_8 hb
      replace HB := sL HB hb
      (try clear hb)
      (try clear hb2)
      (try clear hk)
      (try clear hi)
      refine hK.out _ _ ⟨HS0_, HS1_⟩ (fun hHeld => ?_)
      clear hK K
      refine nP (some 35) ?_
      refine pS (i := 12) (N := some 10) (ma 14 8191) rfl rfl HT_.out ?_
      refine pS (i := 13) (N := some 11) (ma 14 16383) rfl rfl HT_.out ?_
      refine done_ (done_of HT_.out (by kernel_rfl)) ?_
      go_upto_region 7 with (fail)
      go_cut [12] (fun v12 wc => ∃ (kq : Nat) (x12_10 : Bool), v12 = .bool x12_10 ∧ Aside0 (mandolineref02_of.j1 kq l0 l1 a2 x7_1 t342 x9_1 x12_10 = some r) ∧ Aside0 (kq ≤ k1) ∧ Aside0 (Kd.R k48 48 wc w.heap.size (fun _ => True) u7 x7_1) ∧ Aside0 (Kd.R (Kd.int .i64) 2 wc w.heap.size (fun _ => True) (.slice (some ad345) t342.length co12) t342) ∧ Aside0 (Below w.heap.size w wc))
      case first =>
       have H := HC11.out
       clear HC11
       by_cases c16 : a2 = 1
       ·rw [if_pos c16] at H
        have c16b0 : (a2 == 1) = true := beq_iff_eq.mpr c16
        have c16b1 : (a2 != 1) = false := bne_eq_false_iff_eq.mpr c16
        clear c16
        (first | rw [c16b0] | (simp only [i64_w, i32_w]; rw [c16b0]) | skip)
        by_cases c17 : t346 = true
        ·subst c17
         rw [if_pos rfl] at H
         have H' := Aside0.mk H
         clear H
         go_wp2
         go_meet
         case rel => exact ⟨_, (true), eR, H', ⟨by have := HK1.out; first | omega | exact Nat.le_refl _⟩, ⟨rU HO_7.out⟩, ⟨rU HO_8.out⟩, ⟨lU HB⟩⟩
        ·replace c17 := Bool.eq_false_iff.mpr c17
         subst c17
         rw [if_neg (show ¬ (false = true) by decide)] at H
         by_cases c18 : t348 = true
         ·subst c18
          rw [if_pos rfl] at H
          have H' := Aside0.mk H
          clear H
          go_wp2
          go_meet
          case rel => exact ⟨_, (true), eR, H', ⟨by have := HK1.out; first | omega | exact Nat.le_refl _⟩, ⟨rU HO_7.out⟩, ⟨rU HO_8.out⟩, ⟨lU HB⟩⟩
         ·replace c18 := Bool.eq_false_iff.mpr c18
          subst c18
          rw [if_neg (show ¬ (false = true) by decide)] at H
          by_cases c19 : a2 = 2
          ·rw [if_pos c19] at H
           have c19b0 : (a2 == 2) = true := beq_iff_eq.mpr c19
           have c19b1 : (a2 != 2) = false := bne_eq_false_iff_eq.mpr c19
           clear c19
           by_cases c20 : a2 = 3
           ·rw [if_pos c20] at H
            have c20b0 : (a2 == 3) = true := beq_iff_eq.mpr c20
            have c20b1 : (a2 != 3) = false := bne_eq_false_iff_eq.mpr c20
            clear c20
            have H' := Aside0.mk H
            clear H
            go_wp2
            go_meet
            case rel => exact ⟨_, (false), eR, H', ⟨by have := HK1.out; first | omega | exact Nat.le_refl _⟩, ⟨rU HO_7.out⟩, ⟨rU HO_8.out⟩, ⟨lU HB⟩⟩
           ·rw [if_neg c20] at H
            have c20b0 : (a2 == 3) = false := beq_eq_false_iff_ne.mpr c20
            have c20b1 : (a2 != 3) = true := bne_iff_ne.mpr c20
            have H' := Aside0.mk H
            clear H
            go_wp2
            go_meet
            case rel => exact ⟨_, (false), eR, H', ⟨by have := HK1.out; first | omega | exact Nat.le_refl _⟩, ⟨rU HO_7.out⟩, ⟨rU HO_8.out⟩, ⟨lU HB⟩⟩
          ·rw [if_neg c19] at H
           have c19b0 : (a2 == 2) = false := beq_eq_false_iff_ne.mpr c19
           have c19b1 : (a2 != 2) = true := bne_iff_ne.mpr c19
           by_cases c21 : a2 = 3
           ·rw [if_pos c21] at H
            have c21b0 : (a2 == 3) = true := beq_iff_eq.mpr c21
            have c21b1 : (a2 != 3) = false := bne_eq_false_iff_eq.mpr c21
            clear c21
            have H' := Aside0.mk H
            clear H
            go_wp2
            go_meet
            case rel => exact ⟨_, (false), eR, H', ⟨by have := HK1.out; first | omega | exact Nat.le_refl _⟩, ⟨rU HO_7.out⟩, ⟨rU HO_8.out⟩, ⟨lU HB⟩⟩
           ·rw [if_neg c21] at H
            have c21b0 : (a2 == 3) = false := beq_eq_false_iff_ne.mpr c21
            have c21b1 : (a2 != 3) = true := bne_iff_ne.mpr c21
            have H' := Aside0.mk H
            clear H
            go_wp2
            go_meet
            case rel => exact ⟨_, (false), eR, H', ⟨by have := HK1.out; first | omega | exact Nat.le_refl _⟩, ⟨rU HO_7.out⟩, ⟨rU HO_8.out⟩, ⟨lU HB⟩⟩
       ·rw [if_neg c16] at H
        have c16b0 : (a2 == 1) = false := beq_eq_false_iff_ne.mpr c16
        have c16b1 : (a2 != 1) = true := bne_iff_ne.mpr c16
        (first | rw [c16b0] | (simp only [i64_w, i32_w]; rw [c16b0]) | skip)
        by_cases c22 : a2 = 2
        ·rw [if_pos c22] at H
         have c22b0 : (a2 == 2) = true := beq_iff_eq.mpr c22
         have c22b1 : (a2 != 2) = false := bne_eq_false_iff_eq.mpr c22
         clear c22
         by_cases c23 : t346 = true
         ·subst c23
          rw [if_pos rfl] at H
          by_cases c24 : t348 = true
          ·subst c24
           rw [if_pos rfl] at H
           have H' := Aside0.mk H
           clear H
           go_wp2
           go_meet
           case rel => exact ⟨_, (true), eR, H', ⟨by have := HK1.out; first | omega | exact Nat.le_refl _⟩, ⟨rU HO_7.out⟩, ⟨rU HO_8.out⟩, ⟨lU HB⟩⟩
          ·replace c24 := Bool.eq_false_iff.mpr c24
           subst c24
           rw [if_neg (show ¬ (false = true) by decide)] at H
           by_cases c25 : a2 = 3
           ·rw [if_pos c25] at H
            have c25b0 : (a2 == 3) = true := beq_iff_eq.mpr c25
            have c25b1 : (a2 != 3) = false := bne_eq_false_iff_eq.mpr c25
            clear c25
            have H' := Aside0.mk H
            clear H
            go_wp2
            go_meet
            case rel => exact ⟨_, (!false), eR, H', ⟨by have := HK1.out; first | omega | exact Nat.le_refl _⟩, ⟨rU HO_7.out⟩, ⟨rU HO_8.out⟩, ⟨lU HB⟩⟩
           ·rw [if_neg c25] at H
            have c25b0 : (a2 == 3) = false := beq_eq_false_iff_ne.mpr c25
            have c25b1 : (a2 != 3) = true := bne_iff_ne.mpr c25
            have H' := Aside0.mk H
            clear H
            go_wp2
            go_meet
            case rel => exact ⟨_, (false), eR, H', ⟨by have := HK1.out; first | omega | exact Nat.le_refl _⟩, ⟨rU HO_7.out⟩, ⟨rU HO_8.out⟩, ⟨lU HB⟩⟩
         ·replace c23 := Bool.eq_false_iff.mpr c23
          subst c23
          rw [if_neg (show ¬ (false = true) by decide)] at H
          by_cases c26 : a2 = 3
          ·rw [if_pos c26] at H
           have c26b0 : (a2 == 3) = true := beq_iff_eq.mpr c26
           have c26b1 : (a2 != 3) = false := bne_eq_false_iff_eq.mpr c26
           clear c26
           have H' := Aside0.mk H
           clear H
           go_wp2
           go_meet
           case rel => exact ⟨_, (false), eR, H', ⟨by have := HK1.out; first | omega | exact Nat.le_refl _⟩, ⟨rU HO_7.out⟩, ⟨rU HO_8.out⟩, ⟨lU HB⟩⟩
          ·rw [if_neg c26] at H
           have c26b0 : (a2 == 3) = false := beq_eq_false_iff_ne.mpr c26
           have c26b1 : (a2 != 3) = true := bne_iff_ne.mpr c26
           have H' := Aside0.mk H
           clear H
           go_wp2
           go_meet
           case rel => exact ⟨_, (false), eR, H', ⟨by have := HK1.out; first | omega | exact Nat.le_refl _⟩, ⟨rU HO_7.out⟩, ⟨rU HO_8.out⟩, ⟨lU HB⟩⟩
        ·rw [if_neg c22] at H
         have c22b0 : (a2 == 2) = false := beq_eq_false_iff_ne.mpr c22
         have c22b1 : (a2 != 2) = true := bne_iff_ne.mpr c22
         by_cases c27 : a2 = 3
         ·rw [if_pos c27] at H
          have c27b0 : (a2 == 3) = true := beq_iff_eq.mpr c27
          have c27b1 : (a2 != 3) = false := bne_eq_false_iff_eq.mpr c27
          clear c27
          by_cases c28 : t346 = true
          ·subst c28
           rw [if_pos rfl] at H
           have H' := Aside0.mk H
           clear H
           go_wp2
           go_meet
           case rel => exact ⟨_, (!t348), eR, H', ⟨by have := HK1.out; first | omega | exact Nat.le_refl _⟩, ⟨rU HO_7.out⟩, ⟨rU HO_8.out⟩, ⟨lU HB⟩⟩
          ·replace c28 := Bool.eq_false_iff.mpr c28
           subst c28
           rw [if_neg (show ¬ (false = true) by decide)] at H
           have H' := Aside0.mk H
           clear H
           go_wp2
           go_meet
           case rel => exact ⟨_, (false), eR, H', ⟨by have := HK1.out; first | omega | exact Nat.le_refl _⟩, ⟨rU HO_7.out⟩, ⟨rU HO_8.out⟩, ⟨lU HB⟩⟩
         ·rw [if_neg c27] at H
          have c27b0 : (a2 == 3) = false := beq_eq_false_iff_ne.mpr c27
          have c27b1 : (a2 != 3) = true := bne_iff_ne.mpr c27
          have H' := Aside0.mk H
          clear H
          go_wp2
          go_meet
          case rel => exact ⟨_, (false), eR, H', ⟨by have := HK1.out; first | omega | exact Nat.le_refl _⟩, ⟨rU HO_7.out⟩, ⟨rU HO_8.out⟩, ⟨lU HB⟩⟩
      case rest =>
       clear HC11
       try clear c1
       try clear c2
       try clear p2
       try clear c3
       try clear p3
       try clear q3
       try clear hx3
       try clear c6
       try clear c6b0
       try clear p6
       try clear c7
       try clear c7b0
       try clear c8
       try clear c8b0
       try clear c16
       try clear c16b0
       try clear c16b1
       try clear c17
       try clear c18
       try clear c19
       try clear c19b0
       try clear c19b1
       try clear c20
       try clear c20b0
       try clear c20b1
       try clear c21
       try clear c21b0
       try clear c21b1
       try clear c22
       try clear c22b0
       try clear c22b1
       try clear c23
       try clear c24
       try clear c25
       try clear c25b0
       try clear c25b1
       try clear c26
       try clear c26b0
       try clear c26b1
       try clear c27
       try clear c27b0
       try clear c27b1
       try clear c28
       try clear hx345_0
       try clear hx347_0
       try clear p2
       try clear p345
       try clear p347
       try clear q345
       try clear q347
       obtain ⟨kq, x12_10, rfl, HA, HJ10, HO_7, HO_8, HB⟩ := hcut
       cases kq with
       | zero => exact absurd HA.out (by simp [mandolineref02_of.j1])
       | succ kj10 =>
        have H := HA.out
        clear HA
        simp only [mandolineref02_of.j1] at H
        by_cases c29 : x12_10 = true
        ·subst c29
         rw [if_pos rfl] at H
         by_cases c30 : (wrap64 ((x7_1.length : Int) - 1)) ≥ 0
         ·rw [if_pos c30] at H
          have c30b0 : decide (0 ≤ (wrap64 ((x7_1.length : Int) - 1))) = true := decide_eq_true c30
          clear c30
          obtain ⟨ji31, hji31⟩ : ∃ j_ : Int, (wrap64 ((x7_1.length : Int) - 1)) = j_ := ⟨_, rfl⟩
          replace H : (if 0 ≤ (ji31) then (if (ji31) < (x7_1.length : Int) then (if 0 ≤ x9_1 then (if x9_1 < (t342.length : Int) then (if ((rd_T48 x7_1 (ji31)).f1) = (rd t342 x9_1) then (if 0 ≤ (wrap64 (x9_1 + 1)) then (if (wrap64 (x9_1 + 1)) < (t342.length : Int) then (mandolineref02_of.l0 kj10 l0 l1 a2 (x7_1.set ((ji31) : Int).toNat (⟨(rd_T48 x7_1 (ji31)).f0, rd t342 (wrap64 (x9_1 + 1))⟩ : S48)) t342 (wrap64 (x9_1 + 1))) else (none)) else (none)) else (if 0 ≤ (wrap64 (x9_1 + 1)) then (if (wrap64 (x9_1 + 1)) < (t342.length : Int) then (if x7_1.length < 8796093022208 then (mandolineref02_of.l0 kj10 l0 l1 a2 (x7_1 ++ [(⟨rd t342 x9_1, rd t342 (wrap64 (x9_1 + 1))⟩ : S48)]) t342 (wrap64 (x9_1 + 1))) else (none)) else (none)) else (none))) else (none)) else (none)) else (none)) else (none)) = some r := by first | (rw [hji31] at H; exact H) | (simp only [hji31] at H ⊢; exact H)
          (try rw [hji31] at c30b0)
          have hji31w : (IntKind.i64.wrap ((x7_1.length : Int) - 1)) = ji31 := (i64_w _).trans hji31
          by_cases c32 : 0 ≤ (ji31)
          ·rw [if_pos c32] at H
           have c32b0 : decide (0 ≤ (ji31)) = true := decide_eq_true c32
           clear c32
           by_cases c33 : (ji31) < (x7_1.length : Int)
           ·rw [if_pos c33] at H
            have c33b0 : decide ((ji31) < (x7_1.length : Int)) = true := decide_eq_true c33
            clear c33
            by_cases c34 : 0 ≤ x9_1
            ·rw [if_pos c34] at H
             have c34b0 : decide (0 ≤ x9_1) = true := decide_eq_true c34
             clear c34
             by_cases c35 : x9_1 < (t342.length : Int)
             ·rw [if_pos c35] at H
              have c35b0 : decide (x9_1 < (t342.length : Int)) = true := decide_eq_true c35
              clear c35
              by_cases c36 : ((rd_T48 x7_1 (ji31)).f1) = (rd t342 x9_1)
              ·rw [if_pos c36] at H
               have c36b0 : (((rd_T48 x7_1 (ji31)).f1) == (rd t342 x9_1)) = true := beq_iff_eq.mpr c36
               have c36b1 : (((rd_T48 x7_1 (ji31)).f1) != (rd t342 x9_1)) = false := bne_eq_false_iff_eq.mpr c36
               clear c36
               obtain ⟨ji37, hji37⟩ : ∃ j_ : Int, (wrap64 (x9_1 + 1)) = j_ := ⟨_, rfl⟩
               replace H : (if 0 ≤ (ji37) then (if (ji37) < (t342.length : Int) then (mandolineref02_of.l0 kj10 l0 l1 a2 (x7_1.set ((ji31) : Int).toNat (⟨(rd_T48 x7_1 (ji31)).f0, rd t342 (ji37)⟩ : S48)) t342 ji37) else (none)) else (none)) = some r := by first | (rw [hji37] at H; exact H) | (simp only [hji37] at H ⊢; exact H)
               (try rw [hji37] at c6b0)
               have hji37w : (IntKind.i64.wrap (x9_1 + 1)) = ji37 := (i64_w _).trans hji37
               by_cases c38 : 0 ≤ (ji37)
               ·rw [if_pos c38] at H
                have c38b0 : decide (0 ≤ (ji37)) = true := decide_eq_true c38
                clear c38
                by_cases c39 : (ji37) < (t342.length : Int)
                ·rw [if_pos c39] at H
                 have c39b0 : decide ((ji37) < (t342.length : Int)) = true := decide_eq_true c39
                 clear c39
                 obtain ⟨y352, hy352⟩ : ∃ y_ : List (S48), y_ = (x7_1.set ((ji31) : Int).toNat (⟨(rd_T48 x7_1 (ji31)).f0, rd t342 (ji37)⟩ : S48)) := ⟨_, rfl⟩
                 replace H : (mandolineref02_of.l0 kj10 l0 l1 a2 y352 t342 ji37) = some r := by first | (rw [hy352]; with_reducible exact H) | (have H2_ := (Option.bind_some _ _).symm.trans H; rw [hy352]; with_reducible exact H2_) | (have H2_ := (Option.bind_some _ _).symm.trans H; with_reducible exact H2_) | with_reducible exact H | (rw [hy352]; exact H) | exact H
                 have Ny352 := Aside0.mk hy352
                 clear hy352
                 have H' := Aside0.mk H
                 clear H
                 obtain ⟨Ao41, co41, eo41⟩ := Kd.R_slice HO_7.out
                 subst eo41
                 try go_wp2
                 replace HO_7 := Aside0.mk (Kd.R_drew HO_7.out)
                 replace HO_8 := Aside0.mk (Kd.R_drew HO_8.out)
                 replace HB := Aside0.mk (below_drew1 HB.out)
                 have p349 : 0 ≤ ((ji31) : Int) := of_decide_eq_true (by first | (with_reducible assumption) | assumption)
                 have q349 : (ji31) < (x7_1.length : Int) := of_decide_eq_true (by first | (with_reducible assumption) | assumption)
                 obtain ⟨ad349, e349, hx349_0, hx349_1⟩ := at_T48 (rC HO_7) (ji31) p349 q349
                 cases e349
                 replace p349 := eq_true p349
                 replace q349 := eq_true q349
                 have p350 : 0 ≤ (x9_1 : Int) := of_decide_eq_true (by first | (with_reducible assumption) | assumption)
                 have q350 : x9_1 < (t342.length : Int) := of_decide_eq_true (by first | (with_reducible assumption) | assumption)
                 obtain ⟨ad350, e350, hx350_0⟩ := Kd.at_int (rC HO_8) x9_1 p350 q350
                 obtain rfl : ad345 = ad350 := (by injection e350)
                 replace p350 := eq_true p350
                 replace q350 := eq_true q350
                 refine start_ (n := 14) (S := fun w' => w'.cell? (ad349.add (((ji31)).toNat * 2)) = some (.int .i64 ((rd_T48 x7_1 (ji31)).f0)) ∧ w'.cell? ⟨(ad349.add (((ji31)).toNat * 2)).block, (ad349.add (((ji31)).toNat * 2)).off + 1, none⟩ = some (.int .i64 ((rd_T48 x7_1 (ji31)).f1)) ∧ w'.cell? (ad345.add (x9_1).toNat) = some (.int .i64 (rd t342 x9_1))) (ds := []) #[false, false, false, false, false, false, false, false, false, false, false, false, false, false] (by kernel_rfl) rfl rfl ⟨hx349_0, hx349_1, hx350_0⟩ (fun hHeld => ?_); refine with_tabW mandolineref02_of.tab10 mandolineref02_of.bits10 (fun HT_ HW_ => ?_)
                 generalize wc.drew = w42 at HO_7 HO_8 HB hx349_0 hx349_1 hx350_0 hHeld ⊢
                 refine pS (i := 0) (N := some 70) (ma 14 1) rfl rfl HT_.out ?_
                 refine pS (i := 1) (N := some 71) (ma 14 3) rfl rfl HT_.out ?_
                 refine pS (i := 2) (N := some 72) (ma 14 7) rfl rfl HT_.out ?_
                 refine pS (i := 3) (N := some 73) (ma 14 15) rfl rfl HT_.out ?_
                 refine pS (i := 4) (N := some 74) (ma 14 31) rfl rfl HT_.out ?_
                 refine pS (i := 5) (N := some 75) (ma 14 63) rfl rfl HT_.out ?_
                 refine pS (i := 6) (N := some 76) (ma 14 127) rfl rfl HT_.out ?_
                 refine pS (i := 8) (N := some 78) (ma 14 383) rfl rfl HT_.out ?_
                 refine pS (i := 9) (N := some 79) (ma 14 895) rfl rfl HT_.out ?_
                 refine pS (i := 10) (N := some 80) (ma 14 1919) rfl rfl HT_.out ?_
                 refine tS (i := 7) (N := some 77) (ma 14 2047) rfl rfl HT_.out HW_.out hHeld ?_
                 refine tS (i := 11) (N := some 81) (ma 14 4095) rfl rfl HT_.out HW_.out hHeld ?_
                 refine pS (i := 12) (N := some 82) (ma 14 8191) rfl rfl HT_.out ?_
                 refine pS (i := 13) (N := some 83) (ma 14 16383) rfl rfl HT_.out ?_
                 refine done_ (done_of HT_.out (by kernel_rfl)) ?_
                 have p351 : 0 ≤ ((ji37) : Int) := of_decide_eq_true (by first | (with_reducible assumption) | assumption)
                 have q351 : (ji37) < (t342.length : Int) := of_decide_eq_true (by first | (with_reducible assumption) | assumption)
                 obtain ⟨ad351, e351, hx351_0⟩ := Kd.at_int (rC HO_8) (ji37) p351 q351
                 obtain rfl : ad345 = ad351 := (by injection e351)
                 replace p351 := eq_true p351
                 replace q351 := eq_true q351
                 have p40 : 0 ≤ ((ji31) : Int) := of_decide_eq_true (by first | (with_reducible assumption) | assumption)
                 have q40 : ((ji31) : Int) < ((x7_1.length : Int) : Int) := of_decide_eq_true (by first | (with_reducible assumption) | assumption)
                 obtain ⟨go40, co40, eo40, gb40, gl40, cl40, HG40⟩ := Kd.R_form HO_7.out (by omega)
                 (first | cases eo40 | (injection eo40 with ea_ en_ ec_; (first | subst ea_ | (injection ea_ with ea_; subst ea_)); subst ec_; clear en_))
                 have GB40 := Aside0.mk gb40
                 have GG40 := Aside0.mk HG40
                 clear gb40 gl40 HG40
                 (first | simp only [add_plain] at hx349_0 | skip)
                 (first | simp only [add_plain] at hx349_1 | skip)
                 obtain ⟨ce40, hcl40, hM40, hcc40, hfr40⟩ := Kd.R_elem HO_7.out z48 ((ji31) : Int) p40 q40
                 obtain rfl := k48_openM hM40
                 have hx40_0 : w42.cell? ⟨go40, ((ji31) : Int).toNat * 2, none⟩ = some (.int .i64 ((rd_T48 x7_1 (ji31)).f0)) := hcc40 0 _ rfl
                 have hx40_1 : w42.cell? ⟨go40, ((ji31) : Int).toNat * 2 + 1, none⟩ = some (.int .i64 ((rd_T48 x7_1 (ji31)).f1)) := hcc40 1 _ rfl
                 have hf40_0 : w42.frozen? ⟨go40, ((ji31) : Int).toNat * 2, none⟩ = false := hfr40 0
                 have hf40_1 : w42.frozen? ⟨go40, ((ji31) : Int).toNat * 2 + 1, none⟩ = false := hfr40 1
                 clear hcl40 hcc40 hfr40 hM40
                 replace p40 := eq_true p40
                 replace q40 := eq_true q40
                 have HX43 := Aside0.mk (show Kd.R k48 48 w42 w.heap.size (fun _ => True) (.slice (some ⟨go40, 0, none⟩) x7_1.length co41) x7_1 from (rU HO_7.out))
                 obtain ⟨ce43, hcl43, hM43, hcc43, hfr43⟩ := Kd.R_elem HX43.out z48 ((ji31) : Int) (of_decide_eq_true (by first | (with_reducible assumption) | assumption)) (by have h_ : ((ji31) : Int) < ((x7_1.length : Int) : Int) := of_decide_eq_true (by first | (with_reducible assumption) | assumption); first | exact h_ | (have e_ := (Kd.R_reads' HO_7.out).1; omega) | simpa using h_)
                 obtain rfl := k48_openM hM43
                 have HP43 := Kd.R_seg HX43.out ((ji31) : Int) (of_decide_eq_true (by first | (with_reducible assumption) | assumption)) (by have h_ : ((ji31) : Int) < ((x7_1.length : Int) : Int) := of_decide_eq_true (by first | (with_reducible assumption) | assumption); first | exact h_ | (have e_ := (Kd.R_reads' HO_7.out).1; omega) | simpa using h_) (seg := [.int .i64 (rd t342 (ji37))]) (j := 1) hcl43 hcc43 (show 2 ≤ 2 from by decide) (x' := (⟨(rd_T48 x7_1 (ji31)).f0, rd t342 (ji37)⟩ : S48)) (k48_mkM _ _ _ (⟨(rd_T48 x7_1 (ji31)).f0, rd t342 (ji37)⟩ : S48) ) (fun _ hk => hk)
                 have hx43_1 := hcc43 1 _ rfl
                 (try simp only [show (k48).sz = 2 from rfl, Nat.mul_one, Nat.add_zero] at hx43_1)
                 have hf43_1 := hfr43 1
                 (try simp only [show (k48).sz = 2 from rfl, Nat.mul_one, Nat.add_zero] at hf43_1)
                 clear hcl43 hcc43 hfr43 hM43
                 try go_wp2_with (first | ((with_reducible refine gate_store (t := 2) (p := 92) rfl ?_); refine store_event (t := 2) (p := 92) (v := ?vo_w44) (w1 := (w42.setCell ⟨go40, ((ji31) : Int).toNat * 2 + 1, none⟩ (.int .i64 (rd t342 (ji37))))) ?hg ?ho ?hn ?hr ?_; (case ho => rfl); (case hg => rfl); (case hn => rfl); (case hr => first | (go_simp; done) | (go_simp; rfl)); intro w44 hw; have hg : w42.grownBy w44 (some go40) := (by rw [hw]; exact HP43.2); have hp_ : Kd.R k48 48 w44 w.heap.size (fun _ => True) (.slice (some ⟨go40, 0, none⟩) x7_1.length co41) y352 := (by rw [hw, Ny352.out]; exact HP43.1); clear HP43; replace HO_8 := Aside0.mk (Kd.R_over' (v := (.slice (some ⟨go40, 0, none⟩) x7_1.length co41)) (rU HO_8.out) (Kd.R_typed HO_7.out) (by decide) hg); replace HO_7 := Aside0.mk (hp_); replace HB := Aside0.mk ((by rw [hw]; exact below_set (HB.out) GB40.out : Below w.heap.size w w44)); clear hg hw hp_))
                 go_roundg kj10
                 case measure => have := HK1.out; have := HJ10.out; omega
                 case rel => exact ⟨(y352), (ji37), (by first | rfl | (simp; done) | (simp only [← hji37] <;> (first | rfl | simp)) | (simp [*]; done)), H', ⟨by have := HK1.out; have := HJ10.out; omega⟩, ⟨rU HO_7.out⟩, ⟨rU HO_8.out⟩, ⟨lU HB⟩⟩
                ·rw [if_neg c39] at H
                 exact absurd H (by simp)
               ·rw [if_neg c38] at H
                exact absurd H (by simp)
              ·rw [if_neg c36] at H
               have c36b0 : (((rd_T48 x7_1 (ji31)).f1) == (rd t342 x9_1)) = false := beq_eq_false_iff_ne.mpr c36
               have c36b1 : (((rd_T48 x7_1 (ji31)).f1) != (rd t342 x9_1)) = true := bne_iff_ne.mpr c36
               obtain ⟨ji45, hji45⟩ : ∃ j_ : Int, (wrap64 (x9_1 + 1)) = j_ := ⟨_, rfl⟩
               replace H : (if 0 ≤ (ji45) then (if (ji45) < (t342.length : Int) then (if x7_1.length < 8796093022208 then (mandolineref02_of.l0 kj10 l0 l1 a2 (x7_1 ++ [(⟨rd t342 x9_1, rd t342 (ji45)⟩ : S48)]) t342 ji45) else (none)) else (none)) else (none)) = some r := by first | (rw [hji45] at H; exact H) | (simp only [hji45] at H ⊢; exact H)
               (try rw [hji45] at c6b0)
               have hji45w : (IntKind.i64.wrap (x9_1 + 1)) = ji45 := (i64_w _).trans hji45
               by_cases c46 : 0 ≤ (ji45)
               ·rw [if_pos c46] at H
                have c46b0 : decide (0 ≤ (ji45)) = true := decide_eq_true c46
                clear c46
                by_cases c47 : (ji45) < (t342.length : Int)
                ·rw [if_pos c47] at H
                 have c47b0 : decide ((ji45) < (t342.length : Int)) = true := decide_eq_true c47
                 clear c47
                 by_cases c48 : x7_1.length < 8796093022208
                 ·rw [if_pos c48] at H
                  have LMc48 := Aside0.mk c48
                  clear c48
                  obtain ⟨y355, hy355⟩ : ∃ y_ : List (S48), y_ = (x7_1 ++ [(⟨rd t342 x9_1, rd t342 (ji45)⟩ : S48)]) := ⟨_, rfl⟩
                  replace H : (mandolineref02_of.l0 kj10 l0 l1 a2 y355 t342 ji45) = some r := by first | (rw [hy355]; with_reducible exact H) | (have H2_ := (Option.bind_some _ _).symm.trans H; rw [hy355]; with_reducible exact H2_) | (have H2_ := (Option.bind_some _ _).symm.trans H; with_reducible exact H2_) | with_reducible exact H | (rw [hy355]; exact H) | exact H
                  have Ny355 := Aside0.mk hy355
                  clear hy355
                  have H' := Aside0.mk H
                  clear H
                  obtain ⟨Ao49, co49, eo49⟩ := Kd.R_slice HO_7.out
                  subst eo49
                  try go_wp2
                  replace HO_7 := Aside0.mk (Kd.R_drew HO_7.out)
                  replace HO_8 := Aside0.mk (Kd.R_drew HO_8.out)
                  replace HB := Aside0.mk (below_drew1 HB.out)
                  have p349 : 0 ≤ ((ji31) : Int) := of_decide_eq_true (by first | (with_reducible assumption) | assumption)
                  have q349 : (ji31) < (x7_1.length : Int) := of_decide_eq_true (by first | (with_reducible assumption) | assumption)
                  obtain ⟨ad349, e349, hx349_0, hx349_1⟩ := at_T48 (rC HO_7) (ji31) p349 q349
                  cases e349
                  replace p349 := eq_true p349
                  replace q349 := eq_true q349
                  have p350 : 0 ≤ (x9_1 : Int) := of_decide_eq_true (by first | (with_reducible assumption) | assumption)
                  have q350 : x9_1 < (t342.length : Int) := of_decide_eq_true (by first | (with_reducible assumption) | assumption)
                  obtain ⟨ad350, e350, hx350_0⟩ := Kd.at_int (rC HO_8) x9_1 p350 q350
                  obtain rfl : ad345 = ad350 := (by injection e350)
                  replace p350 := eq_true p350
                  replace q350 := eq_true q350
                  refine start_ (n := 14) (S := fun w' => w'.cell? (ad349.add (((ji31)).toNat * 2)) = some (.int .i64 ((rd_T48 x7_1 (ji31)).f0)) ∧ w'.cell? ⟨(ad349.add (((ji31)).toNat * 2)).block, (ad349.add (((ji31)).toNat * 2)).off + 1, none⟩ = some (.int .i64 ((rd_T48 x7_1 (ji31)).f1)) ∧ w'.cell? (ad345.add (x9_1).toNat) = some (.int .i64 (rd t342 x9_1))) (ds := []) #[false, false, false, false, false, false, false, false, false, false, false, false, false, false] (by kernel_rfl) rfl rfl ⟨hx349_0, hx349_1, hx350_0⟩ (fun hHeld => ?_); refine with_tabW mandolineref02_of.tab10 mandolineref02_of.bits10 (fun HT_ HW_ => ?_)
                  generalize wc.drew = w50 at HO_7 HO_8 HB hx349_0 hx349_1 hx350_0 hHeld ⊢
                  refine pS (i := 0) (N := some 70) (ma 14 1) rfl rfl HT_.out ?_
                  refine pS (i := 1) (N := some 71) (ma 14 3) rfl rfl HT_.out ?_
                  refine pS (i := 2) (N := some 72) (ma 14 7) rfl rfl HT_.out ?_
                  refine pS (i := 3) (N := some 73) (ma 14 15) rfl rfl HT_.out ?_
                  refine pS (i := 4) (N := some 74) (ma 14 31) rfl rfl HT_.out ?_
                  refine pS (i := 5) (N := some 75) (ma 14 63) rfl rfl HT_.out ?_
                  refine pS (i := 6) (N := some 76) (ma 14 127) rfl rfl HT_.out ?_
                  refine pS (i := 8) (N := some 78) (ma 14 383) rfl rfl HT_.out ?_
                  refine pS (i := 9) (N := some 79) (ma 14 895) rfl rfl HT_.out ?_
                  refine pS (i := 10) (N := some 80) (ma 14 1919) rfl rfl HT_.out ?_
                  refine tS (i := 7) (N := some 77) (ma 14 2047) rfl rfl HT_.out HW_.out hHeld ?_
                  refine tS (i := 11) (N := some 81) (ma 14 4095) rfl rfl HT_.out HW_.out hHeld ?_
                  refine pS (i := 12) (N := some 82) (ma 14 8191) rfl rfl HT_.out ?_
                  refine pS (i := 13) (N := some 83) (ma 14 16383) rfl rfl HT_.out ?_
                  refine done_ (done_of HT_.out (by kernel_rfl)) ?_
                  try go_wp2
                  replace HO_7 := Aside0.mk (Kd.R_drew HO_7.out)
                  replace HO_8 := Aside0.mk (Kd.R_drew HO_8.out)
                  replace HB := Aside0.mk (below_drew1 HB.out)
                  have p353 : 0 ≤ (x9_1 : Int) := of_decide_eq_true (by first | (with_reducible assumption) | assumption)
                  have q353 : x9_1 < (t342.length : Int) := of_decide_eq_true (by first | (with_reducible assumption) | assumption)
                  obtain ⟨ad353, e353, hx353_0⟩ := Kd.at_int (rC HO_8) x9_1 p353 q353
                  obtain rfl : ad345 = ad353 := (by injection e353)
                  replace p353 := eq_true p353
                  replace q353 := eq_true q353
                  have p354 : 0 ≤ ((ji45) : Int) := of_decide_eq_true (by first | (with_reducible assumption) | assumption)
                  have q354 : (ji45) < (t342.length : Int) := of_decide_eq_true (by first | (with_reducible assumption) | assumption)
                  obtain ⟨ad354, e354, hx354_0⟩ := Kd.at_int (rC HO_8) (ji45) p354 q354
                  obtain rfl : ad345 = ad354 := (by injection e354)
                  replace p354 := eq_true p354
                  replace q354 := eq_true q354
                  refine start_ (n := 14) (S := fun w' => w'.cell? (ad345.add (x9_1).toNat) = some (.int .i64 (rd t342 x9_1)) ∧ w'.cell? (ad345.add ((ji45)).toNat) = some (.int .i64 (rd t342 (ji45)))) (ds := [11, 12]) #[false, false, false, false, false, false, false, false, false, false, false, false, false, false] (by kernel_rfl) rfl rfl ⟨hx353_0, hx354_0⟩ (fun hHeld => ?_); refine with_tabW mandolineref02_of.tab12 mandolineref02_of.bits12 (fun HT_ HW_ => ?_)
                  generalize w50.drew = w51 at HO_7 HO_8 HB hx353_0 hx354_0 hHeld ⊢
                  refine pS (i := 0) (N := some 93) (ma 14 1) rfl rfl HT_.out ?_
                  refine pS (i := 1) (N := some 94) (ma 14 3) rfl rfl HT_.out ?_
                  refine pS (i := 2) (N := some 95) (ma 14 7) rfl rfl HT_.out ?_
                  refine pS (i := 3) (N := some 96) (ma 14 15) rfl rfl HT_.out ?_
                  refine pS (i := 5) (N := some 98) (ma 14 47) rfl rfl HT_.out ?_
                  refine pS (i := 6) (N := some 99) (ma 14 111) rfl rfl HT_.out ?_
                  refine pS (i := 7) (N := some 100) (ma 14 239) rfl rfl HT_.out ?_
                  refine pS (i := 8) (N := some 101) (ma 14 495) rfl rfl HT_.out ?_
                  refine tS (i := 4) (N := some 97) (ma 14 511) rfl rfl HT_.out HW_.out hHeld ?_
                  refine tS (i := 9) (N := some 102) (ma 14 1023) rfl rfl HT_.out HW_.out hHeld ?_
                  refine pS (i := 10) (N := some 103) (ma 14 2047) rfl rfl HT_.out ?_
                  refine last_ (i := 11) (N := some 104) #[true, true, true, true, true, true, true, true, true, true, true, true, false, false] rfl rfl (one_of HT_.out (by kernel_rfl)) (by decide) (fun K hK => ?_)
                  refine value_ (w1 := ?_) (v := ?_) (by rfl) rfl ?_ ?_
                  rotate_left 2
                  ·go_simp
                   constructor
                   ·rfl
                   ·rfl
                  refine hK.out _ _ ?_
                  clear hK K
                  refine nP (some 104) ?_
                  refine last_ (i := 12) (N := some 105) #[true, true, true, true, true, true, true, true, true, true, true, true, true, false] rfl rfl (one_of HT_.out (by kernel_rfl)) (by decide) (fun K hK => ?_)
                  refine Kd.R_append_step k48 (w0 := w) w.heap.size (by rfl) (.tmp 93) (.tmp 104) 22 48 (.agg #[(.int .i64 0), (.int .i64 0)]) 16 rfl Try.underlying22 info48 rfl (by decide) (by omega) (.slice (some ad349) x7_1.length co49) x7_1 (⟨rd t342 x9_1, rd t342 (ji45)⟩ : S48) [.int .i64 (rd t342 x9_1), .int .i64 (rd t342 (ji45))] (fun _ => True) (fun _ => False) rfl rfl ?aP (fun _ hk => hk.elim) ?aF ?aO ?aB ?aS ?aL ?_
                  (case aP => exact k48_mkM _ _ _ (⟨rd t342 x9_1, rd t342 (ji45)⟩ : S48))
                  (case aB => exact (lU HB))
                  (case aF => exact (fun _ _ => trivial))
                  (case aO => exact (rU HO_7.out))
                  (case aS => exact (below_size (lU HB)))
                  (case aL => have := LMc48.out; omega)
                  intro v356 w52 ho hb hg hat
                  rw [← Ny355.out] at ho
                  have HO357 := Aside0.mk (ho)
                  replace HO_8 := Aside0.mk (Kd.R_over' (rU HO_8.out) (Kd.R_typed (rU HO_7.out)) (by decide) hg)
                  replace HB := Aside0.mk (hb)
                  clear HO_7
                  clear ho hb hg hat
                  refine hK.out _ _ ?_
                  clear hK K
                  refine nP (some 105) ?_
                  refine pS (i := 13) (N := some 7) (ma 14 16383) rfl rfl HT_.out ?_
                  refine done_ (done_of HT_.out (by kernel_rfl)) ?_
                  try go_wp2
                  go_roundg kj10
                  case measure => have := HK1.out; have := HJ10.out; omega
                  case rel => exact ⟨(y355), (ji45), (by first | rfl | (simp; done) | (simp only [← hji45] <;> (first | rfl | simp)) | (simp [*]; done)), H', ⟨by have := HK1.out; have := HJ10.out; omega⟩, ⟨rU HO357.out⟩, ⟨rU HO_8.out⟩, ⟨lU HB⟩⟩
                 ·rw [if_neg c48] at H
                  exact absurd H (by simp)
                ·rw [if_neg c47] at H
                 exact absurd H (by simp)
               ·rw [if_neg c46] at H
                exact absurd H (by simp)
             ·rw [if_neg c35] at H
              exact absurd H (by simp)
            ·rw [if_neg c34] at H
             exact absurd H (by simp)
           ·rw [if_neg c33] at H
            exact absurd H (by simp)
          ·rw [if_neg c32] at H
           exact absurd H (by simp)
         ·rw [if_neg c30] at H
          have c30b0 : decide (0 ≤ (wrap64 ((x7_1.length : Int) - 1))) = false := decide_eq_false c30
          clear c30
          by_cases c53 : 0 ≤ x9_1
          ·rw [if_pos c53] at H
           have c53b0 : decide (0 ≤ x9_1) = true := decide_eq_true c53
           clear c53
           by_cases c54 : x9_1 < (t342.length : Int)
           ·rw [if_pos c54] at H
            have c54b0 : decide (x9_1 < (t342.length : Int)) = true := decide_eq_true c54
            clear c54
            obtain ⟨ji55, hji55⟩ : ∃ j_ : Int, (wrap64 (x9_1 + 1)) = j_ := ⟨_, rfl⟩
            replace H : (if 0 ≤ (ji55) then (if (ji55) < (t342.length : Int) then (if x7_1.length < 8796093022208 then (mandolineref02_of.l0 kj10 l0 l1 a2 (x7_1 ++ [(⟨rd t342 x9_1, rd t342 (ji55)⟩ : S48)]) t342 ji55) else (none)) else (none)) else (none)) = some r := by first | (rw [hji55] at H; exact H) | (simp only [hji55] at H ⊢; exact H)
            (try rw [hji55] at c6b0)
            have hji55w : (IntKind.i64.wrap (x9_1 + 1)) = ji55 := (i64_w _).trans hji55
            by_cases c56 : 0 ≤ (ji55)
            ·rw [if_pos c56] at H
             have c56b0 : decide (0 ≤ (ji55)) = true := decide_eq_true c56
             clear c56
             by_cases c57 : (ji55) < (t342.length : Int)
             ·rw [if_pos c57] at H
              have c57b0 : decide ((ji55) < (t342.length : Int)) = true := decide_eq_true c57
              clear c57
              by_cases c58 : x7_1.length < 8796093022208
              ·rw [if_pos c58] at H
               have LMc58 := Aside0.mk c58
               clear c58
               obtain ⟨y360, hy360⟩ : ∃ y_ : List (S48), y_ = (x7_1 ++ [(⟨rd t342 x9_1, rd t342 (ji55)⟩ : S48)]) := ⟨_, rfl⟩
               replace H : (mandolineref02_of.l0 kj10 l0 l1 a2 y360 t342 ji55) = some r := by first | (rw [hy360]; with_reducible exact H) | (have H2_ := (Option.bind_some _ _).symm.trans H; rw [hy360]; with_reducible exact H2_) | (have H2_ := (Option.bind_some _ _).symm.trans H; with_reducible exact H2_) | with_reducible exact H | (rw [hy360]; exact H) | exact H
               have Ny360 := Aside0.mk hy360
               clear hy360
               have H' := Aside0.mk H
               clear H
               obtain ⟨Ao59, co59, eo59⟩ := Kd.R_slice HO_7.out
               subst eo59
               try go_wp2
               replace HO_7 := Aside0.mk (Kd.R_drew HO_7.out)
               replace HO_8 := Aside0.mk (Kd.R_drew HO_8.out)
               replace HB := Aside0.mk (below_drew1 HB.out)
               refine start_ (n := 14) (S := fun w' => True) (ds := []) #[false, false, false, false, false, false, false, false, false, false, false, false, false, false] (by kernel_rfl) rfl rfl trivial (fun hHeld => ?_); refine with_tabW mandolineref02_of.tab10 mandolineref02_of.bits10 (fun HT_ HW_ => ?_)
               generalize wc.drew = w60 at HO_7 HO_8 HB hHeld ⊢
               refine pS (i := 0) (N := some 70) (ma 14 1) rfl rfl HT_.out ?_
               refine pS (i := 1) (N := some 71) (ma 14 3) rfl rfl HT_.out ?_
               refine pS (i := 2) (N := some 72) (ma 14 7) rfl rfl HT_.out ?_
               refine pU (i := 3) (N := some 73) (ma 14 15) rfl rfl HT_.out ?_
               refine pU (i := 4) (N := some 74) (ma 14 31) rfl rfl HT_.out ?_
               refine pU (i := 5) (N := some 75) (ma 14 63) rfl rfl HT_.out ?_
               refine pU (i := 6) (N := some 76) (ma 14 127) rfl rfl HT_.out ?_
               refine pU (i := 7) (N := some 77) (ma 14 255) rfl rfl HT_.out ?_
               refine pU (i := 8) (N := some 78) (ma 14 511) rfl rfl HT_.out ?_
               refine pU (i := 9) (N := some 79) (ma 14 1023) rfl rfl HT_.out ?_
               refine pU (i := 10) (N := some 80) (ma 14 2047) rfl rfl HT_.out ?_
               refine pU (i := 11) (N := some 81) (ma 14 4095) rfl rfl HT_.out ?_
               refine pU (i := 12) (N := some 82) (ma 14 8191) rfl rfl HT_.out ?_
               refine pS (i := 13) (N := some 83) (ma 14 16383) rfl rfl HT_.out ?_
               refine done_ (done_of HT_.out (by kernel_rfl)) ?_
               try go_wp2
               replace HO_7 := Aside0.mk (Kd.R_drew HO_7.out)
               replace HO_8 := Aside0.mk (Kd.R_drew HO_8.out)
               replace HB := Aside0.mk (below_drew1 HB.out)
               have p358 : 0 ≤ (x9_1 : Int) := of_decide_eq_true (by first | (with_reducible assumption) | assumption)
               have q358 : x9_1 < (t342.length : Int) := of_decide_eq_true (by first | (with_reducible assumption) | assumption)
               obtain ⟨ad358, e358, hx358_0⟩ := Kd.at_int (rC HO_8) x9_1 p358 q358
               obtain rfl : ad345 = ad358 := (by injection e358)
               replace p358 := eq_true p358
               replace q358 := eq_true q358
               have p359 : 0 ≤ ((ji55) : Int) := of_decide_eq_true (by first | (with_reducible assumption) | assumption)
               have q359 : (ji55) < (t342.length : Int) := of_decide_eq_true (by first | (with_reducible assumption) | assumption)
               obtain ⟨ad359, e359, hx359_0⟩ := Kd.at_int (rC HO_8) (ji55) p359 q359
               obtain rfl : ad345 = ad359 := (by injection e359)
               replace p359 := eq_true p359
               replace q359 := eq_true q359
               refine start_ (n := 14) (S := fun w' => w'.cell? (ad345.add (x9_1).toNat) = some (.int .i64 (rd t342 x9_1)) ∧ w'.cell? (ad345.add ((ji55)).toNat) = some (.int .i64 (rd t342 (ji55)))) (ds := [11, 12]) #[false, false, false, false, false, false, false, false, false, false, false, false, false, false] (by kernel_rfl) rfl rfl ⟨hx358_0, hx359_0⟩ (fun hHeld => ?_); refine with_tabW mandolineref02_of.tab12 mandolineref02_of.bits12 (fun HT_ HW_ => ?_)
               generalize w60.drew = w61 at HO_7 HO_8 HB hx358_0 hx359_0 hHeld ⊢
               refine pS (i := 0) (N := some 93) (ma 14 1) rfl rfl HT_.out ?_
               refine pS (i := 1) (N := some 94) (ma 14 3) rfl rfl HT_.out ?_
               refine pS (i := 2) (N := some 95) (ma 14 7) rfl rfl HT_.out ?_
               refine pS (i := 3) (N := some 96) (ma 14 15) rfl rfl HT_.out ?_
               refine pS (i := 5) (N := some 98) (ma 14 47) rfl rfl HT_.out ?_
               refine pS (i := 6) (N := some 99) (ma 14 111) rfl rfl HT_.out ?_
               refine pS (i := 7) (N := some 100) (ma 14 239) rfl rfl HT_.out ?_
               refine pS (i := 8) (N := some 101) (ma 14 495) rfl rfl HT_.out ?_
               refine tS (i := 4) (N := some 97) (ma 14 511) rfl rfl HT_.out HW_.out hHeld ?_
               refine tS (i := 9) (N := some 102) (ma 14 1023) rfl rfl HT_.out HW_.out hHeld ?_
               refine pS (i := 10) (N := some 103) (ma 14 2047) rfl rfl HT_.out ?_
               refine last_ (i := 11) (N := some 104) #[true, true, true, true, true, true, true, true, true, true, true, true, false, false] rfl rfl (one_of HT_.out (by kernel_rfl)) (by decide) (fun K hK => ?_)
               refine value_ (w1 := ?_) (v := ?_) (by rfl) rfl ?_ ?_
               rotate_left 2
               ·go_simp
                constructor
                ·rfl
                ·rfl
               refine hK.out _ _ ?_
               clear hK K
               refine nP (some 104) ?_
               refine last_ (i := 12) (N := some 105) #[true, true, true, true, true, true, true, true, true, true, true, true, true, false] rfl rfl (one_of HT_.out (by kernel_rfl)) (by decide) (fun K hK => ?_)
               refine Kd.R_append_step k48 (w0 := w) w.heap.size (by rfl) (.tmp 93) (.tmp 104) 22 48 (.agg #[(.int .i64 0), (.int .i64 0)]) 16 rfl Try.underlying22 info48 rfl (by decide) (by omega) (.slice Ao59 x7_1.length co59) x7_1 (⟨rd t342 x9_1, rd t342 (ji55)⟩ : S48) [.int .i64 (rd t342 x9_1), .int .i64 (rd t342 (ji55))] (fun _ => True) (fun _ => False) rfl rfl ?aP (fun _ hk => hk.elim) ?aF ?aO ?aB ?aS ?aL ?_
               (case aP => exact k48_mkM _ _ _ (⟨rd t342 x9_1, rd t342 (ji55)⟩ : S48))
               (case aB => exact (lU HB))
               (case aF => exact (fun _ _ => trivial))
               (case aO => exact (rU HO_7.out))
               (case aS => exact (below_size (lU HB)))
               (case aL => have := LMc58.out; omega)
               intro v361 w62 ho hb hg hat
               rw [← Ny360.out] at ho
               have HO362 := Aside0.mk (ho)
               replace HO_8 := Aside0.mk (Kd.R_over' (rU HO_8.out) (Kd.R_typed (rU HO_7.out)) (by decide) hg)
               replace HB := Aside0.mk (hb)
               clear HO_7
               clear ho hb hg hat
               refine hK.out _ _ ?_
               clear hK K
               refine nP (some 105) ?_
               refine pS (i := 13) (N := some 7) (ma 14 16383) rfl rfl HT_.out ?_
               refine done_ (done_of HT_.out (by kernel_rfl)) ?_
               try go_wp2
               go_roundg kj10
               case measure => have := HK1.out; have := HJ10.out; omega
               case rel => exact ⟨(y360), (ji55), (by first | rfl | (simp; done) | (simp only [← hji55] <;> (first | rfl | simp)) | (simp [*]; done)), H', ⟨by have := HK1.out; have := HJ10.out; omega⟩, ⟨rU HO362.out⟩, ⟨rU HO_8.out⟩, ⟨lU HB⟩⟩
              ·rw [if_neg c58] at H
               exact absurd H (by simp)
             ·rw [if_neg c57] at H
              exact absurd H (by simp)
            ·rw [if_neg c56] at H
             exact absurd H (by simp)
           ·rw [if_neg c54] at H
            exact absurd H (by simp)
          ·rw [if_neg c53] at H
           exact absurd H (by simp)
        ·replace c29 := Bool.eq_false_iff.mpr c29
         subst c29
         rw [if_neg (show ¬ (false = true) by decide)] at H
         have H' := Aside0.mk H
         clear H
         go_wp2
         go_roundg kj10
         case measure => have := HK1.out; have := HJ10.out; omega
         case rel => exact ⟨(x7_1), (wrap64 (x9_1 + 1)), eR, H', ⟨by have := HK1.out; have := HJ10.out; omega⟩, ⟨rU HO_7.out⟩, ⟨rU HO_8.out⟩, ⟨lU HB⟩⟩
     ·rw [if_neg c8] at H
      exact absurd H (by simp)
    ·rw [if_neg c7] at H
     exact absurd H (by simp)
   ·rw [if_neg c6] at H
    have c6b0 : decide ((wrap64 (x9_1 + 1)) < (t342.length : Int)) = false := decide_eq_false c6
    clear c6
    obtain rfl := Option.some.inj H
    obtain ⟨Ao63, co63, eo63⟩ := Kd.R_slice HO_8.out
    subst eo63
    go_wp2
    go_ret
    exact ⟨_, eW, by (with_reducible repeat (first | apply Kd.R_alloc | apply Kd.R_drewN | apply Kd.R_drew)); exact HO_7.out, lU HB⟩
end Go.Proofs.Ytnaalaakhdbfbaa.XP
