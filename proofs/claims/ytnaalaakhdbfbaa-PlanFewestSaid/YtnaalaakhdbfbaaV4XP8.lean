-- Go functions as plain functions, and that the code comes to these answers (printed by a program).
import Derived.Test.YtnaalaakhdbfbaaV4XP0
namespace Go.Proofs.Ytnaalaakhdbfbaa.XP
open Go.RowKit Go.Proofs.YtnaalaakhdbfbaaW.PrintWords Go.Proofs.YtnaalaakhdbfbaaW.PrintLast Go.Proofs.YtnaalaakhdbfbaaW.PrintMore
attribute [local go_sem] max2_int min2_int max_two min_two max_three min_three max_four min_four
set_option linter.unusedVariables false
set_option linter.unusedSimpArgs false
mutual
def ranges_Set_Less.l0 : Nat → List (S48) → Int → List (S48) → Int → Int → List (S48) → Option ((List (S48)))
 | 0, _, _, _, _, _, _ => none
 | k + 1, x5, x6, x11, x12, x13, x187000 => if x13 < x12 then (if 0 ≤ x13 then (if x13 < (x11.length : Int) then (ranges_Set_Less.l1 k x5 x6 x11 x12 x13 x187000 ((rd_T48 x11 x13).f0) ((rd_T48 x11 x13).f1)) else (none)) else (none)) else (some x5)
def ranges_Set_Less.j2 : Nat → List (S48) → Int → List (S48) → Int → Int → List (S48) → Int → Int → Option ((List (S48)))
 | 0, _, _, _, _, _, _, _, _ => none
 | k + 1, x5, x6, x11, x12, x13, x187000, x190000, x190001 => ranges_Set_Less.l2 k x5 x6 x6 x11 x12 x13 x187000 x190000 x190001
def ranges_Set_Less.l2 : Nat → List (S48) → Int → Int → List (S48) → Int → Int → List (S48) → Int → Int → Option ((List (S48)))
 | 0, _, _, _, _, _, _, _, _, _ => none
 | k + 1, x5, x6, x9, x11, x12, x13, x187000, x190000, x190001 => if x9 < (x187000.length : Int) then (if 0 ≤ x9 then (ranges_Set_Less.j4 k x5 x6 x9 x11 x12 x13 (decide (((rd_T48 x187000 x9).f0) < x190001)) x187000 x190000 x190001) else (none)) else (ranges_Set_Less.j4 k x5 x6 x9 x11 x12 x13 false x187000 x190000 x190001)
def ranges_Set_Less.j4 : Nat → List (S48) → Int → Int → List (S48) → Int → Int → Bool → List (S48) → Int → Int → Option ((List (S48)))
 | 0, _, _, _, _, _, _, _, _, _, _ => none
 | k + 1, x5, x6, x9, x11, x12, x13, x51, x187000, x190000, x190001 => if x51 = true then (if 0 ≤ x9 then (if x9 < (x187000.length : Int) then (if ((rd_T48 x187000 x9).f0) > x190000 then (if x5.length < 8796093022208 then (ranges_Set_Less.l2 k (x5 ++ [(⟨x190000, (rd_T48 x187000 x9).f0⟩ : S48)]) x6 (wrap64 (x9 + 1)) x11 x12 x13 x187000 (mn ((rd_T48 x187000 x9).f1) x190001) x190001) else (none)) else (ranges_Set_Less.l2 k x5 x6 (wrap64 (x9 + 1)) x11 x12 x13 x187000 (mn ((rd_T48 x187000 x9).f1) x190001) x190001)) else (none)) else (none)) else (if x190000 < x190001 then (if x5.length < 8796093022208 then (ranges_Set_Less.l0 k (x5 ++ [(⟨x190000, x190001⟩ : S48)]) x6 x11 x12 (wrap64 (x13 + 1)) x187000) else (none)) else (ranges_Set_Less.l0 k x5 x6 x11 x12 (wrap64 (x13 + 1)) x187000))
def ranges_Set_Less.l1 : Nat → List (S48) → Int → List (S48) → Int → Int → List (S48) → Int → Int → Option ((List (S48)))
 | 0, _, _, _, _, _, _, _, _ => none
 | k + 1, x5, x6, x11, x12, x13, x187000, x190000, x190001 => if x6 < (x187000.length : Int) then (if 0 ≤ x6 then (if ((rd_T48 x187000 x6).f1) ≤ x190000 then (ranges_Set_Less.l1 k x5 (wrap64 (x6 + 1)) x11 x12 x13 x187000 x190000 x190001) else (ranges_Set_Less.j2 k x5 x6 x11 x12 x13 x187000 x190000 x190001)) else (none)) else (ranges_Set_Less.j2 k x5 x6 x11 x12 x13 x187000 x190000 x190001)
end
def ranges_Set_Less.f (k : Nat) (l0_0 : List (S48)) (l1_0 : List (S48)) : Option ((List (S48))) := ranges_Set_Less.l0 k ([] : List (S48)) 0 l0_0 (l0_0.length : Int) 0 l1_0
theorem ranges_Set_Less.mono_l : ∀ k, (∀ y0 y1 y2 y3 y4 y5, LeO (ranges_Set_Less.l0 k y0 y1 y2 y3 y4 y5) (ranges_Set_Less.l0 (k + 1) y0 y1 y2 y3 y4 y5)) ∧ (∀ y0 y1 y2 y3 y4 y5 y6 y7, LeO (ranges_Set_Less.j2 k y0 y1 y2 y3 y4 y5 y6 y7) (ranges_Set_Less.j2 (k + 1) y0 y1 y2 y3 y4 y5 y6 y7)) ∧ (∀ y0 y1 y2 y3 y4 y5 y6 y7 y8, LeO (ranges_Set_Less.l2 k y0 y1 y2 y3 y4 y5 y6 y7 y8) (ranges_Set_Less.l2 (k + 1) y0 y1 y2 y3 y4 y5 y6 y7 y8)) ∧ (∀ y0 y1 y2 y3 y4 y5 y6 y7 y8 y9, LeO (ranges_Set_Less.j4 k y0 y1 y2 y3 y4 y5 y6 y7 y8 y9) (ranges_Set_Less.j4 (k + 1) y0 y1 y2 y3 y4 y5 y6 y7 y8 y9)) ∧ (∀ y0 y1 y2 y3 y4 y5 y6 y7, LeO (ranges_Set_Less.l1 k y0 y1 y2 y3 y4 y5 y6 y7) (ranges_Set_Less.l1 (k + 1) y0 y1 y2 y3 y4 y5 y6 y7))
 | 0 => ⟨fun _ _ _ _ _ _ r h => by simp [ranges_Set_Less.l0] at h, fun _ _ _ _ _ _ _ _ r h => by simp [ranges_Set_Less.j2] at h, fun _ _ _ _ _ _ _ _ _ r h => by simp [ranges_Set_Less.l2] at h, fun _ _ _ _ _ _ _ _ _ _ r h => by simp [ranges_Set_Less.j4] at h, fun _ _ _ _ _ _ _ _ r h => by simp [ranges_Set_Less.l1] at h⟩
 | k + 1 => by
  obtain ⟨ih0, ih1, ih2, ih3, ih4⟩ := ranges_Set_Less.mono_l k
  refine ⟨?_, ?_, ?_, ?_, ?_⟩
  ·intro y0 y1 y2 y3 y4 y5
   unfold ranges_Set_Less.l0
   repeat' first
   | with_reducible apply ih0
   | with_reducible apply ih1
   | with_reducible apply ih2
   | with_reducible apply ih3
   | with_reducible apply ih4
   | with_reducible apply LeO.refl
   | with_reducible apply LeO.none
   | with_reducible refine LeO.ite ?_ ?_
   | with_reducible refine LeO.bind ?_ (fun _ => ?_)
  ·intro y0 y1 y2 y3 y4 y5 y6 y7
   unfold ranges_Set_Less.j2
   repeat' first
   | with_reducible apply ih0
   | with_reducible apply ih1
   | with_reducible apply ih2
   | with_reducible apply ih3
   | with_reducible apply ih4
   | with_reducible apply LeO.refl
   | with_reducible apply LeO.none
   | with_reducible refine LeO.ite ?_ ?_
   | with_reducible refine LeO.bind ?_ (fun _ => ?_)
  ·intro y0 y1 y2 y3 y4 y5 y6 y7 y8
   unfold ranges_Set_Less.l2
   repeat' first
   | with_reducible apply ih0
   | with_reducible apply ih1
   | with_reducible apply ih2
   | with_reducible apply ih3
   | with_reducible apply ih4
   | with_reducible apply LeO.refl
   | with_reducible apply LeO.none
   | with_reducible refine LeO.ite ?_ ?_
   | with_reducible refine LeO.bind ?_ (fun _ => ?_)
  ·intro y0 y1 y2 y3 y4 y5 y6 y7 y8 y9
   unfold ranges_Set_Less.j4
   repeat' first
   | with_reducible apply ih0
   | with_reducible apply ih1
   | with_reducible apply ih2
   | with_reducible apply ih3
   | with_reducible apply ih4
   | with_reducible apply LeO.refl
   | with_reducible apply LeO.none
   | with_reducible refine LeO.ite ?_ ?_
   | with_reducible refine LeO.bind ?_ (fun _ => ?_)
  ·intro y0 y1 y2 y3 y4 y5 y6 y7
   unfold ranges_Set_Less.l1
   repeat' first
   | with_reducible apply ih0
   | with_reducible apply ih1
   | with_reducible apply ih2
   | with_reducible apply ih3
   | with_reducible apply ih4
   | with_reducible apply LeO.refl
   | with_reducible apply LeO.none
   | with_reducible refine LeO.ite ?_ ?_
   | with_reducible refine LeO.bind ?_ (fun _ => ?_)
theorem ranges_Set_Less.mono : ∀ a0 a1 k, LeO (ranges_Set_Less.f k a0 a1) (ranges_Set_Less.f (k + 1) a0 a1) := by
 intro a0 a1 k
 obtain ⟨ih0, ih1, ih2, ih3, ih4⟩ := ranges_Set_Less.mono_l k
 unfold ranges_Set_Less.f
 repeat' first
   | with_reducible apply ih0
   | with_reducible apply ih1
   | with_reducible apply ih2
   | with_reducible apply ih3
   | with_reducible apply ih4
   | with_reducible apply LeO.refl
   | with_reducible apply LeO.none
   | with_reducible refine LeO.ite ?_ ?_
   | with_reducible refine LeO.bind ?_ (fun _ => ?_)
def ranges_Set_Less.T6 : Bool × List (List Nat × List Nat) := (true, [([], []), ([], []), ([1], [1]), ([2], [2]), ([0, 3], [0, 3]), ([4], [4]), ([5], [5]), ([6, 5], [5, 6]), ([5], [5]), ([7, 8, 5], [5, 7, 8]), ([9, 5], [5, 9]), ([10, 5], [5, 10]), ([5], [5]), ([12, 5], [5, 12]), ([11, 13, 5], [5, 11, 13]), ([5, 14], [5, 14])])
def ranges_Set_Less.B6 : List Nat := [0, 0, 2, 6, 15, 31, 63, 127, 63, 511, 1023, 2047, 63, 4159, 16383, 32767]
theorem ranges_Set_Less.tab6 : rtab .any (opsOf Try.f28 6) = ranges_Set_Less.T6 := by kernel_rfl
theorem ranges_Set_Less.bits6 : waitsOk ranges_Set_Less.T6.2 ranges_Set_Less.B6 = true := by kernel_rfl
def ranges_Set_Less.T9 : Bool × List (List Nat × List Nat) := (true, [([], []), ([], []), ([1], [1]), ([2], [2]), ([0, 3], [0, 3]), ([4], [4]), ([5], [5]), ([6, 5], [5, 6]), ([5], [5]), ([7, 8, 5], [5, 7, 8]), ([9, 5], [5, 9]), ([10, 5], [5, 10]), ([5], [5]), ([12, 5], [5, 12]), ([11, 13, 5], [5, 11, 13]), ([5, 14], [5, 14])])
def ranges_Set_Less.B9 : List Nat := [0, 0, 2, 6, 15, 31, 63, 127, 63, 511, 1023, 2047, 63, 4159, 16383, 32767]
theorem ranges_Set_Less.tab9 : rtab .any (opsOf Try.f28 9) = ranges_Set_Less.T9 := by kernel_rfl
theorem ranges_Set_Less.bits9 : waitsOk ranges_Set_Less.T9.2 ranges_Set_Less.B9 = true := by kernel_rfl
def ranges_Set_Less.T11 : Bool × List (List Nat × List Nat) := (true, [([], []), ([0], [0]), ([], []), ([1, 2], [1, 2]), ([3], [3]), ([4], [4]), ([], []), ([6], [6]), ([5, 7], [5, 7])])
def ranges_Set_Less.B11 : List Nat := [0, 1, 0, 7, 15, 31, 0, 64, 255]
theorem ranges_Set_Less.tab11 : rtab .any (opsOf Try.f28 11) = ranges_Set_Less.T11 := by kernel_rfl
theorem ranges_Set_Less.bits11 : waitsOk ranges_Set_Less.T11.2 ranges_Set_Less.B11 = true := by kernel_rfl
def ranges_Set_Less.T12 : Bool × List (List Nat × List Nat) := (true, [([], []), ([], []), ([1], [1]), ([], []), ([3], [3]), ([], []), ([4, 5], [4, 5]), ([6], [6]), ([7], [7]), ([2, 8], [2, 8]), ([9], [9]), ([0, 10], [0, 10]), ([11, 11, 0, 1, 2, 3, 4, 5, 6, 7, 8, 9, 10, 11], [0, 11])])
def ranges_Set_Less.B12 : List Nat := [0, 0, 2, 0, 8, 0, 56, 120, 248, 510, 1022, 2047, 4095]
theorem ranges_Set_Less.tab12 : rtab .any (opsOf Try.f28 12) = ranges_Set_Less.T12 := by kernel_rfl
theorem ranges_Set_Less.bits12 : waitsOk ranges_Set_Less.T12.2 ranges_Set_Less.B12 = true := by kernel_rfl
def ranges_Set_Less.T13 : Bool × List (List Nat × List Nat) := (true, [([], []), ([0], [0]), ([], []), ([1, 2], [1, 2]), ([3], [3]), ([4], [4]), ([], []), ([6], [6]), ([5, 7], [5, 7]), ([0, 1, 2, 3, 4, 5, 6, 7, 8], []), ([9, 8, 0, 1, 2, 3, 4, 5, 6, 7, 8], [8, 9])])
def ranges_Set_Less.B13 : List Nat := [0, 1, 0, 7, 15, 31, 0, 64, 255, 511, 1023]
theorem ranges_Set_Less.tab13 : rtab .any (opsOf Try.f28 13) = ranges_Set_Less.T13 := by kernel_rfl
theorem ranges_Set_Less.bits13 : waitsOk ranges_Set_Less.T13.2 ranges_Set_Less.B13 = true := by kernel_rfl
set_option maxHeartbeats 8000000 in
set_option maxRecDepth 100000 in
theorem ranges_Set_Less.calls (k : Nat) (A0_0 : Option Addr) (c0_0 : Nat) (l0_0 : List (S48)) (A1_0 : Option Addr) (c1_0 : Nat) (l1_0 : List (S48)) (r : List (S48)) (w : World) (hr0_0 : Kd.C k48 w A0_0 l0_0.length l0_0) (hc0_0 : l0_0.length ≤ c0_0) (hr1_0 : Kd.C k48 w A1_0 l1_0.length l1_0) (hc1_0 : l1_0.length ≤ c1_0) (h : ranges_Set_Less.f k l0_0 l1_0 = some r) :
  Calls Try.prog 28 #[.agg #[.slice A0_0 l0_0.length c0_0], .agg #[.slice A1_0 l1_0.length c1_0]] w fun e w' => ∃ v0_ : Value, e = .returned (.agg #[v0_]) ∧ Kd.R k48 48 w' w.heap.size (fun _ => True) v0_ r ∧ Below w.heap.size w w' := by
 have hu30 := Try.underlying30
 have hu48 := Try.underlying48
 have HR0_0 := Aside0.mk hr0_0
 have HC0_0 := Aside0.mk hc0_0
 clear hr0_0 hc0_0
 have HR1_0 := Aside0.mk hr1_0
 have HC1_0 := Aside0.mk hc1_0
 clear hr1_0 hc1_0
 have HB := Aside0.mk (Below.refl w.heap.size w)
 unfold ranges_Set_Less.f at h
 have H := h
 clear h
 have H' := Aside0.mk H
 clear H
 go_enter Try.func28, Try.ntmps28
 go_wp2_with (first | ((with_reducible refine gate_dst (N := 2) rfl ?_); refine bX (N := 2) (cs := #[.slice A0_0 l0_0.length c0_0]) (t := 30) ?_; intro gb185 hg w3 hbox hb; have BK185 := Aside0.mk (hbox); have GE185 := sG HB hg; replace HB := sL HB hb; clear hb hbox hg) | ((with_reducible refine gate_dst (N := 3) rfl ?_); refine bX (N := 3) (cs := #[.slice A1_0 l1_0.length c1_0]) (t := 30) ?_; intro gb186 hg w4 hbox hb; have BK186 := Aside0.mk (hbox); have GE186 := sG HB hg; have NB185_186 := sN BK185 hg; have NB186_185 := sM BK185 hg; replace BK185 := sB BK185 hb; replace HB := sL HB hb; clear hb hbox hg) | ((with_reducible refine gate_dst (N := 4) rfl ?_); refine bX (N := 4) (cs := #[.slice none 0 0]) (t := 30) ?_; intro gb187 hg w5 hbox hb; have BK187 := Aside0.mk (hbox); have GE187 := sG HB hg; have NB185_187 := sN BK185 hg; have NB187_185 := sM BK185 hg; have NB186_187 := sN BK186 hg; have NB187_186 := sM BK186 hg; replace BK185 := sB BK185 hb; replace BK186 := sB BK186 hb; replace HB := sL HB hb; clear hb hbox hg; have hnb6 := NB185_186.out; have hnc6 := NB186_185.out; have hnb7 := NB185_187.out; have hnc7 := NB187_185.out; have hcz8_0 := q1 BK185; have hfz8_0 := blk_frozen BK185.out 0))
 go_loopg [5, 6, 13] k (fun kq v5 v6 v13 w' => ∃ (x5_1 : List (S48)) (x6_1 : Int) (x13_1 : Int), v6 = .int .i64 x6_1 ∧ v13 = .int .i64 x13_1 ∧ Aside0 (ranges_Set_Less.l0 kq x5_1 x6_1 l0_0 (l0_0.length : Int) x13_1 l1_0 = some r) ∧ Aside0 (kq ≤ k) ∧ Aside0 (Kd.R k48 48 w' w.heap.size (fun _ => True) v5 x5_1) ∧ Aside0 (w'.heap[gb185]? = some (.cells #[(.slice A0_0 l0_0.length c0_0)] 30 (0, 0))) ∧ Aside0 (w'.heap[gb186]? = some (.cells #[(.slice A1_0 l1_0.length c1_0)] 30 (0, 0))) ∧ Aside0 (w'.heap[gb187]? = some (.cells #[(.slice none 0 0)] 30 (0, 0))) ∧ Aside0 (Below w.heap.size w w'))
 case atStart => exact ⟨(([] : List (S48))), (0), (0), eR, eR, H', ⟨Nat.le_refl _⟩, ⟨by first | exact Kd.R_nil _ _ _ _ _ | exact Kd.N_nil _ _ _ _ _ | exact Kd.V_nil _ _ _ _ _ | exact Kd.Q_nil _ _ _ _ _ | exact Kd.S_nil _ _ _ _ _⟩, ⟨bU BK185⟩, ⟨bU BK186⟩, ⟨bU BK187⟩, ⟨lU HB⟩⟩
 case round =>
  clear H'
  try clear c1
  try clear c2
  try clear p2
  try clear c6
  try clear c7
  try clear hcz8_0
  try clear hfz8_0
  obtain ⟨x5_1, x6_1, x13_1, rfl, rfl, HA, HK1, HO_5, BK185, BK186, BK187, HB⟩ := hrel
  cases gk with
  | zero => exact absurd HA.out (by simp [ranges_Set_Less.l0])
  | succ k1 =>
   have H := HA.out
   clear HA
   simp only [ranges_Set_Less.l0] at H
   by_cases c9 : x13_1 < (l0_0.length : Int)
   ·rw [if_pos c9] at H
    have c9b0 : decide (x13_1 < (l0_0.length : Int)) = true := decide_eq_true c9
    clear c9
    by_cases c10 : 0 ≤ x13_1
    ·rw [if_pos c10] at H
     have c10b0 : decide (0 ≤ x13_1) = true := decide_eq_true c10
     clear c10
     by_cases c11 : x13_1 < (l0_0.length : Int)
     ·rw [if_pos c11] at H
      have c11b0 : decide (x13_1 < (l0_0.length : Int)) = true := decide_eq_true c11
      clear c11
      have HC12 := Aside0.mk H
      clear H
      have p188 : 0 ≤ (x13_1 : Int) := of_decide_eq_true (by first | (with_reducible assumption) | assumption)
      have q188 : x13_1 < (l0_0.length : Int) := of_decide_eq_true (by first | (with_reducible assumption) | assumption)
      obtain ⟨ad188, e188, hx188_0, hx188_1⟩ := at_T48 HR0_0.out x13_1 p188 q188
      cases e188
      replace hx188_0 := cB HB hx188_0
      replace hx188_1 := cB HB hx188_1
      replace p188 := eq_true p188
      replace q188 := eq_true q188
      go_upto_block 2 with (first | ((with_reducible refine gate_dst (N := 8) rfl ?_); refine bX (N := 8) (cs := #[.int .i64 0, .int .i64 0]) (t := 48) ?_; intro gb189 hg w13 hbox hb; have BK189 := Aside0.mk (hbox); have GE189 := sG HB hg; have NB185_189 := sN BK185 hg; have NB189_185 := sM BK185 hg; have NB186_189 := sN BK186 hg; have NB189_186 := sM BK186 hg; have NB187_189 := sN BK187 hg; have NB189_187 := sM BK187 hg; replace HO_5 := Aside0.mk (Kd.R_below (Kd.R_elderB (rU HO_5.out) gb189 (Nat.le_of_eq hg.symm)) hb); replace BK185 := sB BK185 hb; replace BK186 := sB BK186 hb; replace BK187 := sB BK187 hb; replace HB := sL HB hb; clear hb hbox hg; have hnb14 := NB189_185.out; have hnc14 := NB185_189.out; have hnb15 := NB189_186.out; have hnc15 := NB186_189.out; have hnb16 := NB189_187.out; have hnc16 := NB187_189.out; obtain ⟨hcz17_0, hcz17_1⟩ := q2 BK189; obtain ⟨hfz17_0, hfz17_1⟩ := z2 BK189))
      (try simp only [Act.put, List.setIfInBounds_toArray, List.set_cons_zero, List.set_cons_succ])
      go_cut [6] (fun v6 wc => ∃ (kq : Nat) (x6_11 : Int), v6 = .int .i64 x6_11 ∧ Aside0 (ranges_Set_Less.j2 kq x5_1 x6_11 l0_0 (l0_0.length : Int) x13_1 l1_0 ((rd_T48 l0_0 x13_1).f0) ((rd_T48 l0_0 x13_1).f1) = some r) ∧ Aside0 (kq ≤ k1) ∧ Aside0 (Kd.R k48 48 wc w.heap.size (fun k_ => k_ ≠ gb189) u5 x5_1) ∧ Aside0 (wc.heap[gb185]? = some (.cells #[(.slice (some ad188) l0_0.length c0_0)] 30 (0, 0))) ∧ Aside0 (wc.heap[gb186]? = some (.cells #[(.slice A1_0 l1_0.length c1_0)] 30 (0, 0))) ∧ Aside0 (wc.heap[gb187]? = some (.cells #[(.slice none 0 0)] 30 (0, 0))) ∧ Aside0 (wc.heap[gb189]? = some (.cells #[.int .i64 ((rd_T48 l0_0 x13_1).f0), .int .i64 ((rd_T48 l0_0 x13_1).f1)] 48 (0, 0))) ∧ Aside0 (Below w.heap.size w wc))
      case first =>
       have H := HC12.out
       clear HC12
       have H' := Aside0.mk H
       clear H
       go_wp2
       go_loopg [6] k1 (fun kq v6 w' => ∃ (x6_2 : Int), v6 = .int .i64 x6_2 ∧ Aside0 (ranges_Set_Less.l1 kq x5_1 x6_2 l0_0 (l0_0.length : Int) x13_1 l1_0 ((rd_T48 l0_0 x13_1).f0) ((rd_T48 l0_0 x13_1).f1) = some r) ∧ Aside0 (kq ≤ k1) ∧ Aside0 (Kd.R k48 48 w' w.heap.size (fun k_ => k_ ≠ gb189) u5 x5_1) ∧ Aside0 (w'.heap[gb185]? = some (.cells #[(.slice (some ad188) l0_0.length c0_0)] 30 (0, 0))) ∧ Aside0 (w'.heap[gb186]? = some (.cells #[(.slice A1_0 l1_0.length c1_0)] 30 (0, 0))) ∧ Aside0 (w'.heap[gb187]? = some (.cells #[(.slice none 0 0)] 30 (0, 0))) ∧ Aside0 (w'.heap[gb189]? = some (.cells #[.int .i64 ((rd_T48 l0_0 x13_1).f0), .int .i64 ((rd_T48 l0_0 x13_1).f1)] 48 (0, 0))) ∧ Aside0 (Below w.heap.size w w'))
       case atStart => exact ⟨(x6_1), eR, H', ⟨Nat.le_refl _⟩, ⟨rU (Kd.R_mono (Kd.R_far (p := ⟨gb189, 1, none⟩) (Kd.R_far (p := ⟨gb189, 0, none⟩) (Kd.R_mono HO_5.out (fun k_ hk => (⟨hk, hk.2⟩ : _ ∧ k_ ≠ gb189))) (fun _ hk => hk.2) (.int .i64 ((rd_T48 l0_0 x13_1).f0))) (fun _ hk => hk.2) (.int .i64 ((rd_T48 l0_0 x13_1).f1))) (fun _ hk => hk.1.2))⟩, ⟨bF BK185⟩, ⟨bF BK186⟩, ⟨bF BK187⟩, ⟨by (with_reducible repeat (first | refine blk_drewN ?_ _ | refine blk_drew ?_ | refine blk_alloc ?_ _)); refine blk_put (cs := #[.int .i64 ((rd_T48 l0_0 x13_1).f0), .int .i64 0]) ?_ 1 _ rfl; (with_reducible repeat (first | refine blk_drewN ?_ _ | refine blk_drew ?_ | refine blk_alloc ?_ _)); refine blk_put (cs := #[.int .i64 0, .int .i64 0]) ?_ 0 _ rfl; (with_reducible repeat (first | refine blk_drewN ?_ _ | refine blk_drew ?_ | refine blk_alloc ?_ _)); exact BK189.out⟩, ⟨lU HB⟩⟩
       case round =>
        clear H'
        try clear c1
        try clear p1
        try clear q1
        try clear hx1
        try clear c2
        try clear p2
        try clear c6
        try clear c7
        try clear c9
        try clear c9b0
        try clear c10
        try clear c10b0
        try clear c11
        try clear c11b0
        try clear c14
        try clear c15
        try clear c16
        try clear hcz17_0
        try clear hcz17_1
        try clear hcz8_0
        try clear hfz17_0
        try clear hfz17_1
        try clear hfz8_0
        try clear hx188_0
        try clear hx188_1
        try clear p188
        try clear p2
        try clear q188
        obtain ⟨x6_2, rfl, HA, HK2, HO_5, BK185, BK186, BK187, BK189, HB⟩ := hrel
        cases gk with
        | zero => exact absurd HA.out (by simp [ranges_Set_Less.l1])
        | succ k2 =>
         have H := HA.out
         clear HA
         simp only [ranges_Set_Less.l1] at H
         by_cases c18 : x6_2 < (l1_0.length : Int)
         ·rw [if_pos c18] at H
          have c18b0 : decide (x6_2 < (l1_0.length : Int)) = true := decide_eq_true c18
          clear c18
          (first | rw [c18b0] | (simp only [i64_w, i32_w]; rw [c18b0]) | skip)
          by_cases c19 : 0 ≤ x6_2
          ·rw [if_pos c19] at H
           have c19b0 : decide (0 ≤ x6_2) = true := decide_eq_true c19
           clear c19
           by_cases c20 : ((rd_T48 l1_0 x6_2).f1) ≤ ((rd_T48 l0_0 x13_1).f0)
           ·rw [if_pos c20] at H
            have c20b0 : decide (((rd_T48 l1_0 x6_2).f1) ≤ ((rd_T48 l0_0 x13_1).f0)) = true := decide_eq_true c20
            clear c20
            have H' := Aside0.mk H
            clear H
            try go_wp2
            replace HO_5 := Aside0.mk (Kd.R_drew HO_5.out)
            replace BK185 := Aside0.mk (blk_drew BK185.out)
            replace BK186 := Aside0.mk (blk_drew BK186.out)
            replace BK187 := Aside0.mk (blk_drew BK187.out)
            replace BK189 := Aside0.mk (blk_drew BK189.out)
            replace HB := Aside0.mk (below_drew1 HB.out)
            have p190 : 0 ≤ (x6_2 : Int) := of_decide_eq_true (by first | (with_reducible assumption) | assumption)
            have q190 : x6_2 < (l1_0.length : Int) := of_decide_eq_true (by first | (with_reducible assumption) | assumption)
            obtain ⟨ad190, e190, hx190_0, hx190_1⟩ := at_T48 HR1_0.out x6_2 p190 q190
            have hw190_1 := hx190_1
            have hw190_0 := hx190_0
            cases e190
            replace hx190_0 := cB HB hx190_0
            replace hx190_1 := cB HB hx190_1
            replace p190 := eq_true p190
            replace q190 := eq_true q190
            refine start_ (n := 16) (S := fun w' => w'.cell? ⟨gb186, 0, none⟩ = some (.slice (some ad190) l1_0.length c1_0) ∧ w'.cell? ⟨gb189, 0, none⟩ = some (.int .i64 ((rd_T48 l0_0 x13_1).f0)) ∧ w'.cell? ⟨gb189, 1, none⟩ = some (.int .i64 ((rd_T48 l0_0 x13_1).f1)) ∧ w'.cell? (ad190.add ((x6_2).toNat * 2)) = some (.int .i64 ((rd_T48 l1_0 x6_2).f0)) ∧ w'.cell? ⟨(ad190.add ((x6_2).toNat * 2)).block, (ad190.add ((x6_2).toNat * 2)).off + 1, none⟩ = some (.int .i64 ((rd_T48 l1_0 x6_2).f1))) (ds := []) #[false, false, false, false, false, false, false, false, false, false, false, false, false, false, false, false] (by kernel_rfl) rfl rfl ⟨(blk_cell BK186.out 0).trans rfl, (blk_cell BK189.out 0).trans rfl, (blk_cell BK189.out 1).trans rfl, (cB HB hw190_0), (cB HB hw190_1)⟩ (fun hHeld => ?_); refine with_tabW ranges_Set_Less.tab6 ranges_Set_Less.bits6 (fun HT_ HW_ => ?_)
            generalize wr.drew = w21 at HO_5 BK185 BK186 BK187 BK189 HB hx190_0 hx190_1 hHeld ⊢
            refine pS (i := 0) (N := some 17) (ma 16 1) rfl rfl HT_.out ?_
            refine pS (i := 1) (N := some 18) (ma 16 3) rfl rfl HT_.out ?_
            refine tS (i := 2) (N := some 19) (ma 16 7) rfl rfl HT_.out HW_.out hHeld ?_
            refine pS (i := 3) (N := some 20) (ma 16 15) rfl rfl HT_.out ?_
            refine pS (i := 4) (N := some 21) (ma 16 31) rfl rfl HT_.out ?_
            refine pS (i := 5) (N := some 22) (ma 16 63) rfl rfl HT_.out ?_
            refine pS (i := 6) (N := some 23) (ma 16 127) rfl rfl HT_.out ?_
            refine pS (i := 8) (N := some 25) (ma 16 383) rfl rfl HT_.out ?_
            refine pS (i := 12) (N := some 29) (ma 16 4479) rfl rfl HT_.out ?_
            refine tS (i := 7) (N := some 24) (ma 16 4607) rfl rfl HT_.out HW_.out hHeld ?_
            refine pS (i := 9) (N := some 26) (ma 16 5119) rfl rfl HT_.out ?_
            refine pS (i := 10) (N := some 27) (ma 16 6143) rfl rfl HT_.out ?_
            refine tS (i := 11) (N := some 28) (ma 16 8191) rfl rfl HT_.out HW_.out hHeld ?_
            refine tS (i := 13) (N := some 30) (ma 16 16383) rfl rfl HT_.out HW_.out hHeld ?_
            refine pS (i := 14) (N := some 31) (ma 16 32767) rfl rfl HT_.out ?_
            refine pS (i := 15) (N := some 32) (ma 16 65535) rfl rfl HT_.out ?_
            refine done_ (done_of HT_.out (by kernel_rfl)) ?_
            try go_wp2
            go_roundg k2
            case measure => have := HK1.out; have := HK2.out; omega
            case rel => exact ⟨(wrap64 (x6_2 + 1)), eR, H', ⟨by have := HK1.out; have := HK2.out; omega⟩, ⟨rU HO_5.out⟩, ⟨bU BK185⟩, ⟨bU BK186⟩, ⟨bU BK187⟩, ⟨bU BK189⟩, ⟨lU HB⟩⟩
           ·rw [if_neg c20] at H
            have c20b0 : decide (((rd_T48 l1_0 x6_2).f1) ≤ ((rd_T48 l0_0 x13_1).f0)) = false := decide_eq_false c20
            clear c20
            have H' := Aside0.mk H
            clear H
            try go_wp2
            replace HO_5 := Aside0.mk (Kd.R_drew HO_5.out)
            replace BK185 := Aside0.mk (blk_drew BK185.out)
            replace BK186 := Aside0.mk (blk_drew BK186.out)
            replace BK187 := Aside0.mk (blk_drew BK187.out)
            replace BK189 := Aside0.mk (blk_drew BK189.out)
            replace HB := Aside0.mk (below_drew1 HB.out)
            have p190 : 0 ≤ (x6_2 : Int) := of_decide_eq_true (by first | (with_reducible assumption) | assumption)
            have q190 : x6_2 < (l1_0.length : Int) := of_decide_eq_true (by first | (with_reducible assumption) | assumption)
            obtain ⟨ad190, e190, hx190_0, hx190_1⟩ := at_T48 HR1_0.out x6_2 p190 q190
            have hw190_1 := hx190_1
            have hw190_0 := hx190_0
            cases e190
            replace hx190_0 := cB HB hx190_0
            replace hx190_1 := cB HB hx190_1
            replace p190 := eq_true p190
            replace q190 := eq_true q190
            refine start_ (n := 16) (S := fun w' => w'.cell? ⟨gb186, 0, none⟩ = some (.slice (some ad190) l1_0.length c1_0) ∧ w'.cell? ⟨gb189, 0, none⟩ = some (.int .i64 ((rd_T48 l0_0 x13_1).f0)) ∧ w'.cell? ⟨gb189, 1, none⟩ = some (.int .i64 ((rd_T48 l0_0 x13_1).f1)) ∧ w'.cell? (ad190.add ((x6_2).toNat * 2)) = some (.int .i64 ((rd_T48 l1_0 x6_2).f0)) ∧ w'.cell? ⟨(ad190.add ((x6_2).toNat * 2)).block, (ad190.add ((x6_2).toNat * 2)).off + 1, none⟩ = some (.int .i64 ((rd_T48 l1_0 x6_2).f1))) (ds := []) #[false, false, false, false, false, false, false, false, false, false, false, false, false, false, false, false] (by kernel_rfl) rfl rfl ⟨(blk_cell BK186.out 0).trans rfl, (blk_cell BK189.out 0).trans rfl, (blk_cell BK189.out 1).trans rfl, (cB HB hw190_0), (cB HB hw190_1)⟩ (fun hHeld => ?_); refine with_tabW ranges_Set_Less.tab6 ranges_Set_Less.bits6 (fun HT_ HW_ => ?_)
            generalize wr.drew = w22 at HO_5 BK185 BK186 BK187 BK189 HB hx190_0 hx190_1 hHeld ⊢
            refine pS (i := 0) (N := some 17) (ma 16 1) rfl rfl HT_.out ?_
            refine pS (i := 1) (N := some 18) (ma 16 3) rfl rfl HT_.out ?_
            refine tS (i := 2) (N := some 19) (ma 16 7) rfl rfl HT_.out HW_.out hHeld ?_
            refine pS (i := 3) (N := some 20) (ma 16 15) rfl rfl HT_.out ?_
            refine pS (i := 4) (N := some 21) (ma 16 31) rfl rfl HT_.out ?_
            refine pS (i := 5) (N := some 22) (ma 16 63) rfl rfl HT_.out ?_
            refine pS (i := 6) (N := some 23) (ma 16 127) rfl rfl HT_.out ?_
            refine pS (i := 8) (N := some 25) (ma 16 383) rfl rfl HT_.out ?_
            refine pS (i := 12) (N := some 29) (ma 16 4479) rfl rfl HT_.out ?_
            refine tS (i := 7) (N := some 24) (ma 16 4607) rfl rfl HT_.out HW_.out hHeld ?_
            refine pS (i := 9) (N := some 26) (ma 16 5119) rfl rfl HT_.out ?_
            refine pS (i := 10) (N := some 27) (ma 16 6143) rfl rfl HT_.out ?_
            refine tS (i := 11) (N := some 28) (ma 16 8191) rfl rfl HT_.out HW_.out hHeld ?_
            refine tS (i := 13) (N := some 30) (ma 16 16383) rfl rfl HT_.out HW_.out hHeld ?_
            refine pS (i := 14) (N := some 31) (ma 16 32767) rfl rfl HT_.out ?_
            refine pS (i := 15) (N := some 32) (ma 16 65535) rfl rfl HT_.out ?_
            refine done_ (done_of HT_.out (by kernel_rfl)) ?_
            try go_wp2
            go_meet
            case rel => exact ⟨_, (x6_2), eR, H', ⟨by have := HK1.out; have := HK2.out; first | omega | exact Nat.le_refl _⟩, ⟨rU HO_5.out⟩, ⟨bU BK185⟩, ⟨bU BK186⟩, ⟨bU BK187⟩, ⟨bU BK189⟩, ⟨lU HB⟩⟩
          ·rw [if_neg c19] at H
           exact absurd H (by simp)
         ·rw [if_neg c18] at H
          have c18b0 : decide (x6_2 < (l1_0.length : Int)) = false := decide_eq_false c18
          clear c18
          (first | rw [c18b0] | (simp only [i64_w, i32_w]; rw [c18b0]) | skip)
          have H' := Aside0.mk H
          clear H
          try go_wp2
          replace HO_5 := Aside0.mk (Kd.R_drew HO_5.out)
          replace BK185 := Aside0.mk (blk_drew BK185.out)
          replace BK186 := Aside0.mk (blk_drew BK186.out)
          replace BK187 := Aside0.mk (blk_drew BK187.out)
          replace BK189 := Aside0.mk (blk_drew BK189.out)
          replace HB := Aside0.mk (below_drew1 HB.out)
          refine start_ (n := 16) (S := fun w' => w'.cell? ⟨gb186, 0, none⟩ = some (.slice A1_0 l1_0.length c1_0)) (ds := []) #[false, false, false, false, false, false, false, false, false, false, false, false, false, false, false, false] (by kernel_rfl) rfl rfl ((blk_cell BK186.out 0).trans rfl) (fun hHeld => ?_); refine with_tabW ranges_Set_Less.tab6 ranges_Set_Less.bits6 (fun HT_ HW_ => ?_)
          generalize wr.drew = w23 at HO_5 BK185 BK186 BK187 BK189 HB hHeld ⊢
          refine pS (i := 0) (N := some 17) (ma 16 1) rfl rfl HT_.out ?_
          refine pS (i := 1) (N := some 18) (ma 16 3) rfl rfl HT_.out ?_
          refine take_ (i := 2) (N := some 19) (v := ?_) (a' := ?_) #[true, true, true, false, false, false, false, false, false, false, false, false, false, false, false, false] rfl rfl (take_ofW HT_.out HW_.out (by kernel_rfl)) (fun _ _ _ h => h) (Or.inl ⟨by rfl, ?_⟩) hHeld ?_ ?_
          rotate_left
          ·intro w' s0
           go_simp
           with_reducible rfl
          rotate_left
          ·simp only [Act.put, List.setIfInBounds_toArray, List.set_cons_zero, List.set_cons_succ, i64_w, i32_w]
           rfl
          refine pS (i := 3) (N := some 20) (ma 16 15) rfl rfl HT_.out ?_
          refine pS (i := 4) (N := some 21) (ma 16 31) rfl rfl HT_.out ?_
          refine pS (i := 5) (N := some 22) (ma 16 63) rfl rfl HT_.out ?_
          refine pU (i := 6) (N := some 23) (ma 16 127) rfl rfl HT_.out ?_
          refine pU (i := 7) (N := some 24) (ma 16 255) rfl rfl HT_.out ?_
          refine pU (i := 8) (N := some 25) (ma 16 511) rfl rfl HT_.out ?_
          refine pU (i := 9) (N := some 26) (ma 16 1023) rfl rfl HT_.out ?_
          refine pU (i := 10) (N := some 27) (ma 16 2047) rfl rfl HT_.out ?_
          refine pU (i := 11) (N := some 28) (ma 16 4095) rfl rfl HT_.out ?_
          refine pU (i := 12) (N := some 29) (ma 16 8191) rfl rfl HT_.out ?_
          refine pU (i := 13) (N := some 30) (ma 16 16383) rfl rfl HT_.out ?_
          refine pU (i := 14) (N := some 31) (ma 16 32767) rfl rfl HT_.out ?_
          refine pS (i := 15) (N := some 32) (ma 16 65535) rfl rfl HT_.out ?_
          refine done_ (done_of HT_.out (by kernel_rfl)) ?_
          try go_wp2
          go_meet
          case rel => exact ⟨_, (x6_2), eR, H', ⟨by have := HK1.out; have := HK2.out; first | omega | exact Nat.le_refl _⟩, ⟨rU HO_5.out⟩, ⟨bU BK185⟩, ⟨bU BK186⟩, ⟨bU BK187⟩, ⟨bU BK189⟩, ⟨lU HB⟩⟩
      case rest =>
       clear HC12
       try clear c1
       try clear p1
       try clear q1
       try clear hx1
       try clear c2
       try clear p2
       try clear c6
       try clear p6
       try clear c7
       try clear c9
       try clear c9b0
       try clear c10
       try clear c10b0
       try clear c11
       try clear c11b0
       try clear c14
       try clear c15
       try clear c16
       try clear c18
       try clear c18b0
       try clear p18
       try clear q18
       try clear hx18
       try clear c19
       try clear c19b0
       try clear p19
       try clear q19
       try clear hx19
       try clear c20
       try clear c20b0
       try clear hcz17_0
       try clear hcz17_1
       try clear hcz8_0
       try clear hfz17_0
       try clear hfz17_1
       try clear hfz8_0
       try clear hx188_0
       try clear hx188_1
       try clear hx190_0
       try clear hx190_1
       try clear p1
       try clear p188
       try clear p190
       try clear p2
       try clear q1
       try clear q188
       try clear q190
       obtain ⟨kq, x6_11, rfl, HA, HJ11, HO_5, BK185, BK186, BK187, BK189, HB⟩ := hcut
       cases kq with
       | zero => exact absurd HA.out (by simp [ranges_Set_Less.j2])
       | succ kj11 =>
        have H := HA.out
        clear HA
        simp only [ranges_Set_Less.j2] at H
        have H' := Aside0.mk H
        clear H
        go_wp2
        go_loopg [5, 9] kj11 (fun kq v5 v9 w' => ∃ (x5_3 : List (S48)) (x9_3 : Int) (x190000_3 : Int), v9 = .int .i64 x9_3 ∧ Aside0 (ranges_Set_Less.l2 kq x5_3 x6_11 x9_3 l0_0 (l0_0.length : Int) x13_1 l1_0 x190000_3 ((rd_T48 l0_0 x13_1).f1) = some r) ∧ Aside0 (kq ≤ kj11) ∧ Aside0 (Kd.R k48 48 w' w.heap.size (fun k_ => k_ ≠ gb189) v5 x5_3) ∧ Aside0 (w'.heap[gb185]? = some (.cells #[(.slice (some ad188) l0_0.length c0_0)] 30 (0, 0))) ∧ Aside0 (w'.heap[gb186]? = some (.cells #[(.slice A1_0 l1_0.length c1_0)] 30 (0, 0))) ∧ Aside0 (w'.heap[gb187]? = some (.cells #[(.slice none 0 0)] 30 (0, 0))) ∧ Aside0 (w'.heap[gb189]? = some (.cells #[.int .i64 x190000_3, .int .i64 ((rd_T48 l0_0 x13_1).f1)] 48 (0, 0))) ∧ Aside0 (Below w.heap.size w w'))
        case atStart => exact ⟨(x5_1), (x6_11), (((rd_T48 l0_0 x13_1).f0)), eR, H', ⟨Nat.le_refl _⟩, ⟨rU HO_5.out⟩, ⟨bU BK185⟩, ⟨bU BK186⟩, ⟨bU BK187⟩, ⟨bU BK189⟩, ⟨lU HB⟩⟩
        case round =>
         clear H'
         try clear c1
         try clear p1
         try clear q1
         try clear hx1
         try clear c2
         try clear p2
         try clear c6
         try clear p6
         try clear c7
         try clear c9
         try clear c9b0
         try clear c10
         try clear c10b0
         try clear c11
         try clear c11b0
         try clear c14
         try clear c15
         try clear c16
         try clear c18
         try clear c18b0
         try clear p18
         try clear q18
         try clear hx18
         try clear c19
         try clear c19b0
         try clear p19
         try clear q19
         try clear hx19
         try clear c20
         try clear c20b0
         try clear hcz17_0
         try clear hcz17_1
         try clear hcz8_0
         try clear hfz17_0
         try clear hfz17_1
         try clear hfz8_0
         try clear hx188_0
         try clear hx188_1
         try clear hx190_0
         try clear hx190_1
         try clear p1
         try clear p18
         try clear p188
         try clear p19
         try clear p190
         try clear p2
         try clear p6
         try clear q1
         try clear q18
         try clear q188
         try clear q19
         try clear q190
         obtain ⟨x5_3, x9_3, x190000_3, rfl, HA, HK3, HO_5, BK185, BK186, BK187, BK189, HB⟩ := hrel
         cases gk with
         | zero => exact absurd HA.out (by simp [ranges_Set_Less.l2])
         | succ k3 =>
          have H := HA.out
          clear HA
          simp only [ranges_Set_Less.l2] at H
          have HC24 := Aside0.mk H
          clear H
          go_upto_region 9 with (fail)
          go_cut [51] (fun v51 wc => ∃ (kq : Nat) (x51_23 : Bool), v51 = .bool x51_23 ∧ Aside0 (ranges_Set_Less.j4 kq x5_3 x6_11 x9_3 l0_0 (l0_0.length : Int) x13_1 x51_23 l1_0 x190000_3 ((rd_T48 l0_0 x13_1).f1) = some r) ∧ Aside0 (kq ≤ k3) ∧ Aside0 (Kd.R k48 48 wc w.heap.size (fun k_ => k_ ≠ gb189) u5 x5_3) ∧ Aside0 (wc.heap[gb185]? = some (.cells #[(.slice (some ad188) l0_0.length c0_0)] 30 (0, 0))) ∧ Aside0 (wc.heap[gb186]? = some (.cells #[(.slice A1_0 l1_0.length c1_0)] 30 (0, 0))) ∧ Aside0 (wc.heap[gb187]? = some (.cells #[(.slice none 0 0)] 30 (0, 0))) ∧ Aside0 (wc.heap[gb189]? = some (.cells #[.int .i64 x190000_3, .int .i64 ((rd_T48 l0_0 x13_1).f1)] 48 (0, 0))) ∧ Aside0 (Below w.heap.size w wc))
          case first =>
           have H := HC24.out
           clear HC24
           by_cases c25 : x9_3 < (l1_0.length : Int)
           ·rw [if_pos c25] at H
            have c25b0 : decide (x9_3 < (l1_0.length : Int)) = true := decide_eq_true c25
            clear c25
            (first | rw [c25b0] | (simp only [i64_w, i32_w]; rw [c25b0]) | skip)
            by_cases c26 : 0 ≤ x9_3
            ·rw [if_pos c26] at H
             have c26b0 : decide (0 ≤ x9_3) = true := decide_eq_true c26
             clear c26
             have H' := Aside0.mk H
             clear H
             try go_wp2
             replace HO_5 := Aside0.mk (Kd.R_drew HO_5.out)
             replace BK185 := Aside0.mk (blk_drew BK185.out)
             replace BK186 := Aside0.mk (blk_drew BK186.out)
             replace BK187 := Aside0.mk (blk_drew BK187.out)
             replace BK189 := Aside0.mk (blk_drew BK189.out)
             replace HB := Aside0.mk (below_drew1 HB.out)
             have p191 : 0 ≤ (x9_3 : Int) := of_decide_eq_true (by first | (with_reducible assumption) | assumption)
             have q191 : x9_3 < (l1_0.length : Int) := of_decide_eq_true (by first | (with_reducible assumption) | assumption)
             obtain ⟨ad191, e191, hx191_0, hx191_1⟩ := at_T48 HR1_0.out x9_3 p191 q191
             have hw191_1 := hx191_1
             have hw191_0 := hx191_0
             cases e191
             replace hx191_0 := cB HB hx191_0
             replace hx191_1 := cB HB hx191_1
             replace p191 := eq_true p191
             replace q191 := eq_true q191
             refine start_ (n := 16) (S := fun w' => w'.cell? ⟨gb186, 0, none⟩ = some (.slice (some ad191) l1_0.length c1_0) ∧ w'.cell? ⟨gb189, 0, none⟩ = some (.int .i64 x190000_3) ∧ w'.cell? ⟨gb189, 1, none⟩ = some (.int .i64 ((rd_T48 l0_0 x13_1).f1)) ∧ w'.cell? (ad191.add ((x9_3).toNat * 2)) = some (.int .i64 ((rd_T48 l1_0 x9_3).f0)) ∧ w'.cell? ⟨(ad191.add ((x9_3).toNat * 2)).block, (ad191.add ((x9_3).toNat * 2)).off + 1, none⟩ = some (.int .i64 ((rd_T48 l1_0 x9_3).f1))) (ds := []) #[false, false, false, false, false, false, false, false, false, false, false, false, false, false, false, false] (by kernel_rfl) rfl rfl ⟨(blk_cell BK186.out 0).trans rfl, (blk_cell BK189.out 0).trans rfl, (blk_cell BK189.out 1).trans rfl, (cB HB hw191_0), (cB HB hw191_1)⟩ (fun hHeld => ?_); refine with_tabW ranges_Set_Less.tab9 ranges_Set_Less.bits9 (fun HT_ HW_ => ?_)
             generalize wr.drew = w27 at HO_5 BK185 BK186 BK187 BK189 HB hx191_0 hx191_1 hHeld ⊢
             refine pS (i := 0) (N := some 36) (ma 16 1) rfl rfl HT_.out ?_
             refine pS (i := 1) (N := some 37) (ma 16 3) rfl rfl HT_.out ?_
             refine tS (i := 2) (N := some 38) (ma 16 7) rfl rfl HT_.out HW_.out hHeld ?_
             refine pS (i := 3) (N := some 39) (ma 16 15) rfl rfl HT_.out ?_
             refine pS (i := 4) (N := some 40) (ma 16 31) rfl rfl HT_.out ?_
             refine pS (i := 5) (N := some 41) (ma 16 63) rfl rfl HT_.out ?_
             refine pS (i := 6) (N := some 42) (ma 16 127) rfl rfl HT_.out ?_
             refine pS (i := 8) (N := some 44) (ma 16 383) rfl rfl HT_.out ?_
             refine pS (i := 12) (N := some 48) (ma 16 4479) rfl rfl HT_.out ?_
             refine tS (i := 7) (N := some 43) (ma 16 4607) rfl rfl HT_.out HW_.out hHeld ?_
             refine pS (i := 9) (N := some 45) (ma 16 5119) rfl rfl HT_.out ?_
             refine pS (i := 10) (N := some 46) (ma 16 6143) rfl rfl HT_.out ?_
             refine tS (i := 11) (N := some 47) (ma 16 8191) rfl rfl HT_.out HW_.out hHeld ?_
             refine tS (i := 13) (N := some 49) (ma 16 16383) rfl rfl HT_.out HW_.out hHeld ?_
             refine pS (i := 14) (N := some 50) (ma 16 32767) rfl rfl HT_.out ?_
             refine pS (i := 15) (N := some 51) (ma 16 65535) rfl rfl HT_.out ?_
             refine done_ (done_of HT_.out (by kernel_rfl)) ?_
             try go_wp2
             go_meet
             case rel => exact ⟨_, (decide (((rd_T48 l1_0 x9_3).f0) < ((rd_T48 l0_0 x13_1).f1))), eR, H', ⟨by have := HK1.out; have := HJ11.out; have := HK3.out; first | omega | exact Nat.le_refl _⟩, ⟨rU HO_5.out⟩, ⟨bU BK185⟩, ⟨bU BK186⟩, ⟨bU BK187⟩, ⟨bU BK189⟩, ⟨lU HB⟩⟩
            ·rw [if_neg c26] at H
             exact absurd H (by simp)
           ·rw [if_neg c25] at H
            have c25b0 : decide (x9_3 < (l1_0.length : Int)) = false := decide_eq_false c25
            clear c25
            (first | rw [c25b0] | (simp only [i64_w, i32_w]; rw [c25b0]) | skip)
            have H' := Aside0.mk H
            clear H
            try go_wp2
            replace HO_5 := Aside0.mk (Kd.R_drew HO_5.out)
            replace BK185 := Aside0.mk (blk_drew BK185.out)
            replace BK186 := Aside0.mk (blk_drew BK186.out)
            replace BK187 := Aside0.mk (blk_drew BK187.out)
            replace BK189 := Aside0.mk (blk_drew BK189.out)
            replace HB := Aside0.mk (below_drew1 HB.out)
            refine start_ (n := 16) (S := fun w' => w'.cell? ⟨gb186, 0, none⟩ = some (.slice A1_0 l1_0.length c1_0)) (ds := []) #[false, false, false, false, false, false, false, false, false, false, false, false, false, false, false, false] (by kernel_rfl) rfl rfl ((blk_cell BK186.out 0).trans rfl) (fun hHeld => ?_); refine with_tabW ranges_Set_Less.tab9 ranges_Set_Less.bits9 (fun HT_ HW_ => ?_)
            generalize wr.drew = w28 at HO_5 BK185 BK186 BK187 BK189 HB hHeld ⊢
            refine pS (i := 0) (N := some 36) (ma 16 1) rfl rfl HT_.out ?_
            refine pS (i := 1) (N := some 37) (ma 16 3) rfl rfl HT_.out ?_
            refine take_ (i := 2) (N := some 38) (v := ?_) (a' := ?_) #[true, true, true, false, false, false, false, false, false, false, false, false, false, false, false, false] rfl rfl (take_ofW HT_.out HW_.out (by kernel_rfl)) (fun _ _ _ h => h) (Or.inl ⟨by rfl, ?_⟩) hHeld ?_ ?_
            rotate_left
            ·intro w' s0
             go_simp
             with_reducible rfl
            rotate_left
            ·simp only [Act.put, List.setIfInBounds_toArray, List.set_cons_zero, List.set_cons_succ, i64_w, i32_w]
             rfl
            refine pS (i := 3) (N := some 39) (ma 16 15) rfl rfl HT_.out ?_
            refine pS (i := 4) (N := some 40) (ma 16 31) rfl rfl HT_.out ?_
            refine pS (i := 5) (N := some 41) (ma 16 63) rfl rfl HT_.out ?_
            refine pU (i := 6) (N := some 42) (ma 16 127) rfl rfl HT_.out ?_
            refine pU (i := 7) (N := some 43) (ma 16 255) rfl rfl HT_.out ?_
            refine pU (i := 8) (N := some 44) (ma 16 511) rfl rfl HT_.out ?_
            refine pU (i := 9) (N := some 45) (ma 16 1023) rfl rfl HT_.out ?_
            refine pU (i := 10) (N := some 46) (ma 16 2047) rfl rfl HT_.out ?_
            refine pU (i := 11) (N := some 47) (ma 16 4095) rfl rfl HT_.out ?_
            refine pU (i := 12) (N := some 48) (ma 16 8191) rfl rfl HT_.out ?_
            refine pU (i := 13) (N := some 49) (ma 16 16383) rfl rfl HT_.out ?_
            refine pU (i := 14) (N := some 50) (ma 16 32767) rfl rfl HT_.out ?_
            refine pS (i := 15) (N := some 51) (ma 16 65535) rfl rfl HT_.out ?_
            refine done_ (done_of HT_.out (by kernel_rfl)) ?_
            try go_wp2
            go_meet
            case rel => exact ⟨_, (false), eR, H', ⟨by have := HK1.out; have := HJ11.out; have := HK3.out; first | omega | exact Nat.le_refl _⟩, ⟨rU HO_5.out⟩, ⟨bU BK185⟩, ⟨bU BK186⟩, ⟨bU BK187⟩, ⟨bU BK189⟩, ⟨lU HB⟩⟩
          case rest =>
           clear HC24
           try clear c1
           try clear p1
           try clear q1
           try clear hx1
           try clear c2
           try clear p2
           try clear c6
           try clear p6
           try clear c7
           try clear c9
           try clear c9b0
           try clear c10
           try clear c10b0
           try clear c11
           try clear c11b0
           try clear c14
           try clear c15
           try clear c16
           try clear c18
           try clear c18b0
           try clear p18
           try clear q18
           try clear hx18
           try clear c19
           try clear c19b0
           try clear p19
           try clear q19
           try clear hx19
           try clear c20
           try clear c20b0
           try clear c25
           try clear c25b0
           try clear c26
           try clear c26b0
           try clear hcz17_0
           try clear hcz17_1
           try clear hcz8_0
           try clear hfz17_0
           try clear hfz17_1
           try clear hfz8_0
           try clear hx188_0
           try clear hx188_1
           try clear hx190_0
           try clear hx190_1
           try clear hx191_0
           try clear hx191_1
           try clear p1
           try clear p18
           try clear p188
           try clear p19
           try clear p190
           try clear p191
           try clear p2
           try clear p6
           try clear q1
           try clear q18
           try clear q188
           try clear q19
           try clear q190
           try clear q191
           obtain ⟨kq, x51_23, rfl, HA, HJ23, HO_5, BK185, BK186, BK187, BK189, HB⟩ := hcut
           cases kq with
           | zero => exact absurd HA.out (by simp [ranges_Set_Less.j4])
           | succ kj23 =>
            have H := HA.out
            clear HA
            simp only [ranges_Set_Less.j4] at H
            by_cases c29 : x51_23 = true
            ·subst c29
             rw [if_pos rfl] at H
             by_cases c30 : 0 ≤ x9_3
             ·rw [if_pos c30] at H
              have c30b0 : decide (0 ≤ x9_3) = true := decide_eq_true c30
              clear c30
              by_cases c31 : x9_3 < (l1_0.length : Int)
              ·rw [if_pos c31] at H
               have c31b0 : decide (x9_3 < (l1_0.length : Int)) = true := decide_eq_true c31
               clear c31
               by_cases c32 : ((rd_T48 l1_0 x9_3).f0) > x190000_3
               ·rw [if_pos c32] at H
                have c32b0 : decide (x190000_3 < ((rd_T48 l1_0 x9_3).f0)) = true := decide_eq_true c32
                clear c32
                by_cases c33 : x5_3.length < 8796093022208
                ·rw [if_pos c33] at H
                 have LMc33 := Aside0.mk c33
                 clear c33
                 obtain ⟨y194, hy194⟩ : ∃ y_ : List (S48), y_ = (x5_3 ++ [(⟨x190000_3, (rd_T48 l1_0 x9_3).f0⟩ : S48)]) := ⟨_, rfl⟩
                 replace H : (ranges_Set_Less.l2 kj23 y194 x6_11 (wrap64 (x9_3 + 1)) l0_0 (l0_0.length : Int) x13_1 l1_0 (mn ((rd_T48 l1_0 x9_3).f1) ((rd_T48 l0_0 x13_1).f1)) ((rd_T48 l0_0 x13_1).f1)) = some r := by first | (rw [hy194]; with_reducible exact H) | (have H2_ := (Option.bind_some _ _).symm.trans H; rw [hy194]; with_reducible exact H2_) | (have H2_ := (Option.bind_some _ _).symm.trans H; with_reducible exact H2_) | with_reducible exact H | (rw [hy194]; exact H) | exact H
                 have Ny194 := Aside0.mk hy194
                 clear hy194
                 obtain ⟨ji34, hji34⟩ : ∃ j_ : Int, (mn ((rd_T48 l1_0 x9_3).f1) ((rd_T48 l0_0 x13_1).f1)) = j_ := ⟨_, rfl⟩
                 replace H : (ranges_Set_Less.l2 kj23 y194 x6_11 (wrap64 (x9_3 + 1)) l0_0 (l0_0.length : Int) x13_1 l1_0 ji34 ((rd_T48 l0_0 x13_1).f1)) = some r := by first | (rw [hji34] at H; exact H) | (simp only [hji34] at H ⊢; exact H)
                 have hji34_ : (if ((rd_T48 l0_0 x13_1).f1) < ((rd_T48 l1_0 x9_3).f1) then ((rd_T48 l0_0 x13_1).f1) else ((rd_T48 l1_0 x9_3).f1)) = ji34 := hji34
                 have H' := Aside0.mk H
                 clear H
                 try go_wp2
                 replace HO_5 := Aside0.mk (Kd.R_drew HO_5.out)
                 replace BK185 := Aside0.mk (blk_drew BK185.out)
                 replace BK186 := Aside0.mk (blk_drew BK186.out)
                 replace BK187 := Aside0.mk (blk_drew BK187.out)
                 replace BK189 := Aside0.mk (blk_drew BK189.out)
                 replace HB := Aside0.mk (below_drew1 HB.out)
                 have p192 : 0 ≤ (x9_3 : Int) := of_decide_eq_true (by first | (with_reducible assumption) | assumption)
                 have q192 : x9_3 < (l1_0.length : Int) := of_decide_eq_true (by first | (with_reducible assumption) | assumption)
                 obtain ⟨ad192, e192, hx192_0, hx192_1⟩ := at_T48 HR1_0.out x9_3 p192 q192
                 have hw192_1 := hx192_1
                 have hw192_0 := hx192_0
                 cases e192
                 replace hx192_0 := cB HB hx192_0
                 replace hx192_1 := cB HB hx192_1
                 replace p192 := eq_true p192
                 replace q192 := eq_true q192
                 refine start_ (n := 9) (S := fun w' => w'.cell? ⟨gb186, 0, none⟩ = some (.slice (some ad192) l1_0.length c1_0) ∧ w'.cell? ⟨gb189, 0, none⟩ = some (.int .i64 x190000_3) ∧ w'.cell? ⟨gb189, 1, none⟩ = some (.int .i64 ((rd_T48 l0_0 x13_1).f1)) ∧ w'.cell? (ad192.add ((x9_3).toNat * 2)) = some (.int .i64 ((rd_T48 l1_0 x9_3).f0)) ∧ w'.cell? ⟨(ad192.add ((x9_3).toNat * 2)).block, (ad192.add ((x9_3).toNat * 2)).off + 1, none⟩ = some (.int .i64 ((rd_T48 l1_0 x9_3).f1))) (ds := []) #[false, false, false, false, false, false, false, false, false] (by kernel_rfl) rfl rfl ⟨(blk_cell BK186.out 0).trans rfl, (blk_cell BK189.out 0).trans rfl, (blk_cell BK189.out 1).trans rfl, (cB HB hw192_0), (cB HB hw192_1)⟩ (fun hHeld => ?_); refine with_tabW ranges_Set_Less.tab11 ranges_Set_Less.bits11 (fun HT_ HW_ => ?_)
                 generalize wc.drew = w35 at HO_5 BK185 BK186 BK187 BK189 HB hx192_0 hx192_1 hHeld ⊢
                 refine pS (i := 0) (N := some 54) (ma 9 1) rfl rfl HT_.out ?_
                 refine pS (i := 2) (N := some 56) (ma 9 5) rfl rfl HT_.out ?_
                 refine pS (i := 6) (N := some 60) (ma 9 69) rfl rfl HT_.out ?_
                 refine tS (i := 1) (N := some 55) (ma 9 71) rfl rfl HT_.out HW_.out hHeld ?_
                 refine pS (i := 3) (N := some 57) (ma 9 79) rfl rfl HT_.out ?_
                 refine pS (i := 4) (N := some 58) (ma 9 95) rfl rfl HT_.out ?_
                 refine tS (i := 5) (N := some 59) (ma 9 127) rfl rfl HT_.out HW_.out hHeld ?_
                 refine tS (i := 7) (N := some 61) (ma 9 255) rfl rfl HT_.out HW_.out hHeld ?_
                 refine pS (i := 8) (N := some 62) (ma 9 511) rfl rfl HT_.out ?_
                 refine done_ (done_of HT_.out (by kernel_rfl)) ?_
                 try go_wp2
                 replace HO_5 := Aside0.mk (Kd.R_drew HO_5.out)
                 replace BK185 := Aside0.mk (blk_drew BK185.out)
                 replace BK186 := Aside0.mk (blk_drew BK186.out)
                 replace BK187 := Aside0.mk (blk_drew BK187.out)
                 replace BK189 := Aside0.mk (blk_drew BK189.out)
                 replace HB := Aside0.mk (below_drew1 HB.out)
                 have p193 : 0 ≤ (x9_3 : Int) := of_decide_eq_true (by first | (with_reducible assumption) | assumption)
                 have q193 : x9_3 < (l1_0.length : Int) := of_decide_eq_true (by first | (with_reducible assumption) | assumption)
                 obtain ⟨ad193, e193, hx193_0, hx193_1⟩ := at_T48 HR1_0.out x9_3 p193 q193
                 have hw193_1 := hx193_1
                 have hw193_0 := hx193_0
                 obtain rfl : ad192 = ad193 := (by injection e193)
                 replace hx193_0 := cB HB hx193_0
                 replace hx193_1 := cB HB hx193_1
                 replace p193 := eq_true p193
                 replace q193 := eq_true q193
                 refine start_ (n := 13) (S := fun w' => w'.cell? ⟨gb189, 0, none⟩ = some (.int .i64 x190000_3) ∧ w'.cell? ⟨gb189, 1, none⟩ = some (.int .i64 ((rd_T48 l0_0 x13_1).f1)) ∧ w'.cell? ⟨gb186, 0, none⟩ = some (.slice (some ad192) l1_0.length c1_0) ∧ w'.cell? (ad192.add ((x9_3).toNat * 2)) = some (.int .i64 ((rd_T48 l1_0 x9_3).f0)) ∧ w'.cell? ⟨(ad192.add ((x9_3).toNat * 2)).block, (ad192.add ((x9_3).toNat * 2)).off + 1, none⟩ = some (.int .i64 ((rd_T48 l1_0 x9_3).f1))) (ds := []) #[false, false, false, false, false, false, false, false, false, false, false, false, false] (by kernel_rfl) rfl rfl ⟨(blk_cell BK189.out 0).trans rfl, (blk_cell BK189.out 1).trans rfl, (blk_cell BK186.out 0).trans rfl, (cB HB hw193_0), (cB HB hw193_1)⟩ (fun hHeld => ?_); refine with_tabW ranges_Set_Less.tab12 ranges_Set_Less.bits12 (fun HT_ HW_ => ?_)
                 generalize w35.drew = w36 at HO_5 BK185 BK186 BK187 BK189 HB hx193_0 hx193_1 hHeld ⊢
                 refine pS (i := 0) (N := some 63) (ma 13 1) rfl rfl HT_.out ?_
                 refine pS (i := 1) (N := some 64) (ma 13 3) rfl rfl HT_.out ?_
                 refine pS (i := 3) (N := some 66) (ma 13 11) rfl rfl HT_.out ?_
                 refine pS (i := 5) (N := some 68) (ma 13 43) rfl rfl HT_.out ?_
                 refine tS (i := 2) (N := some 65) (ma 13 47) rfl rfl HT_.out HW_.out hHeld ?_
                 refine tS (i := 4) (N := some 67) (ma 13 63) rfl rfl HT_.out HW_.out hHeld ?_
                 refine pS (i := 6) (N := some 69) (ma 13 127) rfl rfl HT_.out ?_
                 refine pS (i := 7) (N := some 70) (ma 13 255) rfl rfl HT_.out ?_
                 refine tS (i := 8) (N := some 71) (ma 13 511) rfl rfl HT_.out HW_.out hHeld ?_
                 refine pS (i := 9) (N := some 72) (ma 13 1023) rfl rfl HT_.out ?_
                 refine one_ (i := 10) (N := some 73) (ma 13 2047) rfl rfl (one_of HT_.out (by kernel_rfl)) (by decide) (fun K hK => ?_)
                 refine value_ (w1 := ?_) (v := ?_) (by rfl) rfl ?_ ?_
                 rotate_left 2
                 ·go_simp
                  constructor
                  ·rfl
                  ·rfl
                 refine hK.out _ _ ⟨(blk_cell (blk_alloc BK189.out _) 0).trans rfl, (blk_cell (blk_alloc BK189.out _) 1).trans rfl, (blk_cell (blk_alloc BK186.out _) 0).trans rfl, (World.cell?_alloc_lt _ _ _ (World.block_lt_of_cell? _ _ ((cB HB hw193_0)))).trans ((cB HB hw193_0)), (World.cell?_alloc_lt _ _ _ (World.block_lt_of_cell? _ _ ((cB HB hw193_1)))).trans ((cB HB hw193_1))⟩ (fun hHeld => ?_)
                 clear hK K
                 refine nP (some 73) ?_
                 refine one_ (i := 11) (N := some 74) (ma 13 4095) rfl rfl (one_of HT_.out (by kernel_rfl)) (by decide) (fun K hK => ?_)
                 refine Kd.R_append_step k48 (w0 := w) w.heap.size (by rfl) (.tmp 63) (.tmp 73) 22 48 (.agg #[(.int .i64 0), (.int .i64 0)]) 16 rfl Try.underlying22 info48 rfl (by decide) (by omega) u5 x5_3 (⟨x190000_3, (rd_T48 l1_0 x9_3).f0⟩ : S48) [.int .i64 x190000_3, .int .i64 ((rd_T48 l1_0 x9_3).f0)] (fun k_ => k_ ≠ gb189) (fun _ => False) rfl rfl ?aP (fun _ hk => hk.elim) ?aF ?aO ?aB ?aS ?aL ?_
                 (case aP => exact k48_mkM _ _ _ (⟨x190000_3, (rd_T48 l1_0 x9_3).f0⟩ : S48))
                 (case aB => exact (lU HB))
                 (case aF => exact (fun k_ hk => Kd.freshB (g := gb189) (o := .cells #[.int .i64 x190000_3, .int .i64 ((rd_T48 l0_0 x13_1).f1)] 48 (0, 0)) (bU BK189) k_ hk))
                 (case aO => exact (rU HO_5.out))
                 (case aS => exact (below_size (lU HB)))
                 (case aL => have := LMc33.out; omega)
                 intro v195 w37 ho hb hg hat
                 rw [← Ny194.out] at ho
                 have HO196 := Aside0.mk (ho)
                 replace BK185 := Aside0.mk (blk_grown (g := gb185) (o := .cells #[.slice (some ad188) l0_0.length c0_0] 30 (0, 0)) (bU BK185) hg (Kd.R_ne HO_5.out BK185.out (by decide)))
                 replace BK186 := Aside0.mk (blk_grown (g := gb186) (o := .cells #[.slice (some ad192) l1_0.length c1_0] 30 (0, 0)) (bU BK186) hg (Kd.R_ne HO_5.out BK186.out (by decide)))
                 replace BK187 := Aside0.mk (blk_grown (g := gb187) (o := .cells #[.slice none 0 0] 30 (0, 0)) (bU BK187) hg (Kd.R_ne HO_5.out BK187.out (by decide)))
                 replace BK189 := Aside0.mk (blk_grown (g := gb189) (o := .cells #[.int .i64 x190000_3, .int .i64 ((rd_T48 l0_0 x13_1).f1)] 48 (0, 0)) (bU BK189) hg (Kd.R_away HO_5.out (fun _ hk => hk)))
                 replace HB := Aside0.mk (hb)
                 clear HO_5
                 clear ho hb hg hat
                 refine hK.out _ _ ⟨(blk_cell BK189.out 0).trans rfl, (blk_cell BK189.out 1).trans rfl, (blk_cell BK186.out 0).trans rfl, (cB HB hw193_0), (cB HB hw193_1)⟩ (fun hHeld => ?_)
                 clear hK K
                 refine nP (some 74) ?_
                 refine pS (i := 12) (N := some 5) (ma 13 8191) rfl rfl HT_.out ?_
                 refine done_ (done_of HT_.out (by kernel_rfl)) ?_
                 try go_wp2
                 replace HO196 := Aside0.mk (Kd.R_drew HO196.out)
                 replace BK185 := Aside0.mk (blk_drew BK185.out)
                 replace BK186 := Aside0.mk (blk_drew BK186.out)
                 replace BK187 := Aside0.mk (blk_drew BK187.out)
                 replace BK189 := Aside0.mk (blk_drew BK189.out)
                 replace HB := Aside0.mk (below_drew1 HB.out)
                 have p197 : 0 ≤ (x9_3 : Int) := of_decide_eq_true (by first | (with_reducible assumption) | assumption)
                 have q197 : x9_3 < (l1_0.length : Int) := of_decide_eq_true (by first | (with_reducible assumption) | assumption)
                 obtain ⟨ad197, e197, hx197_0, hx197_1⟩ := at_T48 HR1_0.out x9_3 p197 q197
                 have hw197_1 := hx197_1
                 have hw197_0 := hx197_0
                 obtain rfl : ad192 = ad197 := (by injection e197)
                 replace hx197_0 := cB HB hx197_0
                 replace hx197_1 := cB HB hx197_1
                 replace p197 := eq_true p197
                 replace q197 := eq_true q197
                 refine start_ (n := 11) (S := fun w' => w'.cell? ⟨gb186, 0, none⟩ = some (.slice (some ad192) l1_0.length c1_0) ∧ w'.cell? ⟨gb189, 0, none⟩ = some (.int .i64 x190000_3) ∧ w'.cell? ⟨gb189, 1, none⟩ = some (.int .i64 ((rd_T48 l0_0 x13_1).f1)) ∧ w'.cell? (ad192.add ((x9_3).toNat * 2)) = some (.int .i64 ((rd_T48 l1_0 x9_3).f0)) ∧ w'.cell? ⟨(ad192.add ((x9_3).toNat * 2)).block, (ad192.add ((x9_3).toNat * 2)).off + 1, none⟩ = some (.int .i64 ((rd_T48 l1_0 x9_3).f1))) (ds := [10]) #[false, false, false, false, false, false, false, false, false, false, false] (by kernel_rfl) rfl rfl ⟨(blk_cell BK186.out 0).trans rfl, (blk_cell BK189.out 0).trans rfl, (blk_cell BK189.out 1).trans rfl, (cB HB hw197_0), (cB HB hw197_1)⟩ (fun hHeld => ?_); refine with_tabW ranges_Set_Less.tab13 ranges_Set_Less.bits13 (fun HT_ HW_ => ?_)
                 generalize w37.drew = w38 at HO196 BK185 BK186 BK187 BK189 HB hx197_0 hx197_1 hHeld ⊢
                 refine pS (i := 0) (N := some 75) (ma 11 1) rfl rfl HT_.out ?_
                 refine pS (i := 2) (N := some 77) (ma 11 5) rfl rfl HT_.out ?_
                 refine pS (i := 6) (N := some 81) (ma 11 69) rfl rfl HT_.out ?_
                 refine tS (i := 1) (N := some 76) (ma 11 71) rfl rfl HT_.out HW_.out hHeld ?_
                 refine pS (i := 3) (N := some 78) (ma 11 79) rfl rfl HT_.out ?_
                 refine pS (i := 4) (N := some 79) (ma 11 95) rfl rfl HT_.out ?_
                 refine tS (i := 5) (N := some 80) (ma 11 127) rfl rfl HT_.out HW_.out hHeld ?_
                 refine tS (i := 7) (N := some 82) (ma 11 255) rfl rfl HT_.out HW_.out hHeld ?_
                 refine pS (i := 8) (N := some 83) (ma 11 511) rfl rfl HT_.out ?_
                 refine pS (i := 9) (N := some 84) (ma 11 1023) rfl rfl HT_.out ?_
                 refine last_ (i := 10) (N := none) #[true, true, true, true, true, true, true, true, true, true, true] rfl rfl (one_of HT_.out (by kernel_rfl)) (by decide) (fun K hK => ?_)
                 have hs39 : w38.cell? ⟨gb189, 0, none⟩ = some (.int .i64 x190000_3) := (blk_cell BK189.out 0).trans rfl
                 have hfs39 := blk_frozen BK189.out 0
                 have hns39_0 := NB185_189.out
                 have hns39_1 := NB186_189.out
                 have hns39_2 := NB187_189.out
                 have hms39_0 := NB189_185.out
                 have hms39_1 := NB189_186.out
                 have hms39_2 := NB189_187.out
                 refine skip_ (w1 := ?_) (by rfl) rfl ?_ ?_
                 rotate_left
                 ·go_simp
                  rfl
                 refine hK.out _ _ ?_
                 clear hK K
                 refine done_ (done_of HT_.out (by kernel_rfl)) ?_
                 try go_wp2
                 go_roundg kj23
                 case measure => have := HK1.out; have := HJ11.out; have := HK3.out; have := HJ23.out; omega
                 case rel => exact ⟨(y194), (wrap64 (x9_3 + 1)), (ji34), eR, H', ⟨by have := HK1.out; have := HJ11.out; have := HK3.out; have := HJ23.out; omega⟩, ⟨rU (Kd.R_mono (Kd.R_far (p := ⟨gb189, 0, none⟩) (Kd.R_mono HO196.out (fun k_ hk => (⟨hk, hk⟩ : _ ∧ k_ ≠ gb189))) (fun _ hk => hk.2) (.int .i64 ji34)) (fun _ hk => hk.1))⟩, ⟨bF BK185⟩, ⟨bF BK186⟩, ⟨bF BK187⟩, ⟨by (with_reducible repeat (first | refine blk_drewN ?_ _ | refine blk_drew ?_ | refine blk_alloc ?_ _)); refine blk_put (cs := #[.int .i64 x190000_3, .int .i64 ((rd_T48 l0_0 x13_1).f1)]) ?_ 0 _ rfl; (with_reducible repeat (first | refine blk_drewN ?_ _ | refine blk_drew ?_ | refine blk_alloc ?_ _)); exact BK189.out⟩, ⟨lU HB⟩⟩
                ·rw [if_neg c33] at H
                 exact absurd H (by simp)
               ·rw [if_neg c32] at H
                have c32b0 : decide (x190000_3 < ((rd_T48 l1_0 x9_3).f0)) = false := decide_eq_false c32
                clear c32
                obtain ⟨ji40, hji40⟩ : ∃ j_ : Int, (mn ((rd_T48 l1_0 x9_3).f1) ((rd_T48 l0_0 x13_1).f1)) = j_ := ⟨_, rfl⟩
                replace H : (ranges_Set_Less.l2 kj23 x5_3 x6_11 (wrap64 (x9_3 + 1)) l0_0 (l0_0.length : Int) x13_1 l1_0 ji40 ((rd_T48 l0_0 x13_1).f1)) = some r := by first | (rw [hji40] at H; exact H) | (simp only [hji40] at H ⊢; exact H)
                have hji40_ : (if ((rd_T48 l0_0 x13_1).f1) < ((rd_T48 l1_0 x9_3).f1) then ((rd_T48 l0_0 x13_1).f1) else ((rd_T48 l1_0 x9_3).f1)) = ji40 := hji40
                have H' := Aside0.mk H
                clear H
                try go_wp2
                replace HO_5 := Aside0.mk (Kd.R_drew HO_5.out)
                replace BK185 := Aside0.mk (blk_drew BK185.out)
                replace BK186 := Aside0.mk (blk_drew BK186.out)
                replace BK187 := Aside0.mk (blk_drew BK187.out)
                replace BK189 := Aside0.mk (blk_drew BK189.out)
                replace HB := Aside0.mk (below_drew1 HB.out)
                have p192 : 0 ≤ (x9_3 : Int) := of_decide_eq_true (by first | (with_reducible assumption) | assumption)
                have q192 : x9_3 < (l1_0.length : Int) := of_decide_eq_true (by first | (with_reducible assumption) | assumption)
                obtain ⟨ad192, e192, hx192_0, hx192_1⟩ := at_T48 HR1_0.out x9_3 p192 q192
                have hw192_1 := hx192_1
                have hw192_0 := hx192_0
                cases e192
                replace hx192_0 := cB HB hx192_0
                replace hx192_1 := cB HB hx192_1
                replace p192 := eq_true p192
                replace q192 := eq_true q192
                refine start_ (n := 9) (S := fun w' => w'.cell? ⟨gb186, 0, none⟩ = some (.slice (some ad192) l1_0.length c1_0) ∧ w'.cell? ⟨gb189, 0, none⟩ = some (.int .i64 x190000_3) ∧ w'.cell? ⟨gb189, 1, none⟩ = some (.int .i64 ((rd_T48 l0_0 x13_1).f1)) ∧ w'.cell? (ad192.add ((x9_3).toNat * 2)) = some (.int .i64 ((rd_T48 l1_0 x9_3).f0)) ∧ w'.cell? ⟨(ad192.add ((x9_3).toNat * 2)).block, (ad192.add ((x9_3).toNat * 2)).off + 1, none⟩ = some (.int .i64 ((rd_T48 l1_0 x9_3).f1))) (ds := []) #[false, false, false, false, false, false, false, false, false] (by kernel_rfl) rfl rfl ⟨(blk_cell BK186.out 0).trans rfl, (blk_cell BK189.out 0).trans rfl, (blk_cell BK189.out 1).trans rfl, (cB HB hw192_0), (cB HB hw192_1)⟩ (fun hHeld => ?_); refine with_tabW ranges_Set_Less.tab11 ranges_Set_Less.bits11 (fun HT_ HW_ => ?_)
                generalize wc.drew = w41 at HO_5 BK185 BK186 BK187 BK189 HB hx192_0 hx192_1 hHeld ⊢
                refine pS (i := 0) (N := some 54) (ma 9 1) rfl rfl HT_.out ?_
                refine pS (i := 2) (N := some 56) (ma 9 5) rfl rfl HT_.out ?_
                refine pS (i := 6) (N := some 60) (ma 9 69) rfl rfl HT_.out ?_
                refine tS (i := 1) (N := some 55) (ma 9 71) rfl rfl HT_.out HW_.out hHeld ?_
                refine pS (i := 3) (N := some 57) (ma 9 79) rfl rfl HT_.out ?_
                refine pS (i := 4) (N := some 58) (ma 9 95) rfl rfl HT_.out ?_
                refine tS (i := 5) (N := some 59) (ma 9 127) rfl rfl HT_.out HW_.out hHeld ?_
                refine tS (i := 7) (N := some 61) (ma 9 255) rfl rfl HT_.out HW_.out hHeld ?_
                refine pS (i := 8) (N := some 62) (ma 9 511) rfl rfl HT_.out ?_
                refine done_ (done_of HT_.out (by kernel_rfl)) ?_
                try go_wp2
                replace HO_5 := Aside0.mk (Kd.R_drew HO_5.out)
                replace BK185 := Aside0.mk (blk_drew BK185.out)
                replace BK186 := Aside0.mk (blk_drew BK186.out)
                replace BK187 := Aside0.mk (blk_drew BK187.out)
                replace BK189 := Aside0.mk (blk_drew BK189.out)
                replace HB := Aside0.mk (below_drew1 HB.out)
                have p198 : 0 ≤ (x9_3 : Int) := of_decide_eq_true (by first | (with_reducible assumption) | assumption)
                have q198 : x9_3 < (l1_0.length : Int) := of_decide_eq_true (by first | (with_reducible assumption) | assumption)
                obtain ⟨ad198, e198, hx198_0, hx198_1⟩ := at_T48 HR1_0.out x9_3 p198 q198
                have hw198_1 := hx198_1
                have hw198_0 := hx198_0
                obtain rfl : ad192 = ad198 := (by injection e198)
                replace hx198_0 := cB HB hx198_0
                replace hx198_1 := cB HB hx198_1
                replace p198 := eq_true p198
                replace q198 := eq_true q198
                refine start_ (n := 11) (S := fun w' => w'.cell? ⟨gb186, 0, none⟩ = some (.slice (some ad192) l1_0.length c1_0) ∧ w'.cell? ⟨gb189, 0, none⟩ = some (.int .i64 x190000_3) ∧ w'.cell? ⟨gb189, 1, none⟩ = some (.int .i64 ((rd_T48 l0_0 x13_1).f1)) ∧ w'.cell? (ad192.add ((x9_3).toNat * 2)) = some (.int .i64 ((rd_T48 l1_0 x9_3).f0)) ∧ w'.cell? ⟨(ad192.add ((x9_3).toNat * 2)).block, (ad192.add ((x9_3).toNat * 2)).off + 1, none⟩ = some (.int .i64 ((rd_T48 l1_0 x9_3).f1))) (ds := [10]) #[false, false, false, false, false, false, false, false, false, false, false] (by kernel_rfl) rfl rfl ⟨(blk_cell BK186.out 0).trans rfl, (blk_cell BK189.out 0).trans rfl, (blk_cell BK189.out 1).trans rfl, (cB HB hw198_0), (cB HB hw198_1)⟩ (fun hHeld => ?_); refine with_tabW ranges_Set_Less.tab13 ranges_Set_Less.bits13 (fun HT_ HW_ => ?_)
                generalize w41.drew = w42 at HO_5 BK185 BK186 BK187 BK189 HB hx198_0 hx198_1 hHeld ⊢
                refine pS (i := 0) (N := some 75) (ma 11 1) rfl rfl HT_.out ?_
                refine pS (i := 2) (N := some 77) (ma 11 5) rfl rfl HT_.out ?_
                refine pS (i := 6) (N := some 81) (ma 11 69) rfl rfl HT_.out ?_
                refine tS (i := 1) (N := some 76) (ma 11 71) rfl rfl HT_.out HW_.out hHeld ?_
                refine pS (i := 3) (N := some 78) (ma 11 79) rfl rfl HT_.out ?_
                refine pS (i := 4) (N := some 79) (ma 11 95) rfl rfl HT_.out ?_
                refine tS (i := 5) (N := some 80) (ma 11 127) rfl rfl HT_.out HW_.out hHeld ?_
                refine tS (i := 7) (N := some 82) (ma 11 255) rfl rfl HT_.out HW_.out hHeld ?_
                refine pS (i := 8) (N := some 83) (ma 11 511) rfl rfl HT_.out ?_
                refine pS (i := 9) (N := some 84) (ma 11 1023) rfl rfl HT_.out ?_
                refine last_ (i := 10) (N := none) #[true, true, true, true, true, true, true, true, true, true, true] rfl rfl (one_of HT_.out (by kernel_rfl)) (by decide) (fun K hK => ?_)
                have hs43 : w42.cell? ⟨gb189, 0, none⟩ = some (.int .i64 x190000_3) := (blk_cell BK189.out 0).trans rfl
                have hfs43 := blk_frozen BK189.out 0
                have hns43_0 := NB185_189.out
                have hns43_1 := NB186_189.out
                have hns43_2 := NB187_189.out
                have hms43_0 := NB189_185.out
                have hms43_1 := NB189_186.out
                have hms43_2 := NB189_187.out
                refine skip_ (w1 := ?_) (by rfl) rfl ?_ ?_
                rotate_left
                ·go_simp
                 rfl
                refine hK.out _ _ ?_
                clear hK K
                refine done_ (done_of HT_.out (by kernel_rfl)) ?_
                try go_wp2
                go_roundg kj23
                case measure => have := HK1.out; have := HJ11.out; have := HK3.out; have := HJ23.out; omega
                case rel => exact ⟨(x5_3), (wrap64 (x9_3 + 1)), (ji40), eR, H', ⟨by have := HK1.out; have := HJ11.out; have := HK3.out; have := HJ23.out; omega⟩, ⟨rU (Kd.R_mono (Kd.R_far (p := ⟨gb189, 0, none⟩) (Kd.R_mono HO_5.out (fun k_ hk => (⟨hk, hk⟩ : _ ∧ k_ ≠ gb189))) (fun _ hk => hk.2) (.int .i64 ji40)) (fun _ hk => hk.1))⟩, ⟨bF BK185⟩, ⟨bF BK186⟩, ⟨bF BK187⟩, ⟨by (with_reducible repeat (first | refine blk_drewN ?_ _ | refine blk_drew ?_ | refine blk_alloc ?_ _)); refine blk_put (cs := #[.int .i64 x190000_3, .int .i64 ((rd_T48 l0_0 x13_1).f1)]) ?_ 0 _ rfl; (with_reducible repeat (first | refine blk_drewN ?_ _ | refine blk_drew ?_ | refine blk_alloc ?_ _)); exact BK189.out⟩, ⟨lU HB⟩⟩
              ·rw [if_neg c31] at H
               exact absurd H (by simp)
             ·rw [if_neg c30] at H
              exact absurd H (by simp)
            ·replace c29 := Bool.eq_false_iff.mpr c29
             subst c29
             rw [if_neg (show ¬ (false = true) by decide)] at H
             by_cases c44 : x190000_3 < ((rd_T48 l0_0 x13_1).f1)
             ·rw [if_pos c44] at H
              have c44b0 : decide (x190000_3 < ((rd_T48 l0_0 x13_1).f1)) = true := decide_eq_true c44
              clear c44
              by_cases c45 : x5_3.length < 8796093022208
              ·rw [if_pos c45] at H
               have LMc45 := Aside0.mk c45
               clear c45
               obtain ⟨y199, hy199⟩ : ∃ y_ : List (S48), y_ = (x5_3 ++ [(⟨x190000_3, ((rd_T48 l0_0 x13_1).f1)⟩ : S48)]) := ⟨_, rfl⟩
               replace H : (ranges_Set_Less.l0 kj23 y199 x6_11 l0_0 (l0_0.length : Int) (wrap64 (x13_1 + 1)) l1_0) = some r := by first | (rw [hy199]; with_reducible exact H) | (have H2_ := (Option.bind_some _ _).symm.trans H; rw [hy199]; with_reducible exact H2_) | (have H2_ := (Option.bind_some _ _).symm.trans H; with_reducible exact H2_) | with_reducible exact H | (rw [hy199]; exact H) | exact H
               have Ny199 := Aside0.mk hy199
               clear hy199
               have H' := Aside0.mk H
               clear H
               have hnb46 := NB189_185.out
               have hnc46 := NB185_189.out
               have hnb47 := NB189_186.out
               have hnc47 := NB186_189.out
               have hnb48 := NB189_187.out
               have hnc48 := NB187_189.out
               obtain ⟨hcz49_0, hcz49_1⟩ := q2 BK189
               obtain ⟨hfz49_0, hfz49_1⟩ := z2 BK189
               go_wp2_with (first | ((with_reducible refine gate_builtin (b := .append) (xs := #[.tmp 90, .tmp 92]) rfl ?_); at_builtin; refine Kd.R_append k48 (w0 := w) w.heap.size rfl (.tmp 90) (.tmp 92) 22 48 (.agg #[(.int .i64 0), (.int .i64 0)]) 16 rfl Try.underlying22 info48 rfl (by decide) (by omega) u5 x5_3 (⟨x190000_3, ((rd_T48 l0_0 x13_1).f1)⟩ : S48) [.int .i64 x190000_3, .int .i64 ((rd_T48 l0_0 x13_1).f1)] (fun k_ => k_ ≠ gb189) (fun _ => False) rfl rfl ?aP (fun _ hk => hk.elim) ?aF ?aO ?aB ?aS ?aL ?_; (case aP => exact k48_mkM _ _ _ (⟨x190000_3, ((rd_T48 l0_0 x13_1).f1)⟩ : S48)); (case aB => exact (lU HB)); (case aF => exact (fun k_ hk => Kd.freshB (g := gb189) (o := .cells #[.int .i64 x190000_3, .int .i64 ((rd_T48 l0_0 x13_1).f1)] 48 (0, 0)) (bU BK189) k_ hk)); (case aO => exact (rU HO_5.out)); (case aS => exact (below_size (lU HB))); (case aL => have := LMc45.out; omega); intro v200 w50 ho hb hg hat; rw [← Ny199.out] at ho; have HO201 := Aside0.mk (ho); replace BK185 := Aside0.mk (blk_grown (g := gb185) (o := .cells #[.slice (some ad188) l0_0.length c0_0] 30 (0, 0)) (bU BK185) hg (Kd.R_ne HO_5.out BK185.out (by decide))); replace BK186 := Aside0.mk (blk_grown (g := gb186) (o := .cells #[.slice A1_0 l1_0.length c1_0] 30 (0, 0)) (bU BK186) hg (Kd.R_ne HO_5.out BK186.out (by decide))); replace BK187 := Aside0.mk (blk_grown (g := gb187) (o := .cells #[.slice none 0 0] 30 (0, 0)) (bU BK187) hg (Kd.R_ne HO_5.out BK187.out (by decide))); replace BK189 := Aside0.mk (blk_grown (g := gb189) (o := .cells #[.int .i64 x190000_3, .int .i64 ((rd_T48 l0_0 x13_1).f1)] 48 (0, 0)) (bU BK189) hg (Kd.R_away HO_5.out (fun _ hk => hk))); replace HB := Aside0.mk (hb); clear HO_5; clear ho hb hg hat))
               go_roundg kj23
               case measure => have := HK1.out; have := HJ11.out; have := HK3.out; have := HJ23.out; omega
               case rel => exact ⟨(y199), (x6_11), (wrap64 (x13_1 + 1)), eR, eR, H', ⟨by have := HK1.out; have := HJ11.out; have := HK3.out; have := HJ23.out; omega⟩, ⟨rU (Kd.R_mono HO201.out (fun _ hk => trivial))⟩, ⟨bU BK185⟩, ⟨bU BK186⟩, ⟨bU BK187⟩, ⟨lU HB⟩⟩
              ·rw [if_neg c45] at H
               exact absurd H (by simp)
             ·rw [if_neg c44] at H
              have c44b0 : decide (x190000_3 < ((rd_T48 l0_0 x13_1).f1)) = false := decide_eq_false c44
              clear c44
              have H' := Aside0.mk H
              clear H
              have hnb51 := NB189_185.out
              have hnc51 := NB185_189.out
              have hnb52 := NB189_186.out
              have hnc52 := NB186_189.out
              have hnb53 := NB189_187.out
              have hnc53 := NB187_189.out
              obtain ⟨hcz54_0, hcz54_1⟩ := q2 BK189
              obtain ⟨hfz54_0, hfz54_1⟩ := z2 BK189
              go_wp2
              go_roundg kj23
              case measure => have := HK1.out; have := HJ11.out; have := HK3.out; have := HJ23.out; omega
              case rel => exact ⟨(x5_3), (x6_11), (wrap64 (x13_1 + 1)), eR, eR, H', ⟨by have := HK1.out; have := HJ11.out; have := HK3.out; have := HJ23.out; omega⟩, ⟨rU (Kd.R_mono HO_5.out (fun _ hk => trivial))⟩, ⟨bU BK185⟩, ⟨bU BK186⟩, ⟨bU BK187⟩, ⟨lU HB⟩⟩
     ·rw [if_neg c11] at H
      exact absurd H (by simp)
    ·rw [if_neg c10] at H
     exact absurd H (by simp)
   ·rw [if_neg c9] at H
    have c9b0 : decide (x13_1 < (l0_0.length : Int)) = false := decide_eq_false c9
    clear c9
    obtain rfl := Option.some.inj H
    obtain ⟨Ao55, co55, eo55⟩ := Kd.R_slice HO_5.out
    subst eo55
    have hnb56 := NB187_185.out
    have hnc56 := NB185_187.out
    have hnb57 := NB187_186.out
    have hnc57 := NB186_187.out
    have hcz58_0 := q1 BK187
    have hfz58_0 := blk_frozen BK187.out 0
    go_wp2
    refine bodyPost_ret (results_cell_row rfl _ _ gb187 30 #[.slice Ao55 x5_1.length co55] (0, 0) _ rfl (by (with_reducible repeat (first | refine blk_drewN ?_ _ | refine blk_drew ?_ | refine blk_alloc ?_ _)); refine blk_put (cs := #[.slice none 0 0]) ?_ 0 _ rfl; (with_reducible repeat (first | refine blk_drewN ?_ _ | refine blk_drew ?_ | refine blk_alloc ?_ _)); exact BK187.out) Try.underlying30 rfl (by kernel_rfl)) rfl ?_
    exact ⟨_, eW, by (with_reducible repeat (first | apply Kd.R_alloc | apply Kd.R_drewN | apply Kd.R_drew)); exact Kd.R_mono (Kd.R_far (p := ⟨gb187, 0, none⟩) (Kd.R_types HO_5.out BK187.out (by decide)) (fun _ hk => hk.2) (.slice Ao55 x5_1.length co55)) (fun _ hk => trivial), lU HB⟩
end Go.Proofs.Ytnaalaakhdbfbaa.XP
