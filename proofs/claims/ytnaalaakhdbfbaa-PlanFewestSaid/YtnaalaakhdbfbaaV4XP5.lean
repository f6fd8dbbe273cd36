-- Go functions as plain functions, and that the code comes to these answers (printed by a program).
import Derived.Test.YtnaalaakhdbfbaaV4XP0
import Derived.Test.YtnaalaakhdbfbaaV4XP4
namespace Go.Proofs.Ytnaalaakhdbfbaa.XP
open Go.RowKit Go.Proofs.YtnaalaakhdbfbaaW.PrintWords Go.Proofs.YtnaalaakhdbfbaaW.PrintLast Go.Proofs.YtnaalaakhdbfbaaW.PrintMore
attribute [local go_sem] max2_int min2_int max_two min_two max_three min_three max_four min_four
set_option linter.unusedVariables false
set_option linter.unusedSimpArgs false
mutual
def ranges_Set_And.l0 : Nat → List (S48) → Int → Int → List (S48) → List (S48) → Option ((List (S48)))
 | 0, _, _, _, _, _ => none
 | k + 1, x5, x6, x7, x132000, x133000 => if x6 < (x132000.length : Int) then (ranges_Set_And.j1 k x5 x6 x7 (decide (x7 < (x133000.length : Int))) x132000 x133000) else (ranges_Set_And.j1 k x5 x6 x7 false x132000 x133000)
def ranges_Set_And.j1 : Nat → List (S48) → Int → Int → Bool → List (S48) → List (S48) → Option ((List (S48)))
 | 0, _, _, _, _, _, _ => none
 | k + 1, x5, x6, x7, x21, x132000, x133000 => if x21 = true then (if 0 ≤ x6 then (if x6 < (x132000.length : Int) then (if 0 ≤ x7 then (if x7 < (x133000.length : Int) then ((span_Meet.f ((rd_T48 x132000 x6).f0) ((rd_T48 x132000 x6).f1) ((rd_T48 x133000 x7).f0) ((rd_T48 x133000 x7).f1)).bind fun bt136 => (if bt136.2.2 = true then (ranges_Set_And.j2 k x5 x6 x7 (decide (bt136.1 < bt136.2.1)) x132000 x133000 bt136.1 bt136.2.1) else (ranges_Set_And.j2 k x5 x6 x7 false x132000 x133000 bt136.1 bt136.2.1))) else (none)) else (none)) else (none)) else (none)) else (some x5)
def ranges_Set_And.j2 : Nat → List (S48) → Int → Int → Bool → List (S48) → List (S48) → Int → Int → Option ((List (S48)))
 | 0, _, _, _, _, _, _, _, _ => none
 | k + 1, x5, x6, x7, x43, x132000, x133000, x140000, x140001 => if x43 = true then (if x5.length < 8796093022208 then ((some (x5 ++ [(⟨x140000, x140001⟩ : S48)] : List (S48))).bind fun y140 => (if 0 ≤ x6 then (if x6 < (x132000.length : Int) then (if 0 ≤ x7 then (if x7 < (x133000.length : Int) then (if ((rd_T48 x132000 x6).f1) < ((rd_T48 x133000 x7).f1) then (ranges_Set_And.l0 k y140 (wrap64 (x6 + 1)) x7 x132000 x133000) else (ranges_Set_And.l0 k y140 x6 (wrap64 (x7 + 1)) x132000 x133000)) else (none)) else (none)) else (none)) else (none))) else (none)) else (if 0 ≤ x6 then (if x6 < (x132000.length : Int) then (if 0 ≤ x7 then (if x7 < (x133000.length : Int) then (if ((rd_T48 x132000 x6).f1) < ((rd_T48 x133000 x7).f1) then (ranges_Set_And.l0 k x5 (wrap64 (x6 + 1)) x7 x132000 x133000) else (ranges_Set_And.l0 k x5 x6 (wrap64 (x7 + 1)) x132000 x133000)) else (none)) else (none)) else (none)) else (none))
end
def ranges_Set_And.f (k : Nat) (l0_0 : List (S48)) (l1_0 : List (S48)) : Option ((List (S48))) := ranges_Set_And.l0 k ([] : List (S48)) 0 0 l0_0 l1_0
theorem ranges_Set_And.mono_l : ∀ k, (∀ y0 y1 y2 y3 y4, LeO (ranges_Set_And.l0 k y0 y1 y2 y3 y4) (ranges_Set_And.l0 (k + 1) y0 y1 y2 y3 y4)) ∧ (∀ y0 y1 y2 y3 y4 y5, LeO (ranges_Set_And.j1 k y0 y1 y2 y3 y4 y5) (ranges_Set_And.j1 (k + 1) y0 y1 y2 y3 y4 y5)) ∧ (∀ y0 y1 y2 y3 y4 y5 y6 y7, LeO (ranges_Set_And.j2 k y0 y1 y2 y3 y4 y5 y6 y7) (ranges_Set_And.j2 (k + 1) y0 y1 y2 y3 y4 y5 y6 y7))
 | 0 => ⟨fun _ _ _ _ _ r h => by simp [ranges_Set_And.l0] at h, fun _ _ _ _ _ _ r h => by simp [ranges_Set_And.j1] at h, fun _ _ _ _ _ _ _ _ r h => by simp [ranges_Set_And.j2] at h⟩
 | k + 1 => by
  obtain ⟨ih0, ih1, ih2⟩ := ranges_Set_And.mono_l k
  refine ⟨?_, ?_, ?_⟩
  ·intro y0 y1 y2 y3 y4
   unfold ranges_Set_And.l0
   repeat' first
   | with_reducible apply ih0
   | with_reducible apply ih1
   | with_reducible apply ih2
   | with_reducible apply LeO.refl
   | with_reducible apply LeO.none
   | with_reducible refine LeO.ite ?_ ?_
   | with_reducible refine LeO.bind ?_ (fun _ => ?_)
  ·intro y0 y1 y2 y3 y4 y5
   unfold ranges_Set_And.j1
   repeat' first
   | with_reducible apply ih0
   | with_reducible apply ih1
   | with_reducible apply ih2
   | with_reducible apply LeO.refl
   | with_reducible apply LeO.none
   | with_reducible refine LeO.ite ?_ ?_
   | with_reducible refine LeO.bind ?_ (fun _ => ?_)
  ·intro y0 y1 y2 y3 y4 y5 y6 y7
   unfold ranges_Set_And.j2
   repeat' first
   | with_reducible apply ih0
   | with_reducible apply ih1
   | with_reducible apply ih2
   | with_reducible apply LeO.refl
   | with_reducible apply LeO.none
   | with_reducible refine LeO.ite ?_ ?_
   | with_reducible refine LeO.bind ?_ (fun _ => ?_)
theorem ranges_Set_And.mono : ∀ a0 a1 k, LeO (ranges_Set_And.f k a0 a1) (ranges_Set_And.f (k + 1) a0 a1) := by
 intro a0 a1 k
 obtain ⟨ih0, ih1, ih2⟩ := ranges_Set_And.mono_l k
 unfold ranges_Set_And.f
 repeat' first
   | with_reducible apply ih0
   | with_reducible apply ih1
   | with_reducible apply ih2
   | with_reducible apply LeO.refl
   | with_reducible apply LeO.none
   | with_reducible refine LeO.ite ?_ ?_
   | with_reducible refine LeO.bind ?_ (fun _ => ?_)
def ranges_Set_And.T4 : Bool × List (List Nat × List Nat) := (true, [([], []), ([0], [0]), ([], []), ([1, 2], [1, 2]), ([3], [3]), ([], []), ([5], [5]), ([], []), ([6, 7], [6, 7]), ([8], [8]), ([4, 9], [4, 9]), ([10], [10]), ([11], [11]), ([11], [11]), ([], []), ([14, 12, 10, 0, 1, 2, 3, 4, 5, 6, 7, 8, 9, 10, 11, 12, 14], [12, 14]), ([13, 15, 0, 1, 2, 3, 4, 5, 6, 7, 8, 9, 10, 11, 12, 13, 14, 15], [13])])
def ranges_Set_And.B4 : List Nat := [0, 1, 0, 7, 15, 0, 32, 0, 224, 480, 1023, 2047, 4095, 4095, 0, 24575, 65535]
theorem ranges_Set_And.tab4 : rtab .any (opsOf Try.f25 4) = ranges_Set_And.T4 := by kernel_rfl
theorem ranges_Set_And.bits4 : waitsOk ranges_Set_And.T4.2 ranges_Set_And.B4 = true := by kernel_rfl
def ranges_Set_And.T7 : Bool × List (List Nat × List Nat) := (true, [([], []), ([0], [0]), ([], []), ([1, 2], [1, 2]), ([3], [3]), ([4], [4]), ([], []), ([6], [6]), ([], []), ([7, 8], [7, 8]), ([9], [9]), ([10], [10]), ([5, 11], [5, 11])])
def ranges_Set_And.B7 : List Nat := [0, 1, 0, 7, 15, 31, 0, 64, 0, 448, 960, 1984, 4095]
theorem ranges_Set_And.tab7 : rtab .any (opsOf Try.f25 7) = ranges_Set_And.T7 := by kernel_rfl
theorem ranges_Set_And.bits7 : waitsOk ranges_Set_And.T7.2 ranges_Set_And.B7 = true := by kernel_rfl
set_option maxHeartbeats 8000000 in
set_option maxRecDepth 100000 in
theorem ranges_Set_And.calls (k : Nat) (A0_0 : Option Addr) (c0_0 : Nat) (l0_0 : List (S48)) (A1_0 : Option Addr) (c1_0 : Nat) (l1_0 : List (S48)) (r : List (S48)) (w : World) (hr0_0 : Kd.C k48 w A0_0 l0_0.length l0_0) (hc0_0 : l0_0.length ≤ c0_0) (hr1_0 : Kd.C k48 w A1_0 l1_0.length l1_0) (hc1_0 : l1_0.length ≤ c1_0) (h : ranges_Set_And.f k l0_0 l1_0 = some r) :
  Calls Try.prog 25 #[.agg #[.slice A0_0 l0_0.length c0_0], .agg #[.slice A1_0 l1_0.length c1_0]] w fun e w' => ∃ v0_ : Value, e = .returned (.agg #[v0_]) ∧ Kd.R k48 48 w' w.heap.size (fun _ => True) v0_ r ∧ Below w.heap.size w w' := by
 have hu30 := Try.underlying30
 have hu48 := Try.underlying48
 have HR0_0 := Aside0.mk hr0_0
 have HC0_0 := Aside0.mk hc0_0
 clear hr0_0 hc0_0
 have HR1_0 := Aside0.mk hr1_0
 have HC1_0 := Aside0.mk hc1_0
 clear hr1_0 hc1_0
 have HB := Aside0.mk (Below.refl w.heap.size w)
 unfold ranges_Set_And.f at h
 have H := h
 clear h
 have H' := Aside0.mk H
 clear H
 go_enter Try.func25, Try.ntmps25
 go_wp2_with (first | ((with_reducible refine gate_dst (N := 2) rfl ?_); (try (refine gate_guard (by rfl) ?_; dsimp only)); refine bX (N := 2) (cs := #[.slice A0_0 l0_0.length c0_0]) (t := 30) ?_; intro gb131 hg w3 hbox hb; have BK131 := Aside0.mk (hbox); have GE131 := sG HB hg; replace HB := sL HB hb; clear hb hbox hg) | ((with_reducible refine gate_dst (N := 3) rfl ?_); (try (refine gate_guard (by rfl) ?_; dsimp only)); refine bX (N := 3) (cs := #[.slice A1_0 l1_0.length c1_0]) (t := 30) ?_; intro gb132 hg w4 hbox hb; have BK132 := Aside0.mk (hbox); have GE132 := sG HB hg; have NB131_132 := sN BK131 hg; have NB132_131 := sM BK131 hg; replace BK131 := sB BK131 hb; replace HB := sL HB hb; clear hb hbox hg) | ((with_reducible refine gate_dst (N := 4) rfl ?_); (try (refine gate_guard (by rfl) ?_; dsimp only)); refine bX (N := 4) (cs := #[.slice none 0 0]) (t := 30) ?_; intro gb133 hg w5 hbox hb; have BK133 := Aside0.mk (hbox); have GE133 := sG HB hg; have NB131_133 := sN BK131 hg; have NB133_131 := sM BK131 hg; have NB132_133 := sN BK132 hg; have NB133_132 := sM BK132 hg; replace BK131 := sB BK131 hb; replace BK132 := sB BK132 hb; replace HB := sL HB hb; clear hb hbox hg))
 go_loopg [5, 6, 7] k (fun kq v5 v6 v7 w' => ∃ (x5_1 : List (S48)) (x6_1 : Int) (x7_1 : Int), v6 = .int .i64 x6_1 ∧ v7 = .int .i64 x7_1 ∧ Aside0 (ranges_Set_And.l0 kq x5_1 x6_1 x7_1 l0_0 l1_0 = some r) ∧ Aside0 (kq ≤ k) ∧ Aside0 (Kd.R k48 48 w' w.heap.size (fun _ => True) v5 x5_1) ∧ Aside0 (w'.heap[gb131]? = some (.cells #[(.slice A0_0 l0_0.length c0_0)] 30 (0, 0))) ∧ Aside0 (w'.heap[gb132]? = some (.cells #[(.slice A1_0 l1_0.length c1_0)] 30 (0, 0))) ∧ Aside0 (w'.heap[gb133]? = some (.cells #[(.slice none 0 0)] 30 (0, 0))) ∧ Aside0 (Below w.heap.size w w'))
 case atStart => exact ⟨(([] : List (S48))), (0), (0), eR, eR, H', ⟨Nat.le_refl _⟩, ⟨by first | exact Kd.R_nil _ _ _ _ _ | exact Kd.N_nil _ _ _ _ _ | exact Kd.V_nil _ _ _ _ _ | exact Kd.Q_nil _ _ _ _ _ | exact Kd.S_nil _ _ _ _ _⟩, ⟨bU BK131⟩, ⟨bU BK132⟩, ⟨bU BK133⟩, ⟨lU HB⟩⟩
 case round =>
  clear H'
  try clear c1
  try clear c2
  try clear p2
  obtain ⟨x5_1, x6_1, x7_1, rfl, rfl, HA, HK1, HO_5, BK131, BK132, BK133, HB⟩ := hrel
  cases gk with
  | zero => exact absurd HA.out (by simp [ranges_Set_And.l0])
  | succ k1 =>
   have H := HA.out
   clear HA
   simp only [ranges_Set_And.l0] at H
   have HC6 := Aside0.mk H
   clear H
   go_upto_region 3 with (fail)
   go_cut [21] (fun v21 wc => ∃ (kq : Nat) (x21_5 : Bool), v21 = .bool x21_5 ∧ Aside0 (ranges_Set_And.j1 kq x5_1 x6_1 x7_1 x21_5 l0_0 l1_0 = some r) ∧ Aside0 (kq ≤ k1) ∧ Aside0 (Kd.R k48 48 wc w.heap.size (fun _ => True) u5 x5_1) ∧ Aside0 (wc.heap[gb131]? = some (.cells #[(.slice A0_0 l0_0.length c0_0)] 30 (0, 0))) ∧ Aside0 (wc.heap[gb132]? = some (.cells #[(.slice A1_0 l1_0.length c1_0)] 30 (0, 0))) ∧ Aside0 (wc.heap[gb133]? = some (.cells #[(.slice none 0 0)] 30 (0, 0))) ∧ Aside0 (Below w.heap.size w wc))
   case first =>
    have H := HC6.out
    clear HC6
    by_cases c7 : x6_1 < (l0_0.length : Int)
    ·rw [if_pos c7] at H
     have c7b0 : decide (x6_1 < (l0_0.length : Int)) = true := decide_eq_true c7
     clear c7
     (first | rw [c7b0] | (simp only [i64_w, i32_w]; rw [c7b0]) | skip)
     have H' := Aside0.mk H
     clear H
     have hnb8 := NB131_132.out
     have hnc8 := NB132_131.out
     have hnb9 := NB131_133.out
     have hnc9 := NB133_131.out
     have hcz10_0 := q1 BK131
     have hfz10_0 := blk_frozen BK131.out 0
     have hnb11 := NB132_133.out
     have hnc11 := NB133_132.out
     have hcz12_0 := q1 BK132
     have hfz12_0 := blk_frozen BK132.out 0
     go_wp2
     go_meet
     case rel => exact ⟨_, (decide (x7_1 < (l1_0.length : Int))), eR, H', ⟨by have := HK1.out; first | omega | exact Nat.le_refl _⟩, ⟨rU HO_5.out⟩, ⟨bU BK131⟩, ⟨bU BK132⟩, ⟨bU BK133⟩, ⟨lU HB⟩⟩
    ·rw [if_neg c7] at H
     have c7b0 : decide (x6_1 < (l0_0.length : Int)) = false := decide_eq_false c7
     clear c7
     (first | rw [c7b0] | (simp only [i64_w, i32_w]; rw [c7b0]) | skip)
     have H' := Aside0.mk H
     clear H
     have hnb13 := NB131_132.out
     have hnc13 := NB132_131.out
     have hnb14 := NB131_133.out
     have hnc14 := NB133_131.out
     have hcz15_0 := q1 BK131
     have hfz15_0 := blk_frozen BK131.out 0
     go_wp2
     go_meet
     case rel => exact ⟨_, (false), eR, H', ⟨by have := HK1.out; first | omega | exact Nat.le_refl _⟩, ⟨rU HO_5.out⟩, ⟨bU BK131⟩, ⟨bU BK132⟩, ⟨bU BK133⟩, ⟨lU HB⟩⟩
   case rest =>
    clear HC6
    try clear c1
    try clear c2
    try clear p2
    try clear c7
    try clear c7b0
    try clear c8
    try clear c9
    try clear c11
    try clear c13
    try clear c14
    try clear hcz10_0
    try clear hcz12_0
    try clear hcz15_0
    try clear hfz10_0
    try clear hfz12_0
    try clear hfz15_0
    try clear p2
    obtain ⟨kq, x21_5, rfl, HA, HJ5, HO_5, BK131, BK132, BK133, HB⟩ := hcut
    cases kq with
    | zero => exact absurd HA.out (by simp [ranges_Set_And.j1])
    | succ kj5 =>
     have H := HA.out
     clear HA
     simp only [ranges_Set_And.j1] at H
     by_cases c16 : x21_5 = true
     ·subst c16
      rw [if_pos rfl] at H
      by_cases c17 : 0 ≤ x6_1
      ·rw [if_pos c17] at H
       have c17b0 : decide (0 ≤ x6_1) = true := decide_eq_true c17
       clear c17
       by_cases c18 : x6_1 < (l0_0.length : Int)
       ·rw [if_pos c18] at H
        have c18b0 : decide (x6_1 < (l0_0.length : Int)) = true := decide_eq_true c18
        clear c18
        by_cases c19 : 0 ≤ x7_1
        ·rw [if_pos c19] at H
         have c19b0 : decide (0 ≤ x7_1) = true := decide_eq_true c19
         clear c19
         by_cases c20 : x7_1 < (l1_0.length : Int)
         ·rw [if_pos c20] at H
          have c20b0 : decide (x7_1 < (l1_0.length : Int)) = true := decide_eq_true c20
          clear c20
          replace H := Option.bind_eq_some_iff.mp H
          obtain ⟨⟨t136, t137, t138⟩, A210, H⟩ := H
          dsimp only at H
          have A21 := Aside0.mk A210
          clear A210
          have HC22 := Aside0.mk H
          clear H
          try go_wp2
          replace HO_5 := Aside0.mk (Kd.R_drew HO_5.out)
          replace BK131 := Aside0.mk (blk_drew BK131.out)
          replace BK132 := Aside0.mk (blk_drew BK132.out)
          replace BK133 := Aside0.mk (blk_drew BK133.out)
          replace HB := Aside0.mk (below_drew1 HB.out)
          have p134 : 0 ≤ (x6_1 : Int) := of_decide_eq_true (by first | (with_reducible assumption) | assumption)
          have q134 : x6_1 < (l0_0.length : Int) := of_decide_eq_true (by first | (with_reducible assumption) | assumption)
          obtain ⟨ad134, e134, hx134_0, hx134_1⟩ := at_T48 HR0_0.out x6_1 p134 q134
          have hw134_1 := hx134_1
          have hw134_0 := hx134_0
          cases e134
          replace hx134_0 := cB HB hx134_0
          replace hx134_1 := cB HB hx134_1
          replace p134 := eq_true p134
          replace q134 := eq_true q134
          have p135 : 0 ≤ (x7_1 : Int) := of_decide_eq_true (by first | (with_reducible assumption) | assumption)
          have q135 : x7_1 < (l1_0.length : Int) := of_decide_eq_true (by first | (with_reducible assumption) | assumption)
          obtain ⟨ad135, e135, hx135_0, hx135_1⟩ := at_T48 HR1_0.out x7_1 p135 q135
          have hw135_1 := hx135_1
          have hw135_0 := hx135_0
          cases e135
          replace hx135_0 := cB HB hx135_0
          replace hx135_1 := cB HB hx135_1
          replace p135 := eq_true p135
          replace q135 := eq_true q135
          refine start_ (n := 17) (S := fun w' => w'.cell? ⟨gb131, 0, none⟩ = some (.slice (some ad134) l0_0.length c0_0) ∧ w'.cell? ⟨gb132, 0, none⟩ = some (.slice (some ad135) l1_0.length c1_0) ∧ w'.cell? (ad134.add ((x6_1).toNat * 2)) = some (.int .i64 ((rd_T48 l0_0 x6_1).f0)) ∧ w'.cell? ⟨(ad134.add ((x6_1).toNat * 2)).block, (ad134.add ((x6_1).toNat * 2)).off + 1, none⟩ = some (.int .i64 ((rd_T48 l0_0 x6_1).f1)) ∧ w'.cell? (ad135.add ((x7_1).toNat * 2)) = some (.int .i64 ((rd_T48 l1_0 x7_1).f0)) ∧ w'.cell? ⟨(ad135.add ((x7_1).toNat * 2)).block, (ad135.add ((x7_1).toNat * 2)).off + 1, none⟩ = some (.int .i64 ((rd_T48 l1_0 x7_1).f1))) (ds := []) #[false, false, false, false, false, false, false, false, false, false, false, false, false, false, false, false, false] (by kernel_rfl) rfl rfl ⟨(blk_cell BK131.out 0).trans rfl, (blk_cell BK132.out 0).trans rfl, (cB HB hw134_0), (cB HB hw134_1), (cB HB hw135_0), (cB HB hw135_1)⟩ (fun hHeld => ?_); refine with_tabW ranges_Set_And.tab4 ranges_Set_And.bits4 (fun HT_ HW_ => ?_)
          generalize wc.drew = w23 at HO_5 BK131 BK132 BK133 HB hx134_0 hx134_1 hx135_0 hx135_1 hHeld ⊢
          refine pS (i := 0) (N := some 23) (ma 17 1) rfl rfl HT_.out ?_
          refine pS (i := 2) (N := some 25) (ma 17 5) rfl rfl HT_.out ?_
          refine pS (i := 5) (N := some 28) (ma 17 37) rfl rfl HT_.out ?_
          refine pS (i := 7) (N := some 30) (ma 17 165) rfl rfl HT_.out ?_
          refine tS (i := 1) (N := some 24) (ma 17 167) rfl rfl HT_.out HW_.out hHeld ?_
          refine pS (i := 3) (N := some 26) (ma 17 175) rfl rfl HT_.out ?_
          refine tS (i := 4) (N := some 27) (ma 17 191) rfl rfl HT_.out HW_.out hHeld ?_
          refine tS (i := 6) (N := some 29) (ma 17 255) rfl rfl HT_.out HW_.out hHeld ?_
          refine pS (i := 8) (N := some 31) (ma 17 511) rfl rfl HT_.out ?_
          refine tS (i := 9) (N := some 32) (ma 17 1023) rfl rfl HT_.out HW_.out hHeld ?_
          refine join_ (σ := Nat) 2 #[true, true, true, true, true, true, true, true, true, true, true, true, true, true, true, false, false] (fun s_ => [(33, .tuple #[.agg #[.int .i64 t136, .int .i64 t137], .bool t138]), (8, .pointer (some ⟨s_, 0, none⟩)), (22, .tuple #[.agg #[.int .i64 t136, .int .i64 t137], .bool t138]), (34, .agg #[.int .i64 t136, .int .i64 t137]), (35, .bool t138)]) (fun s_ w' => (w'.cell? ⟨gb131, 0, none⟩ = some (.slice (some ad134) l0_0.length c0_0) ∧ w'.cell? ⟨gb132, 0, none⟩ = some (.slice (some ad135) l1_0.length c1_0) ∧ w'.cell? (ad134.add ((x6_1).toNat * 2)) = some (.int .i64 ((rd_T48 l0_0 x6_1).f0)) ∧ w'.cell? ⟨(ad134.add ((x6_1).toNat * 2)).block, (ad134.add ((x6_1).toNat * 2)).off + 1, none⟩ = some (.int .i64 ((rd_T48 l0_0 x6_1).f1)) ∧ w'.cell? (ad135.add ((x7_1).toNat * 2)) = some (.int .i64 ((rd_T48 l1_0 x7_1).f0)) ∧ w'.cell? ⟨(ad135.add ((x7_1).toNat * 2)).block, (ad135.add ((x7_1).toNat * 2)).off + 1, none⟩ = some (.int .i64 ((rd_T48 l1_0 x7_1).f1))) ∧ (Kd.R k48 48 w' w.heap.size (fun k_ => k_ ≠ s_) u5 x5_1) ∧ (w'.heap[gb131]? = some (.cells #[.slice (some ad134) l0_0.length c0_0] 30 (0, 0))) ∧ (w'.heap[gb132]? = some (.cells #[.slice (some ad135) l1_0.length c1_0] 30 (0, 0))) ∧ (w'.heap[gb133]? = some (.cells #[.slice none 0 0] 30 (0, 0))) ∧ (w'.heap[s_]? = some (.cells #[.int .i64 0, .int .i64 0] 48 (0, 0))) ∧ (w.heap.size ≤ s_) ∧ (w.heap.size ≤ s_) ∧ (gb131 ≠ s_) ∧ (s_ ≠ gb131) ∧ (gb132 ≠ s_) ∧ (s_ ≠ gb132) ∧ (gb133 ≠ s_) ∧ (s_ ≠ gb133) ∧ (Below w.heap.size w w')) ?_ ?_
          rotate_left
          ·intro hCont
           refine two_ (i := 10) (j := 14) (Ni := some 33) (Nj := some 8) #[true, true, true, true, true, true, true, true, true, true, true, false, false, false, false, false, false] #[true, true, true, true, true, true, true, true, true, true, false, false, false, false, true, false, false] rfl rfl rfl rfl (two_of HT_.out (by kernel_rfl)) (by decide) (by decide) (fun K hK => ?_) (fun K hK => ?_)
           ·skip
            refine gO Try.func55 #[.agg #[.int .i64 ((rd_T48 l0_0 x6_1).f0), .int .i64 ((rd_T48 l0_0 x6_1).f1)], .agg #[.int .i64 ((rd_T48 l1_0 x7_1).f0), .int .i64 ((rd_T48 l1_0 x7_1).f1)]] rfl rfl ?_
            with_reducible refine (span_Meet.calls ((rd_T48 l0_0 x6_1).f0) ((rd_T48 l0_0 x6_1).f1) ((rd_T48 l1_0 x7_1).f0) ((rd_T48 l1_0 x7_1).f1) t136 t137 t138 _ A21.out).mono ?_
            rintro e w24 ⟨rfl, hb⟩
            refine ⟨_, rfl, ?_⟩
            replace HO_5 := rB HO_5 hb
            replace BK131 := sB BK131 hb
            replace BK132 := sB BK132 hb
            replace BK133 := sB BK133 hb
            replace HB := sL HB hb
            (try clear hb)
            (try clear hb2)
            (try clear hk)
            (try clear hi)
            refine hK.out _ _ ⟨(blk_cell BK131.out 0).trans rfl, (blk_cell BK132.out 0).trans rfl, (cB HB hw134_0), (cB HB hw134_1), (cB HB hw135_0), (cB HB hw135_1)⟩ (fun hHeld => ?_)
            clear hK K
            refine nP (some 33) ?_
            refine pS (i := 11) (N := some 22) (ma 17 4095) rfl rfl HT_.out ?_
            refine pS (i := 12) (N := some 34) (ma 17 8191) rfl rfl HT_.out ?_
            refine pS (i := 13) (N := some 35) (ma 17 16383) rfl rfl HT_.out ?_
            refine one_ (i := 14) (N := some 8) (ma 17 32767) rfl rfl (one_of HT_.out (by kernel_rfl)) (by decide) (fun K hK => ?_)
            refine bY (N := 8) (cs := #[.int .i64 0, .int .i64 0]) (t := 48) ?_
            intro gb139 hg w25 hbox hb
            have BK139 := Aside0.mk (hbox)
            have GW139 := sG HB hg
            have GE139 := sG HB hg
            have NB131_139 := sN BK131 hg
            have NB139_131 := sM BK131 hg
            have NB132_139 := sN BK132 hg
            have NB139_132 := sM BK132 hg
            have NB133_139 := sN BK133 hg
            have NB139_133 := sM BK133 hg
            replace HO_5 := Aside0.mk (Kd.R_below (Kd.R_elderB (rU HO_5.out) gb139 (Nat.le_of_eq hg.symm)) hb)
            replace BK131 := sB BK131 hb
            replace BK132 := sB BK132 hb
            replace BK133 := sB BK133 hb
            replace HB := sL HB hb
            clear hb hbox hg
            refine hK.out _ _ ⟨(blk_cell BK131.out 0).trans rfl, (blk_cell BK132.out 0).trans rfl, (cB HB hw134_0), (cB HB hw134_1), (cB HB hw135_0), (cB HB hw135_1)⟩ (fun hHeld => ?_)
            clear hK K
            refine nP (some 8) ?_
            exact norm_ (by simp only [putAll, Act.put, List.setIfInBounds_toArray, List.set_cons_zero, List.set_cons_succ]) (hCont (gb139) _ ⟨hHeld, (rU (Kd.R_mono HO_5.out (fun _ hk => hk.2))), (bU BK131), (bU BK132), (bU BK133), (bU BK139), GW139.out, GE139.out, NB131_139.out, NB139_131.out, NB132_139.out, NB139_132.out, NB133_139.out, NB139_133.out, (lU HB)⟩)
           ·skip
            refine bY (N := 8) (cs := #[.int .i64 0, .int .i64 0]) (t := 48) ?_
            intro gb139 hg w24 hbox hb
            have BK139 := Aside0.mk (hbox)
            have GW139 := sG HB hg
            have GE139 := sG HB hg
            have NB131_139 := sN BK131 hg
            have NB139_131 := sM BK131 hg
            have NB132_139 := sN BK132 hg
            have NB139_132 := sM BK132 hg
            have NB133_139 := sN BK133 hg
            have NB139_133 := sM BK133 hg
            replace HO_5 := Aside0.mk (Kd.R_below (Kd.R_elderB (rU HO_5.out) gb139 (Nat.le_of_eq hg.symm)) hb)
            replace BK131 := sB BK131 hb
            replace BK132 := sB BK132 hb
            replace BK133 := sB BK133 hb
            replace HB := sL HB hb
            clear hb hbox hg
            refine hK.out _ _ ⟨(blk_cell BK131.out 0).trans rfl, (blk_cell BK132.out 0).trans rfl, (cB HB hw134_0), (cB HB hw134_1), (cB HB hw135_0), (cB HB hw135_1)⟩ (fun hHeld => ?_)
            clear hK K
            refine nP (some 8) ?_
            refine one_ (i := 10) (N := some 33) (ma 17 18431) rfl rfl (one_of HT_.out (by kernel_rfl)) (by decide) (fun K hK => ?_)
            refine gO Try.func55 #[.agg #[.int .i64 ((rd_T48 l0_0 x6_1).f0), .int .i64 ((rd_T48 l0_0 x6_1).f1)], .agg #[.int .i64 ((rd_T48 l1_0 x7_1).f0), .int .i64 ((rd_T48 l1_0 x7_1).f1)]] rfl rfl ?_
            with_reducible refine (span_Meet.calls ((rd_T48 l0_0 x6_1).f0) ((rd_T48 l0_0 x6_1).f1) ((rd_T48 l1_0 x7_1).f0) ((rd_T48 l1_0 x7_1).f1) t136 t137 t138 _ A21.out).mono ?_
            rintro e w25 ⟨rfl, hb⟩
            refine ⟨_, rfl, ?_⟩
            replace HO_5 := rB HO_5 hb
            replace BK131 := sB BK131 hb
            replace BK132 := sB BK132 hb
            replace BK133 := sB BK133 hb
            replace BK139 := sB BK139 hb
            replace HB := sL HB hb
            (try clear hb)
            (try clear hb2)
            (try clear hk)
            (try clear hi)
            refine hK.out _ _ ⟨(blk_cell BK131.out 0).trans rfl, (blk_cell BK132.out 0).trans rfl, (cB HB hw134_0), (cB HB hw134_1), (cB HB hw135_0), (cB HB hw135_1)⟩ (fun hHeld => ?_)
            clear hK K
            refine nP (some 33) ?_
            refine pS (i := 11) (N := some 22) (ma 17 20479) rfl rfl HT_.out ?_
            refine pS (i := 12) (N := some 34) (ma 17 24575) rfl rfl HT_.out ?_
            refine pS (i := 13) (N := some 35) (ma 17 32767) rfl rfl HT_.out ?_
            exact norm_ (by simp only [putAll, Act.put, List.setIfInBounds_toArray, List.set_cons_zero, List.set_cons_succ]) (hCont (gb139) _ ⟨hHeld, (rU (Kd.R_mono HO_5.out (fun _ hk => hk.2))), (bU BK131), (bU BK132), (bU BK133), (bU BK139), GW139.out, GE139.out, NB131_139.out, NB139_131.out, NB132_139.out, NB139_132.out, NB133_139.out, NB139_133.out, (lU HB)⟩)
          rintro gb139 w26 ⟨hS_, h0_, h1_, h2_, h3_, h4_, h5_, h6_, h7_, h8_, h9_, h10_, h11_, h12_, h13_⟩
          have n0_ := Aside0.mk h0_
          have n1_ := Aside0.mk h1_
          have n2_ := Aside0.mk h2_
          have n3_ := Aside0.mk h3_
          have n4_ := Aside0.mk h4_
          have n5_ := Aside0.mk h5_
          have n6_ := Aside0.mk h6_
          have n7_ := Aside0.mk h7_
          have n8_ := Aside0.mk h8_
          have n9_ := Aside0.mk h9_
          have n10_ := Aside0.mk h10_
          have n11_ := Aside0.mk h11_
          have n12_ := Aside0.mk h12_
          have n13_ := Aside0.mk h13_
          clear HO_5
          clear BK131
          clear BK132
          clear BK133
          clear HB
          clear h0_ h1_ h2_ h3_ h4_ h5_ h6_ h7_ h8_ h9_ h10_ h11_ h12_ h13_
          have HO_5 := n0_
          have BK131 := n1_
          have BK132 := n2_
          have BK133 := n3_
          have BK139 := n4_
          have GW139 := n5_
          have GE139 := n6_
          have NB131_139 := n7_
          have NB139_131 := n8_
          have NB132_139 := n9_
          have NB139_132 := n10_
          have NB133_139 := n11_
          have NB139_133 := n12_
          have HB := n13_
          clear n0_ n1_ n2_ n3_ n4_ n5_ n6_ n7_ n8_ n9_ n10_ n11_ n12_ n13_
          have hHeld : w26.cell? ⟨gb131, 0, none⟩ = some (.slice (some ad134) l0_0.length c0_0) ∧ w26.cell? ⟨gb132, 0, none⟩ = some (.slice (some ad135) l1_0.length c1_0) ∧ w26.cell? (ad134.add ((x6_1).toNat * 2)) = some (.int .i64 ((rd_T48 l0_0 x6_1).f0)) ∧ w26.cell? ⟨(ad134.add ((x6_1).toNat * 2)).block, (ad134.add ((x6_1).toNat * 2)).off + 1, none⟩ = some (.int .i64 ((rd_T48 l0_0 x6_1).f1)) ∧ w26.cell? (ad135.add ((x7_1).toNat * 2)) = some (.int .i64 ((rd_T48 l1_0 x7_1).f0)) ∧ w26.cell? ⟨(ad135.add ((x7_1).toNat * 2)).block, (ad135.add ((x7_1).toNat * 2)).off + 1, none⟩ = some (.int .i64 ((rd_T48 l1_0 x7_1).f1)) := hS_
          refine norm_ (a' := ?_) ?_ ?_
          rotate_left
          ·simp only [putAll, Act.put, List.setIfInBounds_toArray, List.set_cons_zero, List.set_cons_succ]
           rfl
          refine one_ (i := 15) (N := none) (ma 17 65535) rfl rfl (one_of HT_.out (by kernel_rfl)) (by decide) (fun K hK => ?_)
          have hs27 : w26.cell? ⟨gb139, 0, none⟩ = some (.int .i64 0) := (blk_cell BK139.out 0).trans rfl
          have hfs27 := blk_frozen BK139.out 0
          have hns27_0 := NB131_139.out
          have hns27_1 := NB132_139.out
          have hns27_2 := NB133_139.out
          have hms27_0 := NB139_131.out
          have hms27_1 := NB139_132.out
          have hms27_2 := NB139_133.out
          have hs28 : w26.cell? ⟨gb139, 1, none⟩ = some (.int .i64 0) := (blk_cell BK139.out 1).trans rfl
          have hfs28 := blk_frozen BK139.out 1
          have hns28_0 := NB131_139.out
          have hns28_1 := NB132_139.out
          have hns28_2 := NB133_139.out
          have hms28_0 := NB139_131.out
          have hms28_1 := NB139_132.out
          have hms28_2 := NB139_133.out
          refine skip_ (w1 := ?_) (by rfl) rfl ?_ ?_
          rotate_left
          ·go_simp
           rfl
          refine hK.out _ _ ⟨((cell_far (p := ⟨gb139, _, none⟩) NB131_139.out _).trans (((cell_far (p := ⟨gb139, _, none⟩) NB131_139.out _).trans (hHeld.1)))), ((cell_far (p := ⟨gb139, _, none⟩) NB132_139.out _).trans (((cell_far (p := ⟨gb139, _, none⟩) NB132_139.out _).trans (hHeld.2.1)))), ((cell_far (p := ⟨gb139, _, none⟩) (by first | exact Nat.ne_of_lt (Nat.lt_of_lt_of_le (by have := World.block_lt_of_cell? _ _ hw134_0; first | rwa [add_block] at this | exact this) GW139.out) | (rw [add_block]; exact Nat.ne_of_lt (Nat.lt_of_lt_of_le (by have := World.block_lt_of_cell? _ _ hw134_0; first | rwa [add_block] at this | exact this) GW139.out)) | (show (Addr.add _ _).block ≠ _; rw [add_block]; exact Nat.ne_of_lt (Nat.lt_of_lt_of_le (by have := World.block_lt_of_cell? _ _ hw134_0; first | rwa [add_block] at this | exact this) GW139.out)) | (dsimp only; exact Nat.ne_of_lt (Nat.lt_of_lt_of_le (by have := World.block_lt_of_cell? _ _ hw134_0; first | rwa [add_block] at this | exact this) GW139.out))) _).trans (((cell_far (p := ⟨gb139, _, none⟩) (by first | exact Nat.ne_of_lt (Nat.lt_of_lt_of_le (by have := World.block_lt_of_cell? _ _ hw134_0; first | rwa [add_block] at this | exact this) GW139.out) | (rw [add_block]; exact Nat.ne_of_lt (Nat.lt_of_lt_of_le (by have := World.block_lt_of_cell? _ _ hw134_0; first | rwa [add_block] at this | exact this) GW139.out)) | (show (Addr.add _ _).block ≠ _; rw [add_block]; exact Nat.ne_of_lt (Nat.lt_of_lt_of_le (by have := World.block_lt_of_cell? _ _ hw134_0; first | rwa [add_block] at this | exact this) GW139.out)) | (dsimp only; exact Nat.ne_of_lt (Nat.lt_of_lt_of_le (by have := World.block_lt_of_cell? _ _ hw134_0; first | rwa [add_block] at this | exact this) GW139.out))) _).trans (hHeld.2.2.1)))), ((cell_far (p := ⟨gb139, _, none⟩) (by first | exact Nat.ne_of_lt (Nat.lt_of_lt_of_le (by have := World.block_lt_of_cell? _ _ hw134_1; first | rwa [add_block] at this | exact this) GW139.out) | (rw [add_block]; exact Nat.ne_of_lt (Nat.lt_of_lt_of_le (by have := World.block_lt_of_cell? _ _ hw134_1; first | rwa [add_block] at this | exact this) GW139.out)) | (show (Addr.add _ _).block ≠ _; rw [add_block]; exact Nat.ne_of_lt (Nat.lt_of_lt_of_le (by have := World.block_lt_of_cell? _ _ hw134_1; first | rwa [add_block] at this | exact this) GW139.out)) | (dsimp only; exact Nat.ne_of_lt (Nat.lt_of_lt_of_le (by have := World.block_lt_of_cell? _ _ hw134_1; first | rwa [add_block] at this | exact this) GW139.out))) _).trans (((cell_far (p := ⟨gb139, _, none⟩) (by first | exact Nat.ne_of_lt (Nat.lt_of_lt_of_le (by have := World.block_lt_of_cell? _ _ hw134_1; first | rwa [add_block] at this | exact this) GW139.out) | (rw [add_block]; exact Nat.ne_of_lt (Nat.lt_of_lt_of_le (by have := World.block_lt_of_cell? _ _ hw134_1; first | rwa [add_block] at this | exact this) GW139.out)) | (show (Addr.add _ _).block ≠ _; rw [add_block]; exact Nat.ne_of_lt (Nat.lt_of_lt_of_le (by have := World.block_lt_of_cell? _ _ hw134_1; first | rwa [add_block] at this | exact this) GW139.out)) | (dsimp only; exact Nat.ne_of_lt (Nat.lt_of_lt_of_le (by have := World.block_lt_of_cell? _ _ hw134_1; first | rwa [add_block] at this | exact this) GW139.out))) _).trans (hHeld.2.2.2.1)))), ((cell_far (p := ⟨gb139, _, none⟩) (by first | exact Nat.ne_of_lt (Nat.lt_of_lt_of_le (by have := World.block_lt_of_cell? _ _ hw135_0; first | rwa [add_block] at this | exact this) GW139.out) | (rw [add_block]; exact Nat.ne_of_lt (Nat.lt_of_lt_of_le (by have := World.block_lt_of_cell? _ _ hw135_0; first | rwa [add_block] at this | exact this) GW139.out)) | (show (Addr.add _ _).block ≠ _; rw [add_block]; exact Nat.ne_of_lt (Nat.lt_of_lt_of_le (by have := World.block_lt_of_cell? _ _ hw135_0; first | rwa [add_block] at this | exact this) GW139.out)) | (dsimp only; exact Nat.ne_of_lt (Nat.lt_of_lt_of_le (by have := World.block_lt_of_cell? _ _ hw135_0; first | rwa [add_block] at this | exact this) GW139.out))) _).trans (((cell_far (p := ⟨gb139, _, none⟩) (by first | exact Nat.ne_of_lt (Nat.lt_of_lt_of_le (by have := World.block_lt_of_cell? _ _ hw135_0; first | rwa [add_block] at this | exact this) GW139.out) | (rw [add_block]; exact Nat.ne_of_lt (Nat.lt_of_lt_of_le (by have := World.block_lt_of_cell? _ _ hw135_0; first | rwa [add_block] at this | exact this) GW139.out)) | (show (Addr.add _ _).block ≠ _; rw [add_block]; exact Nat.ne_of_lt (Nat.lt_of_lt_of_le (by have := World.block_lt_of_cell? _ _ hw135_0; first | rwa [add_block] at this | exact this) GW139.out)) | (dsimp only; exact Nat.ne_of_lt (Nat.lt_of_lt_of_le (by have := World.block_lt_of_cell? _ _ hw135_0; first | rwa [add_block] at this | exact this) GW139.out))) _).trans (hHeld.2.2.2.2.1)))), ((cell_far (p := ⟨gb139, _, none⟩) (by first | exact Nat.ne_of_lt (Nat.lt_of_lt_of_le (by have := World.block_lt_of_cell? _ _ hw135_1; first | rwa [add_block] at this | exact this) GW139.out) | (rw [add_block]; exact Nat.ne_of_lt (Nat.lt_of_lt_of_le (by have := World.block_lt_of_cell? _ _ hw135_1; first | rwa [add_block] at this | exact this) GW139.out)) | (show (Addr.add _ _).block ≠ _; rw [add_block]; exact Nat.ne_of_lt (Nat.lt_of_lt_of_le (by have := World.block_lt_of_cell? _ _ hw135_1; first | rwa [add_block] at this | exact this) GW139.out)) | (dsimp only; exact Nat.ne_of_lt (Nat.lt_of_lt_of_le (by have := World.block_lt_of_cell? _ _ hw135_1; first | rwa [add_block] at this | exact this) GW139.out))) _).trans (((cell_far (p := ⟨gb139, _, none⟩) (by first | exact Nat.ne_of_lt (Nat.lt_of_lt_of_le (by have := World.block_lt_of_cell? _ _ hw135_1; first | rwa [add_block] at this | exact this) GW139.out) | (rw [add_block]; exact Nat.ne_of_lt (Nat.lt_of_lt_of_le (by have := World.block_lt_of_cell? _ _ hw135_1; first | rwa [add_block] at this | exact this) GW139.out)) | (show (Addr.add _ _).block ≠ _; rw [add_block]; exact Nat.ne_of_lt (Nat.lt_of_lt_of_le (by have := World.block_lt_of_cell? _ _ hw135_1; first | rwa [add_block] at this | exact this) GW139.out)) | (dsimp only; exact Nat.ne_of_lt (Nat.lt_of_lt_of_le (by have := World.block_lt_of_cell? _ _ hw135_1; first | rwa [add_block] at this | exact this) GW139.out))) _).trans (hHeld.2.2.2.2.2))))⟩ (fun hHeld => ?_)
          clear hK K
          refine pS (i := 16) (N := some 9) (ma 17 131071) rfl rfl HT_.out ?_
          refine done_ (done_of HT_.out (by kernel_rfl)) ?_
          go_upto_region 5 with (fail)
          go_cut [43] (fun v43 wc => ∃ (kq : Nat) (x43_21 : Bool), v43 = .bool x43_21 ∧ Aside0 (ranges_Set_And.j2 kq x5_1 x6_1 x7_1 x43_21 l0_0 l1_0 t136 t137 = some r) ∧ Aside0 (kq ≤ kj5) ∧ Aside0 (Kd.R k48 48 wc w.heap.size (fun k_ => k_ ≠ gb139) u5 x5_1) ∧ Aside0 (wc.heap[gb131]? = some (.cells #[(.slice (some ad134) l0_0.length c0_0)] 30 (0, 0))) ∧ Aside0 (wc.heap[gb132]? = some (.cells #[(.slice (some ad135) l1_0.length c1_0)] 30 (0, 0))) ∧ Aside0 (wc.heap[gb133]? = some (.cells #[(.slice none 0 0)] 30 (0, 0))) ∧ Aside0 (wc.heap[gb139]? = some (.cells #[.int .i64 t136, .int .i64 t137] 48 (0, 0))) ∧ Aside0 (Below w.heap.size w wc))
          case first =>
           have H := HC22.out
           clear HC22
           by_cases c29 : t138 = true
           ·subst c29
            rw [if_pos rfl] at H
            have H' := Aside0.mk H
            clear H
            have hnb30 := NB139_131.out
            have hnc30 := NB131_139.out
            have hnb31 := NB139_132.out
            have hnc31 := NB132_139.out
            have hnb32 := NB139_133.out
            have hnc32 := NB133_139.out
            obtain ⟨hcz33_0, hcz33_1⟩ := q2 BK139
            obtain ⟨hfz33_0, hfz33_1⟩ := z2 BK139
            go_wp2
            go_meet
            case rel => exact ⟨_, (decide (t136 < t137)), eR, H', ⟨by have := HK1.out; have := HJ5.out; first | omega | exact Nat.le_refl _⟩, ⟨rU (Kd.R_mono (Kd.R_far (p := ⟨gb139, 1, none⟩) (Kd.R_far (p := ⟨gb139, 0, none⟩) (Kd.R_mono HO_5.out (fun k_ hk => (⟨hk, hk⟩ : _ ∧ k_ ≠ gb139))) (fun _ hk => hk.2) (.int .i64 t136)) (fun _ hk => hk.2) (.int .i64 t137)) (fun _ hk => hk.1))⟩, ⟨bF BK131⟩, ⟨bF BK132⟩, ⟨bF BK133⟩, ⟨by (with_reducible repeat (first | refine blk_drewN ?_ _ | refine blk_drew ?_ | refine blk_alloc ?_ _)); refine blk_put (cs := #[.int .i64 t136, .int .i64 0]) ?_ 1 _ rfl; (with_reducible repeat (first | refine blk_drewN ?_ _ | refine blk_drew ?_ | refine blk_alloc ?_ _)); refine blk_put (cs := #[.int .i64 0, .int .i64 0]) ?_ 0 _ rfl; (with_reducible repeat (first | refine blk_drewN ?_ _ | refine blk_drew ?_ | refine blk_alloc ?_ _)); exact BK139.out⟩, ⟨lU HB⟩⟩
           ·replace c29 := Bool.eq_false_iff.mpr c29
            subst c29
            rw [if_neg (show ¬ (false = true) by decide)] at H
            have H' := Aside0.mk H
            clear H
            go_wp2
            go_meet
            case rel => exact ⟨_, (false), eR, H', ⟨by have := HK1.out; have := HJ5.out; first | omega | exact Nat.le_refl _⟩, ⟨rU (Kd.R_mono (Kd.R_far (p := ⟨gb139, 1, none⟩) (Kd.R_far (p := ⟨gb139, 0, none⟩) (Kd.R_mono HO_5.out (fun k_ hk => (⟨hk, hk⟩ : _ ∧ k_ ≠ gb139))) (fun _ hk => hk.2) (.int .i64 t136)) (fun _ hk => hk.2) (.int .i64 t137)) (fun _ hk => hk.1))⟩, ⟨bF BK131⟩, ⟨bF BK132⟩, ⟨bF BK133⟩, ⟨by (with_reducible repeat (first | refine blk_drewN ?_ _ | refine blk_drew ?_ | refine blk_alloc ?_ _)); refine blk_put (cs := #[.int .i64 t136, .int .i64 0]) ?_ 1 _ rfl; (with_reducible repeat (first | refine blk_drewN ?_ _ | refine blk_drew ?_ | refine blk_alloc ?_ _)); refine blk_put (cs := #[.int .i64 0, .int .i64 0]) ?_ 0 _ rfl; (with_reducible repeat (first | refine blk_drewN ?_ _ | refine blk_drew ?_ | refine blk_alloc ?_ _)); exact BK139.out⟩, ⟨lU HB⟩⟩
          case rest =>
           clear HC22
           try clear c1
           try clear p1
           try clear q1
           try clear hx1
           try clear c2
           try clear p2
           try clear c3
           try clear c5
           try clear c7
           try clear c7b0
           try clear c8
           try clear c9
           try clear c11
           try clear c13
           try clear p13
           try clear q13
           try clear hx13
           try clear c14
           try clear c16
           try clear c17
           try clear c17b0
           try clear c18
           try clear c18b0
           try clear c19
           try clear c19b0
           try clear c20
           try clear c20b0
           try clear c25
           try clear c29
           try clear c30
           try clear c31
           try clear c32
           try clear hcz10_0
           try clear hcz12_0
           try clear hcz15_0
           try clear hcz33_0
           try clear hcz33_1
           try clear hfz10_0
           try clear hfz12_0
           try clear hfz15_0
           try clear hfz33_0
           try clear hfz33_1
           try clear hx134_0
           try clear hx134_1
           try clear hx135_0
           try clear hx135_1
           try clear p134
           try clear p135
           try clear p2
           try clear q134
           try clear q135
           obtain ⟨kq, x43_21, rfl, HA, HJ21, HO_5, BK131, BK132, BK133, BK139, HB⟩ := hcut
           cases kq with
           | zero => exact absurd HA.out (by simp [ranges_Set_And.j2])
           | succ kj21 =>
            have H := HA.out
            clear HA
            simp only [ranges_Set_And.j2] at H
            by_cases c34 : x43_21 = true
            ·subst c34
             rw [if_pos rfl] at H
             by_cases c35 : x5_1.length < 8796093022208
             ·rw [if_pos c35] at H
              have LMc35 := Aside0.mk c35
              clear c35
              obtain ⟨y140, hy140⟩ : ∃ y_ : List (S48), y_ = (x5_1 ++ [(⟨t136, t137⟩ : S48)]) := ⟨_, rfl⟩
              replace H : (if 0 ≤ x6_1 then (if x6_1 < (l0_0.length : Int) then (if 0 ≤ x7_1 then (if x7_1 < (l1_0.length : Int) then (if ((rd_T48 l0_0 x6_1).f1) < ((rd_T48 l1_0 x7_1).f1) then (ranges_Set_And.l0 kj21 y140 (wrap64 (x6_1 + 1)) x7_1 l0_0 l1_0) else (ranges_Set_And.l0 kj21 y140 x6_1 (wrap64 (x7_1 + 1)) l0_0 l1_0)) else (none)) else (none)) else (none)) else (none)) = some r := by first | (rw [hy140]; with_reducible exact H) | (have H2_ := (Option.bind_some _ _).symm.trans H; rw [hy140]; with_reducible exact H2_) | (have H2_ := (Option.bind_some _ _).symm.trans H; with_reducible exact H2_) | with_reducible exact H | (rw [hy140]; exact H) | exact H
              have Ny140 := Aside0.mk hy140
              clear hy140
              by_cases c36 : 0 ≤ x6_1
              ·rw [if_pos c36] at H
               have c36b0 : decide (0 ≤ x6_1) = true := decide_eq_true c36
               clear c36
               by_cases c37 : x6_1 < (l0_0.length : Int)
               ·rw [if_pos c37] at H
                have c37b0 : decide (x6_1 < (l0_0.length : Int)) = true := decide_eq_true c37
                clear c37
                by_cases c38 : 0 ≤ x7_1
                ·rw [if_pos c38] at H
                 have c38b0 : decide (0 ≤ x7_1) = true := decide_eq_true c38
                 clear c38
                 by_cases c39 : x7_1 < (l1_0.length : Int)
                 ·rw [if_pos c39] at H
                  have c39b0 : decide (x7_1 < (l1_0.length : Int)) = true := decide_eq_true c39
                  clear c39
                  by_cases c40 : ((rd_T48 l0_0 x6_1).f1) < ((rd_T48 l1_0 x7_1).f1)
                  ·rw [if_pos c40] at H
                   have c40b0 : decide (((rd_T48 l0_0 x6_1).f1) < ((rd_T48 l1_0 x7_1).f1)) = true := decide_eq_true c40
                   clear c40
                   have H' := Aside0.mk H
                   clear H
                   have hnb41 := NB139_131.out
                   have hnc41 := NB131_139.out
                   have hnb42 := NB139_132.out
                   have hnc42 := NB132_139.out
                   have hnb43 := NB139_133.out
                   have hnc43 := NB133_139.out
                   obtain ⟨hcz44_0, hcz44_1⟩ := q2 BK139
                   obtain ⟨hfz44_0, hfz44_1⟩ := z2 BK139
                   try go_wp2_with (first | ((with_reducible refine gate_builtin (b := .append) (xs := #[.tmp 44, .tmp 46]) rfl ?_); (try (refine gate_guard (by rfl) ?_; dsimp only)); at_builtin; refine Kd.R_append k48 (w0 := w) w.heap.size rfl (.tmp 44) (.tmp 46) 22 48 (.agg #[(.int .i64 0), (.int .i64 0)]) 16 rfl Try.underlying22 info48 rfl (by decide) (by omega) u5 x5_1 (⟨t136, t137⟩ : S48) [.int .i64 t136, .int .i64 t137] (fun k_ => k_ ≠ gb139) (fun _ => False) rfl rfl ?aP (fun _ hk => hk.elim) ?aF ?aO ?aB ?aS ?aL ?_; (case aP => exact k48_mkM _ _ _ (⟨t136, t137⟩ : S48)); (case aB => exact (lU HB)); (case aF => exact (fun k_ hk => Kd.freshB (g := gb139) (o := .cells #[.int .i64 t136, .int .i64 t137] 48 (0, 0)) (bU BK139) k_ hk)); (case aO => exact (rU HO_5.out)); (case aS => exact (below_size (lU HB))); (case aL => have := LMc35.out; omega); intro v141 w45 ho hb hg hat; rw [← Ny140.out] at ho; have HO142 := Aside0.mk (ho); replace BK131 := Aside0.mk (blk_grown (g := gb131) (o := .cells #[.slice (some ad134) l0_0.length c0_0] 30 (0, 0)) (bU BK131) hg (Kd.R_ne HO_5.out BK131.out (by decide))); replace BK132 := Aside0.mk (blk_grown (g := gb132) (o := .cells #[.slice (some ad135) l1_0.length c1_0] 30 (0, 0)) (bU BK132) hg (Kd.R_ne HO_5.out BK132.out (by decide))); replace BK133 := Aside0.mk (blk_grown (g := gb133) (o := .cells #[.slice none 0 0] 30 (0, 0)) (bU BK133) hg (Kd.R_ne HO_5.out BK133.out (by decide))); replace BK139 := Aside0.mk (blk_grown (g := gb139) (o := .cells #[.int .i64 t136, .int .i64 t137] 48 (0, 0)) (bU BK139) hg (Kd.R_away HO_5.out (fun _ hk => hk))); replace HB := Aside0.mk (hb); clear HO_5; clear ho hb hg hat))
                   replace HO142 := Aside0.mk (Kd.R_drew HO142.out)
                   replace BK131 := Aside0.mk (blk_drew BK131.out)
                   replace BK132 := Aside0.mk (blk_drew BK132.out)
                   replace BK133 := Aside0.mk (blk_drew BK133.out)
                   replace BK139 := Aside0.mk (blk_drew BK139.out)
                   replace HB := Aside0.mk (below_drew1 HB.out)
                   have p143 : 0 ≤ (x6_1 : Int) := of_decide_eq_true (by first | (with_reducible assumption) | assumption)
                   have q143 : x6_1 < (l0_0.length : Int) := of_decide_eq_true (by first | (with_reducible assumption) | assumption)
                   obtain ⟨ad143, e143, hx143_0, hx143_1⟩ := at_T48 HR0_0.out x6_1 p143 q143
                   have hw143_1 := hx143_1
                   have hw143_0 := hx143_0
                   obtain rfl : ad134 = ad143 := (by injection e143)
                   replace hx143_0 := cB HB hx143_0
                   replace hx143_1 := cB HB hx143_1
                   replace p143 := eq_true p143
                   replace q143 := eq_true q143
                   have p144 : 0 ≤ (x7_1 : Int) := of_decide_eq_true (by first | (with_reducible assumption) | assumption)
                   have q144 : x7_1 < (l1_0.length : Int) := of_decide_eq_true (by first | (with_reducible assumption) | assumption)
                   obtain ⟨ad144, e144, hx144_0, hx144_1⟩ := at_T48 HR1_0.out x7_1 p144 q144
                   have hw144_1 := hx144_1
                   have hw144_0 := hx144_0
                   obtain rfl : ad135 = ad144 := (by injection e144)
                   replace hx144_0 := cB HB hx144_0
                   replace hx144_1 := cB HB hx144_1
                   replace p144 := eq_true p144
                   replace q144 := eq_true q144
                   refine start_ (n := 13) (S := fun w' => w'.cell? ⟨gb131, 0, none⟩ = some (.slice (some ad134) l0_0.length c0_0) ∧ w'.cell? ⟨gb132, 0, none⟩ = some (.slice (some ad135) l1_0.length c1_0) ∧ w'.cell? (ad134.add ((x6_1).toNat * 2)) = some (.int .i64 ((rd_T48 l0_0 x6_1).f0)) ∧ w'.cell? ⟨(ad134.add ((x6_1).toNat * 2)).block, (ad134.add ((x6_1).toNat * 2)).off + 1, none⟩ = some (.int .i64 ((rd_T48 l0_0 x6_1).f1)) ∧ w'.cell? (ad135.add ((x7_1).toNat * 2)) = some (.int .i64 ((rd_T48 l1_0 x7_1).f0)) ∧ w'.cell? ⟨(ad135.add ((x7_1).toNat * 2)).block, (ad135.add ((x7_1).toNat * 2)).off + 1, none⟩ = some (.int .i64 ((rd_T48 l1_0 x7_1).f1))) (ds := []) #[false, false, false, false, false, false, false, false, false, false, false, false, false] (by kernel_rfl) rfl rfl ⟨(blk_cell BK131.out 0).trans rfl, (blk_cell BK132.out 0).trans rfl, (cB HB hw143_0), (cB HB hw143_1), (cB HB hw144_0), (cB HB hw144_1)⟩ (fun hHeld => ?_); refine with_tabW ranges_Set_And.tab7 ranges_Set_And.bits7 (fun HT_ HW_ => ?_)
                   generalize w45.drew = w46 at HO142 BK131 BK132 BK133 BK139 HB hx143_0 hx143_1 hx144_0 hx144_1 hHeld ⊢
                   refine pS (i := 0) (N := some 48) (ma 13 1) rfl rfl HT_.out ?_
                   refine pS (i := 2) (N := some 50) (ma 13 5) rfl rfl HT_.out ?_
                   refine pS (i := 6) (N := some 54) (ma 13 69) rfl rfl HT_.out ?_
                   refine pS (i := 8) (N := some 56) (ma 13 325) rfl rfl HT_.out ?_
                   refine tS (i := 1) (N := some 49) (ma 13 327) rfl rfl HT_.out HW_.out hHeld ?_
                   refine pS (i := 3) (N := some 51) (ma 13 335) rfl rfl HT_.out ?_
                   refine pS (i := 4) (N := some 52) (ma 13 351) rfl rfl HT_.out ?_
                   refine tS (i := 5) (N := some 53) (ma 13 383) rfl rfl HT_.out HW_.out hHeld ?_
                   refine tS (i := 7) (N := some 55) (ma 13 511) rfl rfl HT_.out HW_.out hHeld ?_
                   refine pS (i := 9) (N := some 57) (ma 13 1023) rfl rfl HT_.out ?_
                   refine pS (i := 10) (N := some 58) (ma 13 2047) rfl rfl HT_.out ?_
                   refine tS (i := 11) (N := some 59) (ma 13 4095) rfl rfl HT_.out HW_.out hHeld ?_
                   refine pS (i := 12) (N := some 60) (ma 13 8191) rfl rfl HT_.out ?_
                   refine done_ (done_of HT_.out (by kernel_rfl)) ?_
                   try go_wp2
                   go_roundg kj21
                   case measure => have := HK1.out; have := HJ5.out; have := HJ21.out; omega
                   case rel => exact ⟨(y140), (wrap64 (x6_1 + 1)), (x7_1), eR, eR, H', ⟨by have := HK1.out; have := HJ5.out; have := HJ21.out; omega⟩, ⟨rU (Kd.R_mono HO142.out (fun _ hk => trivial))⟩, ⟨bU BK131⟩, ⟨bU BK132⟩, ⟨bU BK133⟩, ⟨lU HB⟩⟩
                  ·rw [if_neg c40] at H
                   have c40b0 : decide (((rd_T48 l0_0 x6_1).f1) < ((rd_T48 l1_0 x7_1).f1)) = false := decide_eq_false c40
                   clear c40
                   have H' := Aside0.mk H
                   clear H
                   have hnb47 := NB139_131.out
                   have hnc47 := NB131_139.out
                   have hnb48 := NB139_132.out
                   have hnc48 := NB132_139.out
                   have hnb49 := NB139_133.out
                   have hnc49 := NB133_139.out
                   obtain ⟨hcz50_0, hcz50_1⟩ := q2 BK139
                   obtain ⟨hfz50_0, hfz50_1⟩ := z2 BK139
                   try go_wp2_with (first | ((with_reducible refine gate_builtin (b := .append) (xs := #[.tmp 44, .tmp 46]) rfl ?_); (try (refine gate_guard (by rfl) ?_; dsimp only)); at_builtin; refine Kd.R_append k48 (w0 := w) w.heap.size rfl (.tmp 44) (.tmp 46) 22 48 (.agg #[(.int .i64 0), (.int .i64 0)]) 16 rfl Try.underlying22 info48 rfl (by decide) (by omega) u5 x5_1 (⟨t136, t137⟩ : S48) [.int .i64 t136, .int .i64 t137] (fun k_ => k_ ≠ gb139) (fun _ => False) rfl rfl ?aP (fun _ hk => hk.elim) ?aF ?aO ?aB ?aS ?aL ?_; (case aP => exact k48_mkM _ _ _ (⟨t136, t137⟩ : S48)); (case aB => exact (lU HB)); (case aF => exact (fun k_ hk => Kd.freshB (g := gb139) (o := .cells #[.int .i64 t136, .int .i64 t137] 48 (0, 0)) (bU BK139) k_ hk)); (case aO => exact (rU HO_5.out)); (case aS => exact (below_size (lU HB))); (case aL => have := LMc35.out; omega); intro v141 w51 ho hb hg hat; rw [← Ny140.out] at ho; have HO142 := Aside0.mk (ho); replace BK131 := Aside0.mk (blk_grown (g := gb131) (o := .cells #[.slice (some ad134) l0_0.length c0_0] 30 (0, 0)) (bU BK131) hg (Kd.R_ne HO_5.out BK131.out (by decide))); replace BK132 := Aside0.mk (blk_grown (g := gb132) (o := .cells #[.slice (some ad135) l1_0.length c1_0] 30 (0, 0)) (bU BK132) hg (Kd.R_ne HO_5.out BK132.out (by decide))); replace BK133 := Aside0.mk (blk_grown (g := gb133) (o := .cells #[.slice none 0 0] 30 (0, 0)) (bU BK133) hg (Kd.R_ne HO_5.out BK133.out (by decide))); replace BK139 := Aside0.mk (blk_grown (g := gb139) (o := .cells #[.int .i64 t136, .int .i64 t137] 48 (0, 0)) (bU BK139) hg (Kd.R_away HO_5.out (fun _ hk => hk))); replace HB := Aside0.mk (hb); clear HO_5; clear ho hb hg hat))
                   replace HO142 := Aside0.mk (Kd.R_drew HO142.out)
                   replace BK131 := Aside0.mk (blk_drew BK131.out)
                   replace BK132 := Aside0.mk (blk_drew BK132.out)
                   replace BK133 := Aside0.mk (blk_drew BK133.out)
                   replace BK139 := Aside0.mk (blk_drew BK139.out)
                   replace HB := Aside0.mk (below_drew1 HB.out)
                   have p143 : 0 ≤ (x6_1 : Int) := of_decide_eq_true (by first | (with_reducible assumption) | assumption)
                   have q143 : x6_1 < (l0_0.length : Int) := of_decide_eq_true (by first | (with_reducible assumption) | assumption)
                   obtain ⟨ad143, e143, hx143_0, hx143_1⟩ := at_T48 HR0_0.out x6_1 p143 q143
                   have hw143_1 := hx143_1
                   have hw143_0 := hx143_0
                   obtain rfl : ad134 = ad143 := (by injection e143)
                   replace hx143_0 := cB HB hx143_0
                   replace hx143_1 := cB HB hx143_1
                   replace p143 := eq_true p143
                   replace q143 := eq_true q143
                   have p144 : 0 ≤ (x7_1 : Int) := of_decide_eq_true (by first | (with_reducible assumption) | assumption)
                   have q144 : x7_1 < (l1_0.length : Int) := of_decide_eq_true (by first | (with_reducible assumption) | assumption)
                   obtain ⟨ad144, e144, hx144_0, hx144_1⟩ := at_T48 HR1_0.out x7_1 p144 q144
                   have hw144_1 := hx144_1
                   have hw144_0 := hx144_0
                   obtain rfl : ad135 = ad144 := (by injection e144)
                   replace hx144_0 := cB HB hx144_0
                   replace hx144_1 := cB HB hx144_1
                   replace p144 := eq_true p144
                   replace q144 := eq_true q144
                   refine start_ (n := 13) (S := fun w' => w'.cell? ⟨gb131, 0, none⟩ = some (.slice (some ad134) l0_0.length c0_0) ∧ w'.cell? ⟨gb132, 0, none⟩ = some (.slice (some ad135) l1_0.length c1_0) ∧ w'.cell? (ad134.add ((x6_1).toNat * 2)) = some (.int .i64 ((rd_T48 l0_0 x6_1).f0)) ∧ w'.cell? ⟨(ad134.add ((x6_1).toNat * 2)).block, (ad134.add ((x6_1).toNat * 2)).off + 1, none⟩ = some (.int .i64 ((rd_T48 l0_0 x6_1).f1)) ∧ w'.cell? (ad135.add ((x7_1).toNat * 2)) = some (.int .i64 ((rd_T48 l1_0 x7_1).f0)) ∧ w'.cell? ⟨(ad135.add ((x7_1).toNat * 2)).block, (ad135.add ((x7_1).toNat * 2)).off + 1, none⟩ = some (.int .i64 ((rd_T48 l1_0 x7_1).f1))) (ds := []) #[false, false, false, false, false, false, false, false, false, false, false, false, false] (by kernel_rfl) rfl rfl ⟨(blk_cell BK131.out 0).trans rfl, (blk_cell BK132.out 0).trans rfl, (cB HB hw143_0), (cB HB hw143_1), (cB HB hw144_0), (cB HB hw144_1)⟩ (fun hHeld => ?_); refine with_tabW ranges_Set_And.tab7 ranges_Set_And.bits7 (fun HT_ HW_ => ?_)
                   generalize w51.drew = w52 at HO142 BK131 BK132 BK133 BK139 HB hx143_0 hx143_1 hx144_0 hx144_1 hHeld ⊢
                   refine pS (i := 0) (N := some 48) (ma 13 1) rfl rfl HT_.out ?_
                   refine pS (i := 2) (N := some 50) (ma 13 5) rfl rfl HT_.out ?_
                   refine pS (i := 6) (N := some 54) (ma 13 69) rfl rfl HT_.out ?_
                   refine pS (i := 8) (N := some 56) (ma 13 325) rfl rfl HT_.out ?_
                   refine tS (i := 1) (N := some 49) (ma 13 327) rfl rfl HT_.out HW_.out hHeld ?_
                   refine pS (i := 3) (N := some 51) (ma 13 335) rfl rfl HT_.out ?_
                   refine pS (i := 4) (N := some 52) (ma 13 351) rfl rfl HT_.out ?_
                   refine tS (i := 5) (N := some 53) (ma 13 383) rfl rfl HT_.out HW_.out hHeld ?_
                   refine tS (i := 7) (N := some 55) (ma 13 511) rfl rfl HT_.out HW_.out hHeld ?_
                   refine pS (i := 9) (N := some 57) (ma 13 1023) rfl rfl HT_.out ?_
                   refine pS (i := 10) (N := some 58) (ma 13 2047) rfl rfl HT_.out ?_
                   refine tS (i := 11) (N := some 59) (ma 13 4095) rfl rfl HT_.out HW_.out hHeld ?_
                   refine pS (i := 12) (N := some 60) (ma 13 8191) rfl rfl HT_.out ?_
                   refine done_ (done_of HT_.out (by kernel_rfl)) ?_
                   try go_wp2
                   go_roundg kj21
                   case measure => have := HK1.out; have := HJ5.out; have := HJ21.out; omega
                   case rel => exact ⟨(y140), (x6_1), (wrap64 (x7_1 + 1)), eR, eR, H', ⟨by have := HK1.out; have := HJ5.out; have := HJ21.out; omega⟩, ⟨rU (Kd.R_mono HO142.out (fun _ hk => trivial))⟩, ⟨bU BK131⟩, ⟨bU BK132⟩, ⟨bU BK133⟩, ⟨lU HB⟩⟩
                 ·rw [if_neg c39] at H
                  exact absurd H (by simp)
                ·rw [if_neg c38] at H
                 exact absurd H (by simp)
               ·rw [if_neg c37] at H
                exact absurd H (by simp)
              ·rw [if_neg c36] at H
               exact absurd H (by simp)
             ·rw [if_neg c35] at H
              exact absurd H (by simp)
            ·replace c34 := Bool.eq_false_iff.mpr c34
             subst c34
             rw [if_neg (show ¬ (false = true) by decide)] at H
             by_cases c53 : 0 ≤ x6_1
             ·rw [if_pos c53] at H
              have c53b0 : decide (0 ≤ x6_1) = true := decide_eq_true c53
              clear c53
              by_cases c54 : x6_1 < (l0_0.length : Int)
              ·rw [if_pos c54] at H
               have c54b0 : decide (x6_1 < (l0_0.length : Int)) = true := decide_eq_true c54
               clear c54
               by_cases c55 : 0 ≤ x7_1
               ·rw [if_pos c55] at H
                have c55b0 : decide (0 ≤ x7_1) = true := decide_eq_true c55
                clear c55
                by_cases c56 : x7_1 < (l1_0.length : Int)
                ·rw [if_pos c56] at H
                 have c56b0 : decide (x7_1 < (l1_0.length : Int)) = true := decide_eq_true c56
                 clear c56
                 by_cases c57 : ((rd_T48 l0_0 x6_1).f1) < ((rd_T48 l1_0 x7_1).f1)
                 ·rw [if_pos c57] at H
                  have c57b0 : decide (((rd_T48 l0_0 x6_1).f1) < ((rd_T48 l1_0 x7_1).f1)) = true := decide_eq_true c57
                  clear c57
                  have H' := Aside0.mk H
                  clear H
                  try go_wp2
                  replace HO_5 := Aside0.mk (Kd.R_drew HO_5.out)
                  replace BK131 := Aside0.mk (blk_drew BK131.out)
                  replace BK132 := Aside0.mk (blk_drew BK132.out)
                  replace BK133 := Aside0.mk (blk_drew BK133.out)
                  replace BK139 := Aside0.mk (blk_drew BK139.out)
                  replace HB := Aside0.mk (below_drew1 HB.out)
                  have p145 : 0 ≤ (x6_1 : Int) := of_decide_eq_true (by first | (with_reducible assumption) | assumption)
                  have q145 : x6_1 < (l0_0.length : Int) := of_decide_eq_true (by first | (with_reducible assumption) | assumption)
                  obtain ⟨ad145, e145, hx145_0, hx145_1⟩ := at_T48 HR0_0.out x6_1 p145 q145
                  have hw145_1 := hx145_1
                  have hw145_0 := hx145_0
                  obtain rfl : ad134 = ad145 := (by injection e145)
                  replace hx145_0 := cB HB hx145_0
                  replace hx145_1 := cB HB hx145_1
                  replace p145 := eq_true p145
                  replace q145 := eq_true q145
                  have p146 : 0 ≤ (x7_1 : Int) := of_decide_eq_true (by first | (with_reducible assumption) | assumption)
                  have q146 : x7_1 < (l1_0.length : Int) := of_decide_eq_true (by first | (with_reducible assumption) | assumption)
                  obtain ⟨ad146, e146, hx146_0, hx146_1⟩ := at_T48 HR1_0.out x7_1 p146 q146
                  have hw146_1 := hx146_1
                  have hw146_0 := hx146_0
                  obtain rfl : ad135 = ad146 := (by injection e146)
                  replace hx146_0 := cB HB hx146_0
                  replace hx146_1 := cB HB hx146_1
                  replace p146 := eq_true p146
                  replace q146 := eq_true q146
                  refine start_ (n := 13) (S := fun w' => w'.cell? ⟨gb131, 0, none⟩ = some (.slice (some ad134) l0_0.length c0_0) ∧ w'.cell? ⟨gb132, 0, none⟩ = some (.slice (some ad135) l1_0.length c1_0) ∧ w'.cell? (ad134.add ((x6_1).toNat * 2)) = some (.int .i64 ((rd_T48 l0_0 x6_1).f0)) ∧ w'.cell? ⟨(ad134.add ((x6_1).toNat * 2)).block, (ad134.add ((x6_1).toNat * 2)).off + 1, none⟩ = some (.int .i64 ((rd_T48 l0_0 x6_1).f1)) ∧ w'.cell? (ad135.add ((x7_1).toNat * 2)) = some (.int .i64 ((rd_T48 l1_0 x7_1).f0)) ∧ w'.cell? ⟨(ad135.add ((x7_1).toNat * 2)).block, (ad135.add ((x7_1).toNat * 2)).off + 1, none⟩ = some (.int .i64 ((rd_T48 l1_0 x7_1).f1))) (ds := []) #[false, false, false, false, false, false, false, false, false, false, false, false, false] (by kernel_rfl) rfl rfl ⟨(blk_cell BK131.out 0).trans rfl, (blk_cell BK132.out 0).trans rfl, (cB HB hw145_0), (cB HB hw145_1), (cB HB hw146_0), (cB HB hw146_1)⟩ (fun hHeld => ?_); refine with_tabW ranges_Set_And.tab7 ranges_Set_And.bits7 (fun HT_ HW_ => ?_)
                  generalize wc.drew = w58 at HO_5 BK131 BK132 BK133 BK139 HB hx145_0 hx145_1 hx146_0 hx146_1 hHeld ⊢
                  refine pS (i := 0) (N := some 48) (ma 13 1) rfl rfl HT_.out ?_
                  refine pS (i := 2) (N := some 50) (ma 13 5) rfl rfl HT_.out ?_
                  refine pS (i := 6) (N := some 54) (ma 13 69) rfl rfl HT_.out ?_
                  refine pS (i := 8) (N := some 56) (ma 13 325) rfl rfl HT_.out ?_
                  refine tS (i := 1) (N := some 49) (ma 13 327) rfl rfl HT_.out HW_.out hHeld ?_
                  refine pS (i := 3) (N := some 51) (ma 13 335) rfl rfl HT_.out ?_
                  refine pS (i := 4) (N := some 52) (ma 13 351) rfl rfl HT_.out ?_
                  refine tS (i := 5) (N := some 53) (ma 13 383) rfl rfl HT_.out HW_.out hHeld ?_
                  refine tS (i := 7) (N := some 55) (ma 13 511) rfl rfl HT_.out HW_.out hHeld ?_
                  refine pS (i := 9) (N := some 57) (ma 13 1023) rfl rfl HT_.out ?_
                  refine pS (i := 10) (N := some 58) (ma 13 2047) rfl rfl HT_.out ?_
                  refine tS (i := 11) (N := some 59) (ma 13 4095) rfl rfl HT_.out HW_.out hHeld ?_
                  refine pS (i := 12) (N := some 60) (ma 13 8191) rfl rfl HT_.out ?_
                  refine done_ (done_of HT_.out (by kernel_rfl)) ?_
                  try go_wp2
                  go_roundg kj21
                  case measure => have := HK1.out; have := HJ5.out; have := HJ21.out; omega
                  case rel => exact ⟨(x5_1), (wrap64 (x6_1 + 1)), (x7_1), eR, eR, H', ⟨by have := HK1.out; have := HJ5.out; have := HJ21.out; omega⟩, ⟨rU (Kd.R_mono HO_5.out (fun _ hk => trivial))⟩, ⟨bU BK131⟩, ⟨bU BK132⟩, ⟨bU BK133⟩, ⟨lU HB⟩⟩
                 ·rw [if_neg c57] at H
                  have c57b0 : decide (((rd_T48 l0_0 x6_1).f1) < ((rd_T48 l1_0 x7_1).f1)) = false := decide_eq_false c57
                  clear c57
                  have H' := Aside0.mk H
                  clear H
                  try go_wp2
                  replace HO_5 := Aside0.mk (Kd.R_drew HO_5.out)
                  replace BK131 := Aside0.mk (blk_drew BK131.out)
                  replace BK132 := Aside0.mk (blk_drew BK132.out)
                  replace BK133 := Aside0.mk (blk_drew BK133.out)
                  replace BK139 := Aside0.mk (blk_drew BK139.out)
                  replace HB := Aside0.mk (below_drew1 HB.out)
                  have p145 : 0 ≤ (x6_1 : Int) := of_decide_eq_true (by first | (with_reducible assumption) | assumption)
                  have q145 : x6_1 < (l0_0.length : Int) := of_decide_eq_true (by first | (with_reducible assumption) | assumption)
                  obtain ⟨ad145, e145, hx145_0, hx145_1⟩ := at_T48 HR0_0.out x6_1 p145 q145
                  have hw145_1 := hx145_1
                  have hw145_0 := hx145_0
                  obtain rfl : ad134 = ad145 := (by injection e145)
                  replace hx145_0 := cB HB hx145_0
                  replace hx145_1 := cB HB hx145_1
                  replace p145 := eq_true p145
                  replace q145 := eq_true q145
                  have p146 : 0 ≤ (x7_1 : Int) := of_decide_eq_true (by first | (with_reducible assumption) | assumption)
                  have q146 : x7_1 < (l1_0.length : Int) := of_decide_eq_true (by first | (with_reducible assumption) | assumption)
                  obtain ⟨ad146, e146, hx146_0, hx146_1⟩ := at_T48 HR1_0.out x7_1 p146 q146
                  have hw146_1 := hx146_1
                  have hw146_0 := hx146_0
                  obtain rfl : ad135 = ad146 := (by injection e146)
                  replace hx146_0 := cB HB hx146_0
                  replace hx146_1 := cB HB hx146_1
                  replace p146 := eq_true p146
                  replace q146 := eq_true q146
                  refine start_ (n := 13) (S := fun w' => w'.cell? ⟨gb131, 0, none⟩ = some (.slice (some ad134) l0_0.length c0_0) ∧ w'.cell? ⟨gb132, 0, none⟩ = some (.slice (some ad135) l1_0.length c1_0) ∧ w'.cell? (ad134.add ((x6_1).toNat * 2)) = some (.int .i64 ((rd_T48 l0_0 x6_1).f0)) ∧ w'.cell? ⟨(ad134.add ((x6_1).toNat * 2)).block, (ad134.add ((x6_1).toNat * 2)).off + 1, none⟩ = some (.int .i64 ((rd_T48 l0_0 x6_1).f1)) ∧ w'.cell? (ad135.add ((x7_1).toNat * 2)) = some (.int .i64 ((rd_T48 l1_0 x7_1).f0)) ∧ w'.cell? ⟨(ad135.add ((x7_1).toNat * 2)).block, (ad135.add ((x7_1).toNat * 2)).off + 1, none⟩ = some (.int .i64 ((rd_T48 l1_0 x7_1).f1))) (ds := []) #[false, false, false, false, false, false, false, false, false, false, false, false, false] (by kernel_rfl) rfl rfl ⟨(blk_cell BK131.out 0).trans rfl, (blk_cell BK132.out 0).trans rfl, (cB HB hw145_0), (cB HB hw145_1), (cB HB hw146_0), (cB HB hw146_1)⟩ (fun hHeld => ?_); refine with_tabW ranges_Set_And.tab7 ranges_Set_And.bits7 (fun HT_ HW_ => ?_)
                  generalize wc.drew = w59 at HO_5 BK131 BK132 BK133 BK139 HB hx145_0 hx145_1 hx146_0 hx146_1 hHeld ⊢
                  refine pS (i := 0) (N := some 48) (ma 13 1) rfl rfl HT_.out ?_
                  refine pS (i := 2) (N := some 50) (ma 13 5) rfl rfl HT_.out ?_
                  refine pS (i := 6) (N := some 54) (ma 13 69) rfl rfl HT_.out ?_
                  refine pS (i := 8) (N := some 56) (ma 13 325) rfl rfl HT_.out ?_
                  refine tS (i := 1) (N := some 49) (ma 13 327) rfl rfl HT_.out HW_.out hHeld ?_
                  refine pS (i := 3) (N := some 51) (ma 13 335) rfl rfl HT_.out ?_
                  refine pS (i := 4) (N := some 52) (ma 13 351) rfl rfl HT_.out ?_
                  refine tS (i := 5) (N := some 53) (ma 13 383) rfl rfl HT_.out HW_.out hHeld ?_
                  refine tS (i := 7) (N := some 55) (ma 13 511) rfl rfl HT_.out HW_.out hHeld ?_
                  refine pS (i := 9) (N := some 57) (ma 13 1023) rfl rfl HT_.out ?_
                  refine pS (i := 10) (N := some 58) (ma 13 2047) rfl rfl HT_.out ?_
                  refine tS (i := 11) (N := some 59) (ma 13 4095) rfl rfl HT_.out HW_.out hHeld ?_
                  refine pS (i := 12) (N := some 60) (ma 13 8191) rfl rfl HT_.out ?_
                  refine done_ (done_of HT_.out (by kernel_rfl)) ?_
                  try go_wp2
                  go_roundg kj21
                  case measure => have := HK1.out; have := HJ5.out; have := HJ21.out; omega
                  case rel => exact ⟨(x5_1), (x6_1), (wrap64 (x7_1 + 1)), eR, eR, H', ⟨by have := HK1.out; have := HJ5.out; have := HJ21.out; omega⟩, ⟨rU (Kd.R_mono HO_5.out (fun _ hk => trivial))⟩, ⟨bU BK131⟩, ⟨bU BK132⟩, ⟨bU BK133⟩, ⟨lU HB⟩⟩
                ·rw [if_neg c56] at H
                 exact absurd H (by simp)
               ·rw [if_neg c55] at H
                exact absurd H (by simp)
              ·rw [if_neg c54] at H
               exact absurd H (by simp)
             ·rw [if_neg c53] at H
              exact absurd H (by simp)
         ·rw [if_neg c20] at H
          exact absurd H (by simp)
        ·rw [if_neg c19] at H
         exact absurd H (by simp)
       ·rw [if_neg c18] at H
        exact absurd H (by simp)
      ·rw [if_neg c17] at H
       exact absurd H (by simp)
     ·replace c16 := Bool.eq_false_iff.mpr c16
      subst c16
      rw [if_neg (show ¬ (false = true) by decide)] at H
      obtain rfl := Option.some.inj H
      obtain ⟨Ao60, co60, eo60⟩ := Kd.R_slice HO_5.out
      subst eo60
      have hnb61 := NB133_131.out
      have hnc61 := NB131_133.out
      have hnb62 := NB133_132.out
      have hnc62 := NB132_133.out
      have hcz63_0 := q1 BK133
      have hfz63_0 := blk_frozen BK133.out 0
      go_wp2
      refine bodyPost_ret (results_cell_row rfl _ _ gb133 30 #[.slice Ao60 x5_1.length co60] (0, 0) _ rfl (by (with_reducible repeat (first | refine blk_drewN ?_ _ | refine blk_drew ?_ | refine blk_alloc ?_ _)); refine blk_put (cs := #[.slice none 0 0]) ?_ 0 _ rfl; (with_reducible repeat (first | refine blk_drewN ?_ _ | refine blk_drew ?_ | refine blk_alloc ?_ _)); exact BK133.out) Try.underlying30 rfl (by kernel_rfl)) rfl ?_
      exact ⟨_, eW, by (with_reducible repeat (first | apply Kd.R_alloc | apply Kd.R_drewN | apply Kd.R_drew)); exact Kd.R_mono (Kd.R_far (p := ⟨gb133, 0, none⟩) (Kd.R_types HO_5.out BK133.out (by decide)) (fun _ hk => hk.2) (.slice Ao60 x5_1.length co60)) (fun _ hk => trivial), lU HB⟩
end Go.Proofs.Ytnaalaakhdbfbaa.XP
