-- Go functions as plain functions, and that the code comes to these answers (printed by a program).
import Derived.Test.YtnaalaakhdbfbaaV4XP0
import Derived.Test.YtnaalaakhdbfbaaV4XP6
namespace Go.Proofs.Ytnaalaakhdbfbaa.XP
open Go.RowKit Go.Proofs.YtnaalaakhdbfbaaW.PrintWords Go.Proofs.YtnaalaakhdbfbaaW.PrintLast Go.Proofs.YtnaalaakhdbfbaaW.PrintMore
attribute [local go_sem] max2_int min2_int max_two min_two max_three min_three max_four min_four
set_option linter.unusedVariables false
set_option linter.unusedSimpArgs false
def plan_may.f (a0 : Int) (a1_0 : Int) (a1_1 : Int) (a1_2 : Int) (a1_3 : Int) (a1_4 : Int) (a1_5 : Int) (a1_6 : Int) (a1_7 : Int) (a1_8 : Int) (a1_9 : Int) : Option (Bool) := (plan_unitMay.f a1_0).bind fun t203 => (if t203 = true then (if a1_1 ≥ 0 then (if a1_2 ≥ a1_0 then ((plan_lengthMay.f a0).bind fun t204 => (some t204)) else (some false)) else (some false)) else (some false))
set_option maxHeartbeats 8000000 in
set_option maxRecDepth 100000 in
theorem plan_may.calls (a0 : Int) (a1_0 : Int) (a1_1 : Int) (a1_2 : Int) (a1_3 : Int) (a1_4 : Int) (a1_5 : Int) (a1_6 : Int) (a1_7 : Int) (a1_8 : Int) (a1_9 : Int) (r : Bool) (w : World) (h : plan_may.f a0 a1_0 a1_1 a1_2 a1_3 a1_4 a1_5 a1_6 a1_7 a1_8 a1_9 = some r) :
  Calls Try.prog 31 #[.int .i64 a0, .agg #[.int .i64 a1_0, .int .i64 a1_1, .int .i64 a1_2, .int .i64 a1_3, .int .i64 a1_4, .int .i64 a1_5, .int .i64 a1_6, .int .i64 a1_7, .int .i64 a1_8, .int .i64 a1_9]] w fun e w' => e = .returned (.bool r) ∧ Below w.heap.size w w' := by
 have hu24 := Try.underlying24
 have HB := Aside0.mk (Below.refl w.heap.size w)
 unfold plan_may.f at h
 have H := h
 clear h
 obtain ⟨t203, A3, H⟩ := bO H
 by_cases c4 : t203 = true
 ·subst c4
  rw [if_pos rfl] at H
  by_cases c5 : a1_1 ≥ 0
  ·rw [if_pos c5] at H
   have c5b0 : decide (0 ≤ a1_1) = true := decide_eq_true c5
   clear c5
   by_cases c6 : a1_2 ≥ a1_0
   ·rw [if_pos c6] at H
    have c6b0 : decide (a1_0 ≤ a1_2) = true := decide_eq_true c6
    clear c6
    obtain ⟨t204, A7, H⟩ := bO H
    obtain rfl := Option.some.inj H
    go_enter Try.func31, Try.ntmps31
    go_wp2_with (first | ((with_reducible refine gate_dst (N := 3) rfl ?_); refine bX (N := 3) (cs := #[.int .i64 a1_0, .int .i64 a1_1, .int .i64 a1_2, .int .i64 a1_3, .int .i64 a1_4, .int .i64 a1_5, .int .i64 a1_6, .int .i64 a1_7, .int .i64 a1_8, .int .i64 a1_9]) (t := 24) ?_; intro gb202 hg w8 hbox hb; have BK202 := Aside0.mk (hbox); have GE202 := sG HB hg; replace HB := sL HB hb; clear hb hbox hg; obtain ⟨hcz9_0, hcz9_1, hcz9_2, hcz9_3, hcz9_4, hcz9_5, hcz9_6, hcz9_7, hcz9_8, hcz9_9⟩ := q10 BK202; obtain ⟨hfz9_0, hfz9_1, hfz9_2, hfz9_3, hfz9_4, hfz9_5, hfz9_6, hfz9_7, hfz9_8, hfz9_9⟩ := z10 BK202) | ((with_reducible refine gate_callee (f := 44) rfl ?_); refine gL (some 7) rfl rfl Try.func44 #[.int .i64 a1_0] rfl ?_; (with_reducible refine (plan_unitMay.calls a1_0 true _ A3.out).mono ?_); rintro e w' ⟨rfl, ⟨nd, rfl⟩⟩; refine ⟨_, rfl, ?_⟩) | (go_at_call 45; (with_reducible refine (plan_lengthMay.calls a0 t204 _ A7.out).mono ?_); rintro e w' ⟨rfl, ⟨nd, rfl⟩⟩))
    go_ret
    exact ⟨eW, lU HB⟩
   ·rw [if_neg c6] at H
    have c6b0 : decide (a1_0 ≤ a1_2) = false := decide_eq_false c6
    clear c6
    obtain rfl := Option.some.inj H
    go_enter Try.func31, Try.ntmps31
    go_wp2_with (first | ((with_reducible refine gate_dst (N := 3) rfl ?_); refine bX (N := 3) (cs := #[.int .i64 a1_0, .int .i64 a1_1, .int .i64 a1_2, .int .i64 a1_3, .int .i64 a1_4, .int .i64 a1_5, .int .i64 a1_6, .int .i64 a1_7, .int .i64 a1_8, .int .i64 a1_9]) (t := 24) ?_; intro gb202 hg w10 hbox hb; have BK202 := Aside0.mk (hbox); have GE202 := sG HB hg; replace HB := sL HB hb; clear hb hbox hg; obtain ⟨hcz11_0, hcz11_1, hcz11_2, hcz11_3, hcz11_4, hcz11_5, hcz11_6, hcz11_7, hcz11_8, hcz11_9⟩ := q10 BK202; obtain ⟨hfz11_0, hfz11_1, hfz11_2, hfz11_3, hfz11_4, hfz11_5, hfz11_6, hfz11_7, hfz11_8, hfz11_9⟩ := z10 BK202) | ((with_reducible refine gate_callee (f := 44) rfl ?_); refine gL (some 7) rfl rfl Try.func44 #[.int .i64 a1_0] rfl ?_; (with_reducible refine (plan_unitMay.calls a1_0 true _ A3.out).mono ?_); rintro e w' ⟨rfl, ⟨nd, rfl⟩⟩; refine ⟨_, rfl, ?_⟩))
    go_ret
    exact ⟨eW, lU HB⟩
  ·rw [if_neg c5] at H
   have c5b0 : decide (0 ≤ a1_1) = false := decide_eq_false c5
   clear c5
   obtain rfl := Option.some.inj H
   go_enter Try.func31, Try.ntmps31
   go_wp2_with (first | ((with_reducible refine gate_dst (N := 3) rfl ?_); refine bX (N := 3) (cs := #[.int .i64 a1_0, .int .i64 a1_1, .int .i64 a1_2, .int .i64 a1_3, .int .i64 a1_4, .int .i64 a1_5, .int .i64 a1_6, .int .i64 a1_7, .int .i64 a1_8, .int .i64 a1_9]) (t := 24) ?_; intro gb202 hg w12 hbox hb; have BK202 := Aside0.mk (hbox); have GE202 := sG HB hg; replace HB := sL HB hb; clear hb hbox hg; obtain ⟨hcz13_0, hcz13_1, hcz13_2, hcz13_3, hcz13_4, hcz13_5, hcz13_6, hcz13_7, hcz13_8, hcz13_9⟩ := q10 BK202; obtain ⟨hfz13_0, hfz13_1, hfz13_2, hfz13_3, hfz13_4, hfz13_5, hfz13_6, hfz13_7, hfz13_8, hfz13_9⟩ := z10 BK202) | ((with_reducible refine gate_callee (f := 44) rfl ?_); refine gL (some 7) rfl rfl Try.func44 #[.int .i64 a1_0] rfl ?_; (with_reducible refine (plan_unitMay.calls a1_0 true _ A3.out).mono ?_); rintro e w' ⟨rfl, ⟨nd, rfl⟩⟩; refine ⟨_, rfl, ?_⟩))
   go_ret
   exact ⟨eW, lU HB⟩
 ·replace c4 := Bool.eq_false_iff.mpr c4
  subst c4
  rw [if_neg (show ¬ (false = true) by decide)] at H
  obtain rfl := Option.some.inj H
  go_enter Try.func31, Try.ntmps31
  go_wp2_with (first | ((with_reducible refine gate_dst (N := 3) rfl ?_); refine bX (N := 3) (cs := #[.int .i64 a1_0, .int .i64 a1_1, .int .i64 a1_2, .int .i64 a1_3, .int .i64 a1_4, .int .i64 a1_5, .int .i64 a1_6, .int .i64 a1_7, .int .i64 a1_8, .int .i64 a1_9]) (t := 24) ?_; intro gb202 hg w14 hbox hb; have BK202 := Aside0.mk (hbox); have GE202 := sG HB hg; replace HB := sL HB hb; clear hb hbox hg; obtain ⟨hcz15_0, hcz15_1, hcz15_2, hcz15_3, hcz15_4, hcz15_5, hcz15_6, hcz15_7, hcz15_8, hcz15_9⟩ := q10 BK202; obtain ⟨hfz15_0, hfz15_1, hfz15_2, hfz15_3, hfz15_4, hfz15_5, hfz15_6, hfz15_7, hfz15_8, hfz15_9⟩ := z10 BK202) | ((with_reducible refine gate_callee (f := 44) rfl ?_); refine gL (some 7) rfl rfl Try.func44 #[.int .i64 a1_0] rfl ?_; (with_reducible refine (plan_unitMay.calls a1_0 false _ A3.out).mono ?_); rintro e w' ⟨rfl, ⟨nd, rfl⟩⟩; refine ⟨_, rfl, ?_⟩))
  go_ret
  exact ⟨eW, lU HB⟩
-- NOT PRINTED: function 70 (api_Span_int64)
def bsGo (l : List S48) (a : Int) : Nat → Nat → Nat → Nat
 | 0, i, _ => i
 | n + 1, i, j => if i < j then (if (l.getD ((i + j) / 2) z48).f1 ≤ a then bsGo l a n ((i + j) / 2 + 1) j else bsGo l a n i ((i + j) / 2)) else i
def bsFrom (l : List S48) (a : Int) : Nat := bsGo l a l.length 0 l.length
theorem bsGo_le (l : List S48) (a : Int) : ∀ n i j, i ≤ j → bsGo l a n i j ≤ j
 | 0, i, j, h => h
 | n + 1, i, j, h => by
  unfold bsGo
  split
  ·split
   ·exact bsGo_le l a n _ _ (by omega)
   ·have := bsGo_le l a n i ((i + j) / 2) (by omega); omega
  ·exact h
theorem span_at {w : World} {A : Option Addr} {l : List S48} (h : Kd.C k48 w A l.length l) (j : Nat) (hj : j < l.length) :
  ∃ ad, A = some ad ∧ w.cell? (ad.add (j * 2)) = some (.int .i64 (l.getD j z48).f0) ∧ w.cell? ⟨(ad.add (j * 2)).block, (ad.add (j * 2)).off + 1, none⟩ = some (.int .i64 (l.getD j z48).f1) := by
 obtain ⟨ad, e, h0, h1⟩ := at_T48 h (j : Int) (by omega) (by omega)
 exact ⟨ad, e, h0, h1⟩
theorem below_new (w : World) (o : Obj) : Below w.heap.size w (w.alloc o) := (Below.refl _ _).alloc (Nat.le_refl _) _
theorem from1_any (x : S48) (a : Int) (w : World) : Calls Try.prog 71 #[.agg #[.int .i64 x.f0, .int .i64 x.f1], .int .i64 a] w fun e w' => e = .returned (.int .i64 (if x.f1 ≤ a then -1 else 1)) ∧ Below w.heap.size w w' := by
 by_cases h : x.f1 ≤ a
 ·rw [if_pos h]
  have hd : decide (x.f1 ≤ a) = true := by simpa using h
  go_enter Try.func71, Try.ntmps71
  go_wp2
  go_ret
  exact ⟨rfl, below_new _ _⟩
 ·rw [if_neg h]
  have hd : decide (x.f1 ≤ a) = false := by simpa using h
  go_enter Try.func71, Try.ntmps71
  go_wp2
  go_ret
  exact ⟨rfl, below_new _ _⟩
set_option maxRecDepth 100000 in
set_option maxHeartbeats 2000000 in
theorem bsearch_any (A : Option Addr) (c : Nat) (l : List S48) (a : Int) (w : World) (hl : l.length ≤ 4611686018427387903) (hr : Kd.C k48 w A l.length l) :
  Calls Try.prog 70 #[.slice A l.length c, .int .i64 a, .func (.func 71) #[] #[]] w fun e w' =>
   e = .returned (.tuple #[.int .i64 (bsFrom l a), .bool false]) ∧ Below w.heap.size w w' := by
 have hl' : (l.length : Int) ≤ 4611686018427387903 := by omega
 obtain ⟨r, hrr⟩ : ∃ r, r = bsFrom l a := ⟨_, rfl⟩
 have Hr := Lib.hid hrr
 have hrl : r ≤ l.length := by rw [hrr]; exact bsGo_le l a _ _ _ (Nat.zero_le _)
 rw [← hrr]
 have H0 := Lib.hid (show bsGo l a l.length 0 l.length = r from hrr.symm)
 clear hrr
 go_enter Try.func70, Try.ntmps70
 go_wp2_with fail
 go_loopg [9, 10] (l.length) (fun n iv jv wq => ∃ i j : Nat, i ≤ j ∧ j ≤ l.length ∧ iv = .int .i64 i ∧ jv = .int .i64 j ∧ j - i ≤ n ∧ bsGo l a n i j = r ∧ Below w.heap.size w wq)
 case atStart => exact ⟨0, l.length, by omega, by omega, rfl, rfl, by omega, H0.out, Below.refl _ _⟩
 case round =>
  obtain ⟨i, j, hij, hjl, rfl, rfl, hgk, hgo, hB⟩ := hrel
  have Agk : Aside (j - i ≤ gk) := hgk
  have Hgo := Lib.hid hgo
  clear hgk hgo
  by_cases hlt : i < j
  ·obtain ⟨n, hn⟩ : ∃ n, gk = n + 1 := ⟨gk - 1, by have := Agk.out; omega⟩
   have Hn := Lib.hid hn
   clear hn
   have hm1 : i ≤ (i + j) / 2 := by omega
   have hm2 : (i + j) / 2 < j := by omega
   have hm3 : (i + j) / 2 < l.length := by omega
   obtain ⟨ad, rfl, p0, p1⟩ := span_at (Kd.C_below hr hB) ((i + j) / 2) hm3
   obtain ⟨x, hx⟩ : ∃ x, x = l.getD ((i + j) / 2) z48 := ⟨_, rfl⟩
   rw [← hx] at p0 p1
   have Hx := Lib.hid hx
   clear hx
   have hc := from1_any x a wr
   by_cases hle : x.f1 ≤ a
   ·rw [if_pos hle] at hc
    go_wp2_with fail
    refine hc.mono ?_
    rintro e w2 ⟨rfl, hB2⟩
    go_wp2_with fail
    go_roundg n
    case measure => have := Hn.out; omega
    refine ⟨(i + j) / 2 + 1, j, by omega, by omega, by simp, rfl, by have := Agk.out; have := Hn.out; omega, ?_, hB.trans (hB2.mono hB.size)⟩
    have := Hgo.out
    rw [Hn.out] at this
    unfold bsGo at this
    rw [if_pos hlt, ← Hx.out, if_pos hle] at this
    exact this
   ·rw [if_neg hle] at hc
    go_wp2_with fail
    refine hc.mono ?_
    rintro e w2 ⟨rfl, hB2⟩
    go_wp2_with fail
    go_roundg n
    case measure => have := Hn.out; omega
    refine ⟨i, (i + j) / 2, by omega, by omega, rfl, by simp, by have := Agk.out; have := Hn.out; omega, ?_, hB.trans (hB2.mono hB.size)⟩
    have := Hgo.out
    rw [Hn.out] at this
    unfold bsGo at this
    rw [if_pos hlt, ← Hx.out, if_neg (by omega)] at this
    exact this
  ·have hie : i = j := by omega
   subst hie
   have hri : i = r := by
    have := Hgo.out
    cases gk with
    | zero => exact this
    | succ n => unfold bsGo at this; rw [if_neg (by omega)] at this; exact this
   subst hri
   by_cases hil : i < l.length
   ·have hb1 : decide (i < l.length) = true := by simpa using hil
    obtain ⟨ad, rfl, p0, p1⟩ := span_at (Kd.C_below hr hB) i hil
    obtain ⟨x, hx⟩ : ∃ x, x = l.getD i z48 := ⟨_, rfl⟩
    rw [← hx] at p0 p1
    clear hx
    have hc := from1_any x a wr
    have hz : ((if x.f1 ≤ a then -1 else 1 : Int) == 0) = false := by split <;> rfl
    obtain ⟨d, hd⟩ : ∃ d, d = (if x.f1 ≤ a then -1 else 1 : Int) := ⟨_, rfl⟩
    rw [← hd] at hc hz
    clear hd
    go_wp2_with fail
    refine hc.mono ?_
    rintro e w2 ⟨rfl, hB2⟩
    go_wp2
    go_ret2
    exact ⟨rfl, hB.trans (hB2.mono hB.size)⟩
   ·have hb1 : decide (i < l.length) = false := by simpa using hil
    go_wp2
    go_ret2
    exact ⟨rfl, hB⟩
def ranges_Set_from.f (l0_0 : List S48) (a1 : Int) : Option Int := if l0_0.length < 1000000 then some (bsFrom l0_0 a1) else none
theorem ranges_Set_from.calls (A0_0 : Option Addr) (c0_0 : Nat) (l0_0 : List S48) (a1 : Int) (r : Int) (w : World) (hr0_0 : Kd.C k48 w A0_0 l0_0.length l0_0) (hc0_0 : l0_0.length ≤ c0_0) (h : ranges_Set_from.f l0_0 a1 = some r) :
  Calls Try.prog 59 #[.agg #[.slice A0_0 l0_0.length c0_0], .int .i64 a1] w fun e w' => e = .returned (.int .i64 r) ∧ Below w.heap.size w w' := by
 unfold ranges_Set_from.f at h
 split at h
 ·rename_i hlt
  cases h
  have hB0 := below_new w (.cells #[.slice A0_0 l0_0.length c0_0] 30)
  have hb := bsearch_any A0_0 c0_0 l0_0 a1 _ (by omega) (Kd.C_below hr0_0 hB0)
  clear hlt hr0_0
  go_enter Try.func59, Try.ntmps59
  go_wp2_with fail
  refine hb.mono ?_
  rintro e w2 ⟨rfl, hB2⟩
  go_wp2
  go_ret
  exact ⟨rfl, hB0.trans (hB2.mono hB0.size)⟩
 ·cases h
def ranges_Set_First.f (l0_0 : List (S48)) (a1 : Int) : Option (Int × Int × Bool) := (ranges_Set_from.f l0_0 a1).bind fun t207 => (if t207 = (l0_0.length : Int) then (some (0, 0, false)) else (if 0 ≤ t207 then (if t207 < (l0_0.length : Int) then (some (mx ((rd_T48 l0_0 t207).f0) a1, (rd_T48 l0_0 t207).f1, true)) else (none)) else (none)))
set_option maxHeartbeats 8000000 in
set_option maxRecDepth 100000 in
theorem ranges_Set_First.calls (A0_0 : Option Addr) (c0_0 : Nat) (l0_0 : List (S48)) (a1 : Int) (r1 : Int) (r2 : Int) (r3 : Bool) (w : World) (hr0_0 : Kd.C k48 w A0_0 l0_0.length l0_0) (hc0_0 : l0_0.length ≤ c0_0) (h : ranges_Set_First.f l0_0 a1 = some (r1, r2, r3)) :
  Calls Try.prog 32 #[.agg #[.slice A0_0 l0_0.length c0_0], .int .i64 a1] w fun e w' => e = .returned (.tuple #[.agg #[.int .i64 r1, .int .i64 r2], .bool r3]) ∧ Below w.heap.size w w' := by
 have hu30 := Try.underlying30
 have hu48 := Try.underlying48
 have HR0_0 := Aside0.mk hr0_0
 have HC0_0 := Aside0.mk hc0_0
 clear hr0_0 hc0_0
 have HB := Aside0.mk (Below.refl w.heap.size w)
 unfold ranges_Set_First.f at h
 have H := h
 clear h
 obtain ⟨t207, A3, H⟩ := bO H
 by_cases c4 : t207 = (l0_0.length : Int)
 ·rw [if_pos c4] at H
  have c4b0 : (t207 == (l0_0.length : Int)) = true := beq_iff_eq.mpr c4
  have c4b1 : (t207 != (l0_0.length : Int)) = false := bne_eq_false_iff_eq.mpr c4
  clear c4
  simp only [Option.some.injEq, Prod.mk.injEq] at H
  obtain ⟨rfl, rfl, rfl⟩ := H
  go_enter Try.func32, Try.ntmps32
  go_wp2_with (first | ((with_reducible refine gate_dst (N := 2) rfl ?_); refine bX (N := 2) (cs := #[.slice A0_0 l0_0.length c0_0]) (t := 30) ?_; intro gb205 hg w5 hbox hb; have BK205 := Aside0.mk (hbox); have GE205 := sG HB hg; replace HB := sL HB hb; clear hb hbox hg) | ((with_reducible refine gate_dst (N := 4) rfl ?_); refine bX (N := 4) (cs := #[.int .i64 0, .int .i64 0]) (t := 48) ?_; intro gb206 hg w6 hbox hb; have BK206 := Aside0.mk (hbox); have GE206 := sG HB hg; have NB205_206 := sN BK205 hg; have NB206_205 := sM BK205 hg; replace BK205 := sB BK205 hb; replace HB := sL HB hb; clear hb hbox hg; have hnb7 := NB205_206.out; have hnc7 := NB206_205.out; have hcz8_0 := q1 BK205; have hfz8_0 := blk_frozen BK205.out 0) | ((with_reducible refine gate_callee (f := 59) rfl ?_); refine gL (some 10) rfl rfl Try.func59 #[.agg #[.slice A0_0 l0_0.length c0_0], .int .i64 a1] rfl ?_; (with_reducible refine (ranges_Set_from.calls _ _ l0_0 a1 t207 _ (cU (Kd.C_below HR0_0.out HB.out)) HC0_0.out A3.out).mono ?_); rintro e w9 ⟨rfl, hb⟩; refine ⟨_, rfl, ?_⟩; replace BK205 := sB BK205 hb; replace BK206 := sB BK206 hb; replace HB := sL HB hb; (try clear hb); (try clear hb2); (try clear hk); (try clear hi); have hcz10_0 := q1 BK205; have hfz10_0 := blk_frozen BK205.out 0; obtain ⟨hcz11_0, hcz11_1⟩ := q2 BK206; obtain ⟨hfz11_0, hfz11_1⟩ := z2 BK206))
  refine bodyPost_ret (results_ct rfl _ _ gb206 48 #[.int .i64 0, .int .i64 0] (0, 0) _ rfl (by (with_reducible repeat (first | refine blk_drewN ?_ _ | refine blk_drew ?_ | refine blk_alloc ?_ _)); refine blk_put (cs := #[.int .i64 0, .int .i64 0]) ?_ 1 _ rfl; (with_reducible repeat (first | refine blk_drewN ?_ _ | refine blk_drew ?_ | refine blk_alloc ?_ _)); refine blk_put (cs := #[.int .i64 0, .int .i64 0]) ?_ 0 _ rfl; (with_reducible repeat (first | refine blk_drewN ?_ _ | refine blk_drew ?_ | refine blk_alloc ?_ _)); exact BK206.out) Try.underlying48 rfl (by kernel_rfl)) rfl ?_
  exact ⟨eW, lU HB⟩
 ·rw [if_neg c4] at H
  have c4b0 : (t207 == (l0_0.length : Int)) = false := beq_eq_false_iff_ne.mpr c4
  have c4b1 : (t207 != (l0_0.length : Int)) = true := bne_iff_ne.mpr c4
  by_cases c12 : 0 ≤ t207
  ·rw [if_pos c12] at H
   have c12b0 : decide (0 ≤ t207) = true := decide_eq_true c12
   clear c12
   by_cases c13 : t207 < (l0_0.length : Int)
   ·rw [if_pos c13] at H
    have c13b0 : decide (t207 < (l0_0.length : Int)) = true := decide_eq_true c13
    clear c13
    obtain ⟨ji14, hji14⟩ : ∃ j_ : Int, (mx ((rd_T48 l0_0 t207).f0) a1) = j_ := ⟨_, rfl⟩
    replace H : (some (ji14, (rd_T48 l0_0 t207).f1, true)) = some (r1, r2, r3) := by first | (rw [hji14] at H; exact H) | (simp only [hji14] at H ⊢; exact H)
    (try rw [hji14] at A3)
    have hji14_ : (if ((rd_T48 l0_0 t207).f0) < a1 then a1 else ((rd_T48 l0_0 t207).f0)) = ji14 := hji14
    simp only [Option.some.injEq, Prod.mk.injEq] at H
    obtain ⟨rfl, rfl, rfl⟩ := H
    go_enter Try.func32, Try.ntmps32
    go_wp2_with (first | ((with_reducible refine gate_dst (N := 2) rfl ?_); refine bX (N := 2) (cs := #[.slice A0_0 l0_0.length c0_0]) (t := 30) ?_; intro gb205 hg w15 hbox hb; have BK205 := Aside0.mk (hbox); have GE205 := sG HB hg; replace HB := sL HB hb; clear hb hbox hg) | ((with_reducible refine gate_dst (N := 4) rfl ?_); refine bX (N := 4) (cs := #[.int .i64 0, .int .i64 0]) (t := 48) ?_; intro gb206 hg w16 hbox hb; have BK206 := Aside0.mk (hbox); have GE206 := sG HB hg; have NB205_206 := sN BK205 hg; have NB206_205 := sM BK205 hg; replace BK205 := sB BK205 hb; replace HB := sL HB hb; clear hb hbox hg; have hnb17 := NB205_206.out; have hnc17 := NB206_205.out; have hcz18_0 := q1 BK205; have hfz18_0 := blk_frozen BK205.out 0) | ((with_reducible refine gate_callee (f := 59) rfl ?_); refine gL (some 10) rfl rfl Try.func59 #[.agg #[.slice A0_0 l0_0.length c0_0], .int .i64 a1] rfl ?_; (with_reducible refine (ranges_Set_from.calls _ _ l0_0 a1 t207 _ (cU (Kd.C_below HR0_0.out HB.out)) HC0_0.out A3.out).mono ?_); rintro e w19 ⟨rfl, hb⟩; refine ⟨_, rfl, ?_⟩; replace BK205 := sB BK205 hb; replace BK206 := sB BK206 hb; replace HB := sL HB hb; (try clear hb); (try clear hb2); (try clear hk); (try clear hi); have hcz20_0 := q1 BK205; have hfz20_0 := blk_frozen BK205.out 0; have p208 : 0 ≤ (t207 : Int) := of_decide_eq_true (by first | (with_reducible assumption) | assumption); have q208 : t207 < (l0_0.length : Int) := of_decide_eq_true (by first | (with_reducible assumption) | assumption); obtain ⟨ad208, e208, hx208_0, hx208_1⟩ := at_T48 HR0_0.out t207 p208 q208; cases e208; replace hx208_0 := (HB.out.cell (World.block_lt_of_cell? w _ hx208_0)).trans hx208_0; replace hx208_1 := (HB.out.cell (World.block_lt_of_cell? w _ hx208_1)).trans hx208_1; replace p208 := eq_true p208; replace q208 := eq_true q208) | ((with_reducible refine gate_dst (N := 7) rfl ?_); refine bX (N := 7) (cs := #[.int .i64 0, .int .i64 0]) (t := 48) ?_; intro gb209 hg w21 hbox hb; have BK209 := Aside0.mk (hbox); have GE209 := sG HB hg; have NB205_209 := sN BK205 hg; have NB209_205 := sM BK205 hg; have NB206_209 := sN BK206 hg; have NB209_206 := sM BK206 hg; replace BK205 := sB BK205 hb; replace BK206 := sB BK206 hb; replace HB := sL HB hb; clear hb hbox hg; have hnb22 := NB209_205.out; have hnc22 := NB205_209.out; have hnb23 := NB209_206.out; have hnc23 := NB206_209.out; obtain ⟨hcz24_0, hcz24_1⟩ := q2 BK209; obtain ⟨hfz24_0, hfz24_1⟩ := z2 BK209; obtain ⟨hcz25_0, hcz25_1⟩ := q2 BK206; obtain ⟨hfz25_0, hfz25_1⟩ := z2 BK206))
    refine bodyPost_ret (results_ct rfl _ _ gb206 48 #[.int .i64 ji14, .int .i64 ((rd_T48 l0_0 t207).f1)] (0, 0) _ rfl (by (with_reducible repeat (first | refine blk_drewN ?_ _ | refine blk_drew ?_ | refine blk_alloc ?_ _)); refine blk_put (cs := #[.int .i64 ji14, .int .i64 0]) ?_ 1 _ rfl; (with_reducible repeat (first | refine blk_drewN ?_ _ | refine blk_drew ?_ | refine blk_alloc ?_ _)); refine blk_put (cs := #[.int .i64 0, .int .i64 0]) ?_ 0 _ rfl; (with_reducible repeat (first | refine blk_drewN ?_ _ | refine blk_drew ?_ | refine blk_alloc ?_ _)); refine blk_far ?_ NB206_209.out _; (with_reducible repeat (first | refine blk_drewN ?_ _ | refine blk_drew ?_ | refine blk_alloc ?_ _)); refine blk_far ?_ NB206_209.out _; (with_reducible repeat (first | refine blk_drewN ?_ _ | refine blk_drew ?_ | refine blk_alloc ?_ _)); refine blk_far ?_ NB206_209.out _; (with_reducible repeat (first | refine blk_drewN ?_ _ | refine blk_drew ?_ | refine blk_alloc ?_ _)); exact BK206.out) Try.underlying48 rfl (by kernel_rfl)) rfl ?_
    exact ⟨by first | rfl | (simp [errW_none, errW_some] <;> rfl) | (simp only [← hji14]; first | rfl | (simp [errW_none, errW_some] <;> rfl)) | (simp [*, errW_none, errW_some] <;> rfl), lU HB⟩
   ·rw [if_neg c13] at H
    exact absurd H (by simp)
  ·rw [if_neg c12] at H
   exact absurd H (by simp)
end Go.Proofs.Ytnaalaakhdbfbaa.XP
