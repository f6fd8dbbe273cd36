-- Go functions as plain functions, and that the code comes to these answers (printed by a program).
import Derived.Test.YtnaalaakhdbfbaaV4XP0
namespace Go.Proofs.Ytnaalaakhdbfbaa.XP
open Go.RowKit Go.Proofs.YtnaalaakhdbfbaaW.PrintWords Go.Proofs.YtnaalaakhdbfbaaW.PrintLast Go.Proofs.YtnaalaakhdbfbaaW.PrintMore
attribute [local go_sem] max2_int min2_int max_two min_two max_three min_three max_four min_four
set_option linter.unusedVariables false
set_option linter.unusedSimpArgs false
theorem infoSpan : (Try.prog.info? 48).map (fun i => (i.zero, i.size, i.bytes)) = some (some (.agg #[.int .i64 0, .int .i64 0]), 2, 16) := by kernel_rfl
/-- Spans, cell by cell. -/
def flatS (l : List S48) : List Value := l.flatMap fun x => [.int .i64 x.f0, .int .i64 x.f1]
theorem flatS_snoc (l : List S48) (x : S48) : flatS (l ++ [x]) = flatS l ++ [.int .i64 x.f0, .int .i64 x.f1] := by simp [flatS]
theorem flatS_length (l : List S48) : (flatS l).length = l.length * 2 := by
 induction l with
 | nil => rfl
 | cons x l ih => show (_ :: _ :: flatS l).length = _; simp [ih]; omega
theorem flatS_one (l : List S48) : ∀ u ∈ flatS l, u.oneCell' = true := by
 intro u hu
 obtain ⟨x, _, hx⟩ := List.mem_flatMap.1 hu
 simp at hx
 rcases hx with rfl | rfl <;> rfl
theorem flatS_get {l : List S48} {j : Nat} {u : Value} (h : (flatS l)[j]? = some u) : ∃ x, l[j / 2]? = some x ∧ ((j % 2 = 0 ∧ u = .int .i64 x.f0) ∨ (j % 2 = 1 ∧ u = .int .i64 x.f1)) := by
 induction l generalizing j with
 | nil => simp [flatS] at h
 | cons x l ih =>
  have e : flatS (x :: l) = .int .i64 x.f0 :: .int .i64 x.f1 :: flatS l := rfl
  rw [e] at h
  match j with
  | 0 => exact ⟨x, by simp, .inl ⟨rfl, by simpa using h.symm⟩⟩
  | 1 => exact ⟨x, by simp, .inr ⟨rfl, by simpa using h.symm⟩⟩
  | j + 2 =>
   obtain ⟨y, hy, hu⟩ := ih (j := j) (by simpa using h)
   refine ⟨y, ?_, ?_⟩
   ·rw [show (j + 2) / 2 = j / 2 + 1 by omega]; simpa using hy
   ·rw [show (j + 2) % 2 = j % 2 by omega]; exact hu
/-- Of an owned row of spans to the print's word. -/
theorem RS_of_own {w : World} {base : Nat} {v : Value} {l : List S48} (h : w.ownsRow base 48 2 v l.length (flatS l)) : Kd.R k48 48 w base (fun _ => True) v l := by
 refine ⟨fun _ _ => trivial, flatS l, h, ?_⟩
 clear h
 have h : ∀ (r acc : List S48) (R : S48 → List Value → Prop), (∀ x : S48, R x [.int .i64 x.f0, .int .i64 x.f1]) → Reps R 2 acc (flatS acc) → Reps R 2 (acc ++ r) (flatS (acc ++ r)) := by
  intro r
  induction r with
  | nil => intro acc R hR h; simpa using h
  | cons x r ih =>
   intro acc R hR h
   have := ih (acc ++ [x]) R hR (by rw [flatS_snoc]; exact h.snoc (hR x) rfl)
   simpa using this
 exact h l [] _ (fun x => k48_mkM w base _ x) (Reps.none _ _)
/-- The cells of a row of spans that is read. -/
theorem CS_cells {w : World} {A : Option Addr} {l : List S48} (h : Kd.C k48 w A l.length l) (hl : 0 < l.length) : ∃ ad, A = some ad ∧ ∀ j u, (flatS l)[j]? = some u → w.cell? (ad.add j) = some u := by
 obtain ⟨ad, rfl, _, _⟩ := at_T48 h 0 (by omega) (by omega)
 refine ⟨ad, rfl, fun j u hj => ?_⟩
 obtain ⟨x, hx, hu⟩ := flatS_get hj
 have hlt : j / 2 < l.length := by
  rcases Nat.lt_or_ge (j / 2) l.length with h | h
  ·exact h
  ·rw [List.getElem?_eq_none h] at hx; cases hx
 obtain ⟨ad', e, h0, h1⟩ := at_T48 h ((j / 2 : Nat) : Int) (by omega) (by omega)
 cases e
 have hr : rd_T48 l ((j / 2 : Nat) : Int) = x := by
  unfold rd_T48
  rw [Int.toNat_natCast, List.getD_eq_getElem?_getD, hx]
  rfl
 rw [hr, Int.toNat_natCast] at h0 h1
 rcases hu with ⟨hm, rfl⟩ | ⟨hm, rfl⟩
 ·rw [show j = j / 2 * 2 by omega]; exact h0
 ·rw [show j = j / 2 * 2 + 1 by omega]
  have e2 : ad.add (j / 2 * 2 + 1) = ⟨(ad.add (j / 2 * 2)).block, (ad.add (j / 2 * 2)).off + 1, none⟩ := by
   rw [← add_field ad (j / 2 * 2) 1 (by omega)]
  rw [e2]; exact h1
def api_Span_48.f (l0 : List S48) : Option (List S48) := if l0.length < 8796093022208 then some l0 else none
set_option maxRecDepth 100000 in
set_option maxHeartbeats 1000000 in
theorem api_Span_48.calls (A0 : Option Addr) (c0 : Nat) (l0 : List S48) (r : List S48) (w : World) (hr0 : Kd.C k48 w A0 l0.length l0) (hc0 : l0.length ≤ c0) (h : api_Span_48.f l0 = some r) :
  Calls Try.prog 48 #[.slice A0 l0.length c0] w fun e w' => ∃ v0_ : Value, e = .returned (v0_) ∧ Kd.R k48 48 w' w.heap.size (fun _ => True) v0_ r ∧ Below w.heap.size w w' := by
 unfold api_Span_48.f at h
 split at h
 ·rename_i hlt
  cases h
  obtain ⟨i0, hi, hz0, hz1, hz2⟩ := info_parts infoSpan
  cases A0 with
  | none =>
   have hnil : l0 = [] := by
    cases l0 with
    | nil => rfl
    | cons x l => obtain ⟨_, e, _⟩ := CS_cells hr0 (by simp); cases e
   subst hnil
   have he := fun w n c => Lib.run_eql_slice_nil (P := Try.prog) w 22 48 none 0 c0 n c Try.underlying22
   go_enter Try.func48, Try.ntmps48
   go_wp2_with fail
   go_ret
   exact ⟨_, rfl, Kd.R_nil _ _ _ _ _, Below.refl _ _⟩
  | some a =>
   have he := fun w n' c' => Lib.run_eql_slice_nil (P := Try.prog) w 22 48 (some a) l0.length c0 n' c' Try.underlying22
   have HL1 := Lib.hid (show 0 + l0.length ≤ maxLen by unfold maxLen; omega)
   have HL2 := Lib.hid (show (0 + l0.length) * 16 ≤ 140737488355328 by omega)
   have HC := Lib.hid (show ∀ j u, (flatS l0)[j]? = some u → w.cell? (a.add j) = some u from by
    intro j u hj
    have hpos : 0 < l0.length := by
     cases l0 with
     | nil => simp [flatS] at hj
     | cons x l => simp
    obtain ⟨ad, e, hc⟩ := CS_cells hr0 hpos
    cases e
    exact hc j u hj)
   have hown : (w.alloc (.cells #[] 48)).ownsRow w.heap.size 48 2 (.slice (some ⟨w.heap.size, 0, none⟩) 0 0) 0 [] :=
    ⟨rfl, .inr ⟨w.heap.size, 0, #[], rfl, Nat.le_refl _, heap_alloc_new w _, Nat.le_refl _, Nat.zero_le _, rfl, rfl⟩⟩
   have HC2 := Lib.hid (show ∀ j u, (flatS l0)[j]? = some u → (w.alloc (.cells #[] 48)).cell? (a.add j) = some u from fun j u hj => by rw [World.cell?_alloc_lt _ _ _ (World.block_lt_of_cell? w _ (HC.out j u hj))]; exact HC.out j u hj)
   clear hlt hr0
   go_enter Try.func48, Try.ntmps48
   go_wp2_with (at_builtin; refine wpList_append_own _ rfl _ _ 22 rfl w.heap.size 48 i0 (.agg #[.int .i64 0, .int .i64 0]) 2 16 Try.underlying22 hi hz0 hz1 hz2 rfl (by decide) _ _ _ rfl hown a l0.length c0 (flatS l0) rfl (flatS_length l0) HC2.out (flatS_one l0) HL1.out HL2.out (by simp) ?_; intro v' w1 hown' hgrow _)
   go_ret
   rw [List.nil_append, Nat.zero_add] at hown'
   exact ⟨_, rfl, RS_of_own hown', ((Below.refl _ _).alloc (Nat.le_refl _) _).grown hgrow (by simp) (fun k e => by cases e; exact Nat.le_refl _)⟩
 ·cases h
def ranges_Set_Spans.f (l0_0 : List (S48)) : Option ((List (S48))) := (api_Span_48.f l0_0).bind fun t102 => (some t102)
set_option maxHeartbeats 8000000 in
set_option maxRecDepth 100000 in
theorem ranges_Set_Spans.calls (A0_0 : Option Addr) (c0_0 : Nat) (l0_0 : List (S48)) (r : List (S48)) (w : World) (hr0_0 : Kd.C k48 w A0_0 l0_0.length l0_0) (hc0_0 : l0_0.length ≤ c0_0) (h : ranges_Set_Spans.f l0_0 = some r) :
  Calls Try.prog 21 #[.agg #[.slice A0_0 l0_0.length c0_0]] w fun e w' => ∃ v0_ : Value, e = .returned (v0_) ∧ Kd.R k48 48 w' w.heap.size (fun _ => True) v0_ r ∧ Below w.heap.size w w' := by
 have hu30 := Try.underlying30
 have HR0_0 := Aside0.mk hr0_0
 have HC0_0 := Aside0.mk hc0_0
 clear hr0_0 hc0_0
 have HB := Aside0.mk (Below.refl w.heap.size w)
 unfold ranges_Set_Spans.f at h
 have H := h
 clear h
 obtain ⟨t102, A2, H⟩ := bO H
 obtain rfl := Option.some.inj H
 go_enter Try.func21, Try.ntmps21
 go_wp2_with (first | ((with_reducible refine gate_dst (N := 1) rfl ?_); refine bX (N := 1) (cs := #[.slice A0_0 l0_0.length c0_0]) (t := 30) ?_; intro gb101 hg w3 hbox hb; have BK101 := Aside0.mk (hbox); have GE101 := sG HB hg; replace HB := sL HB hb; clear hb hbox hg; have hcz4_0 := q1 BK101; have hfz4_0 := blk_frozen BK101.out 0) | ((with_reducible refine gate_callee (f := 48) rfl ?_); refine gL (some 5) rfl rfl Try.func48 #[.slice A0_0 l0_0.length c0_0] rfl ?_; (with_reducible refine (api_Span_48.calls _ _ l0_0 t102 _ (cU (Kd.C_below HR0_0.out HB.out)) HC0_0.out A2.out).mono ?_); rintro e w5 ⟨v103, rfl, ho0, hb⟩; refine ⟨_, rfl, ?_⟩; have HO104 := Aside0.mk (Kd.R_lower ho0 (below_size (lU HB))); replace BK101 := sB BK101 hb; replace HB := sL HB hb; (try clear hb); (try clear hb2); (try clear hk); (try clear hi); (try clear ho0)))
 go_ret
 exact ⟨_, eW, by (with_reducible repeat (first | apply Kd.R_alloc | apply Kd.R_drewN | apply Kd.R_drew)); exact HO104.out, lU HB⟩
def span_Right.f (a0_0 : Int) (a0_1 : Int) : Option (Bool) := if 0 ≤ a0_0 then (if a0_0 ≤ a0_1 then (some (decide (a0_1 ≤ 4611686018427387904))) else (some false)) else (some false)
set_option maxHeartbeats 8000000 in
set_option maxRecDepth 100000 in
theorem span_Right.calls (a0_0 : Int) (a0_1 : Int) (r : Bool) (w : World) (h : span_Right.f a0_0 a0_1 = some r) :
  Calls Try.prog 49 #[.agg #[.int .i64 a0_0, .int .i64 a0_1]] w fun e w' => e = .returned (.bool r) ∧ Below w.heap.size w w' := by
 have hu48 := Try.underlying48
 have HB := Aside0.mk (Below.refl w.heap.size w)
 unfold span_Right.f at h
 have H := h
 clear h
 by_cases c2 : 0 ≤ a0_0
 ·rw [if_pos c2] at H
  have c2b0 : decide (0 ≤ a0_0) = true := decide_eq_true c2
  clear c2
  by_cases c3 : a0_0 ≤ a0_1
  ·rw [if_pos c3] at H
   have c3b0 : decide (a0_0 ≤ a0_1) = true := decide_eq_true c3
   clear c3
   obtain rfl := Option.some.inj H
   go_enter Try.func49, Try.ntmps49
   go_wp2_with (first | ((with_reducible refine gate_dst (N := 1) rfl ?_); refine bX (N := 1) (cs := #[.int .i64 a0_0, .int .i64 a0_1]) (t := 48) ?_; intro gb105 hg w4 hbox hb; have BK105 := Aside0.mk (hbox); have GE105 := sG HB hg; replace HB := sL HB hb; clear hb hbox hg; obtain ⟨hcz5_0, hcz5_1⟩ := q2 BK105; obtain ⟨hfz5_0, hfz5_1⟩ := z2 BK105))
   go_ret
   exact ⟨eW, lU HB⟩
  ·rw [if_neg c3] at H
   have c3b0 : decide (a0_0 ≤ a0_1) = false := decide_eq_false c3
   clear c3
   obtain rfl := Option.some.inj H
   go_enter Try.func49, Try.ntmps49
   go_wp2_with (first | ((with_reducible refine gate_dst (N := 1) rfl ?_); refine bX (N := 1) (cs := #[.int .i64 a0_0, .int .i64 a0_1]) (t := 48) ?_; intro gb105 hg w6 hbox hb; have BK105 := Aside0.mk (hbox); have GE105 := sG HB hg; replace HB := sL HB hb; clear hb hbox hg; obtain ⟨hcz7_0, hcz7_1⟩ := q2 BK105; obtain ⟨hfz7_0, hfz7_1⟩ := z2 BK105))
   go_ret
   exact ⟨eW, lU HB⟩
 ·rw [if_neg c2] at H
  have c2b0 : decide (0 ≤ a0_0) = false := decide_eq_false c2
  clear c2
  obtain rfl := Option.some.inj H
  go_enter Try.func49, Try.ntmps49
  go_wp2_with (first | ((with_reducible refine gate_dst (N := 1) rfl ?_); refine bX (N := 1) (cs := #[.int .i64 a0_0, .int .i64 a0_1]) (t := 48) ?_; intro gb105 hg w8 hbox hb; have BK105 := Aside0.mk (hbox); have GE105 := sG HB hg; replace HB := sL HB hb; clear hb hbox hg; obtain ⟨hcz9_0, hcz9_1⟩ := q2 BK105; obtain ⟨hfz9_0, hfz9_1⟩ := z2 BK105))
  go_ret
  exact ⟨eW, lU HB⟩
-- NOT PRINTED: function 73 (api_Span_73)
-- NOT PRINTED: function 83 (api_Span_83)
-- NOT PRINTED: function 74 (api_Span_74)
-- NOT PRINTED: function 81 (bits_Len32)
-- NOT PRINTED: function 82 (bits_Len64)
-- NOT PRINTED: function 65 (bits_Len)
-- NOT PRINTED: function 84 (slices_nextPowerOfTwo)
-- NOT PRINTED: function 85 (slices_xorshift_Next)
-- NOT PRINTED: function 75 (api_Span_75)
-- NOT PRINTED: function 88 (api_Span_88)
-- NOT PRINTED: function 87 (api_Span_87)
-- NOT PRINTED: function 86 (api_Span_86)
-- NOT PRINTED: function 76 (api_Span_76)
-- NOT PRINTED: function 77 (api_Span_77)
-- NOT PRINTED: function 78 (api_Span_78)
-- NOT PRINTED: function 79 (api_Span_79)
-- NOT PRINTED: function 80 (api_Span_80)
-- NOT PRINTED: function 64 (api_Span_64)
section SortAtSpans
open Go.Proofs Go.Shelf Go.Sort
instance : Inhabited S48 := ⟨z48⟩
def encSp (x : S48) : List Value := [.int .i64 x.f0, .int .i64 x.f1]
def cfSp (x y : S48) : Int := Lib.compareInt x.f0 y.f0
theorem ltSp (x y : S48) : ltOf cfSp x y = decide (x.f0 < y.f0) := by
 unfold ltOf cfSp Lib.compareInt
 by_cases h1 : x.f0 < y.f0
 ·simp [h1]
 ·by_cases h2 : y.f0 < x.f0 <;> simp [h1, h2]
theorem swoSp : SWO (ltOf cfSp) where
 irrefl x := by rw [ltSp]; simp
 trans x y z h1 h2 := by rw [ltSp] at *; simp at *; omega
 ntrans x y z h1 h2 := by rw [ltSp] at *; simp at *; omega
theorem compare_any (x y : Int) (w : World) : Calls Try.prog 52 #[.int .i64 x, .int .i64 y] w fun e w' => e = .returned (.int .i64 (Lib.compareInt x y)) ∧ w = w' := by
 unfold Lib.compareInt
 by_cases h1 : x < y
 ·have d1 : decide (x < y) = true := by simpa using h1
  rw [if_pos h1]
  go_enter Try.func52, Try.ntmps52
  go_wp2
  go_ret
  exact ⟨rfl, rfl⟩
 ·have d1 : decide (x < y) = false := by simpa using h1
  rw [if_neg h1]
  by_cases h2 : y < x
  ·have d2 : decide (y < x) = true := by simpa using h2
   rw [if_pos h2]
   go_enter Try.func52, Try.ntmps52
   go_wp2
   go_ret
   exact ⟨rfl, rfl⟩
  ·have d2 : decide (y < x) = false := by simpa using h2
   rw [if_neg h2]
   go_enter Try.func52, Try.ntmps52
   go_wp2
   go_ret
   exact ⟨rfl, rfl⟩
theorem of1_any (x y : S48) (W : World) : Calls Try.prog 51 #[.agg #[.int .i64 x.f0, .int .i64 x.f1], .agg #[.int .i64 y.f0, .int .i64 y.f1]] W fun e w' => e = .returned (.int .i64 (cfSp x y)) ∧ ∃ q os', w' = Sort.grow (W.drewN q) os' := by
 have hcon := fun W' => compare_any x.f0 y.f0 W'
 unfold cfSp
 generalize Lib.compareInt x.f0 y.f0 = r at hcon ⊢
 go_enter Try.func51, Try.ntmps51
 go_wp2_with (go_at_call 52; refine (hcon _).mono ?_; rintro e w' ⟨rfl, rfl⟩)
 go_ret
 exact ⟨rfl, 0, _, by rw [Sort.alloc_eq_grow, Sort.alloc_eq_grow, Sort.grow_grow]; rfl⟩
theorem cmpLaysSp (blk off size : Nat) (w : World) : CmpLays Try.prog 51 #[] encSp 2 cfSp blk off size w := fun _ _ _ _ x y => of1_any x y _
/-- Go's sort, as a function on lists. -/
def sortS (l : List S48) : List S48 := (pdq (ltOf cfSp) l.toArray 0 l.length (Lib.bitLen l.length) true true).toList
theorem pdq_size (l : List S48) : (pdq (ltOf cfSp) l.toArray 0 l.length (Lib.bitLen l.length) true true).size = l.length := by
 have h := pdq_sorts (ltOf cfSp) swoSp l.toArray 0 l.length (Lib.bitLen l.length) true true (Nat.zero_le _) (by simp) (Or.inl rfl)
 have := h.1.1
 simpa using this
theorem sortS_length (l : List S48) : (sortS l).length = l.length := by
 unfold sortS
 rw [Array.length_toList, pdq_size]
theorem reps_flat {R : S48 → List Value → Prop} (hR : ∀ p c, R p c → c = [.int .i64 p.f0, .int .i64 p.f1]) : ∀ {ps : List S48} {cs : List Value}, Reps R 2 ps cs → cs = flatS ps
 | [], cs, h => by
  have := h.1
  simp at this
  subst this
  rfl
 | p :: ps, cs, h => by
  have h0 := hR _ _ (h.2 0 p rfl)
  simp at h0
  have hl := h.1
  have ht : Reps R 2 ps (cs.drop 2) := by
   refine ⟨by rw [List.length_drop, hl]; simp; omega, fun j q hq => ?_⟩
   have := h.2 (j + 1) q (by simpa using hq)
   rw [show (j + 1) * 2 = 2 + j * 2 by omega, ← List.drop_drop] at this
   exact this
  have ih := reps_flat hR ht
  have e : flatS (p :: ps) = [.int .i64 p.f0, .int .i64 p.f1] ++ flatS ps := rfl
  rw [e, ← h0, ← ih, List.take_append_drop]
theorem flat_reps (R : S48 → List Value → Prop) (hR : ∀ x : S48, R x [.int .i64 x.f0, .int .i64 x.f1]) (l : List S48) : Reps R 2 l (flatS l) := by
 have h : ∀ (r acc : List S48), Reps R 2 acc (flatS acc) → Reps R 2 (acc ++ r) (flatS (acc ++ r)) := by
  intro r
  induction r with
  | nil => intro acc h; simpa using h
  | cons x r ih =>
   intro acc h
   have := ih (acc ++ [x]) (by rw [flatS_snoc]; exact h.snoc (hR x) rfl)
   simpa using this
 exact h l [] (Reps.none _ _)
theorem flatK_flatS (d : Array S48) : flatK encSp 2 d = (flatS d.toList).toArray := by
 apply Array.ext_getElem?
 intro t
 by_cases ht : t < d.size * 2
 ·have hs : t < (flatS d.toList).length := by rw [flatS_length]; simpa using ht
  have h1 : (flatK encSp 2 d)[t]? = some ((encSp d[t / 2]!)[t % 2]!) := by
   rw [← get_flatK encSp 2 d t ht]
   rw [getElem!_pos (flatK encSp 2 d) t (by simpa using ht)]
   exact Array.getElem?_eq_getElem (by simpa using ht)
  rw [h1]
  obtain ⟨x, hx, hu⟩ := flatS_get (List.getElem?_eq_getElem hs)
  have hd : d[t / 2]! = x := by
   rw [getElem!_pos d (t / 2) (by omega)]
   have : d.toList[t / 2]? = some d[t / 2] := by simp
   rw [this] at hx
   exact (Option.some.inj hx)
  rw [hd, List.getElem?_toArray, List.getElem?_eq_getElem hs]
  rcases hu with ⟨h, e⟩ | ⟨h, e⟩ <;> rw [e, h] <;> rfl
 ·rw [Array.getElem?_eq_none (by simp; omega), List.getElem?_toArray, List.getElem?_eq_none (by rw [flatS_length]; simp; omega)]
theorem putCells_take (F cur : Array Value) (h : F.size ≤ cur.size) : (putCells id 0 F cur).toList.take F.size = F.toList := by
 apply List.ext_getElem?
 intro k
 by_cases hk : k < F.size
 ·rw [List.getElem?_take, if_pos hk]
  simp only [putCells, Array.toList_mapIdx, List.getElem?_mapIdx, Array.getElem?_toList]
  rw [Array.getElem?_eq_getElem (show k < cur.size by omega), Option.map_some, if_pos ⟨Nat.zero_le _, by omega⟩, Nat.sub_zero, Array.getElem?_eq_getElem hk, getElem!_pos F k hk]
  rfl
 ·rw [List.getElem?_eq_none (by simp; omega), List.getElem?_eq_none (by simp; omega)]
theorem sortWorld_heap (w : World) (g n : Nat) (d' : Array S48) (os : Array Obj) (i : Nat) (hi : i < w.heap.size) :
  (sortWorldK encSp 2 w g 0 n d' os).heap[i]? = if g = i then (w.heap[i]?).map (onCells (putCells id 0 (flatK encSp 2 d'))) else w.heap[i]? := by
 unfold sortWorldK Sort.grow putRowK putRow mapBlock
 simp only [Array.getElem?_append, Array.size_modify]
 have : (Sort.ahead w n).heap = w.heap := rfl
 rw [this, if_pos hi, Array.getElem?_modify]
theorem sortWorld_size (w : World) (g n : Nat) (d' : Array S48) (os : Array Obj) : w.heap.size ≤ (sortWorldK encSp 2 w g 0 n d' os).heap.size := by
 unfold sortWorldK Sort.grow putRowK putRow mapBlock
 simp [Sort.ahead]
def api_Span_50.f (l0 : List S48) : Option (List S48) := if l0.length < 1000000 then some (sortS l0) else none
theorem api_Span_50.calls (P0_ : Nat → Prop) (u9000_ : Value) (l0 : List S48) (r : List S48) (w0 w : World) (hB : Below w0.heap.size w0 w) (ho0 : Kd.R k48 48 w w0.heap.size P0_ u9000_ l0) (h : api_Span_50.f l0 = some r) :
  Calls Try.prog 50 #[u9000_, .func (.func 51) #[] #[]] w fun e w' => e = .returned (.tuple #[]) ∧ Kd.R k48 48 w' w0.heap.size (fun k_ => (P0_ k_ ∨ w.heap.size ≤ k_)) u9000_ r ∧ Below w0.heap.size w0 w' ∧ Kept w w' (fun k_ => P0_ k_) := by
 unfold api_Span_50.f at h
 split at h
 ·rename_i hlt
  cases h
  obtain ⟨h0, inner, hown, hreps⟩ := ho0
  obtain rfl := reps_flat (fun p c hp => k48_openM hp) hreps
  have hown : w.ownsRow w0.heap.size 48 2 u9000_ l0.length (flatS l0) := hown
  by_cases hne : l0 = []
  ·subst hne
   have hv : ∃ p cap, u9000_ = .slice p 0 cap := by
    rcases hown.2 with ⟨rfl, _⟩ | ⟨g, cap, _, rfl, _⟩
    ·exact ⟨_, _, rfl⟩
    ·exact ⟨_, _, rfl⟩
   obtain ⟨p, cap, rfl⟩ := hv
   refine (AnyF.slices_SortFunc_none Try.sortSpan p cap (.func (.func 51) #[] #[]) w).mono ?_
   rintro e w' ⟨he, rfl⟩
   have hs : sortS [] = [] := List.length_eq_zero_iff.1 (sortS_length [])
   rw [hs]
   exact ⟨he, ⟨fun k hk => .inl (h0 k hk), _, hown, flat_reps _ (fun x => k48_mkM _ _ _ x) []⟩, hB, Kept.refl _ _⟩
  ·have hpos : 0 < l0.length := (by cases l0 with | nil => exact absurd rfl hne | cons => simp)
   rcases hown.2 with ⟨_, hn⟩ | ⟨g, cap, cur, rfl, hbg, hh, hnc, hcm, hcs, htk⟩
   ·omega
   have hglt : g < w.heap.size := by
    rcases Nat.lt_or_ge g w.heap.size with h | h
    ·exact h
    ·rw [Array.getElem?_eq_none h] at hh; cases hh
   have hsz : l0.length * 2 ≤ cur.size := by
    have := congrArg List.length htk
    rw [flatS_length, List.length_take, Array.length_toList] at this
    omega
   have hH : HoldsK encSp 2 w g 0 l0.toArray := by
    unfold HoldsK
    rw [flatK_flatS]
    intro j hj
    simp only [List.size_toArray, flatS_length] at hj
    have hc : w.cell? ⟨g, 0 + j, none⟩ = cur[j]? := by rw [Nat.zero_add]; exact cell_of_row w g j cur _ (0, 0) hh
    have hcj : cur[j]? = (flatS l0)[j]? := by
     rw [← htk, List.getElem?_take, if_pos hj, Array.getElem?_toList]
    have hjl : j < (flatS l0).length := by rw [flatS_length]; exact hj
    refine ⟨?_, by simp [World.frozen?, hh]⟩
    rw [hc, hcj, List.getElem?_eq_getElem hjl]
    have : (flatS l0).toArray[j]! = (flatS l0)[j] := by rw [getElem!_pos (flatS l0).toArray j (by simpa using hjl)]; simp
    rw [show ((flatS l0).toArray)[j]! = (flatS l0)[j] from this]
    rfl
   have eg : ∀ args w, (callFunc 51 args).run Try.prog w = .ok (.enter 51 args) w := enters_of Try.func51 (by kernel_rfl) rfl
   have hcon := AnyQ.slices_SortFunc_eq Try.sortSpan 2 Try.isAgg48 Try.sizeOf48 encSp (fun _ => rfl) (fun x v hv => by simp [encSp] at hv; rcases hv with rfl | rfl <;> rfl) cfSp swoSp 51 #[] g 0 cap l0.toArray w eg (cmpLaysSp g 0 _ w) hH hglt (by simp; omega)
   rw [List.size_toArray] at hcon
   refine hcon.mono ?_
   rintro e w' ⟨he, n, os, rfl⟩
   obtain ⟨d', hd⟩ : ∃ d', d' = pdq (ltOf cfSp) l0.toArray 0 l0.length (Lib.bitLen l0.length) true true := ⟨_, rfl⟩
   have hd2 : d'.size = l0.length := by rw [hd]; exact pdq_size l0
   have hss : sortS l0 = d'.toList := by unfold sortS; rw [hd]
   rw [hss, ← hd]
   have hdl : d'.toList.length = l0.length := by rw [Array.length_toList, hd2]
   have hbel : Below w0.heap.size w (sortWorldK encSp 2 w g 0 n d' os) := ⟨rfl, rfl, rfl, sortWorld_size _ _ _ _ _, fun i hi => by
    rw [sortWorld_heap _ _ _ _ _ _ (by have := hB.size; omega), if_neg (by omega)]⟩
   refine ⟨he, ⟨fun k hk => .inl (h0 k hk), flatS d'.toList, ?_, flat_reps _ (fun x => k48_mkM _ _ _ x) _⟩, hB.trans hbel, sortWorld_size _ _ _ _ _, fun i hi hn => ?_⟩
   ·refine ⟨by rw [flatS_length]; rfl, .inr ⟨g, cap, putCells id 0 (flatK encSp 2 d') cur, by rw [hdl], hbg, ?_, by omega, hcm, ?_, ?_⟩⟩
    ·rw [sortWorld_heap _ _ _ _ _ _ hglt, if_pos rfl, hh]
     rfl
    ·simp only [putCells, Array.size_mapIdx]; exact hcs
    ·have hF : (flatK encSp 2 d').size = d'.toList.length * 2 := by rw [size_flatK, Array.length_toList]
     have := putCells_take (flatK encSp 2 d') cur (by rw [hF]; omega)
     rw [hF] at this
     rw [show k48.sz = 2 from rfl, this, flatK_flatS]
   ·rw [sortWorld_heap _ _ _ _ _ _ hi, if_neg]
    rintro rfl
    exact hn (h0 _ rfl)
 ·cases h
end SortAtSpans
end Go.Proofs.Ytnaalaakhdbfbaa.XP
