/- Where a fetch may end, one after the other (of gaps that end); which fetch may be: plain laws of Ends and Fetch. -/
import Derived.Test.YtnaalaakhdbfbaaV4RgHolds
import Derived.Test.YtnaalaakhdbfbaaV4RgLoop
import Derived.Test.YtnaalaakhdbfbaaV4RgCount
import Derived.Test.YtnaalaakhdbfbaaV4XP17
set_option linter.unusedVariables false
set_option linter.unusedSimpArgs false
namespace Go.Proofs.Ytnaalaakhdbfbaa.XP
open Go.RowKit Go.Proofs.YtnaalaakhdbfbaaW.PrintWords Go.Proofs.YtnaalaakhdbfbaaW.PrintLast Go.Proofs.YtnaalaakhdbfbaaW.PrintMore
def stepsL (u x1 : Int) : Nat → Int → List Int
 | 0, _ => []
 | n + 1, at0 => if at0 < x1 then mn (at0 + u) x1 :: stepsL u x1 n (mn (at0 + u) x1) else []
def endsO (u : Int) : List Sp → List Int
 | [] => []
 | x :: l => stepsL u x.f1 (x.f1 - x.f0).toNat x.f0 ++ endsO u l
theorem mn_eq (a b : Int) : mn a b = min a b := by unfold mn; split <;> omega
theorem steps_len (u x1 : Int) (n : Nat) : ∀ at0, (stepsL u x1 n at0).length ≤ n := by
 induction n with
 | zero => intro at0; simp [stepsL]
 | succ n ih => intro at0; simp only [stepsL]; split <;> simp; exact ih _
theorem tmod_add {u a : Int} (hu : 0 < u) (h0 : 0 ≤ a) (h : Int.tmod a u = 0) : Int.tmod (a + u) u = 0 := by
 have e1 : Int.tmod a u = a % u := Int.tmod_eq_emod_of_nonneg h0
 have e2 : Int.tmod (a + u) u = (a + u) % u := Int.tmod_eq_emod_of_nonneg (by omega)
 rw [e2, Int.add_emod_right]; omega
theorem steps_mem {u x1 : Int} (hu : 0 < u) (n : Nat) : ∀ at0, 0 ≤ at0 → Int.tmod at0 u = 0 → ∀ e ∈ stepsL u x1 n at0, at0 < e ∧ e ≤ x1 ∧ (Int.tmod e u = 0 ∨ e = x1) := by
 induction n with
 | zero => intro at0 _ _ e he; simp [stepsL] at he
 | succ n ih =>
  intro at0 h0 hm e he
  simp only [stepsL] at he
  split at he
  ·rename_i hlt
   rw [mn_eq] at he
   have hmm : at0 + u ≤ x1 → Int.tmod (min (at0 + u) x1) u = 0 := fun h => by rw [Int.min_eq_left h]; exact tmod_add hu h0 hm
   rcases List.mem_cons.1 he with rfl | he
   ·refine ⟨by omega, by omega, ?_⟩
    by_cases h : at0 + u ≤ x1
    ·exact .inl (hmm h)
    ·exact .inr (by omega)
   ·by_cases h : at0 + u ≤ x1
    ·have := ih _ (by omega) (hmm h) e he
     exact ⟨by omega, this.2.1, this.2.2⟩
    ·rw [Int.min_eq_right (by omega)] at he
     cases n with
     | zero => simp [stepsL] at he
     | succ n => simp only [stepsL] at he; rw [if_neg (by omega)] at he; simp at he
  ·simp at he
theorem steps_all {u x1 : Int} (hu : 0 < u) (n : Nat) : ∀ at0, 0 ≤ at0 → Int.tmod at0 u = 0 → (x1 - at0).toNat ≤ n → ∀ e, at0 < e → e ≤ x1 → (Int.tmod e u = 0 ∨ e = x1) → e ∈ stepsL u x1 n at0 := by
 induction n with
 | zero => intro at0 h0 hm hn e h1 h2 _; omega
 | succ n ih =>
  intro at0 h0 hm hn e h1 h2 h3
  simp only [stepsL]
  rw [if_pos (by omega), mn_eq]
  by_cases he : e = min (at0 + u) x1
  ·rw [he]; exact List.mem_cons_self ..
  ·refine List.mem_cons_of_mem _ ?_
   have hlt : at0 + u < e := by
    rcases h3 with h3 | h3
    ·have h4 := mult_le_floor (u := u) (a := e) (z := e) hu h3 (by omega) (Int.le_refl _)
     -- e is a multiple of u above at0
     have h5 : at0 + u ≤ e := by
      have e1 : Int.tmod e u = e % u := Int.tmod_eq_emod_of_nonneg (by omega)
      have e2 : Int.tmod at0 u = at0 % u := Int.tmod_eq_emod_of_nonneg h0
      rw [e1] at h3; rw [e2] at hm
      have p1 := Int.mul_ediv_add_emod e u
      have p2 := Int.mul_ediv_add_emod at0 u
      have p3 : at0 / u < e / u := by
       refine Int.not_le.1 fun h => ?_
       have := Int.mul_le_mul_of_nonneg_left h (show 0 ≤ u by omega)
       omega
      have p4 := Int.mul_le_mul_of_nonneg_left (show at0 / u + 1 ≤ e / u by omega) (show 0 ≤ u by omega)
      rw [Int.mul_add, Int.mul_one] at p4
      omega
     omega
    ·omega
   rw [Int.min_eq_left (by omega)]
   exact ih _ (by omega) (tmod_add hu h0 hm) (by omega) e hlt h2 h3
theorem endsO_l2 {u a T : Int} (hu : 0 < u) (hu20 : u ≤ 1048576) (hT : T ≤ 1099511627776) (l : List Sp) (n i x0 x1 : Int) (h1 : x1 ≤ T) {r : List Int} (m : Nat) : ∀ (at0 : Int) (acc : List Int), 0 ≤ at0 → (x1 - at0).toNat ≤ m → acc.length + m < 17000000000000 →
  Ev (fun k => mandolineref35_Ends.l0 k a u (acc ++ stepsL u x1 m at0) l n (wrap64 (i + 1))) r → Ev (fun k => mandolineref35_Ends.l2 k a u acc at0 l n i x0 x1) r := by
 induction m with
 | zero =>
  intro at0 acc h0 hm ha h
  simp only [stepsL, List.append_nil] at h
  exact Ev.step (fun k => by rw [mandolineref35_Ends.l2, if_neg (by omega)]) h
 | succ m ih =>
  intro at0 acc h0 hm ha h
  simp only [stepsL] at h
  by_cases hlt : at0 < x1
  ·simp only [if_pos hlt] at h
   have hw : wrap64 (at0 + u) = at0 + u := wrap_small (by omega) (by omega)
   refine Ev.step (g := fun k => mandolineref35_Ends.l2 k a u (acc ++ [mn (at0 + u) x1]) (mn (at0 + u) x1) l n i x0 x1) (fun k => by rw [mandolineref35_Ends.l2, if_pos hlt, if_pos (by omega), hw]) ?_
   refine ih _ _ (by rw [mn_eq]; omega) (by rw [mn_eq]; omega) (by simp; omega) ?_
   rw [List.append_assoc]; exact h
  ·simp only [if_neg hlt, List.append_nil] at h
   exact Ev.step (fun k => by rw [mandolineref35_Ends.l2, if_neg hlt]) h
theorem endsO_l0 {u a T : Int} (hu : 0 < u) (hu20 : u ≤ 1048576) (ha : 0 ≤ a) (hT : T ≤ 104857600) (l : List Sp) (hl : l.length < 1000) (hb : ∀ x ∈ l, a ≤ x.f0 ∧ x.f0 < x.f1 ∧ x.f1 ≤ T) (suf : List Sp) : ∀ (pre : List Sp) (acc : List Int), l = pre ++ suf → acc.length + suf.length * 104857600 < 10000000000000 →
  Ev (fun k => mandolineref35_Ends.l0 k a u acc l (l.length : Int) (pre.length : Int)) (acc ++ endsO u suf) := by
 induction suf with
 | nil =>
  intro pre acc e _
  refine Ev.now fun k => ?_
  rw [mandolineref35_Ends.l0, if_neg (by rw [e]; simp)]; simp [endsO]
 | cons x suf ih =>
  intro pre acc e hacc
  have hlt : pre.length < l.length := by rw [e]; simp
  have hrd : rd_T48 l (pre.length : Int) = x := by rw [e]; exact rdS_at _ _ _
  have hw : wrap64 ((pre.length : Int) + 1) = ((pre ++ [x]).length : Int) := by rw [wrap_small (by omega) (by omega)]; simp
  obtain ⟨b0, b1, b2⟩ := hb x (by rw [e]; simp)
  have hmx : mx x.f0 a = x.f0 := by unfold mx; split <;> omega
  have hslen := steps_len u x.f1 (x.f1 - x.f0).toNat x.f0
  simp only [List.length_cons, Nat.add_mul] at hacc
  have ih' := ih (pre ++ [x]) (acc ++ stepsL u x.f1 (x.f1 - x.f0).toNat x.f0) (by simp [e]) (by simp; omega)
  refine Ev.step (g := fun k => mandolineref35_Ends.l2 k a u acc x.f0 l (l.length : Int) (pre.length : Int) x.f0 x.f1) (fun k => ?_) ?_
  ·rw [mandolineref35_Ends.l0, if_pos (by omega), if_pos (by omega), if_pos (by omega), hrd, if_neg (by omega), if_neg (by omega), hmx]
  ·refine endsO_l2 (T := T) hu hu20 (by omega) l (l.length : Int) (pre.length : Int) x.f0 x.f1 b2 _ x.f0 acc (by omega) (Nat.le_refl _) (by omega) ?_
   rw [hw, endsO, ← List.append_assoc]; exact ih'
theorem ends_open {u a T : Int} (hu : 0 < u) (hu20 : u ≤ 1048576) (ha : 0 ≤ a) (hT : T ≤ 104857600) (l : List Sp) (hl : l.length < 1000) (hb : ∀ x ∈ l, a ≤ x.f0 ∧ x.f0 < x.f1 ∧ x.f1 ≤ T) : Ev (fun k => mandolineref35_Ends.f k l a u) (endsO u l) := by
 have h := endsO_l0 hu hu20 ha hT l hl hb l [] [] rfl (by simp; omega)
 exact h
theorem endsO_mem {u : Int} (hu : 0 < u) (l : List Sp) (hb : ∀ x ∈ l, 0 ≤ x.f0 ∧ Int.tmod x.f0 u = 0) : ∀ e, e ∈ endsO u l ↔ ∃ x ∈ l, Cand u x e := by
 induction l with
 | nil => intro e; simp [endsO]
 | cons x l ih =>
  intro e
  obtain ⟨b0, b1⟩ := hb x (List.mem_cons_self ..)
  simp only [endsO, List.mem_append]
  rw [ih (fun y hy => hb y (List.mem_cons_of_mem _ hy))]
  constructor
  ·rintro (h | ⟨y, hy, h⟩)
   ·exact ⟨x, List.mem_cons_self .., steps_mem hu _ _ b0 b1 e h⟩
   ·exact ⟨y, List.mem_cons_of_mem _ hy, h⟩
  ·rintro ⟨y, hy, h⟩
   rcases List.mem_cons.1 hy with rfl | hy
   ·exact .inl (steps_all hu _ _ b0 b1 (Nat.le_refl _) e h.1 h.2.1 h.2.2)
   ·exact .inr ⟨y, hy, h⟩
/-- The waste of a span whose end is no more than the last byte that may be. -/
theorem waste_val (a e : Int) (w : List Sp) (hw : w.length < 50000) (cw : Canon (-1) w) (h0 : 0 ≤ a) (h1 : a < e) (h2 : e ≤ 4611686018427387904) (h3 : e < 4611686018427387904 ∨ ∃ x ∈ w, x.f0 < e ∧ e ≤ x.f1) :
  Ev (fun k => plan_Waste.f k a e w) (nW w e - nW w a) ∧ Ev (fun k => mandolineref35_Waste.f k a e w) (nW w e - nW w a) := by
 have hv : ∀ n, Ev (fun k => plan_Waste.f k a e w) n → n = nW w e - nW w a := by
  intro n hn
  obtain ⟨d, d1, d2, d3, d4⟩ := less_f [⟨a, e⟩] w (by simp) (by omega) ⟨show -1 < a by omega, h1, h2, trivial⟩ cw
  have hL := less_spec [⟨a, e⟩] (-1) (-1) w ⟨show -1 < a by omega, h1, h2, trivial⟩ cw
  have hd : d = lessL [⟨a, e⟩] w := canon_ext d2 hL.1 fun z => by rw [d3, hL.2]
  have hdl : d.length < 100000000000 := by simp at d4; omega
  have h5 : Ev (fun k => plan_Waste.f k a e w) (lenL 0 d) := by
   have hr : (0 ≤ a ∧ a ≤ e ∧ e ≤ 4611686018427387904) := by omega
   refine Ev.congr (g := fun k => (ranges_Of.f k [⟨a, e⟩]).bind fun t => (ranges_Set_Less.f k t w).bind fun t => (ranges_Set_Len.f k t).bind fun t => some t) (fun k => by unfold plan_Waste.f; rw [right_f, decide_eq_true hr]; rfl) ?_
   refine Ev.bind (f := fun k => ranges_Of.f k [⟨a, e⟩]) (g := fun k t => (ranges_Set_Less.f k t w).bind fun t => (ranges_Set_Len.f k t).bind fun t => some t) (of_one h0 h1 h2) ?_
   refine Ev.bind (f := fun k => ranges_Set_Less.f k [⟨a, e⟩] w) (g := fun k t => (ranges_Set_Len.f k t).bind fun t => some t) d1 ?_
   exact Ev.bind (f := fun k => ranges_Set_Len.f k d) (g := fun _ t => some t) (len_f hdl d2) (Ev.all fun _ => rfl)
  rw [hn.unique h5, hd]
  show lenL 0 (cutS e a (skipS a w) ++ []) = _
  rw [List.append_nil, skip_count a e w 0 0 cw h0 h1 h3]
  unfold nW; omega
 obtain ⟨m, m1, m2⟩ := waste_same ⟨a, e⟩ w hw cw
 have := hv m m1
 subst this
 exact ⟨m1, m2⟩
/-- **Which fetch may be.** -/
theorem fetch_f {w fr : List Sp} {u F M len : Int} (c3 c4 c5 c6 c7 c8 c9 : Int) (hu : 4 ≤ u) (hl0 : -1 ≤ len) (hl1 : len ≤ 1099511627776) (cw : Canon (-1) w) (cf : Canon (-1) fr) (hwl : w.length < 1000) (hfl : fr.length < 1000) {a e : Int} (h0 : 0 ≤ a) (h1 : a < e)
  (hau : Int.tmod a u = 0) (hee : e ≤ endL len) (heu : Int.tmod e u = 0 ∨ e = endL len) (h3 : e < 4611686018427387904) :
  ∃ b : Bool, Ev (fun k => mandolineref35_Fetch.f k a e w fr len u F M c3 c4 c5 c6 c7 c8 c9) b ∧ (b = true ↔ (∀ z, a ≤ z → z < e → InS fr z) ∧ e - a ≤ M ∧ nW w e - nW w a ≤ F) := by
 have hs : goodS ⟨a, e⟩ = true := goodS_iff.2 ⟨h0, h1, show e ≤ 4611686018427387904 by omega⟩
 obtain ⟨b1, w1, w2, w3⟩ := whole_same ⟨a, e⟩ len u hu hl0 hl1
 have hb1 : b1 = true := by
  unfold plan_whole.f at w2
  rw [right_f, decide_eq_true (by show 0 ≤ a ∧ a ≤ e ∧ e ≤ _; omega)] at w2
  simp only [Option.bind_some, if_true] at w2
  rw [if_pos h1, if_pos hee, if_neg (by omega), if_pos hau] at w2
  by_cases h : e = endL len
  ·rw [if_pos h] at w2; injection w2 with w2; exact w2.symm
  ·rw [if_neg h, heu.resolve_right h] at w2; injection w2 with w2; exact w2.symm
 subst hb1
 obtain ⟨b2, h4, h5, h6⟩ := holds_same fr ⟨a, e⟩ hfl cf hs
 have hW := (waste_val a e w (by omega) cw h0 h1 (by omega) (.inl h3)).2
 have hwr : wrap64 (e - a) = e - a := wrap_small (by omega) (by omega)
 refine ⟨b2 && (decide (e - a ≤ M) && decide (nW w e - nW w a ≤ F)), ?_, ?_⟩
 ·refine Ev.congr (g := fun k => (mandolineref02_Holds.f k fr a e).bind fun t437 => if t437 = true then (if e = 4611686018427387904 then (mandolineref35_Waste.f k a e w).bind fun t438 => some (decide (t438 ≤ F)) else if wrap64 (e - a) ≤ M then (mandolineref35_Waste.f k a e w).bind fun t439 => some (decide (t439 ≤ F)) else some false) else some false) (fun k => by unfold mandolineref35_Fetch.f; rw [w3]; rfl) ?_
  refine Ev.bind (f := fun k => mandolineref02_Holds.f k fr a e) (g := fun k t437 => if t437 = true then (if e = 4611686018427387904 then (mandolineref35_Waste.f k a e w).bind fun t438 => some (decide (t438 ≤ F)) else if wrap64 (e - a) ≤ M then (mandolineref35_Waste.f k a e w).bind fun t439 => some (decide (t439 ≤ F)) else some false) else some false) h6 ?_
  cases b2 with
  | false => exact Ev.all fun k => rfl
  | true =>
   simp only [if_true, if_neg (show ¬ e = 4611686018427387904 by omega), hwr, Bool.true_and]
   by_cases hm : e - a ≤ M
   ·simp only [if_pos hm, decide_eq_true hm, Bool.true_and]
    exact Ev.bind (f := fun k => mandolineref35_Waste.f k a e w) (g := fun _ t439 => some (decide (t439 ≤ F))) hW (Ev.all fun k => rfl)
   ·simp only [if_neg hm, decide_eq_false hm, Bool.false_and]
    exact Ev.all fun k => rfl
 ·rw [Bool.and_eq_true, Bool.and_eq_true, decide_eq_true_eq, decide_eq_true_eq, h4]
end Go.Proofs.Ytnaalaakhdbfbaa.XP
