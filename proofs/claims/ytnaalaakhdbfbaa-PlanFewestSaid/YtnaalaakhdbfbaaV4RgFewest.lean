/- PlanFewest: its plain law. -/
import Derived.Test.YtnaalaakhdbfbaaV4RgChain
import Derived.Test.YtnaalaakhdbfbaaV4RgMayEnd
import Derived.Test.YtnaalaakhdbfbaaV4XP23
import Derived.Test.YtnaalaakhdbfbaaV4XP24
set_option linter.unusedVariables false
set_option linter.unusedSimpArgs false
namespace Go.Proofs.Ytnaalaakhdbfbaa.XP
open Go.RowKit Go.Proofs.YtnaalaakhdbfbaaW.PrintWords Go.Proofs.YtnaalaakhdbfbaaW.PrintLast Go.Proofs.YtnaalaakhdbfbaaW.PrintMore
/-- A job whose gaps, widened, end by a byte. -/
structure Ended (u len T : Int) (w : List Sp) : Prop where
 T0 : T ≤ 104857600
 wT : ∀ x ∈ w, x.f1 ≤ T
 l0 : 0 ≤ len
 l1 : len ≤ 1099511627776
 wl : ∀ x ∈ w, x.f1 ≤ len
 we : ∀ x ∈ w, Int.tmod x.f1 u = 0 ∨ x.f1 = len
section
variable {u F M B len T : Int} {w fr : List Sp}
theorem Ended.end_eq (D : Ended u len T w) : endL len = len := by have := D.l0; unfold endL; split <;> omega
theorem Ended.nt (D : Ended u len T w) : ∀ v ∈ w, v.f1 < 4611686018427387904 := fun v hv => by have := D.wT v hv; have := D.T0; omega
/-- The document's test of a fetch that ends where one may. -/
theorem fetch_at (J : Job u F M B w fr) (D : Ended u len T w) (c3 c4 c5 c6 c7 c8 c9 : Int) {a e : Int} (h0 : 0 ≤ a) (h1 : a < e) (hau : Int.tmod a u = 0) {y : Sp} (hy : y ∈ w) (y1 : e ≤ y.f1) (y2 : Int.tmod e u = 0 ∨ e = y.f1) :
  ∃ b : Bool, Ev (fun k => mandolineref35_Fetch.f k a e w fr len u F M c3 c4 c5 c6 c7 c8 c9) b ∧ (b = true ↔ (∀ z, a ≤ z → z < e → InS fr z) ∧ e - a ≤ M ∧ nW w e - nW w a ≤ F) := by
 have h4 := J.u4
 have hl0 := D.l0
 have hyl := D.wl y hy
 have hyt := D.nt y hy
 refine fetch_f c3 c4 c5 c6 c7 c8 c9 h4 (by omega) D.l1 J.cw J.cf J.wl J.fl h0 h1 hau (by rw [D.end_eq]; omega) ?_ (by omega)
 rw [D.end_eq]
 rcases y2 with h | h
 ·exact .inl h
 ·rcases D.we y hy with h' | h'
  ·exact .inl (by rw [h]; exact h')
  ·exact .inr (by omega)
/-- The document's test of a plan is passed by a chain. -/
theorem right_true (J : Job u F M B w fr) (D : Ended u len T w) (c3 c4 c5 c6 c7 c8 c9 : Int) (l : List Sp) (hl : l.length < 1000) (hend : Ev (fun k => (mandolineref35_held.f k w fr).bind fun t498 => if t498 = true then some false else (mandolineref02_Less.f k w l).bind fun t499 => some ((t499.length : Int) == 0)) true) (suf : List Sp) : ∀ (pre : List Sp) (p : Int), l = pre ++ suf → 0 ≤ p → Chain u F M w fr p suf →
  Ev (fun k => mandolineref35_Right.l0 k l fr len w p l (l.length : Int) (pre.length : Int) u F M c3 c4 c5 c6 c7 c8 c9) true := by
 induction suf with
 | nil =>
  intro pre p e _ _
  have ee : pre = l := by rw [e, List.append_nil]
  subst ee
  exact Ev.step (fun k => by rw [mandolineref35_Right.l0, if_neg (by simp)]) hend
 | cons s suf ih =>
  intro pre p e hp h
  have hlt : pre.length < l.length := by rw [e]; simp
  have hrd : rd_T48 l (pre.length : Int) = s := by rw [e]; exact rdS_at _ _ _
  have hw : wrap64 ((pre.length : Int) + 1) = ((pre ++ [s]).length : Int) := by rw [wrap_small (by omega) (by omega)]; simp
  obtain ⟨a1, a2, a3, a4, a5, a6, a7, a8, a9, ⟨y, hy, y1, y2, y3⟩, a11, a12⟩ := h
  have hnt := D.nt y hy
  obtain ⟨b, b1, b2⟩ := fetch_at J D c3 c4 c5 c6 c7 c8 c9 (by omega) a2 a5 hy y2 y3
  have hb : b = true := b2.2 ⟨a9, by omega, a8⟩
  subst hb
  refine Ev.step (g := fun k => (mandolineref35_Fetch.f k s.f0 s.f1 w fr len u F M c3 c4 c5 c6 c7 c8 c9).bind fun t497 => if t497 = true then (if s.f0 < p then some false else mandolineref35_Right.l0 k l fr len w s.f1 l (l.length : Int) ((pre ++ [s]).length : Int) u F M c3 c4 c5 c6 c7 c8 c9) else some false) (fun k => by rw [mandolineref35_Right.l0, if_pos (by omega), if_pos (by omega), if_pos (by omega), hrd, hw]) ?_
  refine Ev.bind (f := fun k => mandolineref35_Fetch.f k s.f0 s.f1 w fr len u F M c3 c4 c5 c6 c7 c8 c9) (g := fun k t497 => if t497 = true then (if s.f0 < p then some false else mandolineref35_Right.l0 k l fr len w s.f1 l (l.length : Int) ((pre ++ [s]).length : Int) u F M c3 c4 c5 c6 c7 c8 c9) else some false) b1 ?_
  simp only [if_true, if_neg (show ¬ s.f0 < p by omega)]
  exact ih (pre ++ [s]) s.f1 (by simp [e]) (by omega) a12
/-- The least over what may be told first. -/
theorem fewest_l0 (J : Job u F M B w fr) (D : Ended u len T w) (c3 c4 c5 c6 c7 c8 c9 : Int) {x : Sp} {l : List Sp} {p : Int} (L : Left u B w p (x :: l)) (V E : Int) (hVn : 0 ≤ V) (hV : V ≤ 999) (es : List Int) (hes : es.length < 10000000000000) (hmem : ∀ e ∈ es, ∃ y ∈ x :: l, Cand u y e)
  (hrec : ∀ e ∈ es, ((∀ z, x.f0 ≤ z → z < e → InS fr z) ∧ e - x.f0 ≤ M ∧ nW w e - nW w x.f0 ≤ F) → ∃ c : Int, Ev (fun k => mandolineref35_Fewest.f k w (dropTo e (x :: l)) fr len u F M c3 c4 c5 c6 c7 c8 c9) c ∧ V ≤ 1 + c ∧ c ≤ 998 ∧ (e = E → 1 + c = V))
  (hE : (∀ z, x.f0 ≤ z → z < E → InS fr z) ∧ E - x.f0 ≤ M ∧ nW w E - nW w x.f0 ≤ F) (suf : List Int) : ∀ (pre : List Int) (best : Int), es = pre ++ suf → V ≤ best → best ≤ 1000 → (best = V ∨ E ∈ suf) →
  Ev (fun k => mandolineref35_Fewest.l0 k w (x :: l) fr len best es (es.length : Int) (pre.length : Int) u F M c3 c4 c5 c6 c7 c8 c9) V := by
 obtain ⟨cc1, cc2, cc3, cc4⟩ := L.c
 have hp0 := L.p0
 have hu4 := J.u4
 have hwl := J.wl
 have hlen := L.len
 induction suf with
 | nil =>
  intro pre best e h1 h2 h3
  rcases h3 with h3 | h3
  ·subst h3
   exact Ev.now fun k => by rw [mandolineref35_Fewest.l0, if_neg (by rw [e]; simp)]
  ·simp at h3
 | cons e0 suf ih =>
  intro pre best e h1 h2 h3
  have hlt : pre.length < es.length := by rw [e]; simp
  have hrd : rd es (pre.length : Int) = e0 := by rw [e]; exact rd_at _ _ _
  have hrd0 : rd_T48 (x :: l) 0 = x := rdS_at [] l x
  have hw : wrap64 ((pre.length : Int) + 1) = ((pre ++ [e0]).length : Int) := by rw [wrap_small (by omega) (by omega)]; simp
  have he0 : e0 ∈ es := by rw [e]; simp
  obtain ⟨y, hy, k1⟩ := hmem e0 he0
  obtain ⟨y', hy', y1, y2⟩ := L.mem y hy
  have hxy : x.f0 ≤ y.f0 := by
   rcases List.mem_cons.1 hy with rfl | hy
   ·omega
   ·have := canon_behind cc4 y hy; omega
  obtain ⟨k2, k3, k4⟩ := k1
  obtain ⟨b, b1, b2⟩ := fetch_at J D c3 c4 c5 c6 c7 c8 c9 (show 0 ≤ x.f0 by omega) (show x.f0 < e0 by omega) (L.al x (List.mem_cons_self ..)).1 hy' (by omega) (k4.elim .inl fun h => .inr (by omega))
  have hnt := D.nt y' hy'
  refine Ev.step (g := fun k => (mandolineref35_Fetch.f k x.f0 e0 w fr len u F M c3 c4 c5 c6 c7 c8 c9).bind fun t510 => if t510 = true then ((mandolineref02_Less.f k (x :: l) [⟨x.f0, e0⟩]).bind fun t514 => (mandolineref35_Fewest.f k w t514 fr len u F M c3 c4 c5 c6 c7 c8 c9).bind fun t517 => mandolineref35_Fewest.l0 k w (x :: l) fr len (mn best (wrap64 (1 + t517))) es (es.length : Int) ((pre ++ [e0]).length : Int) u F M c3 c4 c5 c6 c7 c8 c9) else mandolineref35_Fewest.l0 k w (x :: l) fr len best es (es.length : Int) ((pre ++ [e0]).length : Int) u F M c3 c4 c5 c6 c7 c8 c9)
   (fun k => by rw [mandolineref35_Fewest.l0, if_pos (by omega), if_pos (by omega), if_pos (by omega), if_pos (by simp), hrd, hrd0, hw]) ?_
  refine Ev.bind (f := fun k => mandolineref35_Fetch.f k x.f0 e0 w fr len u F M c3 c4 c5 c6 c7 c8 c9) (g := fun k t510 => if t510 = true then ((mandolineref02_Less.f k (x :: l) [⟨x.f0, e0⟩]).bind fun t514 => (mandolineref35_Fewest.f k w t514 fr len u F M c3 c4 c5 c6 c7 c8 c9).bind fun t517 => mandolineref35_Fewest.l0 k w (x :: l) fr len (mn best (wrap64 (1 + t517))) es (es.length : Int) ((pre ++ [e0]).length : Int) u F M c3 c4 c5 c6 c7 c8 c9) else mandolineref35_Fewest.l0 k w (x :: l) fr len best es (es.length : Int) ((pre ++ [e0]).length : Int) u F M c3 c4 c5 c6 c7 c8 c9) b1 ?_
  cases b with
  | false =>
   simp only [Bool.false_eq_true, if_false]
   refine ih (pre ++ [e0]) best (by simp [e]) h1 h2 ?_
   rcases h3 with h3 | h3
   ·exact .inl h3
   ·rcases List.mem_cons.1 h3 with h4 | h4
    ·subst h4; exact absurd (b2.2 hE) (by simp)
    ·exact .inr h4
  | true =>
   simp only [if_true]
   obtain ⟨c, d1, d2, d3, d4⟩ := hrec e0 he0 (b2.1 rfl)
   refine Ev.bind (f := fun k => mandolineref02_Less.f k (x :: l) [⟨x.f0, e0⟩]) (g := fun k t514 => (mandolineref35_Fewest.f k w t514 fr len u F M c3 c4 c5 c6 c7 c8 c9).bind fun t517 => mandolineref35_Fewest.l0 k w (x :: l) fr len (mn best (wrap64 (1 + t517))) es (es.length : Int) ((pre ++ [e0]).length : Int) u F M c3 c4 c5 c6 c7 c8 c9) (less_drop (lo := p - 1) (by omega) (by omega) L.c (fun z hz => ?_) (by omega) (show x.f0 < e0 by omega) (by omega)).2 ?_
   ·rcases (inS_cons _ _ _).1 hz with h | h
    ·exact h.1
    ·have := canon_lb cc4 h; omega
   ·refine Ev.bind (f := fun k => mandolineref35_Fewest.f k w (dropTo e0 (x :: l)) fr len u F M c3 c4 c5 c6 c7 c8 c9) (g := fun k t517 => mandolineref35_Fewest.l0 k w (x :: l) fr len (mn best (wrap64 (1 + t517))) es (es.length : Int) ((pre ++ [e0]).length : Int) u F M c3 c4 c5 c6 c7 c8 c9) d1 ?_
    rw [wrap_small (z := 1 + c) (by omega) (by omega), mn_eq]
    refine ih (pre ++ [e0]) (min best (1 + c)) (by simp [e]) (by omega) (by omega) ?_
    rcases h3 with h3 | h3
    ·exact .inl (by omega)
    ·rcases List.mem_cons.1 h3 with h4 | h4
     ·have := d4 h4.symm; exact .inl (by omega)
     ·exact .inr h4
theorem endsO_len (hT : T ≤ 104857600) : ∀ l : List Sp, (∀ x ∈ l, 0 ≤ x.f0 ∧ x.f1 ≤ T) → (endsO u l).length ≤ l.length * 104857600 := by
 intro l
 induction l with
 | nil => intro _; simp [endsO]
 | cons x l ih =>
  intro h
  have h1 := ih fun y hy => h y (List.mem_cons_of_mem _ hy)
  have h2 := h x (List.mem_cons_self ..)
  have h3 := steps_len u x.f1 (x.f1 - x.f0).toNat x.f0
  simp only [endsO, List.length_append, List.length_cons, Nat.add_mul]
  omega
/-- **By trying all, as few as the chain has.** -/
theorem fewest_rec (J : Job u F M B w fr) (D : Ended u len T w) (c3 c4 c5 c6 c7 c8 c9 : Int) (hB : ∀ r p, 0 ≤ p → Chain u F M w fr p r → r.length ≤ 998) : ∀ (n : Nat) (p : Int) (l : List Sp), Left u B w p l → (∀ x r, l = x :: r → (B + 1 - x.f0).toNat ≤ n) → ∀ r, Chain u F M w fr p r →
  Ev (fun k => mandolineref35_Fewest.f k w l fr len u F M c3 c4 c5 c6 c7 c8 c9) (r.length : Int) := by
 intro n
 induction n with
 | zero =>
  intro p l L hn r hr
  cases l with
  | nil =>
   cases r with
   | nil => exact Ev.now fun k => by rw [mandolineref35_Fewest.f, if_pos (by simp)]; rfl
   | cons s r => exact absurd ((L.ins _ hr.1).1 hr.2.2.2.1) (inS_nil _)
  | cons x t =>
   have h1 := hn x t rfl
   have h2 := (L.al x (List.mem_cons_self ..)).2
   omega
 | succ n ih =>
  intro p l L hn r hr
  cases l with
  | nil =>
   cases r with
   | nil => exact Ev.now fun k => by rw [mandolineref35_Fewest.f, if_pos (by simp)]; rfl
   | cons s r => exact absurd ((L.ins _ hr.1).1 hr.2.2.2.1) (inS_nil _)
  | cons x t =>
   have h1 := hn x t rfl
   have h2 := (L.al x (List.mem_cons_self ..)).2
   have hp0 := L.p0
   have hu4 := J.u4
   have hwl := J.wl
   have hll := L.len
   obtain ⟨cc1, cc2, cc3, cc4⟩ := L.c
   have hxw : InS w x.f0 := (L.ins _ (by omega)).2 ((inS_cons _ _ _).2 (.inl ⟨Int.le_refl _, cc2⟩))
   have hlow : ∀ z, InS (x :: t) z → x.f0 ≤ z := by
    intro z hz
    rcases (inS_cons _ _ _).1 hz with h | h
    ·exact h.1
    ·have := canon_lb cc4 h; omega
   have hnx : ∀ y ∈ x :: t, x.f0 ≤ y.f0 ∧ y.f0 < y.f1 := fun y hy => by
    have hb := canon_behind L.c y hy
    exact ⟨hlow _ ⟨y, hy, Int.le_refl _, hb.2.1⟩, hb.2.1⟩
   have hTy : ∀ y ∈ x :: t, y.f1 ≤ T := fun y hy => by
    obtain ⟨y', hy', y1, y2⟩ := L.mem y hy
    have := D.wT y' hy'; omega
   have hends := ends_open (u := u) (a := x.f0) (by omega) J.u20 (by omega) D.T0 (x :: t) (by omega) (fun y hy => ⟨(hnx y hy).1, (hnx y hy).2, hTy y hy⟩)
   have hmm := endsO_mem (u := u) (by omega) (x :: t) (fun y hy => ⟨by have := (hnx y hy).1; omega, (L.al y hy).1⟩)
   cases r with
   | nil => exact absurd hxw (hr _ (by omega))
   | cons s r' =>
    have hrr := hr
    obtain ⟨a1, a2, a3, a4, a5, a6, a7, a8, a9, ⟨y, hy, y1, y2, y3⟩, a11, a12⟩ := hr
    have hsx : s.f0 = x.f0 := by
     have h3 := hlow _ ((L.ins _ a1).1 a4)
     have h4 : ¬ x.f0 < s.f0 := fun h => a6 _ (by omega) h hxw
     omega
    have hynt := D.nt y hy
    rw [hsx] at a2 a7 a8 a9 a11
    have hEm : s.f1 ∈ endsO u (x :: t) := by
     rw [hmm]
     have hz := (L.ins (s.f1 - 1) (by omega)).1 ⟨y, hy, by omega, by omega⟩
     obtain ⟨v, hv, v1, v2⟩ := hz
     obtain ⟨v', hv', v3, v4⟩ := L.mem v hv
     have hvy : v' = y := canon_uniq J.cw hv' hy (z := s.f1 - 1) (by omega) (by omega) (by omega) (by omega)
     subst hvy
     exact ⟨v, hv, by omega, by omega, y3.elim .inl fun h => .inr (by omega)⟩
    have hr998 := hB _ p hp0 hrr
    simp only [List.length_cons] at hr998
    have hel := endsO_len (u := u) D.T0 (x :: t) (fun y hy => ⟨by have := (hnx y hy).1; omega, hTy y hy⟩)
    have hlen : (endsO u (x :: t)).length < 10000000000000 := by
     have h3 : (x :: t).length * 104857600 ≤ 1000 * 104857600 := Nat.mul_le_mul_right _ (by omega)
     omega
    have hl0 := fewest_l0 J D c3 c4 c5 c6 c7 c8 c9 L (((s :: r').length : Nat) : Int) s.f1 (by omega) (by simp; omega) (endsO u (x :: t)) hlen (fun e he => (hmm e).1 he) (fun e he hf => ?_) ⟨a9, by omega, a8⟩ (endsO u (x :: t)) [] 1000 rfl (by simp; omega) (Int.le_refl _) (.inr hEm)
    ·refine Ev.step (g := fun k => (mandolineref35_Ends.f k (x :: t) x.f0 u).bind fun t504 => mandolineref35_Fewest.l0 k w (x :: t) fr len 1000 t504 (t504.length : Int) 0 u F M c3 c4 c5 c6 c7 c8 c9) (fun k => ?_) ?_
     ·have hrd : rd_T48 (x :: t) 0 = x := rdS_at [] t x
      rw [mandolineref35_Fewest.f, if_neg (by simp; try omega), if_pos (by simp), hrd]
     ·exact Ev.bind (f := fun k => mandolineref35_Ends.f k (x :: t) x.f0 u) (g := fun k t504 => mandolineref35_Fewest.l0 k w (x :: t) fr len 1000 t504 (t504.length : Int) 0 u F M c3 c4 c5 c6 c7 c8 c9) hends hl0
    ·obtain ⟨v, hv, k1⟩ := (hmm e).1 he
     have hxe : x.f0 < e := by have := k1.1; have := (hnx v hv).1; omega
     obtain ⟨v', hv', v1, v2⟩ := L.mem v hv
     have L' := left_drop J L hv k1 hxe D.nt
     have hmeas : ∀ y q, dropTo e (x :: t) = y :: q → (B + 1 - y.f0).toNat ≤ n := fun y q hy => by
      have hm : y ∈ dropTo e (x :: t) := by rw [hy]; exact List.mem_cons_self ..
      have := (canon_behind L'.c y hm).1
      omega
     obtain ⟨re, hre⟩ := chain_ex J n e _ L' hmeas
     have heE : e ≤ s.f1 := a11 v' hv' e hxe ⟨by have := k1.1; omega, by have := k1.2.1; omega, k1.2.2.elim .inl fun h => .inr (by omega)⟩ hf.1 hf.2.1 hf.2.2
     have hm := chain_mono J.cw D.nt _ re r' e s.f1 (Nat.le_refl _) (by omega) heE hre a12
     refine ⟨(re.length : Int), ih e _ L' hmeas re hre, by simp; omega, by have := hB re e (by omega) hre; omega, fun h => ?_⟩
     subst h
     have hm2 := chain_mono J.cw D.nt _ r' re s.f1 s.f1 (Nat.le_refl _) (by omega) (Int.le_refl _) a12 hre
     simp; omega
end
theorem fewest_f (l0 l1 : List Sp) (hl0 : l0.length ≤ 9223372036854775807) (hl1 : l1.length ≤ 9223372036854775807) (len u F M c3 c4 c5 c6 c7 c8 c9 : Int) : Ev (fun k => mandolinelaw35_PlanFewest.f k l0 l1 len u F M c3 c4 c5 c6 c7 c8 c9) true := by
 obtain ⟨b, b1, b2⟩ := fine_f l0 l1 hl0 hl1 len u F M c3 c4 c5 c6 c7 c8 c9 10
 refine Ev.bind (f := fun k => mandolinelaw35_alive.f k) alive_ev ?_
 simp only [if_true]
 refine Ev.bind (f := fun k => mandolinelaw35_fine.f k l0 l1 len u F M c3 c4 c5 c6 c7 c8 c9 10) b1 ?_
 have hdone : Ev (fun k => mandolinelaw35_PlanFewest.j0 k true l0 l1 len u F M c3 c4 c5 c6 c7 c8 c9) true := Ev.now fun k => by rw [mandolinelaw35_PlanFewest.j0, if_pos rfl]
 cases b with
 | false => exact hdone
 | true =>
  simp only [if_true]
  by_cases hneg : len < 0
  ·rw [decide_eq_true hneg]; exact hdone
  ·rw [decide_eq_false hneg]
   obtain ⟨s0, s1, s2, s3, s4⟩ := b2 rfl
   obtain ⟨g, f, w, K⟩ := known_of (len := len) (F := F) (M := M) (show (0 : Int) ≤ 10 by omega) (by omega) s0 s1
   obtain ⟨d, d1, d2, d3, r, st, p1, p2, p3, p4⟩ := K.plan s3 c3 c4 c5 c6 c7 c8 c9
   refine Ev.step (g := fun k => (mandolinelaw35_sets.f k l0 l1 len u F M c3 c4 c5 c6 c7 c8 c9).bind fun bt521 => (plan_Plan.f k bt521.1 bt521.2 len u F M c3 c4 c5 c6 c7 c8 c9).bind fun bt529 => if bt529.2 = 0 then (mandolineref02_Of.f k l0).bind fun t533 => (mandolineref02_Of.f k l1).bind fun t536 => (mandolineref35_Units.f k t533 len u).bind fun t539 => (mandolineref35_Right.f k bt529.1 t533 t536 len u F M c3 c4 c5 c6 c7 c8 c9).bind fun t542 => if t542 = true then (mandolineref35_Fewest.f k t539 t539 t536 len u F M c3 c4 c5 c6 c7 c8 c9).bind fun t543 => some ((bt529.1.length : Int) == t543) else some false else some true) (fun k => by rw [mandolinelaw35_PlanFewest.j0, if_neg (by simp)]) ?_
   refine Ev.bind (f := fun k => mandolinelaw35_sets.f k l0 l1 len u F M c3 c4 c5 c6 c7 c8 c9) (a := (g, f)) (g := fun k bt521 => (plan_Plan.f k bt521.1 bt521.2 len u F M c3 c4 c5 c6 c7 c8 c9).bind fun bt529 => if bt529.2 = 0 then (mandolineref02_Of.f k l0).bind fun t533 => (mandolineref02_Of.f k l1).bind fun t536 => (mandolineref35_Units.f k t533 len u).bind fun t539 => (mandolineref35_Right.f k bt529.1 t533 t536 len u F M c3 c4 c5 c6 c7 c8 c9).bind fun t542 => if t542 = true then (mandolineref35_Fewest.f k t539 t539 t536 len u F M c3 c4 c5 c6 c7 c8 c9).bind fun t543 => some ((bt529.1.length : Int) == t543) else some false else some true) ?_ ?_
   ·refine Ev.bind (f := fun k => ranges_Of.f k l0) (g := fun k t291 => (ranges_Of.f k l1).bind fun t294 => some (t291, t294)) K.g1 ?_
    exact Ev.bind (f := fun k => ranges_Of.f k l1) (g := fun k t294 => some (g, t294)) K.f1 (Ev.all fun k => rfl)
   refine Ev.bind (f := fun k => plan_Plan.f k g f len u F M c3 c4 c5 c6 c7 c8 c9) (g := fun k bt529 => if bt529.2 = 0 then (mandolineref02_Of.f k l0).bind fun t533 => (mandolineref02_Of.f k l1).bind fun t536 => (mandolineref35_Units.f k t533 len u).bind fun t539 => (mandolineref35_Right.f k bt529.1 t533 t536 len u F M c3 c4 c5 c6 c7 c8 c9).bind fun t542 => if t542 = true then (mandolineref35_Fewest.f k t539 t539 t536 len u F M c3 c4 c5 c6 c7 c8 c9).bind fun t543 => some ((bt529.1.length : Int) == t543) else some false else some true) p1 ?_
   cases hok : okB len u F M with
   | false => rw [(p2 hok).1]; exact Ev.all fun k => rfl
   | true =>
    by_cases hd : d = []
    ·obtain ⟨e1, hch⟩ := p4 hok hd
     subst e1
     simp only [if_true]
     obtain ⟨o1, o2, o3, o4⟩ := okB_iff hok
     have o2' : -1 ≤ len ∧ len ≤ 1099511627776 := of_decide_eq_true o2
     obtain ⟨u4, u20⟩ := uB_range o1
     have hsub : ∀ z, InS w z → InS f z := fun z hz => Classical.byContradiction fun hn => by
      have := (d3 z).2 ⟨hz, hn⟩; rw [hd] at this; exact inS_nil z this
     have J := K.job hok s3 hsub
     have hlen : len ≤ u * 10 := by
      rcases s2 with h | h
      ·rw [wrap_small (by omega) (by omega)] at h; exact h
      ·omega
     have hE : endL len = len := by unfold endL; split <;> omega
     have D : Ended u len 104857600 w := ⟨Int.le_refl _, fun x hx => by have := (K.w5 hok x hx).2.1; omega, by omega, o2'.2, fun x hx => by have := (K.w5 hok x hx).2.1; omega, fun x hx => by
      have h1 := (K.w5 hok x hx).2
      rcases h1.2 with h | h | h
      ·exact .inl h
      ·exact .inr (by omega)
      ·omega⟩
     have hB : ∀ r p, 0 ≤ p → Chain u F M w f p r → r.length ≤ 998 := by
      intro r p hp hr
      cases r with
      | nil => simp
      | cons s t =>
       have h1 := chain_len (u := u) (T := len) (by omega) (fun z hz => by
        obtain ⟨x, hx, x1, x2⟩ := hz
        have := (K.w5 hok x hx).2.1; omega) (s :: t) p hp hr s t rfl
       have h2 : 0 ≤ s.f0 := by have := hr.1; omega
       refine Nat.not_lt.1 fun h => ?_
       have h3 : (999 : Int) * u ≤ (((s :: t).length : Nat) : Int) * u := Int.mul_le_mul_of_nonneg_right (by omega) (by omega)
       omega
     have hw4 := K.w4
     have hr := hB r 0 (Int.le_refl _) hch
     have hheld : Ev (fun k => mandolineref35_held.f k w f) false := by
      have h : Ev (fun k => mandolineref35_held.f k w f) (decide ((d.length : Int) > 0)) := Ev.bind (f := fun k => mandolineref02_Less.f k w f) (g := fun k t397 => some (decide ((t397.length : Int) > 0))) d1 (Ev.all fun k => rfl)
      rw [hd] at h; exact h
     have hendR : Ev (fun k => (mandolineref35_held.f k w f).bind fun t498 => if t498 = true then some false else (mandolineref02_Less.f k w r).bind fun t499 => some ((t499.length : Int) == 0)) true := by
      obtain ⟨v, v1, v2, v3⟩ := rLess_f w r (by omega)
      have hv : v = [] := nil_of v2 fun z hz => by
       obtain ⟨z1, z2⟩ := (v3 z).1 hz
       have hzw := (inB_canon (canon_good K.w3 (Int.le_refl _)) z).1 z1
       have hz0 := canon_lb K.w3 hzw
       exact z2 (inB_iff.2 (chain_all r 0 (Int.le_refl _) hch z (by omega) hzw))
      refine Ev.bind (f := fun k => mandolineref35_held.f k w f) (a := false) (g := fun k t498 => if t498 = true then some false else (mandolineref02_Less.f k w r).bind fun t499 => some ((t499.length : Int) == 0)) hheld ?_
      simp only [Bool.false_eq_true, if_false]
      rw [hv] at v1
      exact Ev.bind (f := fun k => mandolineref02_Less.f k w r) (g := fun k t499 => some ((t499.length : Int) == 0)) v1 (Ev.all fun k => rfl)
     have hRight : Ev (fun k => mandolineref35_Right.f k r g f len u F M c3 c4 c5 c6 c7 c8 c9) true := by
      refine Ev.bind (f := fun k => mandolineref35_argOk.f k len u F M c3 c4 c5 c6 c7 c8 c9) (g := fun k t491 => if t491 = true then (mandolineref35_Units.f k g len u).bind fun t492 => mandolineref35_Right.l0 k r f len t492 0 r (r.length : Int) 0 u F M c3 c4 c5 c6 c7 c8 c9 else some false) (argOk_f len u F M c3 c4 c5 c6 c7 c8 c9) ?_
      rw [hok]; simp only [if_true]
      exact Ev.bind (f := fun k => mandolineref35_Units.f k g len u) (g := fun k t492 => mandolineref35_Right.l0 k r f len t492 0 r (r.length : Int) 0 u F M c3 c4 c5 c6 c7 c8 c9) K.w2 (right_true J D c3 c4 c5 c6 c7 c8 c9 r (by omega) hendR r [] 0 rfl (Int.le_refl _) hch)
     have hFew := fewest_rec J D c3 c4 c5 c6 c7 c8 c9 hB 1099511627777 0 w (K.left hok) (fun x t e => by
      have := (canon_behind K.w3 x (by rw [e]; exact List.mem_cons_self ..)).1
      omega) r hch
     refine Ev.bind (f := fun k => mandolineref02_Of.f k l0) (g := fun k t533 => (mandolineref02_Of.f k l1).bind fun t536 => (mandolineref35_Units.f k t533 len u).bind fun t539 => (mandolineref35_Right.f k r t533 t536 len u F M c3 c4 c5 c6 c7 c8 c9).bind fun t542 => if t542 = true then (mandolineref35_Fewest.f k t539 t539 t536 len u F M c3 c4 c5 c6 c7 c8 c9).bind fun t543 => some ((r.length : Int) == t543) else some false) K.g2 ?_
     refine Ev.bind (f := fun k => mandolineref02_Of.f k l1) (g := fun k t536 => (mandolineref35_Units.f k g len u).bind fun t539 => (mandolineref35_Right.f k r g t536 len u F M c3 c4 c5 c6 c7 c8 c9).bind fun t542 => if t542 = true then (mandolineref35_Fewest.f k t539 t539 t536 len u F M c3 c4 c5 c6 c7 c8 c9).bind fun t543 => some ((r.length : Int) == t543) else some false) K.f2 ?_
     refine Ev.bind (f := fun k => mandolineref35_Units.f k g len u) (g := fun k t539 => (mandolineref35_Right.f k r g f len u F M c3 c4 c5 c6 c7 c8 c9).bind fun t542 => if t542 = true then (mandolineref35_Fewest.f k t539 t539 f len u F M c3 c4 c5 c6 c7 c8 c9).bind fun t543 => some ((r.length : Int) == t543) else some false) K.w2 ?_
     refine Ev.bind (f := fun k => mandolineref35_Right.f k r g f len u F M c3 c4 c5 c6 c7 c8 c9) (g := fun k t542 => if t542 = true then (mandolineref35_Fewest.f k w w f len u F M c3 c4 c5 c6 c7 c8 c9).bind fun t543 => some ((r.length : Int) == t543) else some false) hRight ?_
     simp only [if_true]
     exact Ev.bind (f := fun k => mandolineref35_Fewest.f k w w f len u F M c3 c4 c5 c6 c7 c8 c9) (g := fun k t543 => some ((r.length : Int) == t543)) hFew (Ev.all fun k => by simp)
    ·rw [(p3 hok hd).1]; exact Ev.all fun k => rfl
end Go.Proofs.Ytnaalaakhdbfbaa.XP
