/- Plain facts on tries of numbers and on rising lists of pairs: no program. -/
import Derived.WalkKit
namespace Go.Proofs.Ytkbgdbhmdpnaoaa
inductive Tr (V : Type) where
  | leaf (k : Nat) (v : V)
  | br (b : Nat) (l r : Tr V)
/-- A number's bit. -/
def sd (k b : Nat) : Nat := k / 2 ^ b % 2
theorem sd_01 (k b : Nat) : sd k b = 0 ∨ sd k b = 1 := by unfold sd; omega
section
variable {V : Type}
def rput : List (Nat × V) → Nat → V → List (Nat × V)
  | [], k, v => [(k, v)]
  | (a, x) :: l, k, v => if k < a then (k, v) :: (a, x) :: l else if k = a then (k, v) :: l else (a, x) :: rput l k v
def rdrop (l : List (Nat × V)) (k : Nat) : List (Nat × V) := l.filter fun x => decide (x.1 ≠ k)
def rfrom (l : List (Nat × V)) (k : Nat) : List (Nat × V) := l.filter fun x => decide (k ≤ x.1)
def Rising (l : List (Nat × V)) : Prop := l.Pairwise fun x y => x.1 < y.1
theorem mem_rput {l : List (Nat × V)} {k : Nat} {v : V} {x : Nat × V} (h : x ∈ rput l k v) : x = (k, v) ∨ x ∈ l := by
  induction l with
  | nil => simp [rput] at h; exact .inl h
  | cons a l ih =>
    obtain ⟨a, y⟩ := a
    unfold rput at h
    split at h
    · rcases List.mem_cons.1 h with h | h
      · exact .inl h
      · exact .inr h
    · split at h
      · rcases List.mem_cons.1 h with h | h
        · exact .inl h
        · exact .inr (List.mem_cons_of_mem _ h)
      · rcases List.mem_cons.1 h with h | h
        · exact .inr (by rw [h]; exact List.mem_cons_self)
        · rcases ih h with h | h
          · exact .inl h
          · exact .inr (List.mem_cons_of_mem _ h)
theorem mem_rput_self (l : List (Nat × V)) (k : Nat) (v : V) : (k, v) ∈ rput l k v := by
  induction l with
  | nil => simp [rput]
  | cons a l ih =>
    obtain ⟨a, y⟩ := a
    unfold rput
    split
    · simp
    · split
      · simp
      · exact List.mem_cons_of_mem _ ih
theorem rput_left {a b : List (Nat × V)} {k : Nat} {v : V} (h : ∀ y ∈ b, k < y.1) : rput (a ++ b) k v = rput a k v ++ b := by
  induction a with
  | nil =>
    cases b with
    | nil => rfl
    | cons y b =>
      obtain ⟨y, z⟩ := y
      have : k < y := h (y, z) List.mem_cons_self
      simp [rput, this]
  | cons x a ih =>
    obtain ⟨x, z⟩ := x
    simp only [List.cons_append, rput]
    split
    · rfl
    · split
      · rfl
      · rw [ih]; rfl
theorem rput_right {a b : List (Nat × V)} {k : Nat} {v : V} (h : ∀ y ∈ a, y.1 < k) : rput (a ++ b) k v = a ++ rput b k v := by
  induction a with
  | nil => rfl
  | cons x a ih =>
    obtain ⟨x, z⟩ := x
    have hx : x < k := h (x, z) List.mem_cons_self
    simp only [List.cons_append, rput]
    rw [if_neg (by omega), if_neg (by omega), ih (fun y hy => h y (List.mem_cons_of_mem _ hy))]
theorem rising_rput {l : List (Nat × V)} (h : Rising l) (k : Nat) (v : V) : Rising (rput l k v) := by
  induction l with
  | nil => simp [rput, Rising]
  | cons a l ih =>
    obtain ⟨a, y⟩ := a
    obtain ⟨h1, h2⟩ := List.pairwise_cons.1 h
    unfold rput
    split
    · rename_i hlt
      refine List.pairwise_cons.2 ⟨fun z hz => ?_, h⟩
      rcases List.mem_cons.1 hz with e | hz
      · subst e; exact hlt
      · exact Nat.lt_trans hlt (h1 z hz)
    · split
      · rename_i _ e
        subst e
        exact List.pairwise_cons.2 ⟨h1, h2⟩
      · refine List.pairwise_cons.2 ⟨fun z hz => ?_, ih h2⟩
        rcases mem_rput hz with e | hz
        · subst e; show a < k; omega
        · exact h1 z hz
def rget : List (Nat × V) → Nat → Option V
  | [], _ => none
  | (a, x) :: l, k => if a = k then some x else rget l k
theorem rget_mem {l : List (Nat × V)} (h : Rising l) {k : Nat} {v : V} (hm : (k, v) ∈ l) : rget l k = some v := by
  induction l with
  | nil => simp at hm
  | cons a l ih =>
    obtain ⟨a, y⟩ := a
    obtain ⟨h1, h2⟩ := List.pairwise_cons.1 h
    unfold rget
    rcases List.mem_cons.1 hm with e | hm
    · cases e; rw [if_pos rfl]
    · have := h1 _ hm
      rw [if_neg (by simp only at this; omega)]
      exact ih h2 hm
theorem rget_none {l : List (Nat × V)} {k : Nat} (h : ∀ x ∈ l, x.1 ≠ k) : rget l k = none := by
  induction l with
  | nil => rfl
  | cons a l ih =>
    obtain ⟨a, y⟩ := a
    unfold rget
    rw [if_neg (h (a, y) List.mem_cons_self)]
    exact ih fun x hx => h x (List.mem_cons_of_mem _ hx)
theorem mem_of_rget {l : List (Nat × V)} {k : Nat} {v : V} (h : rget l k = some v) : (k, v) ∈ l := by
  induction l with
  | nil => simp [rget] at h
  | cons a l ih =>
    obtain ⟨a, y⟩ := a
    unfold rget at h
    split at h
    · rename_i e
      cases h; subst e; exact List.mem_cons_self
    · exact List.mem_cons_of_mem _ (ih h)
theorem rput_length_there {l : List (Nat × V)} (h : Rising l) {k : Nat} {x v : V} (hm : (k, x) ∈ l) : (rput l k v).length = l.length := by
  induction l with
  | nil => simp at hm
  | cons a l ih =>
    obtain ⟨a, y⟩ := a
    obtain ⟨h1, h2⟩ := List.pairwise_cons.1 h
    unfold rput
    rcases List.mem_cons.1 hm with e | hm
    · cases e; rw [if_neg (by omega), if_pos rfl]; rfl
    · have := h1 _ hm
      simp only at this
      rw [if_neg (by omega), if_neg (by omega)]
      simp [ih h2 hm]
theorem rput_length_new {l : List (Nat × V)} {k : Nat} {v : V} (h : ∀ x ∈ l, x.1 ≠ k) : (rput l k v).length = l.length + 1 := by
  induction l with
  | nil => rfl
  | cons a l ih =>
    obtain ⟨a, y⟩ := a
    have ha := h (a, y) List.mem_cons_self
    unfold rput
    split
    · rfl
    · rw [if_neg (fun e => ha e.symm)]
      simp [ih fun x hx => h x (List.mem_cons_of_mem _ hx)]
theorem rdrop_length_there {l : List (Nat × V)} (h : Rising l) {k : Nat} {x : V} (hm : (k, x) ∈ l) : (rdrop l k).length + 1 = l.length := by
  induction l with
  | nil => simp at hm
  | cons a l ih =>
    obtain ⟨a, y⟩ := a
    obtain ⟨h1, h2⟩ := List.pairwise_cons.1 h
    unfold rdrop at ih ⊢
    rcases List.mem_cons.1 hm with e | hm
    · cases e
      rw [List.filter_cons_of_neg (by simp)]
      rw [List.filter_eq_self.2 fun z hz => by have := h1 z hz; simp only [decide_eq_true_eq]; simp only at this; omega]
      rfl
    · have := h1 _ hm
      simp only at this
      rw [List.filter_cons_of_pos (by simp; omega)]
      simp only [List.length_cons]
      rw [ih h2 hm]
theorem rdrop_none {l : List (Nat × V)} {k : Nat} (h : ∀ x ∈ l, x.1 ≠ k) : rdrop l k = l := List.filter_eq_self.2 fun x hx => by simpa using h x hx
theorem rising_filter {l : List (Nat × V)} (h : Rising l) (p : Nat × V → Bool) : Rising (l.filter p) := List.Pairwise.filter p h
end

namespace Tr
variable {V : Type}
def toList : Tr V → List (Nat × V)
  | leaf k v => [(k, v)]
  | br _ l r => l.toList ++ r.toList
def ht : Tr V → Nat
  | leaf .. => 0
  | br _ l r => l.ht + r.ht + 1
def dep : Tr V → Nat
  | leaf .. => 0
  | br _ l r => 1 + max l.dep r.dep
def Inv : Tr V → Prop
  | leaf k _ => k < 18446744073709551616
  | br b l r => b < 64 ∧ l.Inv ∧ r.Inv ∧ ∃ h, (∀ x ∈ l.toList, x.1 / 2 ^ b = 2 * h) ∧ (∀ x ∈ r.toList, x.1 / 2 ^ b = 2 * h + 1)
def find (k : Nat) : Tr V → Nat × V
  | leaf k v => (k, v)
  | br b l r => if sd k b = 1 then r.find k else l.find k
def low : Tr V → Nat
  | leaf k _ => k
  | br _ l _ => l.low
def fresh (k : Nat) (v : V) (p : Nat) (t : Tr V) : Tr V := if sd k p = 1 then br p t (leaf k v) else br p (leaf k v) t
/-- 'with': p the bit at which k parts from all; below 0: k is there. -/
def ins (k : Nat) (v : V) (p : Int) : Tr V → Tr V
  | leaf k' v' => if p < 0 then leaf k v else fresh k v p.toNat (leaf k' v')
  | br b l r => if p < b then (if sd k b = 1 then br b l (r.ins k v p) else br b (l.ins k v p) r) else fresh k v p.toNat (br b l r)
/-- 'without': none: nothing is left. -/
def del (k : Nat) : Tr V → Option (Tr V)
  | leaf .. => none
  | br b l r => if sd k b = 1 then (match r.del k with | none => some l | some r' => some (br b l r')) else (match l.del k with | none => some r | some l' => some (br b l' r))

theorem toList_ne (t : Tr V) : t.toList ≠ [] := by
  induction t with
  | leaf => simp [toList]
  | br b l r ih1 ih2 => simp [toList, ih1]
theorem lt_of_div {a b n : Nat} (h : a / n < b / n) : a < b := by
  rcases Nat.lt_or_ge a b with h1 | h1
  · exact h1
  · have := Nat.div_le_div_right (c := n) h1; omega
theorem rising {t : Tr V} (h : t.Inv) : Rising t.toList := by
  induction t with
  | leaf => simp [toList, Rising]
  | br b l r ih1 ih2 =>
    obtain ⟨_, hl, hr, g, h1, h2⟩ := h
    refine List.pairwise_append.2 ⟨ih1 hl, ih2 hr, fun x hx y hy => lt_of_div (n := 2 ^ b) ?_⟩
    rw [h1 x hx, h2 y hy]; omega
theorem find_mem (k : Nat) (t : Tr V) : t.find k ∈ t.toList := by
  induction t with
  | leaf => simp [find, toList]
  | br b l r ih1 ih2 =>
    simp only [find, toList, List.mem_append]
    split
    · exact .inr ih2
    · exact .inl ih1
theorem find_of_mem {k : Nat} {v : V} {t : Tr V} (hI : t.Inv) (h : (k, v) ∈ t.toList) : t.find k = (k, v) := by
  induction t with
  | leaf => simp [toList] at h; simp [find, h]
  | br b l r ih1 ih2 =>
    obtain ⟨_, hl, hr, g, h1, h2⟩ := hI
    simp only [toList, List.mem_append] at h
    unfold find
    rcases h with h | h
    · have := h1 _ h
      rw [if_neg (by unfold sd; simp only at this; omega)]
      exact ih1 hl h
    · have := h2 _ h
      rw [if_pos (by unfold sd; simp only at this; omega)]
      exact ih2 hr h
theorem find_get {t : Tr V} (hI : t.Inv) (k : Nat) : rget t.toList k = if (t.find k).1 = k then some (t.find k).2 else none := by
  split
  · rename_i h
    have := find_mem k t
    rw [show t.find k = (k, (t.find k).2) from Prod.ext h rfl] at this
    exact rget_mem (rising hI) this
  · rename_i h
    refine rget_none fun x hx e => h ?_
    obtain ⟨x, y⟩ := x
    simp only at e
    subst e
    rw [find_of_mem hI hx]
/-- Two numbers part at the bit p. -/
def Parts (p k k' : Nat) : Prop := k / 2 ^ (p + 1) = k' / 2 ^ (p + 1) ∧ k / 2 ^ p ≠ k' / 2 ^ p
theorem div_up {a b p q : Nat} (h : a / 2 ^ p = b / 2 ^ p) (hq : p ≤ q) : a / 2 ^ q = b / 2 ^ q := by
  obtain ⟨d, rfl⟩ := Nat.exists_eq_add_of_le hq
  rw [Nat.pow_add, ← Nat.div_div_eq_div_mul, ← Nat.div_div_eq_div_mul, h]
theorem div_succ (a p : Nat) : a / 2 ^ (p + 1) = a / 2 ^ p / 2 := by rw [Nat.pow_succ, Nat.div_div_eq_div_mul]
theorem inv_lt {t : Tr V} (h : t.Inv) : ∀ x ∈ t.toList, x.1 < 18446744073709551616 := by
  induction t with
  | leaf k v => intro x hx; simp [toList] at hx; subst hx; exact h
  | br b l r ih1 ih2 =>
    obtain ⟨_, hl, hr, _⟩ := h
    intro x hx
    rcases List.mem_append.1 hx with hx | hx
    · exact ih1 hl x hx
    · exact ih2 hr x hx
theorem fresh_ok {t : Tr V} {k : Nat} {v : V} {p c : Nat} (hI : t.Inv) (hp : p < 64) (hk : k < 18446744073709551616) (ha : ∀ y ∈ t.toList, y.1 / 2 ^ p = c) (hc : k / 2 ^ p ≠ c) (h2 : k / 2 ^ p / 2 = c / 2) :
    (fresh k v p t).Inv ∧ (fresh k v p t).toList = rput t.toList k v := by
  unfold fresh
  have hs := sd_01 k p
  split
  · rename_i h
    refine ⟨⟨hp, hI, hk, c / 2, fun x hx => ?_, fun x hx => ?_⟩, ?_⟩
    · rw [ha x hx]; unfold sd at h; omega
    · simp [toList] at hx; subst hx; show k / 2 ^ p = _; unfold sd at h; omega
    · have := rput_right (a := t.toList) (b := []) (k := k) (v := v) (fun y hy => lt_of_div (n := 2 ^ p) (by rw [ha y hy]; unfold sd at h; omega))
      simp only [List.append_nil] at this
      rw [this]; rfl
  · rename_i h
    have h0 : sd k p = 0 := by omega
    refine ⟨⟨hp, hk, hI, c / 2, fun x hx => ?_, fun x hx => ?_⟩, ?_⟩
    · simp [toList] at hx; subst hx; show k / 2 ^ p = _; unfold sd at h0; omega
    · rw [ha x hx]; unfold sd at h0; omega
    · have := rput_left (a := []) (b := t.toList) (k := k) (v := v) (fun y hy => lt_of_div (n := 2 ^ p) (by rw [ha y hy]; unfold sd at h0; omega))
      simp only [List.nil_append] at this
      rw [this]; rfl
theorem ins_there {k : Nat} {v : V} {t : Tr V} (hI : t.Inv) (h : (t.find k).1 = k) : (t.ins k v (-1)).Inv ∧ (t.ins k v (-1)).toList = rput t.toList k v := by
  induction t with
  | leaf k' v' =>
    simp only [find] at h
    subst h
    simp [ins, toList, rput, Inv]; exact hI
  | br b l r ih1 ih2 =>
    obtain ⟨hb, hl, hr, g, h1, h2⟩ := hI
    unfold ins
    rw [if_pos (by omega)]
    unfold find at h
    split at h
    · rename_i hs
      rw [if_pos hs]
      obtain ⟨hi, ht⟩ := ih2 hr h
      have hkm := h2 _ (find_mem k r)
      rw [h] at hkm
      refine ⟨⟨hb, hl, hi, g, h1, fun x hx => ?_⟩, ?_⟩
      · rw [ht] at hx
        rcases mem_rput hx with e | hx
        · subst e; exact hkm
        · exact h2 x hx
      · simp only [toList]
        rw [ht, rput_right (fun y hy => lt_of_div (n := 2 ^ b) (by rw [h1 y hy, hkm]; omega))]
    · rename_i hs
      rw [if_neg hs]
      obtain ⟨hi, ht⟩ := ih1 hl h
      have hkm := h1 _ (find_mem k l)
      rw [h] at hkm
      refine ⟨⟨hb, hi, hr, g, fun x hx => ?_, h2⟩, ?_⟩
      · rw [ht] at hx
        rcases mem_rput hx with e | hx
        · subst e; exact hkm
        · exact h1 x hx
      · simp only [toList]
        rw [ht, rput_left (fun y hy => lt_of_div (n := 2 ^ b) (by rw [h2 y hy, hkm]; omega))]
theorem ins_parts {k : Nat} {v : V} {p : Nat} (hp : p < 64) (hk : k < 18446744073709551616) {t : Tr V} (hI : t.Inv) (h : Parts p k (t.find k).1) : (t.ins k v p).Inv ∧ (t.ins k v p).toList = rput t.toList k v := by
  induction t with
  | leaf k' v' =>
    unfold ins
    rw [if_neg (by omega), Int.toNat_natCast]
    obtain ⟨e1, e2⟩ := h
    rw [div_succ, div_succ] at e1
    exact fresh_ok hI hp hk (fun y hy => by simp [toList] at hy; subst hy; rfl) e2 e1
  | br b l r ih1 ih2 =>
    have hm := find_mem k (br b l r)
    have hI' := hI
    obtain ⟨hb, hl, hr, g, h1, h2⟩ := hI
    unfold ins
    by_cases hpb : (p : Int) < b
    · rw [if_pos hpb]
      have hkk : k / 2 ^ b = ((br b l r).find k).1 / 2 ^ b := div_up h.1 (by omega)
      unfold find at h hkk
      by_cases hs : sd k b = 1
      · rw [if_pos hs] at h hkk ⊢
        obtain ⟨hi, ht⟩ := ih2 hr h
        have hkm := h2 _ (find_mem k r)
        rw [← hkk] at hkm
        refine ⟨⟨hb, hl, hi, g, h1, fun x hx => ?_⟩, ?_⟩
        · rw [ht] at hx
          rcases mem_rput hx with e | hx
          · subst e; exact hkm
          · exact h2 x hx
        · simp only [toList]
          rw [ht, rput_right (fun y hy => lt_of_div (n := 2 ^ b) (by rw [h1 y hy, hkm]; omega))]
      · rw [if_neg hs] at h hkk ⊢
        obtain ⟨hi, ht⟩ := ih1 hl h
        have hkm := h1 _ (find_mem k l)
        rw [← hkk] at hkm
        refine ⟨⟨hb, hi, hr, g, fun x hx => ?_, h2⟩, ?_⟩
        · rw [ht] at hx
          rcases mem_rput hx with e | hx
          · subst e; exact hkm
          · exact h1 x hx
        · simp only [toList]
          rw [ht, rput_left (fun y hy => lt_of_div (n := 2 ^ b) (by rw [h2 y hy, hkm]; omega))]
    · rw [if_neg hpb, Int.toNat_natCast]
      have hall : ∀ y ∈ (br b l r).toList, y.1 / 2 ^ (b + 1) = g := fun y hy => by
        rw [div_succ]
        rcases List.mem_append.1 hy with hy | hy
        · rw [h1 y hy]; omega
        · rw [h2 y hy]; omega
      have hne : p ≠ b := by
        rintro rfl
        obtain ⟨e1, e2⟩ := h
        rw [div_succ, div_succ] at e1
        unfold find at e1 e2
        by_cases hs : sd k p = 1
        · rw [if_pos hs] at e1 e2
          have := h2 _ (find_mem k r)
          unfold sd at hs
          omega
        · rw [if_neg hs] at e1 e2
          have := h1 _ (find_mem k l)
          have h0 := sd_01 k p
          unfold sd at hs h0
          omega
      obtain ⟨e1, e2⟩ := h
      rw [div_succ, div_succ] at e1
      refine fresh_ok hI' hp hk (fun y hy => ?_) e2 e1
      exact div_up (p := b + 1) (by rw [hall y hy, hall _ hm]) (by omega)
theorem del_ok {k : Nat} {t : Tr V} (hI : t.Inv) (h : (t.find k).1 = k) :
    match t.del k with
    | none => rdrop t.toList k = []
    | some t' => t'.Inv ∧ t'.toList = rdrop t.toList k := by
  induction t with
  | leaf k' v' =>
    simp only [find] at h
    subst h
    simp [del, toList, rdrop]
  | br b l r ih1 ih2 =>
    obtain ⟨hb, hl, hr, g, h1, h2⟩ := hI
    unfold find at h
    unfold del
    by_cases hs : sd k b = 1
    · rw [if_pos hs] at h ⊢
      have hkm := h2 _ (find_mem k r)
      rw [h] at hkm
      have hlk : rdrop l.toList k = l.toList := List.filter_eq_self.2 fun y hy => by
        have := h1 y hy
        simp only [decide_eq_true_eq]
        rintro rfl
        omega
      have e : rdrop (br b l r).toList k = l.toList ++ rdrop r.toList k := by
        conv => rhs; rw [← hlk]
        simp [rdrop, toList]
      have ih := ih2 hr h
      cases hd : r.del k with
      | none => rw [hd] at ih; simp only at ih ⊢; exact ⟨hl, by rw [e, ih]; simp⟩
      | some r' =>
        rw [hd] at ih; simp only at ih ⊢
        refine ⟨⟨hb, hl, ih.1, g, h1, fun x hx => h2 x ?_⟩, by rw [e, ← ih.2]; rfl⟩
        rw [ih.2] at hx
        exact (List.mem_filter.1 hx).1
    · rw [if_neg hs] at h ⊢
      have hkm := h1 _ (find_mem k l)
      rw [h] at hkm
      have hrk : rdrop r.toList k = r.toList := List.filter_eq_self.2 fun y hy => by
        have := h2 y hy
        simp only [decide_eq_true_eq]
        rintro rfl
        omega
      have e : rdrop (br b l r).toList k = rdrop l.toList k ++ r.toList := by
        conv => rhs; rw [← hrk]
        simp [rdrop, toList]
      have ih := ih1 hl h
      cases hd : l.del k with
      | none => rw [hd] at ih; simp only at ih ⊢; exact ⟨hr, by rw [e, ih]; simp⟩
      | some l' =>
        rw [hd] at ih; simp only at ih ⊢
        refine ⟨⟨hb, ih.1, hr, g, fun x hx => h1 x ?_, h2⟩, by rw [e, ← ih.2]; rfl⟩
        rw [ih.2] at hx
        exact (List.mem_filter.1 hx).1
theorem low_mem (t : Tr V) : ∃ v, (t.low, v) ∈ t.toList := by
  induction t with
  | leaf k v => exact ⟨v, by simp [toList, low]⟩
  | br b l r ih1 ih2 => obtain ⟨v, hv⟩ := ih1; exact ⟨v, by simp [toList, low, hv]⟩
theorem low_le {t : Tr V} (hI : t.Inv) : ∀ x ∈ t.toList, t.low ≤ x.1 := by
  induction t with
  | leaf k v => intro x hx; simp [toList] at hx; subst hx; exact Nat.le_refl _
  | br b l r ih1 ih2 =>
    obtain ⟨hb, hl, hr, g, h1, h2⟩ := hI
    intro x hx
    rcases List.mem_append.1 hx with hx | hx
    · exact ih1 hl x hx
    · obtain ⟨v, hv⟩ := low_mem l
      refine Nat.le_of_lt (lt_of_div (n := 2 ^ b) ?_)
      have e1 := h1 _ hv
      have e2 := h2 x hx
      simp only [low] at e1 ⊢
      omega
theorem from_skip {b : Nat} {l r : Tr V} (hI : (br b l r).Inv) {k : Nat} (h : r.low ≤ k) : rfrom (br b l r).toList k = rfrom r.toList k := by
  obtain ⟨hb, hl, hr, g, h1, h2⟩ := hI
  have : rfrom l.toList k = [] := List.filter_eq_nil_iff.2 fun y hy => by
    obtain ⟨v, hv⟩ := low_mem r
    have e1 := h1 y hy
    have e2 := h2 _ hv
    have : y.1 < r.low := lt_of_div (n := 2 ^ b) (by simp only at e2; omega)
    simp only [decide_eq_true_eq]
    omega
  simp only [rfrom, toList, List.filter_append] at this ⊢
  rw [this]; rfl
end Tr
end Go.Proofs.Ytkbgdbhmdpnaoaa
