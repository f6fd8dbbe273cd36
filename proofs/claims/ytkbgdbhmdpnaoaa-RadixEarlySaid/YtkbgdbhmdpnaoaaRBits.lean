/- Where two numbers part: by their xor's length in bits. No program. -/
import Derived.Test.YtkbgdbhmdpnaoaaRTree
import Derived.Lib.BitFns
namespace Go.Proofs.Ytkbgdbhmdpnaoaa
theorem bitLenAux_pos : ∀ (f x p : Nat), Lib.bitLenAux f x = p + 1 → x < 2 ^ f → 2 ^ p ≤ x ∧ x < 2 ^ (p + 1)
  | 0, x, p, h, _ => by simp [Lib.bitLenAux] at h
  | f + 1, x, p, h, hx => by
    simp only [Lib.bitLenAux] at h
    split at h
    · omega
    · rename_i h0
      cases p with
      | zero =>
        have h1 : Lib.bitLenAux f (x / 2) = 0 := by omega
        have : x / 2 = 0 := by
          cases f with
          | zero => omega
          | succ f => simp only [Lib.bitLenAux] at h1; split at h1 <;> omega
        omega
      | succ p =>
        have ih := bitLenAux_pos f (x / 2) p (by omega) (by rw [Nat.pow_succ] at hx; omega)
        have e1 : 2 ^ (p + 1) = 2 ^ p * 2 := Nat.pow_succ ..
        have e2 : 2 ^ (p + 1 + 1) = 2 ^ (p + 1) * 2 := Nat.pow_succ ..
        omega
theorem bitLen_zero {x : Nat} (h : Lib.bitLen x = 0) : x = 0 := by
  unfold Lib.bitLen at h
  rw [show (64 : Nat) = 63 + 1 from rfl, Lib.bitLenAux] at h
  split at h <;> omega
theorem bitLen_le (x : Nat) : Lib.bitLen x ≤ 64 := by
  have : ∀ f x, Lib.bitLenAux f x ≤ f := by
    intro f
    induction f with
    | zero => intro x; simp [Lib.bitLenAux]
    | succ f ih => intro x; simp only [Lib.bitLenAux]; have := ih (x / 2); split <;> omega
  exact this 64 x
theorem eq_of_xor {a b : Nat} (h : a ^^^ b = 0) : a = b := by
  have : a ^^^ b ^^^ b = a := by rw [Nat.xor_assoc, Nat.xor_self, Nat.xor_zero]
  rw [h, Nat.zero_xor] at this
  exact this.symm
theorem xor_div (a b p : Nat) : (a ^^^ b) / 2 ^ p = a / 2 ^ p ^^^ b / 2 ^ p := by
  simp only [← Nat.shiftRight_eq_div_pow]
  exact Nat.shiftRight_xor_distrib
theorem parts_of_len {a b p : Nat} (ha : a < 18446744073709551616) (hb : b < 18446744073709551616) (h : Lib.bitLen (a ^^^ b) = p + 1) : Tr.Parts p a b ∧ p < 64 := by
  have hx : a ^^^ b < 2 ^ 64 := Nat.xor_lt_two_pow ha hb
  obtain ⟨h1, h2⟩ := bitLenAux_pos 64 _ p h hx
  refine ⟨⟨eq_of_xor ?_, fun e => ?_⟩, by have := bitLen_le (a ^^^ b); omega⟩
  · rw [← xor_div]; exact Nat.div_eq_of_lt h2
  · have : (a ^^^ b) / 2 ^ p = 0 := by rw [xor_div, e, Nat.xor_self]
    rcases (Nat.div_eq_zero_iff.1 this) with h | h
    · have := Nat.pos_of_ne_zero (n := 2 ^ p) (by simp); omega
    · omega
theorem eq_of_len {a b : Nat} (h : Lib.bitLen (a ^^^ b) = 0) : a = b := eq_of_xor (bitLen_zero h)
theorem parts_unique {a b p q : Nat} (hp : Tr.Parts p a b) (hq : Tr.Parts q a b) : p = q := by
  rcases Nat.lt_trichotomy p q with h | h | h
  · exact absurd (Tr.div_up hp.1 (show p + 1 ≤ q from h)) hq.2
  · exact h
  · exact absurd (Tr.div_up hq.1 (show q + 1 ≤ p from h)) hp.2
/-- The most branches: no more than there are bits below a common head. -/
theorem dep_le {V : Type} {t : Tr V} (hI : t.Inv) : ∀ {b c : Nat}, (∀ x ∈ t.toList, x.1 / 2 ^ b = c) → t.dep ≤ b := by
  induction t with
  | leaf => intro b c _; simp [Tr.dep]
  | br b' l r ih1 ih2 =>
    intro b c h
    obtain ⟨hb, hl, hr, g, h1, h2⟩ := hI
    have hlt : b' < b := by
      refine Nat.lt_of_not_le fun hle => ?_
      have m1 := Tr.find_mem 0 l
      have m2 := Tr.find_mem 0 r
      have e1 := h _ (List.mem_append.2 (.inl m1))
      have e2 := h _ (List.mem_append.2 (.inr m2))
      have := Tr.div_up (e1.trans e2.symm) hle
      have := h1 _ m1
      have := h2 _ m2
      omega
    have i1 := ih1 hl h1
    have i2 := ih2 hr h2
    simp only [Tr.dep]
    omega
theorem dep_64 {V : Type} {t : Tr V} (hI : t.Inv) : t.dep ≤ 64 := dep_le hI (b := 64) (c := 0) fun x hx => Nat.div_eq_of_lt (Tr.inv_lt hI x hx)
theorem dep_lt_length {V : Type} (t : Tr V) : t.dep < t.toList.length := by
  induction t with
  | leaf => simp [Tr.dep, Tr.toList]
  | br b l r ih1 ih2 => simp only [Tr.dep, Tr.toList, List.length_append]; omega
end Go.Proofs.Ytkbgdbhmdpnaoaa
