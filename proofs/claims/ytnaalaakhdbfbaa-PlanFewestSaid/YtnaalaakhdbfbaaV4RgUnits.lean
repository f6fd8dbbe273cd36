/- Which units may be: the program's test and the document's. -/
import Derived.Test.YtnaalaakhdbfbaaV4RgLen
set_option linter.unusedVariables false
set_option linter.unusedSimpArgs false
namespace Go.Proofs.Ytnaalaakhdbfbaa.XP
open Go.RowKit Go.Proofs.YtnaalaakhdbfbaaW.PrintWords Go.Proofs.YtnaalaakhdbfbaaW.PrintLast Go.Proofs.YtnaalaakhdbfbaaW.PrintMore
def uB (u : Int) (p m : Nat) : Bool := (List.range m).any fun i => decide (u = ((2 ^ (p + i) : Nat) : Int))
theorem uB_succ (u : Int) (p m : Nat) : uB u p (m + 1) = (decide (u = ((2 ^ p : Nat) : Int)) || uB u (p + 1) m) := by
 unfold uB
 rw [List.range_succ_eq_map, List.any_cons, List.any_map]
 congr 1
 congr 1
 funext i
 show decide (u = ((2 ^ (p + (i + 1)) : Nat) : Int)) = decide (u = ((2 ^ (p + 1 + i) : Nat) : Int))
 rw [show p + (i + 1) = p + 1 + i by omega]
theorem unitOk_l0 (u : Int) (m : Nat) : ∀ p, p + m = 21 → Ev (fun k => mandolineref35_unitOk.l0 k u ((2 ^ p : Nat) : Int)) (uB u p m) := by
 induction m with
 | zero =>
  intro p hp
  have : p = 21 := by omega
  subst this
  refine Ev.now fun k => ?_
  rw [mandolineref35_unitOk.l0, if_neg (by decide)]; rfl
 | succ m ih =>
  intro p hp
  have h2 : 2 ^ p ≤ 2 ^ 20 := Nat.pow_le_pow_right (by decide) (by omega)
  have h3 : (2 : Nat) ^ 20 = 1048576 := by decide
  have hw : wrap64 (((2 ^ p : Nat) : Int) * 2) = ((2 ^ (p + 1) : Nat) : Int) := by
   rw [Nat.pow_succ]
   generalize 2 ^ p = q at h2
   rw [wrap_small (by omega) (by omega)]; omega
  by_cases h : ((2 ^ p : Nat) : Int) = u
  ·rw [uB_succ, decide_eq_true h.symm]
   refine Ev.now fun k => ?_
   rw [mandolineref35_unitOk.l0, if_pos (by omega), if_pos h]; rfl
  ·rw [uB_succ, decide_eq_false (fun e => h e.symm), Bool.false_or]
   refine Ev.step (fun k => ?_) (ih (p + 1) (by omega))
   rw [mandolineref35_unitOk.l0, if_pos (by omega), if_neg h, hw]
theorem unitOk_f (u : Int) : Ev (fun k => mandolineref35_unitOk.f k u) (uB u 2 19) := unitOk_l0 u 19 2 rfl
theorem uB_iff {u : Int} : uB u 2 19 = true ↔ ∃ p : Nat, 2 ≤ p ∧ p ≤ 20 ∧ u = ((2 ^ p : Nat) : Int) := by
 unfold uB
 rw [List.any_eq_true]
 constructor
 ·rintro ⟨i, hi, h⟩
  have hi := List.mem_range.1 hi
  exact ⟨2 + i, by omega, by omega, of_decide_eq_true h⟩
 ·rintro ⟨p, h1, h2, h⟩
  refine ⟨p - 2, List.mem_range.2 (by omega), decide_eq_true ?_⟩
  rw [show 2 + (p - 2) = p by omega]; exact h
theorem bits_and_small {n m : Nat} (hn : n < 4611686018427387904) (hm : m < 4611686018427387904) : Go.bits .and .i64 (n : Int) (m : Int) = ((n &&& m : Nat) : Int) := by
 have hle : n &&& m ≤ n := Nat.and_le_left
 show IntKind.wrap .i64 (((BitVec.ofInt 64 (n : Int)) &&& (BitVec.ofInt 64 (m : Int))).toNat : Int) = _
 rw [BitVec.ofInt_natCast, BitVec.ofInt_natCast, BitVec.toNat_and, BitVec.toNat_ofNat, BitVec.toNat_ofNat, Nat.mod_eq_of_lt (by omega), Nat.mod_eq_of_lt (by omega)]
 generalize n &&& m = q at hle
 rw [IntKind.wrap_i64]; omega
theorem unitMay_f (u : Int) : plan_unitMay.f u = some (uB u 2 19) := by
 unfold plan_unitMay.f
 by_cases h1 : u ≥ 4
 ·rw [if_pos h1]
  by_cases h2 : u ≤ 1048576
  ·rw [if_pos h2]
   congr 1
   obtain ⟨n, rfl⟩ : ∃ n : Nat, u = n := ⟨u.toNat, by omega⟩
   rw [wrap_small (by omega) (by omega), show (n : Int) - 1 = ((n - 1 : Nat) : Int) by omega, bits_and_small (by omega) (by omega)]
   rw [Bool.eq_iff_iff, uB_iff, beq_iff_eq]
   have hz : (((n &&& (n - 1) : Nat) : Int) = 0) ↔ (n &&& (n - 1)) = 0 := by omega
   rw [hz, Nat.and_sub_one_eq_zero_iff_isPowerOfTwo (by omega)]
   constructor
   ·rintro ⟨p, hp⟩
    refine ⟨p, ?_, ?_, by rw [hp]⟩
    ·rcases Nat.lt_or_ge p 2 with h | h
     ·have : n ≤ 2 ^ 1 := by rw [hp]; exact Nat.pow_le_pow_right (by decide) (by omega)
      omega
     ·exact h
    ·rcases Nat.lt_or_ge 20 p with h | h
     ·have : 2 ^ 21 ≤ n := by rw [hp]; exact Nat.pow_le_pow_right (by decide) (by omega)
      omega
     ·exact h
   ·rintro ⟨p, _, _, hp⟩
    exact ⟨p, by omega⟩
  ·rw [if_neg h2]
   congr 1
   refine (Bool.eq_false_iff.2 fun h => ?_).symm
   obtain ⟨p, p1, p2, e⟩ := uB_iff.1 h
   have : 2 ^ p ≤ 2 ^ 20 := Nat.pow_le_pow_right (by decide) p2
   omega
 ·rw [if_neg h1]
  congr 1
  refine (Bool.eq_false_iff.2 fun h => ?_).symm
  obtain ⟨p, p1, p2, e⟩ := uB_iff.1 h
  have : 2 ^ 2 ≤ 2 ^ p := Nat.pow_le_pow_right (by decide) p1
  omega
end Go.Proofs.Ytnaalaakhdbfbaa.XP
