/- What the document's Depth counts: plain facts. -/
import Derived.Test.YtkbgdbhmdpnaoaaRPure
import Derived.Test.YtkbgdbhmdpnaoaaRDep
namespace Go.Proofs.Ytkbgdbhmdpnaoaa
open Go.RowKit Go.Proofs.Ytkbgdbhmdpnaoaa.Ref
theorem parts_l0 : ∀ (p n x b : Nat), p < n → p < 64 → b + p < 1000 → 2 ^ p ≤ x → x < 2 ^ (p + 1) → mandolineref25_parts.l0 n b x = some ((b + p : Nat) : Int) := by
  intro p
  induction p with
  | zero =>
    intro n x b hn _ hb h1 h2
    obtain ⟨n, rfl⟩ : ∃ m, n = m + 1 := ⟨n - 1, by omega⟩
    simp only [mandolineref25_parts.l0]
    rw [if_neg (by omega)]
    rfl
  | succ p ih =>
    intro n x b hn hp hb h1 h2
    obtain ⟨n, rfl⟩ : ∃ m, n = m + 1 := ⟨n - 1, by omega⟩
    have e1 : 2 ^ (p + 1) = 2 ^ p * 2 := Nat.pow_succ ..
    have e2 : 2 ^ (p + 1 + 1) = 2 ^ (p + 1) * 2 := Nat.pow_succ ..
    have e3 : 0 < 2 ^ p := Nat.pow_pos (by omega)
    have e4 : 2 ^ (p + 1 + 1) ≤ 2 ^ 64 := Nat.pow_le_pow_right (by omega) (by omega)
    simp only [mandolineref25_parts.l0]
    rw [if_pos (by omega)]
    have hw : wrap64 ((b : Int) + 1) = ((b + 1 : Nat) : Int) := by unfold wrap64; omega
    have hd : IntKind.u64.wrap (Int.tdiv (x : Int) 2) = ((x / 2 : Nat) : Int) := by
      rw [show Int.tdiv (x : Int) 2 = ((x / 2 : Nat) : Int) from rfl, IntKind.wrap_u64]
      omega
    rw [hw, hd, ih n (x / 2) (b + 1) (by omega) (by omega) (by omega) (by omega) (by omega)]
    congr 1
    omega
theorem parts_f {a b : Nat} (ha : a < 18446744073709551616) (hb : b < 18446744073709551616) (h : a ≠ b) : ∃ p, Tr.Parts p a b ∧ p < 64 ∧ mandolineref25_parts.f 70 a b = some (p : Int) := by
  obtain ⟨p, hp⟩ : ∃ p, Lib.bitLen (a ^^^ b) = p + 1 := by
    cases hq : Lib.bitLen (a ^^^ b) with
    | zero => exact absurd (eq_of_len hq) h
    | succ p => exact ⟨p, rfl⟩
  obtain ⟨h1, h2⟩ := parts_of_len ha hb hp
  refine ⟨p, h1, h2, ?_⟩
  have hx : a ^^^ b < 2 ^ 64 := Nat.xor_lt_two_pow ha hb
  obtain ⟨h3, h4⟩ := bitLenAux_pos 64 _ p hp hx
  unfold mandolineref25_parts.f
  rw [bits_xor_u64_nat a b ha hb]
  have := parts_l0 p 70 (a ^^^ b) 0 (by omega) h2 (by omega) h3 h4
  rw [Nat.zero_add] at this
  exact this
section
variable {V : Type}
/-- The bits at which a number parts from the first k. -/
def seenB (l : List (Nat × V)) (x k : Nat) (p : Nat) : Bool := (l.take k).any fun y => partsB p x y.1
def cnt (S : Nat → Bool) : Nat := ((List.range 64).filter S).length
theorem partsB_self (p x : Nat) : partsB p x x = false := by simp [partsB]
theorem seenB_zero (l : List (Nat × V)) (x : Nat) : seenB l x 0 = fun _ => false := by funext p; simp [seenB]
theorem seenB_self {l : List (Nat × V)} {k : Nat} (h : k < l.length) : seenB l l[k].1 (k + 1) = seenB l l[k].1 k := by
  funext p
  unfold seenB
  rw [List.take_succ_eq_append_getElem h, List.any_append]
  simp [partsB_self]
theorem seenB_succ {l : List (Nat × V)} {x k b : Nat} (h : k < l.length) (hp : Tr.Parts b x l[k].1) : seenB l x (k + 1) = fun p => seenB l x k p || p == b := by
  funext p
  unfold seenB
  rw [List.take_succ_eq_append_getElem h, List.any_append]
  have e : partsB p x l[k].1 = (p == b) := by
    rw [Bool.eq_iff_iff, partsB_iff]
    constructor
    · intro hq; simpa using parts_unique hq hp
    · intro he; rw [show p = b by simpa using he]; exact hp
  simp [e]
theorem filter_upd {S : Nat → Bool} {b : Nat} (hS : S b = false) : ∀ {L : List Nat}, L.Nodup → b ∈ L → (L.filter fun p => S p || p == b).length = (L.filter S).length + 1
  | [], _, h => by cases h
  | a :: L, hn, h => by
    obtain ⟨h1, h2⟩ := List.nodup_cons.1 hn
    by_cases ha : a = b
    · subst ha
      have e : L.filter (fun p => S p || p == a) = L.filter S := by
        refine List.filter_congr fun x hx => ?_
        have : x ≠ a := fun e => h1 (e ▸ hx)
        simp [this]
      rw [List.filter_cons_of_pos (by simp), List.filter_cons_of_neg (by simp [hS]), e]
      simp
    · have hb : b ∈ L := by
        rcases List.mem_cons.1 h with e | e
        · exact absurd e.symm ha
        · exact e
      have ih := filter_upd hS h2 hb
      by_cases hs : S a = true
      · rw [List.filter_cons_of_pos (by simp [hs]), List.filter_cons_of_pos (by simp [hs]), List.length_cons, List.length_cons, ih]
      · rw [List.filter_cons_of_neg (by simp [hs, ha]), List.filter_cons_of_neg (by simp [hs]), ih]
theorem cnt_upd {S : Nat → Bool} {b : Nat} (hS : S b = false) (hb : b < 64) : cnt (fun p => S p || p == b) = cnt S + 1 := filter_upd hS List.nodup_range (List.mem_range.2 hb)
theorem upd_same {S : Nat → Bool} {b : Nat} (hS : S b = true) : (fun p => S p || p == b) = S := by
  funext p
  by_cases h : p = b
  · subst h; simp [hS]
  · simp [h]
theorem cnt_le (S : Nat → Bool) : cnt S ≤ 64 := by
  have := List.length_filter_le S (List.range 64)
  unfold cnt
  simpa using this
theorem steps_cnt (l : List (Nat × V)) (x : Nat) : steps l x = cnt (seenB l x l.length) := by unfold steps cnt seenB; rw [List.take_length]
theorem most_snoc (l : List Nat) (a : Nat) : most (l ++ [a]) = max (most l) a := by
  induction l with
  | nil => simp [most]
  | cons b l ih => simp only [List.cons_append, most, ih]; omega
/-- The most steps to one of the first i. -/
def mostTo (l : List (Nat × V)) (i : Nat) : Nat := most ((l.take i).map fun x => steps l x.1)
theorem mostTo_zero (l : List (Nat × V)) : mostTo l 0 = 0 := by simp [mostTo, most]
theorem mostTo_succ {l : List (Nat × V)} {i : Nat} (h : i < l.length) : mostTo l (i + 1) = max (mostTo l i) (steps l l[i].1) := by
  unfold mostTo
  rw [List.take_succ_eq_append_getElem h, List.map_append]
  exact most_snoc _ _
theorem mostTo_all (l : List (Nat × V)) : mostTo l l.length = depthOf l := by unfold mostTo depthOf; rw [List.take_length]
theorem mostTo_le (l : List (Nat × V)) (i : Nat) : mostTo l i ≤ 64 := by
  unfold mostTo
  refine most_le fun a ha => ?_
  obtain ⟨x, _, rfl⟩ := List.mem_map.1 ha
  rw [steps_cnt]
  exact cnt_le _
theorem depthOf_le (l : List (Nat × V)) : depthOf l ≤ 64 := by rw [← mostTo_all]; exact mostTo_le _ _
theorem Tr.dep_lt : ∀ t : Tr V, t.dep < t.toList.length
  | .leaf .. => by simp [Tr.dep, Tr.toList]
  | .br _ l r => by
    have h1 := Tr.dep_lt l
    have h2 := Tr.dep_lt r
    simp only [Tr.dep, Tr.toList, List.length_append]
    omega
end
/-- Sixty-four answers, as they lie in memory. -/
def bools (S : Nat → Bool) : Array Value := ((List.range 64).map fun p => Value.bool (S p)).toArray
theorem bools_get (S : Nat → Bool) {p : Nat} (hp : p < 64) : (bools S)[p]? = some (.bool (S p)) := by simp [bools, hp]
theorem bools_set (S : Nat → Bool) {b : Nat} (_hb : b < 64) : (bools S).setIfInBounds b (.bool true) = bools (fun p => S p || p == b) := by
  apply Array.ext_getElem?
  intro i
  rw [Array.getElem?_setIfInBounds]
  by_cases hi : i < 64
  · rw [bools_get _ hi, bools_get _ hi]
    by_cases he : b = i
    · subst he; simp [bools, hi]
    · have : (i == b) = false := by simp; omega
      rw [if_neg he, this]; simp
  · have h1 : (bools S)[i]? = none := by simp [bools]; omega
    have h2 : (bools fun p => S p || p == b)[i]? = none := by simp [bools]; omega
    rw [h1, h2]
    split
    · split
      · rename_i h; simp [bools] at h; omega
      · rfl
    · rfl
end Go.Proofs.Ytkbgdbhmdpnaoaa
