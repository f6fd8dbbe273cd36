/- A trie's depth is a fact of its pairs alone. No program. -/
import Derived.Test.YtkbgdbhmdpnaoaaRBits
namespace Go.Proofs.Ytkbgdbhmdpnaoaa
section
variable {V : Type}
/-- Do two numbers part at the bit p? -/
def partsB (p a b : Nat) : Bool := a / 2 ^ (p + 1) == b / 2 ^ (p + 1) && a / 2 ^ p != b / 2 ^ p
theorem partsB_iff (p a b : Nat) : partsB p a b = true ↔ Tr.Parts p a b := by simp [partsB, Tr.Parts]
/-- A number's steps: how many bits. -/
def steps (l : List (Nat × V)) (k : Nat) : Nat := ((List.range 64).filter fun p => l.any fun y => partsB p k y.1).length
def most : List Nat → Nat
  | [] => 0
  | a :: l => max a (most l)
theorem le_most {l : List Nat} {a : Nat} (h : a ∈ l) : a ≤ most l := by
  induction l with
  | nil => simp at h
  | cons b l ih =>
    unfold most
    rcases List.mem_cons.1 h with rfl | h
    · omega
    · have := ih h; omega
theorem most_le {l : List Nat} {n : Nat} (h : ∀ a ∈ l, a ≤ n) : most l ≤ n := by
  induction l with
  | nil => simp [most]
  | cons b l ih =>
    unfold most
    have h1 := h b List.mem_cons_self
    have h2 := ih fun a ha => h a (List.mem_cons_of_mem _ ha)
    omega
def depthOf (l : List (Nat × V)) : Nat := most (l.map fun x => steps l x.1)
namespace Tr
def bits (k : Nat) : Tr V → List Nat
  | leaf .. => []
  | br b l r => b :: (if sd k b = 1 then r.bits k else l.bits k)
theorem mem_bits {t : Tr V} (hI : t.Inv) {k : Nat} {v : V} (h : (k, v) ∈ t.toList) (p : Nat) : p ∈ t.bits k ↔ ∃ y ∈ t.toList, Parts p k y.1 := by
  induction t generalizing v with
  | leaf k' v' =>
    simp [toList] at h
    simp only [bits, toList, List.mem_singleton]
    constructor
    · intro h; cases h
    · rintro ⟨y, rfl, hp⟩
      exact absurd (by rw [h.1]) hp.2
  | br b l r ih1 ih2 =>
    obtain ⟨hb, hl, hr, g, h1, h2⟩ := hI
    have hpb : ∀ {x y : Nat}, x / 2 ^ b = 2 * g → y / 2 ^ b = 2 * g + 1 → Parts b x y ∧ Parts b y x := fun hx hy => by
      refine ⟨⟨?_, ?_⟩, ⟨?_, ?_⟩⟩
      · rw [div_succ, div_succ, hx, hy]; omega
      · omega
      · rw [div_succ, div_succ, hx, hy]; omega
      · omega
    rcases List.mem_append.1 h with h | h
    · have hk := h1 _ h
      simp only at hk
      have hs : ¬ sd k b = 1 := by unfold sd; omega
      simp only [bits, if_neg hs, List.mem_cons]
      rw [ih1 hl h]
      constructor
      · rintro (rfl | ⟨y, hy, hp⟩)
        · exact ⟨_, List.mem_append.2 (.inr (find_mem 0 r)), (hpb hk (h2 _ (find_mem 0 r))).1⟩
        · exact ⟨y, List.mem_append.2 (.inl hy), hp⟩
      · rintro ⟨y, hy, hp⟩
        rcases List.mem_append.1 hy with hy | hy
        · exact .inr ⟨y, hy, hp⟩
        · exact .inl (parts_unique hp (hpb hk (h2 _ hy)).1)
    · have hk := h2 _ h
      simp only at hk
      have hs : sd k b = 1 := by unfold sd; omega
      simp only [bits, if_pos hs, List.mem_cons]
      rw [ih2 hr h]
      constructor
      · rintro (rfl | ⟨y, hy, hp⟩)
        · exact ⟨_, List.mem_append.2 (.inl (find_mem 0 l)), (hpb (h1 _ (find_mem 0 l)) hk).2⟩
        · exact ⟨y, List.mem_append.2 (.inr hy), hp⟩
      · rintro ⟨y, hy, hp⟩
        rcases List.mem_append.1 hy with hy | hy
        · exact .inl (parts_unique hp (hpb (h1 _ hy) hk).2)
        · exact .inr ⟨y, hy, hp⟩
theorem nodup_bits {t : Tr V} (hI : t.Inv) {k : Nat} {v : V} (h : (k, v) ∈ t.toList) : (t.bits k).Nodup := by
  induction t generalizing v with
  | leaf => simp [bits]
  | br b l r ih1 ih2 =>
    obtain ⟨hb, hl, hr, g, h1, h2⟩ := hI
    rcases List.mem_append.1 h with h | h
    · have hk := h1 _ h
      simp only at hk
      simp only [bits, if_neg (show ¬ sd k b = 1 by unfold sd; omega)]
      refine List.nodup_cons.2 ⟨fun hm => ?_, ih1 hl h⟩
      obtain ⟨y, hy, hp⟩ := (mem_bits hl h b).1 hm
      exact hp.2 (by rw [hk, h1 _ hy])
    · have hk := h2 _ h
      simp only at hk
      simp only [bits, if_pos (show sd k b = 1 by unfold sd; omega)]
      refine List.nodup_cons.2 ⟨fun hm => ?_, ih2 hr h⟩
      obtain ⟨y, hy, hp⟩ := (mem_bits hr h b).1 hm
      exact hp.2 (by rw [hk, h2 _ hy])
theorem steps_bits {t : Tr V} (hI : t.Inv) {k : Nat} {v : V} (h : (k, v) ∈ t.toList) : steps t.toList k = (t.bits k).length := by
  unfold steps
  refine List.Perm.length_eq ((List.perm_ext_iff_of_nodup ?_ (nodup_bits hI h)).2 fun p => ?_)
  · exact List.Pairwise.filter _ List.nodup_range
  · rw [mem_bits hI h, List.mem_filter, List.mem_range, List.any_eq_true]
    constructor
    · rintro ⟨_, y, hy, hp⟩; exact ⟨y, hy, (partsB_iff _ _ _).1 hp⟩
    · rintro ⟨y, hy, hp⟩
      refine ⟨?_, y, hy, (partsB_iff _ _ _).2 hp⟩
      refine Nat.lt_of_not_le fun hle => hp.2 ?_
      have b1 := inv_lt hI _ h
      have b2 := inv_lt hI _ hy
      simp only at b1
      have hpow : 2 ^ 64 ≤ 2 ^ p := Nat.pow_le_pow_right (by omega) hle
      rw [Nat.div_eq_of_lt (by omega), Nat.div_eq_of_lt (by omega)]
theorem bits_le {t : Tr V} (k : Nat) : (t.bits k).length ≤ t.dep := by
  induction t with
  | leaf => simp [bits]
  | br b l r ih1 ih2 =>
    simp only [bits, dep, List.length_cons]
    split <;> omega
theorem bits_ex {t : Tr V} (hI : t.Inv) : ∃ x ∈ t.toList, (t.bits x.1).length = t.dep := by
  induction t with
  | leaf k v => exact ⟨(k, v), by simp [toList], rfl⟩
  | br b l r ih1 ih2 =>
    obtain ⟨hb, hl, hr, g, h1, h2⟩ := hI
    obtain ⟨x, hx, hxd⟩ := ih1 hl
    obtain ⟨y, hy, hyd⟩ := ih2 hr
    simp only [dep]
    by_cases hle : l.dep ≤ r.dep
    · refine ⟨y, List.mem_append.2 (.inr hy), ?_⟩
      have := h2 _ hy
      simp only [bits, if_pos (show sd y.1 b = 1 by unfold sd; omega), List.length_cons]
      omega
    · refine ⟨x, List.mem_append.2 (.inl hx), ?_⟩
      have := h1 _ hx
      simp only [bits, if_neg (show ¬ sd x.1 b = 1 by unfold sd; omega), List.length_cons]
      omega
theorem dep_eq {t : Tr V} (hI : t.Inv) : t.dep = depthOf t.toList := by
  refine Nat.le_antisymm ?_ ?_
  · obtain ⟨x, hx, hd⟩ := bits_ex hI
    rw [← hd, ← steps_bits (v := x.2) hI hx]
    exact le_most (List.mem_map.2 ⟨x, hx, rfl⟩)
  · refine most_le fun a ha => ?_
    obtain ⟨x, hx, rfl⟩ := List.mem_map.1 ha
    rw [steps_bits (v := x.2) hI hx]
    exact bits_le _
end Tr
end
end Go.Proofs.Ytkbgdbhmdpnaoaa
