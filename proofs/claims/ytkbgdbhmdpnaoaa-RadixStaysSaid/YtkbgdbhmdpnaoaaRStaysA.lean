/- RadixStays: the law's walk. -/
import Derived.Test.YtkbgdbhmdpnaoaaRActs
namespace Go.Proofs.Ytkbgdbhmdpnaoaa
open Go.RowKit Go.Shelf Go.Proofs.Ytkbgdbhmdpnaoaa.Ref Go.Proofs.YtkbgdbhmdpnaoaaW.PrintWords
open RI (HasM)
/-- Only one block of what was there has turned. -/
def KeepB (Mb : Nat) (w0 wr : World) : Prop := ∀ b t cs, b ≠ Mb → Blk w0 b t cs → Blk wr b t cs
theorem KeepB.refl (Mb : Nat) (w : World) : KeepB Mb w w := fun _ _ _ _ h => h
theorem KeepB.step {Mb : Nat} {w0 wr w' : World} (h : KeepB Mb w0 wr) (hb : Below wr.heap.size wr w') (u v : Value) : KeepB Mb w0 ((w'.setCell ⟨Mb, 0, none⟩ u).setCell ⟨Mb, 1, none⟩ v) := fun b t cs hn hx =>
  Blk.far (Blk.far ((h b t cs hn hx).keep hb) (p := ⟨Mb, 0, none⟩) hn u) (p := ⟨Mb, 1, none⟩) hn v
theorem HasM.keepB {Mb : Nat} {w0 wr : World} {ok : Nat → Prop} {p : Option Addr} {l : List (Nat × Int)} (h : HasM ok w0 p l) (hk : KeepB Mb w0 wr) {cs : Array Value} (hM : Blk w0 Mb 27 cs) : HasM ok wr p l :=
  h.keepT fun b ds hd => hk b _ _ (fun e => by
    subst e
    have h2 : w0.heap[b]? = _ := hM
    rw [show w0.heap[b]? = _ from hd] at h2
    simp at h2) hd
/-- A map in a variable, turned by calls. -/
def DoI (W w0 wq : World) (Mb n : Nat) : Prop := Below W.heap.size W wq ∧ KeepB Mb w0 wq ∧ ∃ q ls, ls.length ≤ n ∧ Blk wq Mb 27 #[.pointer q, .int .i64 (List.length (α := Nat × Int) ls)] ∧ HasM (fun b => b ≠ Mb) wq q ls
theorem notMap : ∀ q, q ∈ 37 :: k37.E → q ≠ 27 := by simp [k37, Kd.iso, Kd.pair, Kd.int, Kd.scalar]
theorem sliced_take {W : World} {ad : Option Addr} {c : Nat} {L : List A} (hA : ActsAt W (.slice ad L.length c) L) (hc : L.length ≤ c) (a : Nat) (ha : a ≤ L.length) :
    ∃ adA cA, (∀ w : World, (Instr.slice 22 (.slice ad L.length c) none (some (.int .i64 a)) none).run Try.prog w = .ok (.slice adA (L.take a).length cA) w) ∧ ActsAt W (.slice adA (L.take a).length cA) (L.take a) := by
  refine ⟨if c = 0 then ad else ad.map (·.add (0 * 3)), c, fun w => ?_, ?_⟩
  · rw [run_slice_h w 22 ad L.length c (by kernel_rfl) .i64 (a : Int) (by omega) (by omega)]
    have hs : (sizeOf (Try.prog.elem 22)).run Try.prog w = .ok 3 w := by kernel_rfl
    rw [hs]
    simp [Result.andThen, sliced, Nat.min_eq_left ha]
  · obtain ⟨ad', c', e, hmax, hks, hcells⟩ := hA
    cases e
    refine ⟨_, _, rfl, by rw [List.length_take]; omega, fun x hx => hks x (List.mem_of_mem_take hx), fun i x hx => ?_⟩
    have hi : L[i]? = some x := by
      rw [List.getElem?_take] at hx
      split at hx
      · exact hx
      · cases hx
    obtain ⟨a0, rfl, h1, h2⟩ := hcells i x hi
    have hlt : i < L.length := by
      rcases Nat.lt_or_ge i L.length with h | h
      · exact h
      · rw [List.getElem?_eq_none h] at hi; cases hi
    refine ⟨a0, ?_, h1, h2⟩
    rw [if_neg (by omega)]
    simp [Addr.add]
theorem sliced_drop {W : World} {ad : Option Addr} {c : Nat} {L : List A} (hA : ActsAt W (.slice ad L.length c) L) (hc : L.length ≤ c) (a : Nat) (ha : a ≤ L.length) :
    ∃ adA cA, (∀ w : World, (Instr.slice 22 (.slice ad L.length c) (some (.int .i64 a)) none none).run Try.prog w = .ok (.slice adA (L.drop a).length cA) w) ∧ ActsAt W (.slice adA (L.drop a).length cA) (L.drop a) := by
  refine ⟨if c = a then ad else ad.map (·.add (a * 3)), c - a, fun w => ?_, ?_⟩
  · rw [run_slice_l w 22 ad L.length c (by kernel_rfl) .i64 (a : Int) (by omega) (by omega)]
    have hs : (sizeOf (Try.prog.elem 22)).run Try.prog w = .ok 3 w := by kernel_rfl
    rw [hs]
    simp [Result.andThen, sliced]
  · obtain ⟨ad', c', e, hmax, hks, hcells⟩ := hA
    cases e
    refine ⟨_, _, rfl, by rw [List.length_drop]; omega, fun x hx => hks x (List.mem_of_mem_drop hx), fun i x hx => ?_⟩
    rw [List.getElem?_drop] at hx
    obtain ⟨a0, rfl, h1, h2, h3, h4⟩ := hcells (a + i) x hx
    have hlt : a + i < L.length := by
      rcases Nat.lt_or_ge (a + i) L.length with h | h
      · exact h
      · rw [List.getElem?_eq_none h] at hx; cases hx
    refine ⟨a0.add (a * 3), ?_, by rw [add_block]; exact h1, ?_, ?_, ?_⟩
    · rw [if_neg (by omega)]; rfl
    · rw [add_of_add, show a * 3 + i * 3 = (a + i) * 3 by omega]; exact h2
    · rw [add_of_add, show a * 3 + (i * 3 + 1) = (a + i) * 3 + 1 by omega]; exact h3
    · rw [add_of_add, show a * 3 + (i * 3 + 2) = (a + i) * 3 + 2 by omega]; exact h4
end Go.Proofs.Ytkbgdbhmdpnaoaa
