/- RadixStays: the law's walk, whole; acts with their room. -/
import Derived.Test.YtkbgdbhmdpnaoaaRStays
import Derived.Test.YtkbgdbhmdpnaoaaRArgs
namespace Go.Proofs.Ytkbgdbhmdpnaoaa
open Go.ChangeShapes Go.WideShapes Go.ChangeAt Go.RowKit Go.Deep Go.Shelf Go.Proofs.Ytkbgdbhmdpnaoaa.Ref Go.Proofs.YtkbgdbhmdpnaoaaW.PrintWords
def ActsAtC (W : World) (v : Value) (l : List A) : Prop := ∃ ad c, v = .slice ad l.length c ∧ l.length ≤ c ∧ ActsAt W (.slice ad l.length c) l
theorem acts_open_c {H : Type} {enc : TypeId × Value → H} {W : World} {base : Nat} {v : Value} {d : DataW H} {p : List MemPlace} (hv : Value.okWide Try.prog W .any base 22 v)
    (h : DataW.Trod enc Try.prog W 0 (fun _ => true) true 22 v d p) : ∃ l, ActsAtC W v l := by
  obtain ⟨a0, len0, cap0, rfl⟩ := okWide_slice Try.underlying22 hv
  obtain ⟨fuel, hf⟩ := h
  rcases open_rows Try.underlying22 Try.underlying30 (by kernel_rfl) (by kernel_rfl) hf with hc | ⟨a, len, cap, hc, _, hl, hm, hi⟩
  · simp [Value.cells] at hc
    obtain ⟨rfl, rfl, rfl⟩ := hc
    exact ⟨[], none, 0, rfl, by simp, none, 0, rfl, by simp, by simp, by simp⟩
  · simp [Value.cells] at hc
    obtain ⟨rfl, rfl, rfl⟩ := hc
    have hm' : cap0 ≤ 9223372036854775807 := by unfold maxLen at hm; omega
    obtain ⟨l, hlen, hlist⟩ := list_of (R := fun i (x : A) => x.k < 18446744073709551616 ∧ W.cell? (a.add (i * 3)) = some (.int .i64 x.kind) ∧ W.cell? (a.add (i * 3 + 1)) = some (.int .u64 x.k) ∧ W.cell? (a.add (i * 3 + 2)) = some (.int .i64 x.v)) len0 (by
      intro i hilt
      obtain ⟨v0, n0, y0, c0, t0⟩ := hi i (by omega) 0 _ rfl
      obtain ⟨v1, n1, y1, c1, t1⟩ := hi i (by omega) 1 _ rfl
      obtain ⟨v2, n2, y2, c2, t2⟩ := hi i (by omega) 2 _ rfl
      obtain ⟨i0, rfl, _⟩ := open_field_int (k := .i64) Try.underlying3 t0
      obtain ⟨i1, rfl, w1⟩ := open_field_int (k := .u64) Try.underlying23 t1
      obtain ⟨i2, rfl, _⟩ := open_field_int (k := .i64) Try.underlying3 t2
      obtain ⟨k, rfl, hk⟩ := wf_u64_nat w1
      exact ⟨⟨i0, k, i2⟩, hk, c0, c1, c2⟩)
    subst hlen
    refine ⟨l, some a, cap0, rfl, hl, some a, cap0, rfl, by omega, ?_, ?_⟩
    · intro x hx
      obtain ⟨i, hi', rfl⟩ := List.getElem_of_mem hx
      exact (hlist i _ (List.getElem?_eq_getElem hi')).1
    · intro i x hx
      obtain ⟨_, h0, h1, h2⟩ := hlist i x hx
      exact ⟨a, rfl, by have := World.block_lt_of_cell? _ _ h0; rwa [add_block] at this, h0, h1, h2⟩
set_option maxRecDepth 100000 in
set_option maxHeartbeats 4000000 in
theorem stays_walk (v : Value) (l : List A) (v2 : Value) (l2 : List A) (n : Int) (W : World) (hA : ActsAtC W v l) (hA2 : ActsAt W v2 l2) :
    Calls Try.prog 6 #[v, v2, .int .i64 n] W fun e w' => e = .returned (.bool true) ∧ Below W.heap.size W w' := by
  obtain ⟨ad, c, rfl, hc, hA⟩ := hA
  obtain ⟨ad2, c2, rfl, hmax2, _⟩ := id hA2
  have hmax : l.length ≤ 9223372036854775807 := by obtain ⟨_, _, _, h, _⟩ := hA; exact h
  have b1 : (l.length : Int) ≤ 9223372036854775807 := by omega
  have b2 : (l2.length : Int) ≤ 9223372036854775807 := by omega
  by_cases h1 : 40 < l.length
  · have g1 : decide ((40 : Int) < (l.length : Int)) = true := by simp; omega
    go_enter Try.func6, Try.ntmps6
    go_wp2_with fail
    refine (awake_any _).mono ?_
    rintro e w1 ⟨rfl, hB1⟩
    go_wp2_with fail
    refine (awake_any _).mono ?_
    rintro e w2 ⟨rfl, hB2⟩
    go_wp2
    go_ret
    exact ⟨rfl, hB1.trans (hB2.mono hB1.size)⟩
  have g1 : decide ((40 : Int) < (l.length : Int)) = false := by simp; omega
  by_cases h2 : 40 < l2.length
  · have g2 : decide ((40 : Int) < (l2.length : Int)) = true := by simp; omega
    go_enter Try.func6, Try.ntmps6
    go_wp2_with fail
    refine (awake_any _).mono ?_
    rintro e w1 ⟨rfl, hB1⟩
    go_wp2_with fail
    refine (awake_any _).mono ?_
    rintro e w2 ⟨rfl, hB2⟩
    go_wp2
    go_ret
    exact ⟨rfl, hB1.trans (hB2.mono hB1.size)⟩
  have g2 : decide ((40 : Int) < (l2.length : Int)) = false := by simp; omega
  by_cases h3 : n < 0
  · have g3 : decide (n < 0) = true := by simp; omega
    go_enter Try.func6, Try.ntmps6
    go_wp2_with fail
    refine (awake_any _).mono ?_
    rintro e w1 ⟨rfl, hB1⟩
    go_wp2_with fail
    refine (awake_any _).mono ?_
    rintro e w2 ⟨rfl, hB2⟩
    go_wp2
    go_ret
    exact ⟨rfl, hB1.trans (hB2.mono hB1.size)⟩
  have g3 : decide (n < 0) = false := by simp; omega
  by_cases h4 : (l.length : Int) < n
  · have g4 : decide ((l.length : Int) < n) = true := by simp; omega
    go_enter Try.func6, Try.ntmps6
    go_wp2_with fail
    refine (awake_any _).mono ?_
    rintro e w1 ⟨rfl, hB1⟩
    go_wp2_with fail
    refine (awake_any _).mono ?_
    rintro e w2 ⟨rfl, hB2⟩
    go_wp2
    go_ret
    exact ⟨rfl, hB1.trans (hB2.mono hB1.size)⟩
  obtain ⟨a, rfl⟩ : ∃ a : Nat, n = a := ⟨n.toNat, by omega⟩
  obtain ⟨adA, cA, hs1, hA1⟩ := sliced_take hA hc a (by omega)
  obtain ⟨adB, cB, hs2, hB1⟩ := sliced_drop hA hc a (by omega)
  exact stays_core ad c l.length a (by omega) (by omega) adA cA (l.take a) adB cB (l.drop a) ad2 c2 l2 W hA1 hB1 hA2 (by rw [List.length_take]; omega) (by rw [List.length_drop]; omega) (by omega) hs1 hs2
end Go.Proofs.Ytkbgdbhmdpnaoaa
