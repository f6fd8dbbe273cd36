/- A law's acts, opened from its row. -/
import Derived.Test.YtkbgdbhmdpnaoaaLaw
import Derived.Test.YtkbgdbhmdpnaoaaRActs
namespace Go.Proofs.Ytkbgdbhmdpnaoaa
open Go.ChangeShapes Go.WideShapes Go.ChangeAt Go.RowKit Go.Deep Go.Proofs.YtkbgdbhmdpnaoaaW.PrintWords
theorem acts_open {H : Type} {enc : TypeId × Value → H} {W : World} {base : Nat} {v : Value} {d : DataW H} {p : List MemPlace} (hv : Value.okWide Try.prog W .any base 22 v)
    (h : DataW.Trod enc Try.prog W 0 (fun _ => true) true 22 v d p) : ∃ l, ActsAt W v l := by
  obtain ⟨a0, len0, cap0, rfl⟩ := okWide_slice Try.underlying22 hv
  obtain ⟨fuel, hf⟩ := h
  rcases open_rows Try.underlying22 Try.underlying30 (by kernel_rfl) (by kernel_rfl) hf with hc | ⟨a, len, cap, hc, _, hl, hm, hi⟩
  · simp [Value.cells] at hc
    obtain ⟨rfl, rfl, rfl⟩ := hc
    exact ⟨[], none, 0, rfl, by simp, by simp, by simp⟩
  · simp [Value.cells] at hc
    obtain ⟨rfl, rfl, rfl⟩ := hc
    have hm' : cap0 ≤ 9223372036854775807 := by unfold maxLen at hm; omega
    obtain ⟨l, hlen, hlist⟩ := list_of (R := fun i (x : A) => x.k < 18446744073709551616 ∧ W.cell? (a.add (i * 3)) = some (.int .i64 x.kind) ∧ W.cell? (a.add (i * 3 + 1)) = some (.int .u64 x.k) ∧ W.cell? (a.add (i * 3 + 2)) = some (.int .i64 x.v)) len0 (by
      intro i hilt
      obtain ⟨v0, n0, y0, c0, t0⟩ := hi i (by omega) 0 _ rfl
      obtain ⟨v1, n1, y1, c1, t1⟩ := hi i (by omega) 1 _ rfl
      obtain ⟨v2, n2, y2, c2, t2⟩ := hi i (by omega) 2 _ rfl
      obtain ⟨i0, rfl, _⟩ := open_field_int (k := .i64) Try.underlying3 t0
      obtain ⟨i1, rfl, w1⟩ := open_field_int (k := .u64) Try.underlying23 t1
      obtain ⟨i2, rfl, _⟩ := open_field_int (k := .i64) Try.underlying3 t2
      obtain ⟨k, rfl, hk⟩ := wf_u64_nat w1
      exact ⟨⟨i0, k, i2⟩, hk, c0, c1, c2⟩)
    subst hlen
    refine ⟨l, some a, cap0, rfl, by omega, ?_, ?_⟩
    · intro x hx
      obtain ⟨i, hi', rfl⟩ := List.getElem_of_mem hx
      exact (hlist i _ (List.getElem?_eq_getElem hi')).1
    · intro i x hx
      obtain ⟨_, h0, h1, h2⟩ := hlist i x hx
      exact ⟨a, rfl, by have := World.block_lt_of_cell? _ _ h0; rwa [add_block] at this, h0, h1, h2⟩
end Go.Proofs.Ytkbgdbhmdpnaoaa
