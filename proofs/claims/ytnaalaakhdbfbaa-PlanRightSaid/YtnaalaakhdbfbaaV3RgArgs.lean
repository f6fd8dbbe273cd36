/- A law's spans, opened from its row. -/
import Derived.Test.YtnaalaakhdbfbaaV3Law
import Derived.OpenShut
import Derived.Test.YtnaalaakhdbfbaaV3RgSets
set_option linter.unusedVariables false
set_option linter.unusedSimpArgs false
namespace Go.Proofs.Ytnaalaakhdbfbaa.XP
open Go.ChangeShapes Go.WideShapes Go.ChangeAt Go.RowKit Go.Deep Go.Proofs.YtnaalaakhdbfbaaW.PrintWords
set_option maxRecDepth 100000 in
theorem spans_open {H : Type} {enc : TypeId × Value → H} {W : World} {base : Nat} {v : Value} {d : DataW H} {p : List MemPlace} (hv : Value.okWide Try.prog W .any base 22 v)
  (h : DataW.Trod enc Try.prog W 0 (fun _ => true) true 22 v d p) : ∃ A c, ∃ l : List Sp, v = .slice A l.length c ∧ l.length ≤ c ∧ Kd.C k48 W A l.length l := by
 obtain ⟨a0, len0, cap0, rfl⟩ := okWide_slice Try.underlying22 hv
 obtain ⟨fuel, hf⟩ := h
 rcases open_rows Try.underlying22 Try.underlying48 (by kernel_rfl) (by kernel_rfl) hf with hc | ⟨a, len, cap, hc, _, hl, hm, hi⟩
 ·simp [Value.cells] at hc
  obtain ⟨rfl, rfl, rfl⟩ := hc
  exact ⟨none, 0, [], rfl, Nat.le_refl _, Kd.C_nil _ _⟩
 ·simp [Value.cells] at hc
  obtain ⟨rfl, rfl, rfl⟩ := hc
  have hm' : cap0 ≤ 9223372036854775807 := by unfold maxLen at hm; omega
  obtain ⟨l, hlen, hlist⟩ := list_of (R := fun i (x : Sp) => W.cell? (a.add (i * 2)) = some (.int .i64 x.f0) ∧ W.cell? (a.add (i * 2 + 1)) = some (.int .i64 x.f1)) len0 (by
   intro i hilt
   obtain ⟨v0, n0, y0, c0, t0⟩ := hi i (by omega) 0 _ rfl
   obtain ⟨v1, n1, y1, c1, t1⟩ := hi i (by omega) 1 _ rfl
   obtain ⟨i0, rfl, _⟩ := open_field_int (k := .i64) Try.underlying2 t0
   obtain ⟨i1, rfl, _⟩ := open_field_int (k := .i64) Try.underlying2 t1
   exact ⟨⟨i0, i1⟩, c0, c1⟩)
  subst hlen
  refine ⟨some a, cap0, l, rfl, hl, rfl, by omega, fun _ => ⟨a, rfl, fun j x hx => ?_⟩⟩
  obtain ⟨h0, h1⟩ := hlist j x hx
  refine ⟨_, rfl, k48_mk W x, fun i u hu => ?_⟩
  match i with
  | 0 => simp at hu; subst hu; exact h0
  | 1 => simp at hu; subst hu; exact h1
  | i + 2 => simp at hu
theorem two_of {cs : Array Value} (h : cs.size = 2) : ∃ a b, cs = #[a, b] := by
 obtain ⟨l⟩ := cs
 match l, h with
 | [a, b], _ => exact ⟨a, b, rfl⟩
end Go.Proofs.Ytnaalaakhdbfbaa.XP
