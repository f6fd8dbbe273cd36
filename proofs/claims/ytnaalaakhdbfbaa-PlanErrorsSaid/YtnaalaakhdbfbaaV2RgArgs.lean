/- A law's spans, opened from its row. -/
import Derived.Test.YtnaalaakhdbfbaaV2Law
import Derived.OpenShut
import Derived.Test.YtnaalaakhdbfbaaV2RgSets
set_option linter.unusedVariables false
set_option linter.unusedSimpArgs false
namespace Go.Proofs.Ytnaalaakhdbfbaa.XP
open Go.ChangeShapes Go.WideShapes Go.ChangeAt Go.RowKit Go.Deep Go.Proofs.YtnaalaakhdbfbaaW.PrintWords
theorem two_of {cs : Array Value} (h : cs.size = 2) : ∃ a b, cs = #[a, b] := by
  obtain ⟨l⟩ := cs
  match l, h with
  | [a, b], _ => exact ⟨a, b, rfl⟩
set_option maxRecDepth 100000 in
theorem span_open {H : Type} {enc : TypeId × Value → H} {W : World} {base : Nat} {v : Value} {d : DataW H} {p : List MemPlace} (hv : Value.okWide Try.prog W .any base 48 v)
    (h : DataW.Trod enc Try.prog W 0 (fun _ => true) true 48 v d p) : ∃ x : Sp, v = .agg #[.int .i64 x.f0, .int .i64 x.f1] := by
  obtain ⟨cs, rfl, hsz⟩ := okWide_struct Try.underlying48 hv
  obtain ⟨a, b, rfl⟩ := two_of (hsz.trans (by kernel_rfl))
  obtain ⟨fuel, hf⟩ := h
  obtain ⟨xs, n, _, _, hlen, hxl, hfl⟩ := DataW.trod_struct Try.underlying48 hf
  have hc1 : Try.prog.cellsOf 2 = 1 := by kernel_rfl
  have h0 := hfl 0 _ rfl
  have h1 := hfl 1 _ rfl
  have hx0 : xs[0]? = some (xs[0]'(by rw [hxl]; decide)) := List.getElem?_eq_getElem _
  have hx1 : xs[1]? = some (xs[1]'(by rw [hxl]; decide)) := List.getElem?_eq_getElem _
  simp only [hc1, Value.cells] at h0 h1
  obtain ⟨i0, rfl, _⟩ := open_field_int (k := .i64) Try.underlying2 (h0.trans hx0)
  obtain ⟨i1, rfl, _⟩ := open_field_int (k := .i64) Try.underlying2 (h1.trans hx1)
  exact ⟨⟨i0, i1⟩, rfl⟩
end Go.Proofs.Ytnaalaakhdbfbaa.XP
