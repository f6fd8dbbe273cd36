/- A job, and a config, opened from a law's row. -/
import Derived.Test.YtnaalaakhdbfbaaV2RgArgs
set_option linter.unusedVariables false
set_option linter.unusedSimpArgs false
namespace Go.Proofs.Ytnaalaakhdbfbaa.XP
open Go.ChangeShapes Go.WideShapes Go.ChangeAt Go.RowKit Go.Deep Go.Proofs.YtnaalaakhdbfbaaW.PrintWords
theorem ten_of {cs : Array Value} (h : cs.size = 10) : ∃ a0 a1 a2 a3 a4 a5 a6 a7 a8 a9, cs = #[a0, a1, a2, a3, a4, a5, a6, a7, a8, a9] := by
  obtain ⟨l⟩ := cs
  match l, h with
  | [a0, a1, a2, a3, a4, a5, a6, a7, a8, a9], _ => exact ⟨a0, a1, a2, a3, a4, a5, a6, a7, a8, a9, rfl⟩
set_option maxRecDepth 100000 in
theorem config_open {H : Type} {enc : TypeId × Value → H} {W : World} {base : Nat} {v : Value} {d : DataW H} {p : List MemPlace} (hv : Value.okWide Try.prog W .any base 24 v)
    (h : DataW.Trod enc Try.prog W 0 (fun _ => true) true 24 v d p) : ∃ c0 c1 c2 c3 c4 c5 c6 c7 c8 c9 : Int, v = .agg #[.int .i64 c0, .int .i64 c1, .int .i64 c2, .int .i64 c3, .int .i64 c4, .int .i64 c5, .int .i64 c6, .int .i64 c7, .int .i64 c8, .int .i64 c9] := by
  obtain ⟨cs, rfl, hsz⟩ := okWide_struct Try.underlying24 hv
  obtain ⟨a0, a1, a2, a3, a4, a5, a6, a7, a8, a9, rfl⟩ := ten_of (hsz.trans (by kernel_rfl))
  obtain ⟨fuel, hf⟩ := h
  obtain ⟨xs, n, _, _, hlen, hxl, hfl⟩ := DataW.trod_struct Try.underlying24 hf
  have hc1 : Try.prog.cellsOf 2 = 1 := by kernel_rfl
  have hc2 : Try.prog.cellsOf 3 = 1 := by kernel_rfl
  have g0 : DataW.trod enc Try.prog W 0 (fun _ => true) true n 2 [a0] = xs[0]? := by simpa [hc1, hc2, Value.cells] using hfl 0 _ rfl
  have gx0 : xs[0]? = some (xs[0]'(by rw [hxl]; decide)) := List.getElem?_eq_getElem _
  have g1 : DataW.trod enc Try.prog W 0 (fun _ => true) true n 2 [a1] = xs[1]? := by simpa [hc1, hc2, Value.cells] using hfl 1 _ rfl
  have gx1 : xs[1]? = some (xs[1]'(by rw [hxl]; decide)) := List.getElem?_eq_getElem _
  have g2 : DataW.trod enc Try.prog W 0 (fun _ => true) true n 2 [a2] = xs[2]? := by simpa [hc1, hc2, Value.cells] using hfl 2 _ rfl
  have gx2 : xs[2]? = some (xs[2]'(by rw [hxl]; decide)) := List.getElem?_eq_getElem _
  have g3 : DataW.trod enc Try.prog W 0 (fun _ => true) true n 3 [a3] = xs[3]? := by simpa [hc1, hc2, Value.cells] using hfl 3 _ rfl
  have gx3 : xs[3]? = some (xs[3]'(by rw [hxl]; decide)) := List.getElem?_eq_getElem _
  have g4 : DataW.trod enc Try.prog W 0 (fun _ => true) true n 3 [a4] = xs[4]? := by simpa [hc1, hc2, Value.cells] using hfl 4 _ rfl
  have gx4 : xs[4]? = some (xs[4]'(by rw [hxl]; decide)) := List.getElem?_eq_getElem _
  have g5 : DataW.trod enc Try.prog W 0 (fun _ => true) true n 3 [a5] = xs[5]? := by simpa [hc1, hc2, Value.cells] using hfl 5 _ rfl
  have gx5 : xs[5]? = some (xs[5]'(by rw [hxl]; decide)) := List.getElem?_eq_getElem _
  have g6 : DataW.trod enc Try.prog W 0 (fun _ => true) true n 2 [a6] = xs[6]? := by simpa [hc1, hc2, Value.cells] using hfl 6 _ rfl
  have gx6 : xs[6]? = some (xs[6]'(by rw [hxl]; decide)) := List.getElem?_eq_getElem _
  have g7 : DataW.trod enc Try.prog W 0 (fun _ => true) true n 2 [a7] = xs[7]? := by simpa [hc1, hc2, Value.cells] using hfl 7 _ rfl
  have gx7 : xs[7]? = some (xs[7]'(by rw [hxl]; decide)) := List.getElem?_eq_getElem _
  have g8 : DataW.trod enc Try.prog W 0 (fun _ => true) true n 2 [a8] = xs[8]? := by simpa [hc1, hc2, Value.cells] using hfl 8 _ rfl
  have gx8 : xs[8]? = some (xs[8]'(by rw [hxl]; decide)) := List.getElem?_eq_getElem _
  have g9 : DataW.trod enc Try.prog W 0 (fun _ => true) true n 2 [a9] = xs[9]? := by simpa [hc1, hc2, Value.cells] using hfl 9 _ rfl
  have gx9 : xs[9]? = some (xs[9]'(by rw [hxl]; decide)) := List.getElem?_eq_getElem _
  obtain ⟨i0, rfl, _⟩ := open_field_int (k := .i64) Try.underlying2 (g0.trans gx0)
  obtain ⟨i1, rfl, _⟩ := open_field_int (k := .i64) Try.underlying2 (g1.trans gx1)
  obtain ⟨i2, rfl, _⟩ := open_field_int (k := .i64) Try.underlying2 (g2.trans gx2)
  obtain ⟨i3, rfl, _⟩ := open_field_int (k := .i64) Try.underlying3 (g3.trans gx3)
  obtain ⟨i4, rfl, _⟩ := open_field_int (k := .i64) Try.underlying3 (g4.trans gx4)
  obtain ⟨i5, rfl, _⟩ := open_field_int (k := .i64) Try.underlying3 (g5.trans gx5)
  obtain ⟨i6, rfl, _⟩ := open_field_int (k := .i64) Try.underlying2 (g6.trans gx6)
  obtain ⟨i7, rfl, _⟩ := open_field_int (k := .i64) Try.underlying2 (g7.trans gx7)
  obtain ⟨i8, rfl, _⟩ := open_field_int (k := .i64) Try.underlying2 (g8.trans gx8)
  obtain ⟨i9, rfl, _⟩ := open_field_int (k := .i64) Try.underlying2 (g9.trans gx9)
  exact ⟨i0, i1, i2, i3, i4, i5, i6, i7, i8, i9, rfl⟩
end Go.Proofs.Ytnaalaakhdbfbaa.XP
