/- A job, and a config, opened from a law's row. -/
import Derived.Test.YtnaalaakhdbfbaaV4RgArgs
set_option linter.unusedVariables false
set_option linter.unusedSimpArgs false
namespace Go.Proofs.Ytnaalaakhdbfbaa.XP
open Go.ChangeShapes Go.WideShapes Go.ChangeAt Go.RowKit Go.Deep Go.Proofs.YtnaalaakhdbfbaaW.PrintWords
set_option maxRecDepth 100000 in
theorem spans_cell {H : Type} {enc : TypeId × Value → H} {W : World} {fuel : Nat} {v : Value} {y : DataW H × List MemPlace}
  (hf : DataW.trod enc Try.prog W 0 (fun _ => true) true fuel 22 [v] = some y) : ∃ A c, ∃ l : List Sp, v = .slice A l.length c ∧ l.length ≤ c ∧ Kd.C k48 W A l.length l := by
 rcases open_rows Try.underlying22 Try.underlying48 (by kernel_rfl) (by kernel_rfl) hf with hc | ⟨a, len, cap, hc, _, hl, hm, hi⟩
 ·simp at hc
  subst hc
  exact ⟨none, 0, [], rfl, Nat.le_refl _, Kd.C_nil _ _⟩
 ·simp at hc
  subst hc
  have hm' : cap ≤ 9223372036854775807 := by unfold maxLen at hm; omega
  obtain ⟨l, hlen, hlist⟩ := list_of (R := fun i (x : Sp) => W.cell? (a.add (i * 2)) = some (.int .i64 x.f0) ∧ W.cell? (a.add (i * 2 + 1)) = some (.int .i64 x.f1)) len (by
   intro i hilt
   obtain ⟨v0, n0, y0, c0, t0⟩ := hi i (by omega) 0 _ rfl
   obtain ⟨v1, n1, y1, c1, t1⟩ := hi i (by omega) 1 _ rfl
   obtain ⟨i0, rfl, _⟩ := open_field_int (k := .i64) Try.underlying2 t0
   obtain ⟨i1, rfl, _⟩ := open_field_int (k := .i64) Try.underlying2 t1
   exact ⟨⟨i0, i1⟩, c0, c1⟩)
  subst hlen
  refine ⟨some a, cap, l, rfl, hl, rfl, by omega, fun _ => ⟨a, rfl, fun j x hx => ?_⟩⟩
  obtain ⟨h0, h1⟩ := hlist j x hx
  refine ⟨_, rfl, k48_mk W x, fun i u hu => ?_⟩
  match i with
  | 0 => simp at hu; subst hu; exact h0
  | 1 => simp at hu; subst hu; exact h1
  | i + 2 => simp at hu
theorem thirteen_of {cs : Array Value} (h : cs.size = 13) : ∃ a0 a1 a2 a3 a4 a5 a6 a7 a8 a9 a10 a11 a12, cs = #[a0, a1, a2, a3, a4, a5, a6, a7, a8, a9, a10, a11, a12] := by
 obtain ⟨l⟩ := cs
 match l, h with
 | [a0, a1, a2, a3, a4, a5, a6, a7, a8, a9, a10, a11, a12], _ => exact ⟨a0, a1, a2, a3, a4, a5, a6, a7, a8, a9, a10, a11, a12, rfl⟩
set_option maxRecDepth 100000 in
theorem job_open {H : Type} {enc : TypeId × Value → H} {W : World} {base : Nat} {v : Value} {d : DataW H} {p : List MemPlace} (hv : Value.okWide Try.prog W .any base 26 v)
  (h : DataW.Trod enc Try.prog W 0 (fun _ => true) true 26 v d p) : ∃ A0 m0, ∃ l0 : List Sp, ∃ A1 m1, ∃ l1 : List Sp, ∃ len c0 c1 c2 c3 c4 c5 c6 c7 c8 c9 : Int,
   v = .agg #[.slice A0 l0.length m0, .slice A1 l1.length m1, .int .i64 len, .int .i64 c0, .int .i64 c1, .int .i64 c2, .int .i64 c3, .int .i64 c4, .int .i64 c5, .int .i64 c6, .int .i64 c7, .int .i64 c8, .int .i64 c9] ∧ (l0.length ≤ m0 ∧ Kd.C k48 W A0 l0.length l0) ∧ l1.length ≤ m1 ∧ Kd.C k48 W A1 l1.length l1 := by
 obtain ⟨cs, rfl, hsz⟩ := okWide_struct Try.underlying26 hv
 obtain ⟨a0, a1, a2, a3, a4, a5, a6, a7, a8, a9, a10, a11, a12, rfl⟩ := thirteen_of (hsz.trans (by kernel_rfl))
 obtain ⟨fuel, hf⟩ := h
 obtain ⟨xs, n, _, _, hlen, hxl, hfl⟩ := DataW.trod_struct Try.underlying26 hf
 have hc1 : Try.prog.cellsOf 2 = 1 := by kernel_rfl
 have hc2 : Try.prog.cellsOf 3 = 1 := by kernel_rfl
 have hc3 : Try.prog.cellsOf 22 = 1 := by kernel_rfl
 have hc4 : Try.prog.cellsOf 24 = 10 := by kernel_rfl
 have f0 : DataW.trod enc Try.prog W 0 (fun _ => true) true n 22 [a0] = xs[0]? := by simpa [hc1, hc2, hc3, hc4, Value.cells] using hfl 0 _ rfl
 have fx0 : xs[0]? = some (xs[0]'(by rw [hxl]; decide)) := List.getElem?_eq_getElem _
 have f1 : DataW.trod enc Try.prog W 0 (fun _ => true) true n 22 [a1] = xs[1]? := by simpa [hc1, hc2, hc3, hc4, Value.cells] using hfl 1 _ rfl
 have fx1 : xs[1]? = some (xs[1]'(by rw [hxl]; decide)) := List.getElem?_eq_getElem _
 have f2 : DataW.trod enc Try.prog W 0 (fun _ => true) true n 2 [a2] = xs[2]? := by simpa [hc1, hc2, hc3, hc4, Value.cells] using hfl 2 _ rfl
 have fx2 : xs[2]? = some (xs[2]'(by rw [hxl]; decide)) := List.getElem?_eq_getElem _
 have f3 : DataW.trod enc Try.prog W 0 (fun _ => true) true n 24 [a3, a4, a5, a6, a7, a8, a9, a10, a11, a12] = xs[3]? := by simpa [hc1, hc2, hc3, hc4, Value.cells] using hfl 3 _ rfl
 have fx3 : xs[3]? = some (xs[3]'(by rw [hxl]; decide)) := List.getElem?_eq_getElem _
 obtain ⟨ys, n2, _, _, hlen2, hyl, hgl⟩ := DataW.trod_struct Try.underlying24 (f3.trans fx3)
 have g0 : DataW.trod enc Try.prog W 0 (fun _ => true) true n2 2 [a3] = ys[0]? := by simpa [hc1, hc2, Value.cells] using hgl 0 _ rfl
 have gx0 : ys[0]? = some (ys[0]'(by rw [hyl]; decide)) := List.getElem?_eq_getElem _
 have g1 : DataW.trod enc Try.prog W 0 (fun _ => true) true n2 2 [a4] = ys[1]? := by simpa [hc1, hc2, Value.cells] using hgl 1 _ rfl
 have gx1 : ys[1]? = some (ys[1]'(by rw [hyl]; decide)) := List.getElem?_eq_getElem _
 have g2 : DataW.trod enc Try.prog W 0 (fun _ => true) true n2 2 [a5] = ys[2]? := by simpa [hc1, hc2, Value.cells] using hgl 2 _ rfl
 have gx2 : ys[2]? = some (ys[2]'(by rw [hyl]; decide)) := List.getElem?_eq_getElem _
 have g3 : DataW.trod enc Try.prog W 0 (fun _ => true) true n2 3 [a6] = ys[3]? := by simpa [hc1, hc2, Value.cells] using hgl 3 _ rfl
 have gx3 : ys[3]? = some (ys[3]'(by rw [hyl]; decide)) := List.getElem?_eq_getElem _
 have g4 : DataW.trod enc Try.prog W 0 (fun _ => true) true n2 3 [a7] = ys[4]? := by simpa [hc1, hc2, Value.cells] using hgl 4 _ rfl
 have gx4 : ys[4]? = some (ys[4]'(by rw [hyl]; decide)) := List.getElem?_eq_getElem _
 have g5 : DataW.trod enc Try.prog W 0 (fun _ => true) true n2 3 [a8] = ys[5]? := by simpa [hc1, hc2, Value.cells] using hgl 5 _ rfl
 have gx5 : ys[5]? = some (ys[5]'(by rw [hyl]; decide)) := List.getElem?_eq_getElem _
 have g6 : DataW.trod enc Try.prog W 0 (fun _ => true) true n2 2 [a9] = ys[6]? := by simpa [hc1, hc2, Value.cells] using hgl 6 _ rfl
 have gx6 : ys[6]? = some (ys[6]'(by rw [hyl]; decide)) := List.getElem?_eq_getElem _
 have g7 : DataW.trod enc Try.prog W 0 (fun _ => true) true n2 2 [a10] = ys[7]? := by simpa [hc1, hc2, Value.cells] using hgl 7 _ rfl
 have gx7 : ys[7]? = some (ys[7]'(by rw [hyl]; decide)) := List.getElem?_eq_getElem _
 have g8 : DataW.trod enc Try.prog W 0 (fun _ => true) true n2 2 [a11] = ys[8]? := by simpa [hc1, hc2, Value.cells] using hgl 8 _ rfl
 have gx8 : ys[8]? = some (ys[8]'(by rw [hyl]; decide)) := List.getElem?_eq_getElem _
 have g9 : DataW.trod enc Try.prog W 0 (fun _ => true) true n2 2 [a12] = ys[9]? := by simpa [hc1, hc2, Value.cells] using hgl 9 _ rfl
 have gx9 : ys[9]? = some (ys[9]'(by rw [hyl]; decide)) := List.getElem?_eq_getElem _
 obtain ⟨A0, m0, l0, e0, e1, e2⟩ := spans_cell (f0.trans fx0)
 obtain ⟨A1, m1, l1, e3, e4, e5⟩ := spans_cell (f1.trans fx1)
 obtain ⟨ln, e6, _⟩ := open_field_int (k := .i64) Try.underlying2 (f2.trans fx2)
 obtain ⟨i0, h0, _⟩ := open_field_int (k := .i64) Try.underlying2 (g0.trans gx0)
 obtain ⟨i1, h1, _⟩ := open_field_int (k := .i64) Try.underlying2 (g1.trans gx1)
 obtain ⟨i2, h2, _⟩ := open_field_int (k := .i64) Try.underlying2 (g2.trans gx2)
 obtain ⟨i3, h3, _⟩ := open_field_int (k := .i64) Try.underlying3 (g3.trans gx3)
 obtain ⟨i4, h4, _⟩ := open_field_int (k := .i64) Try.underlying3 (g4.trans gx4)
 obtain ⟨i5, h5, _⟩ := open_field_int (k := .i64) Try.underlying3 (g5.trans gx5)
 obtain ⟨i6, h6, _⟩ := open_field_int (k := .i64) Try.underlying2 (g6.trans gx6)
 obtain ⟨i7, h7, _⟩ := open_field_int (k := .i64) Try.underlying2 (g7.trans gx7)
 obtain ⟨i8, h8, _⟩ := open_field_int (k := .i64) Try.underlying2 (g8.trans gx8)
 obtain ⟨i9, h9, _⟩ := open_field_int (k := .i64) Try.underlying2 (g9.trans gx9)
 subst e0 e3 e6 h0 h1 h2 h3 h4 h5 h6 h7 h8 h9
 exact ⟨A0, m0, l0, A1, m1, l1, ln, i0, i1, i2, i3, i4, i5, i6, i7, i8, i9, rfl, ⟨e1, e2⟩, e4, e5⟩
end Go.Proofs.Ytnaalaakhdbfbaa.XP
