/- Steps that the printed walks repeat, each as one lemma that shows its side conditions itself. -/
import Derived.Test.YtnaalaakhdbfbaaV4WAll
import Derived.KernelRfl
import Derived.Tactics
import Derived.WalkKit
set_option linter.unusedVariables false
set_option linter.unusedSimpArgs false
namespace Go.Proofs.Ytnaalaakhdbfbaa.XP
open Go.RowKit Go.Proofs.YtnaalaakhdbfbaaW.PrintWords Go.Proofs.YtnaalaakhdbfbaaW.PrintLast Go.Proofs.YtnaalaakhdbfbaaW.PrintMore
section
variable {P : Program} {ops : Array Oper} {Q : Exit → Act → World → Prop} {md : Region.Mode} {S : World → Prop} {ds : List Nat} {T : Bool × List (List Nat × List Nat)}
theorem pS {i : Nat} {N : Option Tmp} {oi : Oper} {v : Value} {fuel : Nat} {l : Array Bool} {a : Act} {w : World} (l' : Array Bool) (hi : ops[i]? = some oi) (hN : oi.dst = N) (hT : rtab md ops = T) {a' : Act}
  (h : wpAnyLast P md ops Q S ds fuel l' a' w) (hc : anyT T l.toList l'.toList i = true := by kernel_rfl)
  (hQ : ∀ c a w, Q (.panic c) (a.put oi.dst v) w → Q (.panic c) a w := by exact fun _ _ _ h => h)
  (hw : Region.wanted oi (yielded ops a.tmps) = true := by rfl) (hv : ∀ w, (execOp a.eval oi).run P w = .ok (.value v) w := by intro w'; go_simp; with_reducible rfl)
  (ha : a.put N v = a' := by simp only [Act.put, List.setIfInBounds_toArray, List.set_cons_zero, List.set_cons_succ, i64_w, i32_w]; rfl) : wpAnyLast P md ops Q S ds (fuel + 1) l a w :=
 pure_ l' hi hN (any_of hT hc) hQ (Or.inl ⟨hw, hv⟩) ha h
theorem pU {i : Nat} {N : Option Tmp} {oi : Oper} {fuel : Nat} {l : Array Bool} {a : Act} {w : World} (l' : Array Bool) (hi : ops[i]? = some oi) (hN : oi.dst = N) (hT : rtab md ops = T) {a' : Act}
  (h : wpAnyLast P md ops Q S ds fuel l' a' w) (hc : anyT T l.toList l'.toList i = true := by kernel_rfl)
  (hQ : ∀ c a w, Q (.panic c) (a.put oi.dst undef) w → Q (.panic c) a w := by exact fun _ _ _ h => h)
  (hw : Region.wanted oi (yielded ops a.tmps) = false := by rfl)
  (ha : a.put N undef = a' := by simp only [Act.put, List.setIfInBounds_toArray, List.set_cons_zero, List.set_cons_succ, i64_w, i32_w]; rfl) : wpAnyLast P md ops Q S ds (fuel + 1) l a w :=
 pure_ (v := undef) l' hi hN (any_of hT hc) hQ (Or.inr ⟨hw, rfl⟩) ha h
theorem tS {i : Nat} {N : Option Tmp} {oi : Oper} {v : Value} {fuel : Nat} {l : Array Bool} {a : Act} {w : World} {B : List Nat} (l' : Array Bool) (hi : ops[i]? = some oi) (hN : oi.dst = N) (hT : rtab md ops = T) (hB : waitsOk T.2 B = true) (hS : S w) {a' : Act}
  (h : wpAnyLast P md ops Q S ds fuel l' a' w) (hc : takeW T B ds l.toList l'.toList i = true := by kernel_rfl)
  (hQ : ∀ c a w, Q (.panic c) (a.put oi.dst v) w → Q (.panic c) a w := by exact fun _ _ _ h => h)
  (hw : Region.wanted oi (yielded ops a.tmps) = true := by rfl) (hv : ∀ w, S w → (execOp a.eval oi).run P w = .ok (.value v) w := by intro w' hs; (repeat (obtain ⟨_, hs⟩ : _ ∧ _ := hs)); go_simp; with_reducible rfl)
  (ha : a.put N v = a' := by simp only [Act.put, List.setIfInBounds_toArray, List.set_cons_zero, List.set_cons_succ, i64_w, i32_w]; rfl) : wpAnyLast P md ops Q S ds (fuel + 1) l a w :=
 take_ l' hi hN (take_ofW hT hB hc) hQ (Or.inl ⟨hw, hv⟩) hS ha h
end
section
variable {w W0 W w2 : World} {g gb : Nat} {o : Obj}
theorem bU (B : Aside0 (W0.heap[g]? = some o)) (h : W0.heap[g]? = some o → W.heap[g]? = some o := by intro h_; (with_reducible repeat (first | refine blk_drewN ?_ _ | refine blk_drew ?_ | refine blk_alloc ?_ _)); exact h_) : W.heap[g]? = some o := h B.out
theorem lU (H : Aside0 (Below w.heap.size w W0)) (h : Below w.heap.size w W0 → Below w.heap.size w W := by intro h_; repeat (first | (with_reducible first | exact h_ | apply below_alloc | apply pw_below_drewN | apply below_drew1 | refine below_set ?_ (Aside0.out (by with_reducible assumption))) | exact h_)) : Below w.heap.size w W := h H.out
theorem sB (B : Aside0 (W0.heap[g]? = some o)) (hb : Below W.heap.size W w2) (h : W0.heap[g]? = some o → W.heap[g]? = some o := by intro h_; (with_reducible repeat (first | refine blk_drewN ?_ _ | refine blk_drew ?_ | refine blk_alloc ?_ _)); exact h_) : Aside0 (w2.heap[g]? = some o) := ⟨blk_below (h B.out) hb⟩
theorem sL (H : Aside0 (Below w.heap.size w W0)) (hb : Below W.heap.size W w2) (h : Below w.heap.size w W0 → Below w.heap.size w W := by intro h_; repeat (first | (with_reducible first | exact h_ | apply below_alloc | apply pw_below_drewN | apply below_drew1 | refine below_set ?_ (Aside0.out (by with_reducible assumption))) | exact h_)) : Aside0 (Below w.heap.size w w2) := ⟨below_step (h H.out) hb⟩
theorem sG (H : Aside0 (Below w.heap.size w W0)) (hg : gb = W.heap.size) (h : Below w.heap.size w W0 → Below w.heap.size w W := by intro h_; repeat (first | (with_reducible first | exact h_ | apply below_alloc | apply pw_below_drewN | apply below_drew1 | refine below_set ?_ (Aside0.out (by with_reducible assumption))) | exact h_)) : Aside0 (w.heap.size ≤ gb) := ⟨by rw [hg]; exact below_size (h H.out)⟩
theorem sN (B : Aside0 (W0.heap[g]? = some o)) (hg : gb = W.heap.size) (h : W0.heap[g]? = some o → W.heap[g]? = some o := by intro h_; (with_reducible repeat (first | refine blk_drewN ?_ _ | refine blk_drew ?_ | refine blk_alloc ?_ _)); exact h_) : Aside0 (g ≠ gb) := ⟨by rw [hg]; exact Nat.ne_of_lt (blk_lt (h B.out))⟩
theorem sM (B : Aside0 (W0.heap[g]? = some o)) (hg : gb = W.heap.size) (h : W0.heap[g]? = some o → W.heap[g]? = some o := by intro h_; (with_reducible repeat (first | refine blk_drewN ?_ _ | refine blk_drew ?_ | refine blk_alloc ?_ _)); exact h_) : Aside0 (gb ≠ g) := ⟨by rw [hg]; exact Nat.ne_of_gt (blk_lt (h B.out))⟩
end
theorem rU {α : Type} {k : Kd α} {t : TypeId} {W0 W : World} {n : Nat} {ok : Nat → Prop} {v : Value} {l : List α} (H : k.R t W0 n ok v l) (h : k.R t W0 n ok v l → k.R t W n ok v l := by intro h_; (with_reducible repeat (first | apply Kd.R_alloc | apply Kd.R_drewN | apply Kd.R_drew)); exact h_) : k.R t W n ok v l := h H
section
variable {P : Program} {ops : Array Oper} {rest : List Oper} {o : Oper} {a : Act} {Q : Exit → Act → World → Prop}
theorem bX {W : World} {N : Tmp} {cs : Array Value} {t : TypeId}
  (h : ∀ g, g = W.heap.size → ∀ w1, w1.heap[g]? = some (.cells cs t (0, 0)) → Below W.heap.size W w1 → wpList P ops Q rest (a.put o.dst (.pointer (some ⟨g, 0, none⟩))) w1)
  (hd : o.dst = some N := by rfl) (hgd : o.guard = none := by rfl)
  (hrun : (execOp a.eval o).run P W = .ok (.value (.pointer (some ⟨W.heap.size, 0, none⟩))) (W.alloc (.cells cs t (0, 0))) := by first | (go_simp; done) | (go_simp; rfl)) : wpList P ops Q (o :: rest) a W := box_event hgd hd hrun h
end
section
variable {w : World} {g : Nat} {t : TypeId}
theorem q1 {c0 : Value} (B : Aside0 (w.heap[g]? = some (.cells #[c0] t (0, 0)))) : w.cell? ⟨g, 0, none⟩ = some c0 := (blk_cell B.out 0).trans rfl
theorem z1 {cs : Array Value} (B : Aside0 (w.heap[g]? = some (.cells cs t (0, 0)))) : w.frozen? ⟨g, 0, none⟩ = false := blk_frozen B.out 0
theorem q2 {c0 c1 : Value} (B : Aside0 (w.heap[g]? = some (.cells #[c0, c1] t (0, 0)))) : w.cell? ⟨g, 0, none⟩ = some c0 ∧ w.cell? ⟨g, 1, none⟩ = some c1 := ⟨(blk_cell B.out 0).trans rfl, (blk_cell B.out 1).trans rfl⟩
theorem z2 {cs : Array Value} (B : Aside0 (w.heap[g]? = some (.cells cs t (0, 0)))) : w.frozen? ⟨g, 0, none⟩ = false ∧ w.frozen? ⟨g, 1, none⟩ = false := ⟨blk_frozen B.out 0, blk_frozen B.out 1⟩
theorem q3 {c0 c1 c2 : Value} (B : Aside0 (w.heap[g]? = some (.cells #[c0, c1, c2] t (0, 0)))) : w.cell? ⟨g, 0, none⟩ = some c0 ∧ w.cell? ⟨g, 1, none⟩ = some c1 ∧ w.cell? ⟨g, 2, none⟩ = some c2 := ⟨(blk_cell B.out 0).trans rfl, (blk_cell B.out 1).trans rfl, (blk_cell B.out 2).trans rfl⟩
theorem z3 {cs : Array Value} (B : Aside0 (w.heap[g]? = some (.cells cs t (0, 0)))) : w.frozen? ⟨g, 0, none⟩ = false ∧ w.frozen? ⟨g, 1, none⟩ = false ∧ w.frozen? ⟨g, 2, none⟩ = false := ⟨blk_frozen B.out 0, blk_frozen B.out 1, blk_frozen B.out 2⟩
theorem q4 {c0 c1 c2 c3 : Value} (B : Aside0 (w.heap[g]? = some (.cells #[c0, c1, c2, c3] t (0, 0)))) : w.cell? ⟨g, 0, none⟩ = some c0 ∧ w.cell? ⟨g, 1, none⟩ = some c1 ∧ w.cell? ⟨g, 2, none⟩ = some c2 ∧ w.cell? ⟨g, 3, none⟩ = some c3 := ⟨(blk_cell B.out 0).trans rfl, (blk_cell B.out 1).trans rfl, (blk_cell B.out 2).trans rfl, (blk_cell B.out 3).trans rfl⟩
theorem z4 {cs : Array Value} (B : Aside0 (w.heap[g]? = some (.cells cs t (0, 0)))) : w.frozen? ⟨g, 0, none⟩ = false ∧ w.frozen? ⟨g, 1, none⟩ = false ∧ w.frozen? ⟨g, 2, none⟩ = false ∧ w.frozen? ⟨g, 3, none⟩ = false := ⟨blk_frozen B.out 0, blk_frozen B.out 1, blk_frozen B.out 2, blk_frozen B.out 3⟩
theorem q5 {c0 c1 c2 c3 c4 : Value} (B : Aside0 (w.heap[g]? = some (.cells #[c0, c1, c2, c3, c4] t (0, 0)))) : w.cell? ⟨g, 0, none⟩ = some c0 ∧ w.cell? ⟨g, 1, none⟩ = some c1 ∧ w.cell? ⟨g, 2, none⟩ = some c2 ∧ w.cell? ⟨g, 3, none⟩ = some c3 ∧ w.cell? ⟨g, 4, none⟩ = some c4 := ⟨(blk_cell B.out 0).trans rfl, (blk_cell B.out 1).trans rfl, (blk_cell B.out 2).trans rfl, (blk_cell B.out 3).trans rfl, (blk_cell B.out 4).trans rfl⟩
theorem z5 {cs : Array Value} (B : Aside0 (w.heap[g]? = some (.cells cs t (0, 0)))) : w.frozen? ⟨g, 0, none⟩ = false ∧ w.frozen? ⟨g, 1, none⟩ = false ∧ w.frozen? ⟨g, 2, none⟩ = false ∧ w.frozen? ⟨g, 3, none⟩ = false ∧ w.frozen? ⟨g, 4, none⟩ = false := ⟨blk_frozen B.out 0, blk_frozen B.out 1, blk_frozen B.out 2, blk_frozen B.out 3, blk_frozen B.out 4⟩
theorem z9 {cs : Array Value} (B : Aside0 (w.heap[g]? = some (.cells cs t (0, 0)))) : w.frozen? ⟨g, 0, none⟩ = false ∧ w.frozen? ⟨g, 1, none⟩ = false ∧ w.frozen? ⟨g, 2, none⟩ = false ∧ w.frozen? ⟨g, 3, none⟩ = false ∧ w.frozen? ⟨g, 4, none⟩ = false ∧ w.frozen? ⟨g, 5, none⟩ = false ∧ w.frozen? ⟨g, 6, none⟩ = false ∧ w.frozen? ⟨g, 7, none⟩ = false ∧ w.frozen? ⟨g, 8, none⟩ = false := ⟨blk_frozen B.out 0, blk_frozen B.out 1, blk_frozen B.out 2, blk_frozen B.out 3, blk_frozen B.out 4, blk_frozen B.out 5, blk_frozen B.out 6, blk_frozen B.out 7, blk_frozen B.out 8⟩
theorem q10 {c0 c1 c2 c3 c4 c5 c6 c7 c8 c9 : Value} (B : Aside0 (w.heap[g]? = some (.cells #[c0, c1, c2, c3, c4, c5, c6, c7, c8, c9] t (0, 0)))) : w.cell? ⟨g, 0, none⟩ = some c0 ∧ w.cell? ⟨g, 1, none⟩ = some c1 ∧ w.cell? ⟨g, 2, none⟩ = some c2 ∧ w.cell? ⟨g, 3, none⟩ = some c3 ∧ w.cell? ⟨g, 4, none⟩ = some c4 ∧ w.cell? ⟨g, 5, none⟩ = some c5 ∧ w.cell? ⟨g, 6, none⟩ = some c6 ∧ w.cell? ⟨g, 7, none⟩ = some c7 ∧ w.cell? ⟨g, 8, none⟩ = some c8 ∧ w.cell? ⟨g, 9, none⟩ = some c9 := ⟨(blk_cell B.out 0).trans rfl, (blk_cell B.out 1).trans rfl, (blk_cell B.out 2).trans rfl, (blk_cell B.out 3).trans rfl, (blk_cell B.out 4).trans rfl, (blk_cell B.out 5).trans rfl, (blk_cell B.out 6).trans rfl, (blk_cell B.out 7).trans rfl, (blk_cell B.out 8).trans rfl, (blk_cell B.out 9).trans rfl⟩
theorem z10 {cs : Array Value} (B : Aside0 (w.heap[g]? = some (.cells cs t (0, 0)))) : w.frozen? ⟨g, 0, none⟩ = false ∧ w.frozen? ⟨g, 1, none⟩ = false ∧ w.frozen? ⟨g, 2, none⟩ = false ∧ w.frozen? ⟨g, 3, none⟩ = false ∧ w.frozen? ⟨g, 4, none⟩ = false ∧ w.frozen? ⟨g, 5, none⟩ = false ∧ w.frozen? ⟨g, 6, none⟩ = false ∧ w.frozen? ⟨g, 7, none⟩ = false ∧ w.frozen? ⟨g, 8, none⟩ = false ∧ w.frozen? ⟨g, 9, none⟩ = false := ⟨blk_frozen B.out 0, blk_frozen B.out 1, blk_frozen B.out 2, blk_frozen B.out 3, blk_frozen B.out 4, blk_frozen B.out 5, blk_frozen B.out 6, blk_frozen B.out 7, blk_frozen B.out 8, blk_frozen B.out 9⟩
theorem q13 {c0 c1 c2 c3 c4 c5 c6 c7 c8 c9 c10 c11 c12 : Value} (B : Aside0 (w.heap[g]? = some (.cells #[c0, c1, c2, c3, c4, c5, c6, c7, c8, c9, c10, c11, c12] t (0, 0)))) : w.cell? ⟨g, 0, none⟩ = some c0 ∧ w.cell? ⟨g, 1, none⟩ = some c1 ∧ w.cell? ⟨g, 2, none⟩ = some c2 ∧ w.cell? ⟨g, 3, none⟩ = some c3 ∧ w.cell? ⟨g, 4, none⟩ = some c4 ∧ w.cell? ⟨g, 5, none⟩ = some c5 ∧ w.cell? ⟨g, 6, none⟩ = some c6 ∧ w.cell? ⟨g, 7, none⟩ = some c7 ∧ w.cell? ⟨g, 8, none⟩ = some c8 ∧ w.cell? ⟨g, 9, none⟩ = some c9 ∧ w.cell? ⟨g, 10, none⟩ = some c10 ∧ w.cell? ⟨g, 11, none⟩ = some c11 ∧ w.cell? ⟨g, 12, none⟩ = some c12 := ⟨(blk_cell B.out 0).trans rfl, (blk_cell B.out 1).trans rfl, (blk_cell B.out 2).trans rfl, (blk_cell B.out 3).trans rfl, (blk_cell B.out 4).trans rfl, (blk_cell B.out 5).trans rfl, (blk_cell B.out 6).trans rfl, (blk_cell B.out 7).trans rfl, (blk_cell B.out 8).trans rfl, (blk_cell B.out 9).trans rfl, (blk_cell B.out 10).trans rfl, (blk_cell B.out 11).trans rfl, (blk_cell B.out 12).trans rfl⟩
theorem z13 {cs : Array Value} (B : Aside0 (w.heap[g]? = some (.cells cs t (0, 0)))) : w.frozen? ⟨g, 0, none⟩ = false ∧ w.frozen? ⟨g, 1, none⟩ = false ∧ w.frozen? ⟨g, 2, none⟩ = false ∧ w.frozen? ⟨g, 3, none⟩ = false ∧ w.frozen? ⟨g, 4, none⟩ = false ∧ w.frozen? ⟨g, 5, none⟩ = false ∧ w.frozen? ⟨g, 6, none⟩ = false ∧ w.frozen? ⟨g, 7, none⟩ = false ∧ w.frozen? ⟨g, 8, none⟩ = false ∧ w.frozen? ⟨g, 9, none⟩ = false ∧ w.frozen? ⟨g, 10, none⟩ = false ∧ w.frozen? ⟨g, 11, none⟩ = false ∧ w.frozen? ⟨g, 12, none⟩ = false := ⟨blk_frozen B.out 0, blk_frozen B.out 1, blk_frozen B.out 2, blk_frozen B.out 3, blk_frozen B.out 4, blk_frozen B.out 5, blk_frozen B.out 6, blk_frozen B.out 7, blk_frozen B.out 8, blk_frozen B.out 9, blk_frozen B.out 10, blk_frozen B.out 11, blk_frozen B.out 12⟩
end
def ma (n b : Nat) : Array Bool := ((List.range n).map (Nat.testBit b)).toArray
theorem bO {α β : Type} {x : Option α} {f : α → Option β} {r : β} (h : x.bind f = some r) : ∃ t, Aside0 (x = some t) ∧ f t = some r := by
 obtain ⟨t, h1, h2⟩ := Option.bind_eq_some_iff.mp h
 exact ⟨t, ⟨h1⟩, h2⟩
section
variable {P : Program} {ops : Array Oper} {Q : Exit → Act → World → Prop} {md : Region.Mode} {S : World → Prop} {ds : List Nat}
theorem gO {oi : Oper} {N : Option Tmp} {a : Act} {w : World} {K : Act → World → Prop} {f : FuncId} {fn : Func} {as : Array Operand} {ts : Array TypeId} (hf : P.funcs[f]? = some fn) (args : Array Value)
  (hN : oi.dst = N) (hop : oi.op = .call { callee := .value (.func f), args := as, argTypes := ts })
  (h : Calls P f args w fun e w' => ∃ v, e = .returned v ∧ K (a.put N v) w') (hname : (fn.name == "runtime.NumGoroutine") = false := by kernel_rfl) (hb : fn.body.isSome = true := by rfl) (hw : Region.wanted oi (yielded ops a.tmps) = true := by rfl)
  (hargs : as.map a.eval = args := by (try simp only [List.map_toArray, List.map_cons, List.map_nil]); first | done | rfl | (simp only [List.length_drop, List.length_take]; rfl)) :
  if Region.wanted oi (yielded ops a.tmps) = true then Oper.wp P oi a w K Q else K (a.put N undef) w := goes_ hf hname hb args hw hN hop hargs h
theorem gL {rest : List Oper} {oi : Oper} {a : Act} {w : World} (N : Option Tmp) (hd : oi.dst = N) (hg : oi.guard = none) {f : FuncId} {fn : Func} {as : Array Operand} {ts : Array TypeId} (hf : P.funcs[f]? = some fn) (args : Array Value)
  (hop : oi.op = .call { callee := .value (.func f), args := as, argTypes := ts })
  (h : Calls P f args w fun e w' => ∃ v, e = .returned v ∧ wpList P ops Q rest (a.put N v) w') (hname : (fn.name == "runtime.NumGoroutine") = false := by kernel_rfl) (hb : fn.body.isSome = true := by rfl)
  (hargs : as.map a.eval = args := by (try simp only [List.map_toArray, List.map_cons, List.map_nil]); first | done | rfl | (simp only [List.length_drop, List.length_take]; rfl)) : wpList P ops Q (oi :: rest) a w := goesL_ N hd hg hf hname hb args hop hargs h
theorem bY {o : Oper} {a : Act} {Kc : Act → World → Prop} {W : World} {N : Tmp} {cs : Array Value} {t : TypeId}
  (h : ∀ g, g = W.heap.size → ∀ w1, w1.heap[g]? = some (.cells cs t (0, 0)) → Below W.heap.size W w1 → Kc (a.put o.dst (.pointer (some ⟨g, 0, none⟩))) w1)
  (hd : o.dst = some N := by rfl) (hw : Region.wanted o (yielded ops a.tmps) = true := by rfl)
  (hrun : (execOp a.eval o).run P W = .ok (.value (.pointer (some ⟨W.heap.size, 0, none⟩))) (W.alloc (.cells cs t (0, 0))) := by first | (go_simp; done) | (go_simp; rfl)) :
  if Region.wanted o (yielded ops a.tmps) = true then Oper.wp P o a W Kc Q else Kc (a.put o.dst undef) W := box_step hw hd hrun h
theorem nP {fuel : Nat} {l : Array Bool} {a a' : Act} {v : Value} {w : World} (N : Option Tmp) (h : wpAnyLast P md ops Q S ds fuel l a' w)
  (ha : a.put N v = a' := by simp only [Act.put, List.setIfInBounds_toArray, List.set_cons_zero, List.set_cons_succ, i64_w, i32_w]; rfl) : wpAnyLast P md ops Q S ds fuel l (a.put N v) w := norm_ ha h
end
section
variable {α β : Type} {k : Kd α} {k' : Kd β} {t t' : TypeId} {W0 W w1 : World} {n : Nat} {ok ok' : Nat → Prop} {u v : Value} {l : List α} {ys : List β} {A : Option Addr} {m c : Nat}
theorem rE (H : Aside0 (k.R t W0 n ok u l)) (hv : k'.R t' w1 W.heap.size ok' v ys) (hb : Below W.heap.size W w1) (h : k.R t W0 n ok u l → k.R t W n ok u l := by intro h_; (with_reducible repeat (first | apply Kd.R_alloc | apply Kd.R_drewN | apply Kd.R_drew)); exact h_) :
  Aside0 (k.R t w1 n (fun k => ok k ∧ some k ≠ v.ownBlock) u l) := ⟨Kd.R_elder' (h H.out) (Kd.R_base hv) hb⟩
theorem rB (H : Aside0 (k.R t W0 n ok u l)) (hb : Below W.heap.size W w1) (h : k.R t W0 n ok u l → k.R t W n ok u l := by intro h_; (with_reducible repeat (first | apply Kd.R_alloc | apply Kd.R_drewN | apply Kd.R_drew)); exact h_) :
  Aside0 (k.R t w1 n ok u l) := ⟨Kd.R_below (h H.out) hb⟩
theorem rC (H : Aside0 (k.R t W0 n ok (.slice A m c) l)) : k.C W0 A l.length l := (Kd.R_reads' H.out).2.2
theorem rN (H : Aside0 (k.R t W0 n ok (.slice A m c) l)) : m ≤ c := (Kd.R_reads' H.out).2.1
theorem cU (H : k.C W0 A m l) (h : k.C W0 A m l → k.C W A m l := by intro h_; (with_reducible repeat (first | refine Kd.C_alloc ?_ _ | refine Kd.C_drewN ?_ _ | refine Kd.C_drew ?_)); exact h_) : k.C W A m l := h H
theorem cB {w W : World} {a : Addr} {x : Value} (H : Aside0 (Below w.heap.size w W)) (h : w.cell? a = some x) : W.cell? a = some x := (H.out.cell (World.block_lt_of_cell? w _ h)).trans h
end
theorem bF {W0 W : World} {g : Nat} {o : Obj} (B : Aside0 (W0.heap[g]? = some o)) (h : W0.heap[g]? = some o → W.heap[g]? = some o := by intro h_; repeat (first | (with_reducible first | exact h_ | refine blk_drewN ?_ _ | refine blk_drew ?_ | refine blk_alloc ?_ _) | refine blk_far ?_ (Aside0.out (by with_reducible assumption)) _)) : W.heap[g]? = some o := h B.out
theorem eR {α : Type} {a b : α} (h : a = b := by first | rfl | (simp; done) | (simp [*]; done)) : a = b := h
theorem eW {α : Type} {a b : α} (h : a = b := by first | rfl | (simp [errW_none, errW_some] <;> rfl) | (simp [*, errW_none, errW_some] <;> rfl)) : a = b := h
end Go.Proofs.Ytnaalaakhdbfbaa.XP
