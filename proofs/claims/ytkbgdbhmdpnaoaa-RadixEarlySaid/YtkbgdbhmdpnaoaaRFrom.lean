/- Contracts of radix.node[int].from, and of Map's From, All. -/
import Derived.Test.YtkbgdbhmdpnaoaaRMap
import Derived.Test.YtkbgdbhmdpnaoaaRTail
import Derived.RangeFuncNested
import Derived.RangeFuncBound
import Derived.RangeFuncCalls
import Derived.RangeFuncLeaves
import Derived.Shelf.Abstract
import Derived.OwnWalkIn
import Derived.TacticsInMore
import Derived.LoopNIn
import Derived.LoopIn
import Derived.Sort.QuietIn
import Derived.BigGuardPartIn
namespace Go.Proofs.Ytkbgdbhmdpnaoaa
open Go.RowKit Go.Shelf
attribute [local go_sem] Oper.semAt_some
namespace RI
def encs (x : Nat × Int) : Array Value := let v := x.2; #[.int .u64 x.1, .int .i64 v]
theorem low_in (n : Nat) (t : Tr Int) (p : Option Addr) (w : World) (ok : Nat → Prop) (hT : IsT ok w p t) :
    CallsIn Fence.wide n Try.prog 48 #[.pointer p] w fun e w' => e = .returned (.int .u64 t.low) ∧ Below w.heap.size w w' := callsIn_wide.2 (low_any t p w ok hT)
set_option maxRecDepth 100000 in
set_option maxHeartbeats 2000000 in
theorem from_in (l n₀ N : Nat) (J Jx : List (Nat × Int) → World → Prop) (hJd : ∀ s W W', J s W → Below W.heap.size W W' → J s W')
    (hY : ∀ m pre x W, J pre W → pre.length < N → YieldAt Fence.wide m Try.prog l (encs x) W fun e W' =>
      (e = .returned (.bool true) ∧ J (pre ++ [x]) W' ∧ Below n₀ W W') ∨ (e = .returned (.bool false) ∧ Jx (pre ++ [x]) W')) (k : Nat) (_hk : k < 18446744073709551616) (t : Tr Int) :
    ∀ (n : Nat) (p : Option Addr) (pre : List (Nat × Int)) (W : World), t.Inv → n₀ ≤ W.heap.size → IsT (· < n₀) W p t → J pre W → pre.length + (rfrom t.toList k).length ≤ N →
      CallsIn Fence.wide n Try.prog 36 #[.pointer p, .int .u64 k, .func (.yield l) #[] #[]] W fun e W' =>
        (e = .returned (.bool true) ∧ J (pre ++ rfrom t.toList k) W' ∧ Below n₀ W W') ∨ (e = .returned (.bool false) ∧ ∃ q, q <+: rfrom t.toList k ∧ Jx (pre ++ q) W') := by
  induction t with
  | leaf k1 v =>
    intro n p pre W hI hn₀ hT hJ hN
    obtain ⟨b, rfl, ho, hb⟩ := hT
    have c0 := hb.cell 0
    have c1 := hb.cell 1
    have c2 := hb.cell 2
    simp at c0 c1 c2
    by_cases hlt : k1 < k
    · have he : rfrom (Tr.leaf k1 v).toList k = [] := by simp [rfrom, Tr.toList]; omega
      rw [he]
      have hlt' : decide ((k1 : Int) < (k : Int)) = true := by simp; omega
      clear he hN
      refine callsIn_wide.2 ?_
      go_enter Try.func36, Try.ntmps36
      go_wp2
      go_quiet (fail)
      go_wp2
      go_ret
      exact .inl ⟨rfl, by simpa using hJd _ _ _ hJ (below_drewN (Below.refl _ _) _), below_drewN (Below.refl _ _) _⟩
    · have he : rfrom (Tr.leaf k1 v).toList k = [(k1, v)] := by simp [rfrom, Tr.toList]; omega
      rw [he] at hN ⊢
      have hlt' : decide ((k1 : Int) < (k : Int)) = false := by simp; omega
      have hy := fun W' hJ' => hY (n - 1) pre (k1, v) W' hJ' (by simp at hN; omega)
      clear he hN hY
      refine callsIn_of_wp Try.func36 rfl trivial ?_ rfl
      simp only [Try.ntmps36, List.size_toArray, List.length_cons, List.length_nil, Nat.reduceAdd, Nat.reduceSub, Array.replicate_succ, Array.replicate_zero, List.push_toArray, List.append_toArray, List.nil_append, List.cons_append]
      obtain ⟨fn, tmps, assign, body, hyy, hR⟩ := hy W.drew (hJd _ _ _ hJ (below_drew (Below.refl _ _)))
      dsimp only [encs] at hyy
      gi_wp2
      refine wpIn_region_still_tail 16 (by kernel_rfl) (by kernel_rfl) ?_
      simp only [List.take_succ_cons, List.take_zero, List.drop_succ_cons, List.drop_zero]
      repeat still_step
      refine wpStill_nil ?_
      gi_wp2
      refine ⟨wd, hR.mono ?_⟩
      rintro e W2 (⟨rfl, hJ2, hb2⟩ | ⟨rfl, hx2⟩)
      · gi_wp2
        go_ret
        exact .inl ⟨rfl, hJ2, (below_drew (Below.refl _ _)).trans hb2⟩
      · gi_wp2
        go_ret
        exact .inr ⟨rfl, [(k1, v)], List.prefix_refl _, hx2⟩
  | br i tl tr ihl ihr =>
    intro n p pre W hI hn₀ hT hJ hN
    obtain ⟨b, kk, vv, pl, pr, rfl, ho, hb, hl, hr⟩ := hT
    have hI' := hI
    obtain ⟨hi, htl, htr, _⟩ := hI'
    have c2 := hb.cell 2
    have c3 := hb.cell 3
    have c4 := hb.cell 4
    simp at c2 c3 c4
    have hlt := hb.lt
    have hlow := low_in (n - 1) tr pr W _ hr
    by_cases hk1 : tr.low ≤ k
    · have he := Tr.from_skip hI hk1
      rw [he] at hN ⊢
      have hk1' : decide ((tr.low : Int) ≤ (k : Int)) = true := by simp; omega
      have hcall := fun W1 hn hT1 hJ1 => ihr (n - 1) pr pre W1 htr hn hT1 hJ1 hN
      clear ihl ihr he hN hY
      refine callsIn_of_wp Try.func36 rfl trivial ?_ rfl
      simp only [Try.ntmps36, List.size_toArray, List.length_cons, List.length_nil, Nat.reduceAdd, Nat.reduceSub, Array.replicate_succ, Array.replicate_zero, List.push_toArray, List.append_toArray, List.nil_append, List.cons_append]
      gi_wp2_with fail
      refine ⟨trivial, wd, hlow.mono ?_⟩
      rintro e W1 ⟨rfl, hB1⟩
      have hB1' : Below n₀ W W1 := hB1.mono hn₀
      have hb1 := hb.keep hB1
      have d3 := hb1.cell 3
      have d4 := hb1.cell 4
      simp at d3 d4
      have hc1 := hcall W1 (Nat.le_trans hn₀ hB1.size) (hr.below hB1) (hJd _ _ _ hJ hB1)
      clear hcall
      gi_wp2_with fail
      refine ⟨trivial, ?_⟩
      gi_wp2_with fail
      refine ⟨trivial, wd, hc1.mono ?_⟩
      rintro e W2 (⟨rfl, hJ2, hb2⟩ | ⟨rfl, q, hq, hx2⟩)
      · gi_wp2
        go_ret
        exact .inl ⟨rfl, hJ2, hB1'.trans hb2⟩
      · gi_wp2
        go_ret
        exact .inr ⟨rfl, q, hq, hx2⟩
    · have he : rfrom (Tr.br i tl tr).toList k = rfrom tl.toList k ++ rfrom tr.toList k := by simp [rfrom, Tr.toList]
      rw [he] at hN ⊢
      rw [List.length_append] at hN
      have hk1' : decide ((tr.low : Int) ≤ (k : Int)) = false := by simp; omega
      have hcl := fun W1 hn hT1 hJ1 => ihl (n - 1) pl pre W1 htl hn hT1 hJ1 (by omega)
      have hcr := fun W1 hn hT1 hJ1 => ihr (n - 1) pr (pre ++ rfrom tl.toList k) W1 htr hn hT1 hJ1 (by rw [List.length_append]; omega)
      clear ihl ihr he hN hY
      refine callsIn_of_wp Try.func36 rfl trivial ?_ rfl
      simp only [Try.ntmps36, List.size_toArray, List.length_cons, List.length_nil, Nat.reduceAdd, Nat.reduceSub, Array.replicate_succ, Array.replicate_zero, List.push_toArray, List.append_toArray, List.nil_append, List.cons_append]
      gi_wp2_with fail
      refine ⟨trivial, wd, hlow.mono ?_⟩
      rintro e W1 ⟨rfl, hB1⟩
      have hB1' : Below n₀ W W1 := hB1.mono hn₀
      have hb1 := hb.keep hB1
      have d3 := hb1.cell 3
      have d4 := hb1.cell 4
      simp at d3 d4
      have hc1 := hcl W1 (Nat.le_trans hn₀ hB1.size) (hl.below hB1) (hJd _ _ _ hJ hB1)
      clear hcl
      gi_wp2_with fail
      refine ⟨trivial, wd, hc1.mono ?_⟩
      rintro e W2 (⟨rfl, hJ2, hb2⟩ | ⟨rfl, q, hq, hx2⟩)
      · have hbb : Blk W2 b 71 _ := hb1.below hb2 ho
        have f3 := hbb.cell 3
        have f4 := hbb.cell 4
        simp at f3 f4
        have hc2 := hcr W2 (Nat.le_trans (Nat.le_trans hn₀ hB1.size) hb2.size) ((hr.below hB1).belowN hb2) hJ2
        clear hcr hc1
        gi_wp2_with fail
        refine ⟨trivial, wd, hc2.mono ?_⟩
        rintro e W3 (⟨rfl, hJ3, hb3⟩ | ⟨rfl, q, hq, hx3⟩)
        · gi_wp2
          go_ret
          exact .inl ⟨rfl, by rw [← List.append_assoc]; exact hJ3, (hB1'.trans hb2).trans hb3⟩
        · gi_wp2
          go_ret
          exact .inr ⟨rfl, rfrom tl.toList k ++ q, (List.prefix_append_right_inj _).2 hq, by rw [← List.append_assoc]; exact hx3⟩
      · gi_wp2_with fail
        refine ⟨trivial, ?_⟩
        gi_wp2
        go_ret
        exact .inr ⟨rfl, q, hq.trans (List.prefix_append _ _), hx2⟩
end RI
end Go.Proofs.Ytkbgdbhmdpnaoaa
namespace Go.Proofs.Ytkbgdbhmdpnaoaa
open Go.RowKit Go.Shelf
attribute [local go_sem] Oper.semAt_some
namespace RS
def encs (x : Nat × ByteArray) : Array Value := let v := x.2; #[.int .u64 x.1, .string v]
theorem low_in (n : Nat) (t : Tr ByteArray) (p : Option Addr) (w : World) (ok : Nat → Prop) (hT : IsT ok w p t) :
    CallsIn Fence.wide n Try.prog 51 #[.pointer p] w fun e w' => e = .returned (.int .u64 t.low) ∧ Below w.heap.size w w' := callsIn_wide.2 (low_any t p w ok hT)
set_option maxRecDepth 100000 in
set_option maxHeartbeats 2000000 in
theorem from_in (l n₀ N : Nat) (J Jx : List (Nat × ByteArray) → World → Prop) (hJd : ∀ s W W', J s W → Below W.heap.size W W' → J s W')
    (hY : ∀ m pre x W, J pre W → pre.length < N → YieldAt Fence.wide m Try.prog l (encs x) W fun e W' =>
      (e = .returned (.bool true) ∧ J (pre ++ [x]) W' ∧ Below n₀ W W') ∨ (e = .returned (.bool false) ∧ Jx (pre ++ [x]) W')) (k : Nat) (_hk : k < 18446744073709551616) (t : Tr ByteArray) :
    ∀ (n : Nat) (p : Option Addr) (pre : List (Nat × ByteArray)) (W : World), t.Inv → n₀ ≤ W.heap.size → IsT (· < n₀) W p t → J pre W → pre.length + (rfrom t.toList k).length ≤ N →
      CallsIn Fence.wide n Try.prog 50 #[.pointer p, .int .u64 k, .func (.yield l) #[] #[]] W fun e W' =>
        (e = .returned (.bool true) ∧ J (pre ++ rfrom t.toList k) W' ∧ Below n₀ W W') ∨ (e = .returned (.bool false) ∧ ∃ q, q <+: rfrom t.toList k ∧ Jx (pre ++ q) W') := by
  induction t with
  | leaf k1 v =>
    intro n p pre W hI hn₀ hT hJ hN
    obtain ⟨b, rfl, ho, hb⟩ := hT
    have c0 := hb.cell 0
    have c1 := hb.cell 1
    have c2 := hb.cell 2
    simp at c0 c1 c2
    by_cases hlt : k1 < k
    · have he : rfrom (Tr.leaf k1 v).toList k = [] := by simp [rfrom, Tr.toList]; omega
      rw [he]
      have hlt' : decide ((k1 : Int) < (k : Int)) = true := by simp; omega
      clear he hN
      refine callsIn_wide.2 ?_
      go_enter Try.func50, Try.ntmps50
      go_wp2
      go_quiet (fail)
      go_wp2
      go_ret
      exact .inl ⟨rfl, by simpa using hJd _ _ _ hJ (below_drewN (Below.refl _ _) _), below_drewN (Below.refl _ _) _⟩
    · have he : rfrom (Tr.leaf k1 v).toList k = [(k1, v)] := by simp [rfrom, Tr.toList]; omega
      rw [he] at hN ⊢
      have hlt' : decide ((k1 : Int) < (k : Int)) = false := by simp; omega
      have hy := fun W' hJ' => hY (n - 1) pre (k1, v) W' hJ' (by simp at hN; omega)
      clear he hN hY
      refine callsIn_of_wp Try.func50 rfl trivial ?_ rfl
      simp only [Try.ntmps50, List.size_toArray, List.length_cons, List.length_nil, Nat.reduceAdd, Nat.reduceSub, Array.replicate_succ, Array.replicate_zero, List.push_toArray, List.append_toArray, List.nil_append, List.cons_append]
      obtain ⟨fn, tmps, assign, body, hyy, hR⟩ := hy W.drew (hJd _ _ _ hJ (below_drew (Below.refl _ _)))
      dsimp only [encs] at hyy
      gi_wp2
      refine wpIn_region_still_tail 16 (by kernel_rfl) (by kernel_rfl) ?_
      simp only [List.take_succ_cons, List.take_zero, List.drop_succ_cons, List.drop_zero]
      repeat still_step
      refine wpStill_nil ?_
      gi_wp2
      refine ⟨wd, hR.mono ?_⟩
      rintro e W2 (⟨rfl, hJ2, hb2⟩ | ⟨rfl, hx2⟩)
      · gi_wp2
        go_ret
        exact .inl ⟨rfl, hJ2, (below_drew (Below.refl _ _)).trans hb2⟩
      · gi_wp2
        go_ret
        exact .inr ⟨rfl, [(k1, v)], List.prefix_refl _, hx2⟩
  | br i tl tr ihl ihr =>
    intro n p pre W hI hn₀ hT hJ hN
    obtain ⟨b, kk, vv, pl, pr, rfl, ho, hb, hl, hr⟩ := hT
    have hI' := hI
    obtain ⟨hi, htl, htr, _⟩ := hI'
    have c2 := hb.cell 2
    have c3 := hb.cell 3
    have c4 := hb.cell 4
    simp at c2 c3 c4
    have hlt := hb.lt
    have hlow := low_in (n - 1) tr pr W _ hr
    by_cases hk1 : tr.low ≤ k
    · have he := Tr.from_skip hI hk1
      rw [he] at hN ⊢
      have hk1' : decide ((tr.low : Int) ≤ (k : Int)) = true := by simp; omega
      have hcall := fun W1 hn hT1 hJ1 => ihr (n - 1) pr pre W1 htr hn hT1 hJ1 hN
      clear ihl ihr he hN hY
      refine callsIn_of_wp Try.func50 rfl trivial ?_ rfl
      simp only [Try.ntmps50, List.size_toArray, List.length_cons, List.length_nil, Nat.reduceAdd, Nat.reduceSub, Array.replicate_succ, Array.replicate_zero, List.push_toArray, List.append_toArray, List.nil_append, List.cons_append]
      gi_wp2_with fail
      refine ⟨trivial, wd, hlow.mono ?_⟩
      rintro e W1 ⟨rfl, hB1⟩
      have hB1' : Below n₀ W W1 := hB1.mono hn₀
      have hb1 := hb.keep hB1
      have d3 := hb1.cell 3
      have d4 := hb1.cell 4
      simp at d3 d4
      have hc1 := hcall W1 (Nat.le_trans hn₀ hB1.size) (hr.below hB1) (hJd _ _ _ hJ hB1)
      clear hcall
      gi_wp2_with fail
      refine ⟨trivial, ?_⟩
      gi_wp2_with fail
      refine ⟨trivial, wd, hc1.mono ?_⟩
      rintro e W2 (⟨rfl, hJ2, hb2⟩ | ⟨rfl, q, hq, hx2⟩)
      · gi_wp2
        go_ret
        exact .inl ⟨rfl, hJ2, hB1'.trans hb2⟩
      · gi_wp2
        go_ret
        exact .inr ⟨rfl, q, hq, hx2⟩
    · have he : rfrom (Tr.br i tl tr).toList k = rfrom tl.toList k ++ rfrom tr.toList k := by simp [rfrom, Tr.toList]
      rw [he] at hN ⊢
      rw [List.length_append] at hN
      have hk1' : decide ((tr.low : Int) ≤ (k : Int)) = false := by simp; omega
      have hcl := fun W1 hn hT1 hJ1 => ihl (n - 1) pl pre W1 htl hn hT1 hJ1 (by omega)
      have hcr := fun W1 hn hT1 hJ1 => ihr (n - 1) pr (pre ++ rfrom tl.toList k) W1 htr hn hT1 hJ1 (by rw [List.length_append]; omega)
      clear ihl ihr he hN hY
      refine callsIn_of_wp Try.func50 rfl trivial ?_ rfl
      simp only [Try.ntmps50, List.size_toArray, List.length_cons, List.length_nil, Nat.reduceAdd, Nat.reduceSub, Array.replicate_succ, Array.replicate_zero, List.push_toArray, List.append_toArray, List.nil_append, List.cons_append]
      gi_wp2_with fail
      refine ⟨trivial, wd, hlow.mono ?_⟩
      rintro e W1 ⟨rfl, hB1⟩
      have hB1' : Below n₀ W W1 := hB1.mono hn₀
      have hb1 := hb.keep hB1
      have d3 := hb1.cell 3
      have d4 := hb1.cell 4
      simp at d3 d4
      have hc1 := hcl W1 (Nat.le_trans hn₀ hB1.size) (hl.below hB1) (hJd _ _ _ hJ hB1)
      clear hcl
      gi_wp2_with fail
      refine ⟨trivial, wd, hc1.mono ?_⟩
      rintro e W2 (⟨rfl, hJ2, hb2⟩ | ⟨rfl, q, hq, hx2⟩)
      · have hbb : Blk W2 b 80 _ := hb1.below hb2 ho
        have f3 := hbb.cell 3
        have f4 := hbb.cell 4
        simp at f3 f4
        have hc2 := hcr W2 (Nat.le_trans (Nat.le_trans hn₀ hB1.size) hb2.size) ((hr.below hB1).belowN hb2) hJ2
        clear hcr hc1
        gi_wp2_with fail
        refine ⟨trivial, wd, hc2.mono ?_⟩
        rintro e W3 (⟨rfl, hJ3, hb3⟩ | ⟨rfl, q, hq, hx3⟩)
        · gi_wp2
          go_ret
          exact .inl ⟨rfl, by rw [← List.append_assoc]; exact hJ3, (hB1'.trans hb2).trans hb3⟩
        · gi_wp2
          go_ret
          exact .inr ⟨rfl, rfrom tl.toList k ++ q, (List.prefix_append_right_inj _).2 hq, by rw [← List.append_assoc]; exact hx3⟩
      · gi_wp2_with fail
        refine ⟨trivial, ?_⟩
        gi_wp2
        go_ret
        exact .inr ⟨rfl, q, hq.trans (List.prefix_append _ _), hx2⟩
end RS
end Go.Proofs.Ytkbgdbhmdpnaoaa
