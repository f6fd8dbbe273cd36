/- Contracts of radix.Map[int]'s From and All: what they hand back tells the pairs, rising. -/
import Derived.Test.YtkbgdbhmdpnaoaaRFrom
namespace Go.Proofs.Ytkbgdbhmdpnaoaa
open Go.RowKit Go.Shelf
attribute [local go_sem] Oper.semAt_some
namespace RI
/-- v is the iterator over what lies at p, from k on. -/
def IterAt (w : World) (v : Value) (B : Nat) (p : Option Addr) (n : Int) (k : Nat) : Prop :=
  v = .func (.func 35) #[] #[.pointer (some ⟨B, 0, none⟩), .pointer (some ⟨B + 1, 0, none⟩)] ∧ Blk w B 27 #[.pointer p, .int .i64 n] ∧ Blk w (B + 1) 23 #[.int .u64 k]
theorem IterAt.keep {w w' : World} {v : Value} {B : Nat} {p : Option Addr} {n : Int} {k : Nat} (h : IterAt w v B p n k) (hb : Below w.heap.size w w') : IterAt w' v B p n k := ⟨h.1, h.2.1.keep hb, h.2.2.keep hb⟩
theorem mapFrom_any (p : Option Addr) (n : Int) (k : Nat) (w : World) :
    Calls Try.prog 18 #[.agg #[.pointer p, .int .i64 n], .int .u64 k] w fun e w' => ∃ v B, e = .returned v ∧ IterAt w' v B p n k ∧ Below w.heap.size w w' := by
  go_enter Try.func18, Try.ntmps18
  go_wp2
  go_ret
  have h := Blk.new (w.alloc (.cells #[.pointer p, .int .i64 n] 27)) 23 #[.int .u64 k]
  rw [World.size_alloc] at h
  exact ⟨_, w.heap.size, rfl, ⟨rfl, (Blk.new w _ _).alloc _, h⟩, (below_new w _).alloc (by simp) _⟩
theorem mapAll_any (p : Option Addr) (n : Int) (w : World) :
    Calls Try.prog 24 #[.agg #[.pointer p, .int .i64 n]] w fun e w' => ∃ v B, e = .returned v ∧ IterAt w' v B p n 0 ∧ Below w.heap.size w w' := by
  have hc := mapFrom_any p n 0 (w.alloc (.cells #[.pointer p, .int .i64 n] 27))
  go_enter Try.func24, Try.ntmps24
  go_wp2_with fail
  refine hc.mono ?_
  rintro e w1 ⟨v, B, rfl, hv, hB⟩
  go_wp2
  go_ret
  exact ⟨_, B, rfl, hv, (below_new w _).trans (hB.mono (by simp))⟩
set_option maxHeartbeats 1000000 in
theorem from1_in (n l n₀ N B : Nat) (p : Option Addr) (m : Int) (k : Nat) (hk : k < 18446744073709551616) (xs : List (Nat × Int)) (J Jx : List (Nat × Int) → World → Prop) (hJd : ∀ s W W', J s W → Below W.heap.size W W' → J s W')
    (hY : ∀ m pre x W, J pre W → pre.length < N → YieldAt Fence.wide m Try.prog l (encs x) W fun e W' =>
      (e = .returned (.bool true) ∧ J (pre ++ [x]) W' ∧ Below n₀ W W') ∨ (e = .returned (.bool false) ∧ Jx (pre ++ [x]) W'))
    (W : World) (hB : Blk W B 27 #[.pointer p, .int .i64 m]) (hB1 : Blk W (B + 1) 23 #[.int .u64 k]) (hn₀ : n₀ ≤ W.heap.size) (hM : HasM (· < n₀) W p xs) (hN : (rfrom xs k).length ≤ N) (h0 : J [] W) :
    CallsIn Fence.wide n Try.prog 35 #[.func (.yield l) #[] #[], .pointer (some ⟨B, 0, none⟩), .pointer (some ⟨B + 1, 0, none⟩)] W fun e W' => (∃ v, e = .returned v) ∧
      ((∃ ys, ys = rfrom xs k ∧ J ys W') ∨ (∃ pre, pre <+: rfrom xs k ∧ Jx pre W')) := by
  have c0 := hB.cell 0
  have c1 := hB1.cell 0
  simp at c0 c1
  rcases hM with ⟨rfl, rfl⟩ | ⟨t, hT, hI, rfl⟩
  · refine callsIn_wide.2 ?_
    go_enter Try.func35, Try.ntmps35
    go_wp2
    go_end0
    exact ⟨⟨_, rfl⟩, .inl ⟨_, rfl, h0⟩⟩
  · obtain ⟨b, rfl⟩ := hT.some_
    have hp := from_in l n₀ N J Jx hJd hY k hk t (n - 1) (some ⟨b, 0, none⟩) [] W hI hn₀ hT h0 (by simpa using hN)
    clear hY hN
    refine callsIn_of_wp Try.func35 rfl trivial ?_ rfl
    simp only [Try.ntmps35, List.size_toArray, List.length_cons, List.length_nil, Nat.reduceAdd, Nat.reduceSub, Array.replicate_succ, Array.replicate_zero, List.push_toArray, List.append_toArray, List.nil_append, List.cons_append]
    gi_wp2_with fail
    refine ⟨trivial, wd, hp.mono ?_⟩
    rintro e W1 (⟨rfl, hJ1, _⟩ | ⟨rfl, q, hq, hx⟩)
    · gi_wp2
      go_end0
      exact ⟨⟨_, rfl⟩, .inl ⟨_, rfl, hJ1⟩⟩
    · gi_wp2
      go_end0
      exact ⟨⟨_, rfl⟩, .inr ⟨q, hq, hx⟩⟩
theorem IterAt.stops (n n₀ : Nat) {w : World} {v : Value} {B : Nat} {p : Option Addr} {m : Int} {k : Nat} (hk : k < 18446744073709551616) (h : IterAt w v B p m k) (xs : List (Nat × Int)) (hn₀ : n₀ ≤ w.heap.size) (hM : HasM (· < n₀) w p xs) :
    SeqStopsK Fence.wide n Try.prog 35 #[.pointer (some ⟨B, 0, none⟩), .pointer (some ⟨B + 1, 0, none⟩)] encs (Below n₀) (fun ys => ys = rfrom xs k) (fun pre => pre <+: rfrom xs k) (rfrom xs k).length w := by
  intro l J Jx W hW hJ _ hY h0
  refine from1_in n l n₀ _ B p m k hk xs J Jx (fun s W W' hs hb => hJ s W W' none hs ⟨hb.os, hb.tape, hb.output, hb.size, fun i hi _ => hb.block i hi⟩ (fun r e => by cases e)) ?_ W (h.2.1.keep hW) (h.2.2.keep hW) (Nat.le_trans hn₀ hW.size) (hM.below hW) (Nat.le_refl _) h0
  intro m pre x W' hJ' hl
  obtain ⟨fn, tmps, assign, body, hy, hR⟩ := hY pre x W' hJ' hl
  exact ⟨fn, tmps, assign, body, hy, hR.1, fun c cs _ => hR.2 c cs (room_wide _)⟩
end RI
end Go.Proofs.Ytkbgdbhmdpnaoaa
namespace Go.Proofs.Ytkbgdbhmdpnaoaa
open Go.RowKit Go.Shelf
attribute [local go_sem] Oper.semAt_some
namespace RS
/-- v is the iterator over what lies at p, from k on. -/
def IterAt (w : World) (v : Value) (B : Nat) (p : Option Addr) (n : Int) (k : Nat) : Prop :=
  v = .func (.func 49) #[] #[.pointer (some ⟨B, 0, none⟩), .pointer (some ⟨B + 1, 0, none⟩)] ∧ Blk w B 56 #[.pointer p, .int .i64 n] ∧ Blk w (B + 1) 23 #[.int .u64 k]
theorem IterAt.keep {w w' : World} {v : Value} {B : Nat} {p : Option Addr} {n : Int} {k : Nat} (h : IterAt w v B p n k) (hb : Below w.heap.size w w') : IterAt w' v B p n k := ⟨h.1, h.2.1.keep hb, h.2.2.keep hb⟩
theorem mapFrom_any (p : Option Addr) (n : Int) (k : Nat) (w : World) :
    Calls Try.prog 45 #[.agg #[.pointer p, .int .i64 n], .int .u64 k] w fun e w' => ∃ v B, e = .returned v ∧ IterAt w' v B p n k ∧ Below w.heap.size w w' := by
  go_enter Try.func45, Try.ntmps45
  go_wp2
  go_ret
  have h := Blk.new (w.alloc (.cells #[.pointer p, .int .i64 n] 56)) 23 #[.int .u64 k]
  rw [World.size_alloc] at h
  exact ⟨_, w.heap.size, rfl, ⟨rfl, (Blk.new w _ _).alloc _, h⟩, (below_new w _).alloc (by simp) _⟩
theorem mapAll_any (p : Option Addr) (n : Int) (w : World) :
    Calls Try.prog 29 #[.agg #[.pointer p, .int .i64 n]] w fun e w' => ∃ v B, e = .returned v ∧ IterAt w' v B p n 0 ∧ Below w.heap.size w w' := by
  have hc := mapFrom_any p n 0 (w.alloc (.cells #[.pointer p, .int .i64 n] 56))
  go_enter Try.func29, Try.ntmps29
  go_wp2_with fail
  refine hc.mono ?_
  rintro e w1 ⟨v, B, rfl, hv, hB⟩
  go_wp2
  go_ret
  exact ⟨_, B, rfl, hv, (below_new w _).trans (hB.mono (by simp))⟩
set_option maxHeartbeats 1000000 in
theorem from1_in (n l n₀ N B : Nat) (p : Option Addr) (m : Int) (k : Nat) (hk : k < 18446744073709551616) (xs : List (Nat × ByteArray)) (J Jx : List (Nat × ByteArray) → World → Prop) (hJd : ∀ s W W', J s W → Below W.heap.size W W' → J s W')
    (hY : ∀ m pre x W, J pre W → pre.length < N → YieldAt Fence.wide m Try.prog l (encs x) W fun e W' =>
      (e = .returned (.bool true) ∧ J (pre ++ [x]) W' ∧ Below n₀ W W') ∨ (e = .returned (.bool false) ∧ Jx (pre ++ [x]) W'))
    (W : World) (hB : Blk W B 56 #[.pointer p, .int .i64 m]) (hB1 : Blk W (B + 1) 23 #[.int .u64 k]) (hn₀ : n₀ ≤ W.heap.size) (hM : HasM (· < n₀) W p xs) (hN : (rfrom xs k).length ≤ N) (h0 : J [] W) :
    CallsIn Fence.wide n Try.prog 49 #[.func (.yield l) #[] #[], .pointer (some ⟨B, 0, none⟩), .pointer (some ⟨B + 1, 0, none⟩)] W fun e W' => (∃ v, e = .returned v) ∧
      ((∃ ys, ys = rfrom xs k ∧ J ys W') ∨ (∃ pre, pre <+: rfrom xs k ∧ Jx pre W')) := by
  have c0 := hB.cell 0
  have c1 := hB1.cell 0
  simp at c0 c1
  rcases hM with ⟨rfl, rfl⟩ | ⟨t, hT, hI, rfl⟩
  · refine callsIn_wide.2 ?_
    go_enter Try.func49, Try.ntmps49
    go_wp2
    go_end0
    exact ⟨⟨_, rfl⟩, .inl ⟨_, rfl, h0⟩⟩
  · obtain ⟨b, rfl⟩ := hT.some_
    have hp := from_in l n₀ N J Jx hJd hY k hk t (n - 1) (some ⟨b, 0, none⟩) [] W hI hn₀ hT h0 (by simpa using hN)
    clear hY hN
    refine callsIn_of_wp Try.func49 rfl trivial ?_ rfl
    simp only [Try.ntmps49, List.size_toArray, List.length_cons, List.length_nil, Nat.reduceAdd, Nat.reduceSub, Array.replicate_succ, Array.replicate_zero, List.push_toArray, List.append_toArray, List.nil_append, List.cons_append]
    gi_wp2_with fail
    refine ⟨trivial, wd, hp.mono ?_⟩
    rintro e W1 (⟨rfl, hJ1, _⟩ | ⟨rfl, q, hq, hx⟩)
    · gi_wp2
      go_end0
      exact ⟨⟨_, rfl⟩, .inl ⟨_, rfl, hJ1⟩⟩
    · gi_wp2
      go_end0
      exact ⟨⟨_, rfl⟩, .inr ⟨q, hq, hx⟩⟩
theorem IterAt.stops (n n₀ : Nat) {w : World} {v : Value} {B : Nat} {p : Option Addr} {m : Int} {k : Nat} (hk : k < 18446744073709551616) (h : IterAt w v B p m k) (xs : List (Nat × ByteArray)) (hn₀ : n₀ ≤ w.heap.size) (hM : HasM (· < n₀) w p xs) :
    SeqStopsK Fence.wide n Try.prog 49 #[.pointer (some ⟨B, 0, none⟩), .pointer (some ⟨B + 1, 0, none⟩)] encs (Below n₀) (fun ys => ys = rfrom xs k) (fun pre => pre <+: rfrom xs k) (rfrom xs k).length w := by
  intro l J Jx W hW hJ _ hY h0
  refine from1_in n l n₀ _ B p m k hk xs J Jx (fun s W W' hs hb => hJ s W W' none hs ⟨hb.os, hb.tape, hb.output, hb.size, fun i hi _ => hb.block i hi⟩ (fun r e => by cases e)) ?_ W (h.2.1.keep hW) (h.2.2.keep hW) (Nat.le_trans hn₀ hW.size) (hM.below hW) (Nat.le_refl _) h0
  intro m pre x W' hJ' hl
  obtain ⟨fn, tmps, assign, body, hy, hR⟩ := hY pre x W' hJ' hl
  exact ⟨fn, tmps, assign, body, hy, hR.1, fun c cs _ => hR.2 c cs (room_wide _)⟩
end RS
end Go.Proofs.Ytkbgdbhmdpnaoaa
