/- Map[int].Depth tells a fact of the pairs; contracts with numerals. -/
import Derived.Test.YtkbgdbhmdpnaoaaRNext
import Derived.Test.YtkbgdbhmdpnaoaaRDep
namespace Go.Proofs.Ytkbgdbhmdpnaoaa
open Go.RowKit
namespace RI
theorem depthM_eq (ok : Nat → Prop) (p : Option Addr) (n : Int) (l : List (Nat × Int)) (d : Int) (hd : d = depthOf l) (w : World) (hM : HasM ok w p l) :
    Calls Try.prog 20 #[.agg #[.pointer p, .int .i64 n]] w fun e w' => e = .returned (.int .i64 d) ∧ Below w.heap.size w w' := by
  refine (depthM_any ok p n l w hM).mono ?_
  rintro e w' ⟨d', rfl, (⟨rfl, rfl⟩ | ⟨t, hI, rfl, rfl⟩), hB⟩
  · exact ⟨by rw [hd]; rfl, hB⟩
  · exact ⟨by rw [hd, Tr.dep_eq hI], hB⟩
theorem put_num (kk : Int) (k : Nat) (hkk : kk = k) (hk : k < 18446744073709551616) (v : Int) (ok : Nat → Prop) (p : Option Addr) (l l' : List (Nat × Int)) (n n' : Int) (hn : n = l.length) (hl' : rput l k v = l') (hn' : n' = l'.length) (hl : l.length < 4611686018427387904) (w : World) (hM : HasM ok w p l) :
    Calls Try.prog 22 #[.agg #[.pointer p, .int .i64 n], .int .u64 kk, .int .i64 v] w fun e w' => ∃ q, e = .returned (.agg #[.pointer q, .int .i64 n']) ∧ HasM (fun b => ok b ∨ w.heap.size ≤ b) w' q l' ∧ Below w.heap.size w w' := by
  subst hkk hn hn' hl'
  exact put_any k hk v ok p l hl w hM
theorem drop_num (kk : Int) (k : Nat) (hkk : kk = k) (hk : k < 18446744073709551616) (ok : Nat → Prop) (p : Option Addr) (l l' : List (Nat × Int)) (n n' : Int) (hn : n = l.length) (hl' : rdrop l k = l') (hn' : n' = l'.length) (hl : l.length < 4611686018427387904) (w : World) (hM : HasM ok w p l) :
    Calls Try.prog 23 #[.agg #[.pointer p, .int .i64 n], .int .u64 kk] w fun e w' => ∃ q, e = .returned (.agg #[.pointer q, .int .i64 n']) ∧ HasM (fun b => ok b ∨ w.heap.size ≤ b) w' q l' ∧ Below w.heap.size w w' := by
  subst hkk hn hn' hl'
  exact drop_any k hk ok p l hl w hM
theorem next_num (kk : Int) (k : Nat) (hkk : kk = k) (hk : k < 18446744073709551616) (p : Option Addr) (m : Int) (xs : List (Nat × Int)) (r : Array Value) (hr : first (rfrom xs k) = r) (ok : Nat → Prop) (w : World) (hM : HasM ok w p xs) :
    Calls Try.prog 19 #[.agg #[.pointer p, .int .i64 m], .int .u64 kk] w fun e w' => e = .returned (.tuple r) ∧ Below w.heap.size w w' := by
  subst hkk hr
  exact next_any p m k hk xs w (hM.mono fun _ _ _ => trivial)
theorem get_num (kk : Int) (k : Nat) (hkk : kk = k) (hk : k < 18446744073709551616) (p : Option Addr) (m : Int) (xs : List (Nat × Int)) (r : Array Value) (hr : got (rget xs k) = r) (ok : Nat → Prop) (w : World) (hM : HasM ok w p xs) :
    Calls Try.prog 16 #[.agg #[.pointer p, .int .i64 m], .int .u64 kk] w fun e w' => e = .returned (.tuple r) ∧ Below w.heap.size w w' := by
  subst hkk hr
  exact get_any k hk ok p m xs w hM
end RI
end Go.Proofs.Ytkbgdbhmdpnaoaa
namespace Go.Proofs.Ytkbgdbhmdpnaoaa
open Go.RowKit
namespace RS
theorem depthM_eq (ok : Nat → Prop) (p : Option Addr) (n : Int) (l : List (Nat × ByteArray)) (d : Int) (hd : d = depthOf l) (w : World) (hM : HasM ok w p l) :
    Calls Try.prog 31 #[.agg #[.pointer p, .int .i64 n]] w fun e w' => e = .returned (.int .i64 d) ∧ Below w.heap.size w w' := by
  refine (depthM_any ok p n l w hM).mono ?_
  rintro e w' ⟨d', rfl, (⟨rfl, rfl⟩ | ⟨t, hI, rfl, rfl⟩), hB⟩
  · exact ⟨by rw [hd]; rfl, hB⟩
  · exact ⟨by rw [hd, Tr.dep_eq hI], hB⟩
theorem put_num (kk : Int) (k : Nat) (hkk : kk = k) (hk : k < 18446744073709551616) (v : ByteArray) (ok : Nat → Prop) (p : Option Addr) (l l' : List (Nat × ByteArray)) (n n' : Int) (hn : n = l.length) (hl' : rput l k v = l') (hn' : n' = l'.length) (hl : l.length < 4611686018427387904) (w : World) (hM : HasM ok w p l) :
    Calls Try.prog 25 #[.agg #[.pointer p, .int .i64 n], .int .u64 kk, .string v] w fun e w' => ∃ q, e = .returned (.agg #[.pointer q, .int .i64 n']) ∧ HasM (fun b => ok b ∨ w.heap.size ≤ b) w' q l' ∧ Below w.heap.size w w' := by
  subst hkk hn hn' hl'
  exact put_any k hk v ok p l hl w hM
theorem drop_num (kk : Int) (k : Nat) (hkk : kk = k) (hk : k < 18446744073709551616) (ok : Nat → Prop) (p : Option Addr) (l l' : List (Nat × ByteArray)) (n n' : Int) (hn : n = l.length) (hl' : rdrop l k = l') (hn' : n' = l'.length) (hl : l.length < 4611686018427387904) (w : World) (hM : HasM ok w p l) :
    Calls Try.prog 26 #[.agg #[.pointer p, .int .i64 n], .int .u64 kk] w fun e w' => ∃ q, e = .returned (.agg #[.pointer q, .int .i64 n']) ∧ HasM (fun b => ok b ∨ w.heap.size ≤ b) w' q l' ∧ Below w.heap.size w w' := by
  subst hkk hn hn' hl'
  exact drop_any k hk ok p l hl w hM
theorem next_num (kk : Int) (k : Nat) (hkk : kk = k) (hk : k < 18446744073709551616) (p : Option Addr) (m : Int) (xs : List (Nat × ByteArray)) (r : Array Value) (hr : first (rfrom xs k) = r) (ok : Nat → Prop) (w : World) (hM : HasM ok w p xs) :
    Calls Try.prog 27 #[.agg #[.pointer p, .int .i64 m], .int .u64 kk] w fun e w' => e = .returned (.tuple r) ∧ Below w.heap.size w w' := by
  subst hkk hr
  exact next_any p m k hk xs w (hM.mono fun _ _ _ => trivial)
theorem get_num (kk : Int) (k : Nat) (hkk : kk = k) (hk : k < 18446744073709551616) (p : Option Addr) (m : Int) (xs : List (Nat × ByteArray)) (r : Array Value) (hr : got (rget xs k) = r) (ok : Nat → Prop) (w : World) (hM : HasM ok w p xs) :
    Calls Try.prog 28 #[.agg #[.pointer p, .int .i64 m], .int .u64 kk] w fun e w' => e = .returned (.tuple r) ∧ Below w.heap.size w w' := by
  subst hkk hr
  exact get_any k hk ok p m xs w hM
end RS
end Go.Proofs.Ytkbgdbhmdpnaoaa
