/- The contract of radix.side. -/
import Derived.Test.YtkbgdbhmdpnaoaaRBase
import Derived.Test.YtkbgdbhmdpnaoaaRTree
import Derived.Test.YtkbgdbhmdpnaoaaProg
namespace Go.Proofs.Ytkbgdbhmdpnaoaa
open Go.RowKit
theorem side_any (k : Nat) (b : Nat) (_hk : k < 18446744073709551616) (hb : b < 64) (s : Nat) (hs : sd k b = s) (w : World) :
    Calls Try.prog 47 #[.int .u64 k, .int .i64 b] w fun e w' => e = .returned (.int .i64 s) ∧ w = w' := by
  have H := Lib.hid hs; clear hs
  have h2 : 0 < 2 ^ b := Nat.pos_of_ne_zero (by simp)
  go_enter Try.func47, Try.ntmps47
  go_wp2
  go_ret
  refine ⟨ret_int ?_, rfl⟩
  have e : ((k : Int) / 2 ^ b) = ((k / 2 ^ b : Nat) : Int) := by simp
  have := H.out
  unfold sd at this
  rw [e, bits_and1, this]
  unfold wrap64
  omega
end Go.Proofs.Ytkbgdbhmdpnaoaa
