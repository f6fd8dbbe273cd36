/- Contracts of radix.node[int]'s methods: with. -/
import Derived.Test.YtkbgdbhmdpnaoaaRNode
namespace Go.Proofs.Ytkbgdbhmdpnaoaa
open Go.RowKit
namespace RI
set_option maxHeartbeats 800000 in
theorem with_fresh (k : Nat) (hk : k < 18446744073709551616) (v : Int) (n : Nat) (hn : n < 64) (t : Tr Int) (b : Nat) (w : World) (ok : Nat → Prop) (hT : IsT ok w (some ⟨b, 0, none⟩) t) (hlt : b < w.heap.size)
    (m : Int) (hm : m ≤ n) (c2 : w.cell? ⟨b, 2, none⟩ = some (.int .i64 m)) :
    Calls Try.prog 40 #[.pointer (some ⟨b, 0, none⟩), .int .u64 k, .int .i64 v, .int .i64 n] w fun e w' => ∃ q, e = .returned (.pointer q) ∧ IsT (fun b => ok b ∨ w.heap.size ≤ b) w' q (t.fresh k v n) ∧ Below w.heap.size w w' := by
  unfold Tr.fresh
  have hm1 : decide ((n : Int) < m) = false := by simp; omega
  rcases sd_01 k n with hs | hs
  · have hside := fun w => side_any k n hk (by omega) 0 hs w
    rw [if_neg (by omega)]
    clear hs
    by_cases hm0 : m < 0
    all_goals
      go_enter Try.func40, Try.ntmps40
      go_wp2
      go_region_with (go_at_call 47; refine (hside _).mono ?_; rintro e w' ⟨rfl, rfl⟩)
      go_wp2
      go_ret
      have hbb := below_drew ((below_new w (.cells #[.int .u64 k, .int .i64 v, .int .i64 (-1), .pointer none, .pointer none] 71)).alloc (by simp) (.cells #[.int .u64 0, .int .i64 0, .int .i64 n, .pointer (some ⟨w.heap.size, 0, none⟩), .pointer (some ⟨b, 0, none⟩)] 71))
      have hnb := (Blk.new (w.alloc (.cells #[.int .u64 k, .int .i64 v, .int .i64 (-1), .pointer none, .pointer none] 71)) 71 #[.int .u64 0, .int .i64 0, .int .i64 n, .pointer (some ⟨w.heap.size, 0, none⟩), .pointer (some ⟨b, 0, none⟩)]).drew
      rw [World.size_alloc] at hnb
      exact ⟨_, rfl, ⟨_, _, _, _, _, rfl, .inr (by omega), hnb, ⟨_, rfl, .inr (Nat.le_refl _), ((Blk.new w _ _).alloc _).drew⟩, (hT.mono fun _ _ h => .inl h).below hbb⟩, hbb⟩
  · have hside := fun w => side_any k n hk (by omega) 1 hs w
    rw [if_pos (by omega)]
    clear hs
    by_cases hm0 : m < 0
    all_goals
      go_enter Try.func40, Try.ntmps40
      go_wp2
      go_region_with (go_at_call 47; refine (hside _).mono ?_; rintro e w' ⟨rfl, rfl⟩)
      go_wp2
      go_ret
      have hbb := below_drew ((below_new w (.cells #[.int .u64 k, .int .i64 v, .int .i64 (-1), .pointer none, .pointer none] 71)).alloc (by simp) (.cells #[.int .u64 0, .int .i64 0, .int .i64 n, .pointer (some ⟨b, 0, none⟩), .pointer (some ⟨w.heap.size, 0, none⟩)] 71))
      have hnb := (Blk.new (w.alloc (.cells #[.int .u64 k, .int .i64 v, .int .i64 (-1), .pointer none, .pointer none] 71)) 71 #[.int .u64 0, .int .i64 0, .int .i64 n, .pointer (some ⟨b, 0, none⟩), .pointer (some ⟨w.heap.size, 0, none⟩)]).drew
      rw [World.size_alloc] at hnb
      exact ⟨_, rfl, ⟨_, _, _, _, _, rfl, .inr (by omega), hnb, (hT.mono fun _ _ h => .inl h).below hbb, ⟨_, rfl, .inr (Nat.le_refl _), ((Blk.new w _ _).alloc _).drew⟩⟩, hbb⟩

end RI
end Go.Proofs.Ytkbgdbhmdpnaoaa
namespace Go.Proofs.Ytkbgdbhmdpnaoaa
open Go.RowKit
namespace RS
set_option maxHeartbeats 800000 in
theorem with_fresh (k : Nat) (hk : k < 18446744073709551616) (v : ByteArray) (n : Nat) (hn : n < 64) (t : Tr ByteArray) (b : Nat) (w : World) (ok : Nat → Prop) (hT : IsT ok w (some ⟨b, 0, none⟩) t) (hlt : b < w.heap.size)
    (m : Int) (hm : m ≤ n) (c2 : w.cell? ⟨b, 2, none⟩ = some (.int .i64 m)) :
    Calls Try.prog 43 #[.pointer (some ⟨b, 0, none⟩), .int .u64 k, .string v, .int .i64 n] w fun e w' => ∃ q, e = .returned (.pointer q) ∧ IsT (fun b => ok b ∨ w.heap.size ≤ b) w' q (t.fresh k v n) ∧ Below w.heap.size w w' := by
  unfold Tr.fresh
  have hm1 : decide ((n : Int) < m) = false := by simp; omega
  rcases sd_01 k n with hs | hs
  · have hside := fun w => side_any k n hk (by omega) 0 hs w
    rw [if_neg (by omega)]
    clear hs
    by_cases hm0 : m < 0
    all_goals
      go_enter Try.func43, Try.ntmps43
      go_wp2
      go_region_with (go_at_call 47; refine (hside _).mono ?_; rintro e w' ⟨rfl, rfl⟩)
      go_wp2
      go_ret
      have hbb := below_drew ((below_new w (.cells #[.int .u64 k, .string v, .int .i64 (-1), .pointer none, .pointer none] 80)).alloc (by simp) (.cells #[.int .u64 0, .string ⟨#[]⟩, .int .i64 n, .pointer (some ⟨w.heap.size, 0, none⟩), .pointer (some ⟨b, 0, none⟩)] 80))
      have hnb := (Blk.new (w.alloc (.cells #[.int .u64 k, .string v, .int .i64 (-1), .pointer none, .pointer none] 80)) 80 #[.int .u64 0, .string ⟨#[]⟩, .int .i64 n, .pointer (some ⟨w.heap.size, 0, none⟩), .pointer (some ⟨b, 0, none⟩)]).drew
      rw [World.size_alloc] at hnb
      exact ⟨_, rfl, ⟨_, _, _, _, _, rfl, .inr (by omega), hnb, ⟨_, rfl, .inr (Nat.le_refl _), ((Blk.new w _ _).alloc _).drew⟩, (hT.mono fun _ _ h => .inl h).below hbb⟩, hbb⟩
  · have hside := fun w => side_any k n hk (by omega) 1 hs w
    rw [if_pos (by omega)]
    clear hs
    by_cases hm0 : m < 0
    all_goals
      go_enter Try.func43, Try.ntmps43
      go_wp2
      go_region_with (go_at_call 47; refine (hside _).mono ?_; rintro e w' ⟨rfl, rfl⟩)
      go_wp2
      go_ret
      have hbb := below_drew ((below_new w (.cells #[.int .u64 k, .string v, .int .i64 (-1), .pointer none, .pointer none] 80)).alloc (by simp) (.cells #[.int .u64 0, .string ⟨#[]⟩, .int .i64 n, .pointer (some ⟨b, 0, none⟩), .pointer (some ⟨w.heap.size, 0, none⟩)] 80))
      have hnb := (Blk.new (w.alloc (.cells #[.int .u64 k, .string v, .int .i64 (-1), .pointer none, .pointer none] 80)) 80 #[.int .u64 0, .string ⟨#[]⟩, .int .i64 n, .pointer (some ⟨b, 0, none⟩), .pointer (some ⟨w.heap.size, 0, none⟩)]).drew
      rw [World.size_alloc] at hnb
      exact ⟨_, rfl, ⟨_, _, _, _, _, rfl, .inr (by omega), hnb, (hT.mono fun _ _ h => .inl h).below hbb, ⟨_, rfl, .inr (Nat.le_refl _), ((Blk.new w _ _).alloc _).drew⟩⟩, hbb⟩

end RS
end Go.Proofs.Ytkbgdbhmdpnaoaa
