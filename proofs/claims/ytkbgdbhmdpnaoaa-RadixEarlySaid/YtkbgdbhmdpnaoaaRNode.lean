/- Contracts of radix.node[int]'s methods. -/
import Derived.Test.YtkbgdbhmdpnaoaaRBase
import Derived.Test.YtkbgdbhmdpnaoaaRTree
import Derived.Test.YtkbgdbhmdpnaoaaRSide
import Derived.Deep.RegionWith
namespace Go.Proofs.Ytkbgdbhmdpnaoaa
open Go.RowKit
namespace RI
/-- The heap holds a trie at p, in blocks that are ok. -/
def IsT (ok : Nat → Prop) (w : World) : Option Addr → Tr Int → Prop
  | p, .leaf k v => ∃ b, p = some ⟨b, 0, none⟩ ∧ ok b ∧ Blk w b 71 #[.int .u64 k, .int .i64 v, .int .i64 (-1), .pointer none, .pointer none]
  | p, .br i l r => ∃ (b : Nat) (kk : Int) (v : Int) (pl pr : Option Addr), p = some ⟨b, 0, none⟩ ∧ ok b ∧ Blk w b 71 #[.int .u64 kk, .int .i64 v, .int .i64 i, .pointer pl, .pointer pr] ∧ IsT ok w pl l ∧ IsT ok w pr r
theorem IsT.below {ok : Nat → Prop} {w w' : World} (hb : Below w.heap.size w w') : ∀ {p : Option Addr} {t : Tr Int}, IsT ok w p t → IsT ok w' p t
  | _, .leaf _ _, ⟨b, hp, ho, h⟩ => ⟨b, hp, ho, h.keep hb⟩
  | _, .br _ _ _, ⟨b, kk, vv, pl, pr, hp, ho, h, hl, hr⟩ => ⟨b, kk, vv, pl, pr, hp, ho, h.keep hb, hl.below hb, hr.below hb⟩
theorem IsT.belowN {n₀ : Nat} {w w' : World} (hb : Below n₀ w w') : ∀ {p : Option Addr} {t : Tr Int}, IsT (· < n₀) w p t → IsT (· < n₀) w' p t
  | _, .leaf _ _, ⟨b, hp, ho, h⟩ => ⟨b, hp, ho, h.below hb ho⟩
  | _, .br _ _ _, ⟨b, kk, vv, pl, pr, hp, ho, h, hl, hr⟩ => ⟨b, kk, vv, pl, pr, hp, ho, h.below hb ho, hl.belowN hb, hr.belowN hb⟩
theorem IsT.keepT {ok : Nat → Prop} {w w' : World} (hk : ∀ b cs, Blk w b 71 cs → Blk w' b 71 cs) : ∀ {p : Option Addr} {t : Tr Int}, IsT ok w p t → IsT ok w' p t
  | _, .leaf _ _, ⟨b, hp, ho, h⟩ => ⟨b, hp, ho, hk _ _ h⟩
  | _, .br _ _ _, ⟨b, kk, vv, pl, pr, hp, ho, h, hl, hr⟩ => ⟨b, kk, vv, pl, pr, hp, ho, hk _ _ h, hl.keepT hk, hr.keepT hk⟩
theorem IsT.mono {ok ok' : Nat → Prop} {w : World} (hk : ∀ b, b < w.heap.size → ok b → ok' b) : ∀ {p : Option Addr} {t : Tr Int}, IsT ok w p t → IsT ok' w p t
  | _, .leaf _ _, ⟨b, hp, ho, h⟩ => ⟨b, hp, hk b h.lt ho, h⟩
  | _, .br _ _ _, ⟨b, kk, vv, pl, pr, hp, ho, h, hl, hr⟩ => ⟨b, kk, vv, pl, pr, hp, hk b h.lt ho, h, hl.mono hk, hr.mono hk⟩
theorem IsT.far {ok : Nat → Prop} {w : World} {q : Addr} (u : Value) (hn : ¬ ok q.block) : ∀ {p : Option Addr} {t : Tr Int}, IsT ok w p t → IsT ok (w.setCell q u) p t
  | _, .leaf _ _, ⟨b, hp, ho, h⟩ => ⟨b, hp, ho, h.far (by rintro rfl; exact hn ho) u⟩
  | _, .br _ _ _, ⟨b, kk, vv, pl, pr, hp, ho, h, hl, hr⟩ => ⟨b, kk, vv, pl, pr, hp, ho, h.far (by rintro rfl; exact hn ho) u, hl.far u hn, hr.far u hn⟩
theorem IsT.drewN {ok : Nat → Prop} {w : World} {p : Option Addr} {t : Tr Int} (h : IsT ok w p t) (n : Nat) : IsT ok (w.drewN n) p t := h.below (below_drewN (Below.refl _ _) n)

set_option maxHeartbeats 400000 in
theorem leaf_any (t : Tr Int) (ht : t.Inv) (k : Nat) (hk : k < 18446744073709551616) (p : Option Addr) (w : World) (ok : Nat → Prop) (hT : IsT ok w p t) :
    Calls Try.prog 34 #[.pointer p, .int .u64 k] w fun e w' => ∃ q, e = .returned (.pointer q) ∧ IsT ok w' q (.leaf (t.find k).1 (t.find k).2) ∧ Below w.heap.size w w' := by
  go_enter Try.func34, Try.ntmps34
  go_wp2
  go_loopg [0] (t.ht) (fun n v wr => ∃ p' t', v = .pointer p' ∧ t'.Inv ∧ IsT ok wr p' t' ∧ t'.find k = t.find k ∧ t'.ht = n ∧ Below w.heap.size w wr)
  case atStart => exact ⟨p, t, rfl, ht, hT, rfl, rfl, Below.refl _ _⟩
  case round =>
    obtain ⟨p', t', rfl, hwf, hT', hfind, hht, hB⟩ := hrel
    have A : Aside (t'.find k = t.find k ∧ t'.ht = gk) := ⟨hfind, hht⟩
    clear hfind hht
    cases t' with
    | leaf k1 v1 =>
      obtain ⟨b, rfl, ho, hb⟩ := hT'
      have c2 := hb.cell 2
      simp at c2
      go_wp2
      go_ret
      refine ⟨_, rfl, ?_, hB⟩
      obtain ⟨h1, h2⟩ := A.out
      exact ⟨b, rfl, ho, by rw [← h1]; exact hb⟩
    | br i l r =>
      obtain ⟨b, kk, vv, pl, pr, rfl, ho, hb, hl, hr⟩ := hT'
      obtain ⟨hi, hwl, hwr, _⟩ := hwf
      have c2 := hb.cell 2
      have c3 := hb.cell 3
      have c4 := hb.cell 4
      simp at c2 c3 c4
      rcases sd_01 k i with hs | hs
      · have hside := fun w => side_any k i hk hi 0 hs w
        have H := Lib.hid hs; clear hs
        go_wp2
        go_quiet ((go_at_call 47; exact quiet_left (hside _)))
        go_wp2
        go_roundg l.ht
        case measure => have := A.out.2; simp [Tr.ht] at this; omega
        case rel => exact ⟨pl, l, rfl, hwl, hl.drewN _, by rw [← A.out.1]; simp [Tr.find, H.out], rfl, below_drewN hB _⟩
      · have hside := fun w => side_any k i hk hi 1 hs w
        have H := Lib.hid hs; clear hs
        go_wp2
        go_quiet ((go_at_call 47; exact quiet_left (hside _)))
        go_wp2
        go_roundg r.ht
        case measure => have := A.out.2; simp [Tr.ht] at this; omega
        case rel => exact ⟨pr, r, rfl, hwr, hr.drewN _, by rw [← A.out.1]; simp [Tr.find, H.out], rfl, below_drewN hB _⟩

set_option maxHeartbeats 400000 in
theorem low_any (t : Tr Int) (p : Option Addr) (w : World) (ok : Nat → Prop) (hT : IsT ok w p t) :
    Calls Try.prog 48 #[.pointer p] w fun e w' => e = .returned (.int .u64 t.low) ∧ Below w.heap.size w w' := by
  go_enter Try.func48, Try.ntmps48
  go_wp2
  go_loopg [0] (t.ht) (fun n v wr => ∃ p' t', v = .pointer p' ∧ IsT ok wr p' t' ∧ t'.low = t.low ∧ t'.ht = n ∧ Below w.heap.size w wr)
  case atStart => exact ⟨p, t, rfl, hT, rfl, rfl, Below.refl _ _⟩
  case round =>
    obtain ⟨p', t', rfl, hT', hfind, hht, hB⟩ := hrel
    have A : Aside (t'.low = t.low ∧ t'.ht = gk) := ⟨hfind, hht⟩
    clear hfind hht
    cases t' with
    | leaf k1 v1 =>
      obtain ⟨b, rfl, ho, hb⟩ := hT'
      have c0 := hb.cell 0
      have c2 := hb.cell 2
      simp at c0 c2
      go_wp2
      go_ret
      exact ⟨by rw [← A.out.1]; rfl, hB⟩
    | br i l r =>
      obtain ⟨b, kk, vv, pl, pr, rfl, ho, hb, hl, hr⟩ := hT'
      have c2 := hb.cell 2
      have c3 := hb.cell 3
      simp at c2 c3
      go_wp2
      go_roundg l.ht
      case measure => have := A.out.2; simp [Tr.ht] at this; omega
      case rel => exact ⟨pl, l, rfl, hl, A.out.1, rfl, hB⟩

end RI
end Go.Proofs.Ytkbgdbhmdpnaoaa
namespace Go.Proofs.Ytkbgdbhmdpnaoaa
open Go.RowKit
namespace RS
/-- The heap holds a trie at p, in blocks that are ok. -/
def IsT (ok : Nat → Prop) (w : World) : Option Addr → Tr ByteArray → Prop
  | p, .leaf k v => ∃ b, p = some ⟨b, 0, none⟩ ∧ ok b ∧ Blk w b 80 #[.int .u64 k, .string v, .int .i64 (-1), .pointer none, .pointer none]
  | p, .br i l r => ∃ (b : Nat) (kk : Int) (v : ByteArray) (pl pr : Option Addr), p = some ⟨b, 0, none⟩ ∧ ok b ∧ Blk w b 80 #[.int .u64 kk, .string v, .int .i64 i, .pointer pl, .pointer pr] ∧ IsT ok w pl l ∧ IsT ok w pr r
theorem IsT.below {ok : Nat → Prop} {w w' : World} (hb : Below w.heap.size w w') : ∀ {p : Option Addr} {t : Tr ByteArray}, IsT ok w p t → IsT ok w' p t
  | _, .leaf _ _, ⟨b, hp, ho, h⟩ => ⟨b, hp, ho, h.keep hb⟩
  | _, .br _ _ _, ⟨b, kk, vv, pl, pr, hp, ho, h, hl, hr⟩ => ⟨b, kk, vv, pl, pr, hp, ho, h.keep hb, hl.below hb, hr.below hb⟩
theorem IsT.belowN {n₀ : Nat} {w w' : World} (hb : Below n₀ w w') : ∀ {p : Option Addr} {t : Tr ByteArray}, IsT (· < n₀) w p t → IsT (· < n₀) w' p t
  | _, .leaf _ _, ⟨b, hp, ho, h⟩ => ⟨b, hp, ho, h.below hb ho⟩
  | _, .br _ _ _, ⟨b, kk, vv, pl, pr, hp, ho, h, hl, hr⟩ => ⟨b, kk, vv, pl, pr, hp, ho, h.below hb ho, hl.belowN hb, hr.belowN hb⟩
theorem IsT.keepT {ok : Nat → Prop} {w w' : World} (hk : ∀ b cs, Blk w b 80 cs → Blk w' b 80 cs) : ∀ {p : Option Addr} {t : Tr ByteArray}, IsT ok w p t → IsT ok w' p t
  | _, .leaf _ _, ⟨b, hp, ho, h⟩ => ⟨b, hp, ho, hk _ _ h⟩
  | _, .br _ _ _, ⟨b, kk, vv, pl, pr, hp, ho, h, hl, hr⟩ => ⟨b, kk, vv, pl, pr, hp, ho, hk _ _ h, hl.keepT hk, hr.keepT hk⟩
theorem IsT.mono {ok ok' : Nat → Prop} {w : World} (hk : ∀ b, b < w.heap.size → ok b → ok' b) : ∀ {p : Option Addr} {t : Tr ByteArray}, IsT ok w p t → IsT ok' w p t
  | _, .leaf _ _, ⟨b, hp, ho, h⟩ => ⟨b, hp, hk b h.lt ho, h⟩
  | _, .br _ _ _, ⟨b, kk, vv, pl, pr, hp, ho, h, hl, hr⟩ => ⟨b, kk, vv, pl, pr, hp, hk b h.lt ho, h, hl.mono hk, hr.mono hk⟩
theorem IsT.far {ok : Nat → Prop} {w : World} {q : Addr} (u : Value) (hn : ¬ ok q.block) : ∀ {p : Option Addr} {t : Tr ByteArray}, IsT ok w p t → IsT ok (w.setCell q u) p t
  | _, .leaf _ _, ⟨b, hp, ho, h⟩ => ⟨b, hp, ho, h.far (by rintro rfl; exact hn ho) u⟩
  | _, .br _ _ _, ⟨b, kk, vv, pl, pr, hp, ho, h, hl, hr⟩ => ⟨b, kk, vv, pl, pr, hp, ho, h.far (by rintro rfl; exact hn ho) u, hl.far u hn, hr.far u hn⟩
theorem IsT.drewN {ok : Nat → Prop} {w : World} {p : Option Addr} {t : Tr ByteArray} (h : IsT ok w p t) (n : Nat) : IsT ok (w.drewN n) p t := h.below (below_drewN (Below.refl _ _) n)

set_option maxHeartbeats 400000 in
theorem leaf_any (t : Tr ByteArray) (ht : t.Inv) (k : Nat) (hk : k < 18446744073709551616) (p : Option Addr) (w : World) (ok : Nat → Prop) (hT : IsT ok w p t) :
    Calls Try.prog 42 #[.pointer p, .int .u64 k] w fun e w' => ∃ q, e = .returned (.pointer q) ∧ IsT ok w' q (.leaf (t.find k).1 (t.find k).2) ∧ Below w.heap.size w w' := by
  go_enter Try.func42, Try.ntmps42
  go_wp2
  go_loopg [0] (t.ht) (fun n v wr => ∃ p' t', v = .pointer p' ∧ t'.Inv ∧ IsT ok wr p' t' ∧ t'.find k = t.find k ∧ t'.ht = n ∧ Below w.heap.size w wr)
  case atStart => exact ⟨p, t, rfl, ht, hT, rfl, rfl, Below.refl _ _⟩
  case round =>
    obtain ⟨p', t', rfl, hwf, hT', hfind, hht, hB⟩ := hrel
    have A : Aside (t'.find k = t.find k ∧ t'.ht = gk) := ⟨hfind, hht⟩
    clear hfind hht
    cases t' with
    | leaf k1 v1 =>
      obtain ⟨b, rfl, ho, hb⟩ := hT'
      have c2 := hb.cell 2
      simp at c2
      go_wp2
      go_ret
      refine ⟨_, rfl, ?_, hB⟩
      obtain ⟨h1, h2⟩ := A.out
      exact ⟨b, rfl, ho, by rw [← h1]; exact hb⟩
    | br i l r =>
      obtain ⟨b, kk, vv, pl, pr, rfl, ho, hb, hl, hr⟩ := hT'
      obtain ⟨hi, hwl, hwr, _⟩ := hwf
      have c2 := hb.cell 2
      have c3 := hb.cell 3
      have c4 := hb.cell 4
      simp at c2 c3 c4
      rcases sd_01 k i with hs | hs
      · have hside := fun w => side_any k i hk hi 0 hs w
        have H := Lib.hid hs; clear hs
        go_wp2
        go_quiet ((go_at_call 47; exact quiet_left (hside _)))
        go_wp2
        go_roundg l.ht
        case measure => have := A.out.2; simp [Tr.ht] at this; omega
        case rel => exact ⟨pl, l, rfl, hwl, hl.drewN _, by rw [← A.out.1]; simp [Tr.find, H.out], rfl, below_drewN hB _⟩
      · have hside := fun w => side_any k i hk hi 1 hs w
        have H := Lib.hid hs; clear hs
        go_wp2
        go_quiet ((go_at_call 47; exact quiet_left (hside _)))
        go_wp2
        go_roundg r.ht
        case measure => have := A.out.2; simp [Tr.ht] at this; omega
        case rel => exact ⟨pr, r, rfl, hwr, hr.drewN _, by rw [← A.out.1]; simp [Tr.find, H.out], rfl, below_drewN hB _⟩

set_option maxHeartbeats 400000 in
theorem low_any (t : Tr ByteArray) (p : Option Addr) (w : World) (ok : Nat → Prop) (hT : IsT ok w p t) :
    Calls Try.prog 51 #[.pointer p] w fun e w' => e = .returned (.int .u64 t.low) ∧ Below w.heap.size w w' := by
  go_enter Try.func51, Try.ntmps51
  go_wp2
  go_loopg [0] (t.ht) (fun n v wr => ∃ p' t', v = .pointer p' ∧ IsT ok wr p' t' ∧ t'.low = t.low ∧ t'.ht = n ∧ Below w.heap.size w wr)
  case atStart => exact ⟨p, t, rfl, hT, rfl, rfl, Below.refl _ _⟩
  case round =>
    obtain ⟨p', t', rfl, hT', hfind, hht, hB⟩ := hrel
    have A : Aside (t'.low = t.low ∧ t'.ht = gk) := ⟨hfind, hht⟩
    clear hfind hht
    cases t' with
    | leaf k1 v1 =>
      obtain ⟨b, rfl, ho, hb⟩ := hT'
      have c0 := hb.cell 0
      have c2 := hb.cell 2
      simp at c0 c2
      go_wp2
      go_ret
      exact ⟨by rw [← A.out.1]; rfl, hB⟩
    | br i l r =>
      obtain ⟨b, kk, vv, pl, pr, rfl, ho, hb, hl, hr⟩ := hT'
      have c2 := hb.cell 2
      have c3 := hb.cell 3
      simp at c2 c3
      go_wp2
      go_roundg l.ht
      case measure => have := A.out.2; simp [Tr.ht] at this; omega
      case rel => exact ⟨pl, l, rfl, hl, A.out.1, rfl, hB⟩

end RS
end Go.Proofs.Ytkbgdbhmdpnaoaa
