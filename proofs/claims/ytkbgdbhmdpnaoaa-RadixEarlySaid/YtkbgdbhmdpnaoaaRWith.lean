/- Contracts of radix.node[int]'s methods: with. -/
import Derived.Test.YtkbgdbhmdpnaoaaRFresh
namespace Go.Proofs.Ytkbgdbhmdpnaoaa
open Go.RowKit
namespace RI
set_option maxHeartbeats 400000 in
theorem with_any (k : Nat) (hk : k < 18446744073709551616) (v : Int) (part : Int) (hp : part < 64) (hp1 : -1 ≤ part) (t : Tr Int) : ∀ (_ht : t.Inv) (p : Option Addr) (w : World) (ok : Nat → Prop) (_hT : IsT ok w p t),
    Calls Try.prog 40 #[.pointer p, .int .u64 k, .int .i64 v, .int .i64 part] w fun e w' => ∃ q, e = .returned (.pointer q) ∧ IsT (fun b => ok b ∨ w.heap.size ≤ b) w' q (t.ins k v part) ∧ Below w.heap.size w w' := by
  induction t with
  | leaf k1 v1 =>
    intro ht p w ok hT
    have hT' := hT
    obtain ⟨b, rfl, ho, hb⟩ := hT'
    have hlt := hb.lt
    have c2 := hb.cell 2
    simp at c2
    unfold Tr.ins
    by_cases h0 : part < 0
    · rw [if_pos h0]
      go_enter Try.func40, Try.ntmps40
      go_wp2
      go_ret
      exact ⟨_, rfl, ⟨_, rfl, .inr (Nat.le_refl _), Blk.new _ _ _⟩, below_new w _⟩
    · obtain ⟨n, rfl⟩ := Int.eq_ofNat_of_zero_le (show 0 ≤ part by omega)
      rw [if_neg h0, Int.toNat_natCast]
      exact with_fresh k hk v n (by omega) _ b w ok hT hlt (-1) (by omega) c2
  | br i l r ihl ihr =>
    intro ht p w ok hT
    have hT' := hT
    obtain ⟨b, kk, vv, pl, pr, rfl, ho, hb, hl, hr⟩ := hT'
    obtain ⟨hi, htl, htr, _⟩ := ht
    have hlt := hb.lt
    have c2 := hb.cell 2
    simp at c2
    unfold Tr.ins
    by_cases h0 : part < i
    · rw [if_pos h0]
      have c0 := hb.cell 0
      have c1 := hb.cell 1
      have c3 := hb.cell 3
      have c4 := hb.cell 4
      simp at c0 c1 c3 c4
      rcases sd_01 k i with hs | hs
      · have hside := fun w => side_any k i hk hi 0 hs w
        rw [if_neg (by omega)]
        clear hs
        have hbb := (below_new w (.cells #[.int .u64 k, .int .i64 v, .int .i64 (-1), .pointer none, .pointer none] 71)).alloc (by simp) (.cells #[.int .u64 kk, .int .i64 vv, .int .i64 i, .pointer pl, .pointer pr] 71)
        have hnb := Blk.new (w.alloc (.cells #[.int .u64 k, .int .i64 v, .int .i64 (-1), .pointer none, .pointer none] 71)) 71 #[.int .u64 kk, .int .i64 vv, .int .i64 i, .pointer pl, .pointer pr]
        rw [World.size_alloc] at hnb
        have hoth := (hr.mono (ok' := fun b => ok b ∧ b < w.heap.size) fun b h1 h2 => ⟨h2, h1⟩).below hbb
        have hcall := ihl htl pl _ (fun b => ok b ∧ b < w.heap.size) ((hl.mono fun b h1 h2 => ⟨h2, h1⟩).below hbb)
        clear ihl ihr
        go_enter Try.func40, Try.ntmps40
        go_wp2_with fail
        refine (hside _).mono ?_
        rintro e w' ⟨rfl, rfl⟩
        go_wp2_with fail
        refine hcall.mono ?_
        rintro e w1 ⟨q, rfl, hq, hB1⟩
        obtain ⟨hc1, hf1⟩ := bcell hB1
        simp only [World.size_alloc] at hc1 hf1
        go_wp2
        go_ret
        have hB2 := hbb.trans (hB1.mono (by simp; omega))
        have hnb1 := (hnb.keep hB1).set_ 3 (.pointer q)
        have hq' := (hq.far (q := ⟨w.heap.size + 1, 3, none⟩) (.pointer q) (by simp)).mono (ok' := fun b => ok b ∨ w.heap.size ≤ b) (by
          intro b _ h
          rcases h with h | h
          · exact .inl h.1
          · simp at h; exact .inr (by omega))
        have ho' := ((hoth.below hB1).far (q := ⟨w.heap.size + 1, 3, none⟩) (.pointer q) (by simp)).mono (ok' := fun b => ok b ∨ w.heap.size ≤ b) (fun b _ h => .inl h.1)
        exact ⟨_, rfl, ⟨_, _, _, _, _, rfl, .inr (by omega), hnb1, hq', ho'⟩, hB2.setCell (by simp) _⟩
      · have hside := fun w => side_any k i hk hi 1 hs w
        rw [if_pos hs]
        clear hs
        have hbb := (below_new w (.cells #[.int .u64 k, .int .i64 v, .int .i64 (-1), .pointer none, .pointer none] 71)).alloc (by simp) (.cells #[.int .u64 kk, .int .i64 vv, .int .i64 i, .pointer pl, .pointer pr] 71)
        have hnb := Blk.new (w.alloc (.cells #[.int .u64 k, .int .i64 v, .int .i64 (-1), .pointer none, .pointer none] 71)) 71 #[.int .u64 kk, .int .i64 vv, .int .i64 i, .pointer pl, .pointer pr]
        rw [World.size_alloc] at hnb
        have hoth := (hl.mono (ok' := fun b => ok b ∧ b < w.heap.size) fun b h1 h2 => ⟨h2, h1⟩).below hbb
        have hcall := ihr htr pr _ (fun b => ok b ∧ b < w.heap.size) ((hr.mono fun b h1 h2 => ⟨h2, h1⟩).below hbb)
        clear ihl ihr
        go_enter Try.func40, Try.ntmps40
        go_wp2_with fail
        refine (hside _).mono ?_
        rintro e w' ⟨rfl, rfl⟩
        go_wp2_with fail
        refine hcall.mono ?_
        rintro e w1 ⟨q, rfl, hq, hB1⟩
        obtain ⟨hc1, hf1⟩ := bcell hB1
        simp only [World.size_alloc] at hc1 hf1
        go_wp2
        go_ret
        have hB2 := hbb.trans (hB1.mono (by simp; omega))
        have hnb1 := (hnb.keep hB1).set_ 4 (.pointer q)
        have hq' := (hq.far (q := ⟨w.heap.size + 1, 4, none⟩) (.pointer q) (by simp)).mono (ok' := fun b => ok b ∨ w.heap.size ≤ b) (by
          intro b _ h
          rcases h with h | h
          · exact .inl h.1
          · simp at h; exact .inr (by omega))
        have ho' := ((hoth.below hB1).far (q := ⟨w.heap.size + 1, 4, none⟩) (.pointer q) (by simp)).mono (ok' := fun b => ok b ∨ w.heap.size ≤ b) (fun b _ h => .inl h.1)
        exact ⟨_, rfl, ⟨_, _, _, _, _, rfl, .inr (by omega), hnb1, ho', hq'⟩, hB2.setCell (by simp) _⟩
    · obtain ⟨n, rfl⟩ := Int.eq_ofNat_of_zero_le (show 0 ≤ part by omega)
      rw [if_neg h0, Int.toNat_natCast]
      exact with_fresh k hk v n (by omega) _ b w ok hT hlt i (by omega) c2
end RI
end Go.Proofs.Ytkbgdbhmdpnaoaa
namespace Go.Proofs.Ytkbgdbhmdpnaoaa
open Go.RowKit
namespace RS
set_option maxHeartbeats 400000 in
theorem with_any (k : Nat) (hk : k < 18446744073709551616) (v : ByteArray) (part : Int) (hp : part < 64) (hp1 : -1 ≤ part) (t : Tr ByteArray) : ∀ (_ht : t.Inv) (p : Option Addr) (w : World) (ok : Nat → Prop) (_hT : IsT ok w p t),
    Calls Try.prog 43 #[.pointer p, .int .u64 k, .string v, .int .i64 part] w fun e w' => ∃ q, e = .returned (.pointer q) ∧ IsT (fun b => ok b ∨ w.heap.size ≤ b) w' q (t.ins k v part) ∧ Below w.heap.size w w' := by
  induction t with
  | leaf k1 v1 =>
    intro ht p w ok hT
    have hT' := hT
    obtain ⟨b, rfl, ho, hb⟩ := hT'
    have hlt := hb.lt
    have c2 := hb.cell 2
    simp at c2
    unfold Tr.ins
    by_cases h0 : part < 0
    · rw [if_pos h0]
      go_enter Try.func43, Try.ntmps43
      go_wp2
      go_ret
      exact ⟨_, rfl, ⟨_, rfl, .inr (Nat.le_refl _), Blk.new _ _ _⟩, below_new w _⟩
    · obtain ⟨n, rfl⟩ := Int.eq_ofNat_of_zero_le (show 0 ≤ part by omega)
      rw [if_neg h0, Int.toNat_natCast]
      exact with_fresh k hk v n (by omega) _ b w ok hT hlt (-1) (by omega) c2
  | br i l r ihl ihr =>
    intro ht p w ok hT
    have hT' := hT
    obtain ⟨b, kk, vv, pl, pr, rfl, ho, hb, hl, hr⟩ := hT'
    obtain ⟨hi, htl, htr, _⟩ := ht
    have hlt := hb.lt
    have c2 := hb.cell 2
    simp at c2
    unfold Tr.ins
    by_cases h0 : part < i
    · rw [if_pos h0]
      have c0 := hb.cell 0
      have c1 := hb.cell 1
      have c3 := hb.cell 3
      have c4 := hb.cell 4
      simp at c0 c1 c3 c4
      rcases sd_01 k i with hs | hs
      · have hside := fun w => side_any k i hk hi 0 hs w
        rw [if_neg (by omega)]
        clear hs
        have hbb := (below_new w (.cells #[.int .u64 k, .string v, .int .i64 (-1), .pointer none, .pointer none] 80)).alloc (by simp) (.cells #[.int .u64 kk, .string vv, .int .i64 i, .pointer pl, .pointer pr] 80)
        have hnb := Blk.new (w.alloc (.cells #[.int .u64 k, .string v, .int .i64 (-1), .pointer none, .pointer none] 80)) 80 #[.int .u64 kk, .string vv, .int .i64 i, .pointer pl, .pointer pr]
        rw [World.size_alloc] at hnb
        have hoth := (hr.mono (ok' := fun b => ok b ∧ b < w.heap.size) fun b h1 h2 => ⟨h2, h1⟩).below hbb
        have hcall := ihl htl pl _ (fun b => ok b ∧ b < w.heap.size) ((hl.mono fun b h1 h2 => ⟨h2, h1⟩).below hbb)
        clear ihl ihr
        go_enter Try.func43, Try.ntmps43
        go_wp2_with fail
        refine (hside _).mono ?_
        rintro e w' ⟨rfl, rfl⟩
        go_wp2_with fail
        refine hcall.mono ?_
        rintro e w1 ⟨q, rfl, hq, hB1⟩
        obtain ⟨hc1, hf1⟩ := bcell hB1
        simp only [World.size_alloc] at hc1 hf1
        go_wp2
        go_ret
        have hB2 := hbb.trans (hB1.mono (by simp; omega))
        have hnb1 := (hnb.keep hB1).set_ 3 (.pointer q)
        have hq' := (hq.far (q := ⟨w.heap.size + 1, 3, none⟩) (.pointer q) (by simp)).mono (ok' := fun b => ok b ∨ w.heap.size ≤ b) (by
          intro b _ h
          rcases h with h | h
          · exact .inl h.1
          · simp at h; exact .inr (by omega))
        have ho' := ((hoth.below hB1).far (q := ⟨w.heap.size + 1, 3, none⟩) (.pointer q) (by simp)).mono (ok' := fun b => ok b ∨ w.heap.size ≤ b) (fun b _ h => .inl h.1)
        exact ⟨_, rfl, ⟨_, _, _, _, _, rfl, .inr (by omega), hnb1, hq', ho'⟩, hB2.setCell (by simp) _⟩
      · have hside := fun w => side_any k i hk hi 1 hs w
        rw [if_pos hs]
        clear hs
        have hbb := (below_new w (.cells #[.int .u64 k, .string v, .int .i64 (-1), .pointer none, .pointer none] 80)).alloc (by simp) (.cells #[.int .u64 kk, .string vv, .int .i64 i, .pointer pl, .pointer pr] 80)
        have hnb := Blk.new (w.alloc (.cells #[.int .u64 k, .string v, .int .i64 (-1), .pointer none, .pointer none] 80)) 80 #[.int .u64 kk, .string vv, .int .i64 i, .pointer pl, .pointer pr]
        rw [World.size_alloc] at hnb
        have hoth := (hl.mono (ok' := fun b => ok b ∧ b < w.heap.size) fun b h1 h2 => ⟨h2, h1⟩).below hbb
        have hcall := ihr htr pr _ (fun b => ok b ∧ b < w.heap.size) ((hr.mono fun b h1 h2 => ⟨h2, h1⟩).below hbb)
        clear ihl ihr
        go_enter Try.func43, Try.ntmps43
        go_wp2_with fail
        refine (hside _).mono ?_
        rintro e w' ⟨rfl, rfl⟩
        go_wp2_with fail
        refine hcall.mono ?_
        rintro e w1 ⟨q, rfl, hq, hB1⟩
        obtain ⟨hc1, hf1⟩ := bcell hB1
        simp only [World.size_alloc] at hc1 hf1
        go_wp2
        go_ret
        have hB2 := hbb.trans (hB1.mono (by simp; omega))
        have hnb1 := (hnb.keep hB1).set_ 4 (.pointer q)
        have hq' := (hq.far (q := ⟨w.heap.size + 1, 4, none⟩) (.pointer q) (by simp)).mono (ok' := fun b => ok b ∨ w.heap.size ≤ b) (by
          intro b _ h
          rcases h with h | h
          · exact .inl h.1
          · simp at h; exact .inr (by omega))
        have ho' := ((hoth.below hB1).far (q := ⟨w.heap.size + 1, 4, none⟩) (.pointer q) (by simp)).mono (ok' := fun b => ok b ∨ w.heap.size ≤ b) (fun b _ h => .inl h.1)
        exact ⟨_, rfl, ⟨_, _, _, _, _, rfl, .inr (by omega), hnb1, ho', hq'⟩, hB2.setCell (by simp) _⟩
    · obtain ⟨n, rfl⟩ := Int.eq_ofNat_of_zero_le (show 0 ≤ part by omega)
      rw [if_neg h0, Int.toNat_natCast]
      exact with_fresh k hk v n (by omega) _ b w ok hT hlt i (by omega) c2
end RS
end Go.Proofs.Ytkbgdbhmdpnaoaa
