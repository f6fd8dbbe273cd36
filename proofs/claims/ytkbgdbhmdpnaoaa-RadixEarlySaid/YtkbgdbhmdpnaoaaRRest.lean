/- Contracts of radix.node[int]'s methods: without, depth. -/
import Derived.Test.YtkbgdbhmdpnaoaaRNode
import Derived.Test.YtkbgdbhmdpnaoaaRBits
namespace Go.Proofs.Ytkbgdbhmdpnaoaa
open Go.RowKit
namespace RI
theorem IsT.some_ {ok : Nat → Prop} {w : World} {p : Option Addr} {t : Tr Int} (h : IsT ok w p t) : ∃ b, p = some ⟨b, 0, none⟩ := by
  cases t with
  | leaf => obtain ⟨b, hp, _⟩ := h; exact ⟨b, hp⟩
  | br => obtain ⟨b, _, _, _, _, hp, _⟩ := h; exact ⟨b, hp⟩
/-- What 'without' hands back. -/
def Gone (ok : Nat → Prop) (w : World) (p : Option Addr) : Option (Tr Int) → Prop
  | none => p = none
  | some t => IsT ok w p t
set_option maxHeartbeats 400000 in
theorem without_any (k : Nat) (hk : k < 18446744073709551616) (t : Tr Int) : ∀ (_ht : t.Inv) (p : Option Addr) (w : World) (ok : Nat → Prop) (_hT : IsT ok w p t),
    Calls Try.prog 41 #[.pointer p, .int .u64 k] w fun e w' => ∃ q, e = .returned (.pointer q) ∧ Gone (fun b => ok b ∨ w.heap.size ≤ b) w' q (t.del k) ∧ Below w.heap.size w w' := by
  induction t with
  | leaf k1 v1 =>
    intro ht p w ok hT
    obtain ⟨b, rfl, ho, hb⟩ := hT
    have hlt := hb.lt
    have c2 := hb.cell 2
    simp at c2
    go_enter Try.func41, Try.ntmps41
    go_wp2
    go_ret
    exact ⟨_, rfl, rfl, Below.refl _ _⟩
  | br i l r ihl ihr =>
    intro ht p w ok hT
    obtain ⟨b, kk, vv, pl, pr, rfl, ho, hb, hl, hr⟩ := hT
    obtain ⟨hi, htl, htr, _⟩ := ht
    have hlt := hb.lt
    have c0 := hb.cell 0
    have c1 := hb.cell 1
    have c2 := hb.cell 2
    have c3 := hb.cell 3
    have c4 := hb.cell 4
    simp at c0 c1 c2 c3 c4
    unfold Tr.del
    rcases sd_01 k i with hs | hs
    · have hside := fun w => side_any k i hk hi 0 hs w
      rw [if_neg (by omega)]
      clear hs
      have hcall := ihl htl pl w (fun b => ok b ∧ b < w.heap.size) (hl.mono fun b h1 h2 => ⟨h2, h1⟩)
      clear ihl ihr
      cases hd : l.del k with
      | none =>
        rw [hd] at hcall
        clear hd
        go_enter Try.func41, Try.ntmps41
        go_wp2_with fail
        refine (hside _).mono ?_
        rintro e w' ⟨rfl, rfl⟩
        go_wp2_with fail
        refine hcall.mono ?_
        rintro e w1 ⟨q, rfl, hq, hB1⟩
        obtain rfl : q = none := hq
        obtain ⟨hc1, hf1⟩ := bcell hB1
        go_wp2
        go_ret
        exact ⟨_, rfl, (hr.mono fun _ _ h => .inl h).below hB1, hB1⟩
      | some t' =>
        rw [hd] at hcall
        clear hd
        go_enter Try.func41, Try.ntmps41
        go_wp2_with fail
        refine (hside _).mono ?_
        rintro e w' ⟨rfl, rfl⟩
        go_wp2_with fail
        refine hcall.mono ?_
        rintro e w1 ⟨q, rfl, hq, hB1⟩
        obtain ⟨hc1, hf1⟩ := bcell hB1
        have hq1 : IsT _ w1 q t' := hq
        clear hq
        obtain ⟨bq, rfl⟩ := hq1.some_
        go_wp2
        go_ret
        have hsz := hB1.size
        have hq' := (hq1.mono (ok' := fun b => ok b ∨ w.heap.size ≤ b) (fun b _ h => h.elim (fun h => .inl h.1) .inr)).below (below_new w1 (.cells #[.int .u64 kk, .int .i64 vv, .int .i64 i, .pointer (some ⟨bq, 0, none⟩), .pointer pr] 71))
        have ho' := (((hr.mono (ok' := fun b => ok b ∨ w.heap.size ≤ b) (fun _ _ h => .inl h)).below hB1)).below (below_new w1 (.cells #[.int .u64 kk, .int .i64 vv, .int .i64 i, .pointer (some ⟨bq, 0, none⟩), .pointer pr] 71))
        exact ⟨_, rfl, ⟨_, _, _, _, _, rfl, .inr hsz, Blk.new _ _ _, hq', ho'⟩, hB1.trans ((below_new w1 _).mono hsz)⟩
    · have hside := fun w => side_any k i hk hi 1 hs w
      rw [if_pos hs]
      clear hs
      have hcall := ihr htr pr w (fun b => ok b ∧ b < w.heap.size) (hr.mono fun b h1 h2 => ⟨h2, h1⟩)
      clear ihl ihr
      cases hd : r.del k with
      | none =>
        rw [hd] at hcall
        clear hd
        go_enter Try.func41, Try.ntmps41
        go_wp2_with fail
        refine (hside _).mono ?_
        rintro e w' ⟨rfl, rfl⟩
        go_wp2_with fail
        refine hcall.mono ?_
        rintro e w1 ⟨q, rfl, hq, hB1⟩
        obtain rfl : q = none := hq
        obtain ⟨hc1, hf1⟩ := bcell hB1
        go_wp2
        go_ret
        exact ⟨_, rfl, (hl.mono fun _ _ h => .inl h).below hB1, hB1⟩
      | some t' =>
        rw [hd] at hcall
        clear hd
        go_enter Try.func41, Try.ntmps41
        go_wp2_with fail
        refine (hside _).mono ?_
        rintro e w' ⟨rfl, rfl⟩
        go_wp2_with fail
        refine hcall.mono ?_
        rintro e w1 ⟨q, rfl, hq, hB1⟩
        obtain ⟨hc1, hf1⟩ := bcell hB1
        have hq1 : IsT _ w1 q t' := hq
        clear hq
        obtain ⟨bq, rfl⟩ := hq1.some_
        go_wp2
        go_ret
        have hsz := hB1.size
        have hq' := (hq1.mono (ok' := fun b => ok b ∨ w.heap.size ≤ b) (fun b _ h => h.elim (fun h => .inl h.1) .inr)).below (below_new w1 (.cells #[.int .u64 kk, .int .i64 vv, .int .i64 i, .pointer pl, .pointer (some ⟨bq, 0, none⟩)] 71))
        have ho' := (((hl.mono (ok' := fun b => ok b ∨ w.heap.size ≤ b) (fun _ _ h => .inl h)).below hB1)).below (below_new w1 (.cells #[.int .u64 kk, .int .i64 vv, .int .i64 i, .pointer pl, .pointer (some ⟨bq, 0, none⟩)] 71))
        exact ⟨_, rfl, ⟨_, _, _, _, _, rfl, .inr hsz, Blk.new _ _ _, ho', hq'⟩, hB1.trans ((below_new w1 _).mono hsz)⟩
/-- 'depth' only reads. -/
theorem depth_any (t : Tr Int) : ∀ (_ht : t.Inv) (p : Option Addr) (w : World) (ok : Nat → Prop) (_hT : IsT ok w p t),
    Calls Try.prog 37 #[.pointer p] w fun e w' => e = .returned (.int .i64 t.dep) ∧ ∃ n, w' = w.drewN n := by
  induction t with
  | leaf k1 v1 =>
    intro ht p w ok hT
    obtain ⟨b, rfl, ho, hb⟩ := hT
    have c2 := hb.cell 2
    simp at c2
    go_enter Try.func37, Try.ntmps37
    go_wp2
    go_ret
    exact ⟨rfl, 0, rfl⟩
  | br i l r ihl ihr =>
    intro ht p w ok hT
    obtain ⟨b, kk, vv, pl, pr, rfl, ho, hb, hl, hr⟩ := hT
    have hd := dep_64 ht
    obtain ⟨hi, htl, htr, _⟩ := ht
    have c2 := hb.cell 2
    have c3 := hb.cell 3
    have c4 := hb.cell 4
    simp at c2 c3 c4
    have hdl := dep_64 htl
    have hdr := dep_64 htr
    have h1 : ∀ n, Calls Try.prog 37 #[.pointer pl] (w.drewN n) fun e w' => e = .returned (.int .i64 l.dep) ∧ ∃ m, w' = w.drewN m := fun n => (ihl htl pl (w.drewN n) ok (hl.drewN n)).mono fun e w' ⟨a, m, b⟩ => ⟨a, n + m, by rw [b, World.drewN_drewN]⟩
    have h2 : ∀ n, Calls Try.prog 37 #[.pointer pr] (w.drewN n) fun e w' => e = .returned (.int .i64 r.dep) ∧ ∃ m, w' = w.drewN m := fun n => (ihr htr pr (w.drewN n) ok (hr.drewN n)).mono fun e w' ⟨a, m, b⟩ => ⟨a, n + m, by rw [b, World.drewN_drewN]⟩
    clear ihl ihr
    have H1 := Lib.hid h1; clear h1
    have H2 := Lib.hid h2; clear h2
    simp only [Tr.dep] at hd ⊢
    go_enter Try.func37, Try.ntmps37
    go_wp2
    go_quiet ((first | (go_at_call_of 37 pl; exact H1.out _) | (go_at_call_of 37 pr; exact H2.out _)))
    all_goals go_wp2
    all_goals
      go_ret
      exact ⟨ret_int (by omega), _, rfl⟩
end RI
end Go.Proofs.Ytkbgdbhmdpnaoaa
namespace Go.Proofs.Ytkbgdbhmdpnaoaa
open Go.RowKit
namespace RS
theorem IsT.some_ {ok : Nat → Prop} {w : World} {p : Option Addr} {t : Tr ByteArray} (h : IsT ok w p t) : ∃ b, p = some ⟨b, 0, none⟩ := by
  cases t with
  | leaf => obtain ⟨b, hp, _⟩ := h; exact ⟨b, hp⟩
  | br => obtain ⟨b, _, _, _, _, hp, _⟩ := h; exact ⟨b, hp⟩
/-- What 'without' hands back. -/
def Gone (ok : Nat → Prop) (w : World) (p : Option Addr) : Option (Tr ByteArray) → Prop
  | none => p = none
  | some t => IsT ok w p t
set_option maxHeartbeats 400000 in
theorem without_any (k : Nat) (hk : k < 18446744073709551616) (t : Tr ByteArray) : ∀ (_ht : t.Inv) (p : Option Addr) (w : World) (ok : Nat → Prop) (_hT : IsT ok w p t),
    Calls Try.prog 44 #[.pointer p, .int .u64 k] w fun e w' => ∃ q, e = .returned (.pointer q) ∧ Gone (fun b => ok b ∨ w.heap.size ≤ b) w' q (t.del k) ∧ Below w.heap.size w w' := by
  induction t with
  | leaf k1 v1 =>
    intro ht p w ok hT
    obtain ⟨b, rfl, ho, hb⟩ := hT
    have hlt := hb.lt
    have c2 := hb.cell 2
    simp at c2
    go_enter Try.func44, Try.ntmps44
    go_wp2
    go_ret
    exact ⟨_, rfl, rfl, Below.refl _ _⟩
  | br i l r ihl ihr =>
    intro ht p w ok hT
    obtain ⟨b, kk, vv, pl, pr, rfl, ho, hb, hl, hr⟩ := hT
    obtain ⟨hi, htl, htr, _⟩ := ht
    have hlt := hb.lt
    have c0 := hb.cell 0
    have c1 := hb.cell 1
    have c2 := hb.cell 2
    have c3 := hb.cell 3
    have c4 := hb.cell 4
    simp at c0 c1 c2 c3 c4
    unfold Tr.del
    rcases sd_01 k i with hs | hs
    · have hside := fun w => side_any k i hk hi 0 hs w
      rw [if_neg (by omega)]
      clear hs
      have hcall := ihl htl pl w (fun b => ok b ∧ b < w.heap.size) (hl.mono fun b h1 h2 => ⟨h2, h1⟩)
      clear ihl ihr
      cases hd : l.del k with
      | none =>
        rw [hd] at hcall
        clear hd
        go_enter Try.func44, Try.ntmps44
        go_wp2_with fail
        refine (hside _).mono ?_
        rintro e w' ⟨rfl, rfl⟩
        go_wp2_with fail
        refine hcall.mono ?_
        rintro e w1 ⟨q, rfl, hq, hB1⟩
        obtain rfl : q = none := hq
        obtain ⟨hc1, hf1⟩ := bcell hB1
        go_wp2
        go_ret
        exact ⟨_, rfl, (hr.mono fun _ _ h => .inl h).below hB1, hB1⟩
      | some t' =>
        rw [hd] at hcall
        clear hd
        go_enter Try.func44, Try.ntmps44
        go_wp2_with fail
        refine (hside _).mono ?_
        rintro e w' ⟨rfl, rfl⟩
        go_wp2_with fail
        refine hcall.mono ?_
        rintro e w1 ⟨q, rfl, hq, hB1⟩
        obtain ⟨hc1, hf1⟩ := bcell hB1
        have hq1 : IsT _ w1 q t' := hq
        clear hq
        obtain ⟨bq, rfl⟩ := hq1.some_
        go_wp2
        go_ret
        have hsz := hB1.size
        have hq' := (hq1.mono (ok' := fun b => ok b ∨ w.heap.size ≤ b) (fun b _ h => h.elim (fun h => .inl h.1) .inr)).below (below_new w1 (.cells #[.int .u64 kk, .string vv, .int .i64 i, .pointer (some ⟨bq, 0, none⟩), .pointer pr] 80))
        have ho' := (((hr.mono (ok' := fun b => ok b ∨ w.heap.size ≤ b) (fun _ _ h => .inl h)).below hB1)).below (below_new w1 (.cells #[.int .u64 kk, .string vv, .int .i64 i, .pointer (some ⟨bq, 0, none⟩), .pointer pr] 80))
        exact ⟨_, rfl, ⟨_, _, _, _, _, rfl, .inr hsz, Blk.new _ _ _, hq', ho'⟩, hB1.trans ((below_new w1 _).mono hsz)⟩
    · have hside := fun w => side_any k i hk hi 1 hs w
      rw [if_pos hs]
      clear hs
      have hcall := ihr htr pr w (fun b => ok b ∧ b < w.heap.size) (hr.mono fun b h1 h2 => ⟨h2, h1⟩)
      clear ihl ihr
      cases hd : r.del k with
      | none =>
        rw [hd] at hcall
        clear hd
        go_enter Try.func44, Try.ntmps44
        go_wp2_with fail
        refine (hside _).mono ?_
        rintro e w' ⟨rfl, rfl⟩
        go_wp2_with fail
        refine hcall.mono ?_
        rintro e w1 ⟨q, rfl, hq, hB1⟩
        obtain rfl : q = none := hq
        obtain ⟨hc1, hf1⟩ := bcell hB1
        go_wp2
        go_ret
        exact ⟨_, rfl, (hl.mono fun _ _ h => .inl h).below hB1, hB1⟩
      | some t' =>
        rw [hd] at hcall
        clear hd
        go_enter Try.func44, Try.ntmps44
        go_wp2_with fail
        refine (hside _).mono ?_
        rintro e w' ⟨rfl, rfl⟩
        go_wp2_with fail
        refine hcall.mono ?_
        rintro e w1 ⟨q, rfl, hq, hB1⟩
        obtain ⟨hc1, hf1⟩ := bcell hB1
        have hq1 : IsT _ w1 q t' := hq
        clear hq
        obtain ⟨bq, rfl⟩ := hq1.some_
        go_wp2
        go_ret
        have hsz := hB1.size
        have hq' := (hq1.mono (ok' := fun b => ok b ∨ w.heap.size ≤ b) (fun b _ h => h.elim (fun h => .inl h.1) .inr)).below (below_new w1 (.cells #[.int .u64 kk, .string vv, .int .i64 i, .pointer pl, .pointer (some ⟨bq, 0, none⟩)] 80))
        have ho' := (((hl.mono (ok' := fun b => ok b ∨ w.heap.size ≤ b) (fun _ _ h => .inl h)).below hB1)).below (below_new w1 (.cells #[.int .u64 kk, .string vv, .int .i64 i, .pointer pl, .pointer (some ⟨bq, 0, none⟩)] 80))
        exact ⟨_, rfl, ⟨_, _, _, _, _, rfl, .inr hsz, Blk.new _ _ _, ho', hq'⟩, hB1.trans ((below_new w1 _).mono hsz)⟩
/-- 'depth' only reads. -/
theorem depth_any (t : Tr ByteArray) : ∀ (_ht : t.Inv) (p : Option Addr) (w : World) (ok : Nat → Prop) (_hT : IsT ok w p t),
    Calls Try.prog 46 #[.pointer p] w fun e w' => e = .returned (.int .i64 t.dep) ∧ ∃ n, w' = w.drewN n := by
  induction t with
  | leaf k1 v1 =>
    intro ht p w ok hT
    obtain ⟨b, rfl, ho, hb⟩ := hT
    have c2 := hb.cell 2
    simp at c2
    go_enter Try.func46, Try.ntmps46
    go_wp2
    go_ret
    exact ⟨rfl, 0, rfl⟩
  | br i l r ihl ihr =>
    intro ht p w ok hT
    obtain ⟨b, kk, vv, pl, pr, rfl, ho, hb, hl, hr⟩ := hT
    have hd := dep_64 ht
    obtain ⟨hi, htl, htr, _⟩ := ht
    have c2 := hb.cell 2
    have c3 := hb.cell 3
    have c4 := hb.cell 4
    simp at c2 c3 c4
    have hdl := dep_64 htl
    have hdr := dep_64 htr
    have h1 : ∀ n, Calls Try.prog 46 #[.pointer pl] (w.drewN n) fun e w' => e = .returned (.int .i64 l.dep) ∧ ∃ m, w' = w.drewN m := fun n => (ihl htl pl (w.drewN n) ok (hl.drewN n)).mono fun e w' ⟨a, m, b⟩ => ⟨a, n + m, by rw [b, World.drewN_drewN]⟩
    have h2 : ∀ n, Calls Try.prog 46 #[.pointer pr] (w.drewN n) fun e w' => e = .returned (.int .i64 r.dep) ∧ ∃ m, w' = w.drewN m := fun n => (ihr htr pr (w.drewN n) ok (hr.drewN n)).mono fun e w' ⟨a, m, b⟩ => ⟨a, n + m, by rw [b, World.drewN_drewN]⟩
    clear ihl ihr
    have H1 := Lib.hid h1; clear h1
    have H2 := Lib.hid h2; clear h2
    simp only [Tr.dep] at hd ⊢
    go_enter Try.func46, Try.ntmps46
    go_wp2
    go_quiet ((first | (go_at_call_of 46 pl; exact H1.out _) | (go_at_call_of 46 pr; exact H2.out _)))
    all_goals go_wp2
    all_goals
      go_ret
      exact ⟨ret_int (by omega), _, rfl⟩
end RS
end Go.Proofs.Ytkbgdbhmdpnaoaa
