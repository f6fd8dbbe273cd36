/- Contracts of radix.Map[int]: Len, Get, Put, Drop, Depth. -/
import Derived.Test.YtkbgdbhmdpnaoaaRWith
import Derived.Test.YtkbgdbhmdpnaoaaRRest
import Derived.Test.YtkbgdbhmdpnaoaaRShelf
import Derived.Deep.RegionHeld3
namespace Go.Proofs.Ytkbgdbhmdpnaoaa
open Go.RowKit
namespace RI
/-- At p lies a trie that maps as the list says. -/
def HasM (ok : Nat → Prop) (w : World) (p : Option Addr) (l : List (Nat × Int)) : Prop := (l = [] ∧ p = none) ∨ ∃ t, IsT ok w p t ∧ t.Inv ∧ t.toList = l
theorem HasM.below {ok : Nat → Prop} {w w' : World} {p : Option Addr} {l : List (Nat × Int)} (h : HasM ok w p l) (hb : Below w.heap.size w w') : HasM ok w' p l := by
  rcases h with h | ⟨t, h1, h2⟩
  · exact .inl h
  · exact .inr ⟨t, h1.below hb, h2⟩
theorem HasM.keepT {ok : Nat → Prop} {w w' : World} {p : Option Addr} {l : List (Nat × Int)} (h : HasM ok w p l) (hk : ∀ b cs, Blk w b 71 cs → Blk w' b 71 cs) : HasM ok w' p l := by
  rcases h with h | ⟨t, h1, h2⟩
  · exact .inl h
  · exact .inr ⟨t, h1.keepT hk, h2⟩
theorem HasM.mono {ok ok' : Nat → Prop} {w : World} {p : Option Addr} {l : List (Nat × Int)} (h : HasM ok w p l) (hk : ∀ b, b < w.heap.size → ok b → ok' b) : HasM ok' w p l := by
  rcases h with h | ⟨t, h1, h2⟩
  · exact .inl h
  · exact .inr ⟨t, h1.mono hk, h2⟩
theorem HasM.far {ok : Nat → Prop} {w : World} {p : Option Addr} {l : List (Nat × Int)} {q : Addr} (h : HasM ok w p l) (hn : ¬ ok q.block) (u : Value) : HasM ok (w.setCell q u) p l := by
  rcases h with h | ⟨t, h1, h2⟩
  · exact .inl h
  · exact .inr ⟨t, h1.far u hn, h2⟩
theorem HasM.rising {ok : Nat → Prop} {w : World} {p : Option Addr} {l : List (Nat × Int)} (h : HasM ok w p l) : Rising l := by
  rcases h with ⟨rfl, _⟩ | ⟨t, _, h2, rfl⟩
  · exact List.Pairwise.nil
  · exact Tr.rising h2
theorem HasM.nil (ok : Nat → Prop) (w : World) : HasM ok w none [] := .inl ⟨rfl, rfl⟩
def got : Option Int → Array Value
  | none => #[.int .i64 0, .bool false]
  | some v => #[.int .i64 v, .bool true]

theorem len_any (v : Value) (n : Int) (w : World) (_hv : v.oneCell' = true) : Calls Try.prog 15 #[.agg #[v, .int .i64 n]] w fun e w' => e = .returned (.int .i64 n) ∧ Below w.heap.size w w' := by
  go_enter Try.func15, Try.ntmps15
  go_wp2
  go_ret
  exact ⟨rfl, below_new w _⟩

set_option maxHeartbeats 400000 in
theorem get_any (k : Nat) (hk : k < 18446744073709551616) (ok : Nat → Prop) (p : Option Addr) (n : Int) (l : List (Nat × Int)) (w : World) (hM : HasM ok w p l) :
    Calls Try.prog 16 #[.agg #[.pointer p, .int .i64 n], .int .u64 k] w fun e w' => e = .returned (.tuple (got (rget l k))) ∧ Below w.heap.size w w' := by
  rcases hM with ⟨rfl, rfl⟩ | ⟨t, hT, hI, rfl⟩
  · go_enter Try.func16, Try.ntmps16
    go_wp2
    go_ret2
    exact ⟨rfl, below_new w _⟩
  · obtain ⟨b, rfl⟩ := hT.some_
    rw [Tr.find_get hI k]
    have hleaf := leaf_any t hI k hk _ _ ok (hT.below (below_new w (.cells #[.pointer (some ⟨b, 0, none⟩), .int .i64 n] 27)))
    by_cases hf : (t.find k).1 = k
    · rw [if_pos hf]
      go_enter Try.func16, Try.ntmps16
      go_wp2_with fail
      refine hleaf.mono ?_
      rintro e w1 ⟨q, rfl, ⟨bq, rfl, _, hq⟩, hB1⟩
      rw [hf] at hq
      have hB2 := (below_new w _).trans (hB1.mono (by simp))
      have c0 := hq.cell 0
      have c1 := hq.cell 1
      simp at c0 c1
      go_wp2
      go_ret2
      exact ⟨rfl, hB2⟩
    · rw [if_neg hf]
      go_enter Try.func16, Try.ntmps16
      go_wp2_with fail
      refine hleaf.mono ?_
      rintro e w1 ⟨q, rfl, ⟨bq, rfl, _, hq⟩, hB1⟩
      have hB2 := (below_new w _).trans (hB1.mono (by simp))
      have hf' : (((t.find k).1 : Int) == (k : Int)) = false := by simp; omega
      have c0 := hq.cell 0
      have c1 := hq.cell 1
      simp at c0 c1
      go_wp2
      go_ret2
      exact ⟨rfl, hB2⟩

theorem depthM_any (ok : Nat → Prop) (p : Option Addr) (n : Int) (l : List (Nat × Int)) (w : World) (hM : HasM ok w p l) :
    Calls Try.prog 20 #[.agg #[.pointer p, .int .i64 n]] w fun e w' => ∃ d, e = .returned (.int .i64 d) ∧ ((l = [] ∧ d = 0) ∨ ∃ t : Tr Int, t.Inv ∧ t.toList = l ∧ d = t.dep) ∧ Below w.heap.size w w' := by
  rcases hM with ⟨rfl, rfl⟩ | ⟨t, hT, hI, rfl⟩
  · go_enter Try.func20, Try.ntmps20
    go_wp2
    go_ret
    exact ⟨_, rfl, .inl (by simp), below_new w _⟩
  · obtain ⟨b, rfl⟩ := hT.some_
    have hd := depth_any t hI _ _ ok (hT.below (below_new w (.cells #[.pointer (some ⟨b, 0, none⟩), .int .i64 n] 27)))
    go_enter Try.func20, Try.ntmps20
    go_wp2_with fail
    refine hd.mono ?_
    rintro e w1 ⟨rfl, m, rfl⟩
    go_wp2
    go_ret
    exact ⟨_, rfl, .inr ⟨t, hI, rfl, rfl⟩, below_drewN (below_new w _) m⟩

set_option maxHeartbeats 400000 in
theorem put_any (k : Nat) (hk : k < 18446744073709551616) (v : Int) (ok : Nat → Prop) (p : Option Addr) (l : List (Nat × Int)) (hl : l.length < 4611686018427387904) (w : World) (hM : HasM ok w p l) :
    Calls Try.prog 22 #[.agg #[.pointer p, .int .i64 l.length], .int .u64 k, .int .i64 v] w fun e w' => ∃ q, e = .returned (.agg #[.pointer q, .int .i64 (rput l k v).length]) ∧ HasM (fun b => ok b ∨ w.heap.size ≤ b) w' q (rput l k v) ∧ Below w.heap.size w w' := by
  rcases hM with ⟨rfl, rfl⟩ | ⟨t, hT, hI, rfl⟩
  · go_enter Try.func22, Try.ntmps22
    go_wp2
    refine bodyPost_ret (v := .agg #[.pointer (some ⟨w.heap.size + 1 + 1, 0, none⟩), .int .i64 1]) (by simp [results, Try.results22, go_sem]) rfl ⟨_, rfl, ?_, ?_⟩
    · refine .inr ⟨.leaf k v, ⟨_, rfl, .inr (by omega), ?_⟩, hk, rfl⟩
      have := Blk.new ((w.alloc (.cells #[.pointer none, .int .i64 0] 27)).alloc (.cells #[.pointer (some ⟨w.heap.size + 1 + 1, 0, none⟩), .int .i64 1] 27)) 71 #[.int .u64 k, .int .i64 v, .int .i64 (-1), .pointer none, .pointer none]
      simpa using this
    · exact ((below_new w _).alloc (by simp) _).alloc (by simp; omega) _
  · obtain ⟨b, rfl⟩ := hT.some_
    have hbb := (below_new w (.cells #[.pointer (some ⟨b, 0, none⟩), .int .i64 t.toList.length] 27)).alloc (by simp) (.cells #[.pointer none, .int .i64 0] 27)
    have hleaf := leaf_any t hI k hk _ _ ok (hT.below hbb)
    have hlt' := Tr.inv_lt hI _ (Tr.find_mem k t)
    have hxl : (t.find k).1 ^^^ k < 18446744073709551616 := Nat.xor_lt_two_pow (n := 64) hlt' hk
    have hlen := fun w => (Try.bits_Len64 (((t.find k).1 ^^^ k : Nat) : Int) w (by omega) (by omega)).mono (R' := fun e w' => e = .returned (.int .i64 (Lib.bitLen (((t.find k).1 ^^^ k : Nat) : Int).toNat)) ∧ w = w') fun _ _ ⟨a, b⟩ => ⟨a, b.symm⟩
    have hxor := Lib.hid (bits_xor_u64_nat (t.find k).1 k hlt' hk)
    simp only [Int.toNat_natCast] at hlen
    obtain ⟨part, m, hp1, hp2, hbl, hin, hlm, hml⟩ : ∃ (part : Int) (m : Nat), -1 ≤ part ∧ part < 64 ∧ (Lib.bitLen ((t.find k).1 ^^^ k) : Int) = part + 1 ∧ ((t.ins k v part).Inv ∧ (t.ins k v part).toList = rput t.toList k v) ∧ ((rput t.toList k v).length = if 0 ≤ part then t.toList.length + 1 else t.toList.length) ∧ m = t.toList.length := by
      by_cases he : (t.find k).1 = k
      · refine ⟨-1, _, by omega, by omega, ?_, Tr.ins_there hI he, ?_, rfl⟩
        · rw [he, Nat.xor_self]; rfl
        · rw [if_neg (by omega)]
          have := Tr.find_mem k t
          rw [show t.find k = (k, (t.find k).2) from Prod.ext he rfl] at this
          exact rput_length_there (Tr.rising hI) this
      · obtain ⟨q, hq⟩ : ∃ q, Lib.bitLen ((t.find k).1 ^^^ k) = q + 1 := by
          cases hq : Lib.bitLen ((t.find k).1 ^^^ k) with
          | zero => exact absurd (eq_of_len hq) he
          | succ q => exact ⟨q, rfl⟩
        obtain ⟨hP, hq64⟩ := parts_of_len hlt' hk hq
        refine ⟨q, _, by omega, by omega, by rw [hq]; rfl, Tr.ins_parts hq64 hk hI ⟨hP.1.symm, fun e => hP.2 e.symm⟩, ?_, rfl⟩
        rw [if_pos (by omega)]
        refine rput_length_new fun x hx e => he ?_
        obtain ⟨x, y⟩ := x
        simp only at e
        subst e
        rw [Tr.find_of_mem hI hx]
    rw [hbl] at hlen
    have Hl := Lib.hid hlm; clear hlm
    have Hb := Lib.hid hbl; clear hbl
    have hwith := fun w' hT' => with_any k hk v part hp2 hp1 t hI (some ⟨b, 0, none⟩) w' (fun b => ok b ∧ b < w.heap.size) hT'
    have hTok := hT.mono (ok' := fun b => ok b ∧ b < w.heap.size) fun b h1 h2 => ⟨h2, h1⟩
    have hn : t.toList.length < 4611686018427387904 := hl
    have hw1 : wrap64 (part + 1 - 1) = part := by unfold wrap64; omega
    rw [← hml] at hn hbb hleaf ⊢
    have Hm := Lib.hid hml
    clear hl hlt' hxl hml
    by_cases h0 : 0 ≤ part
    · go_enter Try.func22, Try.ntmps22
      go_wp2_with fail
      refine hleaf.mono ?_
      rintro e w1 ⟨q, rfl, ⟨bq, rfl, _, hq⟩, hB1⟩
      obtain ⟨hc1, hf1⟩ := bcell hB1
      simp only [World.size_alloc] at hc1 hf1
      have hB2 := hbb.trans (hB1.mono (by simp; omega))
      have hblk := (Blk.new (w.alloc (.cells #[.pointer (some ⟨b, 0, none⟩), .int .i64 m] 27)) 27 #[.pointer none, .int .i64 0]).keep hB1
      have c0 := hq.cell 0
      simp at c0
      go_wp2_with fail
      rw [hxor.out]
      refine (hlen _).mono ?_
      rintro e w' ⟨rfl, rfl⟩
      go_wp2_with fail
      refine (hwith _ (hTok.below hB2)).mono ?_
      rintro e w2 ⟨q2, rfl, hq2, hB3⟩
      obtain ⟨hc2, hf2⟩ := bcell hB3
      have hz : w.heap.size + 1 < w1.heap.size := by have := hB1.size; simp at this; omega
      go_wp2
      have hblk2 := ((hblk.keep hB3).set_ 0 (.pointer q2)).set_ 1 (.int .i64 ((m : Int) + 1))
      rw [World.size_alloc] at hblk2
      have d0 := hblk2.cell 0
      have d1 := hblk2.cell 1
      simp at d0 d1
      refine bodyPost_ret (v := .agg #[.pointer q2, .int .i64 ((m : Int) + 1)]) (by simp [results, Try.results22, go_sem, d0, d1]) rfl ⟨q2, ?_, ?_, ?_⟩
      · have := Hl.out
        rw [if_pos h0, ← Hm.out] at this
        rw [this]
        simp
      · refine .inr ⟨_, ((hq2.far (q := ⟨w.heap.size + 1, 0, none⟩) (.pointer q2) (by simp; omega)).far (q := ⟨w.heap.size + 1, 1, none⟩) (.int .i64 ((m : Int) + 1)) (by simp; omega)).mono ?_, hin⟩
        intro b _ h
        have := hB2.size
        rcases h with h | h
        · exact .inl h.1
        · exact .inr (by omega)
      · exact ((hB2.trans (hB3.mono hB2.size)).setCell (by simp) _).setCell (by simp) _
    · go_enter Try.func22, Try.ntmps22
      go_wp2_with fail
      refine hleaf.mono ?_
      rintro e w1 ⟨q, rfl, ⟨bq, rfl, _, hq⟩, hB1⟩
      obtain ⟨hc1, hf1⟩ := bcell hB1
      simp only [World.size_alloc] at hc1 hf1
      have hB2 := hbb.trans (hB1.mono (by simp; omega))
      have hblk := (Blk.new (w.alloc (.cells #[.pointer (some ⟨b, 0, none⟩), .int .i64 m] 27)) 27 #[.pointer none, .int .i64 0]).keep hB1
      have c0 := hq.cell 0
      simp at c0
      go_wp2_with fail
      rw [hxor.out]
      refine (hlen _).mono ?_
      rintro e w' ⟨rfl, rfl⟩
      go_wp2_with fail
      refine (hwith _ (hTok.below hB2)).mono ?_
      rintro e w2 ⟨q2, rfl, hq2, hB3⟩
      obtain ⟨hc2, hf2⟩ := bcell hB3
      have hz : w.heap.size + 1 < w1.heap.size := by have := hB1.size; simp at this; omega
      go_wp2
      have hblk2 := ((hblk.keep hB3).set_ 0 (.pointer q2)).set_ 1 (.int .i64 ((m : Int)))
      rw [World.size_alloc] at hblk2
      have d0 := hblk2.cell 0
      have d1 := hblk2.cell 1
      simp at d0 d1
      refine bodyPost_ret (v := .agg #[.pointer q2, .int .i64 ((m : Int))]) (by simp [results, Try.results22, go_sem, d0, d1]) rfl ⟨q2, ?_, ?_, ?_⟩
      · have := Hl.out
        rw [if_neg (by omega), ← Hm.out] at this
        rw [this]
      · refine .inr ⟨_, ((hq2.far (q := ⟨w.heap.size + 1, 0, none⟩) (.pointer q2) (by simp; omega)).far (q := ⟨w.heap.size + 1, 1, none⟩) (.int .i64 ((m : Int))) (by simp; omega)).mono ?_, hin⟩
        intro b _ h
        have := hB2.size
        rcases h with h | h
        · exact .inl h.1
        · exact .inr (by omega)
      · exact ((hB2.trans (hB3.mono hB2.size)).setCell (by simp) _).setCell (by simp) _

set_option maxHeartbeats 400000 in
theorem drop_any (k : Nat) (hk : k < 18446744073709551616) (ok : Nat → Prop) (p : Option Addr) (l : List (Nat × Int)) (hl : l.length < 4611686018427387904) (w : World) (hM : HasM ok w p l) :
    Calls Try.prog 23 #[.agg #[.pointer p, .int .i64 l.length], .int .u64 k] w fun e w' => ∃ q, e = .returned (.agg #[.pointer q, .int .i64 (rdrop l k).length]) ∧ HasM (fun b => ok b ∨ w.heap.size ≤ b) w' q (rdrop l k) ∧ Below w.heap.size w w' := by
  have hbb := (below_new w (.cells #[.pointer p, .int .i64 l.length] 27)).alloc (by simp) (.cells #[.pointer none, .int .i64 0] 27)
  have hget := get_any k hk ok p l.length l _ (hM.below hbb)
  obtain ⟨n, hn⟩ : ∃ n, n = l.length := ⟨_, rfl⟩
  rw [← hn] at hbb hget ⊢ hl
  have Hn := Lib.hid hn; clear hn
  cases hg : rget l k with
  | none =>
    rw [hg] at hget
    have hd : rdrop l k = l := by
      rcases hM with ⟨rfl, _⟩ | ⟨t, _, hI, rfl⟩
      · rfl
      · refine rdrop_none fun x hx e => ?_
        obtain ⟨x, y⟩ := x
        simp only at e
        subst e
        rw [rget_mem (Tr.rising hI) hx] at hg
        cases hg
    rw [hd]
    clear hg hd
    simp only [got] at hget
    go_enter Try.func23, Try.ntmps23
    go_wp2_with fail
    refine hget.mono ?_
    rintro e w1 ⟨rfl, hB1⟩
    obtain ⟨hc1, hf1⟩ := bcell hB1
    simp only [World.size_alloc] at hc1 hf1
    have hB2 := hbb.trans (hB1.mono (by simp; omega))
    have hblk := (Blk.new (w.alloc (.cells #[.pointer p, .int .i64 n] 27)) 27 #[.pointer none, .int .i64 0]).keep hB1
    go_wp2
    have hblk2 := (hblk.set_ 0 (.pointer p)).set_ 1 (.int .i64 n)
    rw [World.size_alloc] at hblk2
    have d0 := hblk2.cell 0
    have d1 := hblk2.cell 1
    simp at d0 d1
    refine bodyPost_ret (v := .agg #[.pointer p, .int .i64 n]) (by simp [results, Try.results23, go_sem, d0, d1]) rfl ⟨p, by rw [Hn.out], ?_, ?_⟩
    · refine ((((hM.mono (ok' := fun b => ok b ∧ b < w.heap.size) fun b h1 h2 => ⟨h2, h1⟩).below hB2).far (q := ⟨w.heap.size + 1, 0, none⟩) (by simp) (.pointer p)).far (q := ⟨w.heap.size + 1, 1, none⟩) (by simp) (.int .i64 n)).mono ?_
      intro b _ h
      exact .inl h.1
    · exact (hB2.setCell (by simp) _).setCell (by simp) _
  | some x =>
    rw [hg] at hget
    rcases hM with ⟨rfl, _⟩ | ⟨t, hT, hI, rfl⟩
    · cases hg
    have hkx := mem_of_rget hg
    have hfk : (t.find k).1 = k := by rw [Tr.find_of_mem hI hkx]
    have hdel := Tr.del_ok hI hfk
    have hlen := rdrop_length_there (Tr.rising hI) hkx
    rw [← Hn.out] at hlen
    have hn1 : 1 ≤ n := by omega
    have hn2 : n ≤ 4611686018427387904 := by omega
    have Hlen := Lib.hid hlen
    have Hdel := Lib.hid hdel
    clear hlen hdel hfk hkx hg
    obtain ⟨b, rfl⟩ := hT.some_
    simp only [got] at hget
    have hwo := fun w' hT' => without_any k hk t hI (some ⟨b, 0, none⟩) w' (fun b => ok b ∧ b < w.heap.size) hT'
    have hTok := hT.mono (ok' := fun b => ok b ∧ b < w.heap.size) fun b h1 h2 => ⟨h2, h1⟩
    go_enter Try.func23, Try.ntmps23
    go_wp2_with fail
    refine hget.mono ?_
    rintro e w1 ⟨rfl, hB1⟩
    obtain ⟨hc1, hf1⟩ := bcell hB1
    simp only [World.size_alloc] at hc1 hf1
    have hB2 := hbb.trans (hB1.mono (by simp; omega))
    have hblk := (Blk.new (w.alloc (.cells #[.pointer (some ⟨b, 0, none⟩), .int .i64 n] 27)) 27 #[.pointer none, .int .i64 0]).keep hB1
    have hz : w.heap.size + 1 < w1.heap.size := by have := hB1.size; simp at this; omega
    have hT1 := hTok.below hB2
    have hcall := hwo w1.drew (hT1.drewN 1)
    clear hwo
    have hbox := (((Blk.new w 27 #[.pointer (some ⟨b, 0, none⟩), .int .i64 n]).alloc (.cells #[.pointer none, .int .i64 0] 27)).keep hB1)
    have x0 := hbox.cell 0
    have x1 := hbox.cell 1
    simp at x0 x1
    rw [World.size_alloc] at hblk
    have hwn : IntKind.i64.wrap ((n : Int) - 1) = (n : Int) - 1 := IntWalk.i64_in _ (by omega)
    go_wp2_with fail
    go_region_held3 (fun w' => w'.cell? ⟨w.heap.size, 0, none⟩ = some (.pointer (some ⟨b, 0, none⟩)) ∧ w'.cell? ⟨w.heap.size, 1, none⟩ = some (.int .i64 n))
      (first
        | go_keep
        | (go_split_ands; exact ⟨(hc2 _ _ (by simp; omega)).trans x0, (hc2 _ _ (by simp; omega)).trans x1⟩))
      (first
        | (go_at_call 41; refine hcall.mono ?_; rintro e w2 ⟨q2, rfl, hq2, hB3⟩; obtain ⟨hc2, hf2⟩ := bcell hB3; have hb2 := hblk.drew.keep hB3; have y0 := hb2.cell 0; have y1 := hb2.cell 1; have z0 := hb2.frozen 0; have z1 := hb2.frozen 1; simp at y0 y1))
    clear hwn
    go_wp2
    have hblk2 := ((hblk.drew.keep hB3).set_ 0 (.pointer q2)).set_ 1 (.int .i64 ((n : Int) - 1))
    have d0 := hblk2.cell 0
    have d1 := hblk2.cell 1
    simp at d0 d1
    refine bodyPost_ret (v := .agg #[.pointer q2, .int .i64 ((n : Int) - 1)]) (by simp [results, Try.results23, go_sem, d0, d1]) rfl ⟨q2, ?_, ?_, ?_⟩
    · have := Hlen.out
      have e : (n : Int) - 1 = ((rdrop t.toList k).length : Int) := by omega
      rw [e]
    · have hd := Hdel.out
      have hsz := hB2.size
      have hq3 : Gone (fun b => ok b ∨ w.heap.size ≤ b) ((w2.setCell ⟨w.heap.size + 1, 0, none⟩ (.pointer q2)).setCell ⟨w.heap.size + 1, 1, none⟩ (.int .i64 ((n : Int) - 1))) q2 (t.del k) := by
        cases hdk : t.del k with
        | none => rw [hdk] at hq2; exact hq2
        | some t' =>
          rw [hdk] at hq2
          refine (((show IsT _ w2 q2 t' from hq2).far (q := ⟨w.heap.size + 1, 0, none⟩) (.pointer q2) (by simp; omega)).far (q := ⟨w.heap.size + 1, 1, none⟩) (.int .i64 ((n : Int) - 1)) (by simp; omega)).mono ?_
          intro b _ h
          rcases h with h | h
          · exact .inl h.1
          · exact .inr (Nat.le_trans hsz h)
      cases hdk : t.del k with
      | none => rw [hdk] at hq3 hd; exact .inl ⟨hd, hq3⟩
      | some t' => rw [hdk] at hq3 hd; exact .inr ⟨t', hq3, hd.1, hd.2⟩
    · exact ((hB2.trans ((below_drew (Below.refl _ w1)).trans hB3 |>.mono hB2.size)).setCell (by simp) _).setCell (by simp) _
end RI
end Go.Proofs.Ytkbgdbhmdpnaoaa
namespace Go.Proofs.Ytkbgdbhmdpnaoaa
open Go.RowKit
namespace RS
/-- At p lies a trie that maps as the list says. -/
def HasM (ok : Nat → Prop) (w : World) (p : Option Addr) (l : List (Nat × ByteArray)) : Prop := (l = [] ∧ p = none) ∨ ∃ t, IsT ok w p t ∧ t.Inv ∧ t.toList = l
theorem HasM.below {ok : Nat → Prop} {w w' : World} {p : Option Addr} {l : List (Nat × ByteArray)} (h : HasM ok w p l) (hb : Below w.heap.size w w') : HasM ok w' p l := by
  rcases h with h | ⟨t, h1, h2⟩
  · exact .inl h
  · exact .inr ⟨t, h1.below hb, h2⟩
theorem HasM.keepT {ok : Nat → Prop} {w w' : World} {p : Option Addr} {l : List (Nat × ByteArray)} (h : HasM ok w p l) (hk : ∀ b cs, Blk w b 80 cs → Blk w' b 80 cs) : HasM ok w' p l := by
  rcases h with h | ⟨t, h1, h2⟩
  · exact .inl h
  · exact .inr ⟨t, h1.keepT hk, h2⟩
theorem HasM.mono {ok ok' : Nat → Prop} {w : World} {p : Option Addr} {l : List (Nat × ByteArray)} (h : HasM ok w p l) (hk : ∀ b, b < w.heap.size → ok b → ok' b) : HasM ok' w p l := by
  rcases h with h | ⟨t, h1, h2⟩
  · exact .inl h
  · exact .inr ⟨t, h1.mono hk, h2⟩
theorem HasM.far {ok : Nat → Prop} {w : World} {p : Option Addr} {l : List (Nat × ByteArray)} {q : Addr} (h : HasM ok w p l) (hn : ¬ ok q.block) (u : Value) : HasM ok (w.setCell q u) p l := by
  rcases h with h | ⟨t, h1, h2⟩
  · exact .inl h
  · exact .inr ⟨t, h1.far u hn, h2⟩
theorem HasM.rising {ok : Nat → Prop} {w : World} {p : Option Addr} {l : List (Nat × ByteArray)} (h : HasM ok w p l) : Rising l := by
  rcases h with ⟨rfl, _⟩ | ⟨t, _, h2, rfl⟩
  · exact List.Pairwise.nil
  · exact Tr.rising h2
theorem HasM.nil (ok : Nat → Prop) (w : World) : HasM ok w none [] := .inl ⟨rfl, rfl⟩
def got : Option ByteArray → Array Value
  | none => #[.string ⟨#[]⟩, .bool false]
  | some v => #[.string v, .bool true]

theorem len_any (v : Value) (n : Int) (w : World) (_hv : v.oneCell' = true) : Calls Try.prog 30 #[.agg #[v, .int .i64 n]] w fun e w' => e = .returned (.int .i64 n) ∧ Below w.heap.size w w' := by
  go_enter Try.func30, Try.ntmps30
  go_wp2
  go_ret
  exact ⟨rfl, below_new w _⟩

set_option maxHeartbeats 400000 in
theorem get_any (k : Nat) (hk : k < 18446744073709551616) (ok : Nat → Prop) (p : Option Addr) (n : Int) (l : List (Nat × ByteArray)) (w : World) (hM : HasM ok w p l) :
    Calls Try.prog 28 #[.agg #[.pointer p, .int .i64 n], .int .u64 k] w fun e w' => e = .returned (.tuple (got (rget l k))) ∧ Below w.heap.size w w' := by
  rcases hM with ⟨rfl, rfl⟩ | ⟨t, hT, hI, rfl⟩
  · go_enter Try.func28, Try.ntmps28
    go_wp2
    go_ret2
    exact ⟨rfl, below_new w _⟩
  · obtain ⟨b, rfl⟩ := hT.some_
    rw [Tr.find_get hI k]
    have hleaf := leaf_any t hI k hk _ _ ok (hT.below (below_new w (.cells #[.pointer (some ⟨b, 0, none⟩), .int .i64 n] 56)))
    by_cases hf : (t.find k).1 = k
    · rw [if_pos hf]
      go_enter Try.func28, Try.ntmps28
      go_wp2_with fail
      refine hleaf.mono ?_
      rintro e w1 ⟨q, rfl, ⟨bq, rfl, _, hq⟩, hB1⟩
      rw [hf] at hq
      have hB2 := (below_new w _).trans (hB1.mono (by simp))
      have c0 := hq.cell 0
      have c1 := hq.cell 1
      simp at c0 c1
      go_wp2
      go_ret2
      exact ⟨rfl, hB2⟩
    · rw [if_neg hf]
      go_enter Try.func28, Try.ntmps28
      go_wp2_with fail
      refine hleaf.mono ?_
      rintro e w1 ⟨q, rfl, ⟨bq, rfl, _, hq⟩, hB1⟩
      have hB2 := (below_new w _).trans (hB1.mono (by simp))
      have hf' : (((t.find k).1 : Int) == (k : Int)) = false := by simp; omega
      have c0 := hq.cell 0
      have c1 := hq.cell 1
      simp at c0 c1
      go_wp2
      go_ret2
      exact ⟨rfl, hB2⟩

theorem depthM_any (ok : Nat → Prop) (p : Option Addr) (n : Int) (l : List (Nat × ByteArray)) (w : World) (hM : HasM ok w p l) :
    Calls Try.prog 31 #[.agg #[.pointer p, .int .i64 n]] w fun e w' => ∃ d, e = .returned (.int .i64 d) ∧ ((l = [] ∧ d = 0) ∨ ∃ t : Tr ByteArray, t.Inv ∧ t.toList = l ∧ d = t.dep) ∧ Below w.heap.size w w' := by
  rcases hM with ⟨rfl, rfl⟩ | ⟨t, hT, hI, rfl⟩
  · go_enter Try.func31, Try.ntmps31
    go_wp2
    go_ret
    exact ⟨_, rfl, .inl (by simp), below_new w _⟩
  · obtain ⟨b, rfl⟩ := hT.some_
    have hd := depth_any t hI _ _ ok (hT.below (below_new w (.cells #[.pointer (some ⟨b, 0, none⟩), .int .i64 n] 56)))
    go_enter Try.func31, Try.ntmps31
    go_wp2_with fail
    refine hd.mono ?_
    rintro e w1 ⟨rfl, m, rfl⟩
    go_wp2
    go_ret
    exact ⟨_, rfl, .inr ⟨t, hI, rfl, rfl⟩, below_drewN (below_new w _) m⟩

set_option maxHeartbeats 400000 in
theorem put_any (k : Nat) (hk : k < 18446744073709551616) (v : ByteArray) (ok : Nat → Prop) (p : Option Addr) (l : List (Nat × ByteArray)) (hl : l.length < 4611686018427387904) (w : World) (hM : HasM ok w p l) :
    Calls Try.prog 25 #[.agg #[.pointer p, .int .i64 l.length], .int .u64 k, .string v] w fun e w' => ∃ q, e = .returned (.agg #[.pointer q, .int .i64 (rput l k v).length]) ∧ HasM (fun b => ok b ∨ w.heap.size ≤ b) w' q (rput l k v) ∧ Below w.heap.size w w' := by
  rcases hM with ⟨rfl, rfl⟩ | ⟨t, hT, hI, rfl⟩
  · go_enter Try.func25, Try.ntmps25
    go_wp2
    refine bodyPost_ret (v := .agg #[.pointer (some ⟨w.heap.size + 1 + 1, 0, none⟩), .int .i64 1]) (by simp [results, Try.results25, go_sem]) rfl ⟨_, rfl, ?_, ?_⟩
    · refine .inr ⟨.leaf k v, ⟨_, rfl, .inr (by omega), ?_⟩, hk, rfl⟩
      have := Blk.new ((w.alloc (.cells #[.pointer none, .int .i64 0] 56)).alloc (.cells #[.pointer (some ⟨w.heap.size + 1 + 1, 0, none⟩), .int .i64 1] 56)) 80 #[.int .u64 k, .string v, .int .i64 (-1), .pointer none, .pointer none]
      simpa using this
    · exact ((below_new w _).alloc (by simp) _).alloc (by simp; omega) _
  · obtain ⟨b, rfl⟩ := hT.some_
    have hbb := (below_new w (.cells #[.pointer (some ⟨b, 0, none⟩), .int .i64 t.toList.length] 56)).alloc (by simp) (.cells #[.pointer none, .int .i64 0] 56)
    have hleaf := leaf_any t hI k hk _ _ ok (hT.below hbb)
    have hlt' := Tr.inv_lt hI _ (Tr.find_mem k t)
    have hxl : (t.find k).1 ^^^ k < 18446744073709551616 := Nat.xor_lt_two_pow (n := 64) hlt' hk
    have hlen := fun w => (Try.bits_Len64 (((t.find k).1 ^^^ k : Nat) : Int) w (by omega) (by omega)).mono (R' := fun e w' => e = .returned (.int .i64 (Lib.bitLen (((t.find k).1 ^^^ k : Nat) : Int).toNat)) ∧ w = w') fun _ _ ⟨a, b⟩ => ⟨a, b.symm⟩
    have hxor := Lib.hid (bits_xor_u64_nat (t.find k).1 k hlt' hk)
    simp only [Int.toNat_natCast] at hlen
    obtain ⟨part, m, hp1, hp2, hbl, hin, hlm, hml⟩ : ∃ (part : Int) (m : Nat), -1 ≤ part ∧ part < 64 ∧ (Lib.bitLen ((t.find k).1 ^^^ k) : Int) = part + 1 ∧ ((t.ins k v part).Inv ∧ (t.ins k v part).toList = rput t.toList k v) ∧ ((rput t.toList k v).length = if 0 ≤ part then t.toList.length + 1 else t.toList.length) ∧ m = t.toList.length := by
      by_cases he : (t.find k).1 = k
      · refine ⟨-1, _, by omega, by omega, ?_, Tr.ins_there hI he, ?_, rfl⟩
        · rw [he, Nat.xor_self]; rfl
        · rw [if_neg (by omega)]
          have := Tr.find_mem k t
          rw [show t.find k = (k, (t.find k).2) from Prod.ext he rfl] at this
          exact rput_length_there (Tr.rising hI) this
      · obtain ⟨q, hq⟩ : ∃ q, Lib.bitLen ((t.find k).1 ^^^ k) = q + 1 := by
          cases hq : Lib.bitLen ((t.find k).1 ^^^ k) with
          | zero => exact absurd (eq_of_len hq) he
          | succ q => exact ⟨q, rfl⟩
        obtain ⟨hP, hq64⟩ := parts_of_len hlt' hk hq
        refine ⟨q, _, by omega, by omega, by rw [hq]; rfl, Tr.ins_parts hq64 hk hI ⟨hP.1.symm, fun e => hP.2 e.symm⟩, ?_, rfl⟩
        rw [if_pos (by omega)]
        refine rput_length_new fun x hx e => he ?_
        obtain ⟨x, y⟩ := x
        simp only at e
        subst e
        rw [Tr.find_of_mem hI hx]
    rw [hbl] at hlen
    have Hl := Lib.hid hlm; clear hlm
    have Hb := Lib.hid hbl; clear hbl
    have hwith := fun w' hT' => with_any k hk v part hp2 hp1 t hI (some ⟨b, 0, none⟩) w' (fun b => ok b ∧ b < w.heap.size) hT'
    have hTok := hT.mono (ok' := fun b => ok b ∧ b < w.heap.size) fun b h1 h2 => ⟨h2, h1⟩
    have hn : t.toList.length < 4611686018427387904 := hl
    have hw1 : wrap64 (part + 1 - 1) = part := by unfold wrap64; omega
    rw [← hml] at hn hbb hleaf ⊢
    have Hm := Lib.hid hml
    clear hl hlt' hxl hml
    by_cases h0 : 0 ≤ part
    · go_enter Try.func25, Try.ntmps25
      go_wp2_with fail
      refine hleaf.mono ?_
      rintro e w1 ⟨q, rfl, ⟨bq, rfl, _, hq⟩, hB1⟩
      obtain ⟨hc1, hf1⟩ := bcell hB1
      simp only [World.size_alloc] at hc1 hf1
      have hB2 := hbb.trans (hB1.mono (by simp; omega))
      have hblk := (Blk.new (w.alloc (.cells #[.pointer (some ⟨b, 0, none⟩), .int .i64 m] 56)) 56 #[.pointer none, .int .i64 0]).keep hB1
      have c0 := hq.cell 0
      simp at c0
      go_wp2_with fail
      rw [hxor.out]
      refine (hlen _).mono ?_
      rintro e w' ⟨rfl, rfl⟩
      go_wp2_with fail
      refine (hwith _ (hTok.below hB2)).mono ?_
      rintro e w2 ⟨q2, rfl, hq2, hB3⟩
      obtain ⟨hc2, hf2⟩ := bcell hB3
      have hz : w.heap.size + 1 < w1.heap.size := by have := hB1.size; simp at this; omega
      go_wp2
      have hblk2 := ((hblk.keep hB3).set_ 0 (.pointer q2)).set_ 1 (.int .i64 ((m : Int) + 1))
      rw [World.size_alloc] at hblk2
      have d0 := hblk2.cell 0
      have d1 := hblk2.cell 1
      simp at d0 d1
      refine bodyPost_ret (v := .agg #[.pointer q2, .int .i64 ((m : Int) + 1)]) (by simp [results, Try.results25, go_sem, d0, d1]) rfl ⟨q2, ?_, ?_, ?_⟩
      · have := Hl.out
        rw [if_pos h0, ← Hm.out] at this
        rw [this]
        simp
      · refine .inr ⟨_, ((hq2.far (q := ⟨w.heap.size + 1, 0, none⟩) (.pointer q2) (by simp; omega)).far (q := ⟨w.heap.size + 1, 1, none⟩) (.int .i64 ((m : Int) + 1)) (by simp; omega)).mono ?_, hin⟩
        intro b _ h
        have := hB2.size
        rcases h with h | h
        · exact .inl h.1
        · exact .inr (by omega)
      · exact ((hB2.trans (hB3.mono hB2.size)).setCell (by simp) _).setCell (by simp) _
    · go_enter Try.func25, Try.ntmps25
      go_wp2_with fail
      refine hleaf.mono ?_
      rintro e w1 ⟨q, rfl, ⟨bq, rfl, _, hq⟩, hB1⟩
      obtain ⟨hc1, hf1⟩ := bcell hB1
      simp only [World.size_alloc] at hc1 hf1
      have hB2 := hbb.trans (hB1.mono (by simp; omega))
      have hblk := (Blk.new (w.alloc (.cells #[.pointer (some ⟨b, 0, none⟩), .int .i64 m] 56)) 56 #[.pointer none, .int .i64 0]).keep hB1
      have c0 := hq.cell 0
      simp at c0
      go_wp2_with fail
      rw [hxor.out]
      refine (hlen _).mono ?_
      rintro e w' ⟨rfl, rfl⟩
      go_wp2_with fail
      refine (hwith _ (hTok.below hB2)).mono ?_
      rintro e w2 ⟨q2, rfl, hq2, hB3⟩
      obtain ⟨hc2, hf2⟩ := bcell hB3
      have hz : w.heap.size + 1 < w1.heap.size := by have := hB1.size; simp at this; omega
      go_wp2
      have hblk2 := ((hblk.keep hB3).set_ 0 (.pointer q2)).set_ 1 (.int .i64 ((m : Int)))
      rw [World.size_alloc] at hblk2
      have d0 := hblk2.cell 0
      have d1 := hblk2.cell 1
      simp at d0 d1
      refine bodyPost_ret (v := .agg #[.pointer q2, .int .i64 ((m : Int))]) (by simp [results, Try.results25, go_sem, d0, d1]) rfl ⟨q2, ?_, ?_, ?_⟩
      · have := Hl.out
        rw [if_neg (by omega), ← Hm.out] at this
        rw [this]
      · refine .inr ⟨_, ((hq2.far (q := ⟨w.heap.size + 1, 0, none⟩) (.pointer q2) (by simp; omega)).far (q := ⟨w.heap.size + 1, 1, none⟩) (.int .i64 ((m : Int))) (by simp; omega)).mono ?_, hin⟩
        intro b _ h
        have := hB2.size
        rcases h with h | h
        · exact .inl h.1
        · exact .inr (by omega)
      · exact ((hB2.trans (hB3.mono hB2.size)).setCell (by simp) _).setCell (by simp) _

set_option maxHeartbeats 400000 in
theorem drop_any (k : Nat) (hk : k < 18446744073709551616) (ok : Nat → Prop) (p : Option Addr) (l : List (Nat × ByteArray)) (hl : l.length < 4611686018427387904) (w : World) (hM : HasM ok w p l) :
    Calls Try.prog 26 #[.agg #[.pointer p, .int .i64 l.length], .int .u64 k] w fun e w' => ∃ q, e = .returned (.agg #[.pointer q, .int .i64 (rdrop l k).length]) ∧ HasM (fun b => ok b ∨ w.heap.size ≤ b) w' q (rdrop l k) ∧ Below w.heap.size w w' := by
  have hbb := (below_new w (.cells #[.pointer p, .int .i64 l.length] 56)).alloc (by simp) (.cells #[.pointer none, .int .i64 0] 56)
  have hget := get_any k hk ok p l.length l _ (hM.below hbb)
  obtain ⟨n, hn⟩ : ∃ n, n = l.length := ⟨_, rfl⟩
  rw [← hn] at hbb hget ⊢ hl
  have Hn := Lib.hid hn; clear hn
  cases hg : rget l k with
  | none =>
    rw [hg] at hget
    have hd : rdrop l k = l := by
      rcases hM with ⟨rfl, _⟩ | ⟨t, _, hI, rfl⟩
      · rfl
      · refine rdrop_none fun x hx e => ?_
        obtain ⟨x, y⟩ := x
        simp only at e
        subst e
        rw [rget_mem (Tr.rising hI) hx] at hg
        cases hg
    rw [hd]
    clear hg hd
    simp only [got] at hget
    go_enter Try.func26, Try.ntmps26
    go_wp2_with fail
    refine hget.mono ?_
    rintro e w1 ⟨rfl, hB1⟩
    obtain ⟨hc1, hf1⟩ := bcell hB1
    simp only [World.size_alloc] at hc1 hf1
    have hB2 := hbb.trans (hB1.mono (by simp; omega))
    have hblk := (Blk.new (w.alloc (.cells #[.pointer p, .int .i64 n] 56)) 56 #[.pointer none, .int .i64 0]).keep hB1
    go_wp2
    have hblk2 := (hblk.set_ 0 (.pointer p)).set_ 1 (.int .i64 n)
    rw [World.size_alloc] at hblk2
    have d0 := hblk2.cell 0
    have d1 := hblk2.cell 1
    simp at d0 d1
    refine bodyPost_ret (v := .agg #[.pointer p, .int .i64 n]) (by simp [results, Try.results26, go_sem, d0, d1]) rfl ⟨p, by rw [Hn.out], ?_, ?_⟩
    · refine ((((hM.mono (ok' := fun b => ok b ∧ b < w.heap.size) fun b h1 h2 => ⟨h2, h1⟩).below hB2).far (q := ⟨w.heap.size + 1, 0, none⟩) (by simp) (.pointer p)).far (q := ⟨w.heap.size + 1, 1, none⟩) (by simp) (.int .i64 n)).mono ?_
      intro b _ h
      exact .inl h.1
    · exact (hB2.setCell (by simp) _).setCell (by simp) _
  | some x =>
    rw [hg] at hget
    rcases hM with ⟨rfl, _⟩ | ⟨t, hT, hI, rfl⟩
    · cases hg
    have hkx := mem_of_rget hg
    have hfk : (t.find k).1 = k := by rw [Tr.find_of_mem hI hkx]
    have hdel := Tr.del_ok hI hfk
    have hlen := rdrop_length_there (Tr.rising hI) hkx
    rw [← Hn.out] at hlen
    have hn1 : 1 ≤ n := by omega
    have hn2 : n ≤ 4611686018427387904 := by omega
    have Hlen := Lib.hid hlen
    have Hdel := Lib.hid hdel
    clear hlen hdel hfk hkx hg
    obtain ⟨b, rfl⟩ := hT.some_
    simp only [got] at hget
    have hwo := fun w' hT' => without_any k hk t hI (some ⟨b, 0, none⟩) w' (fun b => ok b ∧ b < w.heap.size) hT'
    have hTok := hT.mono (ok' := fun b => ok b ∧ b < w.heap.size) fun b h1 h2 => ⟨h2, h1⟩
    go_enter Try.func26, Try.ntmps26
    go_wp2_with fail
    refine hget.mono ?_
    rintro e w1 ⟨rfl, hB1⟩
    obtain ⟨hc1, hf1⟩ := bcell hB1
    simp only [World.size_alloc] at hc1 hf1
    have hB2 := hbb.trans (hB1.mono (by simp; omega))
    have hblk := (Blk.new (w.alloc (.cells #[.pointer (some ⟨b, 0, none⟩), .int .i64 n] 56)) 56 #[.pointer none, .int .i64 0]).keep hB1
    have hz : w.heap.size + 1 < w1.heap.size := by have := hB1.size; simp at this; omega
    have hT1 := hTok.below hB2
    have hcall := hwo w1.drew (hT1.drewN 1)
    clear hwo
    have hbox := (((Blk.new w 56 #[.pointer (some ⟨b, 0, none⟩), .int .i64 n]).alloc (.cells #[.pointer none, .int .i64 0] 56)).keep hB1)
    have x0 := hbox.cell 0
    have x1 := hbox.cell 1
    simp at x0 x1
    rw [World.size_alloc] at hblk
    have hwn : IntKind.i64.wrap ((n : Int) - 1) = (n : Int) - 1 := IntWalk.i64_in _ (by omega)
    go_wp2_with fail
    go_region_held3 (fun w' => w'.cell? ⟨w.heap.size, 0, none⟩ = some (.pointer (some ⟨b, 0, none⟩)) ∧ w'.cell? ⟨w.heap.size, 1, none⟩ = some (.int .i64 n))
      (first
        | go_keep
        | (go_split_ands; exact ⟨(hc2 _ _ (by simp; omega)).trans x0, (hc2 _ _ (by simp; omega)).trans x1⟩))
      (first
        | (go_at_call 44; refine hcall.mono ?_; rintro e w2 ⟨q2, rfl, hq2, hB3⟩; obtain ⟨hc2, hf2⟩ := bcell hB3; have hb2 := hblk.drew.keep hB3; have y0 := hb2.cell 0; have y1 := hb2.cell 1; have z0 := hb2.frozen 0; have z1 := hb2.frozen 1; simp at y0 y1))
    clear hwn
    go_wp2
    have hblk2 := ((hblk.drew.keep hB3).set_ 0 (.pointer q2)).set_ 1 (.int .i64 ((n : Int) - 1))
    have d0 := hblk2.cell 0
    have d1 := hblk2.cell 1
    simp at d0 d1
    refine bodyPost_ret (v := .agg #[.pointer q2, .int .i64 ((n : Int) - 1)]) (by simp [results, Try.results26, go_sem, d0, d1]) rfl ⟨q2, ?_, ?_, ?_⟩
    · have := Hlen.out
      have e : (n : Int) - 1 = ((rdrop t.toList k).length : Int) := by omega
      rw [e]
    · have hd := Hdel.out
      have hsz := hB2.size
      have hq3 : Gone (fun b => ok b ∨ w.heap.size ≤ b) ((w2.setCell ⟨w.heap.size + 1, 0, none⟩ (.pointer q2)).setCell ⟨w.heap.size + 1, 1, none⟩ (.int .i64 ((n : Int) - 1))) q2 (t.del k) := by
        cases hdk : t.del k with
        | none => rw [hdk] at hq2; exact hq2
        | some t' =>
          rw [hdk] at hq2
          refine (((show IsT _ w2 q2 t' from hq2).far (q := ⟨w.heap.size + 1, 0, none⟩) (.pointer q2) (by simp; omega)).far (q := ⟨w.heap.size + 1, 1, none⟩) (.int .i64 ((n : Int) - 1)) (by simp; omega)).mono ?_
          intro b _ h
          rcases h with h | h
          · exact .inl h.1
          · exact .inr (Nat.le_trans hsz h)
      cases hdk : t.del k with
      | none => rw [hdk] at hq3 hd; exact .inl ⟨hd, hq3⟩
      | some t' => rw [hdk] at hq3 hd; exact .inr ⟨t', hq3, hd.1, hd.2⟩
    · exact ((hB2.trans ((below_drew (Below.refl _ w1)).trans hB3 |>.mono hB2.size)).setCell (by simp) _).setCell (by simp) _
end RS
end Go.Proofs.Ytkbgdbhmdpnaoaa
