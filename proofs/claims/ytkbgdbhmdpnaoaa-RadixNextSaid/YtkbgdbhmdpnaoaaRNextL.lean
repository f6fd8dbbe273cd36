/- RadixNext: the law's walk. -/
import Derived.Test.YtkbgdbhmdpnaoaaRActs
namespace Go.Proofs.Ytkbgdbhmdpnaoaa
open Go.RowKit Go.Shelf Go.Proofs.Ytkbgdbhmdpnaoaa.Ref Go.Proofs.YtkbgdbhmdpnaoaaW.PrintWords
open RI (HasM)
theorem wrap_u64_succ (k : Nat) : IntKind.u64.wrap ((k : Int) + 1) = (((k + 1) % 18446744073709551616 : Nat) : Int) := by
  simp [IntKind.wrap, IntKind.signed, IntKind.bits]
theorem from_tail {l : List (Nat × Int)} (h : Rising l) (i : Nat) (hi : i < l.length) (k : Nat) (hk : ∀ j (hj : j < i), l[j].1 < k) (hk2 : k ≤ l[i].1) : ∃ r, rfrom l k = l[i] :: r := by
  have e : l = l.take i ++ l[i] :: l.drop (i + 1) := by rw [List.getElem_cons_drop, List.take_append_drop]
  have h1 : rfrom (l.take i) k = [] := by
    unfold rfrom
    rw [List.filter_eq_nil_iff]
    intro x hx
    obtain ⟨j, hj, rfl⟩ := List.getElem_of_mem hx
    rw [List.length_take] at hj
    rw [List.getElem_take]
    have := hk j (by omega)
    simp
    omega
  refine ⟨rfrom (l.drop (i + 1)) k, ?_⟩
  have h2 : rfrom l k = rfrom (l.take i ++ l[i] :: l.drop (i + 1)) k := by rw [← e]
  rw [h2]
  unfold rfrom at h1 ⊢
  rw [List.filter_append, h1, List.filter_cons_of_pos (by simpa using hk2)]
  rfl
set_option maxRecDepth 100000 in
set_option maxHeartbeats 4000000 in
theorem next_walk (v : Value) (l : List A) (k : Nat) (hk : k < 18446744073709551616) (W : World) (hA : ActsAt W v l) :
    Calls Try.prog 5 #[v, .int .u64 k] W fun e w' => e = .returned (.bool true) ∧ Below W.heap.size W w' := by
  obtain ⟨ad, c, rfl, hmax, hks, hcells⟩ := hA
  by_cases hlen : 60 < l.length
  · have hlb : decide ((60 : Int) < (l.length : Int)) = true := by simp; omega
    have hle : (l.length : Int) ≤ 9223372036854775807 := by omega
    go_enter Try.func5, Try.ntmps5
    go_wp2_with fail
    refine (awake_any _).mono ?_
    rintro e w1 ⟨rfl, hB1⟩
    go_wp2_with fail
    refine (awake_any _).mono ?_
    rintro e w2 ⟨rfl, hB2⟩
    go_wp2
    go_ret
    exact ⟨rfl, hB1.trans (hB2.mono hB1.size)⟩
  · have hlb : decide ((60 : Int) < (l.length : Int)) = false := by simp; omega
    have hle : (l.length : Int) ≤ 60 := by omega
    go_enter Try.func5, Try.ntmps5
    go_wp2_with fail
    refine (awake_any _).mono ?_
    rintro e w1 ⟨rfl, hB1⟩
    go_wp2_with fail
    have hstart : Both W (w1.alloc (.cells #[.pointer none, .int .i64 0] 27)) w1.heap.size (.slice none 0 0) (play (l.take 0)) :=
      ⟨none, Blk.new _ _ _, .inl ⟨rfl, rfl⟩, Kd.R_nil _ _ _ _ _, hB1.trans ((below_new _ _).mono hB1.size)⟩
    go_loopg [6, 29] (l.length) (fun n wv iv wr => ∃ j : Nat, j ≤ l.length ∧ iv = .int .i64 j ∧ n = l.length - j ∧ Both W wr w1.heap.size wv (play (l.take j)))
    case atStart => exact ⟨0, by omega, rfl, rfl, hstart⟩
    case round =>
      obtain ⟨j, hj, rfl, hgk, q, hm, hM, hR, hB⟩ := hrel
      have Agk : Aside (gk = l.length - j) := hgk
      clear hgk hstart
      have hpl := play_length (l.take j)
      have hpl2 : (l.take j).length ≤ j := List.length_take_le _ _
      by_cases hlt : j < l.length
      · obtain ⟨a, rfl, hab, e0, e1, e2⟩ := hcells j l[j] (List.getElem?_eq_getElem hlt)
        obtain ⟨x, hx⟩ : ∃ x, x = l[j] := ⟨_, rfl⟩
        rw [← hx] at e0 e1 e2
        have hxk := hks x (by rw [hx]; exact List.getElem_mem _)
        have hsnoc : play (l.take (j + 1)) = step (play (l.take j)) x := by rw [List.take_succ_eq_append_getElem hlt, ← hx, play_snoc]
        have Hs := Lib.hid hsnoc
        clear hx hsnoc
        have E0 := (hB.cell (p := a.add (j * 3)) (by rw [add_block]; exact hab)).trans e0
        have E1 : wr.cell? ((a.add (j * 3)).add 1) = some (.int .u64 x.k) := by rw [hB.cell (by rw [add_block, add_block]; exact hab), add_of_add]; exact e1
        have E2 : wr.cell? ((a.add (j * 3)).add 2) = some (.int .i64 x.v) := by rw [hB.cell (by rw [add_block, add_block]; exact hab), add_of_add]; exact e2
        have E1 : wr.cell? ⟨(a.add (j * 3)).block, (a.add (j * 3)).off + 1, none⟩ = some (.int .u64 x.k) := E1
        have E2 : wr.cell? ⟨(a.add (j * 3)).block, (a.add (j * 3)).off + 2, none⟩ = some (.int .i64 x.v) := E2
        clear e0 e1 e2
        have Hpl : (play (l.take j)).length ≤ 60 := by omega
        have hdo := do_any x hxk _ q (play (l.take j)) (by omega) _ ((hM.below (below_new wr (.cells #[.int .i64 x.kind, .int .u64 x.k, .int .i64 x.v] 30))).below (below_drew (Below.refl _ _)))
        have hm2 := (hm.alloc (.cells #[.int .i64 x.kind, .int .u64 x.k, .int .i64 x.v] 30)).drew
        have ha2 := (Blk.new wr 30 #[.int .i64 x.kind, .int .u64 x.k, .int .i64 x.v]).drew
        have x0 := hm2.cell 0
        have x1 := hm2.cell 1
        have y0 := ha2.cell 0
        have y1 := ha2.cell 1
        have y2 := ha2.cell 2
        simp at x0 x1 y0 y1 y2
        have hwf := want_f (rising_play (l.take j)) (by omega) x
        have hBa : Below W.heap.size W (wr.alloc (.cells #[.int .i64 x.kind, .int .u64 x.k, .int .i64 x.v] 30)).drew := below_drew (hB.trans ((below_new _ _).mono hB.size))
        have hRa := (Kd.R_below hR (below_new wr (.cells #[.int .i64 x.kind, .int .u64 x.k, .int .i64 x.v] 30)))
        have hRd := Kd.R_below hRa (below_drew (Below.refl _ _))
        have Hwf := Lib.hid hwf
        clear hwf
        go_wp2_with fail
        go_region_law (first
          | (go_simp; go_at_call 11; refine hdo.mono ?_; rintro e w2 ⟨q2, rfl, hM2, hB2⟩; have hm3 := hm2.keep hB2; have ha3 := ha2.keep hB2; have z0 := hm3.cell 0; have z1 := hm3.cell 1; have z2 := ha3.cell 0; have z3 := ha3.cell 1; have z4 := ha3.cell 2; simp at z0 z1 z2 z3 z4; have hR2 := Kd.R_bound (Kd.R_below hRd hB2))
          | (go_simp; go_at_call 12; refine (mandolinelaw25_want.calls _ _ _ _ _ _ _ _ W w2 (hBa.trans (hB2.mono hBa.size)) hR2 Hwf.out).mono ?_; rintro e w3 ⟨v3, rfl, hR3, hB3, hK3⟩; have hm4 := blk_kept hK3 (fun b hb => hb.2.2.2) hm3 (by decide); have ha4 := blk_kept hK3 (fun b hb => hb.2.2.2) ha3 (by decide); have t0 := hm4.cell 0; have t1 := hm4.cell 1; have t2 := ha4.cell 0; have t3 := ha4.cell 1; have t4 := ha4.cell 2; have t5 := hm4.frozen 0; have t6 := hm4.frozen 1; simp at t0 t1 t2 t3 t4))
        all_goals
          go_wp2_with fail
          go_roundg (l.length - (j + 1))
          case measure => have := Agk.out; omega
          refine ⟨j + 1, by omega, by simp, rfl, ?_⟩
          rw [Hs.out]
          exact both_end hm4 hM2 (by have := hm.lt; simp; omega) hK3 (fun b hb => hb.2.2.2) hR3 hB3 hB1.size
      · have hje : j = l.length := by omega
        subst hje
        rw [List.take_length] at hM hR hm hpl
        have hri := rising_play l
        obtain ⟨ls, hls⟩ : ∃ ls, ls = play l := ⟨_, rfl⟩
        rw [← hls] at hm hM hR hpl hri
        have hkl : ∀ x ∈ ls, x.1 < 18446744073709551616 := by rw [hls]; exact play_keys hks
        clear hls
        have hlsl : ls.length ≤ 60 := by omega
        have z0 := hm.cell 0
        have z1 := hm.cell 1
        simp at z0 z1
        obtain ⟨A2, c2, rfl, hc2, hC2⟩ := R_pairs hR
        have hn := RI.next_any q ls.length k hk ls wr (hM.mono fun _ _ _ => trivial)
        go_wp2_with fail
        refine hn.mono ?_
        rintro e w2 ⟨rfl, hB2⟩
        have hC3 := Kd.C_below hC2 hB2
        have hfrom := from_any ls (by omega) k A2 c2 w2 hC3 hc2
        have hm3 := hm.keep hB2
        have hM3 := hM.below hB2
        have tail : ∀ (w3 : World), Below w2.heap.size w2 w3 → Below W.heap.size W w3 ∧ Blk w3 w1.heap.size 27 #[.pointer q, .int .i64 ls.length] ∧ HasM (fun b => b ≠ w1.heap.size) w3 q ls ∧ Kd.C k37 w3 A2 ls.length (ls.map toS) :=
          fun w3 hB3 => ⟨hB.trans ((hB2.trans (hB3.mono hB2.size)).mono hB.size), hm3.keep hB3, hM3.below hB3, Kd.C_below hC3 hB3⟩
        have Tail := Lib.hid tail
        clear tail hM3 hm3 hC3 hM hm hC2 hR hB
        have key : ∀ i (hi : i < ls.length) (at_ : Nat), (i = 0 ∧ at_ = 0 ∨ 0 < i ∧ at_ = ((ls[i - 1]'(by omega)).1 + 1) % 18446744073709551616) → ∃ r, rfrom ls at_ = ls[i] :: r := by
          intro i hi at_ hat
          refine from_tail hri i hi at_ ?_ ?_
          · intro j hj
            rcases hat with ⟨rfl, _⟩ | ⟨h0, rfl⟩
            · omega
            · have h1 : ls[i - 1].1 < ls[i].1 := List.pairwise_iff_getElem.1 hri (i - 1) i (by omega) hi (by omega)
              have h2 := hkl ls[i] (List.getElem_mem _)
              have h3 : ls[j].1 ≤ ls[i - 1].1 := by
                by_cases he : j = i - 1
                · subst he; omega
                · have := List.pairwise_iff_getElem.1 hri j (i - 1) (by omega) (by omega) (by omega); omega
              rw [Nat.mod_eq_of_lt (by omega)]
              omega
          · rcases hat with ⟨rfl, rfl⟩ | ⟨h0, rfl⟩
            · omega
            · have h1 : ls[i - 1].1 < ls[i].1 := List.pairwise_iff_getElem.1 hri (i - 1) i (by omega) hi (by omega)
              have h2 := hkl ls[i] (List.getElem_mem _)
              rw [Nat.mod_eq_of_lt (by omega)]
              omega
        have Key := Lib.hid key
        clear key
        cases hf : rfrom ls k with
        | nil =>
          rw [hf] at hfrom
          have hf' := Lib.hid hf
          clear hf
          dsimp only [RI.first]
          go_wp2_with fail
          refine hfrom.mono ?_
          rintro e w3 ⟨A3, c3, rfl, hc3, hC3, hB3⟩
          obtain ⟨hB4, hm4, hM4, hC4⟩ := Tail.out w3 hB3
          go_wp2_with fail
          go_loopg [13, 82] (ls.length) (fun n av iv wq => ∃ i at_ : Nat, ∃ hi : i ≤ ls.length, iv = .int .i64 i ∧ av = .int .u64 at_ ∧ (i = 0 ∧ at_ = 0 ∨ ∃ h : 0 < i, at_ = ((ls[i - 1]'(by omega)).1 + 1) % 18446744073709551616) ∧ n = ls.length - i ∧ Below w3.heap.size w3 wq)
          case atStart => exact ⟨0, 0, by omega, rfl, rfl, .inl ⟨rfl, rfl⟩, rfl, Below.refl _ _⟩
          case round =>
            obtain ⟨i, at_, hi, rfl, rfl, hat, hgi, hBi⟩ := hrel
            have Agi : Aside (gk = ls.length - i) := hgi
            clear hgi
            have hmi := hm4.keep hBi
            have hMi := hM4.below hBi
            have hCi := Kd.C_below hC4 hBi
            have hmil := hmi.lt
            have z0 := hmi.cell 0
            have z1 := hmi.cell 1
            simp at z0 z1
            by_cases hlt : i < ls.length
            · have hkey := Key.out i hlt at_ (hat.imp id fun ⟨h, h'⟩ => ⟨h, h'⟩)
              have hat_lt : at_ < 18446744073709551616 := by
                rcases hat with ⟨_, h⟩ | ⟨_, h⟩
                · omega
                · rw [h]; exact Nat.mod_lt _ (by omega)
              clear hat
              obtain ⟨rr, hkey⟩ := hkey
              obtain ⟨ae, he, p0', p1'⟩ := pair_at hCi i hlt
              obtain ⟨y, hy⟩ : ∃ y, y = ls[i] := ⟨_, rfl⟩
              rw [← hy] at hkey p0' p1'
              have Hy := Lib.hid hy
              clear hy
              subst he
              have hBa := below_new wr (.cells #[.int .u64 y.1, .int .i64 y.2] 37)
              have hnx := RI.next_any q ls.length at_ hat_lt ls (wr.alloc (.cells #[.int .u64 y.1, .int .i64 y.2] 37)) ((hMi.below hBa).mono fun _ _ _ => trivial)
              rw [hkey] at hnx
              have Hkey := Lib.hid hkey
              clear hkey
              dsimp only [RI.first] at hnx
              go_wp2_with fail
              refine hnx.mono ?_
              rintro e w7 ⟨rfl, hB7⟩
              have y0 := ((Blk.new wr 37 #[.int .u64 y.1, .int .i64 y.2]).keep hB7).cell 0
              have y1 := ((Blk.new wr 37 #[.int .u64 y.1, .int .i64 y.2]).keep hB7).cell 1
              simp at y0 y1
              go_wp2_with fail
              go_roundg (ls.length - (i + 1))
              case measure => have := Agi.out; omega
              exact ⟨i + 1, (y.1 + 1) % 18446744073709551616, by omega, by simp, by rw [wrap_u64_succ], .inr ⟨by omega, by rw [Hy.out]; simp⟩, rfl, hBi.trans ((hBa.trans (hB7.mono hBa.size)).mono hBi.size)⟩
            · go_wp2
              go_ret
              exact ⟨rfl, hB4.trans (hBi.mono hB4.size)⟩
        | cons x r =>
          rw [hf] at hfrom
          have hf' := Lib.hid hf
          clear hf
          dsimp only [RI.first]
          go_wp2_with fail
          refine hfrom.mono ?_
          rintro e w3 ⟨A3, c3, rfl, hc3, hC3, hB3⟩
          obtain ⟨hB4, hm4, hM4, hC4⟩ := Tail.out w3 hB3
          obtain ⟨ad, rfl, p0, p1⟩ := pair_zero hC3
          go_wp2_with fail
          go_loopg [13, 82] (ls.length) (fun n av iv wq => ∃ i at_ : Nat, ∃ hi : i ≤ ls.length, iv = .int .i64 i ∧ av = .int .u64 at_ ∧ (i = 0 ∧ at_ = 0 ∨ ∃ h : 0 < i, at_ = ((ls[i - 1]'(by omega)).1 + 1) % 18446744073709551616) ∧ n = ls.length - i ∧ Below w3.heap.size w3 wq)
          case atStart => exact ⟨0, 0, by omega, rfl, rfl, .inl ⟨rfl, rfl⟩, rfl, Below.refl _ _⟩
          case round =>
            obtain ⟨i, at_, hi, rfl, rfl, hat, hgi, hBi⟩ := hrel
            have Agi : Aside (gk = ls.length - i) := hgi
            clear hgi
            have hmi := hm4.keep hBi
            have hMi := hM4.below hBi
            have hCi := Kd.C_below hC4 hBi
            have hmil := hmi.lt
            have z0 := hmi.cell 0
            have z1 := hmi.cell 1
            simp at z0 z1
            by_cases hlt : i < ls.length
            · have hkey := Key.out i hlt at_ (hat.imp id fun ⟨h, h'⟩ => ⟨h, h'⟩)
              have hat_lt : at_ < 18446744073709551616 := by
                rcases hat with ⟨_, h⟩ | ⟨_, h⟩
                · omega
                · rw [h]; exact Nat.mod_lt _ (by omega)
              clear hat
              obtain ⟨rr, hkey⟩ := hkey
              obtain ⟨ae, he, p0', p1'⟩ := pair_at hCi i hlt
              obtain ⟨y, hy⟩ : ∃ y, y = ls[i] := ⟨_, rfl⟩
              rw [← hy] at hkey p0' p1'
              have Hy := Lib.hid hy
              clear hy
              subst he
              have hBa := below_new wr (.cells #[.int .u64 y.1, .int .i64 y.2] 37)
              have hnx := RI.next_any q ls.length at_ hat_lt ls (wr.alloc (.cells #[.int .u64 y.1, .int .i64 y.2] 37)) ((hMi.below hBa).mono fun _ _ _ => trivial)
              rw [hkey] at hnx
              have Hkey := Lib.hid hkey
              clear hkey
              dsimp only [RI.first] at hnx
              go_wp2_with fail
              refine hnx.mono ?_
              rintro e w7 ⟨rfl, hB7⟩
              have y0 := ((Blk.new wr 37 #[.int .u64 y.1, .int .i64 y.2]).keep hB7).cell 0
              have y1 := ((Blk.new wr 37 #[.int .u64 y.1, .int .i64 y.2]).keep hB7).cell 1
              simp at y0 y1
              go_wp2_with fail
              go_roundg (ls.length - (i + 1))
              case measure => have := Agi.out; omega
              exact ⟨i + 1, (y.1 + 1) % 18446744073709551616, by omega, by simp, by rw [wrap_u64_succ], .inr ⟨by omega, by rw [Hy.out]; simp⟩, rfl, hBi.trans ((hBa.trans (hB7.mono hBa.size)).mono hBi.size)⟩
            · go_wp2
              go_ret
              exact ⟨rfl, hB4.trans (hBi.mono hB4.size)⟩
end Go.Proofs.Ytkbgdbhmdpnaoaa
