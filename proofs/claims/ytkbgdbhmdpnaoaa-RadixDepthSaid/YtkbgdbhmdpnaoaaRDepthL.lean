/- RadixDepth: the law's walk. -/
import Derived.Test.YtkbgdbhmdpnaoaaRActs
import Derived.Test.YtkbgdbhmdpnaoaaRDepC
namespace Go.Proofs.Ytkbgdbhmdpnaoaa
open Go.RowKit Go.Shelf Go.Proofs.Ytkbgdbhmdpnaoaa.Ref Go.Proofs.YtkbgdbhmdpnaoaaW.PrintWords
open RI (HasM)
theorem HasM.depth_lt {ok : Nat → Prop} {w : World} {p : Option Addr} {l : List (Nat × Int)} (h : HasM ok w p l) : depthOf l < max l.length 1 := by
  rcases h with ⟨rfl, _⟩ | ⟨t, _, h2, rfl⟩
  · decide
  · have := Tr.dep_lt t
    rw [← Tr.dep_eq h2]
    omega
set_option maxRecDepth 100000 in
set_option maxHeartbeats 4000000 in
theorem depth_walk (v : Value) (l : List A) (W : World) (hA : ActsAt W v l) :
    Calls Try.prog 7 #[v] W fun e w' => e = .returned (.bool true) ∧ Below W.heap.size W w' := by
  obtain ⟨ad, c, rfl, hmax, hks, hcells⟩ := hA
  by_cases hlen : 60 < l.length
  · have hlb : decide ((60 : Int) < (l.length : Int)) = true := by simp; omega
    have hle : (l.length : Int) ≤ 9223372036854775807 := by omega
    go_enter Try.func7, Try.ntmps7
    go_wp2_with fail
    refine (awake_any _).mono ?_
    rintro e w1 ⟨rfl, hB1⟩
    go_wp2_with fail
    refine (awake_any _).mono ?_
    rintro e w2 ⟨rfl, hB2⟩
    go_wp2
    go_ret
    exact ⟨rfl, hB1.trans (hB2.mono hB1.size)⟩
  · have hlb : decide ((60 : Int) < (l.length : Int)) = false := by simp; omega
    have hle : (l.length : Int) ≤ 60 := by omega
    go_enter Try.func7, Try.ntmps7
    go_wp2_with fail
    refine (awake_any _).mono ?_
    rintro e w1 ⟨rfl, hB1⟩
    go_wp2_with fail
    have hstart : Both W (w1.alloc (.cells #[.pointer none, .int .i64 0] 27)) w1.heap.size (.slice none 0 0) (play (l.take 0)) :=
      ⟨none, Blk.new _ _ _, .inl ⟨rfl, rfl⟩, Kd.R_nil _ _ _ _ _, hB1.trans ((below_new _ _).mono hB1.size)⟩
    go_loopg [4, 18] (l.length) (fun n wv iv wr => ∃ j : Nat, j ≤ l.length ∧ iv = .int .i64 j ∧ n = l.length - j ∧ Both W wr w1.heap.size wv (play (l.take j)) ∧ Stay (w1.alloc (.cells #[.pointer none, .int .i64 0] 27)) w1.heap.size wr)
    case atStart => exact ⟨0, by omega, rfl, rfl, hstart, Stay.refl _ _⟩
    case round =>
      obtain ⟨j, hj, rfl, hgk, ⟨q, hm, hM, hR, hB⟩, hSt⟩ := hrel
      have Agk : Aside (gk = l.length - j) := hgk
      clear hgk hstart
      have hpl := play_length (l.take j)
      have hpl2 : (l.take j).length ≤ j := List.length_take_le _ _
      by_cases hlt : j < l.length
      · obtain ⟨a, rfl, hab, e0, e1, e2⟩ := hcells j l[j] (List.getElem?_eq_getElem hlt)
        obtain ⟨x, hx⟩ : ∃ x, x = l[j] := ⟨_, rfl⟩
        rw [← hx] at e0 e1 e2
        have hxk := hks x (by rw [hx]; exact List.getElem_mem _)
        have hsnoc : play (l.take (j + 1)) = step (play (l.take j)) x := by rw [List.take_succ_eq_append_getElem hlt, ← hx, play_snoc]
        have Hs := Lib.hid hsnoc
        clear hx hsnoc
        have E0 := (hB.cell (p := a.add (j * 3)) (by rw [add_block]; exact hab)).trans e0
        have E1 : wr.cell? ((a.add (j * 3)).add 1) = some (.int .u64 x.k) := by rw [hB.cell (by rw [add_block, add_block]; exact hab), add_of_add]; exact e1
        have E2 : wr.cell? ((a.add (j * 3)).add 2) = some (.int .i64 x.v) := by rw [hB.cell (by rw [add_block, add_block]; exact hab), add_of_add]; exact e2
        have E1 : wr.cell? ⟨(a.add (j * 3)).block, (a.add (j * 3)).off + 1, none⟩ = some (.int .u64 x.k) := E1
        have E2 : wr.cell? ⟨(a.add (j * 3)).block, (a.add (j * 3)).off + 2, none⟩ = some (.int .i64 x.v) := E2
        clear e0 e1 e2
        have Hpl : (play (l.take j)).length ≤ 60 := by omega
        have hdo := do_any x hxk _ q (play (l.take j)) (by omega) _ ((hM.below (below_new wr (.cells #[.int .i64 x.kind, .int .u64 x.k, .int .i64 x.v] 30))).below (below_drew (Below.refl _ _)))
        have hm2 := (hm.alloc (.cells #[.int .i64 x.kind, .int .u64 x.k, .int .i64 x.v] 30)).drew
        have ha2 := (Blk.new wr 30 #[.int .i64 x.kind, .int .u64 x.k, .int .i64 x.v]).drew
        have x0 := hm2.cell 0
        have x1 := hm2.cell 1
        have y0 := ha2.cell 0
        have y1 := ha2.cell 1
        have y2 := ha2.cell 2
        simp at x0 x1 y0 y1 y2
        have hwf := want_f (rising_play (l.take j)) (by omega) x
        have hBa : Below W.heap.size W (wr.alloc (.cells #[.int .i64 x.kind, .int .u64 x.k, .int .i64 x.v] 30)).drew := below_drew (hB.trans ((below_new _ _).mono hB.size))
        have hRa := (Kd.R_below hR (below_new wr (.cells #[.int .i64 x.kind, .int .u64 x.k, .int .i64 x.v] 30)))
        have hRd := Kd.R_below hRa (below_drew (Below.refl _ _))
        have Hwf := Lib.hid hwf
        clear hwf
        go_wp2_with fail
        go_cut [4] (fun wv wc => Both W wc w1.heap.size wv (play (l.take (j + 1))) ∧ Stay (w1.alloc (.cells #[.pointer none, .int .i64 0] 27)) w1.heap.size wc)
        case first =>
          go_region_law (first
            | (go_simp; go_at_call 11; refine hdo.mono ?_; rintro e w2 ⟨q2, rfl, hM2, hB2⟩; have hm3 := hm2.keep hB2; have ha3 := ha2.keep hB2; have z0 := hm3.cell 0; have z1 := hm3.cell 1; have z2 := ha3.cell 0; have z3 := ha3.cell 1; have z4 := ha3.cell 2; simp at z0 z1 z2 z3 z4; have hR2 := Kd.R_bound (Kd.R_below hRd hB2))
            | (go_simp; go_at_call 12; refine (mandolinelaw25_want.calls _ _ _ _ _ _ _ _ W w2 (hBa.trans (hB2.mono hBa.size)) hR2 Hwf.out).mono ?_; rintro e w3 ⟨v3, rfl, hR3, hB3, hK3⟩; have hm4 := blk_kept hK3 (fun b hb => hb.2.2.2) hm3 (by decide); have ha4 := blk_kept hK3 (fun b hb => hb.2.2.2) ha3 (by decide); have t0 := hm4.cell 0; have t1 := hm4.cell 1; have t2 := ha4.cell 0; have t3 := ha4.cell 1; have t4 := ha4.cell 2; have t5 := hm4.frozen 0; have t6 := hm4.frozen 1; simp at t0 t1 t2 t3 t4))
          all_goals
            go_wp2_with fail
            go_meet
            refine ⟨?_, hSt.end_ (below_drew (below_new _ _)) hB2 hK3 (fun b hb => hb.2.2.2) _ _⟩
            rw [Hs.out]
            exact both_end hm4 hM2 (by have := hm.lt; simp; omega) hK3 (fun b hb => hb.2.2.2) hR3 hB3 hB1.size
        case rest =>
          obtain ⟨⟨q', hm', hM', hR', hB'⟩, hSt'⟩ := hcut
          have hpl3 := play_length (l.take (j + 1))
          have hpl4 : (l.take (j + 1)).length ≤ j + 1 := List.length_take_le _ _
          have hks' : ∀ x ∈ l.take (j + 1), x.k < 18446744073709551616 := fun x hx => hks x (List.mem_of_mem_take hx)
          have hkl := play_keys hks'
          have hri := rising_play (l.take (j + 1))
          obtain ⟨ls, hls⟩ : ∃ ls, ls = play (l.take (j + 1)) := ⟨_, rfl⟩
          rw [← hls] at hm' hM' hR' hpl3 hkl hri
          have Hls := Lib.hid hls
          clear hls
          have hlsl : ls.length ≤ 60 := by omega
          have z0 := hm'.cell 0
          have z1 := hm'.cell 1
          simp at z0 z1
          have hdl := HasM.depth_lt hM'
          have hdl2 := depthOf_le ls
          obtain ⟨A2, c2, rfl, hc2, hC2⟩ := R_pairs hR'
          have hd1 := RI.depthM_eq _ q' ls.length ls (depthOf ls : Int) rfl wc hM'
          clear hR hM hB hm hdo hm2 ha2 x0 x1 y0 y1 y2 hBa hRa hRd E0 E1 E2 Hwf
          have hmx : decide (max (ls.length : Int) 1 ≤ (depthOf ls : Int)) = false := by simp; omega
          have hd64 : decide ((64 : Int) < (depthOf ls : Int)) = false := by simp; omega
          go_wp2_with fail
          refine hd1.mono ?_
          rintro e w4 ⟨rfl, hB4⟩
          have hm4 := hm'.keep hB4
          have s0 := hm4.cell 0
          have s1 := hm4.cell 1
          simp at s0 s1
          have hrd := refDepth_any ls hri hkl (by omega) A2 c2 w4 (Kd.C_below hC2 hB4)
          go_wp2_with fail
          refine hrd.mono ?_
          rintro e w5 ⟨rfl, hB5⟩
          have hm5 := hm4.keep hB5
          have s0 := hm5.cell 0
          have s1 := hm5.cell 1
          simp at s0 s1
          have hlen := RI.len_any (.pointer q') ls.length w5 rfl
          go_wp2_with fail
          refine hlen.mono ?_
          rintro e w6 ⟨rfl, hB6⟩
          go_wp2_with fail
          have hBx := hB4.trans ((hB5.trans (hB6.mono hB5.size)).mono hB4.size)
          go_roundg (l.length - (j + 1))
          case measure => have := Agk.out; omega
          refine ⟨j + 1, by omega, by simp, rfl, ?_, fun b t cs hb ht hx => (hSt' b t cs hb ht hx).keep hBx⟩
          rw [← Hls.out]
          exact ⟨q', hm'.keep hBx, hM'.below hBx, Kd.R_below hR' hBx, hB'.trans (hBx.mono hB'.size)⟩
      · go_wp2
        go_ret
        exact ⟨rfl, hB⟩
end Go.Proofs.Ytkbgdbhmdpnaoaa
