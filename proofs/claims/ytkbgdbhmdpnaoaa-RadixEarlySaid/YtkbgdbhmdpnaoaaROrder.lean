/- RadixOrder: the law's walk. -/
import Derived.Test.YtkbgdbhmdpnaoaaRActs
namespace Go.Proofs.Ytkbgdbhmdpnaoaa
open Go.RowKit Go.Shelf Go.Proofs.Ytkbgdbhmdpnaoaa.Ref Go.Proofs.YtkbgdbhmdpnaoaaW.PrintWords
open RI (HasM IterAt)
attribute [local go_sem] Oper.semAt_some
theorem NoPanic.ret {Q : Exit → Act → World → Prop} {a : Act} {w : World} (h : Q .ret a w) : NoPanic Q .ret a w := h
/-- Between two rounds. -/
def OrderI (w : World) (n : Nat) (pre : List (Nat × Int)) (W : World) : Prop :=
  pre.length ≤ n ∧ (∃ v, Boxed W w.heap.size 28 v ∧ W.ownsRow w.heap.size 37 2 v pre.length (flat pre) ∧ True) ∧ Below w.heap.size w W
set_option maxRecDepth 100000 in
set_option maxHeartbeats 4000000 in
theorem order_walk (v : Value) (l : List A) (k : Nat) (hk : k < 18446744073709551616) (W : World) (hA : ActsAt W v l) :
    Calls Try.prog 4 #[v, .int .u64 k] W fun e w' => e = .returned (.bool true) ∧ Below W.heap.size W w' := by
  obtain ⟨ad, c, rfl, hmax, hks, hcells⟩ := hA
  by_cases hlen : 60 < l.length
  · have hlb : decide ((60 : Int) < (l.length : Int)) = true := by simp; omega
    have hle : (l.length : Int) ≤ 9223372036854775807 := by omega
    go_enter Try.func4, Try.ntmps4
    go_wp2_with fail
    refine (awake_any _).mono ?_
    rintro e w1 ⟨rfl, hB1⟩
    go_wp2_with fail
    refine (awake_any _).mono ?_
    rintro e w2 ⟨rfl, hB2⟩
    go_wp2
    go_ret
    exact ⟨rfl, hB1.trans (hB2.mono hB1.size)⟩
  · have hlb : decide ((60 : Int) < (l.length : Int)) = false := by simp; omega
    have hle : (l.length : Int) ≤ 60 := by omega
    refine (callsIn_wide (n := 3)).1 ?_
    refine callsIn_of_wp_marks Try.func4 rfl trivial ?_ rfl
    simp only [Try.ntmps4, List.size_toArray, List.length_cons, List.length_nil, Nat.reduceAdd, Nat.reduceSub, Array.replicate_succ, Array.replicate_zero, List.push_toArray, List.append_toArray, List.nil_append, List.cons_append]
    refine wpIn_wide.2 ?_
    refine Code.wp_mono NoPanic.imp ?_
    go_wp2_with fail
    refine (awake_any _).mono ?_
    rintro e w1 ⟨rfl, hB1⟩
    go_wp2_with fail
    have hstart : Both W (w1.alloc (.cells #[.pointer none, .int .i64 0] 27)) w1.heap.size (.slice none 0 0) (play (l.take 0)) :=
      ⟨none, Blk.new _ _ _, .inl ⟨rfl, rfl⟩, Kd.R_nil _ _ _ _ _, hB1.trans ((below_new _ _).mono hB1.size)⟩
    go_loopg [6, 23] (l.length) (fun n wv iv wr => ∃ j : Nat, j ≤ l.length ∧ iv = .int .i64 j ∧ n = l.length - j ∧ Both W wr w1.heap.size wv (play (l.take j)) ∧ Stay (w1.alloc (.cells #[.pointer none, .int .i64 0] 27)) w1.heap.size wr)
    case atStart => exact ⟨0, by omega, rfl, rfl, hstart, Stay.refl _ _⟩
    case round =>
      obtain ⟨j, hj, rfl, hgk, ⟨q, hm, hM, hR, hB⟩, hSt⟩ := hrel
      have Agk : Aside (gk = l.length - j) := hgk
      clear hgk hstart
      have hpl := play_length (l.take j)
      have hpl2 : (l.take j).length ≤ j := List.length_take_le _ _
      by_cases hlt : j < l.length
      · obtain ⟨a, rfl, hab, e0, e1, e2⟩ := hcells j l[j] (List.getElem?_eq_getElem hlt)
        obtain ⟨x, hx⟩ : ∃ x, x = l[j] := ⟨_, rfl⟩
        rw [← hx] at e0 e1 e2
        have hxk := hks x (by rw [hx]; exact List.getElem_mem _)
        have hsnoc : play (l.take (j + 1)) = step (play (l.take j)) x := by rw [List.take_succ_eq_append_getElem hlt, ← hx, play_snoc]
        have Hs := Lib.hid hsnoc
        clear hx hsnoc
        have E0 := (hB.cell (p := a.add (j * 3)) (by rw [add_block]; exact hab)).trans e0
        have E1 : wr.cell? ((a.add (j * 3)).add 1) = some (.int .u64 x.k) := by rw [hB.cell (by rw [add_block, add_block]; exact hab), add_of_add]; exact e1
        have E2 : wr.cell? ((a.add (j * 3)).add 2) = some (.int .i64 x.v) := by rw [hB.cell (by rw [add_block, add_block]; exact hab), add_of_add]; exact e2
        have E1 : wr.cell? ⟨(a.add (j * 3)).block, (a.add (j * 3)).off + 1, none⟩ = some (.int .u64 x.k) := E1
        have E2 : wr.cell? ⟨(a.add (j * 3)).block, (a.add (j * 3)).off + 2, none⟩ = some (.int .i64 x.v) := E2
        clear e0 e1 e2
        have Hpl : (play (l.take j)).length ≤ 60 := by omega
        have hdo := do_any x hxk _ q (play (l.take j)) (by omega) _ ((hM.below (below_new wr (.cells #[.int .i64 x.kind, .int .u64 x.k, .int .i64 x.v] 30))).below (below_drew (Below.refl _ _)))
        have hm2 := (hm.alloc (.cells #[.int .i64 x.kind, .int .u64 x.k, .int .i64 x.v] 30)).drew
        have ha2 := (Blk.new wr 30 #[.int .i64 x.kind, .int .u64 x.k, .int .i64 x.v]).drew
        have x0 := hm2.cell 0
        have x1 := hm2.cell 1
        have y0 := ha2.cell 0
        have y1 := ha2.cell 1
        have y2 := ha2.cell 2
        simp at x0 x1 y0 y1 y2
        have hwf := want_f (rising_play (l.take j)) (by omega) x
        have hBa : Below W.heap.size W (wr.alloc (.cells #[.int .i64 x.kind, .int .u64 x.k, .int .i64 x.v] 30)).drew := below_drew (hB.trans ((below_new _ _).mono hB.size))
        have hRa := (Kd.R_below hR (below_new wr (.cells #[.int .i64 x.kind, .int .u64 x.k, .int .i64 x.v] 30)))
        have hRd := Kd.R_below hRa (below_drew (Below.refl _ _))
        have Hwf := Lib.hid hwf
        clear hwf
        go_wp2_with fail
        go_region_law (first
          | (go_simp; go_at_call 11; refine hdo.mono ?_; rintro e w2 ⟨q2, rfl, hM2, hB2⟩; have hm3 := hm2.keep hB2; have ha3 := ha2.keep hB2; have z0 := hm3.cell 0; have z1 := hm3.cell 1; have z2 := ha3.cell 0; have z3 := ha3.cell 1; have z4 := ha3.cell 2; simp at z0 z1 z2 z3 z4; have hR2 := Kd.R_bound (Kd.R_below hRd hB2))
          | (go_simp; go_at_call 12; refine (mandolinelaw25_want.calls _ _ _ _ _ _ _ _ W w2 (hBa.trans (hB2.mono hBa.size)) hR2 Hwf.out).mono ?_; rintro e w3 ⟨v3, rfl, hR3, hB3, hK3⟩; have hm4 := blk_kept hK3 (fun b hb => hb.2.2.2) hm3 (by decide); have ha4 := blk_kept hK3 (fun b hb => hb.2.2.2) ha3 (by decide); have t0 := hm4.cell 0; have t1 := hm4.cell 1; have t2 := ha4.cell 0; have t3 := ha4.cell 1; have t4 := ha4.cell 2; have t5 := hm4.frozen 0; have t6 := hm4.frozen 1; simp at t0 t1 t2 t3 t4))
        all_goals
          go_wp2_with fail
          go_roundg (l.length - (j + 1))
          case measure => have := Agk.out; omega
          refine ⟨j + 1, by omega, by simp, rfl, ?_, hSt.end_ (below_drew (below_new _ _)) hB2 hK3 (fun b hb => hb.2.2.2) _ _⟩
          rw [Hs.out]
          exact both_end hm4 hM2 (by have := hm.lt; simp; omega) hK3 (fun b hb => hb.2.2.2) hR3 hB3 hB1.size
      · have hje : j = l.length := by omega
        subst hje
        rw [List.take_length] at hM hR hm hpl
        have hri := rising_play l
        obtain ⟨ls, hls⟩ : ∃ ls, ls = play l := ⟨_, rfl⟩
        rw [← hls] at hm hM hR hpl hri
        have hkl : ∀ x ∈ ls, x.1 < 18446744073709551616 := by rw [hls]; exact play_keys hks
        clear hls
        have hlsl : ls.length ≤ 60 := by omega
        have z0 := hm.cell 0
        have z1 := hm.cell 1
        simp at z0 z1
        obtain ⟨A2, c2, rfl, hc2, hC2⟩ := R_pairs hR
        have hM' := hM.mono (ok' := (· < wr.heap.size)) (fun b h _ => h)
        obtain ⟨wo, rfl⟩ : ∃ wo : World, wo = wr := ⟨_, rfl⟩
        obtain ⟨xs, hxs⟩ : ∃ xs, xs = rfrom ls k := ⟨_, rfl⟩
        have Hxs := Lib.hid hxs
        have hxl : xs.length ≤ 60 := by rw [hxs]; exact Nat.le_trans (List.length_filter_le _ _) hlsl
        clear hxs
        have hmlt := hm.lt
        have hma := hm.alloc (.cells #[.slice none 0 0] 28)
        have z2 := hma.cell 0
        have z3 := hma.cell 1
        simp at z2 z3
        go_wp2_with fail
        refine (RI.mapFrom_any q ls.length k _).mono ?_
        rintro e w2 ⟨v, B, rfl, hv, hBv⟩
        obtain ⟨rfl, hv1, hv2⟩ := hv
        have hB0 := below_new wo (.cells #[.slice none 0 0] 28)
        have b3 := Boxed.new wo 28 (.slice none 0 0)
        have b3' : Boxed w2 wo.heap.size 28 (.slice none 0 0) := (hBv.block _ b3.lt).trans b3
        have hB2 : Below wo.heap.size wo w2 := hB0.trans (hBv.mono (by simp <;> omega))
        have hsz := b3'.lt
        obtain ⟨i0, hi, hz0, hz1, hz2⟩ := info_parts infoPair
        have hfn := fun w a b => run_eql_func_nil (P := Try.prog) w Try.underlying43 (.func 35) a b
        go_wp2_with fail
        refine (wpIn_wide (n := 3)).1 ?_
        gi_wp2
        refine wpIn_rangeFunc_ownG rfl (by omega) (gf := 35) (lb := #[.pointer (some ⟨B, 0, none⟩), .pointer (some ⟨B + 1, 0, none⟩)]) rfl trivial (enters_of Try.func35 (by kernel_rfl) rfl)
          (IterAt.stops 2 wo.heap.size hk ⟨rfl, hv1, hv2⟩ ls hB2.size (hM'.below hB2)) belowK_t (belowK_b hB2.size) (Below.refl _ _) (fun _ => rfl)
          (OrderI wo xs.length) (fun _ _ _ => False)
          (OwnFrom.and (ownFrom_pure _ _) (OwnFrom.and (Own.from (holdsRow_own wo.heap.size wo.heap.size _ _ _ _ _ (fun _ _ => True)) _) (ownFrom_below (Nat.le_refl _) hB2.size)))
          (fun _ _ _ _ _ hs _ _ => hs)
          ⟨by simp, ⟨_, b3', World.ownsRow_nil _ _ _ _, trivial⟩, hB2⟩
          (fun x => { tmps := #[Value.slice ad l.length c, Value.int IntKind.u64 k, undef, undef, Value.bool false, Value.pointer (some ⟨w1.heap.size, 0, none⟩), Value.slice A2 ls.length c2, undef, u8, Value.pointer (some ⟨wo.heap.size, 0, none⟩), Value.func (.func 35) #[] #[Value.pointer (some ⟨B, 0, none⟩), Value.pointer (some ⟨B + 1, 0, none⟩)], .int .u64 x.1, .int .i64 x.2, Value.bool true, Value.bool false, Value.bool false, Value.slice ad l.length c, Value.int IntKind.i64 l.length, Value.bool false, Value.bool false, undef, Value.slice ad l.length c, Value.int IntKind.i64 l.length, Value.int IntKind.i64 l.length, Value.bool false, u25, u26, u27, u28, u29, u30, u31, u32, u33, Value.agg #[Value.pointer q, Value.int IntKind.i64 ls.length], Value.int IntKind.u64 k, Value.func (.func 35) #[] #[Value.pointer (some ⟨B, 0, none⟩), Value.pointer (some ⟨B + 1, 0, none⟩)], Value.func (.func 35) #[] #[Value.pointer (some ⟨B, 0, none⟩), Value.pointer (some ⟨B + 1, 0, none⟩)], Value.bool false, Value.func (.func 35) #[] #[Value.pointer (some ⟨B, 0, none⟩), Value.pointer (some ⟨B + 1, 0, none⟩)], .int .u64 x.1, .int .i64 x.2, undef, undef, undef, undef, undef, undef, undef, undef, undef, undef, undef, undef, undef, undef], defers := [] }) ?assign ?body ?done ?stop
        case assign =>
          intro l x W K hK
          dsimp only [RI.encs]
          gi_wp2
          exact hK
        case body =>
          rintro l pre x W ⟨_, ⟨v, hvb, hrow, _⟩, hBW⟩ hN
          have hv := hvb.cell
          have hvf := hvb.frozen
          have hN' : pre.length + 1 ≤ xs.length := by rw [Hxs.out]; exact hN
          have HN := Lib.hid hN'
          have hkle : pre.length + 1 ≤ 60 := by omega
          have hgt : decide ((200 : Int) < ((pre.length + 1 : Nat) : Int)) = false := by simp; omega
          have hl1 : pre.length + 1 ≤ maxLen := by unfold maxLen; omega
          have hl2 : (pre.length + 1) * 16 ≤ 140737488355328 := by omega
          have hl3 : wo.heap.size ≤ (W.alloc (Obj.cells #[Value.int IntKind.u64 ↑x.fst, Value.int IntKind.i64 x.snd] 37)).heap.size := by have := hBW.size; simp; omega
          have HL1 := Lib.hid hl1; have HL2 := Lib.hid hl2; have HL3 := Lib.hid hl3
          clear hl1 hl2 hl3
          gi_wp2_with (gi_at_builtin; refine wpListIn_append_own _ rfl _ _ 28 rfl wo.heap.size 37 i0 (.agg #[.int .u64 0, .int .i64 0]) 2 16 Try.underlying28 hi hz0 hz1 hz2 rfl (by decide) _ _ _ rfl (hrow.alloc _) ⟨W.heap.size, 0, none⟩ 1 1 [.int .u64 x.1, .int .i64 x.2] rfl rfl (World.news_of_block (cs := #[.int .u64 x.1, .int .i64 x.2]) (t := 37) (fr := (0, 0)) (heap_alloc_new W _)) (by simp [Value.oneCell']) HL1.out HL2.out HL3.out ?_; intro v' w2 hown' hgrow _; obtain ⟨g', cap', rfl⟩ := ownsRow_succ hown'; obtain ⟨hx1, hx2, hx3, hx4, hx5⟩ := hvb.appended (by decide) hrow hBW.size (by omega) hown' hgrow; have hc1 := hx1.cell; have hf1 := hx1.frozen)
          refine ⟨hx4.from _, hx5, by rw [List.length_append]; exact HN.out, ⟨_, hx2, ?_, trivial⟩, hBW.trans hx5⟩
          rw [flat_snoc, List.length_append]
          exact hx3
        case done =>
          rintro D ys V hD rfl ⟨hlen, ⟨v, hvb, hrow, _⟩, hBW⟩ hK
          clear hlen
          have hxl' : (rfrom ls k).length ≤ 60 := by rw [← Hxs.out]; exact hxl
          obtain ⟨A4, c4, rfl, hc4, hC4⟩ := R_pairs (R_of_own hrow)
          have hv := hvb.cell
          have hS : ∀ w', Below V.heap.size V w' → (fun w' : World => Below V.heap.size V w' ∧ w'.cell? ⟨wo.heap.size, 0, none⟩ = some (.slice A4 (rfrom ls k).length c4)) w' := fun w' h => ⟨h, (h.cell (p := ⟨wo.heap.size, 0, none⟩) hvb.lt).trans hv⟩
          have hb0 : Below V.heap.size V V.drew := below_drew (Below.refl _ _)
          have hfr := from_any ls (by omega) k A2 c2 V.drew (Kd.C_below hC2 (hBW.trans (hb0.mono hBW.size))) hc2
          have hsame := fun A1 c1 A2 c2 w' => same_any (rfrom ls k) (by omega) A1 c1 A2 c2 w'
          dsimp only
          go_wp2_with fail
          go_region_held3 (fun w' : World => Below V.heap.size V w' ∧ w'.cell? ⟨wo.heap.size, 0, none⟩ = some (.slice A4 (rfrom ls k).length c4))
            (exact hS _ (by assumption))
            (first
              | (go_at_call 17; with_reducible refine hfr.mono ?_; rintro e w5 ⟨A5, c5, rfl, hc5, hC5, hB5⟩; have bw5 := hb0.trans (hB5.mono hb0.size))
              | (go_at_call 13; with_reducible refine (hsame A4 c4 A5 c5 _ (Kd.C_below hC4 bw5) hc4 hC5 hc5).mono ?_; rintro e w6 ⟨rfl, hB6⟩; have bw6 := bw5.trans (hB6.mono bw5.size)))
          go_wp2
          have hDlt : D < V.heap.size := by
            rcases Nat.lt_or_ge D V.heap.size with h | h
            · exact h
            · rw [Array.getElem?_eq_none h] at hK; cases hK
          have hK6 := (bw6.block D hDlt).trans hK
          refine NoPanic.ret ?_
          refine ⟨by simp, .inl ⟨_, _, rfl, run_takeDeferred hK6, ?_⟩⟩
          have hx := hB.trans ((hBW.trans (bw6.mono hBW.size)).mono hB.size)
          exact ⟨_, results_tmp rfl _ _ _, rfl, hx.trans (belowK_b (w := W) (Nat.le_refl _) _ D _ _ (by have := hB2.size; have := hB.size; omega) hK6 rfl rfl)⟩
        case stop =>
          rintro D c pre W _ _ h _
          exact h.elim
end Go.Proofs.Ytkbgdbhmdpnaoaa
