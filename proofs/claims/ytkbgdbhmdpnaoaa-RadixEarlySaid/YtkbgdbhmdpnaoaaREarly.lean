/- RadixEarly: the law's walk. -/
import Derived.Test.YtkbgdbhmdpnaoaaRActs
import Derived.Test.YtkbgdbhmdpnaoaaROrder
namespace Go.Proofs.Ytkbgdbhmdpnaoaa
open Go.RowKit Go.Shelf Go.Proofs.Ytkbgdbhmdpnaoaa.Ref Go.Proofs.YtkbgdbhmdpnaoaaW.PrintWords
open RI (HasM IterAt)
attribute [local go_sem] Oper.semAt_some
/-- The program's map and the document's, both in variables. -/
def BothV (W wr : World) (Mb : Nat) (l : List (Nat × Int)) : Prop :=
  ∃ q wv, Blk wr Mb 27 #[.pointer q, .int .i64 l.length] ∧ Blk wr (Mb + 1) 28 #[wv] ∧ HasM (fun b => b ≠ Mb ∧ b ≠ Mb + 1) wr q l ∧ Kd.R k37 37 wr W.heap.size (fun _ => True) wv (l.map toS) ∧ Below W.heap.size W wr
/-- Between two rounds; and at a round that ends the asking. -/
def EI (t : Nat) (ls : List (Nat × Int)) (w8 : World) (pre : List (Nat × Int)) (W : World) : Prop := (pre.length ≤ t ∧ pre <+: ls) ∧ Blk W w8.heap.size 3 #[.int .i64 pre.length] ∧ Below w8.heap.size w8 W
def EIx (t : Nat) (ls : List (Nat × Int)) (e : Nat) (w8 : World) (c : Code) (pre : List (Nat × Int)) (W : World) : Prop := ¬ pre <+: ls ∨ (c = .exit e ∧ pre.length = t + 1 ∧ Blk W w8.heap.size 3 #[.int .i64 (t + 1)] ∧ Below w8.heap.size w8 W)
theorem EIx_own (t : Nat) (ls : List (Nat × Int)) (e : Nat) (w8 : World) {B : Nat} (hB : w8.heap.size ≤ B) (c : Code) : OwnFrom B (EIx t ls e w8 c) := by
  intro s W W' row hs hg hr
  rcases hs with hs | ⟨h1, h0, h2, h3⟩
  · exact .inl hs
  · exact .inr ⟨h1, h0, own_blk B _ _ (fun _ : Unit => _) () W W' row h2 hg hr, ownFrom_below (Nat.le_refl _) hB () W W' row h3 hg hr⟩
theorem snoc_at {ls pre : List (Nat × Int)} {x : Nat × Int} (h : pre ++ [x] <+: ls) : ∃ h : pre.length < ls.length, ls[pre.length] = x := by
  obtain ⟨r, rfl⟩ := h
  exact ⟨by simp <;> omega, by simp⟩
theorem snoc_pre {ls pre : List (Nat × Int)} {k : Nat} {v : Int} (h : pre <+: ls) (hl : pre.length < ls.length) (e1 : k = ls[pre.length].1) (e2 : v = ls[pre.length].2) : pre ++ [(k, v)] <+: ls := by
  obtain ⟨r, rfl⟩ := h
  cases r with
  | nil => simp at hl
  | cons y r => simp at e1 e2; subst e1 e2; exact ⟨r, by simp⟩
theorem rfrom_zero (ls : List (Nat × Int)) : rfrom ls 0 = ls := by simp [rfrom]
/-- What two boxes hold stays. -/
def Two (wr : World) (Mb tn : Nat) (Sb : Nat) : Prop := Blk wr Sb 5 #[.int .u8 tn] ∧ Blk wr (Sb + 1) 4 #[.bool false]
set_option maxRecDepth 100000 in
set_option maxHeartbeats 4000000 in
theorem early_walk (v : Value) (l : List A) (tn : Nat) (htn : tn < 256) (W : World) (hA : ActsAt W v l) :
    Calls Try.prog 9 #[v, .int .u8 tn] W fun e w' => e = .returned (.bool true) ∧ Below W.heap.size W w' := by
  obtain ⟨ad, c, rfl, hmax, hks, hcells⟩ := hA
  have hB00 := (below_new W (.cells #[.int .u8 tn] 5)).alloc (by simp) (.cells #[.bool false] 4)
  have k0 := (Blk.new W 5 #[.int .u8 tn]).alloc (.cells #[.bool false] 4)
  have k1 := Blk.new (W.alloc (.cells #[.int .u8 tn] 5)) 4 #[.bool false]
  rw [World.size_alloc] at k1
  by_cases hlen : 60 < l.length
  · have hlb : decide ((60 : Int) < (l.length : Int)) = true := by simp; omega
    have hle : (l.length : Int) ≤ 9223372036854775807 := by omega
    go_enter Try.func9, Try.ntmps9
    go_wp2_with fail
    refine (awake_any _).mono ?_
    rintro e w1 ⟨rfl, hB1⟩
    have k2 := k1.keep hB1
    have hBx := hB00.trans (hB1.mono hB00.size)
    go_wp2_with fail
    refine (awake_any _).mono ?_
    rintro e w2 ⟨rfl, hB2⟩
    have k3 := k2.keep hB2
    have f3 := k3.frozen 0
    have c3 := k3.cell 0
    simp at c3
    go_wp2
    have c4 := (k3.set_ 0 (.bool true)).cell 0
    simp at c4
    refine bodyPost_ret (v := .bool true) (by simp [results, Try.results9, go_sem, c4]) rfl ⟨rfl, (hBx.trans (hB2.mono hBx.size)).setCell (by simp) _⟩
  · have hlb : decide ((60 : Int) < (l.length : Int)) = false := by simp; omega
    have hle : (l.length : Int) ≤ 60 := by omega
    refine (callsIn_wide (n := 3)).1 ?_
    refine callsIn_of_wp_marks Try.func9 rfl trivial ?_ rfl
    simp only [Try.ntmps9, List.size_toArray, List.length_cons, List.length_nil, Nat.reduceAdd, Nat.reduceSub, Array.replicate_succ, Array.replicate_zero, List.push_toArray, List.append_toArray, List.nil_append, List.cons_append]
    refine wpIn_wide.2 ?_
    refine Code.wp_mono NoPanic.imp ?_
    go_wp2_with fail
    refine (awake_any _).mono ?_
    rintro e w1 ⟨rfl, hB1⟩
    have hBx := hB00.trans (hB1.mono hB00.size)
    have k2 := k0.keep hB1
    have k3 := k1.keep hB1
    have hlt1 := k3.lt
    go_wp2_with fail
    have hm0 := (Blk.new w1 27 #[.pointer none, .int .i64 0]).alloc (.cells #[.slice none 0 0] 28)
    have hv0 := Blk.new (w1.alloc (.cells #[.pointer none, .int .i64 0] 27)) 28 #[.slice none 0 0]
    rw [World.size_alloc] at hv0
    have hBy := (below_new w1 (.cells #[.pointer none, .int .i64 0] 27)).alloc (by simp) (.cells #[.slice none 0 0] 28)
    have hstart : BothV W ((w1.alloc (.cells #[.pointer none, .int .i64 0] 27)).alloc (.cells #[.slice none 0 0] 28)) w1.heap.size (play (l.take 0)) :=
      ⟨none, _, hm0, hv0, .inl ⟨rfl, rfl⟩, Kd.R_nil _ _ _ _ _, hBx.trans (hBy.mono hBx.size)⟩
    have htwo : Two ((w1.alloc (.cells #[.pointer none, .int .i64 0] 27)).alloc (.cells #[.slice none 0 0] 28)) w1.heap.size tn W.heap.size := ⟨k2.keep hBy, k3.keep hBy⟩
    go_loopg [23] (l.length) (fun n iv wr => ∃ j : Nat, j ≤ l.length ∧ iv = .int .i64 j ∧ n = l.length - j ∧ BothV W wr w1.heap.size (play (l.take j)) ∧ Two wr w1.heap.size tn W.heap.size)
    case atStart => exact ⟨0, by omega, rfl, rfl, hstart, htwo⟩
    case round =>
      obtain ⟨j, hj, rfl, hgk, ⟨q, wv, hm, hw, hM, hR, hB⟩, hT0, hT1⟩ := hrel
      have Agk : Aside (gk = l.length - j) := hgk
      clear hgk hstart htwo hm0 hv0
      have hpl := play_length (l.take j)
      have hpl2 : (l.take j).length ≤ j := List.length_take_le _ _
      by_cases hlt : j < l.length
      · obtain ⟨a, rfl, hab, e0, e1, e2⟩ := hcells j l[j] (List.getElem?_eq_getElem hlt)
        obtain ⟨x, hx⟩ : ∃ x, x = l[j] := ⟨_, rfl⟩
        rw [← hx] at e0 e1 e2
        have hxk := hks x (by rw [hx]; exact List.getElem_mem _)
        have hsnoc : play (l.take (j + 1)) = step (play (l.take j)) x := by rw [List.take_succ_eq_append_getElem hlt, ← hx, play_snoc]
        have Hs := Lib.hid hsnoc
        clear hx hsnoc
        have E0 := (hB.cell (p := a.add (j * 3)) (by rw [add_block]; exact hab)).trans e0
        have E1 : wr.cell? ((a.add (j * 3)).add 1) = some (.int .u64 x.k) := by rw [hB.cell (by rw [add_block, add_block]; exact hab), add_of_add]; exact e1
        have E2 : wr.cell? ((a.add (j * 3)).add 2) = some (.int .i64 x.v) := by rw [hB.cell (by rw [add_block, add_block]; exact hab), add_of_add]; exact e2
        have E1 : wr.cell? ⟨(a.add (j * 3)).block, (a.add (j * 3)).off + 1, none⟩ = some (.int .u64 x.k) := E1
        have E2 : wr.cell? ⟨(a.add (j * 3)).block, (a.add (j * 3)).off + 2, none⟩ = some (.int .i64 x.v) := E2
        clear e0 e1 e2
        have Hpl : (play (l.take j)).length ≤ 60 := by omega
        have hdo := do_any x hxk _ q (play (l.take j)) (by omega) _ ((hM.below (below_new wr (.cells #[.int .i64 x.kind, .int .u64 x.k, .int .i64 x.v] 30))).below (below_drew (Below.refl _ _)))
        have hm2 := (hm.alloc (.cells #[.int .i64 x.kind, .int .u64 x.k, .int .i64 x.v] 30)).drew
        have ha2 := (Blk.new wr 30 #[.int .i64 x.kind, .int .u64 x.k, .int .i64 x.v]).drew
        have x0 := hm2.cell 0
        have x1 := hm2.cell 1
        have y0 := ha2.cell 0
        have y1 := ha2.cell 1
        have y2 := ha2.cell 2
        simp at x0 x1 y0 y1 y2
        have hwf := want_f (rising_play (l.take j)) (by omega) x
        have hBa : Below W.heap.size W (wr.alloc (.cells #[.int .i64 x.kind, .int .u64 x.k, .int .i64 x.v] 30)).drew := below_drew (hB.trans ((below_new _ _).mono hB.size))
        have hRa := (Kd.R_below hR (below_new wr (.cells #[.int .i64 x.kind, .int .u64 x.k, .int .i64 x.v] 30)))
        have hRd := Kd.R_below hRa (below_drew (Below.refl _ _))
        have Hwf := Lib.hid hwf
        clear hwf
        have hw2 := (hw.alloc (.cells #[.int .i64 x.kind, .int .u64 x.k, .int .i64 x.v] 30)).drew
        have x2 := hw2.cell 0
        simp at x2
        go_wp2_with fail
        go_region_law (first
          | (go_simp; go_at_call 11; refine hdo.mono ?_; rintro e w2 ⟨q2, rfl, hM2, hB2⟩; have hm3 := hm2.keep hB2; have ha3 := ha2.keep hB2; have hw3 := hw2.keep hB2; have z0 := hm3.cell 0; have z1 := hm3.cell 1; have z2 := ha3.cell 0; have z3 := ha3.cell 1; have z4 := ha3.cell 2; have z5 := hw3.cell 0; simp at z0 z1 z2 z3 z4 z5; have hR2 := Kd.R_bound (Kd.R_below hRd hB2))
          | (go_simp; go_at_call 12; refine (mandolinelaw25_want.calls _ _ _ _ _ _ _ _ W w2 (hBa.trans (hB2.mono hBa.size)) hR2 Hwf.out).mono ?_; rintro e w3 ⟨v3, rfl, hR3, hB3, hK3⟩; have hm4 := blk_kept hK3 (fun b hb => hb.2.2.2) hm3 (by decide); have ha4 := blk_kept hK3 (fun b hb => hb.2.2.2) ha3 (by decide); have hw4 := blk_kept hK3 (fun b hb => hb.2.2.2) hw3 (by decide); have t0 := hm4.cell 0; have t1 := hm4.cell 1; have t2 := ha4.cell 0; have t3 := ha4.cell 1; have t4 := ha4.cell 2; have t5 := hm4.frozen 0; have t6 := hm4.frozen 1; have t7 := hw4.cell 0; have t8 := hw4.frozen 0; simp at t0 t1 t2 t3 t4 t7; obtain ⟨A3, c3, rfl, hc3, hC3⟩ := R_pairs (ls := step (play (l.take j)) x) hR3; have hw5 := (hw4.far (p := ⟨w1.heap.size, 0, none⟩) (by simp) (.pointer q2)).far (p := ⟨w1.heap.size, 1, none⟩) (by simp) (.int .i64 (step (play (l.take j)) x).length); have t9 : ((w3.setCell ⟨w1.heap.size, 0, none⟩ (.pointer q2)).setCell ⟨w1.heap.size, 1, none⟩ (.int .i64 (step (play (l.take j)) x).length)).cell? ⟨w1.heap.size + 1, 0, none⟩ = some wv := hw5.cell 0; have t10 := hw5.frozen 0; have hm5 := hm4.far (p := ⟨w1.heap.size + 1, 0, none⟩) (by simp) (.slice A3 (step (play (l.take j)) x).length c3); have t11 : (w3.setCell ⟨w1.heap.size + 1, 0, none⟩ (.slice A3 (step (play (l.take j)) x).length c3)).cell? ⟨w1.heap.size, 0, none⟩ = some (.pointer q) := hm5.cell 0; have t12 : (w3.setCell ⟨w1.heap.size + 1, 0, none⟩ (.slice A3 (step (play (l.take j)) x).length c3)).cell? ⟨w1.heap.size, 1, none⟩ = some (.int .i64 (play (l.take j)).length) := hm5.cell 1; have t13 := hm5.frozen 0; have t14 := hm5.frozen 1))
        all_goals
          go_wp2_with fail
          go_roundg (l.length - (j + 1))
          case measure => have := Agk.out; omega
          have hmlt := hm.lt
          have hwlt := hw.lt
          have hM4 : HasM (fun b => b ≠ w1.heap.size ∧ b ≠ w1.heap.size + 1) w3 q2 (step (play (l.take j)) x) := (hM2.keepT (fun b cs h => blk_kept hK3 (fun b hb => hb.2.2.2) h (by decide))).mono fun b _ h => by
            rcases h with h | h
            · exact h
            · simp at h; omega
          have nm : ∀ q, q ∈ 37 :: k37.E → q ≠ 27 := by simp [k37, Kd.iso, Kd.pair, Kd.int, Kd.scalar]
          have ns : ∀ q, q ∈ 37 :: k37.E → q ≠ 28 := by simp [k37, Kd.iso, Kd.pair, Kd.int, Kd.scalar]
          have hge : W.heap.size ≤ w1.heap.size := by omega
          have k4 := blk_kept hK3 (fun b hb => hb.2.2.2) ((hT0.alloc (.cells #[.int .i64 x.kind, .int .u64 x.k, .int .i64 x.v] 30)).drew.keep hB2) (by decide)
          have k5 := blk_kept hK3 (fun b hb => hb.2.2.2) ((hT1.alloc (.cells #[.int .i64 x.kind, .int .u64 x.k, .int .i64 x.v] 30)).drew.keep hB2) (by decide)
          refine ⟨j + 1, by omega, by simp, rfl, ?_, ((k4.far (p := ⟨w1.heap.size, 0, none⟩) (by simp; omega) _).far (p := ⟨w1.heap.size, 1, none⟩) (by simp; omega) _).far (p := ⟨w1.heap.size + 1, 0, none⟩) (by simp; omega) _, ((k5.far (p := ⟨w1.heap.size, 0, none⟩) (by simp; omega) _).far (p := ⟨w1.heap.size, 1, none⟩) (by simp; omega) _).far (p := ⟨w1.heap.size + 1, 0, none⟩) (by simp; omega) _⟩
          rw [Hs.out]
          exact ⟨q2, _, ((hm4.set_ 0 _).set_ 1 _).far (p := ⟨w1.heap.size + 1, 0, none⟩) (by simp) _, hw5.set_ 0 _,
            ((hM4.far (q := ⟨w1.heap.size, 0, none⟩) (by simp) _).far (q := ⟨w1.heap.size, 1, none⟩) (by simp) _).far (q := ⟨w1.heap.size + 1, 0, none⟩) (by simp) _,
            Kd.R_mono (Kd.R_set (Kd.R_set (Kd.R_set hR3 hm4 nm 0 _) (hm4.set_ 0 _) nm 1 _) hw5 ns 0 _) (fun _ _ => trivial),
            ((hB3.setCell (p := ⟨w1.heap.size, 0, none⟩) hge _).setCell (p := ⟨w1.heap.size, 1, none⟩) hge _).setCell (p := ⟨w1.heap.size + 1, 0, none⟩) (by simp; omega) _⟩
      · have hje : j = l.length := by omega
        subst hje
        rw [List.take_length] at hM hR hm hpl
        have hri := rising_play l
        obtain ⟨ls, hls⟩ : ∃ ls, ls = play l := ⟨_, rfl⟩
        rw [← hls] at hm hM hR hpl hri
        have hkl : ∀ x ∈ ls, x.1 < 18446744073709551616 := by rw [hls]; exact play_keys hks
        clear hls
        have hlsl : ls.length ≤ 60 := by omega
        have z0 := hm.cell 0
        have z1 := hm.cell 1
        simp at z0 z1
        obtain ⟨A2, c2, rfl, hc2, hC2⟩ := R_pairs hR
        have hM' := hM.mono (ok' := (· < wr.heap.size)) (fun b h _ => h)
        obtain ⟨wo, rfl⟩ : ∃ wo : World, wo = wr := ⟨_, rfl⟩
        go_wp2_with fail
        refine (RI.mapAll_any q ls.length _).mono ?_
        rintro e w2 ⟨v, B, rfl, hv, hBv⟩
        obtain ⟨rfl, hv1, hv2⟩ := hv
        have hfn := fun w a b => run_eql_func_nil (P := Try.prog) w Try.underlying43 (.func 35) a b
        have hT0' := hT0.keep hBv
        have hT1' := hT1.keep hBv
        have hw' := hw.keep hBv
        have hC' := Kd.C_below hC2 hBv
        have hMv := (hM'.below hBv).mono (ok' := (· < w2.heap.size)) fun b _ h => Nat.lt_of_lt_of_le h hBv.size
        have hBW := hB.trans (hBv.mono hB.size)
        have hltw := hw'.lt
        clear hT0 hT1 hw hC2 hM' hM hR hm z0 z1 hks hcells
        go_wp2_with fail
        refine wp_loop_rounds 3 ?_
        rw [rounds_succ]
        go_wp2_with fail
        refine (wpIn_wide (n := 3)).1 ?_
        have hT0 := hT0'; have hT1 := hT1'; have hw := hw'; have hC := hC'
        gi_wp2
        refine wpIn_rangeFunc_ownG rfl (by omega) (gf := 35) (lb := #[.pointer (some ⟨B, 0, none⟩), .pointer (some ⟨B + 1, 0, none⟩)]) rfl trivial (enters_of Try.func35 (by kernel_rfl) rfl)
          (IterAt.stops 2 w2.heap.size (by decide) (IterAt.keep ⟨rfl, hv1, hv2⟩ (below_new w2 (.cells #[.int .i64 0] 3))) ls (by simp) (hMv.below (below_new w2 (.cells #[.int .i64 0] 3)))) belowK_t (belowK_b (by simp)) (Below.refl _ _) (fun _ => rfl)
          (EI (tn % 20) ls w2) (EIx (tn % 20) ls 4 w2)
          (OwnFrom.and (ownFrom_pure _ _) (OwnFrom.and (own_blk _ _ _ _) (ownFrom_below (Nat.le_refl _) (by simp))))
          (EIx_own (tn % 20) ls 4 w2 (by simp))
          ⟨⟨by simp, by simp⟩, Blk.new _ _ _, below_new _ _⟩
          (fun x => { tmps := #[Value.slice ad l.length c, Value.int IntKind.u8 tn, undef, Value.pointer (some ⟨W.heap.size, 0, none⟩), Value.pointer (some ⟨W.heap.size + 1, 0, none⟩), Value.pointer (some ⟨w1.heap.size, 0, none⟩), Value.pointer (some ⟨w1.heap.size + 1, 0, none⟩), undef, u8, Value.func (.func 35) #[] #[Value.pointer (some ⟨B, 0, none⟩), Value.pointer (some ⟨B + 1, 0, none⟩)], Value.pointer (some ⟨w2.heap.size, 0, none⟩), .int .u64 x.1, .int .i64 x.2, Value.bool true, Value.bool false, Value.bool false, Value.slice ad l.length c, Value.int IntKind.i64 l.length, Value.bool false, Value.bool false, undef, Value.slice ad l.length c, Value.int IntKind.i64 l.length, Value.int IntKind.i64 l.length, Value.bool false, u25, u26, u27, u28, u29, u30, u31, u32, u33, Value.agg #[Value.pointer q, Value.int IntKind.i64 ls.length], Value.func (.func 35) #[] #[Value.pointer (some ⟨B, 0, none⟩), Value.pointer (some ⟨B + 1, 0, none⟩)], Value.func (.func 35) #[] #[Value.pointer (some ⟨B, 0, none⟩), Value.pointer (some ⟨B + 1, 0, none⟩)], Value.bool false, Value.int IntKind.i64 0, Value.bool true, Value.func (.func 35) #[] #[Value.pointer (some ⟨B, 0, none⟩), Value.pointer (some ⟨B + 1, 0, none⟩)], .int .u64 x.1, .int .i64 x.2, undef, undef, undef, undef, undef, undef, undef, undef, undef, undef, undef, undef, undef, undef, undef, undef, undef, undef, undef, undef, undef, undef, undef, undef, undef, undef, undef, undef, undef, undef, undef, undef, undef, undef, undef, undef, undef, undef, undef], defers := [] }) ?assign ?body ?done ?stop
        case assign =>
          intro l' x Wr K hK
          dsimp only [RI.encs]
          gi_wp2
          exact hK
        case body =>
          rintro l' pre ⟨xk, xv⟩ Wr ⟨⟨hlen', hpre⟩, hn, hBr⟩ _
          have krW := hT1.keep hBr
          have ktW := hT0.keep hBr
          have kwW := hw.keep hBr
          have n0 := hn.cell 0
          have nf := hn.frozen 0
          have rW := krW.cell 0
          have rf := krW.frozen 0
          have tW := ktW.cell 0
          have wW := kwW.cell 0
          simp at n0 rW tW wW
          by_cases hin : pre.length < ls.length
          · obtain ⟨pa, rfl, hp1, hp2⟩ := pair_at (Kd.C_below hC hBr) pre.length hin
            gi_wp2_with fail
            try (any_goals (exfalso; omega))
            · refine ⟨(KeepsOthers.setCell _ _ _).from _, .inl fun h => ?_⟩
              obtain ⟨_, e⟩ := snoc_at h
              first
                | (have hne : ¬ (xk : Int) = (ls[pre.length].1 : Int) := by assumption
                   rw [e] at hne; exact hne rfl)
                | (have hne : (xv != ls[pre.length].2) = true := by assumption
                   rw [e] at hne; simp at hne)
            · refine ⟨(KeepsOthers.setCell _ _ _).from _, .inl fun h => ?_⟩
              obtain ⟨_, e⟩ := snoc_at h
              first
                | (have hne : ¬ (xk : Int) = (ls[pre.length].1 : Int) := by assumption
                   rw [e] at hne; exact hne rfl)
                | (have hne : (xv != ls[pre.length].2) = true := by assumption
                   rw [e] at hne; simp at hne)
            · have hgt : (tn : Int) % 20 < (pre.length : Int) + 1 := by assumption
              have hpl' : pre.length = tn % 20 := by omega
              refine ⟨(KeepsOthers.setCell _ _ _).from _, .inr ⟨rfl, by simp; omega, ?_, hBr.setCell (by simp) _⟩⟩
              rw [← hpl']
              exact hn.set_ 0 _
            · have hgt : (pre.length : Int) + 1 ≤ (tn : Int) % 20 := by assumption
              have hke : (xk : Int) = (ls[pre.length].1 : Int) := by assumption
              have hve : (xv != ls[pre.length].2) = false := by assumption
              refine ⟨(KeepsOthers.setCell _ _ _).from _, (Below.refl _ _).setCell (by simp) _, ⟨by simp; omega, snoc_pre hpre hin (by omega) (by simpa using hve)⟩, ?_, hBr.setCell (by simp) _⟩
              rw [List.length_append]
              exact hn.set_ 0 _
          · have hge : decide ((ls.length : Int) ≤ (pre.length : Int)) = true := by simp; omega
            gi_wp2_with fail
            try (any_goals (exfalso; omega))
            · refine ⟨(KeepsOthers.setCell _ _ _).from _, .inl fun h => ?_⟩
              obtain ⟨hh, _⟩ := snoc_at h
              exact hin hh
        case done =>
          rintro D ys V hD rfl ⟨⟨hlen', _⟩, hn, hBr⟩ hK
          rw [rfrom_zero] at hlen' hn
          have hmin : ls.length = min ls.length (tn % 20 + 1) := by omega
          have hn : Blk V w2.heap.size 3 #[.int .i64 (min ls.length (tn % 20 + 1) : Nat)] := by rw [← hmin]; exact hn
          clear hmin hlen'
          have krV := hT1.keep hBr
          have ktV := hT0.keep hBr
          have kwV := hw.keep hBr
          have n0 := hn.cell 0
          have nf := hn.frozen 0
          have rV := krV.cell 0
          have rf := krV.frozen 0
          have tV := ktV.cell 0
          have wV := kwV.cell 0
          simp at n0 rV tV wV
          dsimp only
          go_wp2_with fail
          rw [rounds_succ]
          go_wp2_with fail
          refine (wpIn_wide (n := 3)).1 ?_
          have hT02 := ktV
          have hT12 := krV
          have hw2 := kwV
          have hv12 := hv1.keep hBr
          have hv22 := hv2.keep hBr
          have hC2 := Kd.C_below hC hBr
          have hMv2 := (hMv.below hBr).mono (ok' := (· < V.heap.size)) fun b _ h => Nat.lt_of_lt_of_le h hBr.size
          have hltV := hw2.lt
          clear n0 nf rV rf tV wV
          gi_wp2
          refine wpIn_rangeFunc_ownG rfl (by omega) (gf := 35) (lb := #[.pointer (some ⟨B, 0, none⟩), .pointer (some ⟨B + 1, 0, none⟩)]) rfl trivial (enters_of Try.func35 (by kernel_rfl) rfl)
            (IterAt.stops 2 V.heap.size (by decide) (IterAt.keep ⟨rfl, hv12, hv22⟩ (below_new V (.cells #[.int .i64 0] 3))) ls (by simp) (hMv2.below (below_new V (.cells #[.int .i64 0] 3)))) belowK_t (belowK_b (by simp)) (Below.refl _ _) (fun _ => rfl)
            (EI (tn % 20) ls V) (EIx (tn % 20) ls 4 V)
            (OwnFrom.and (ownFrom_pure _ _) (OwnFrom.and (own_blk _ _ _ _) (ownFrom_below (Nat.le_refl _) (by simp))))
            (EIx_own (tn % 20) ls 4 V (by simp))
            ⟨⟨by simp, by simp⟩, Blk.new _ _ _, below_new _ _⟩
            (fun x => { tmps := #[Value.slice ad l.length c, Value.int IntKind.u8 tn, undef, Value.pointer (some ⟨W.heap.size, 0, none⟩), Value.pointer (some ⟨W.heap.size + 1, 0, none⟩), Value.pointer (some ⟨w1.heap.size, 0, none⟩), Value.pointer (some ⟨w1.heap.size + 1, 0, none⟩), undef, u8, Value.func (.func 35) #[] #[Value.pointer (some ⟨B, 0, none⟩), Value.pointer (some ⟨B + 1, 0, none⟩)], Value.pointer (some ⟨V.heap.size, 0, none⟩), .int .u64 x.1, .int .i64 x.2, Value.bool true, Value.bool false, Value.bool false, Value.slice ad l.length c, Value.int IntKind.i64 l.length, Value.bool false, Value.bool false, undef, Value.slice ad l.length c, Value.int IntKind.i64 l.length, Value.int IntKind.i64 l.length, Value.bool false, u25, u26, u27, u28, u29, u30, u31, u32, u33, Value.agg #[Value.pointer q, Value.int IntKind.i64 ls.length], Value.func (.func 35) #[] #[Value.pointer (some ⟨B, 0, none⟩), Value.pointer (some ⟨B + 1, 0, none⟩)], Value.func (.func 35) #[] #[Value.pointer (some ⟨B, 0, none⟩), Value.pointer (some ⟨B + 1, 0, none⟩)], Value.bool false, Value.int IntKind.i64 1, Value.bool true, Value.func (.func 35) #[] #[Value.pointer (some ⟨B, 0, none⟩), Value.pointer (some ⟨B + 1, 0, none⟩)], .int .u64 x.1, .int .i64 x.2, undef, undef, undef, undef, undef, undef, undef, undef, undef, undef, undef, undef, undef, undef, undef, undef, undef, undef, undef, undef, undef, undef, undef, undef, undef, undef, undef, undef, undef, Value.int IntKind.i64 (min ls.length (tn % 20 + 1) : Nat), Value.slice A2 ls.length c2, Value.int IntKind.i64 ls.length, Value.int IntKind.u8 tn, Value.int IntKind.i64 tn, Value.int IntKind.i64 ((tn : Int) % 20), Value.int IntKind.i64 ((tn : Int) % 20 + 1), Value.int IntKind.i64 (min (ls.length : Int) ((tn : Int) % 20 + 1)), Value.bool false, Value.int IntKind.i64 1], defers := [] }) ?assign2 ?body2 ?done2 ?stop2
          case assign2 =>
            intro l' x Wr K hK
            dsimp only [RI.encs]
            gi_wp2
            exact hK
          case body2 =>
            rintro l' pre ⟨xk, xv⟩ Wr ⟨⟨hlen', hpre⟩, hn, hBr⟩ _
            have krW := hT12.keep hBr
            have ktW := hT02.keep hBr
            have kwW := hw2.keep hBr
            have n0 := hn.cell 0
            have nf := hn.frozen 0
            have rW := krW.cell 0
            have rf := krW.frozen 0
            have tW := ktW.cell 0
            have wW := kwW.cell 0
            simp at n0 rW tW wW
            by_cases hin : pre.length < ls.length
            · obtain ⟨pa, rfl, hp1, hp2⟩ := pair_at (Kd.C_below hC2 hBr) pre.length hin
              gi_wp2_with fail
              try (any_goals (exfalso; omega))
              · refine ⟨(KeepsOthers.setCell _ _ _).from _, .inl fun h => ?_⟩
                obtain ⟨_, e⟩ := snoc_at h
                first
                  | (have hne : ¬ (xk : Int) = (ls[pre.length].1 : Int) := by assumption
                     rw [e] at hne; exact hne rfl)
                  | (have hne : (xv != ls[pre.length].2) = true := by assumption
                     rw [e] at hne; simp at hne)
              · refine ⟨(KeepsOthers.setCell _ _ _).from _, .inl fun h => ?_⟩
                obtain ⟨_, e⟩ := snoc_at h
                first
                  | (have hne : ¬ (xk : Int) = (ls[pre.length].1 : Int) := by assumption
                     rw [e] at hne; exact hne rfl)
                  | (have hne : (xv != ls[pre.length].2) = true := by assumption
                     rw [e] at hne; simp at hne)
              · have hgt : (tn : Int) % 20 < (pre.length : Int) + 1 := by assumption
                have hpl' : pre.length = tn % 20 := by omega
                refine ⟨(KeepsOthers.setCell _ _ _).from _, .inr ⟨rfl, by simp; omega, ?_, hBr.setCell (by simp) _⟩⟩
                rw [← hpl']
                exact hn.set_ 0 _
              · have hgt : (pre.length : Int) + 1 ≤ (tn : Int) % 20 := by assumption
                have hke : (xk : Int) = (ls[pre.length].1 : Int) := by assumption
                have hve : (xv != ls[pre.length].2) = false := by assumption
                refine ⟨(KeepsOthers.setCell _ _ _).from _, (Below.refl _ _).setCell (by simp) _, ⟨by simp; omega, snoc_pre hpre hin (by omega) (by simpa using hve)⟩, ?_, hBr.setCell (by simp) _⟩
                rw [List.length_append]
                exact hn.set_ 0 _
            · have hge : decide ((ls.length : Int) ≤ (pre.length : Int)) = true := by simp; omega
              gi_wp2_with fail
              try (any_goals (exfalso; omega))
              · refine ⟨(KeepsOthers.setCell _ _ _).from _, .inl fun h => ?_⟩
                obtain ⟨hh, _⟩ := snoc_at h
                exact hin hh
          case done2 =>
            rintro D2 ys V2 hD2 rfl ⟨⟨hlen', _⟩, hn, hBr2⟩ hK2
            rw [rfrom_zero] at hlen' hn
            have hmin : ls.length = min ls.length (tn % 20 + 1) := by omega
            have hn : Blk V2 V.heap.size 3 #[.int .i64 (min ls.length (tn % 20 + 1) : Nat)] := by rw [← hmin]; exact hn
            clear hmin hlen'
            have hBW3 := hBW.trans ((hBr.trans (hBr2.mono hBr.size)).mono hBW.size)
            have krX := hT12.keep hBr2
            have ktX := hT02.keep hBr2
            have kwX := hw2.keep hBr2
            have n0 := hn.cell 0
            have nf := hn.frozen 0
            have rX := krX.cell 0
            have rf := krX.frozen 0
            have tX := ktX.cell 0
            have wX := kwX.cell 0
            simp at n0 rX tX wX
            dsimp only
            go_wp2_with fail
            rw [rounds_succ]
            go_wp2_with fail
            have hDl : D < V.heap.size := (Array.getElem?_eq_some_iff.1 hK).1
            have hD2l : V.heap.size + 1 ≤ D2 := by simpa using hD2
            have hDl2 : w2.heap.size + 1 ≤ D := by simpa using hD
            have hKx : V2.heap[D]? = some (.deferred (some [])) := (hBr2.block D hDl).trans hK
            have hKa := (KeepsOthers.setCell V2 ⟨W.heap.size + 1, 0, none⟩ (.bool true)).same D2 _ hK2 rfl
            have hKb := (KeepsOthers.setCell V2 ⟨W.heap.size + 1, 0, none⟩ (.bool true)).same D _ hKx rfl
            have hKc : ((V2.setCell ⟨W.heap.size + 1, 0, none⟩ (.bool true)).putObj D2 (.deferred none)).heap[D]? = some (.deferred (some [])) := (World.putObj_heap_other (by omega)).trans hKb
            have g0 := (((krX.set_ 0 (.bool true)).putObj (.deferred none) hKa rfl).putObj (.deferred none) hKc rfl).cell 0
            simp at g0
            refine NoPanic.ret ⟨by simp, .inl ⟨_, _, rfl, run_takeDeferred hKa, by simp, .inl ⟨_, _, rfl, run_takeDeferred hKc, .bool true, ?_, rfl, ?_⟩⟩⟩
            · simp [results, Try.results9, go_sem, g0]
            · exact ((hBW3.setCell (by simp) _).trans (belowK_b (w := w2) (by have := hBW.size; omega) _ D2 _ _ (by omega) hKa rfl rfl)).trans (belowK_b (w := w2) (by have := hBW.size; omega) _ D _ _ (by omega) hKc rfl rfl)
          case stop2 =>
            rintro D2 c' pre V2 hD2 hpre hIx hK2
            rcases hIx with h | ⟨rfl, hlen', hn, hBr2⟩
            · exact absurd (by rw [rfrom_zero] at hpre; exact hpre) h
            have hpl' := hpre.length_le
            rw [rfrom_zero, hlen'] at hpl'
            have hmin : tn % 20 + 1 = min ls.length (tn % 20 + 1) := by omega
            have hn : Blk V2 V.heap.size 3 #[.int .i64 (min ls.length (tn % 20 + 1) : Nat)] := by rw [← hmin]; exact hn
            clear hmin hlen' hpl' hpre
            have hBW3 := hBW.trans ((hBr.trans (hBr2.mono hBr.size)).mono hBW.size)
            have krX := hT12.keep hBr2
            have ktX := hT02.keep hBr2
            have kwX := hw2.keep hBr2
            have n0 := hn.cell 0
            have nf := hn.frozen 0
            have rX := krX.cell 0
            have rf := krX.frozen 0
            have tX := ktX.cell 0
            have wX := kwX.cell 0
            simp at n0 rX tX wX
            gi_wp2_with fail
            go_wp2_with fail
            rw [rounds_succ]
            go_wp2_with fail
            have hDl : D < V.heap.size := (Array.getElem?_eq_some_iff.1 hK).1
            have hD2l : V.heap.size + 1 ≤ D2 := by simpa using hD2
            have hDl2 : w2.heap.size + 1 ≤ D := by simpa using hD
            have hKx : V2.heap[D]? = some (.deferred (some [])) := (hBr2.block D hDl).trans hK
            have hKa := (KeepsOthers.setCell V2 ⟨W.heap.size + 1, 0, none⟩ (.bool true)).same D2 _ hK2 rfl
            have hKb := (KeepsOthers.setCell V2 ⟨W.heap.size + 1, 0, none⟩ (.bool true)).same D _ hKx rfl
            have hKc : ((V2.setCell ⟨W.heap.size + 1, 0, none⟩ (.bool true)).putObj D2 (.deferred none)).heap[D]? = some (.deferred (some [])) := (World.putObj_heap_other (by omega)).trans hKb
            have g0 := (((krX.set_ 0 (.bool true)).putObj (.deferred none) hKa rfl).putObj (.deferred none) hKc rfl).cell 0
            simp at g0
            refine NoPanic.ret ⟨by simp, .inl ⟨_, _, rfl, run_takeDeferred hKa, by simp, .inl ⟨_, _, rfl, run_takeDeferred hKc, .bool true, ?_, rfl, ?_⟩⟩⟩
            · simp [results, Try.results9, go_sem, g0]
            · exact ((hBW3.setCell (by simp) _).trans (belowK_b (w := w2) (by have := hBW.size; omega) _ D2 _ _ (by omega) hKa rfl rfl)).trans (belowK_b (w := w2) (by have := hBW.size; omega) _ D _ _ (by omega) hKc rfl rfl)
        case stop =>
          rintro D c' pre V hD hpre hIx hK
          rcases hIx with h | ⟨rfl, hlen', hn, hBr⟩
          · exact absurd (by rw [rfrom_zero] at hpre; exact hpre) h
          have hpl' := hpre.length_le
          rw [rfrom_zero, hlen'] at hpl'
          have hmin : tn % 20 + 1 = min ls.length (tn % 20 + 1) := by omega
          have hn : Blk V w2.heap.size 3 #[.int .i64 (min ls.length (tn % 20 + 1) : Nat)] := by rw [← hmin]; exact hn
          clear hmin hlen' hpl' hpre
          have krV := hT1.keep hBr
          have ktV := hT0.keep hBr
          have kwV := hw.keep hBr
          have n0 := hn.cell 0
          have nf := hn.frozen 0
          have rV := krV.cell 0
          have rf := krV.frozen 0
          have tV := ktV.cell 0
          have wV := kwV.cell 0
          simp at n0 rV tV wV
          gi_wp2_with fail
          go_wp2_with fail
          rw [rounds_succ]
          go_wp2_with fail
          refine (wpIn_wide (n := 3)).1 ?_
          have hT02 := ktV
          have hT12 := krV
          have hw2 := kwV
          have hv12 := hv1.keep hBr
          have hv22 := hv2.keep hBr
          have hC2 := Kd.C_below hC hBr
          have hMv2 := (hMv.below hBr).mono (ok' := (· < V.heap.size)) fun b _ h => Nat.lt_of_lt_of_le h hBr.size
          have hltV := hw2.lt
          clear n0 nf rV rf tV wV
          gi_wp2
          refine wpIn_rangeFunc_ownG rfl (by omega) (gf := 35) (lb := #[.pointer (some ⟨B, 0, none⟩), .pointer (some ⟨B + 1, 0, none⟩)]) rfl trivial (enters_of Try.func35 (by kernel_rfl) rfl)
            (IterAt.stops 2 V.heap.size (by decide) (IterAt.keep ⟨rfl, hv12, hv22⟩ (below_new V (.cells #[.int .i64 0] 3))) ls (by simp) (hMv2.below (below_new V (.cells #[.int .i64 0] 3)))) belowK_t (belowK_b (by simp)) (Below.refl _ _) (fun _ => rfl)
            (EI (tn % 20) ls V) (EIx (tn % 20) ls 4 V)
            (OwnFrom.and (ownFrom_pure _ _) (OwnFrom.and (own_blk _ _ _ _) (ownFrom_below (Nat.le_refl _) (by simp))))
            (EIx_own (tn % 20) ls 4 V (by simp))
            ⟨⟨by simp, by simp⟩, Blk.new _ _ _, below_new _ _⟩
            (fun x => { tmps := #[Value.slice ad l.length c, Value.int IntKind.u8 tn, undef, Value.pointer (some ⟨W.heap.size, 0, none⟩), Value.pointer (some ⟨W.heap.size + 1, 0, none⟩), Value.pointer (some ⟨w1.heap.size, 0, none⟩), Value.pointer (some ⟨w1.heap.size + 1, 0, none⟩), undef, u8, Value.func (.func 35) #[] #[Value.pointer (some ⟨B, 0, none⟩), Value.pointer (some ⟨B + 1, 0, none⟩)], Value.pointer (some ⟨V.heap.size, 0, none⟩), .int .u64 x.1, .int .i64 x.2, Value.bool true, Value.bool false, Value.bool false, Value.slice ad l.length c, Value.int IntKind.i64 l.length, Value.bool false, Value.bool false, undef, Value.slice ad l.length c, Value.int IntKind.i64 l.length, Value.int IntKind.i64 l.length, Value.bool false, u25, u26, u27, u28, u29, u30, u31, u32, u33, Value.agg #[Value.pointer q, Value.int IntKind.i64 ls.length], Value.func (.func 35) #[] #[Value.pointer (some ⟨B, 0, none⟩), Value.pointer (some ⟨B + 1, 0, none⟩)], Value.func (.func 35) #[] #[Value.pointer (some ⟨B, 0, none⟩), Value.pointer (some ⟨B + 1, 0, none⟩)], Value.bool false, Value.int IntKind.i64 1, Value.bool true, Value.func (.func 35) #[] #[Value.pointer (some ⟨B, 0, none⟩), Value.pointer (some ⟨B + 1, 0, none⟩)], .int .u64 x.1, .int .i64 x.2, undef, undef, undef, undef, undef, undef, undef, undef, undef, undef, undef, undef, undef, undef, undef, undef, undef, undef, undef, undef, undef, undef, undef, undef, undef, undef, undef, undef, undef, Value.int IntKind.i64 (min ls.length (tn % 20 + 1) : Nat), Value.slice A2 ls.length c2, Value.int IntKind.i64 ls.length, Value.int IntKind.u8 tn, Value.int IntKind.i64 tn, Value.int IntKind.i64 ((tn : Int) % 20), Value.int IntKind.i64 ((tn : Int) % 20 + 1), Value.int IntKind.i64 (min (ls.length : Int) ((tn : Int) % 20 + 1)), Value.bool false, Value.int IntKind.i64 1], defers := [] }) ?assign2 ?body2 ?done2 ?stop2
          case assign2 =>
            intro l' x Wr K hK
            dsimp only [RI.encs]
            gi_wp2
            exact hK
          case body2 =>
            rintro l' pre ⟨xk, xv⟩ Wr ⟨⟨hlen', hpre⟩, hn, hBr⟩ _
            have krW := hT12.keep hBr
            have ktW := hT02.keep hBr
            have kwW := hw2.keep hBr
            have n0 := hn.cell 0
            have nf := hn.frozen 0
            have rW := krW.cell 0
            have rf := krW.frozen 0
            have tW := ktW.cell 0
            have wW := kwW.cell 0
            simp at n0 rW tW wW
            by_cases hin : pre.length < ls.length
            · obtain ⟨pa, rfl, hp1, hp2⟩ := pair_at (Kd.C_below hC2 hBr) pre.length hin
              gi_wp2_with fail
              try (any_goals (exfalso; omega))
              · refine ⟨(KeepsOthers.setCell _ _ _).from _, .inl fun h => ?_⟩
                obtain ⟨_, e⟩ := snoc_at h
                first
                  | (have hne : ¬ (xk : Int) = (ls[pre.length].1 : Int) := by assumption
                     rw [e] at hne; exact hne rfl)
                  | (have hne : (xv != ls[pre.length].2) = true := by assumption
                     rw [e] at hne; simp at hne)
              · refine ⟨(KeepsOthers.setCell _ _ _).from _, .inl fun h => ?_⟩
                obtain ⟨_, e⟩ := snoc_at h
                first
                  | (have hne : ¬ (xk : Int) = (ls[pre.length].1 : Int) := by assumption
                     rw [e] at hne; exact hne rfl)
                  | (have hne : (xv != ls[pre.length].2) = true := by assumption
                     rw [e] at hne; simp at hne)
              · have hgt : (tn : Int) % 20 < (pre.length : Int) + 1 := by assumption
                have hpl' : pre.length = tn % 20 := by omega
                refine ⟨(KeepsOthers.setCell _ _ _).from _, .inr ⟨rfl, by simp; omega, ?_, hBr.setCell (by simp) _⟩⟩
                rw [← hpl']
                exact hn.set_ 0 _
              · have hgt : (pre.length : Int) + 1 ≤ (tn : Int) % 20 := by assumption
                have hke : (xk : Int) = (ls[pre.length].1 : Int) := by assumption
                have hve : (xv != ls[pre.length].2) = false := by assumption
                refine ⟨(KeepsOthers.setCell _ _ _).from _, (Below.refl _ _).setCell (by simp) _, ⟨by simp; omega, snoc_pre hpre hin (by omega) (by simpa using hve)⟩, ?_, hBr.setCell (by simp) _⟩
                rw [List.length_append]
                exact hn.set_ 0 _
            · have hge : decide ((ls.length : Int) ≤ (pre.length : Int)) = true := by simp; omega
              gi_wp2_with fail
              try (any_goals (exfalso; omega))
              · refine ⟨(KeepsOthers.setCell _ _ _).from _, .inl fun h => ?_⟩
                obtain ⟨hh, _⟩ := snoc_at h
                exact hin hh
          case done2 =>
            rintro D2 ys V2 hD2 rfl ⟨⟨hlen', _⟩, hn, hBr2⟩ hK2
            rw [rfrom_zero] at hlen' hn
            have hmin : ls.length = min ls.length (tn % 20 + 1) := by omega
            have hn : Blk V2 V.heap.size 3 #[.int .i64 (min ls.length (tn % 20 + 1) : Nat)] := by rw [← hmin]; exact hn
            clear hmin hlen'
            have hBW3 := hBW.trans ((hBr.trans (hBr2.mono hBr.size)).mono hBW.size)
            have krX := hT12.keep hBr2
            have ktX := hT02.keep hBr2
            have kwX := hw2.keep hBr2
            have n0 := hn.cell 0
            have nf := hn.frozen 0
            have rX := krX.cell 0
            have rf := krX.frozen 0
            have tX := ktX.cell 0
            have wX := kwX.cell 0
            simp at n0 rX tX wX
            gi_wp2_with fail
            go_wp2_with fail
            rw [rounds_succ]
            go_wp2_with fail
            have hDl : D < V.heap.size := (Array.getElem?_eq_some_iff.1 hK).1
            have hD2l : V.heap.size + 1 ≤ D2 := by simpa using hD2
            have hDl2 : w2.heap.size + 1 ≤ D := by simpa using hD
            have hKx : V2.heap[D]? = some (.deferred (some [])) := (hBr2.block D hDl).trans hK
            have hKa := (KeepsOthers.setCell V2 ⟨W.heap.size + 1, 0, none⟩ (.bool true)).same D2 _ hK2 rfl
            have hKb := (KeepsOthers.setCell V2 ⟨W.heap.size + 1, 0, none⟩ (.bool true)).same D _ hKx rfl
            have hKc : ((V2.setCell ⟨W.heap.size + 1, 0, none⟩ (.bool true)).putObj D2 (.deferred none)).heap[D]? = some (.deferred (some [])) := (World.putObj_heap_other (by omega)).trans hKb
            have g0 := (((krX.set_ 0 (.bool true)).putObj (.deferred none) hKa rfl).putObj (.deferred none) hKc rfl).cell 0
            simp at g0
            refine NoPanic.ret ⟨by simp, .inl ⟨_, _, rfl, run_takeDeferred hKa, by simp, .inl ⟨_, _, rfl, run_takeDeferred hKc, .bool true, ?_, rfl, ?_⟩⟩⟩
            · simp [results, Try.results9, go_sem, g0]
            · exact ((hBW3.setCell (by simp) _).trans (belowK_b (w := w2) (by have := hBW.size; omega) _ D2 _ _ (by omega) hKa rfl rfl)).trans (belowK_b (w := w2) (by have := hBW.size; omega) _ D _ _ (by omega) hKc rfl rfl)
          case stop2 =>
            rintro D2 c' pre V2 hD2 hpre hIx hK2
            rcases hIx with h | ⟨rfl, hlen', hn, hBr2⟩
            · exact absurd (by rw [rfrom_zero] at hpre; exact hpre) h
            have hpl' := hpre.length_le
            rw [rfrom_zero, hlen'] at hpl'
            have hmin : tn % 20 + 1 = min ls.length (tn % 20 + 1) := by omega
            have hn : Blk V2 V.heap.size 3 #[.int .i64 (min ls.length (tn % 20 + 1) : Nat)] := by rw [← hmin]; exact hn
            clear hmin hlen' hpl' hpre
            have hBW3 := hBW.trans ((hBr.trans (hBr2.mono hBr.size)).mono hBW.size)
            have krX := hT12.keep hBr2
            have ktX := hT02.keep hBr2
            have kwX := hw2.keep hBr2
            have n0 := hn.cell 0
            have nf := hn.frozen 0
            have rX := krX.cell 0
            have rf := krX.frozen 0
            have tX := ktX.cell 0
            have wX := kwX.cell 0
            simp at n0 rX tX wX
            gi_wp2_with fail
            go_wp2_with fail
            rw [rounds_succ]
            go_wp2_with fail
            have hDl : D < V.heap.size := (Array.getElem?_eq_some_iff.1 hK).1
            have hD2l : V.heap.size + 1 ≤ D2 := by simpa using hD2
            have hDl2 : w2.heap.size + 1 ≤ D := by simpa using hD
            have hKx : V2.heap[D]? = some (.deferred (some [])) := (hBr2.block D hDl).trans hK
            have hKa := (KeepsOthers.setCell V2 ⟨W.heap.size + 1, 0, none⟩ (.bool true)).same D2 _ hK2 rfl
            have hKb := (KeepsOthers.setCell V2 ⟨W.heap.size + 1, 0, none⟩ (.bool true)).same D _ hKx rfl
            have hKc : ((V2.setCell ⟨W.heap.size + 1, 0, none⟩ (.bool true)).putObj D2 (.deferred none)).heap[D]? = some (.deferred (some [])) := (World.putObj_heap_other (by omega)).trans hKb
            have g0 := (((krX.set_ 0 (.bool true)).putObj (.deferred none) hKa rfl).putObj (.deferred none) hKc rfl).cell 0
            simp at g0
            refine NoPanic.ret ⟨by simp, .inl ⟨_, _, rfl, run_takeDeferred hKa, by simp, .inl ⟨_, _, rfl, run_takeDeferred hKc, .bool true, ?_, rfl, ?_⟩⟩⟩
            · simp [results, Try.results9, go_sem, g0]
            · exact ((hBW3.setCell (by simp) _).trans (belowK_b (w := w2) (by have := hBW.size; omega) _ D2 _ _ (by omega) hKa rfl rfl)).trans (belowK_b (w := w2) (by have := hBW.size; omega) _ D _ _ (by omega) hKc rfl rfl)
end Go.Proofs.Ytkbgdbhmdpnaoaa
