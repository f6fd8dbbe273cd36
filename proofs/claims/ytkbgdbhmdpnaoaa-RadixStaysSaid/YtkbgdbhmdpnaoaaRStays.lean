/- RadixStays: the law's walk. -/
import Derived.Test.YtkbgdbhmdpnaoaaRStaysA
namespace Go.Proofs.Ytkbgdbhmdpnaoaa
open Go.RowKit Go.Shelf Go.Proofs.Ytkbgdbhmdpnaoaa.Ref Go.Proofs.YtkbgdbhmdpnaoaaW.PrintWords
open RI (HasM)
set_option maxRecDepth 100000 in
set_option maxHeartbeats 4000000 in
theorem stays_core (ad0 : Option Addr) (c0 Ln an : Nat) (hLn : Ln ≤ 40) (han : an ≤ Ln) (ad : Option Addr) (c : Nat) (l : List A) (adB : Option Addr) (cB : Nat) (lb : List A) (ad2 : Option Addr) (cC : Nat) (l2 : List A) (W : World)
    (hA : ActsAt W (.slice ad l.length c) l) (hAB : ActsAt W (.slice adB lb.length cB) lb) (hAC : ActsAt W (.slice ad2 l2.length cC) l2) (hle : l.length ≤ 40) (hlb40 : lb.length ≤ 40) (hl2 : l2.length ≤ 40)
    (hs1 : ∀ w : World, (Instr.slice 22 (.slice ad0 Ln c0) none (some (.int .i64 an)) none).run Try.prog w = .ok (.slice ad l.length c) w)
    (hs2 : ∀ w : World, (Instr.slice 22 (.slice ad0 Ln c0) (some (.int .i64 an)) none none).run Try.prog w = .ok (.slice adB lb.length cB) w) :
    Calls Try.prog 6 #[.slice ad0 Ln c0, .slice ad2 l2.length cC, .int .i64 an] W fun e w' => e = .returned (.bool true) ∧ Below W.heap.size W w' := by
  obtain ⟨_, _, e_, hmax, hks, hcells⟩ := hA
  cases e_
  obtain ⟨_, _, e_, hmaxB, hksB, hcellsB⟩ := hAB
  cases e_
  obtain ⟨_, _, e_, hmaxC, hksC, hcellsC⟩ := hAC
  cases e_
  have g1 : decide ((40 : Int) < (Ln : Int)) = false := by simp; omega
  have g2 : decide ((40 : Int) < (l2.length : Int)) = false := by simp; omega
  have g3 : decide ((an : Int) < 0) = false := by simp <;> omega
  have g4 : decide (Ln < an) = false := by simp; omega
  have b1 : (Ln : Int) ≤ 40 := by omega
  have b2 : (l2.length : Int) ≤ 40 := by omega
  have b3 : (l.length : Int) ≤ 40 := by omega
  have b4 : (lb.length : Int) ≤ 40 := by omega
  go_enter Try.func6, Try.ntmps6
  go_wp2_with fail
  refine (awake_any _).mono ?_
  rintro e w1 ⟨rfl, hB1⟩
  go_wp2_with fail
  have hstart : Both W (w1.alloc (.cells #[.pointer none, .int .i64 0] 27)) w1.heap.size (.slice none 0 0) (play (l.take 0)) :=
    ⟨none, Blk.new _ _ _, .inl ⟨rfl, rfl⟩, Kd.R_nil _ _ _ _ _, hB1.trans ((below_new _ _).mono hB1.size)⟩
  · skip
    go_loopg [8, 45] (l.length) (fun n wv iv wr => ∃ j : Nat, j ≤ l.length ∧ iv = .int .i64 j ∧ n = l.length - j ∧ Both W wr w1.heap.size wv (play (l.take j)) ∧ Stay (w1.alloc (.cells #[.pointer none, .int .i64 0] 27)) w1.heap.size wr)
    case atStart => exact ⟨0, by omega, rfl, rfl, hstart, Stay.refl _ _⟩
    case round =>
      obtain ⟨j, hj, rfl, hgk, ⟨q, hm, hM, hR, hB⟩, hSt⟩ := hrel
      have Agk : Aside (gk = l.length - j) := hgk
      clear hgk hstart
      have hpl := play_length (l.take j)
      have hpl2 : (l.take j).length ≤ j := List.length_take_le _ _
      by_cases hlt : j < l.length
      · obtain ⟨a, rfl, hab, e0, e1, e2⟩ := hcells j l[j] (List.getElem?_eq_getElem hlt)
        obtain ⟨x, hx⟩ : ∃ x, x = l[j] := ⟨_, rfl⟩
        rw [← hx] at e0 e1 e2
        have hxk := hks x (by rw [hx]; exact List.getElem_mem _)
        have hsnoc : play (l.take (j + 1)) = step (play (l.take j)) x := by rw [List.take_succ_eq_append_getElem hlt, ← hx, play_snoc]
        have Hs := Lib.hid hsnoc
        clear hx hsnoc
        have E0 := (hB.cell (p := a.add (j * 3)) (by rw [add_block]; exact hab)).trans e0
        have E1 : wr.cell? ((a.add (j * 3)).add 1) = some (.int .u64 x.k) := by rw [hB.cell (by rw [add_block, add_block]; exact hab), add_of_add]; exact e1
        have E2 : wr.cell? ((a.add (j * 3)).add 2) = some (.int .i64 x.v) := by rw [hB.cell (by rw [add_block, add_block]; exact hab), add_of_add]; exact e2
        have E1 : wr.cell? ⟨(a.add (j * 3)).block, (a.add (j * 3)).off + 1, none⟩ = some (.int .u64 x.k) := E1
        have E2 : wr.cell? ⟨(a.add (j * 3)).block, (a.add (j * 3)).off + 2, none⟩ = some (.int .i64 x.v) := E2
        clear e0 e1 e2
        have Hpl : (play (l.take j)).length ≤ 60 := by omega
        have hdo := do_any x hxk _ q (play (l.take j)) (by omega) _ ((hM.below (below_new wr (.cells #[.int .i64 x.kind, .int .u64 x.k, .int .i64 x.v] 30))).below (below_drew (Below.refl _ _)))
        have hm2 := (hm.alloc (.cells #[.int .i64 x.kind, .int .u64 x.k, .int .i64 x.v] 30)).drew
        have ha2 := (Blk.new wr 30 #[.int .i64 x.kind, .int .u64 x.k, .int .i64 x.v]).drew
        have x0 := hm2.cell 0
        have x1 := hm2.cell 1
        have y0 := ha2.cell 0
        have y1 := ha2.cell 1
        have y2 := ha2.cell 2
        simp at x0 x1 y0 y1 y2
        have hwf := want_f (rising_play (l.take j)) (by omega) x
        have hBa : Below W.heap.size W (wr.alloc (.cells #[.int .i64 x.kind, .int .u64 x.k, .int .i64 x.v] 30)).drew := below_drew (hB.trans ((below_new _ _).mono hB.size))
        have hRa := (Kd.R_below hR (below_new wr (.cells #[.int .i64 x.kind, .int .u64 x.k, .int .i64 x.v] 30)))
        have hRd := Kd.R_below hRa (below_drew (Below.refl _ _))
        have Hwf := Lib.hid hwf
        clear hwf
        go_wp2_with fail
        go_region_law (first
          | (go_simp; go_at_call 11; refine hdo.mono ?_; rintro e w2 ⟨q2, rfl, hM2, hB2⟩; have hm3 := hm2.keep hB2; have ha3 := ha2.keep hB2; have z0 := hm3.cell 0; have z1 := hm3.cell 1; have z2 := ha3.cell 0; have z3 := ha3.cell 1; have z4 := ha3.cell 2; simp at z0 z1 z2 z3 z4; have hR2 := Kd.R_bound (Kd.R_below hRd hB2))
          | (go_simp; go_at_call 12; refine (mandolinelaw25_want.calls _ _ _ _ _ _ _ _ W w2 (hBa.trans (hB2.mono hBa.size)) hR2 Hwf.out).mono ?_; rintro e w3 ⟨v3, rfl, hR3, hB3, hK3⟩; have hm4 := blk_kept hK3 (fun b hb => hb.2.2.2) hm3 (by decide); have ha4 := blk_kept hK3 (fun b hb => hb.2.2.2) ha3 (by decide); have t0 := hm4.cell 0; have t1 := hm4.cell 1; have t2 := ha4.cell 0; have t3 := ha4.cell 1; have t4 := ha4.cell 2; have t5 := hm4.frozen 0; have t6 := hm4.frozen 1; simp at t0 t1 t2 t3 t4))
        all_goals
          go_wp2_with fail
          go_roundg (l.length - (j + 1))
          case measure => have := Agk.out; omega
          refine ⟨j + 1, by omega, by simp, rfl, ?_, hSt.end_ (below_drew (below_new _ _)) hB2 hK3 (fun b hb => hb.2.2.2) _ _⟩
          rw [Hs.out]
          exact both_end hm4 hM2 (by have := hm.lt; simp; omega) hK3 (fun b hb => hb.2.2.2) hR3 hB3 hB1.size
      · have hje : j = l.length := by omega
        subst hje
        rw [List.take_length] at hM hR hm hpl
        have hri := rising_play l
        obtain ⟨ls, hls⟩ : ∃ ls, ls = play l := ⟨_, rfl⟩
        rw [← hls] at hm hM hR hpl hri
        have hkl : ∀ x ∈ ls, x.1 < 18446744073709551616 := by rw [hls]; exact play_keys hks
        clear hls
        have hlsl : ls.length ≤ 60 := by omega
        have z0 := hm.cell 0
        have z1 := hm.cell 1
        simp at z0 z1
        obtain ⟨A2, c2, rfl, hc2, hC2⟩ := R_pairs hR
        have hge : W.heap.size ≤ w1.heap.size := hB1.size
        have hR' := Kd.R_mono (ok' := fun _ => True) hR (fun _ _ => trivial)
        have hl40 : ls.length ≤ 40 := by omega
        have hlmo := hm.lt
        obtain ⟨wE, hwE⟩ : ∃ wE, wr.alloc (.cells #[.pointer q, .int .i64 ls.length] 27) = wE := ⟨_, rfl⟩
        have hbE : Below wr.heap.size wr wE := by rw [← hwE]; exact below_new _ _
        have heE : Blk wE wr.heap.size 27 #[.pointer q, .int .i64 ls.length] := by rw [← hwE]; exact Blk.new _ _ _
        have hmE := hm.keep hbE
        have hME := hM.below hbE
        have hRE := Lib.hid (Kd.R_below hR' hbE)
        have hBE := hB.trans (hbE.mono hB.size)
        have hnE : w1.heap.size ≠ wr.heap.size := by omega
        have hstartD : DoI W wE wE w1.heap.size (40 + 0) := ⟨hBE, KeepB.refl _ _, q, ls, by omega, hmE, hME⟩
        obtain ⟨Eb, hEb⟩ : ∃ Eb, wr.heap.size = Eb := ⟨_, rfl⟩
        go_wp2_with fail
        rw [hEb] at heE hnE
        clear hwE hEb hbE hB hm hM hR hR' z0 z1
        go_loopg [61] (lb.length) (fun n iv wq => ∃ i : Nat, i ≤ lb.length ∧ iv = .int .i64 i ∧ n = lb.length - i ∧ DoI W wE wq w1.heap.size (40 + i) ∧ Kd.R k37 37 wq W.heap.size (fun _ => True) (.slice A2 ls.length c2) (ls.map toS))
        case atStart => exact ⟨0, by omega, rfl, rfl, hstartD, hRE.out⟩
        case round =>
          obtain ⟨i, hi, rfl, hgi, ⟨hBi, hKi, qm, lm, hlm, hmm, hMm⟩, hRi⟩ := hrel
          have Agi : Aside (gk = lb.length - i) := hgi
          have HRi := Lib.hid hRi
          clear hgi hstartD hRi
          by_cases hlt : i < lb.length
          · obtain ⟨a, rfl, hab, e0, e1, e2⟩ := hcellsB i lb[i] (List.getElem?_eq_getElem hlt)
            obtain ⟨x, hx⟩ : ∃ x, x = lb[i] := ⟨_, rfl⟩
            rw [← hx] at e0 e1 e2
            have hxk := hksB x (by rw [hx]; exact List.getElem_mem _)
            clear hx
            have E0 := (hBi.cell (p := a.add (i * 3)) (by rw [add_block]; exact hab)).trans e0
            have E1 : wr.cell? ((a.add (i * 3)).add 1) = some (.int .u64 x.k) := by rw [hBi.cell (by rw [add_block, add_block]; exact hab), add_of_add]; exact e1
            have E2 : wr.cell? ((a.add (i * 3)).add 2) = some (.int .i64 x.v) := by rw [hBi.cell (by rw [add_block, add_block]; exact hab), add_of_add]; exact e2
            have E1 : wr.cell? ⟨(a.add (i * 3)).block, (a.add (i * 3)).off + 1, none⟩ = some (.int .u64 x.k) := E1
            have E2 : wr.cell? ⟨(a.add (i * 3)).block, (a.add (i * 3)).off + 2, none⟩ = some (.int .i64 x.v) := E2
            clear e0 e1 e2
            have hstl := step_length lm x
            have hBa0 := below_new wr (.cells #[.int .i64 x.kind, .int .u64 x.k, .int .i64 x.v] 30)
            have hdo := fun w' hw => do_any x hxk _ qm lm (by omega) w' (hMm.below (w' := w') hw)
            have hm2 := hmm.alloc (.cells #[.int .i64 x.kind, .int .u64 x.k, .int .i64 x.v] 30)
            have ha2 := Blk.new wr 30 #[.int .i64 x.kind, .int .u64 x.k, .int .i64 x.v]
            have x0 := hm2.cell 0
            have x1 := hm2.cell 1
            have y0 := ha2.cell 0
            have y1 := ha2.cell 1
            have y2 := ha2.cell 2
            simp at x0 x1 y0 y1 y2
            go_wp2_with fail
            refine (hdo _ hBa0).mono ?_
            rintro e w2 ⟨q2, rfl, hM2, hB2⟩
            have hBa1 := hBa0.trans (hB2.mono hBa0.size)
            have hm3 := hmm.keep hBa1
            have z0 := hm3.cell 0
            have z1 := hm3.cell 1
            have zf0 := hm3.frozen 0
            have zf1 := hm3.frozen 1
            simp at z0 z1
            have hMge : W.heap.size ≤ w1.heap.size := hge
            have hmlt := hmm.lt
            go_wp2_with fail
            go_roundg (lb.length - (i + 1))
            case measure => have := Agi.out; omega
            have hM3 : HasM (fun b => b ≠ w1.heap.size) w2 q2 (step lm x) := hM2.mono fun b _ h => by
              rcases h with h | h
              · exact h
              · simp at h; omega
            refine ⟨i + 1, by omega, by simp, rfl, ⟨((hBi.trans (hBa1.mono hBi.size)).setCell (p := ⟨w1.heap.size, 0, none⟩) hMge _).setCell (p := ⟨w1.heap.size, 1, none⟩) hMge _, hKi.step hBa1 _ _, q2, step lm x, by omega, (hm3.set_ 0 _).set_ 1 _, (hM3.far (q := ⟨w1.heap.size, 0, none⟩) (by simp) _).far (q := ⟨w1.heap.size, 1, none⟩) (by simp) _⟩, Kd.R_mono (Kd.R_set (Kd.R_set (Kd.R_below HRi.out hBa1) hm3 notMap 0 _) (hm3.set_ 0 _) notMap 1 _) (fun _ _ => trivial)⟩
          · have hie : i = lb.length := by omega
            have hlm80 : lm.length ≤ 80 := by omega
            have Hhie := Lib.hid hie
            clear hie
            have heI := hKi _ _ _ (fun e => hnE e.symm) heE
            have hMEI := HasM.keepB hME hKi hmE
            have hpn := pairs_any qm lm.length lm (by omega) wr (hMm.mono fun _ _ _ => trivial)
            have z0 := hmm.cell 0
            have z1 := hmm.cell 1
            have y0 := heI.cell 0
            have y1 := heI.cell 1
            simp at z0 z1 y0 y1
            go_wp2_with fail
            refine hpn.mono ?_
            rintro e w4 ⟨pv, rfl, hpo, hB4⟩
            have hRn := Kd.R_mono (ok' := fun _ => True) (R_of_own hpo) (fun _ _ => trivial)
            obtain ⟨An, cn, rfl, hcn, hCn⟩ := R_pairs hRn
            have hR4 := Kd.R_below HRi.out hB4
            have he4 := heI.keep hB4
            have hm4 := hmm.keep hB4
            have hME4 := hMEI.below hB4
            have hMm4 := hMm.below hB4
            have y0 := he4.cell 0
            have y1 := he4.cell 1
            simp at y0 y1
            have hBi4 := hBi.trans (hB4.mono hBi.size)
            have he4lt := he4.lt
            have hm4lt := hm4.lt
            obtain ⟨wX, hwX⟩ : ∃ wX, w4.alloc (.cells #[.pointer q, .int .i64 ls.length] 27) = wX := ⟨_, rfl⟩
            have hbX : Below w4.heap.size w4 wX := by rw [← hwX]; exact below_new _ _
            have hoX : Blk wX w4.heap.size 27 #[.pointer q, .int .i64 ls.length] := by rw [← hwX]; exact Blk.new _ _ _
            have heX := he4.keep hbX
            have hmX := hm4.keep hbX
            have hMEX := hME4.below hbX
            have hMmX := hMm4.below hbX
            have hRX := Lib.hid (Kd.R_below hR4 hbX)
            have hRnX := Lib.hid (Kd.R_lower (Kd.R_below hRn hbX) hBi.size)
            have hBX := hBi4.trans (hbX.mono hBi4.size)
            have hnX1 : w1.heap.size ≠ w4.heap.size := by omega
            have hnX2 : Eb ≠ w4.heap.size := by omega
            have hgeX : W.heap.size ≤ w4.heap.size := by omega
            have hMEo : HasM (fun b => b ≠ w4.heap.size) wX q ls := (hME4.mono (ok' := fun b => b ≠ w4.heap.size) fun b h _ => by omega).below hbX
            have hstartO : DoI W wX wX w4.heap.size (40 + 0) := ⟨hBX, KeepB.refl _ _, q, ls, by omega, hoX, hMEo⟩
            obtain ⟨Ob, hOb⟩ : ∃ Ob, w4.heap.size = Ob := ⟨_, rfl⟩
            go_wp2_with fail
            rw [hOb] at hoX hnX1 hnX2 hstartO hgeX
            clear hi HRi hKi hBi hmm hMm heI hMEI hpo hRn hR4 he4 hm4 hME4 hMm4 y0 y1 z0 z1 hBi4 hbX hRE heE hmE hME hBE hCn hwX hOb
            go_loopg [74] (l2.length) (fun n iv wq => ∃ i : Nat, i ≤ l2.length ∧ iv = .int .i64 i ∧ n = l2.length - i ∧ DoI W wX wq Ob (40 + i) ∧ Kd.R k37 37 wq W.heap.size (fun _ => True) (.slice A2 ls.length c2) (ls.map toS) ∧ Kd.R k37 37 wq W.heap.size (fun _ => True) (.slice An lm.length cn) (lm.map toS))
            case atStart => exact ⟨0, by omega, rfl, rfl, hstartO, hRX.out, hRnX.out⟩
            case round =>
              obtain ⟨i, hi, rfl, hgi, ⟨hBi, hKi, qo, lo, hlo, hmo, hMo⟩, hRi, hRni⟩ := hrel
              have Agi : Aside (gk = l2.length - i) := hgi
              have HRi := Lib.hid hRi
              have HRni := Lib.hid hRni
              clear hgi hstartO hRi hRni
              by_cases hlt : i < l2.length
              · obtain ⟨a, rfl, hab, e0, e1, e2⟩ := hcellsC i l2[i] (List.getElem?_eq_getElem hlt)
                obtain ⟨x, hx⟩ : ∃ x, x = l2[i] := ⟨_, rfl⟩
                rw [← hx] at e0 e1 e2
                have hxk := hksC x (by rw [hx]; exact List.getElem_mem _)
                clear hx
                have E0 := (hBi.cell (p := a.add (i * 3)) (by rw [add_block]; exact hab)).trans e0
                have E1 : wr.cell? ((a.add (i * 3)).add 1) = some (.int .u64 x.k) := by rw [hBi.cell (by rw [add_block, add_block]; exact hab), add_of_add]; exact e1
                have E2 : wr.cell? ((a.add (i * 3)).add 2) = some (.int .i64 x.v) := by rw [hBi.cell (by rw [add_block, add_block]; exact hab), add_of_add]; exact e2
                have E1 : wr.cell? ⟨(a.add (i * 3)).block, (a.add (i * 3)).off + 1, none⟩ = some (.int .u64 x.k) := E1
                have E2 : wr.cell? ⟨(a.add (i * 3)).block, (a.add (i * 3)).off + 2, none⟩ = some (.int .i64 x.v) := E2
                clear e0 e1 e2
                have hstl := step_length lo x
                have hBa0 := below_new wr (.cells #[.int .i64 x.kind, .int .u64 x.k, .int .i64 x.v] 30)
                have hdo := fun w' hw => do_any x hxk _ qo lo (by omega) w' (hMo.below (w' := w') hw)
                have hm2 := hmo.alloc (.cells #[.int .i64 x.kind, .int .u64 x.k, .int .i64 x.v] 30)
                have ha2 := Blk.new wr 30 #[.int .i64 x.kind, .int .u64 x.k, .int .i64 x.v]
                have x0 := hm2.cell 0
                have x1 := hm2.cell 1
                have y0 := ha2.cell 0
                have y1 := ha2.cell 1
                have y2 := ha2.cell 2
                simp at x0 x1 y0 y1 y2
                go_wp2_with fail
                refine (hdo _ hBa0).mono ?_
                rintro e w2 ⟨q2, rfl, hM2, hB2⟩
                have hBa1 := hBa0.trans (hB2.mono hBa0.size)
                have hm3 := hmo.keep hBa1
                have z0 := hm3.cell 0
                have z1 := hm3.cell 1
                have zf0 := hm3.frozen 0
                have zf1 := hm3.frozen 1
                simp at z0 z1
                have hMge : W.heap.size ≤ Ob := hgeX
                have hmlt := hmo.lt
                go_wp2_with fail
                go_roundg (l2.length - (i + 1))
                case measure => have := Agi.out; omega
                have hM3 : HasM (fun b => b ≠ Ob) w2 q2 (step lo x) := hM2.mono fun b _ h => by
                  rcases h with h | h
                  · exact h
                  · simp at h; omega
                refine ⟨i + 1, by omega, by simp, rfl, ⟨((hBi.trans (hBa1.mono hBi.size)).setCell (p := ⟨Ob, 0, none⟩) hMge _).setCell (p := ⟨Ob, 1, none⟩) hMge _, hKi.step hBa1 _ _, q2, step lo x, by omega, (hm3.set_ 0 _).set_ 1 _, (hM3.far (q := ⟨Ob, 0, none⟩) (by simp) _).far (q := ⟨Ob, 1, none⟩) (by simp) _⟩, Kd.R_mono (Kd.R_set (Kd.R_set (Kd.R_below HRi.out hBa1) hm3 notMap 0 _) (hm3.set_ 0 _) notMap 1 _) (fun _ _ => trivial), Kd.R_mono (Kd.R_set (Kd.R_set (Kd.R_below HRni.out hBa1) hm3 notMap 0 _) (hm3.set_ 0 _) notMap 1 _) (fun _ _ => trivial)⟩
              · have hie : i = l2.length := by omega
                have Hie := Lib.hid hie
                clear hie
                have heI := hKi _ _ _ hnX2 heX
                have hmI := hKi _ _ _ hnX1 hmX
                have hMEI := HasM.keepB hMEX hKi hoX
                have hMmI := HasM.keepB hMmX hKi hoX
                have hCw := by have h := (Kd.R_reads' HRi.out).2.2; rw [List.length_map] at h; exact h
                have hCx := by have h := (Kd.R_reads' HRni.out).2.2; rw [List.length_map] at h; exact h
                have hpe := fun w' h => pairs_any q ls.length ls (by omega) w' ((hMEI.mono (ok' := fun _ => True) fun _ _ _ => trivial).below (w' := w') h)
                have hpm := fun w' h => pairs_any qm lm.length lm (by omega) w' ((hMmI.mono (ok' := fun _ => True) fun _ _ _ => trivial).below (w' := w') h)
                have hl1 := fun w' => RI.len_any (.pointer q) ls.length w' rfl
                have hsame1 := fun A1 c1 A2 c2 w' => same_any ls (by omega) A1 c1 A2 c2 w'
                have hsame2 := fun A1 c1 A2 c2 w' => same_any lm (by omega) A1 c1 A2 c2 w'
                have hb0 : Below wr.heap.size wr wr := Below.refl _ _
                have y0 := heI.cell 0
                have y1 := heI.cell 1
                have z0 := hmI.cell 0
                have z1 := hmI.cell 1
                simp at y0 y1 z0 z1
                go_wp2_with fail
                refine (hpe _ hb0).mono ?_
                rintro e v5 ⟨pv5, rfl, hpo5, hB5⟩
                have bv5 := hb0.trans (hB5.mono hb0.size)
                obtain ⟨A5, c5, rfl, hc5, hC5⟩ := R_pairs (R_of_own hpo5)
                obtain ⟨hcv5, _⟩ := bcell bv5
                have y0 := (heI.keep bv5).cell 0
                have y1 := (heI.keep bv5).cell 1
                have z0 := (hmI.keep bv5).cell 0
                have z1 := (hmI.keep bv5).cell 1
                clear hcv5
                simp at y0 y1 z0 z1
                go_wp2_with fail
                refine (hsame1 A5 c5 A2 c2 _ hC5 hc5 (Kd.C_below hCw bv5) hc2).mono ?_
                rintro e v6 ⟨rfl, hB6⟩
                have bv6 := bv5.trans (hB6.mono bv5.size)
                obtain ⟨hcv6, _⟩ := bcell bv6
                have y0 := (heI.keep bv6).cell 0
                have y1 := (heI.keep bv6).cell 1
                have z0 := (hmI.keep bv6).cell 0
                have z1 := (hmI.keep bv6).cell 1
                clear hcv6
                simp at y0 y1 z0 z1
                go_wp2_with fail
                refine (hl1 _).mono ?_
                rintro e v7 ⟨rfl, hB7⟩
                have bv7 := bv6.trans (hB7.mono bv6.size)
                obtain ⟨hcv7, _⟩ := bcell bv7
                have y0 := (heI.keep bv7).cell 0
                have y1 := (heI.keep bv7).cell 1
                have z0 := (hmI.keep bv7).cell 0
                have z1 := (hmI.keep bv7).cell 1
                clear hcv7
                simp at y0 y1 z0 z1
                go_wp2_with fail
                refine (hpm _ bv7).mono ?_
                rintro e v8 ⟨pv8, rfl, hpo8, hB8⟩
                have bv8 := bv7.trans (hB8.mono bv7.size)
                obtain ⟨A8, c8, rfl, hc8, hC8⟩ := R_pairs (R_of_own hpo8)
                obtain ⟨hcv8, _⟩ := bcell bv8
                have y0 := (heI.keep bv8).cell 0
                have y1 := (heI.keep bv8).cell 1
                have z0 := (hmI.keep bv8).cell 0
                have z1 := (hmI.keep bv8).cell 1
                clear hcv8
                simp at y0 y1 z0 z1
                go_wp2_with fail
                refine (hsame2 A8 c8 An cn _ hC8 hc8 (Kd.C_below hCx bv8) hcn).mono ?_
                rintro e v9 ⟨rfl, hB9⟩
                have bv9 := bv8.trans (hB9.mono bv8.size)
                obtain ⟨hcv9, _⟩ := bcell bv9
                have y0 := (heI.keep bv9).cell 0
                have y1 := (heI.keep bv9).cell 1
                have z0 := (hmI.keep bv9).cell 0
                have z1 := (hmI.keep bv9).cell 1
                clear hcv9
                simp at y0 y1 z0 z1
                go_wp2
                go_ret
                exact ⟨rfl, hBi.trans (bv9.mono hBi.size)⟩
end Go.Proofs.Ytkbgdbhmdpnaoaa
