/- The contract of the document's Depth. -/
import Derived.Test.YtkbgdbhmdpnaoaaRDepRef
import Derived.Test.YtkbgdbhmdpnaoaaRActs
import Derived.Laws.MakeOwn
import Derived.Deep.QuietTactic
import Derived.BigQuiet
namespace Go.Proofs.Ytkbgdbhmdpnaoaa
open Go.RowKit Go.Shelf Go.Proofs.Ytkbgdbhmdpnaoaa.Ref Go.Proofs.YtkbgdbhmdpnaoaaW.PrintWords
theorem cnt_none : cnt (fun _ => false) = 0 := by decide +kernel
theorem key_ne {l : List (Nat × Int)} (h : Rising l) {i k : Nat} (hi : i < l.length) (hk : k < l.length) (hn : i ≠ k) : l[i].1 ≠ l[k].1 := by
  rcases Nat.lt_or_gt_of_ne hn with h1 | h1
  · have := List.pairwise_iff_getElem.1 h i k hi hk h1; omega
  · have := List.pairwise_iff_getElem.1 h k i hk hi h1; omega
set_option maxRecDepth 100000 in
set_option maxHeartbeats 4000000 in
theorem refDepth_any (ls : List (Nat × Int)) (hr : Rising ls) (hkl : ∀ x ∈ ls, x.1 < 18446744073709551616) (hl : ls.length ≤ 1000) (A : Option Addr) (c : Nat) (w : World) (h : Kd.C k37 w A ls.length (ls.map toS)) :
    Calls Try.prog 21 #[.slice A ls.length c] w fun e w' => e = .returned (.int .i64 (depthOf ls)) ∧ Below w.heap.size w w' := by
  have hl' : (ls.length : Int) ≤ 1000 := by omega
  have hmk : ∀ w : World, (Instr.makeSlice 74 (.int .i64 64) (.int .i64 64)).run Try.prog w = .ok (.slice (some ⟨w.heap.size, 0, none⟩) 64 64) (w.alloc (.cells (bools fun _ => false) 4)) := fun w => by kernel_rfl
  go_enter Try.func21, Try.ntmps21
  go_wp2_with fail
  go_loopg [3, 4] (ls.length) (fun n m iv wq => ∃ i : Nat, i ≤ ls.length ∧ iv = .int .i64 i ∧ m = .int .i64 (mostTo ls i) ∧ n = ls.length - i ∧ Below w.heap.size w wq)
  case atStart => exact ⟨0, by omega, rfl, by rw [mostTo_zero]; rfl, rfl, Below.refl _ _⟩
  case round =>
    obtain ⟨i, hi, rfl, rfl, hgi, hB⟩ := hrel
    obtain ⟨wo, rfl⟩ : ∃ wo : World, wo = wr := ⟨_, rfl⟩
    have Agi : Aside (gk = ls.length - i) := hgi
    clear hgi
    by_cases hlt : i < ls.length
    · have hm0 := mostTo_le ls i
      have hms := Lib.hid (mostTo_succ hlt)
      obtain ⟨kx, hkx⟩ : ∃ kx, kx = ls[i].1 := ⟨_, rfl⟩
      have Hkx := Lib.hid hkx
      clear hkx
      have hCi := Kd.C_below h hB
      go_wp2_with fail
      have hbk := Blk.new wo 4 (bools fun _ => false)
      go_loopg [6, 7] (ls.length) (fun n m iv wq => ∃ k : Nat, k ≤ ls.length ∧ iv = .int .i64 k ∧ m = .int .i64 (cnt (seenB ls kx k)) ∧ n = ls.length - k ∧ Below wo.heap.size wo wq ∧ Blk wq wo.heap.size 4 (bools (seenB ls kx k)))
      case atStart => exact ⟨0, by omega, rfl, by rw [seenB_zero, cnt_none]; rfl, rfl, below_new _ _, by rw [seenB_zero]; exact hbk⟩
      case round =>
        obtain ⟨k, hk, rfl, rfl, hgk, hBk, hbl⟩ := hrel
        have Agk : Aside (gk = ls.length - k) := hgk
        clear hgk hbk
        have hc0 := cnt_le (seenB ls kx k)
        by_cases hlk : k < ls.length
        · have hCk := Kd.C_below hCi hBk
          by_cases hki : k = i
          · subst hki
            have hse := Lib.hid (show seenB ls kx (k + 1) = seenB ls kx k by rw [Hkx.out]; exact seenB_self hlk)
            go_wp2_with fail
            go_roundg (ls.length - (k + 1))
            case measure => have := Agk.out; omega
            exact ⟨k + 1, by omega, by simp, by rw [hse.out], rfl, hBk, by rw [hse.out]; exact hbl⟩
          · have hkb : ((k : Int) == (i : Int)) = false := by simp; omega
            obtain ⟨p, hp, hp64, hpf⟩ := parts_f (hkl _ (List.getElem_mem hlt)) (hkl _ (List.getElem_mem hlk)) (key_ne hr hlt hlk fun e => hki e.symm)
            obtain ⟨ad, rfl, p0, _⟩ := pair_at hCk i hlt
            obtain ⟨ad', e, q0, _⟩ := pair_at hCk k hlk
            cases e
            have hsu := seenB_succ (x := kx) hlk (by rw [Hkx.out]; exact hp)
            rw [← Hkx.out] at p0 hpf
            obtain ⟨ky, hky⟩ : ∃ ky, ky = ls[k].1 := ⟨_, rfl⟩
            rw [← hky] at q0 hpf
            have Hsu := Lib.hid hsu
            have hpc := fun w => mandolineref25_parts.calls 70 _ _ _ w hpf
            have h0p : (0 : Int) ≤ (p : Int) := by omega
            have h64 : (p : Int) < 64 := by omega
            clear hky hsu hp hpf
            cases hS : seenB ls kx k p with
            | true =>
              have Hup := Lib.hid (upd_same hS)
              have d0 := (hbl.cell p).trans (bools_get _ hp64)
              rw [hS] at d0
              go_wp2_with fail
              go_quiet ((go_at_call 38; exact Calls.quiet_of ((hpc _).mono fun _ _ ⟨he, hd⟩ => ⟨he, hd.out⟩)))
              go_wp2_with fail
              go_roundg (ls.length - (k + 1))
              case measure => have := Agk.out; omega
              exact ⟨k + 1, by omega, by simp, by rw [Hsu.out, Hup.out], rfl, below_drewN hBk _, by rw [Hsu.out, Hup.out]; exact hbl.drewN _⟩
            | false =>
              have Hup := Lib.hid (cnt_upd hS hp64)
              have df := hbl.frozen p
              have d0 := (hbl.cell p).trans (bools_get _ hp64)
              rw [hS] at d0
              go_wp2_with fail
              go_quiet ((go_at_call 38; exact Calls.quiet_of ((hpc _).mono fun _ _ ⟨he, hd⟩ => ⟨he, hd.out⟩)))
              go_wp2_with fail
              go_roundg (ls.length - (k + 1))
              case measure => have := Agk.out; omega
              refine ⟨k + 1, by omega, by simp, by rw [Hsu.out, Hup.out]; simp, rfl, (below_drewN hBk _).setCell (p := ⟨wo.heap.size, p, none⟩) (by simp) _, ?_⟩
              rw [Hsu.out, ← bools_set _ hp64]
              exact (hbl.drewN _).set_ p _
        · have hke : k = ls.length := by omega
          subst hke
          go_wp2_with fail
          all_goals
            go_roundg (ls.length - (i + 1))
            case measure => have := Agi.out; omega
            refine ⟨i + 1, by omega, by simp, ?_, rfl, hB.trans (hBk.mono hB.size)⟩
            rw [hms.out, ← Hkx.out, steps_cnt]
            congr 1
            omega
    · have hie : i = ls.length := by omega
      subst hie
      go_wp2
      go_ret
      exact ⟨by show Ending.returned (.int .i64 (mostTo ls ls.length)) = _; rw [mostTo_all], hB⟩
end Go.Proofs.Ytkbgdbhmdpnaoaa
