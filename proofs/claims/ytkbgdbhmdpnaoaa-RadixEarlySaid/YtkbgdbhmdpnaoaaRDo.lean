/- Contracts of the law's own functions: do, pairs. -/
import Derived.Test.YtkbgdbhmdpnaoaaRNext
import Derived.Test.YtkbgdbhmdpnaoaaRPure
namespace Go.Proofs.Ytkbgdbhmdpnaoaa
open Go.RowKit Go.Shelf
open RI (HasM)
set_option maxHeartbeats 1000000 in
theorem do_any (a : A) (hk : a.k < 18446744073709551616) (ok : Nat → Prop) (p : Option Addr) (l : List (Nat × Int)) (hl : l.length < 4611686018427387904) (w : World) (hM : HasM ok w p l) :
    Calls Try.prog 11 #[.agg #[.pointer p, .int .i64 l.length], .agg #[.int .i64 a.kind, .int .u64 a.k, .int .i64 a.v]] w fun e w' =>
      ∃ q, e = .returned (.agg #[.pointer q, .int .i64 (step l a).length]) ∧ HasM (fun b => ok b ∨ w.heap.size ≤ b) w' q (step l a) ∧ Below w.heap.size w w' := by
  obtain ⟨kind, k, v⟩ := a
  simp only at hk ⊢
  obtain ⟨n, hn⟩ : ∃ n, n = l.length := ⟨_, rfl⟩
  have hbb := ((below_new w (.cells #[.pointer p, .int .i64 l.length] 27)).alloc (by simp) (.cells #[.int .i64 kind, .int .u64 k, .int .i64 v] 30)).alloc (by simp <;> omega) (.cells #[.pointer none, .int .i64 0] 27)
  have hres := Blk.new ((w.alloc (.cells #[.pointer p, .int .i64 l.length] 27)).alloc (.cells #[.int .i64 kind, .int .u64 k, .int .i64 v] 30)) 27 #[.pointer none, .int .i64 0]
  simp only [World.size_alloc] at hres
  have hM0 := (hM.mono (ok' := fun b => ok b ∧ b < w.heap.size) fun b h1 h2 => ⟨h2, h1⟩).below hbb
  by_cases h1 : kind = 1
  · subst h1
    have hst : step l ⟨1, k, v⟩ = rput l k v := by simp [step]
    rw [hst]
    have hc := RI.put_any k hk v _ p l hl _ hM0
    obtain ⟨m, hm⟩ : ∃ m : Int, m = ((rput l k v).length : Int) := ⟨_, rfl⟩
    rw [← hm] at hc ⊢
    rw [← hn] at hc hbb hres hM0 ⊢
    have Hn := Lib.hid hn
    clear hn hst hl hm
    go_enter Try.func11, Try.ntmps11
    go_wp2_with fail
    refine hc.mono ?_
    rintro e w1 ⟨q, rfl, hq, hB1⟩
    have hb1 := hres.keep hB1
    have y0 := hb1.cell 0
    have y1 := hb1.cell 1
    have z0 := hb1.frozen 0
    have z1 := hb1.frozen 1
    simp at y0 y1
    go_wp2
    have hb2 := (hb1.set_ 0 (.pointer q)).set_ 1 (.int .i64 m)
    have d0 := hb2.cell 0
    have d1 := hb2.cell 1
    simp at d0 d1
    have hB2 := hbb.trans (hB1.mono (by simp <;> omega))
    refine bodyPost_ret (v := .agg #[.pointer q, .int .i64 m]) (by simp [results, Try.results11, go_sem, d0, d1]) rfl ⟨q, rfl, ?_, (hB2.setCell (by simp <;> omega) _).setCell (by simp <;> omega) _⟩
    refine ((hq.far (q := ⟨w.heap.size + 1 + 1, 0, none⟩) (by simp <;> omega) _).far (q := ⟨w.heap.size + 1 + 1, 1, none⟩) (by simp <;> omega) _).mono ?_
    intro b _ h
    rcases h with h | h
    · exact .inl h.1
    · simp at h
      exact .inr (by omega)
  by_cases h2 : kind = 2
  · subst h2
    have hst : step l ⟨2, k, v⟩ = rdrop l k := by simp [step]
    rw [hst]
    have hc := RI.drop_any k hk _ p l hl _ hM0
    obtain ⟨m, hm⟩ : ∃ m : Int, m = ((rdrop l k).length : Int) := ⟨_, rfl⟩
    rw [← hm] at hc ⊢
    rw [← hn] at hc hbb hres hM0 ⊢
    have Hn := Lib.hid hn
    clear hn hst hl hm
    go_enter Try.func11, Try.ntmps11
    go_wp2_with fail
    refine hc.mono ?_
    rintro e w1 ⟨q, rfl, hq, hB1⟩
    have hb1 := hres.keep hB1
    have y0 := hb1.cell 0
    have y1 := hb1.cell 1
    have z0 := hb1.frozen 0
    have z1 := hb1.frozen 1
    simp at y0 y1
    go_wp2
    have hb2 := (hb1.set_ 0 (.pointer q)).set_ 1 (.int .i64 m)
    have d0 := hb2.cell 0
    have d1 := hb2.cell 1
    simp at d0 d1
    have hB2 := hbb.trans (hB1.mono (by simp <;> omega))
    refine bodyPost_ret (v := .agg #[.pointer q, .int .i64 m]) (by simp [results, Try.results11, go_sem, d0, d1]) rfl ⟨q, rfl, ?_, (hB2.setCell (by simp <;> omega) _).setCell (by simp <;> omega) _⟩
    refine ((hq.far (q := ⟨w.heap.size + 1 + 1, 0, none⟩) (by simp <;> omega) _).far (q := ⟨w.heap.size + 1 + 1, 1, none⟩) (by simp <;> omega) _).mono ?_
    intro b _ h
    rcases h with h | h
    · exact .inl h.1
    · simp at h
      exact .inr (by omega)
  have hst : step l ⟨kind, k, v⟩ = l := by simp [step, h1, h2]
  rw [hst]
  have e1 : ((kind : Int) == 1) = false := by simp [h1]
  have e2 : ((kind : Int) == 2) = false := by simp [h2]
  rw [← hn] at hbb hres hM0 ⊢
  have Hn := Lib.hid hn
  clear hn hst hl h1 h2
  have y0 := hres.cell 0
  have y1 := hres.cell 1
  have z0 := hres.frozen 0
  have z1 := hres.frozen 1
  simp at y0 y1
  go_enter Try.func11, Try.ntmps11
  go_wp2
  have hb2 := Blk.new ((w.alloc (.cells #[.pointer p, .int .i64 n] 27)).alloc (.cells #[.int .i64 kind, .int .u64 k, .int .i64 v] 30)) 27 #[.pointer p, .int .i64 n]
  simp only [World.size_alloc] at hb2
  have d0 := hb2.cell 0
  have d1 := hb2.cell 1
  simp at d0 d1
  have hbb2 := ((below_new w (.cells #[.pointer p, .int .i64 n] 27)).alloc (by simp) (.cells #[.int .i64 kind, .int .u64 k, .int .i64 v] 30)).alloc (by simp <;> omega) (.cells #[.pointer p, .int .i64 n] 27)
  exact bodyPost_ret (v := .agg #[.pointer p, .int .i64 n]) (by simp [results, Try.results11, go_sem, d0, d1]) rfl ⟨p, rfl, (hM.mono fun _ _ h => .inl h).below hbb2, hbb2⟩
end Go.Proofs.Ytkbgdbhmdpnaoaa
