/- RadixSame: the law's walk. -/
import Derived.Test.YtkbgdbhmdpnaoaaRActs
namespace Go.Proofs.Ytkbgdbhmdpnaoaa
open Go.RowKit Go.Shelf Go.Proofs.Ytkbgdbhmdpnaoaa.Ref Go.Proofs.YtkbgdbhmdpnaoaaW.PrintWords
open RI (HasM)
theorem key_inj {l : List (Nat × Int)} (h : Rising l) {x y : Nat × Int} (hx : x ∈ l) (hy : y ∈ l) (e : x.1 = y.1) : x = y := by
  obtain ⟨i, hi, rfl⟩ := List.getElem_of_mem hx
  obtain ⟨j, hj, rfl⟩ := List.getElem_of_mem hy
  rcases Nat.lt_trichotomy i j with hlt | rfl | hgt
  · have := List.pairwise_iff_getElem.1 h i j hi hj hlt; omega
  · rfl
  · have := List.pairwise_iff_getElem.1 h j i hj hi hgt; omega
theorem rising_ext : ∀ {a b : List (Nat × Int)}, Rising a → Rising b → (∀ x, x ∈ a ↔ x ∈ b) → a = b
  | [], [], _, _, _ => rfl
  | [], y :: b, _, _, h => by simpa using (h y).2 (List.mem_cons_self ..)
  | x :: a, [], _, _, h => by simpa using (h x).1 (List.mem_cons_self ..)
  | x :: a, y :: b, ha, hb, h => by
    unfold Rising at ha hb
    rw [List.pairwise_cons] at ha hb
    have e : x = y := by
      rcases List.mem_cons.1 ((h x).1 (List.mem_cons_self ..)) with e | hx
      · exact e
      · rcases List.mem_cons.1 ((h y).2 (List.mem_cons_self ..)) with e | hy
        · exact e.symm
        · have := hb.1 x hx; have := ha.1 y hy; omega
    subst e
    have : a = b := rising_ext ha.2 hb.2 fun z => by
      constructor
      · intro hz
        rcases List.mem_cons.1 ((h z).1 (List.mem_cons_of_mem _ hz)) with rfl | hz'
        · have := ha.1 z hz; omega
        · exact hz'
      · intro hz
        rcases List.mem_cons.1 ((h z).2 (List.mem_cons_of_mem _ hz)) with rfl | hz'
        · have := hb.1 z hz; omega
        · exact hz'
    rw [this]
theorem mem_rput_old {l : List (Nat × Int)} {k : Nat} {v : Int} {x : Nat × Int} (hx : x ∈ l) (hk : x.1 ≠ k) : x ∈ rput l k v := by
  induction l with
  | nil => cases hx
  | cons a l ih =>
    obtain ⟨a, y⟩ := a
    unfold rput
    rcases List.mem_cons.1 hx with rfl | hx'
    · split
      · simp
      · split
        · simp at hk; omega
        · simp
    · split
      · exact List.mem_cons_of_mem _ hx
      · split
        · exact List.mem_cons_of_mem _ hx'
        · exact List.mem_cons_of_mem _ (ih hx')
theorem mem_rput_iff {l : List (Nat × Int)} (h : Rising l) {k : Nat} {v : Int} {x : Nat × Int} : x ∈ rput l k v ↔ x = (k, v) ∨ (x ∈ l ∧ x.1 ≠ k) := by
  constructor
  · intro hx
    by_cases hk : x.1 = k
    · exact .inl (key_inj (rising_rput h k v) hx (mem_rput_self l k v) hk)
    · rcases mem_rput hx with rfl | hx'
      · exact .inl rfl
      · exact .inr ⟨hx', hk⟩
  · rintro (rfl | ⟨hx, hk⟩)
    · exact mem_rput_self l _ _
    · exact mem_rput_old hx hk
theorem mem_rdrop {l : List (Nat × Int)} {k : Nat} {x : Nat × Int} : x ∈ rdrop l k ↔ x ∈ l ∧ x.1 ≠ k := by simp [rdrop]
/-- A pair put anew. -/
def again (l : List (Nat × Int)) (x : Nat × Int) : List (Nat × Int) := rput (rdrop (rput l x.1 (wrap64 (x.2 + 1))) x.1) x.1 x.2
theorem again_rising {l : List (Nat × Int)} (h : Rising l) (x : Nat × Int) : Rising (again l x) := rising_rput (rising_filter (rising_rput h _ _) _) _ _
theorem again_length (l : List (Nat × Int)) (x : Nat × Int) : (again l x).length ≤ l.length + 2 := by
  unfold again
  have h1 := rput_length (rdrop (rput l x.1 (wrap64 (x.2 + 1))) x.1) x.1 x.2
  have h2 := rput_length l x.1 (wrap64 (x.2 + 1))
  have h3 : (rdrop (rput l x.1 (wrap64 (x.2 + 1))) x.1).length ≤ (rput l x.1 (wrap64 (x.2 + 1))).length := List.length_filter_le _ _
  omega
theorem mem_again {l : List (Nat × Int)} (h : Rising l) {x y : Nat × Int} : y ∈ again l x ↔ y = x ∨ (y ∈ l ∧ y.1 ≠ x.1) := by
  unfold again
  have hr : Rising (rdrop (rput l x.1 (wrap64 (x.2 + 1))) x.1) := rising_filter (rising_rput h _ _) _
  rw [mem_rput_iff hr, mem_rdrop, mem_rput_iff h]
  constructor
  · rintro (h1 | ⟨⟨(rfl | h1), h2⟩, h3⟩)
    · exact .inl h1
    · simp at h2
    · exact .inr ⟨h1.1, h3⟩
  · rintro (rfl | ⟨h1, h2⟩)
    · exact .inl rfl
    · exact .inr ⟨⟨.inr ⟨h1, h2⟩, h2⟩, h2⟩
/-- The first i of a turned list. -/
def Turned (ls nl : List (Nat × Int)) (t i : Nat) : Prop := Rising nl ∧ nl.length ≤ 2 * i ∧ ∀ x, x ∈ nl ↔ ∃ j, j < i ∧ ls[(j + t) % ls.length]? = some x
theorem Turned.nil (ls : List (Nat × Int)) (t : Nat) : Turned ls [] t 0 := ⟨List.Pairwise.nil, by simp, by simp⟩
theorem Turned.step {ls nl : List (Nat × Int)} {t i : Nat} (hr : Rising ls) (h : Turned ls nl t i) {x : Nat × Int} (hx : ls[(i + t) % ls.length]? = some x) : Turned ls (again nl x) t (i + 1) := by
  refine ⟨again_rising h.1 x, by have := again_length nl x; have := h.2.1; omega, fun y => ?_⟩
  rw [mem_again h.1, h.2.2]
  have hxm : x ∈ ls := List.mem_of_getElem? hx
  constructor
  · rintro (rfl | ⟨⟨j, hj, hy⟩, _⟩)
    · exact ⟨i, by omega, hx⟩
    · exact ⟨j, by omega, hy⟩
  · rintro ⟨j, hj, hy⟩
    by_cases hk : y.1 = x.1
    · exact .inl (key_inj hr (List.mem_of_getElem? hy) hxm hk)
    · refine .inr ⟨⟨j, ?_, hy⟩, hk⟩
      by_cases e : j = i
      · subst e
        rw [hx] at hy
        cases hy
        exact absurd rfl hk
      · omega
theorem Turned.all {ls nl : List (Nat × Int)} {t : Nat} (hr : Rising ls) (h : Turned ls nl t ls.length) : nl = ls := by
  refine rising_ext h.1 hr fun x => ?_
  rw [h.2.2]
  constructor
  · rintro ⟨j, _, hx⟩
    exact List.mem_of_getElem? hx
  · intro hx
    obtain ⟨m, hm, rfl⟩ := List.getElem_of_mem hx
    have hn : 0 < ls.length := by omega
    refine ⟨(m + (ls.length - t % ls.length)) % ls.length, Nat.mod_lt _ hn, ?_⟩
    have e : ((m + (ls.length - t % ls.length)) % ls.length + t) % ls.length = m := by
      rw [Nat.mod_add_mod]
      have h1 := Nat.div_add_mod t ls.length
      have h2 := Nat.mod_lt t hn
      have h3 : m + (ls.length - t % ls.length) + t = m + ls.length * (1 + t / ls.length) := by
        rw [Nat.mul_add, Nat.mul_one]; omega
      rw [h3, Nat.add_mul_mod_self_left, Nat.mod_eq_of_lt hm]
    rw [e, List.getElem?_eq_getElem hm]
set_option maxRecDepth 100000 in
set_option maxHeartbeats 4000000 in
theorem same_walk (v : Value) (l : List A) (tn : Nat) (htn : tn < 256) (W : World) (hA : ActsAt W v l) :
    Calls Try.prog 8 #[v, .int .u8 tn] W fun e w' => e = .returned (.bool true) ∧ Below W.heap.size W w' := by
  obtain ⟨ad, c, rfl, hmax, hks, hcells⟩ := hA
  by_cases hlen : 60 < l.length
  · have hlb : decide ((60 : Int) < (l.length : Int)) = true := by simp; omega
    have hle : (l.length : Int) ≤ 9223372036854775807 := by omega
    go_enter Try.func8, Try.ntmps8
    go_wp2_with fail
    refine (awake_any _).mono ?_
    rintro e w1 ⟨rfl, hB1⟩
    go_wp2_with fail
    refine (awake_any _).mono ?_
    rintro e w2 ⟨rfl, hB2⟩
    go_wp2
    go_ret
    exact ⟨rfl, hB1.trans (hB2.mono hB1.size)⟩
  · have hlb : decide ((60 : Int) < (l.length : Int)) = false := by simp; omega
    have hle : (l.length : Int) ≤ 60 := by omega
    go_enter Try.func8, Try.ntmps8
    go_wp2_with fail
    refine (awake_any _).mono ?_
    rintro e w1 ⟨rfl, hB1⟩
    go_wp2_with fail
    have hstart : Both W ((w1.alloc (.cells #[.pointer none, .int .i64 0] 27)).alloc (.cells #[.pointer none, .int .i64 0] 27)) w1.heap.size (.slice none 0 0) (play (l.take 0)) :=
      ⟨none, (Blk.new _ _ _).alloc _, .inl ⟨rfl, rfl⟩, Kd.R_nil _ _ _ _ _, hB1.trans (((below_new _ _).alloc (Nat.le_of_lt (by simp)) _).mono hB1.size)⟩
    have hnew2 : Blk ((w1.alloc (.cells #[.pointer none, .int .i64 0] 27)).alloc (.cells #[.pointer none, .int .i64 0] 27)) (w1.heap.size + 1) 27 #[.pointer none, .int .i64 0] := by
      have h := Blk.new (w1.alloc (.cells #[.pointer none, .int .i64 0] 27)) 27 #[.pointer none, .int .i64 0]
      rwa [World.size_alloc] at h
    have Hnew2 := Lib.hid hnew2
    clear hnew2
    go_loopg [7, 22] (l.length) (fun n wv iv wr => ∃ j : Nat, j ≤ l.length ∧ iv = .int .i64 j ∧ n = l.length - j ∧ Both W wr w1.heap.size wv (play (l.take j)) ∧ Stay ((w1.alloc (.cells #[.pointer none, .int .i64 0] 27)).alloc (.cells #[.pointer none, .int .i64 0] 27)) w1.heap.size wr)
    case atStart => exact ⟨0, by omega, rfl, rfl, hstart, Stay.refl _ _⟩
    case round =>
      obtain ⟨j, hj, rfl, hgk, ⟨q, hm, hM, hR, hB⟩, hSt⟩ := hrel
      have Agk : Aside (gk = l.length - j) := hgk
      clear hgk hstart
      have hpl := play_length (l.take j)
      have hpl2 : (l.take j).length ≤ j := List.length_take_le _ _
      by_cases hlt : j < l.length
      · obtain ⟨a, rfl, hab, e0, e1, e2⟩ := hcells j l[j] (List.getElem?_eq_getElem hlt)
        obtain ⟨x, hx⟩ : ∃ x, x = l[j] := ⟨_, rfl⟩
        rw [← hx] at e0 e1 e2
        have hxk := hks x (by rw [hx]; exact List.getElem_mem _)
        have hsnoc : play (l.take (j + 1)) = step (play (l.take j)) x := by rw [List.take_succ_eq_append_getElem hlt, ← hx, play_snoc]
        have Hs := Lib.hid hsnoc
        clear hx hsnoc
        have E0 := (hB.cell (p := a.add (j * 3)) (by rw [add_block]; exact hab)).trans e0
        have E1 : wr.cell? ((a.add (j * 3)).add 1) = some (.int .u64 x.k) := by rw [hB.cell (by rw [add_block, add_block]; exact hab), add_of_add]; exact e1
        have E2 : wr.cell? ((a.add (j * 3)).add 2) = some (.int .i64 x.v) := by rw [hB.cell (by rw [add_block, add_block]; exact hab), add_of_add]; exact e2
        have E1 : wr.cell? ⟨(a.add (j * 3)).block, (a.add (j * 3)).off + 1, none⟩ = some (.int .u64 x.k) := E1
        have E2 : wr.cell? ⟨(a.add (j * 3)).block, (a.add (j * 3)).off + 2, none⟩ = some (.int .i64 x.v) := E2
        clear e0 e1 e2
        have Hpl : (play (l.take j)).length ≤ 60 := by omega
        have hdo := do_any x hxk _ q (play (l.take j)) (by omega) _ ((hM.below (below_new wr (.cells #[.int .i64 x.kind, .int .u64 x.k, .int .i64 x.v] 30))).below (below_drew (Below.refl _ _)))
        have hm2 := (hm.alloc (.cells #[.int .i64 x.kind, .int .u64 x.k, .int .i64 x.v] 30)).drew
        have ha2 := (Blk.new wr 30 #[.int .i64 x.kind, .int .u64 x.k, .int .i64 x.v]).drew
        have x0 := hm2.cell 0
        have x1 := hm2.cell 1
        have y0 := ha2.cell 0
        have y1 := ha2.cell 1
        have y2 := ha2.cell 2
        simp at x0 x1 y0 y1 y2
        have hwf := want_f (rising_play (l.take j)) (by omega) x
        have hBa : Below W.heap.size W (wr.alloc (.cells #[.int .i64 x.kind, .int .u64 x.k, .int .i64 x.v] 30)).drew := below_drew (hB.trans ((below_new _ _).mono hB.size))
        have hRa := (Kd.R_below hR (below_new wr (.cells #[.int .i64 x.kind, .int .u64 x.k, .int .i64 x.v] 30)))
        have hRd := Kd.R_below hRa (below_drew (Below.refl _ _))
        have Hwf := Lib.hid hwf
        clear hwf
        go_wp2_with fail
        go_region_law (first
          | (go_simp; go_at_call 11; refine hdo.mono ?_; rintro e w2 ⟨q2, rfl, hM2, hB2⟩; have hm3 := hm2.keep hB2; have ha3 := ha2.keep hB2; have z0 := hm3.cell 0; have z1 := hm3.cell 1; have z2 := ha3.cell 0; have z3 := ha3.cell 1; have z4 := ha3.cell 2; simp at z0 z1 z2 z3 z4; have hR2 := Kd.R_bound (Kd.R_below hRd hB2))
          | (go_simp; go_at_call 12; refine (mandolinelaw25_want.calls _ _ _ _ _ _ _ _ W w2 (hBa.trans (hB2.mono hBa.size)) hR2 Hwf.out).mono ?_; rintro e w3 ⟨v3, rfl, hR3, hB3, hK3⟩; have hm4 := blk_kept hK3 (fun b hb => hb.2.2.2) hm3 (by decide); have ha4 := blk_kept hK3 (fun b hb => hb.2.2.2) ha3 (by decide); have t0 := hm4.cell 0; have t1 := hm4.cell 1; have t2 := ha4.cell 0; have t3 := ha4.cell 1; have t4 := ha4.cell 2; have t5 := hm4.frozen 0; have t6 := hm4.frozen 1; simp at t0 t1 t2 t3 t4))
        all_goals
          go_wp2_with fail
          go_roundg (l.length - (j + 1))
          case measure => have := Agk.out; omega
          refine ⟨j + 1, by omega, by simp, rfl, ?_, hSt.end_ (below_drew (below_new _ _)) hB2 hK3 (fun b hb => hb.2.2.2) _ _⟩
          rw [Hs.out]
          exact both_end hm4 hM2 (by have := hm.lt; simp; omega) hK3 (fun b hb => hb.2.2.2) hR3 hB3 hB1.size
      · have hje : j = l.length := by omega
        subst hje
        rw [List.take_length] at hM hR hm hpl
        have hri := rising_play l
        obtain ⟨ls, hls⟩ : ∃ ls, ls = play l := ⟨_, rfl⟩
        rw [← hls] at hm hM hR hpl hri
        have hkl : ∀ x ∈ ls, x.1 < 18446744073709551616 := by rw [hls]; exact play_keys hks
        clear hls
        have hlsl : ls.length ≤ 60 := by omega
        have z0 := hm.cell 0
        have z1 := hm.cell 1
        simp at z0 z1
        obtain ⟨A2, c2, rfl, hc2, hC2⟩ := R_pairs hR
        have hnb := hSt (w1.heap.size + 1) _ _ (by omega) (by decide) Hnew2.out
        go_wp2_with fail
        go_loopg [10, 11, 35] (ls.length) (fun n _ _ iv wq => ∃ i : Nat, i ≤ ls.length ∧ iv = .int .i64 i ∧ n = ls.length - i ∧ Below W.heap.size W wq ∧ Blk wq w1.heap.size 27 #[.pointer q, .int .i64 ls.length] ∧ HasM (fun _ => True) wq q ls ∧
          Kd.R k37 37 wq W.heap.size (fun _ => True) (.slice A2 ls.length c2) (ls.map toS) ∧ ∃ qn nl, Turned ls nl tn i ∧ Blk wq (w1.heap.size + 1) 27 #[.pointer qn, .int .i64 nl.length] ∧ HasM (fun _ => True) wq qn nl)
        case atStart => exact ⟨0, by omega, rfl, rfl, hB, hm, hM.mono fun _ _ _ => trivial, hR, none, [], Turned.nil _ _, hnb, .inl ⟨rfl, rfl⟩⟩
        case round =>
          obtain ⟨i, hi, rfl, hgi, hBi, hmi, hMi, hRi, qn, nl, hTu, hni, hNi⟩ := hrel
          have Agi : Aside (gk = ls.length - i) := hgi
          clear hgi
          have hCi := (Kd.R_reads' hRi).2.2
          rw [List.length_map] at hCi
          have hmil := hmi.lt
          have hnil := hni.lt
          have hz0 := hmi.cell 0
          have hz1 := hmi.cell 1
          have hz2 := hni.cell 0
          have hz3 := hni.cell 1
          simp at hz0 hz1 hz2 hz3
          by_cases hlt : i < ls.length
          · obtain ⟨mi, hmi_⟩ : ∃ mi, mi = (i + tn) % ls.length := ⟨_, rfl⟩
            have hrem : Int.tmod ((i : Int) + tn) (ls.length : Int) = (mi : Int) := by
              rw [← Int.natCast_add, hmi_]; exact (Int.ofNat_tmod _ _).symm
            have hml : mi < ls.length := by rw [hmi_]; exact Nat.mod_lt _ (by omega)
            obtain ⟨x, hx⟩ : ∃ x, x = ls[mi] := ⟨_, rfl⟩
            have hturn := hTu.step hri (x := x) (by rw [← hmi_, hx]; exact List.getElem?_eq_getElem hml)
            obtain ⟨ae, rfl, p0, p1⟩ := pair_at hCi mi hml
            rw [← hx] at p0 p1
            have hxk : x.1 < 18446744073709551616 := by rw [hx]; exact hkl _ (List.getElem_mem _)
            have hne0 : (ls.length : Int) ≠ 0 := by omega
            have hnl : nl.length ≤ 120 := by have := hTu.2.1; omega
            have Hturn := Lib.hid hturn
            have HRi := Lib.hid hRi
            clear hmi_ hx hturn hCi hRi hTu hnb hSt hR hM
            have hBa : Below wr.heap.size wr (wr.alloc (.cells #[.int .u64 x.1, .int .i64 x.2] 37)).drew := below_drew (below_new _ _)
            have hBw := hBi.trans (hBa.mono hBi.size)
            have ha2 := (Blk.new wr 37 #[.int .u64 x.1, .int .i64 x.2]).drew
            have y0 := ha2.cell 0
            have y1 := ha2.cell 1
            have hn2 := hni.keep hBa
            have z2 := hn2.cell 0
            have z3 := hn2.cell 1
            simp at y0 y1 z2 z3
            have hput1 := fun w' v h => RI.put_num x.1 x.1 rfl hxk v (fun _ => True) qn nl _ nl.length _ rfl rfl rfl (by omega) w' h
            have hNb := hNi.below hBa
            have Hlen := Lib.hid (rput_length nl x.1)
            have HDl := Lib.hid (fun v => show (rdrop (rput nl x.1 v) x.1).length ≤ (rput nl x.1 v).length from List.length_filter_le _ _)
            go_wp2_with fail
            have hS0 : (fun w' : World => w'.cell? ⟨wr.heap.size, 0, none⟩ = some (.int .u64 x.1) ∧ w'.cell? ⟨wr.heap.size, 1, none⟩ = some (.int .i64 x.2)) (wr.alloc (.cells #[.int .u64 x.1, .int .i64 x.2] 37)).drew := ⟨ha2.cell 0, ha2.cell 1⟩
            refine wp_region_held_drew (S := fun w' : World => w'.cell? ⟨wr.heap.size, 0, none⟩ = some (.int .u64 x.1) ∧ w'.cell? ⟨wr.heap.size, 1, none⟩ = some (.int .i64 x.2)) (by kernel_rfl) hS0 (fun hHeld => ?_)
            refine wpAnyH_take (i := 1) (v := ?_) rfl (by kernel_rfl) (by kernel_rfl) (by kernel_rfl) (fun _ _ _ h => h) (Or.inl ⟨by rfl, ?_⟩) (by assumption) ?_
            rotate_left
            · intro w hSw; (try dsimp only at hSw); go_simp; try (with_reducible rfl)
            simp only [Act.put, List.setIfInBounds_toArray, List.set_cons_zero, List.set_cons_succ]
            refine wpAnyH_take (i := 2) (v := ?_) rfl (by kernel_rfl) (by kernel_rfl) (by kernel_rfl) (fun _ _ _ h => h) (Or.inl ⟨by rfl, ?_⟩) (by assumption) ?_
            rotate_left
            · intro w hSw; (try dsimp only at hSw); go_simp; try (with_reducible rfl)
            simp only [Act.put, List.setIfInBounds_toArray, List.set_cons_zero, List.set_cons_succ]
            refine wpAnyH_take (i := 3) (v := ?_) rfl (by kernel_rfl) (by kernel_rfl) (by kernel_rfl) (fun _ _ _ h => h) (Or.inl ⟨by rfl, ?_⟩) (by assumption) ?_
            rotate_left
            · intro w hSw; (try dsimp only at hSw); go_simp; try (with_reducible rfl)
            simp only [Act.put, List.setIfInBounds_toArray, List.set_cons_zero, List.set_cons_succ]
            refine wpAnyH_take (i := 4) (v := ?_) rfl (by kernel_rfl) (by kernel_rfl) (by kernel_rfl) (fun _ _ _ h => h) (Or.inl ⟨by rfl, ?_⟩) (by assumption) ?_
            rotate_left
            · intro w hSw; (try dsimp only at hSw); go_simp; try (with_reducible rfl)
            simp only [Act.put, List.setIfInBounds_toArray, List.set_cons_zero, List.set_cons_succ]
            refine wpAnyH_take (i := 5) (v := ?_) rfl (by kernel_rfl) (by kernel_rfl) (by kernel_rfl) (fun _ _ _ h => h) (Or.inl ⟨by rfl, ?_⟩) (by assumption) ?_
            rotate_left
            · intro w hSw; (try dsimp only at hSw); go_simp; try (with_reducible rfl)
            simp only [Act.put, List.setIfInBounds_toArray, List.set_cons_zero, List.set_cons_succ]
            refine wpAnyH_take (i := 7) (v := ?_) rfl (by kernel_rfl) (by kernel_rfl) (by kernel_rfl) (fun _ _ _ h => h) (Or.inl ⟨by rfl, ?_⟩) (by assumption) ?_
            rotate_left
            · intro w hSw; (try dsimp only at hSw); go_simp; try (with_reducible rfl)
            simp only [Act.put, List.setIfInBounds_toArray, List.set_cons_zero, List.set_cons_succ]
            refine wpAnyH_take (i := 8) (v := ?_) rfl (by kernel_rfl) (by kernel_rfl) (by kernel_rfl) (fun _ _ _ h => h) (Or.inl ⟨by rfl, ?_⟩) (by assumption) ?_
            rotate_left
            · intro w hSw; (try dsimp only at hSw); go_simp; try (with_reducible rfl)
            simp only [Act.put, List.setIfInBounds_toArray, List.set_cons_zero, List.set_cons_succ]
            refine wpAnyH_take (i := 10) (v := ?_) rfl (by kernel_rfl) (by kernel_rfl) (by kernel_rfl) (fun _ _ _ h => h) (Or.inl ⟨by rfl, ?_⟩) (by assumption) ?_
            rotate_left
            · intro w hSw; (try dsimp only at hSw); go_simp; try (with_reducible rfl)
            simp only [Act.put, List.setIfInBounds_toArray, List.set_cons_zero, List.set_cons_succ]
            refine wpAnyH_take (i := 11) (v := ?_) rfl (by kernel_rfl) (by kernel_rfl) (by kernel_rfl) (fun _ _ _ h => h) (Or.inl ⟨by rfl, ?_⟩) (by assumption) ?_
            rotate_left
            · intro w hSw; (try dsimp only at hSw); go_simp; try (with_reducible rfl)
            simp only [Act.put, List.setIfInBounds_toArray, List.set_cons_zero, List.set_cons_succ]
            refine wpAnyH_take (i := 12) (v := ?_) rfl (by kernel_rfl) (by kernel_rfl) (by kernel_rfl) (fun _ _ _ h => h) (Or.inl ⟨by rfl, ?_⟩) (by assumption) ?_
            rotate_left
            · intro w hSw; (try dsimp only at hSw); go_simp; try (with_reducible rfl)
            simp only [Act.put, List.setIfInBounds_toArray, List.set_cons_zero, List.set_cons_succ]
            refine wpAnyH_take (i := 13) (v := ?_) rfl (by kernel_rfl) (by kernel_rfl) (by kernel_rfl) (fun _ _ _ h => h) (Or.inl ⟨by rfl, ?_⟩) (by assumption) ?_
            rotate_left
            · intro w hSw; (try dsimp only at hSw); go_simp; try (with_reducible rfl)
            simp only [Act.put, List.setIfInBounds_toArray, List.set_cons_zero, List.set_cons_succ]
            refine wpAnyH_ready (rs := [0]) (by kernel_rfl) (by simp) ?_
            refine AllReadyH.cons rfl (fun K hK => ?_) AllReadyH.nil
            go_simp
            refine hK.out _ _ hHeld (fun hHeld => ?_)
            clear hK K
            try simp only [Act.put, List.setIfInBounds_toArray, List.set_cons_zero, List.set_cons_succ]
            refine wpAnyH_ready (rs := [6]) (by kernel_rfl) (by simp) ?_
            refine AllReadyH.cons rfl (fun K hK => ?_) AllReadyH.nil
            go_simp
            refine (hput1 _ _ hNb).mono ?_
            rintro e wa ⟨qa, rfl, hMa, hBa1⟩
            have ha3 := ha2.keep hBa1
            go_wp2_with fail
            refine hK.out _ _ ⟨ha3.cell 0, ha3.cell 1⟩ (fun hHeld => ?_)
            clear hK K
            try simp only [Act.put, List.setIfInBounds_toArray, List.set_cons_zero, List.set_cons_succ]
            refine wpAnyH_ready (rs := [9]) (by kernel_rfl) (by simp) ?_
            refine AllReadyH.cons rfl (fun K hK => ?_) AllReadyH.nil
            go_simp
            refine (RI.drop_num x.1 x.1 rfl hxk _ qa _ _ _ _ rfl rfl rfl (by have := Hlen.out (IntKind.i64.wrap (x.2 + 1)); omega) _ hMa).mono ?_
            rintro e wb ⟨qb, rfl, hMb, hBb1⟩
            have ha4 := ha3.keep hBb1
            go_wp2_with fail
            refine hK.out _ _ ⟨ha4.cell 0, ha4.cell 1⟩ (fun hHeld => ?_)
            clear hK K
            try simp only [Act.put, List.setIfInBounds_toArray, List.set_cons_zero, List.set_cons_succ]
            refine wpAnyH_ready (rs := [14]) (by kernel_rfl) (by simp) ?_
            refine AllReadyH.cons rfl (fun K hK => ?_) AllReadyH.nil
            go_simp
            refine (RI.put_num x.1 x.1 rfl hxk _ _ qb _ _ _ _ rfl rfl rfl (by have := Hlen.out (IntKind.i64.wrap (x.2 + 1)); have := HDl.out (IntKind.i64.wrap (x.2 + 1)); omega) _ hMb).mono ?_
            rintro e wc ⟨qc, rfl, hMc, hBc1⟩
            have ha5 := ha4.keep hBc1
            have hn5 := ((hn2.keep hBa1).keep hBb1).keep hBc1
            have z8 := hn5.cell 0
            have z9 := hn5.cell 1
            have zf8 := hn5.frozen 0
            have zf9 := hn5.frozen 1
            simp at z8 z9
            go_wp2_with fail
            refine hK.out _ _ ⟨ha5.cell 0, ha5.cell 1⟩ (fun hHeld => ?_)
            clear hK K
            try simp only [Act.put, List.setIfInBounds_toArray, List.set_cons_zero, List.set_cons_succ]
            refine wpAnyH_ready (rs := [15]) (by kernel_rfl) (by simp) ?_
            refine AllReadyH.cons rfl (fun K hK => ?_) AllReadyH.nil
            go_simp
            refine hK.out _ _ ⟨(ha5.far (by simp <;> omega) _ |>.far (by simp <;> omega) _).cell 0, (ha5.far (by simp <;> omega) _ |>.far (by simp <;> omega) _).cell 1⟩ (fun hHeld => ?_)
            clear hK K
            try simp only [Act.put, List.setIfInBounds_toArray, List.set_cons_zero, List.set_cons_succ]
            refine wpAnyH_done (by kernel_rfl) ?_ _
            go_wp2_with fail
            have ew : IntKind.i64.wrap (x.2 + 1) = wrap64 (x.2 + 1) := by unfold wrap64; exact IntKind.wrap_i64 _
            rw [ew] at hMc
            have hBA := hBw.trans (hBa1.mono hBw.size)
            have hBB := hBA.trans (hBb1.mono hBA.size)
            have hBC := hBB.trans (hBc1.mono hBB.size)
            have hCA := hBa.trans (hBa1.mono hBa.size)
            have hCB := hCA.trans (hBb1.mono hCA.size)
            have hCC := hCB.trans (hBc1.mono hCB.size)
            have hm5 := hmi.keep hCC
            have hM5 := hMi.below hCC
            have hR5 := Kd.R_below HRi.out hCC
            have hMc' := hMc.mono (ok' := fun _ => True) fun _ _ _ => trivial
            have ht : ∀ q, q ∈ 37 :: k37.E → q ≠ 27 := by simp [k37, Kd.iso, Kd.pair, Kd.int, Kd.scalar]
            have hge : W.heap.size ≤ w1.heap.size := hB1.size
            go_roundg (ls.length - (i + 1))
            case measure => have := Agi.out; omega
            refine ⟨i + 1, by omega, by simp, rfl, (hBC.setCell (p := ⟨w1.heap.size + 1, 0, none⟩) (by simp; omega) _).setCell (p := ⟨w1.heap.size + 1, 1, none⟩) (by simp; omega) _,
              (hm5.far (p := ⟨w1.heap.size + 1, 0, none⟩) (by simp) _).far (p := ⟨w1.heap.size + 1, 1, none⟩) (by simp) _, HasM.farT (HasM.farT hM5 hn5 0 _) (hn5.set_ 0 _) 1 _,
              Kd.R_mono (Kd.R_set (Kd.R_set hR5 hn5 ht 0 _) (hn5.set_ 0 _) ht 1 _) (fun _ _ => trivial), qc, again nl x, Hturn.out, (hn5.set_ 0 _).set_ 1 _, HasM.farT (HasM.farT hMc' hn5 0 _) (hn5.set_ 0 _) 1 _⟩
          · have hie : i = ls.length := by omega
            subst hie
            obtain rfl := hTu.all hri
            have hpn := fun w' h => pairs_any qn nl.length nl (by omega) w' (hNi.below (w' := w') h)
            have hpm := fun w' h => pairs_any q nl.length nl (by omega) w' (hMi.below (w' := w') h)
            have hd1 := fun w' h => RI.depthM_eq (fun _ => True) qn nl.length nl (depthOf nl : Int) rfl w' (hNi.below (w' := w') h)
            have hd2 := fun w' h => RI.depthM_eq (fun _ => True) q nl.length nl (depthOf nl : Int) rfl w' (hMi.below (w' := w') h)
            have hl1 := fun w' => RI.len_any (.pointer qn) nl.length w' rfl
            have hl2 := fun w' => RI.len_any (.pointer q) nl.length w' rfl
            have hsame := fun A1 c1 A2 c2 w' => same_any nl (by omega) A1 c1 A2 c2 w'
            have hS : ∀ w', Below wr.heap.size wr w' → (fun w' : World => Below wr.heap.size wr w' ∧ w'.cell? ⟨w1.heap.size, 0, none⟩ = some (.pointer q) ∧ w'.cell? ⟨w1.heap.size, 1, none⟩ = some (.int .i64 nl.length) ∧ w'.cell? ⟨w1.heap.size + 1, 0, none⟩ = some (.pointer qn) ∧ w'.cell? ⟨w1.heap.size + 1, 1, none⟩ = some (.int .i64 nl.length)) w' := fun w' h => ⟨h, (hmi.keep h).cell 0, (hmi.keep h).cell 1, (hni.keep h).cell 0, (hni.keep h).cell 1⟩
            have hb0 : Below wr.heap.size wr wr.drew := below_drew (Below.refl _ _)
            clear Agi
            go_wp2_with fail
            go_region_held3 (fun w' : World => Below wr.heap.size wr w' ∧ w'.cell? ⟨w1.heap.size, 0, none⟩ = some (.pointer q) ∧ w'.cell? ⟨w1.heap.size, 1, none⟩ = some (.int .i64 nl.length) ∧ w'.cell? ⟨w1.heap.size + 1, 0, none⟩ = some (.pointer qn) ∧ w'.cell? ⟨w1.heap.size + 1, 1, none⟩ = some (.int .i64 nl.length))
              (exact hS _ (by assumption))
              (first
                | (go_at_call 14; with_reducible refine (hpn _ hb0).mono ?_; rintro e w4 ⟨pv4, rfl, hpo4, hB4⟩; have bw4 := hb0.trans (hB4.mono hb0.size); obtain ⟨A4, c4, rfl, hc4, hC4⟩ := R_pairs (R_of_own hpo4))
                | (go_at_call 14; with_reducible refine (hpm _ bw4).mono ?_; rintro e w5 ⟨pv5, rfl, hpo5, hB5⟩; have bw5 := bw4.trans (hB5.mono bw4.size); obtain ⟨A5, c5, rfl, hc5, hC5⟩ := R_pairs (R_of_own hpo5))
                | (go_at_call 13; with_reducible refine (hsame A4 c4 A5 c5 _ (Kd.C_below hC4 hB5) hc4 hC5 hc5).mono ?_; rintro e w6 ⟨rfl, hB6⟩; have bw6 := bw5.trans (hB6.mono bw5.size))
                | (go_at_call 20; with_reducible refine (hd1 _ bw6).mono ?_; rintro e w7 ⟨rfl, hB7⟩; have bw7 := bw6.trans (hB7.mono bw6.size))
                | (go_at_call 20; with_reducible refine (hd2 _ bw7).mono ?_; rintro e w8 ⟨rfl, hB8⟩; have bw8 := bw7.trans (hB8.mono bw7.size))
                | (go_at_call 15; with_reducible refine (hl1 _).mono ?_; rintro e w9 ⟨rfl, hB9⟩; have bw9 := bw8.trans (hB9.mono bw8.size))
                | (go_at_call 15; with_reducible refine (hl2 _).mono ?_; rintro e w10 ⟨rfl, hB10⟩; have bw10 := bw9.trans (hB10.mono bw9.size)))
            go_wp2
            go_ret
            exact ⟨rfl, hBi.trans (bw10.mono hBi.size)⟩
end Go.Proofs.Ytkbgdbhmdpnaoaa
