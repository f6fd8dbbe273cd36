/- The law's 'awake' answers true. -/
import Derived.Test.YtkbgdbhmdpnaoaaRDepM
namespace Go.Proofs.Ytkbgdbhmdpnaoaa
open Go.RowKit Go.Shelf
open RS (HasM)
attribute [local go_sem] Oper.semAt_some
def sa : ByteArray := ⟨#[97]⟩
def sb : ByteArray := ⟨#[98]⟩
def sc : ByteArray := ⟨#[99]⟩
def se : ByteArray := ⟨#[]⟩
theorem sa_l : sa.toList = [97] := by rw [Lib.toList_data]; rfl
theorem sb_l : sb.toList = [98] := by rw [Lib.toList_data]; rfl
theorem sc_l : sc.toList = [99] := by rw [Lib.toList_data]; rfl
def L3 : List (Nat × ByteArray) := [(1, sa), (2, sb), (3, sc)]
def L2 : List (Nat × ByteArray) := [(1, sa), (3, sc)]
theorem depth3 : (2 : Int) = depthOf L3 := by decide +kernel
theorem depth2 : (1 : Int) = depthOf L2 := by decide +kernel
theorem of_bytes {a : ByteArray} {l : List UInt8} (h : a.toList = l) : a = ⟨l.toArray⟩ := by
  obtain ⟨⟨d⟩⟩ := a
  rw [Lib.toList_data] at h
  simp at h
  rw [h]
def AwI (w8 : World) (pre : List (Nat × ByteArray)) (W : World) : Prop := (pre.length < 3 ∧ pre <+: L3) ∧ Blk W w8.heap.size 3 #[.int .i64 pre.length] ∧ Below w8.heap.size w8 W
def AwIx (w8 : World) (c : Code) (pre : List (Nat × ByteArray)) (W : World) : Prop := ¬ pre <+: L3 ∨ (c = .exit 0 ∧ Blk W w8.heap.size 3 #[.int .i64 3] ∧ Below w8.heap.size w8 W)
theorem AwIx_own (w8 : World) {B : Nat} (hB : w8.heap.size ≤ B) (c : Code) : OwnFrom B (AwIx w8 c) := by
  intro s W W' row hs hg hr
  rcases hs with hs | ⟨h1, h2, h3⟩
  · exact .inl hs
  · exact .inr ⟨h1, own_blk B _ _ (fun _ : Unit => _) () W W' row h2 hg hr, ownFrom_below (Nat.le_refl _) hB () W W' row h3 hg hr⟩
set_option maxRecDepth 100000 in
set_option maxHeartbeats 4000000 in
theorem awake_any (w : World) : Calls Try.prog 10 #[] w fun e w' => e = .returned (.bool true) ∧ Below w.heap.size w w' := by
  refine (callsIn_wide (n := 3)).1 ?_
  refine callsIn_of_wp_marks Try.func10 rfl trivial ?_ rfl
  simp only [Try.ntmps10, List.size_toArray, List.length_nil, Nat.reduceSub, Array.replicate_succ, Array.replicate_zero, List.push_toArray, List.append_toArray, List.nil_append, List.cons_append]
  gi_wp2_with fail
  have hb0 := (below_new w (.cells #[.bool false] 4)).alloc (by simp) (.cells #[.pointer none, .int .i64 0] 56)
  have k0 := (Blk.new w 4 #[.bool false]).alloc (.cells #[.pointer none, .int .i64 0] 56)
  have k1 := Blk.new (w.alloc (.cells #[.bool false] 4)) 56 #[.pointer none, .int .i64 0]
  rw [World.size_alloc] at k1
  refine ⟨trivial, (callsIn_wide.2 (RS.put_num 2 2 rfl (by decide) sb (fun _ => True) none [] [(2, sb)] 0 1 rfl rfl rfl (by decide) _ (RS.HasM.nil _ _))).mono ?_⟩
  rintro e w1 ⟨q1, rfl, hq1, hB1⟩
  gi_wp2_with fail
  refine ⟨trivial, (callsIn_wide.2 (RS.put_num 1 1 rfl (by decide) sa _ q1 [(2, sb)] [(1, sa), (2, sb)] 1 2 rfl rfl rfl (by decide) _ hq1)).mono ?_⟩
  rintro e w2 ⟨q2, rfl, hq2, hB2⟩
  gi_wp2_with fail
  refine ⟨trivial, (callsIn_wide.2 (RS.put_num 3 3 rfl (by decide) sc _ q2 [(1, sa), (2, sb)] L3 2 3 rfl rfl rfl (by decide) _ hq2)).mono ?_⟩
  rintro e w3 ⟨q3, rfl, hq3, hB3⟩
  have hb1 := hb0.trans (hB1.mono (by simp <;> omega))
  have k0a := ((k0.keep hB1).keep hB2).keep hB3
  have k1a := ((k1.keep hB1).keep hB2).keep hB3
  have hb2 := hb1.trans ((hB2.mono hb1.size))
  have hb3 := hb2.trans ((hB3.mono hb2.size))
  have hqa : HasM (fun _ => True) w3 q3 L3 := hq3.mono fun _ _ _ => trivial
  clear hb1 hb2 hB1 hB2 hB3 hq1 hq2 hq3 hb0 k0 k1
  have m1 := k1a.cell 0
  have m2 := k1a.cell 1
  simp at m1 m2
  gi_wp2_with fail
  have hqa1 := hqa.below (below_new w3 (.cells #[.pointer q3, .int .i64 3] 56))
  refine ⟨trivial, (callsIn_wide.2 (RS.drop_num 2 2 rfl (by decide) _ q3 L3 L2 3 2 rfl rfl rfl (by decide) _ hqa1)).mono ?_⟩
  rintro e w4 ⟨q4, rfl, hq4, hB4⟩
  have hb4 : Below w.heap.size w w4 := (hb3.trans ((below_new w3 (.cells #[.pointer q3, .int .i64 3] 56)).mono hb3.size)).trans (hB4.mono (by have := hb3.size; simp; omega))
  have ka := (Blk.new w3 56 #[.pointer q3, .int .i64 3]).keep hB4
  have k0b := (k0a.alloc (.cells #[.pointer q3, .int .i64 3] 56)).keep hB4
  have k1b := (k1a.alloc (.cells #[.pointer q3, .int .i64 3] 56)).keep hB4
  have hqa2 := hqa1.below hB4
  have hqb : HasM (fun _ => True) w4 q4 L2 := hq4.mono fun _ _ _ => trivial
  clear hq4 hB4 hqa1 hqa k0a k1a
  have hAlt : w3.heap.size < w4.heap.size := ka.lt
  have hslt : w.heap.size + 1 < w4.heap.size := k1b.lt
  have a0 := ka.cell 0
  have a1 := ka.cell 1
  simp at a0 a1
  clear m1 m2
  gi_wp2_with fail
  clear a0 a1
  obtain ⟨Wc, hWc⟩ : ∃ Wc, w4.alloc (.cells #[.pointer q4, .int .i64 2] 56) = Wc := ⟨_, rfl⟩
  rw [hWc]
  have kac : Blk Wc w3.heap.size 56 #[.pointer q3, .int .i64 3] := by rw [← hWc]; exact ka.alloc _
  have k0c : Blk Wc w.heap.size 4 #[.bool false] := by rw [← hWc]; exact k0b.alloc _
  have k1c : Blk Wc (w.heap.size + 1) 56 #[.pointer none, .int .i64 0] := by rw [← hWc]; exact k1b.alloc _
  have kbc : Blk Wc w4.heap.size 56 #[.pointer q4, .int .i64 2] := by rw [← hWc]; exact Blk.new _ _ _
  have hqac : HasM (fun _ => True) Wc q3 L3 := by rw [← hWc]; exact hqa2.below (below_new _ _)
  have hqbc : HasM (fun _ => True) Wc q4 L2 := by rw [← hWc]; exact hqb.below (below_new _ _)
  have hbc : Below w.heap.size w Wc := by rw [← hWc]; exact hb4.trans ((below_new _ _).mono hb4.size)
  have hWsz : Wc.heap.size = w4.heap.size + 1 := by rw [← hWc]; simp
  have hz1 : w3.heap.size < Wc.heap.size := by omega
  have hz2 : w.heap.size + 1 < Wc.heap.size := by omega
  have hz3 : w4.heap.size < Wc.heap.size := by omega
  have hz4 : w.heap.size < Wc.heap.size := by omega
  have HWsz := Lib.hid hWsz
  have HWc := Lib.hid hWc
  clear ka k0b k1b hqa2 hqb hb3 hb4 hWsz hWc
  have a0 := kac.cell 0
  have a1 := kac.cell 1
  have b0 := kbc.cell 0
  have b1 := kbc.cell 1
  have m0 := k1c.cell 0
  have m1 := k1c.cell 1
  have r0 := k0c.cell 0
  simp at a0 a1 b0 b1 m0 m1 r0
  refine ⟨trivial, (callsIn_wide.2 (RS.next_num 2 2 rfl (by decide) q3 3 L3 #[.int .u64 2, .string sb, .bool true] rfl _ Wc hqac)).mono ?_⟩
  rintro e w5 ⟨rfl, hBw5⟩
  obtain ⟨hcw5, hfw5⟩ := bcell hBw5
  gi_wp2_with fail
  refine ⟨trivial, (callsIn_wide.2 (RS.get_num 2 2 rfl (by decide) q4 2 L2 #[.string ⟨#[]⟩, .bool false] rfl _ w5 (hqbc.below hBw5))).mono ?_⟩
  rintro e w6 ⟨rfl, hx⟩
  have hBw6 := hBw5.trans (hx.mono hBw5.size)
  clear hcw5 hfw5
  obtain ⟨hcw6, hfw6⟩ := bcell hBw6
  gi_wp2_with fail
  refine ⟨trivial, (callsIn_wide.2 (RS.next_num 4 4 rfl (by decide) q4 2 L2 #[.int .u64 0, .string ⟨#[]⟩, .bool false] rfl _ w6 (hqbc.below hBw6))).mono ?_⟩
  rintro e w7 ⟨rfl, hx⟩
  have hBw7 := hBw6.trans (hx.mono hBw6.size)
  clear hcw6 hfw6
  obtain ⟨hcw7, hfw7⟩ := bcell hBw7
  gi_wp2_with fail
  refine ⟨trivial, (callsIn_wide.2 (RS.mapAll_any q3 3 w7)).mono ?_⟩
  rintro e w8 ⟨v, B, rfl, hv, hx⟩
  have hBw8 := hBw7.trans (hx.mono hBw7.size)
  clear hcw7 hfw7
  obtain ⟨hcw8, hfw8⟩ := bcell hBw8
  obtain ⟨rfl, hv1, hv2⟩ := hv
  have hfn := fun w a b => run_eql_func_nil (P := Try.prog) w Try.underlying64 (.func 49) a b
  have kr := k0c.below hBw8 hz4
  gi_wp2
  refine wpIn_rangeFunc_ownG rfl (by omega) (gf := 49) (lb := #[.pointer (some ⟨B, 0, none⟩), .pointer (some ⟨B + 1, 0, none⟩)]) rfl trivial (enters_of Try.func49 (by kernel_rfl) rfl)
    (RS.IterAt.stops 2 w8.heap.size (by decide) (RS.IterAt.keep ⟨rfl, hv1, hv2⟩ (below_new w8 (.cells #[.int .i64 0] 3))) L3 (by simp) ((hqac.below hBw8).mono (fun b h _ => h) |>.below (below_new w8 (.cells #[.int .i64 0] 3)))) belowK_t (belowK_b (by simp)) (Below.refl _ _) (fun _ => rfl)
    (AwI w8) (AwIx w8)
    (OwnFrom.and (ownFrom_pure _ _) (OwnFrom.and (own_blk _ _ _ _) (ownFrom_below (Nat.le_refl _) (by simp))))
    (AwIx_own w8 (by simp))
    ⟨⟨by simp, by simp⟩, Blk.new _ _ _, below_new _ _⟩
    (fun x => { tmps := #[Value.pointer (some ⟨w.heap.size, 0, none⟩), Value.pointer (some ⟨w.heap.size + 1, 0, none⟩), Value.pointer (some ⟨w3.heap.size, 0, none⟩), Value.pointer (some ⟨w4.heap.size, 0, none⟩), Value.int IntKind.u64 2, Value.string sb, Value.bool true, Value.string { data := #[] }, Value.bool false, Value.int IntKind.u64 0, Value.string { data := #[] }, Value.bool false, Value.pointer (some ⟨w8.heap.size, 0, none⟩), Value.func (.func 49) #[] #[Value.pointer (some ⟨B, 0, none⟩), Value.pointer (some ⟨B + 1, 0, none⟩)], .int .u64 x.1, .string x.2, Value.agg #[Value.pointer none, Value.int IntKind.i64 0], Value.agg #[Value.pointer q1, Value.int IntKind.i64 1], Value.agg #[Value.pointer q2, Value.int IntKind.i64 2], Value.agg #[Value.pointer q3, Value.int IntKind.i64 3], Value.agg #[Value.pointer q3, Value.int IntKind.i64 3], Value.agg #[Value.pointer q4, Value.int IntKind.i64 2], Value.tuple #[Value.int IntKind.u64 2, Value.string sb, Value.bool true], Value.agg #[Value.pointer q3, Value.int IntKind.i64 3], Value.tuple #[Value.int IntKind.u64 2, Value.string sb, Value.bool true], Value.int IntKind.u64 2, Value.string sb, Value.bool true, Value.tuple #[Value.string { data := #[] }, Value.bool false], Value.agg #[Value.pointer q4, Value.int IntKind.i64 2], Value.tuple #[Value.string { data := #[] }, Value.bool false], Value.string { data := #[] }, Value.bool false, Value.tuple #[Value.int IntKind.u64 0, Value.string { data := #[] }, Value.bool false], Value.agg #[Value.pointer q4, Value.int IntKind.i64 2], Value.tuple #[Value.int IntKind.u64 0, Value.string { data := #[] }, Value.bool false], Value.int IntKind.u64 0, Value.string { data := #[] }, Value.bool false, Value.agg #[Value.pointer q3, Value.int IntKind.i64 3], Value.func (.func 49) #[] #[Value.pointer (some ⟨B, 0, none⟩), Value.pointer (some ⟨B + 1, 0, none⟩)], Value.func (.func 49) #[] #[Value.pointer (some ⟨B, 0, none⟩), Value.pointer (some ⟨B + 1, 0, none⟩)], Value.bool false, Value.func (.func 49) #[] #[Value.pointer (some ⟨B, 0, none⟩), Value.pointer (some ⟨B + 1, 0, none⟩)], .int .u64 x.1, .string x.2, undef, undef, undef, undef, undef, undef, undef, undef, undef, undef, undef, undef, undef, undef, undef, undef, undef, undef, undef, undef, undef, undef, undef, undef, undef, undef, undef, undef, undef, undef, undef, undef, undef, undef, undef, undef, undef, undef, undef, undef, undef, undef, undef, undef, undef, undef, undef, undef, undef, undef, undef, undef, undef, undef, undef, undef, undef, undef, undef, undef, undef, undef, undef, undef, undef, undef, undef, undef, undef, undef, undef], defers := [] }) ?assign ?body ?done ?stop
  case assign =>
    intro l x W K hK
    dsimp only [RS.encs]
    gi_wp2
    exact hK
  case body =>
    rintro l pre x W ⟨⟨hlen, hpre⟩, hn, hBW⟩ _
    have n0 := hn.cell 0
    have nf := hn.frozen 0
    have nlt := hn.lt
    have krW := kr.below hBW kr.lt
    have rW := krW.cell 0
    have rf := krW.frozen 0
    have rlt := krW.lt
    have rne := kr.lt
    simp at n0 rW
    have hp3 : pre = [] ∨ pre = [(1, sa)] ∨ pre = [(1, sa), (2, sb)] := by
      match pre, hlen, hpre with
      | [], _, _ => exact .inl rfl
      | [a], _, h => simp [L3] at h; exact .inr (.inl (by rw [h]))
      | [a, b], _, h => simp [L3] at h; exact .inr (.inr (by rw [h.1, h.2]))
    obtain ⟨xk, xv⟩ := x
    rcases hp3 with rfl | rfl | rfl
    · gi_wp2
      · refine ⟨((KeepsOthers.setCell _ _ _).trans (KeepsOthers.setCell _ _ _)).from _, .inl fun h => ?_⟩
        have hne : ¬ (xk : Int) = 1 := by assumption
        simp [L3] at h
        omega
      · refine ⟨(((KeepsOthers.setCell _ _ _).trans (KeepsOthers.setCell _ _ _)).trans (KeepsOthers.alloc _ _)).from _, .inl fun h => ?_⟩
        have hne : (!xv.toList == [97]) = true := by assumption
        simp [L3] at h
        rw [h.2, sa_l] at hne
        exact absurd hne (by decide)
      · have hne : (!xv.toList == [97]) = false := by assumption
        have hxe : xv = sa := of_bytes (by simpa using hne)
        have hke : (xk : Int) = 1 := by assumption
        obtain rfl : xk = 1 := by omega
        subst hxe
        refine ⟨((KeepsOthers.setCell _ _ _).trans (KeepsOthers.alloc _ _)).from _, ((Below.refl _ _).setCell (by simp) _).alloc (by simp <;> omega) _, ⟨by simp, by simp [L3]⟩, (hn.set_ 0 _).alloc _, (hBW.setCell (by simp) _).alloc (by simp <;> omega) _⟩
    · gi_wp2
      · refine ⟨((KeepsOthers.setCell _ _ _).trans (KeepsOthers.setCell _ _ _)).from _, .inl fun h => ?_⟩
        have hne : ¬ (xk : Int) = 2 := by assumption
        simp [L3] at h
        omega
      · refine ⟨(((KeepsOthers.setCell _ _ _).trans (KeepsOthers.setCell _ _ _)).trans (KeepsOthers.alloc _ _)).from _, .inl fun h => ?_⟩
        have hne : (!xv.toList == [98]) = true := by assumption
        simp [L3] at h
        rw [h.2, sb_l] at hne
        exact absurd hne (by decide)
      · have hne : (!xv.toList == [98]) = false := by assumption
        have hxe : xv = sb := of_bytes (by simpa using hne)
        have hke : (xk : Int) = 2 := by assumption
        obtain rfl : xk = 2 := by omega
        subst hxe
        refine ⟨((KeepsOthers.setCell _ _ _).trans (KeepsOthers.alloc _ _)).from _, ((Below.refl _ _).setCell (by simp) _).alloc (by simp <;> omega) _, ⟨by simp, by simp [L3]⟩, (hn.set_ 0 _).alloc _, (hBW.setCell (by simp) _).alloc (by simp <;> omega) _⟩
    · gi_wp2
      · refine ⟨((KeepsOthers.setCell _ _ _).trans (KeepsOthers.setCell _ _ _)).from _, .inl fun h => ?_⟩
        have hne : ¬ (xk : Int) = 3 := by assumption
        simp [L3] at h
        omega
      · refine ⟨(((KeepsOthers.setCell _ _ _).trans (KeepsOthers.setCell _ _ _)).trans (KeepsOthers.alloc _ _)).from _, .inl fun h => ?_⟩
        have hne : (!xv.toList == [99]) = true := by assumption
        simp [L3] at h
        rw [h.2, sc_l] at hne
        exact absurd hne (by decide)
      · have hne : (!xv.toList == [99]) = false := by assumption
        have hxe : xv = sc := of_bytes (by simpa using hne)
        have hke : (xk : Int) = 3 := by assumption
        obtain rfl : xk = 3 := by omega
        subst hxe
        refine ⟨((KeepsOthers.setCell _ _ _).trans (KeepsOthers.alloc _ _)).from _, .inr ⟨rfl, (hn.set_ 0 _).alloc _, (hBW.setCell (by simp) _).alloc (by simp <;> omega) _⟩⟩
  case done =>
    rintro D ys W hD rfl ⟨⟨hlen, _⟩, _⟩ _
    exact absurd hlen (by simp [L3, rfrom])
  case stop =>
    rintro D c pre W hD hpre hIx hK
    rcases hIx with h | ⟨rfl, hn, hBW⟩
    · exact absurd (by simpa [L3, rfrom] using hpre) h
    have hBv0 : Below Wc.heap.size Wc W := hBw8.trans (hBW.mono hBw8.size)
    clear hcw8 hfw8 hpre
    obtain ⟨hcv0, hfv0⟩ := bcell hBv0
    have n0 := hn.cell 0
    simp at n0
    have hKv0 := hK
    gi_wp2_with fail
    refine ⟨trivial, (callsIn_wide.2 (RS.len_any (.pointer none) 0 W rfl)).mono ?_⟩
    rintro e v1 ⟨rfl, hx⟩
    have hBv1 := hBv0.trans (hx.mono hBv0.size)
    have hKv1 := (hx.block D (Array.getElem?_eq_some_iff.1 hKv0).1).trans hKv0
    clear hKv0
    clear hx hcv0 hfv0
    obtain ⟨hcv1, hfv1⟩ := bcell hBv1
    gi_wp2_with fail
    refine ⟨trivial, (callsIn_wide.2 (RS.len_any (.pointer q3) 3 v1 rfl)).mono ?_⟩
    rintro e v2 ⟨rfl, hx⟩
    have hBv2 := hBv1.trans (hx.mono hBv1.size)
    have hKv2 := (hx.block D (Array.getElem?_eq_some_iff.1 hKv1).1).trans hKv1
    clear hKv1
    clear hx hcv1 hfv1
    obtain ⟨hcv2, hfv2⟩ := bcell hBv2
    gi_wp2_with fail
    refine ⟨trivial, (callsIn_wide.2 (RS.len_any (.pointer q4) 2 v2 rfl)).mono ?_⟩
    rintro e v3 ⟨rfl, hx⟩
    have hBv3 := hBv2.trans (hx.mono hBv2.size)
    have hKv3 := (hx.block D (Array.getElem?_eq_some_iff.1 hKv2).1).trans hKv2
    clear hKv2
    clear hx hcv2 hfv2
    obtain ⟨hcv3, hfv3⟩ := bcell hBv3
    gi_wp2_with fail
    refine ⟨trivial, (callsIn_wide.2 (RS.depthM_eq _ q3 3 L3 2 depth3 v3 (hqac.below hBv3))).mono ?_⟩
    rintro e v4 ⟨rfl, hx⟩
    have hBv4 := hBv3.trans (hx.mono hBv3.size)
    have hKv4 := (hx.block D (Array.getElem?_eq_some_iff.1 hKv3).1).trans hKv3
    clear hKv3
    clear hx hcv3 hfv3
    obtain ⟨hcv4, hfv4⟩ := bcell hBv4
    gi_wp2_with fail
    refine ⟨trivial, (callsIn_wide.2 (RS.depthM_eq _ q4 2 L2 1 depth2 v4 (hqbc.below hBv4))).mono ?_⟩
    rintro e v5 ⟨rfl, hx⟩
    have hBv5 := hBv4.trans (hx.mono hBv4.size)
    have hKv5 := (hx.block D (Array.getElem?_eq_some_iff.1 hKv4).1).trans hKv4
    clear hKv4
    clear hx hcv4 hfv4
    obtain ⟨hcv5, hfv5⟩ := bcell hBv5
    gi_wp2_with fail
    refine ⟨trivial, (callsIn_wide.2 (RS.depthM_eq _ none 0 [] 0 rfl v5 (RS.HasM.nil (fun _ => True) _))).mono ?_⟩
    rintro e v6 ⟨rfl, hx⟩
    have hBv6 := hBv5.trans (hx.mono hBv5.size)
    have hKv6 := (hx.block D (Array.getElem?_eq_some_iff.1 hKv5).1).trans hKv5
    clear hKv5
    clear hx hcv5 hfv5
    obtain ⟨hcv6, hfv6⟩ := bcell hBv6
    have hsb : (sb.toList == [98]) = true := by rw [sb_l]; rfl
    have fz := k0c.frozen 0
    have HK := Lib.hid hKv6
    clear hKv6 hK
    gi_wp2
    have hK' := (KeepsOthers.setCell v6 ⟨w.heap.size, 0, none⟩ (.bool true)).same D _ HK.out rfl
    have g0 := (((k0c.below hBv6 hz4).set_ 0 (.bool true)).putObj (.deferred none) hK' rfl).cell 0
    simp at g0
    refine ⟨by simp, .inl ⟨_, _, rfl, run_takeDeferred hK', .bool true, ?_, rfl, ?_⟩⟩
    · simp [results, Try.results10, go_sem, g0]
    · exact ((hbc.trans (hBv6.mono hbc.size)).setCell (by simp) _).trans (belowK_b (w := w8) (by have := hBw8.size; omega) _ D _ _ (by simp at hD; omega) hK' rfl rfl)
end Go.Proofs.Ytkbgdbhmdpnaoaa
