/- The contract of the law's 'pairs'. -/
import Derived.Test.YtkbgdbhmdpnaoaaRDo
import Derived.Maps.AppendAt
import Derived.Deep.AppendLies
namespace Go.Proofs.Ytkbgdbhmdpnaoaa
open Go.RowKit Go.Shelf Go.Proofs.Ytkbgdbhmdpnaoaa.Ref Go.Proofs.YtkbgdbhmdpnaoaaW.PrintWords
open RI (HasM IterAt)
attribute [local go_sem] Oper.semAt_some
theorem infoPair : (Try.prog.info? 37).map (fun i => (i.zero, i.size, i.bytes)) = some (some (.agg #[.int .u64 0, .int .i64 0]), 2, 16) := by kernel_rfl
def flat (l : List (Nat × Int)) : List Value := l.flatMap fun x => [.int .u64 x.1, .int .i64 x.2]
theorem flat_snoc (l : List (Nat × Int)) (x : Nat × Int) : flat (l ++ [x]) = flat l ++ [.int .u64 x.1, .int .i64 x.2] := by simp [flat]
/-- Of an owned row of pairs to the print's word. -/
theorem R_of_own {w : World} {base : Nat} {v : Value} {l : List (Nat × Int)} (h : w.ownsRow base 37 2 v l.length (flat l)) : Kd.R k37 37 w base (fun _ => True) v (l.map toS) := by
  refine ⟨fun _ _ => trivial, flat l, by rw [List.length_map]; exact h, ?_⟩
  clear h
  have h : ∀ (r acc : List (Nat × Int)) (R : S37 → List Value → Prop), (∀ x : Nat × Int, R (toS x) [.int .u64 x.1, .int .i64 x.2]) → Reps R 2 (acc.map toS) (flat acc) → Reps R 2 ((acc ++ r).map toS) (flat (acc ++ r)) := by
    intro r
    induction r with
    | nil => intro acc R hR h; simpa using h
    | cons x r ih =>
      intro acc R hR h
      have := ih (acc ++ [x]) R hR (by rw [List.map_append, flat_snoc]; exact h.snoc (hR x) rfl)
      simpa using this
  exact h l [] _ (fun x => k37_mkM w base _ (toS x)) (Reps.none _ _)
/-- Between two rounds. -/
def PairsI (w : World) (n : Nat) (pre : List (Nat × Int)) (W : World) : Prop :=
  pre.length ≤ n ∧ (∃ v, Boxed W (w.heap.size + 1) 28 v ∧ W.ownsRow w.heap.size 37 2 v pre.length (flat pre) ∧ True) ∧ Below w.heap.size w W
set_option maxRecDepth 100000 in
set_option maxHeartbeats 2000000 in
theorem pairs_any (p : Option Addr) (m : Int) (xs : List (Nat × Int)) (hx : xs.length ≤ 200) (w : World) (hM : HasM (fun _ => True) w p xs) :
    Calls Try.prog 14 #[.agg #[.pointer p, .int .i64 m]] w fun e w' => ∃ v, e = .returned v ∧ w'.ownsRow w.heap.size 37 2 v xs.length (flat xs) ∧ Below w.heap.size w w' := by
  have hM' := hM.mono (ok' := (· < w.heap.size)) (fun b h _ => h)
  have hrf : rfrom xs 0 = xs := by simp [rfrom]
  have Hrf := Lib.hid hrf
  clear hrf
  refine (callsIn_wide (n := 3)).1 ?_
  refine callsIn_of_wp_marks Try.func14 rfl trivial ?_ rfl
  simp only [Try.ntmps14, List.size_toArray, List.length_cons, List.length_nil, Nat.reduceAdd, Nat.reduceSub, Array.replicate_succ, Array.replicate_zero, List.push_toArray, List.append_toArray, List.nil_append, List.cons_append]
  gi_wp2_with fail
  refine ⟨trivial, (callsIn_wide.2 (RI.mapAll_any p m _)).mono ?_⟩
  rintro e w1 ⟨v, B, rfl, hv, hB⟩
  obtain ⟨rfl, hv1, hv2⟩ := hv
  have hB0 := (below_new w (.cells #[.pointer p, .int .i64 m] 27)).alloc (by simp) (.cells #[.slice none 0 0] 28)
  have b3 := (Boxed.new (w.alloc (.cells #[.pointer p, .int .i64 m] 27)) 28 (.slice none 0 0))
  have b3' : Boxed w1 (w.heap.size + 1) 28 (.slice none 0 0) := by
    have := (hB.block _ b3.lt).trans b3
    rw [World.size_alloc] at this
    exact this
  have hB1 : Below w.heap.size w w1 := hB0.trans (hB.mono (by simp <;> omega))
  have hsz := b3'.lt
  obtain ⟨i0, hi, hz0, hz1, hz2⟩ := info_parts infoPair
  have hfn := fun w a b => run_eql_func_nil (P := Try.prog) w Try.underlying43 (.func 35) a b
  gi_wp2
  refine wpIn_rangeFunc_ownG rfl (by omega) (gf := 35) (lb := #[.pointer (some ⟨B, 0, none⟩), .pointer (some ⟨B + 1, 0, none⟩)]) rfl trivial (enters_of Try.func35 (by kernel_rfl) rfl)
    (IterAt.stops 2 w.heap.size (by decide) ⟨rfl, hv1, hv2⟩ xs hB1.size (hM'.below hB1)) belowK_t (belowK_b hB1.size) (Below.refl _ _) (fun _ => rfl)
    (PairsI w xs.length) (fun _ _ _ => False)
    (OwnFrom.and (ownFrom_pure _ _) (OwnFrom.and (Own.from (holdsRow_own w.heap.size (w.heap.size + 1) _ _ _ _ _ (fun _ _ => True)) _) (ownFrom_below (Nat.le_refl _) hB1.size)))
    (fun _ _ _ _ _ hs _ _ => hs)
    ⟨by simp, ⟨_, b3', World.ownsRow_nil _ _ _ _, trivial⟩, hB1⟩
    (fun x => { tmps := #[.agg #[.pointer p, .int .i64 m], .pointer (some ⟨w.heap.size, 0, none⟩), .slice none 0 0, .pointer (some ⟨w.heap.size + 1, 0, none⟩), (.func (.func 35) #[] #[.pointer (some ⟨B, 0, none⟩), .pointer (some ⟨B + 1, 0, none⟩)]), .int .u64 x.1, .int .i64 x.2,
      .agg #[.pointer p, .int .i64 m], (.func (.func 35) #[] #[.pointer (some ⟨B, 0, none⟩), .pointer (some ⟨B + 1, 0, none⟩)]), (.func (.func 35) #[] #[.pointer (some ⟨B, 0, none⟩), .pointer (some ⟨B + 1, 0, none⟩)]), .bool false, undef, (.func (.func 35) #[] #[.pointer (some ⟨B, 0, none⟩), .pointer (some ⟨B + 1, 0, none⟩)]), .int .u64 x.1, .int .i64 x.2, undef, undef, undef, undef, undef, undef, undef, undef, undef, undef], defers := [] }) ?assign ?body ?done ?stop
  case assign =>
    intro l x W K hK
    dsimp only [RI.encs]
    gi_wp2
    exact hK
  case body =>
    rintro l pre x W ⟨_, ⟨v, hvb, hrow, _⟩, hBW⟩ hN
    have hv := hvb.cell
    have hvf := hvb.frozen
    have hN' : pre.length + 1 ≤ xs.length := by rw [Hrf.out] at hN; exact hN
    have HN := Lib.hid hN'
    have hkle : pre.length + 1 ≤ 200 := by omega
    have hgt : decide ((200 : Int) < ((pre.length + 1 : Nat) : Int)) = false := by simp; omega
    have hl1 : pre.length + 1 ≤ maxLen := by unfold maxLen; omega
    have hl2 : (pre.length + 1) * 16 ≤ 140737488355328 := by omega
    have hl3 : w.heap.size ≤ (W.alloc (Obj.cells #[Value.int IntKind.u64 ↑x.fst, Value.int IntKind.i64 x.snd] 37)).heap.size := by have := hBW.size; simp; omega
    have HL1 := Lib.hid hl1; have HL2 := Lib.hid hl2; have HL3 := Lib.hid hl3
    clear hl1 hl2 hl3
    gi_wp2_with (gi_at_builtin; refine wpListIn_append_own _ rfl _ _ 28 rfl w.heap.size 37 i0 (.agg #[.int .u64 0, .int .i64 0]) 2 16 Try.underlying28 hi hz0 hz1 hz2 rfl (by decide) _ _ _ rfl (hrow.alloc _) ⟨W.heap.size, 0, none⟩ 1 1 [.int .u64 x.1, .int .i64 x.2] rfl rfl (World.news_of_block (cs := #[.int .u64 x.1, .int .i64 x.2]) (t := 37) (fr := (0, 0)) (heap_alloc_new W _)) (by simp [Value.oneCell']) HL1.out HL2.out HL3.out ?_; intro v' w2 hown' hgrow _; obtain ⟨g', cap', rfl⟩ := ownsRow_succ hown'; obtain ⟨hx1, hx2, hx3, hx4, hx5⟩ := hvb.appended (by decide) hrow hBW.size (by omega) hown' hgrow; have hc1 := hx1.cell; have hf1 := hx1.frozen)
    refine ⟨hx4.from _, hx5, by rw [List.length_append]; exact HN.out, ⟨_, hx2, ?_, trivial⟩, hBW.trans hx5⟩
    rw [flat_snoc, List.length_append]
    exact hx3
  case done =>
    rintro D ys W hD rfl ⟨hlen, ⟨v, hvb, hrow, _⟩, hBW⟩ hK
    rw [Hrf.out] at hrow
    have hv := hvb.cell
    clear hlen
    gi_wp2
    refine ⟨by simp, .inl ⟨_, _, rfl, run_takeDeferred hK, ?_⟩⟩
    exact ⟨_, results_tmp rfl _ _ _, v, rfl, ownsRow_putObj hrow _ hK rfl, hBW.trans (belowK_b (w := w) (Nat.le_refl _) W D _ _ (by have := hB1.size; omega) hK rfl rfl)⟩
  case stop =>
    rintro D c pre W _ _ h _
    exact h.elim
end Go.Proofs.Ytkbgdbhmdpnaoaa
