/- The contract of radix.Map[int].Next. -/
import Derived.Test.YtkbgdbhmdpnaoaaRAll
namespace Go.Proofs.Ytkbgdbhmdpnaoaa
open Go.RowKit Go.Shelf
attribute [local go_sem] Oper.semAt_some
namespace RI
def first : List (Nat × Int) → Array Value
  | [] => #[.int .u64 0, .int .i64 0, .bool false]
  | x :: _ => let v := x.2; #[.int .u64 x.1, .int .i64 v, .bool true]
/-- The round has returned: the first pair stands in the results. -/
def NextIx (w : World) (c : Code) (pre : List (Nat × Int)) (W : World) : Prop := c = .ret ∧ ∃ (x : Nat × Int), pre = [x] ∧ Blk W (w.heap.size + 1) 23 #[.int .u64 x.1] ∧ Blk W (w.heap.size + 1 + 1) 3 (let v := x.2; #[.int .i64 v]) ∧ Blk W (w.heap.size + 1 + 1 + 1) 4 #[.bool true] ∧ Below w.heap.size w W
def NextI (w : World) (pre : List (Nat × Int)) (W : World) : Prop := pre = [] ∧ Blk W (w.heap.size + 1) 23 #[.int .u64 0] ∧ Blk W (w.heap.size + 1 + 1) 3 #[.int .i64 0] ∧ Blk W (w.heap.size + 1 + 1 + 1) 4 #[.bool false] ∧ Below w.heap.size w W
set_option maxRecDepth 100000 in
set_option maxHeartbeats 2000000 in
theorem next_any (p : Option Addr) (m : Int) (k : Nat) (hk : k < 18446744073709551616) (xs : List (Nat × Int)) (w : World) (hM : HasM (fun _ => True) w p xs) :
    Calls Try.prog 19 #[.agg #[.pointer p, .int .i64 m], .int .u64 k] w fun e w' => e = .returned (.tuple (first (rfrom xs k))) ∧ Below w.heap.size w w' := by
  have hM' := hM.mono (ok' := (· < w.heap.size)) (fun b h _ => h)
  refine (callsIn_wide (n := 3)).1 ?_
  refine callsIn_of_wp_marks Try.func19 rfl trivial ?_ rfl
  simp only [Try.ntmps19, List.size_toArray, List.length_cons, List.length_nil, Nat.reduceAdd, Nat.reduceSub, Array.replicate_succ, Array.replicate_zero, List.push_toArray, List.append_toArray, List.nil_append, List.cons_append]
  gi_wp2_with fail
  refine ⟨trivial, (callsIn_wide.2 (mapFrom_any p m k _)).mono ?_⟩
  rintro e w1 ⟨v, B, rfl, hv, hB⟩
  obtain ⟨rfl, hv1, hv2⟩ := hv
  have hB0 := (((below_new w (.cells #[.pointer p, .int .i64 m] 27)).alloc (by simp) (.cells #[.int .u64 0] 23)).alloc (by simp <;> omega) (.cells #[.int .i64 0] 3)).alloc (by simp <;> omega) (.cells #[.bool false] 4)
  have b4 := (((Blk.new (w.alloc (.cells #[.pointer p, .int .i64 m] 27)) 23 #[.int .u64 0]).alloc (.cells #[.int .i64 0] 3)).alloc (.cells #[.bool false] 4)).keep hB
  have b5 := ((Blk.new ((w.alloc (.cells #[.pointer p, .int .i64 m] 27)).alloc (.cells #[.int .u64 0] 23)) 3 #[.int .i64 0]).alloc (.cells #[.bool false] 4)).keep hB
  have b6 := (Blk.new (((w.alloc (.cells #[.pointer p, .int .i64 m] 27)).alloc (.cells #[.int .u64 0] 23)).alloc (.cells #[.int .i64 0] 3)) 4 #[.bool false]).keep hB
  simp only [World.size_alloc] at b4 b5 b6
  have hB1 : Below w.heap.size w w1 := hB0.trans (hB.mono (by simp <;> omega))
  have hsz := b6.lt
  gi_wp2
  refine wpIn_rangeFunc_ownG rfl (by omega) (gf := 35) (lb := #[.pointer (some ⟨B, 0, none⟩), .pointer (some ⟨B + 1, 0, none⟩)]) rfl trivial (enters_of Try.func35 (by kernel_rfl) rfl)
    (IterAt.stops 2 w.heap.size hk ⟨rfl, hv1, hv2⟩ xs hB1.size (hM'.below hB1)) belowK_t (belowK_b hB1.size) (Below.refl _ _) (fun _ => rfl)
    (NextI w) (NextIx w)
    (OwnFrom.and (ownFrom_pure _ _) (OwnFrom.and (own_blk _ _ _ _) (OwnFrom.and (own_blk _ _ _ _) (OwnFrom.and (own_blk _ _ _ _) (ownFrom_below (Nat.le_refl _) hB1.size)))))
    (fun c s A A' row hs hg hr => by
      obtain ⟨h1, x, h2, h3, h4, h5, h6⟩ := hs
      exact ⟨h1, x, h2, own_blk _ _ _ (fun _ : Unit => _) () A A' row h3 hg hr, own_blk _ _ _ (fun _ : Unit => _) () A A' row h4 hg hr, own_blk _ _ _ (fun _ : Unit => _) () A A' row h5 hg hr, ownFrom_below (Nat.le_refl _) hB1.size () A A' row h6 hg hr⟩)
    ⟨rfl, b4, b5, b6, hB1⟩
    (fun x => { tmps := #[.agg #[.pointer p, .int .i64 m], .int .u64 k, .pointer (some ⟨w.heap.size, 0, none⟩), undef, .pointer (some ⟨w.heap.size + 1, 0, none⟩), .pointer (some ⟨w.heap.size + 1 + 1, 0, none⟩), .pointer (some ⟨w.heap.size + 1 + 1 + 1, 0, none⟩), .int .u64 x.1, (let v := x.2; .int .i64 v), undef,
      .agg #[.pointer p, .int .i64 m], .int .u64 k, .func (.func 35) #[] #[.pointer (some ⟨B, 0, none⟩), .pointer (some ⟨B + 1, 0, none⟩)], .int .u64 x.1, (let v := x.2; .int .i64 v), undef, undef, undef], defers := [] }) ?assign ?body ?done ?stop
  case assign =>
    intro l x W K hK
    dsimp only [encs]
    gi_wp2
    exact hK
  case body =>
    rintro l pre x W ⟨rfl, h4, h5, h6, hBW⟩ _
    have c4 := h4.cell 0
    have c5 := h5.cell 0
    have c6 := h6.cell 0
    simp at c4 c5 c6
    have f4 := h4.frozen 0
    have f5 := h5.frozen 0
    have f6 := h6.frozen 0
    gi_wp2
    refine ⟨(((KeepsOthers.setCell _ _ _).trans (KeepsOthers.setCell _ _ _)).trans (KeepsOthers.setCell _ _ _)).from _, rfl, x, rfl, ?_, ?_, ?_, ((hBW.setCell (by simp) _).setCell (by simp <;> omega) _).setCell (by simp <;> omega) _⟩
    · exact ((h4.set_ 0 _).far (by simp <;> omega) _).far (by simp <;> omega) _
    · exact ((h5.far (by simp) _).set_ 0 _).far (by simp) _
    · exact ((h6.far (by simp <;> omega) _).far (by simp) _).set_ 0 _
  case done =>
    rintro D ys W hD rfl ⟨he, h4, h5, h6, hBW⟩ hK
    have c4 := h4.cell 0
    have c5 := h5.cell 0
    have c6 := h6.cell 0
    simp at c4 c5 c6
    have f4 := h4.frozen 0
    have f5 := h5.frozen 0
    have f6 := h6.frozen 0
    have He := Lib.hid he
    clear he
    gi_wp2
    have hK' := (((KeepsOthers.setCell W ⟨w.heap.size + 1, 0, none⟩ (.int .u64 0)).trans (KeepsOthers.setCell _ ⟨w.heap.size + 1 + 1, 0, none⟩ (.int .i64 0))).trans (KeepsOthers.setCell _ ⟨w.heap.size + 1 + 1 + 1, 0, none⟩ (.bool false))).same D _ hK rfl
    have g4 := ((((h4.set_ 0 (.int .u64 0)).far (p := ⟨w.heap.size + 1 + 1, 0, none⟩) (by simp <;> omega) (.int .i64 0)).far (p := ⟨w.heap.size + 1 + 1 + 1, 0, none⟩) (by simp <;> omega) (.bool false)).putObj (.deferred none) hK' rfl).cell 0
    have g5 := ((((h5.far (p := ⟨w.heap.size + 1, 0, none⟩) (by simp) (.int .u64 0)).set_ 0 (.int .i64 0)).far (p := ⟨w.heap.size + 1 + 1 + 1, 0, none⟩) (by simp) (.bool false)).putObj (.deferred none) hK' rfl).cell 0
    have g6 := ((((h6.far (p := ⟨w.heap.size + 1, 0, none⟩) (by simp <;> omega) (.int .u64 0)).far (p := ⟨w.heap.size + 1 + 1, 0, none⟩) (by simp) (.int .i64 0)).set_ 0 (.bool false)).putObj (.deferred none) hK' rfl).cell 0
    simp at g4 g5 g6
    refine ⟨by simp, .inl ⟨_, _, rfl, run_takeDeferred hK', .tuple #[.int .u64 0, .int .i64 0, .bool false], ?_, ?_, ?_⟩⟩
    · simp [results, Try.results19, go_sem, g4, g5, g6]
    · rw [He.out]; rfl
    · exact (((hBW.setCell (by simp) _).setCell (by simp <;> omega) _).setCell (by simp <;> omega) _).trans (belowK_b (w := w) (Nat.le_refl _) _ D _ _ (by have := hB1.size; omega) hK' rfl rfl)
  case stop =>
    rintro D c pre W hD hpre ⟨rfl, x, rfl, h4, h5, h6, hBW⟩ hK
    have Hp := Lib.hid hpre
    clear hpre
    gi_wp2
    have g4 := (h4.putObj (.deferred none) hK rfl).cell 0
    have g5 := (h5.putObj (.deferred none) hK rfl).cell 0
    have g6 := (h6.putObj (.deferred none) hK rfl).cell 0
    simp at g4 g5 g6
    refine ⟨by simp, .inl ⟨_, _, rfl, run_takeDeferred hK, .tuple #[.int .u64 x.1, (let v := x.2; .int .i64 v), .bool true], ?_, ?_, ?_⟩⟩
    · simp [results, Try.results19, go_sem, g4, g5, g6]
    · obtain ⟨r, hr⟩ := Hp.out
      rw [← hr]; rfl
    · exact hBW.trans (belowK_b (w := w) (Nat.le_refl _) _ D _ _ (by have := hB1.size; omega) hK rfl rfl)
end RI
end Go.Proofs.Ytkbgdbhmdpnaoaa
namespace Go.Proofs.Ytkbgdbhmdpnaoaa
open Go.RowKit Go.Shelf
attribute [local go_sem] Oper.semAt_some
namespace RS
def first : List (Nat × ByteArray) → Array Value
  | [] => #[.int .u64 0, .string ⟨#[]⟩, .bool false]
  | x :: _ => let v := x.2; #[.int .u64 x.1, .string v, .bool true]
/-- The round has returned: the first pair stands in the results. -/
def NextIx (w : World) (c : Code) (pre : List (Nat × ByteArray)) (W : World) : Prop := c = .ret ∧ ∃ (x : Nat × ByteArray), pre = [x] ∧ Blk W (w.heap.size + 1) 23 #[.int .u64 x.1] ∧ Blk W (w.heap.size + 1 + 1) 9 (let v := x.2; #[.string v]) ∧ Blk W (w.heap.size + 1 + 1 + 1) 4 #[.bool true] ∧ Below w.heap.size w W
def NextI (w : World) (pre : List (Nat × ByteArray)) (W : World) : Prop := pre = [] ∧ Blk W (w.heap.size + 1) 23 #[.int .u64 0] ∧ Blk W (w.heap.size + 1 + 1) 9 #[.string ⟨#[]⟩] ∧ Blk W (w.heap.size + 1 + 1 + 1) 4 #[.bool false] ∧ Below w.heap.size w W
set_option maxRecDepth 100000 in
set_option maxHeartbeats 2000000 in
theorem next_any (p : Option Addr) (m : Int) (k : Nat) (hk : k < 18446744073709551616) (xs : List (Nat × ByteArray)) (w : World) (hM : HasM (fun _ => True) w p xs) :
    Calls Try.prog 27 #[.agg #[.pointer p, .int .i64 m], .int .u64 k] w fun e w' => e = .returned (.tuple (first (rfrom xs k))) ∧ Below w.heap.size w w' := by
  have hM' := hM.mono (ok' := (· < w.heap.size)) (fun b h _ => h)
  refine (callsIn_wide (n := 3)).1 ?_
  refine callsIn_of_wp_marks Try.func27 rfl trivial ?_ rfl
  simp only [Try.ntmps27, List.size_toArray, List.length_cons, List.length_nil, Nat.reduceAdd, Nat.reduceSub, Array.replicate_succ, Array.replicate_zero, List.push_toArray, List.append_toArray, List.nil_append, List.cons_append]
  gi_wp2_with fail
  refine ⟨trivial, (callsIn_wide.2 (mapFrom_any p m k _)).mono ?_⟩
  rintro e w1 ⟨v, B, rfl, hv, hB⟩
  obtain ⟨rfl, hv1, hv2⟩ := hv
  have hB0 := (((below_new w (.cells #[.pointer p, .int .i64 m] 56)).alloc (by simp) (.cells #[.int .u64 0] 23)).alloc (by simp <;> omega) (.cells #[.string ⟨#[]⟩] 9)).alloc (by simp <;> omega) (.cells #[.bool false] 4)
  have b4 := (((Blk.new (w.alloc (.cells #[.pointer p, .int .i64 m] 56)) 23 #[.int .u64 0]).alloc (.cells #[.string ⟨#[]⟩] 9)).alloc (.cells #[.bool false] 4)).keep hB
  have b5 := ((Blk.new ((w.alloc (.cells #[.pointer p, .int .i64 m] 56)).alloc (.cells #[.int .u64 0] 23)) 9 #[.string ⟨#[]⟩]).alloc (.cells #[.bool false] 4)).keep hB
  have b6 := (Blk.new (((w.alloc (.cells #[.pointer p, .int .i64 m] 56)).alloc (.cells #[.int .u64 0] 23)).alloc (.cells #[.string ⟨#[]⟩] 9)) 4 #[.bool false]).keep hB
  simp only [World.size_alloc] at b4 b5 b6
  have hB1 : Below w.heap.size w w1 := hB0.trans (hB.mono (by simp <;> omega))
  have hsz := b6.lt
  gi_wp2
  refine wpIn_rangeFunc_ownG rfl (by omega) (gf := 49) (lb := #[.pointer (some ⟨B, 0, none⟩), .pointer (some ⟨B + 1, 0, none⟩)]) rfl trivial (enters_of Try.func49 (by kernel_rfl) rfl)
    (IterAt.stops 2 w.heap.size hk ⟨rfl, hv1, hv2⟩ xs hB1.size (hM'.below hB1)) belowK_t (belowK_b hB1.size) (Below.refl _ _) (fun _ => rfl)
    (NextI w) (NextIx w)
    (OwnFrom.and (ownFrom_pure _ _) (OwnFrom.and (own_blk _ _ _ _) (OwnFrom.and (own_blk _ _ _ _) (OwnFrom.and (own_blk _ _ _ _) (ownFrom_below (Nat.le_refl _) hB1.size)))))
    (fun c s A A' row hs hg hr => by
      obtain ⟨h1, x, h2, h3, h4, h5, h6⟩ := hs
      exact ⟨h1, x, h2, own_blk _ _ _ (fun _ : Unit => _) () A A' row h3 hg hr, own_blk _ _ _ (fun _ : Unit => _) () A A' row h4 hg hr, own_blk _ _ _ (fun _ : Unit => _) () A A' row h5 hg hr, ownFrom_below (Nat.le_refl _) hB1.size () A A' row h6 hg hr⟩)
    ⟨rfl, b4, b5, b6, hB1⟩
    (fun x => { tmps := #[.agg #[.pointer p, .int .i64 m], .int .u64 k, .pointer (some ⟨w.heap.size, 0, none⟩), undef, .pointer (some ⟨w.heap.size + 1, 0, none⟩), .pointer (some ⟨w.heap.size + 1 + 1, 0, none⟩), .pointer (some ⟨w.heap.size + 1 + 1 + 1, 0, none⟩), .int .u64 x.1, (let v := x.2; .string v), undef,
      .agg #[.pointer p, .int .i64 m], .int .u64 k, .func (.func 49) #[] #[.pointer (some ⟨B, 0, none⟩), .pointer (some ⟨B + 1, 0, none⟩)], .int .u64 x.1, (let v := x.2; .string v), undef, undef, undef], defers := [] }) ?assign ?body ?done ?stop
  case assign =>
    intro l x W K hK
    dsimp only [encs]
    gi_wp2
    exact hK
  case body =>
    rintro l pre x W ⟨rfl, h4, h5, h6, hBW⟩ _
    have c4 := h4.cell 0
    have c5 := h5.cell 0
    have c6 := h6.cell 0
    simp at c4 c5 c6
    have f4 := h4.frozen 0
    have f5 := h5.frozen 0
    have f6 := h6.frozen 0
    gi_wp2
    refine ⟨(((KeepsOthers.setCell _ _ _).trans (KeepsOthers.setCell _ _ _)).trans (KeepsOthers.setCell _ _ _)).from _, rfl, x, rfl, ?_, ?_, ?_, ((hBW.setCell (by simp) _).setCell (by simp <;> omega) _).setCell (by simp <;> omega) _⟩
    · exact ((h4.set_ 0 _).far (by simp <;> omega) _).far (by simp <;> omega) _
    · exact ((h5.far (by simp) _).set_ 0 _).far (by simp) _
    · exact ((h6.far (by simp <;> omega) _).far (by simp) _).set_ 0 _
  case done =>
    rintro D ys W hD rfl ⟨he, h4, h5, h6, hBW⟩ hK
    have c4 := h4.cell 0
    have c5 := h5.cell 0
    have c6 := h6.cell 0
    simp at c4 c5 c6
    have f4 := h4.frozen 0
    have f5 := h5.frozen 0
    have f6 := h6.frozen 0
    have He := Lib.hid he
    clear he
    gi_wp2
    have hK' := (((KeepsOthers.setCell W ⟨w.heap.size + 1, 0, none⟩ (.int .u64 0)).trans (KeepsOthers.setCell _ ⟨w.heap.size + 1 + 1, 0, none⟩ (.string ⟨#[]⟩))).trans (KeepsOthers.setCell _ ⟨w.heap.size + 1 + 1 + 1, 0, none⟩ (.bool false))).same D _ hK rfl
    have g4 := ((((h4.set_ 0 (.int .u64 0)).far (p := ⟨w.heap.size + 1 + 1, 0, none⟩) (by simp <;> omega) (.string ⟨#[]⟩)).far (p := ⟨w.heap.size + 1 + 1 + 1, 0, none⟩) (by simp <;> omega) (.bool false)).putObj (.deferred none) hK' rfl).cell 0
    have g5 := ((((h5.far (p := ⟨w.heap.size + 1, 0, none⟩) (by simp) (.int .u64 0)).set_ 0 (.string ⟨#[]⟩)).far (p := ⟨w.heap.size + 1 + 1 + 1, 0, none⟩) (by simp) (.bool false)).putObj (.deferred none) hK' rfl).cell 0
    have g6 := ((((h6.far (p := ⟨w.heap.size + 1, 0, none⟩) (by simp <;> omega) (.int .u64 0)).far (p := ⟨w.heap.size + 1 + 1, 0, none⟩) (by simp) (.string ⟨#[]⟩)).set_ 0 (.bool false)).putObj (.deferred none) hK' rfl).cell 0
    simp at g4 g5 g6
    refine ⟨by simp, .inl ⟨_, _, rfl, run_takeDeferred hK', .tuple #[.int .u64 0, .string ⟨#[]⟩, .bool false], ?_, ?_, ?_⟩⟩
    · simp [results, Try.results27, go_sem, g4, g5, g6]
    · rw [He.out]; rfl
    · exact (((hBW.setCell (by simp) _).setCell (by simp <;> omega) _).setCell (by simp <;> omega) _).trans (belowK_b (w := w) (Nat.le_refl _) _ D _ _ (by have := hB1.size; omega) hK' rfl rfl)
  case stop =>
    rintro D c pre W hD hpre ⟨rfl, x, rfl, h4, h5, h6, hBW⟩ hK
    have Hp := Lib.hid hpre
    clear hpre
    gi_wp2
    have g4 := (h4.putObj (.deferred none) hK rfl).cell 0
    have g5 := (h5.putObj (.deferred none) hK rfl).cell 0
    have g6 := (h6.putObj (.deferred none) hK rfl).cell 0
    simp at g4 g5 g6
    refine ⟨by simp, .inl ⟨_, _, rfl, run_takeDeferred hK, .tuple #[.int .u64 x.1, (let v := x.2; .string v), .bool true], ?_, ?_, ?_⟩⟩
    · simp [results, Try.results27, go_sem, g4, g5, g6]
    · obtain ⟨r, hr⟩ := Hp.out
      rw [← hr]; rfl
    · exact hBW.trans (belowK_b (w := w) (Nat.le_refl _) _ D _ _ (by have := hB1.size; omega) hK rfl rfl)
end RS
end Go.Proofs.Ytkbgdbhmdpnaoaa
