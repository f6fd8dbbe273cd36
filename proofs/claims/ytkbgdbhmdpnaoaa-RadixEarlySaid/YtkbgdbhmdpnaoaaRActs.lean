/- What the laws' loops go through: acts; both maps. -/
import Derived.Test.YtkbgdbhmdpnaoaaRPairs
import Derived.Test.YtkbgdbhmdpnaoaaRAwake
import Derived.Test.YtkbgdbhmdpnaoaaRDepM
import Derived.Deep.RegionHeld3
import Derived.Deep.RegionLaw
import Derived.Deep.DeepCutAuto
import Derived.Deep.CutBlock
import Derived.Deep.AppendLies
namespace Go.Proofs.Ytkbgdbhmdpnaoaa
open Go.RowKit Go.Shelf Go.Proofs.Ytkbgdbhmdpnaoaa.Ref Go.Proofs.YtkbgdbhmdpnaoaaW.PrintWords
open RI (HasM)
theorem add_of_add (a : Addr) (i j : Nat) : (a.add i).add j = a.add (i + j) := by
  unfold Addr.add
  by_cases hi : i = 0 <;> by_cases hj : j = 0 <;> simp [hi, hj, Nat.add_assoc]
/-- A slice of acts, as it came in. -/
def ActsAt (w : World) (v : Value) (l : List A) : Prop :=
  ∃ ad c, v = .slice ad l.length c ∧ l.length ≤ 9223372036854775807 ∧ (∀ x ∈ l, x.k < 18446744073709551616) ∧
    ∀ i x, l[i]? = some x → ∃ a, ad = some a ∧ a.block < w.heap.size ∧ w.cell? (a.add (i * 3)) = some (.int .i64 x.kind) ∧ w.cell? (a.add (i * 3 + 1)) = some (.int .u64 x.k) ∧ w.cell? (a.add (i * 3 + 2)) = some (.int .i64 x.v)
/-- The program's map and the document's, behind some acts. -/
def Both (W wr : World) (Mb : Nat) (wv : Value) (l : List (Nat × Int)) : Prop :=
  ∃ q, Blk wr Mb 27 #[.pointer q, .int .i64 l.length] ∧ HasM (fun b => b ≠ Mb) wr q l ∧ Kd.R k37 37 wr W.heap.size (fun _ => True) wv (l.map toS) ∧ Below W.heap.size W wr
/-- Where only rows of pairs may have turned, all other blocks stay. -/
theorem blk_kept {w w' : World} {S : Nat → Prop} (hK : Kept w w' S) (hS : ∀ b, S b → ∃ q, q ∈ 37 :: k37.E ∧ ∃ cells, w.heap[b]? = some (.cells cells q (0, 0))) {b : Nat} {t : TypeId} {cs : Array Value} (h : Blk w b t cs) (ht : t ≠ 37) : Blk w' b t cs := by
  refine (hK.2 b h.lt fun hs => ?_).trans h
  obtain ⟨q, hq, cells, hc⟩ := hS b hs
  have hq' : q = 37 := by simpa [k37, Kd.iso, Kd.pair, Kd.int, Kd.scalar] using hq
  subst hq'
  rw [show w.heap[b]? = _ from h] at hc
  cases hc
  exact ht rfl
theorem both_end {W w2 w3 : World} {Mb N : Nat} {q q2 : Option Addr} {n : Int} {l' : List (Nat × Int)} {v3 : Value} {P ok : Nat → Prop} (hm4 : Blk w3 Mb 27 #[.pointer q, .int .i64 n])
    (hM2 : HasM (fun b => b ≠ Mb ∨ N ≤ b) w2 q2 l') (hN : Mb < N) (hK3 : Kept w2 w3 P) (hP : ∀ b, P b → ∃ q, q ∈ 37 :: k37.E ∧ ∃ cells, w2.heap[b]? = some (.cells cells q (0, 0)))
    (hR3 : Kd.R k37 37 w3 W.heap.size ok v3 (l'.map toS)) (hB3 : Below W.heap.size W w3) (hMb : W.heap.size ≤ Mb) :
    Both W ((w3.setCell ⟨Mb, 0, none⟩ (.pointer q2)).setCell ⟨Mb, 1, none⟩ (.int .i64 l'.length)) Mb v3 l' := by
  have ht : ∀ q, q ∈ 37 :: k37.E → q ≠ 27 := by simp [k37, Kd.iso, Kd.pair, Kd.int, Kd.scalar]
  refine ⟨q2, (hm4.set_ 0 _).set_ 1 _, ?_, ?_, (hB3.setCell (p := ⟨Mb, 0, none⟩) hMb _).setCell (p := ⟨Mb, 1, none⟩) hMb _⟩
  · refine (((hM2.keepT (fun b cs h => blk_kept hK3 hP h (by decide))).mono (ok' := fun b => b ≠ Mb) ?_).far (q := ⟨Mb, 0, none⟩) (by simp) _).far (q := ⟨Mb, 1, none⟩) (by simp) _
    intro b _ h
    rcases h with h | h
    · exact h
    · omega
  · exact Kd.R_mono (Kd.R_set (Kd.R_set hR3 hm4 ht 0 _) (hm4.set_ 0 _) ht 1 _) (fun _ _ => trivial)
theorem R_pairs {w : World} {base : Nat} {ok : Nat → Prop} {v : Value} {ls : List (Nat × Int)} (h : Kd.R k37 37 w base ok v (ls.map toS)) : ∃ A c, v = .slice A ls.length c ∧ ls.length ≤ c ∧ Kd.C k37 w A ls.length (ls.map toS) := by
  have h := Kd.R_reads h
  rwa [List.length_map] at h
/-- All that was there, but for a map's own block and the rows of pairs, is as it was. -/
def Stay (w0 : World) (Mb : Nat) (wr : World) : Prop := ∀ b t cs, b ≠ Mb → t ≠ 37 → Blk w0 b t cs → Blk wr b t cs
theorem Stay.refl (w0 : World) (Mb : Nat) : Stay w0 Mb w0 := fun _ _ _ _ _ h => h
theorem Stay.end_ {w0 wr wa w2 w3 : World} {Mb : Nat} {P : Nat → Prop} (h : Stay w0 Mb wr) (ha : Below wr.heap.size wr wa) (h2 : Below wa.heap.size wa w2) (hK3 : Kept w2 w3 P) (hP : ∀ b, P b → ∃ q, q ∈ 37 :: k37.E ∧ ∃ cells, w2.heap[b]? = some (.cells cells q (0, 0))) (u v : Value) :
    Stay w0 Mb ((w3.setCell ⟨Mb, 0, none⟩ u).setCell ⟨Mb, 1, none⟩ v) := fun b t cs hb ht hx =>
  Blk.far (Blk.far (blk_kept hK3 hP (((h b t cs hb ht hx).keep ha).keep h2) ht) (p := ⟨Mb, 0, none⟩) hb u) (p := ⟨Mb, 1, none⟩) hb v
/-- A map's nodes are no block of another type. -/
theorem HasM.farT {ok : Nat → Prop} {w : World} {p : Option Addr} {l : List (Nat × Int)} (h : HasM ok w p l) {Nb : Nat} {cs : Array Value} (hN : Blk w Nb 27 cs) (j : Nat) (v : Value) : HasM ok (w.setCell ⟨Nb, j, none⟩ v) p l := by
  refine h.keepT fun b ds hd => ?_
  refine Blk.far hd (p := ⟨Nb, j, none⟩) (fun e => ?_) v
  subst e
  have hN' : w.heap[b]? = _ := hN
  rw [show w.heap[b]? = _ from hd] at hN'
  simp at hN'
theorem same_any (ls : List (Nat × Int)) (hl : ls.length < 1000000) (A1 : Option Addr) (c1 : Nat) (A2 : Option Addr) (c2 : Nat) (w : World) (h1 : Kd.C k37 w A1 ls.length (ls.map toS)) (hc1 : ls.length ≤ c1) (h2 : Kd.C k37 w A2 ls.length (ls.map toS)) (hc2 : ls.length ≤ c2) :
    Calls Try.prog 13 #[.slice A1 ls.length c1, .slice A2 ls.length c2] w fun e w' => e = .returned (.bool true) ∧ Below w.heap.size w w' := by
  have h := same_f hl
  rw [show ls.length = (ls.map toS).length by simp] at *
  refine (mandolineref25_Same.calls _ _ _ _ _ _ _ _ w h1 hc1 h2 hc2 h).mono ?_
  rintro e w' ⟨he, hd⟩
  exact ⟨he, hd.below⟩
theorem pair_at {w : World} {A : Option Addr} {ls : List (Nat × Int)} (h : Kd.C k37 w A ls.length (ls.map toS)) (j : Nat) (hj : j < ls.length) :
    ∃ ad, A = some ad ∧ w.cell? (ad.add (j * 2)) = some (.int .u64 ls[j].1) ∧ w.cell? ⟨(ad.add (j * 2)).block, (ad.add (j * 2)).off + 1, none⟩ = some (.int .i64 ls[j].2) := by
  obtain ⟨ad, e, h0, h1⟩ := at_T37 h (j : Int) (by omega) (by omega)
  have hr : rd_T37 (ls.map toS) (j : Int) = toS ls[j] := by
    have h := rd_at (ls.take j) (ls.drop (j + 1)) ls[j]
    rw [List.getElem_cons_drop, List.take_append_drop, List.length_take, Nat.min_eq_left (by omega)] at h
    exact h
  rw [hr] at h0 h1
  exact ⟨ad, e, h0, h1⟩
theorem add_nought (a : Addr) : a.add 0 = a := by simp [Addr.add]
theorem pair_zero {w : World} {A : Option Addr} {x : Nat × Int} {r : List (Nat × Int)} (h : Kd.C k37 w A (x :: r).length ((x :: r).map toS)) :
    ∃ ad, A = some ad ∧ w.cell? ad = some (.int .u64 x.1) ∧ w.cell? ⟨ad.block, ad.off + 1, none⟩ = some (.int .i64 x.2) := by
  obtain ⟨ad, e, h0, h1⟩ := pair_at h 0 (by simp)
  rw [Nat.zero_mul, add_nought] at h0 h1
  exact ⟨ad, e, h0, h1⟩
theorem from_any (ls : List (Nat × Int)) (hl : ls.length < 1000000) (k : Nat) (A2 : Option Addr) (c2 : Nat) (w : World) (h2 : Kd.C k37 w A2 ls.length (ls.map toS)) (hc2 : ls.length ≤ c2) :
    Calls Try.prog 17 #[.slice A2 ls.length c2, .int .u64 k] w fun e w' => ∃ A c, e = .returned (.slice A (rfrom ls k).length c) ∧ (rfrom ls k).length ≤ c ∧ Kd.C k37 w' A (rfrom ls k).length ((rfrom ls k).map toS) ∧ Below w.heap.size w w' := by
  have h := from_f hl k
  rw [show ls.length = (ls.map toS).length by simp] at h2 hc2 ⊢
  refine (mandolineref25_From.calls _ _ _ _ _ _ w h2 hc2 h).mono ?_
  rintro e w' ⟨v, he, hR, hd⟩
  obtain ⟨A, c, rfl, h3, h4⟩ := R_pairs hR
  exact ⟨A, c, he, h3, h4, hd⟩
theorem step_keys {l : List (Nat × Int)} {a : A} (ha : a.k < 18446744073709551616) (h : ∀ x ∈ l, x.1 < 18446744073709551616) : ∀ x ∈ step l a, x.1 < 18446744073709551616 := by
  intro x hx
  unfold step at hx
  split at hx
  · rcases mem_rput hx with rfl | hx
    · exact ha
    · exact h x hx
  · split at hx
    · exact h x (List.mem_filter.1 hx).1
    · exact h x hx
theorem play_keys {l : List A} (hks : ∀ x ∈ l, x.k < 18446744073709551616) : ∀ x ∈ play l, x.1 < 18446744073709551616 := by
  have h : ∀ (l : List A) (acc : List (Nat × Int)), (∀ x ∈ l, x.k < 18446744073709551616) → (∀ x ∈ acc, x.1 < 18446744073709551616) → ∀ x ∈ l.foldl step acc, x.1 < 18446744073709551616 := by
    intro l
    induction l with
    | nil => intro acc _ h; exact h
    | cons a l ih => intro acc hk h; exact ih _ (fun x hx => hk x (List.mem_cons_of_mem _ hx)) (step_keys (hk a (List.mem_cons_self ..)) h)
  exact h l [] hks (by simp)
theorem get_at {l : List (Nat × Int)} (h : Rising l) (j : Nat) (hj : j < l.length) : rget l l[j].1 = some l[j].2 := rget_mem h (List.getElem_mem _)
theorem rget_cases {l : List (Nat × Int)} (h : Rising l) (k : Nat) : (∃ v r, rfrom l k = (k, v) :: r ∧ rget l k = some v) ∨ ((∀ x r, rfrom l k = x :: r → x.1 ≠ k) ∧ rget l k = none) := by
  induction l with
  | nil => exact .inr ⟨by simp [rfrom], rfl⟩
  | cons a l ih =>
    obtain ⟨a, y⟩ := a
    unfold Rising at h
    rw [List.pairwise_cons] at h
    rcases Nat.lt_trichotomy a k with hlt | rfl | hgt
    · have e1 : rfrom ((a, y) :: l) k = rfrom l k := by unfold rfrom; rw [List.filter_cons_of_neg]; simp; omega
      have e2 : rget ((a, y) :: l) k = rget l k := by show (if a = k then some y else rget l k) = _; rw [if_neg (by omega)]
      rw [e1, e2]
      exact ih h.2
    · refine .inl ⟨y, rfrom l a, ?_, ?_⟩
      · unfold rfrom; rw [List.filter_cons_of_pos]; simp
      · show (if a = a then some y else rget l a) = _; rw [if_pos rfl]
    · have e1 : rfrom ((a, y) :: l) k = (a, y) :: rfrom l k := by unfold rfrom; rw [List.filter_cons_of_pos]; simp; omega
      refine .inr ⟨?_, ?_⟩
      · intro x r hx
        rw [e1] at hx
        injection hx with hx _
        subst hx
        simp
        omega
      · have e2 : rget ((a, y) :: l) k = rget l k := by show (if a = k then some y else rget l k) = _; rw [if_neg (by omega)]
        rw [e2]
        rcases ih h.2 with ⟨v, r, hr, _⟩ | ⟨_, hn⟩
        · have : (k, v) ∈ rfrom l k := by rw [hr]; simp
          have := h.1 (k, v) (by unfold rfrom at this; exact (List.mem_filter.1 this).1)
          simp at this
          omega
        · exact hn
end Go.Proofs.Ytkbgdbhmdpnaoaa
