/- What the document's functions on pairs answer: plain facts, no walk. -/
import Derived.Test.YtkbgdbhmdpnaoaaRef
import Derived.Test.YtkbgdbhmdpnaoaaRTree
namespace Go.Proofs.Ytkbgdbhmdpnaoaa
open Go.RowKit Go.Proofs.Ytkbgdbhmdpnaoaa.Ref
def toS (x : Nat × Int) : S37 := ⟨x.1, x.2⟩
theorem wrap_succ {n : Nat} (h : n < 4611686018427387904) : wrap64 ((n : Int) + 1) = ((n + 1 : Nat) : Int) := by unfold wrap64; omega
theorem rd_at (pre r : List (Nat × Int)) (x : Nat × Int) : rd_T37 ((pre ++ x :: r).map toS) (pre.length : Int) = toS x := by
  unfold rd_T37
  simp [List.getD_eq_getElem?_getD]
/-- What 'Put' gathers from here on. -/
def gath (k : Nat) (v : Int) : Bool → List (Nat × Int) → List (Nat × Int)
  | true, [] => []
  | false, [] => [(k, v)]
  | true, x :: r => if x.1 = k then gath k v true r else x :: gath k v true r
  | false, x :: r => if k ≤ x.1 then (k, v) :: (if x.1 = k then gath k v true r else x :: gath k v true r) else (if x.1 = k then gath k v false r else x :: gath k v false r)
theorem gath_true (k : Nat) (v : Int) (r : List (Nat × Int)) : gath k v true r = rdrop r k := by
  induction r with
  | nil => rfl
  | cons x r ih =>
    unfold gath rdrop
    split
    · rename_i h; rw [List.filter_cons_of_neg (by simp [h]), ih]; rfl
    · rename_i h; rw [List.filter_cons_of_pos (by simp [h]), ih]; rfl
theorem gath_false (k : Nat) (v : Int) {r : List (Nat × Int)} (h : Rising r) : gath k v false r = rput r k v := by
  induction r with
  | nil => rfl
  | cons x r ih =>
    obtain ⟨x, y⟩ := x
    obtain ⟨h1, h2⟩ := List.pairwise_cons.1 h
    unfold gath rput
    have hd : k ≤ x → rdrop r k = r := fun hk => rdrop_none fun z hz => by have := h1 z hz; simp only at this; omega
    by_cases hk : k ≤ x
    · rw [if_pos hk, gath_true, hd hk]
      by_cases he : k = x
      · rw [if_pos (show (x, y).1 = k from he.symm), if_neg (show ¬ k < x by omega), if_pos he]
      · rw [if_neg (show ¬ (x, y).1 = k from fun e => he e.symm), if_pos (show k < x by omega)]
    · rw [if_neg hk, if_neg (by simp only; omega), if_neg (by omega), if_neg (by omega), ih h2]
theorem snoc_map (out : List (Nat × Int)) (x : Nat × Int) : out.map toS ++ [(⟨(toS x).f0, (toS x).f1⟩ : S37)] = (out ++ [x]).map toS := by simp [toS]
theorem snoc_map' (out : List (Nat × Int)) (k : Nat) (v : Int) : out.map toS ++ [(⟨(k : Int), v⟩ : S37)] = (out ++ [(k, v)]).map toS := by simp [toS]
theorem put_l0 (k : Nat) (v : Int) : ∀ (r pre out : List (Nat × Int)) (done : Bool) (n : Nat), pre.length + r.length < 4000000000000 → out.length + 2 * r.length + 2 < 8000000000000 → 2 * r.length + 1 ≤ n →
    mandolineref25_Put.l0 n ((pre ++ r).map toS) k v (out.map toS) done pre.length = some ((out ++ gath k v done r).map toS) := by
  intro r
  induction r with
  | nil =>
    intro pre out done n hp ho hn
    obtain ⟨n, rfl⟩ : ∃ m, n = m + 1 := ⟨n - 1, by omega⟩
    simp only [mandolineref25_Put.l0]
    rw [if_neg (by simp)]
    cases done with
    | true => simp [gath]
    | false =>
      rw [if_neg (by simp), if_pos (by simp <;> omega), snoc_map']
      rfl
  | cons x r ih =>
    intro pre out done n hp ho hn
    simp only [List.length_cons] at hp ho hn
    obtain ⟨n, rfl⟩ : ∃ m, n = m + 1 + 1 := ⟨n - 2, by omega⟩
    have hlt : (pre.length : Int) < (((pre ++ x :: r).map toS).length : Int) := by simp; omega
    have hpl : wrap64 ((pre.length : Int) + 1) = ((pre ++ [x]).length : Int) := by rw [wrap_succ (by omega)]; simp
    have hap : pre ++ x :: r = (pre ++ [x]) ++ r := by simp
    have h0 : (toS x).f0 = (x.1 : Int) := rfl
    have e0 : ((toS x).f0 = (k : Int)) = (x.1 = k) := by rw [h0]; simp; omega
    have key : ∀ (out' : List (Nat × Int)) (d' : Bool), out'.length ≤ out.length + 1 →
        (if (toS x).f0 = (k : Int) then mandolineref25_Put.l0 n ((pre ++ x :: r).map toS) k v (out'.map toS) d' (wrap64 ((pre.length : Int) + 1))
          else if (out'.map toS).length < 8796093022208 then mandolineref25_Put.l0 n ((pre ++ x :: r).map toS) k v (out'.map toS ++ [(⟨(toS x).f0, (toS x).f1⟩ : S37)]) d' (wrap64 ((pre.length : Int) + 1)) else none)
        = some ((out' ++ (if x.1 = k then gath k v d' r else x :: gath k v d' r)).map toS) := fun out' d' hl => by
      simp only [e0]
      by_cases he : x.1 = k
      · rw [if_pos he, if_pos he, hpl, hap]
        exact ih _ _ _ _ (by simp <;> omega) (by omega) (by omega)
      · rw [if_neg he, if_neg he, if_pos (by simp <;> omega), hpl, snoc_map, hap, ih _ _ _ _ (by simp <;> omega) (by simp <;> omega) (by omega)]
        simp
    simp only [mandolineref25_Put.l0]
    rw [if_pos hlt, if_pos (by omega), rd_at]
    by_cases hge : (toS x).f0 ≥ (k : Int)
    · rw [if_pos hge]
      cases done with
      | true =>
        simp only [mandolineref25_Put.j1]
        rw [if_neg (by simp), if_pos (by omega), if_pos hlt, rd_at]
        exact key out true (by omega)
      | false =>
        simp only [mandolineref25_Put.j1]
        rw [if_pos (by simp), if_pos (by simp <;> omega)]
        simp only [Option.bind_some]
        rw [if_pos (by omega), if_pos hlt, rd_at, snoc_map', key _ true (by simp)]
        have : k ≤ x.1 := by rw [h0] at hge; omega
        simp [gath, this]
    · rw [if_neg hge]
      simp only [mandolineref25_Put.j1]
      rw [if_neg (by simp), if_pos (by omega), if_pos hlt, rd_at, key out done (by omega)]
      have : ¬ k ≤ x.1 := by rw [h0] at hge; omega
      cases done with
      | true => rfl
      | false => simp [gath, this]
theorem put_f {l : List (Nat × Int)} (h : Rising l) (hl : l.length < 1000000) (k : Nat) (v : Int) : mandolineref25_Put.f 3000000 (l.map toS) k v = some ((rput l k v).map toS) := by
  unfold mandolineref25_Put.f
  have := put_l0 k v l [] [] false 3000000 (by simp <;> omega) (by simp <;> omega) (by omega)
  rw [gath_false k v h] at this
  exact this
theorem drop_l0 (k : Nat) : ∀ (r pre out : List (Nat × Int)) (n : Nat), pre.length + r.length < 4000000000000 → out.length + r.length < 8000000000000 → r.length + 1 ≤ n →
    mandolineref25_Drop.l0 n ((pre ++ r).map toS) k (out.map toS) pre.length = some ((out ++ rdrop r k).map toS) := by
  intro r
  induction r with
  | nil =>
    intro pre out n hp ho hn
    obtain ⟨n, rfl⟩ : ∃ m, n = m + 1 := ⟨n - 1, by omega⟩
    simp only [mandolineref25_Drop.l0]
    rw [if_neg (by simp)]
    simp [rdrop]
  | cons x r ih =>
    intro pre out n hp ho hn
    simp only [List.length_cons] at hp ho hn
    obtain ⟨n, rfl⟩ : ∃ m, n = m + 1 := ⟨n - 1, by omega⟩
    have hlt : (pre.length : Int) < (((pre ++ x :: r).map toS).length : Int) := by simp; omega
    have hpl : wrap64 ((pre.length : Int) + 1) = ((pre ++ [x]).length : Int) := by rw [wrap_succ (by omega)]; simp
    have hap : pre ++ x :: r = (pre ++ [x]) ++ r := by simp
    have e0 : ((toS x).f0 = (k : Int)) = (x.1 = k) := by simp [toS]; omega
    simp only [mandolineref25_Drop.l0]
    rw [if_pos hlt, if_pos (by omega), rd_at]
    simp only [e0]
    by_cases he : x.1 = k
    · rw [if_pos he, hpl, hap, ih _ _ _ (by simp <;> omega) (by omega) (by omega)]
      simp [rdrop, he]
    · rw [if_neg he, if_pos (by simp <;> omega), hpl, snoc_map, hap, ih _ _ _ (by simp <;> omega) (by simp <;> omega) (by omega)]
      simp [rdrop, he]
theorem drop_f {l : List (Nat × Int)} (hl : l.length < 1000000) (k : Nat) : mandolineref25_Drop.f 3000000 (l.map toS) k = some ((rdrop l k).map toS) :=
  drop_l0 k l [] [] 3000000 (by simp <;> omega) (by simp <;> omega) (by omega)
theorem from_l0 (k : Nat) : ∀ (r pre out : List (Nat × Int)) (n : Nat), pre.length + r.length < 4000000000000 → out.length + r.length < 8000000000000 → r.length + 1 ≤ n →
    mandolineref25_From.l0 n ((pre ++ r).map toS) k (out.map toS) pre.length = some ((out ++ rfrom r k).map toS) := by
  intro r
  induction r with
  | nil =>
    intro pre out n hp ho hn
    obtain ⟨n, rfl⟩ : ∃ m, n = m + 1 := ⟨n - 1, by omega⟩
    simp only [mandolineref25_From.l0]
    rw [if_neg (by simp)]
    simp [rfrom]
  | cons x r ih =>
    intro pre out n hp ho hn
    simp only [List.length_cons] at hp ho hn
    obtain ⟨n, rfl⟩ : ∃ m, n = m + 1 := ⟨n - 1, by omega⟩
    have hlt : (pre.length : Int) < (((pre ++ x :: r).map toS).length : Int) := by simp; omega
    have hpl : wrap64 ((pre.length : Int) + 1) = ((pre ++ [x]).length : Int) := by rw [wrap_succ (by omega)]; simp
    have hap : pre ++ x :: r = (pre ++ [x]) ++ r := by simp
    have e0 : ((toS x).f0 ≥ (k : Int)) = (k ≤ x.1) := by simp [toS]
    simp only [mandolineref25_From.l0]
    rw [if_pos hlt, if_pos (by omega), rd_at]
    simp only [e0]
    by_cases he : k ≤ x.1
    · rw [if_pos he, if_pos (by simp <;> omega), hpl, snoc_map, hap, ih _ _ _ (by simp <;> omega) (by simp <;> omega) (by omega)]
      simp [rfrom, he]
    · rw [if_neg he, hpl, hap, ih _ _ _ (by simp <;> omega) (by omega) (by omega)]
      simp [rfrom, he]
theorem from_f {l : List (Nat × Int)} (hl : l.length < 1000000) (k : Nat) : mandolineref25_From.f 3000000 (l.map toS) k = some ((rfrom l k).map toS) :=
  from_l0 k l [] [] 3000000 (by simp <;> omega) (by simp <;> omega) (by omega)
theorem same_l0 : ∀ (r pre : List (Nat × Int)) (n : Nat), pre.length + r.length < 4000000000000 → r.length + 1 ≤ n →
    mandolineref25_Same.l0 n ((pre ++ r).map toS) ((pre ++ r).map toS) pre.length = some true := by
  intro r
  induction r with
  | nil =>
    intro pre n hp hn
    obtain ⟨n, rfl⟩ : ∃ m, n = m + 1 := ⟨n - 1, by omega⟩
    simp only [mandolineref25_Same.l0]
    rw [if_neg (by simp)]
  | cons x r ih =>
    intro pre n hp hn
    simp only [List.length_cons] at hp hn
    obtain ⟨n, rfl⟩ : ∃ m, n = m + 1 := ⟨n - 1, by omega⟩
    have hlt : (pre.length : Int) < (((pre ++ x :: r).map toS).length : Int) := by simp; omega
    have hpl : wrap64 ((pre.length : Int) + 1) = ((pre ++ [x]).length : Int) := by rw [wrap_succ (by omega)]; simp
    have hap : pre ++ x :: r = (pre ++ [x]) ++ r := by simp
    simp only [mandolineref25_Same.l0]
    rw [if_pos hlt, if_pos (by omega), if_pos hlt, if_neg (by simp), hpl, hap, ih _ _ (by simp <;> omega) (by omega)]
theorem same_f {l : List (Nat × Int)} (hl : l.length < 1000000) : mandolineref25_Same.f 3000000 (l.map toS) (l.map toS) = some true := by
  unfold mandolineref25_Same.f
  rw [if_pos rfl]
  exact same_l0 l [] 3000000 (by simp <;> omega) (by omega)
/-- A call, as the document has it. -/
structure A where
  kind : Int
  k : Nat
  v : Int
def step (l : List (Nat × Int)) (a : A) : List (Nat × Int) := if a.kind = 1 then rput l a.k a.v else if a.kind = 2 then rdrop l a.k else l
theorem want_f {l : List (Nat × Int)} (h : Rising l) (hl : l.length < 1000000) (a : A) : mandolinelaw25_want.f 3000000 (l.map toS) a.kind a.k a.v = some ((step l a).map toS) := by
  unfold mandolinelaw25_want.f step
  split
  · rw [put_f h hl]; rfl
  · split
    · rw [drop_f hl]; rfl
    · rfl
theorem rput_length (l : List (Nat × Int)) (k : Nat) (v : Int) : (rput l k v).length ≤ l.length + 1 := by
  induction l with
  | nil => simp [rput]
  | cons x l ih =>
    obtain ⟨x, y⟩ := x
    unfold rput
    split
    · simp
    · split
      · simp
      · simp; exact ih
theorem step_length (l : List (Nat × Int)) (a : A) : (step l a).length ≤ l.length + 1 := by
  unfold step
  split
  · exact rput_length _ _ _
  · split
    · exact Nat.le_trans (List.length_filter_le _ _) (by omega)
    · omega
theorem rising_step {l : List (Nat × Int)} (h : Rising l) (a : A) : Rising (step l a) := by
  unfold step
  split
  · exact rising_rput h _ _
  · split
    · exact rising_filter h _
    · exact h
def play (l : List A) : List (Nat × Int) := l.foldl step []
theorem rising_play (l : List A) : Rising (play l) := by
  unfold play
  suffices h : ∀ (l : List A) (s : List (Nat × Int)), Rising s → Rising (l.foldl step s) from h l [] List.Pairwise.nil
  intro l
  induction l with
  | nil => intro s h; exact h
  | cons a l ih => intro s h; exact ih _ (rising_step h a)
theorem play_length (l : List A) : (play l).length ≤ l.length := by
  unfold play
  suffices h : ∀ (l : List A) (s : List (Nat × Int)), (l.foldl step s).length ≤ s.length + l.length from by simpa using h l []
  intro l
  induction l with
  | nil => intro s; simp
  | cons a l ih => intro s; have := ih (step s a); have := step_length s a; simp only [List.foldl_cons, List.length_cons]; omega
theorem play_snoc (l : List A) (a : A) : play (l ++ [a]) = step (play l) a := by simp [play]
end Go.Proofs.Ytkbgdbhmdpnaoaa
