/- PlanWidens: the law's walk. -/
import Derived.Test.YtnaalaakhdbfbaaV1RgWiden
import Derived.Test.YtnaalaakhdbfbaaV1RgAlive
import Derived.Deep.RegionHeld3
set_option linter.unusedVariables false
set_option linter.unusedSimpArgs false
namespace Go.Proofs.Ytnaalaakhdbfbaa.XP
open Go.RowKit Go.Proofs.YtnaalaakhdbfbaaW.PrintWords Go.Proofs.YtnaalaakhdbfbaaW.PrintLast Go.Proofs.YtnaalaakhdbfbaaW.PrintMore
attribute [local go_sem] Oper.semAt_some
set_option maxRecDepth 100000 in
set_option maxHeartbeats 4000000 in
theorem widens_walk (A : Option Addr) (c : Nat) (l : List Sp) (n0 n1 : Int) (x : Sp) (W : World) (hC : Kd.C k48 W A l.length l) (hc : l.length ≤ c) :
    Calls Try.prog 6 #[.slice A l.length c, .agg #[.int .i64 n0, .int .i64 n1], .agg #[.int .i64 x.f0, .int .i64 x.f1]] W fun e w' => e = .returned (.bool true) ∧ Below W.heap.size W w' := by
  have hmx := hC.2.1
  have hb0 := ((Below.refl W.heap.size W).alloc (Nat.le_refl _) (.cells #[.int .i64 n0, .int .i64 n1] 46)).alloc (by simp <;> omega) (.cells #[.int .i64 x.f0, .int .i64 x.f1] 48)
  have k0 : ((W.alloc (.cells #[.int .i64 n0, .int .i64 n1] 46)).alloc (.cells #[.int .i64 x.f0, .int .i64 x.f1] 48)).heap[W.heap.size]? = some (.cells #[.int .i64 n0, .int .i64 n1] 46 (0, 0)) := (Below.heap_alloc _ _ _ (by simp)).trans (heap_alloc_new W _)
  have k1 : ((W.alloc (.cells #[.int .i64 n0, .int .i64 n1] 46)).alloc (.cells #[.int .i64 x.f0, .int .i64 x.f1] 48)).heap[W.heap.size + 1]? = some (.cells #[.int .i64 x.f0, .int .i64 x.f1] 48 (0, 0)) := by
    have := heap_alloc_new (W.alloc (.cells #[.int .i64 n0, .int .i64 n1] 46)) (.cells #[.int .i64 x.f0, .int .i64 x.f1] 48)
    rwa [World.size_alloc] at this
  by_cases hlen : 30 < l.length
  · have hlb : decide ((30 : Int) < (l.length : Int)) = true := by simp; omega
    go_enter Try.func6, Try.ntmps6
    go_wp2_with fail
    refine (mandolinelaw35_alive.calls 60 true _ alive_f).mono ?_
    rintro e w1 ⟨rfl, hB1⟩
    go_wp2
    go_ret
    exact ⟨rfl, hb0.trans (hB1.mono hb0.size)⟩
  · have hlb : decide ((30 : Int) < (l.length : Int)) = false := by simp; omega
    obtain ⟨g, ⟨kg, g1⟩, ⟨kg', g2⟩, g3, g4, g5⟩ := of_same l (by omega)
    have G1 := Lib.hid (g1 kg (Nat.le_refl _)); have G2 := Lib.hid (g2 kg' (Nat.le_refl _))
    obtain ⟨u, ⟨ku, u1⟩, ⟨ku', u2⟩, u3, u4⟩ := units_same g n0 n1 (by omega) g3
    have U1 := Lib.hid (u1 ku (Nat.le_refl _)); have U2 := Lib.hid (u2 ku' (Nat.le_refl _))
    obtain ⟨n, ⟨kn, m1⟩, ⟨kn', m2⟩⟩ := waste_same x g (by omega) g3
    have M1 := Lib.hid (m1 kn (Nat.le_refl _)); have M2 := Lib.hid (m2 kn' (Nat.le_refl _))
    obtain ⟨kl, l1⟩ := list_same u (by omega)
    have L1 := Lib.hid (l1 kl (Nat.le_refl _))
    have SP := Lib.hid (show ranges_Set_Spans.f u = some u by
      unfold ranges_Set_Spans.f api_Span_48.f
      rw [if_pos (by omega)]; rfl)
    clear g1 g2 u1 u2 m1 m2 l1
    go_enter Try.func6, Try.ntmps6
    go_wp2_with fail
    refine (mandolinelaw35_alive.calls 60 true _ alive_f).mono ?_
    rintro e w1 ⟨rfl, hB1⟩
    have hb1 := hb0.trans (hB1.mono hb0.size)
    have k2 := (hB1.block _ (Array.getElem?_eq_some_iff.1 k0).1).trans k0
    have k3 := (hB1.block _ (Array.getElem?_eq_some_iff.1 k1).1).trans k1
    clear k0 k1 hb0
    go_wp2_with fail
    refine (ranges_Of.calls kg A c l g w1 (Kd.C_below hC hb1) hc G1.out).mono ?_
    rintro e w2 ⟨v2, rfl, hR2, hB2⟩
    obtain ⟨A2, c2, rfl, hc2, hC2⟩ := Kd.R_reads hR2
    have hb2 := hb1.trans (hB2.mono hb1.size)
    have k4 := (hB2.block _ (Array.getElem?_eq_some_iff.1 k2).1).trans k2
    have k5 := (hB2.block _ (Array.getElem?_eq_some_iff.1 k3).1).trans k3
    clear k2 k3 hb1
    go_wp2_with fail
    have hb2' := hb2.alloc hb2.size (.cells #[.slice A2 g.length c2] 30)
    have ha := (Below.refl w2.heap.size w2).alloc (Nat.le_refl _) (.cells #[.slice A2 g.length c2] 30)
    refine (mandolineref02_Of.calls kg' A c l g _ (Kd.C_below hC hb2') hc G2.out).mono ?_
    rintro e w3 ⟨v3, rfl, hR3, hB3⟩
    obtain ⟨A3, c3, rfl, hc3, hC3⟩ := Kd.R_reads hR3
    have hb3 := hb2'.trans (hB3.mono hb2'.size)
    have hb23 := ha.trans (hB3.mono ha.size)
    have k6 := (hb23.block _ (Array.getElem?_eq_some_iff.1 k4).1).trans k4
    have k7 := (hb23.block _ (Array.getElem?_eq_some_iff.1 k5).1).trans k5
    have hC2' := Kd.C_below hC2 hb23
    have k8 := (hB3.block w2.heap.size (by simp)).trans (heap_alloc_new w2 (.cells #[.slice A2 g.length c2] 30))
    go_wp2_with fail
    have hS : ∀ w', Below w3.heap.size w3 w' → (fun w' : World => Below w3.heap.size w3 w' ∧ w'.cell? ⟨w2.heap.size, 0, none⟩ = some (.slice A2 g.length c2) ∧ w'.cell? ⟨W.heap.size, 0, none⟩ = some (.int .i64 n0) ∧ w'.cell? ⟨W.heap.size, 1, none⟩ = some (.int .i64 n1) ∧ w'.cell? ⟨W.heap.size + 1, 0, none⟩ = some (.int .i64 x.f0) ∧ w'.cell? ⟨W.heap.size + 1, 1, none⟩ = some (.int .i64 x.f1)) w' := fun w' h => by
      have z6 := (h.block _ (Array.getElem?_eq_some_iff.1 k6).1).trans k6
      have z7 := (h.block _ (Array.getElem?_eq_some_iff.1 k7).1).trans k7
      have z8 := (h.block _ (Array.getElem?_eq_some_iff.1 k8).1).trans k8
      exact ⟨h, cell_of_row _ _ 0 _ _ _ z8, cell_of_row _ _ 0 _ _ _ z6, cell_of_row _ _ 1 _ _ _ z6, cell_of_row _ _ 0 _ _ _ z7, cell_of_row _ _ 1 _ _ _ z7⟩
    have hb0 : Below w3.heap.size w3 w3.drew := below_drew (Below.refl _ _)
    go_region_held3 (fun w' : World => Below w3.heap.size w3 w' ∧ w'.cell? ⟨w2.heap.size, 0, none⟩ = some (.slice A2 g.length c2) ∧ w'.cell? ⟨W.heap.size, 0, none⟩ = some (.int .i64 n0) ∧ w'.cell? ⟨W.heap.size, 1, none⟩ = some (.int .i64 n1) ∧ w'.cell? ⟨W.heap.size + 1, 0, none⟩ = some (.int .i64 x.f0) ∧ w'.cell? ⟨W.heap.size + 1, 1, none⟩ = some (.int .i64 x.f1))
      (exact hS _ (by assumption))
      (first
        | (go_at_call 20; with_reducible refine (plan_Units.calls ku A2 c2 g n0 n1 u _ (Kd.C_below hC2' hb0) hc2 U1.out).mono ?_; rintro e w5 ⟨v5, rfl, hR5, hB5⟩; obtain ⟨A5, c5, rfl, hc5, hC5⟩ := Kd.R_reads hR5; have bw5 := hb0.trans (hB5.mono hb0.size))
        | (go_at_call 21; with_reducible refine (ranges_Set_Spans.calls A5 c5 u u _ hC5 hc5 SP.out).mono ?_; rintro e w6 ⟨v6, rfl, hR6, hB6⟩; obtain ⟨A6, c6, rfl, hc6, hC6⟩ := Kd.R_reads hR6; have bw6 := bw5.trans (hB6.mono bw5.size))
        | (go_at_call 17; with_reducible refine (mandolineref35_Units.calls ku' A3 c3 g n0 n1 u _ (Kd.C_below hC3 bw6) hc3 U2.out).mono ?_; rintro e w7 ⟨v7, rfl, hR7, hB7⟩; obtain ⟨A7, c7, rfl, hc7, hC7⟩ := Kd.R_reads hR7; have bw7 := bw6.trans (hB7.mono bw6.size))
        | (go_at_call 16; with_reducible refine (mandolineref02_List.calls kl A6 c6 u A7 c7 u true _ (Kd.C_below hC6 hB7) hc6 hC7 hc7 L1.out).mono ?_; rintro e w8 ⟨rfl, hd8⟩; have bw8 := bw7.trans (hd8.below.mono bw7.size))
        | (go_at_call 23; with_reducible refine (plan_Waste.calls kn x.f0 x.f1 A2 c2 g n _ (Kd.C_below hC2' bw8) hc2 M1.out).mono ?_; rintro e w9 ⟨rfl, hB9⟩; have bw9 := bw8.trans (hB9.mono bw8.size))
        | (go_at_call 24; with_reducible refine (mandolineref35_Waste.calls kn' x.f0 x.f1 A3 c3 g n _ (Kd.C_below hC3 bw9) hc3 M2.out).mono ?_; rintro e w10 ⟨rfl, hB10⟩; have bw10 := bw9.trans (hB10.mono bw9.size)))
    go_wp2
    go_ret
    exact ⟨rfl, hb3.trans (bw10.mono hb3.size)⟩
end Go.Proofs.Ytnaalaakhdbfbaa.XP
