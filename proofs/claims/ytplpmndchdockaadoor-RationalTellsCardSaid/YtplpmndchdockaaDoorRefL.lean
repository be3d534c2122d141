import Derived.Test.YtplpmndchdockaaDoorRefK
import Derived.Test.YtplpmndchdockaaDoorRatX
/-! Div of the reference; Cmp of the program. -/
namespace Go.Proofs.YtplpmndchdockaaDoor.M
open Go Go.RowKit Go.Proofs.YtplpmndchdockaaDoorV.PrintWords
set_option autoImplicit false
set_option linter.unusedVariables false
set_option linter.unusedSimpArgs false

set_option maxHeartbeats 4000000 in
theorem qdiv_c (w : World) (N D N2 D2 : ByteArray) (hN : N.size ≤ 140737488355328) (hN2 : N2.size ≤ 140737488355328) :
    Calls Tryd.prog 33 #[.agg #[.string N, .string D], .agg #[.string N2, .string D2]] w fun e w' => e = .returned (wV (divQ (rdQ N D) (rdQ N2 D2))) ∧ Below w.heap.size w w' := by
  have F := fun W => both_c W N D N2 D2 hN hN2
  have G1 : ∀ p, rdQ N D = some p → Fits p := fun p h => rdQ_fits h
  have G2 : ∀ p, rdQ N2 D2 = some p → Fits p := fun p h => rdQ_fits h
  generalize rdQ N D = a at *
  generalize rdQ N2 D2 = b at *
  replace F := Aside0.mk F
  have fin : (∃ p q, a = some p ∧ b = some q) ∨ ((a.isSome && b.isSome) = false ∧ divQ a b = none) := by
    cases a <;> cases b <;> simp [divQ]
  rcases fin with ⟨p, q, rfl, rfl⟩ | ⟨h1, h2⟩
  · have fp := fits_B2 (G1 p rfl)
    have fq := fits_B2 (G2 q rfl)
    clear G1 G2
    by_cases h0 : q.num.natAbs = 0
    · have e : divQ (some p) (some q) = none := by unfold divQ; dsimp only; rw [if_pos h0]
      rw [e]
      clear e
      have hd := decide_eq_true h0
      replace hd := Aside0.mk hd
      clear h0
      go_enter Tryd.func33, Tryd.ntmps33
      go_wp2_with fail
      refine afterB (F.out _) ?_; intro x A L c A1 L1 c1 y A2 L2 c2 A3 L3 c3 w1 hq b1 z1 hc1 hf1
      obtain ⟨rfl, rfl, n1, n2, n3, n4⟩ := hq.out p q rfl rfl
      have y1 : w.heap.size + 2 < w1.heap.size := (by simp at z1; omega)
      have x1 : w.heap.size + 1 < w1.heap.size := by omega
      have v1 : w.heap.size < w1.heap.size := by omega
      have H1 := Aside0.mk (below_trans (w := w) (by repeat first | (with_reducible exact Below.refl _ _) | (with_reducible refine below_alloc ?_ _)) b1)
      clear b1 z1 hq
      go_wp2_with fail
      refine afterV (zero_c _ _ ((n3.alloc _).alloc _)) ?_; intro w2 b2 z2 hc2 hf2
      rw [hd.out]
      have y2 : w.heap.size + 2 < w2.heap.size := (by simp at z2; omega)
      have u2 : w1.heap.size < w2.heap.size := (by simp at z2; omega)
      have v2 : w1.heap.size + 1 < w2.heap.size := (by simp at z2; omega)
      have H2 := Aside0.mk (below_trans (below_alloc (below_alloc H1.out _) _) b2)
      clear b2
      go_wp2
      refine bodyPost_ret (v := wV none) (by rw [wV_none]; simp [results, Tryd.results33, go_sem, hc1, hc2, hf1, hf2, y1, y2, x1, v1, u2, v2]) rfl ⟨rfl, ?_⟩
      repeat first | (with_reducible exact H2.out) | refine below_set ?_ (by omega) | refine below_alloc ?_ _
    · have e : divQ (some p) (some q) = some (p / q) := by unfold divQ; dsimp only; rw [if_neg h0]
      rw [e]
      clear e
      have hd := decide_eq_false h0
      replace hd := Aside0.mk hd
      replace h0 := Aside0.mk h0
      go_enter Tryd.func33, Tryd.ntmps33
      go_wp2_with fail
      refine afterB (F.out _) ?_; intro x A L c A1 L1 c1 y A2 L2 c2 A3 L3 c3 w1 hq b1 z1 hc1 hf1
      obtain ⟨rfl, rfl, n1, n2, n3, n4⟩ := hq.out p q rfl rfl
      have y1 : w.heap.size + 2 < w1.heap.size := (by simp at z1; omega)
      have x1 : w.heap.size + 1 < w1.heap.size := by omega
      have v1 : w.heap.size < w1.heap.size := by omega
      have H1 := Aside0.mk (below_trans (w := w) (by repeat first | (with_reducible exact Below.refl _ _) | (with_reducible refine below_alloc ?_ _)) b1)
      clear b1 z1 hq
      go_wp2_with fail
      refine afterV (zero_c _ _ ((n3.alloc _).alloc _)) ?_; intro w2 b2 z2 hc2 hf2
      rw [hd.out]
      replace n1 := ((n1.alloc _).alloc _).below b2
      replace n2 := ((n2.alloc _).alloc _).below b2
      replace n3 := ((n3.alloc _).alloc _).below b2
      replace n4 := ((n4.alloc _).alloc _).below b2
      have y2 : w.heap.size + 2 < w2.heap.size := (by simp at z2; omega)
      have u2 : w1.heap.size < w2.heap.size := (by simp at z2; omega)
      have v2 : w1.heap.size + 1 < w2.heap.size := (by simp at z2; omega)
      have H2 := Aside0.mk (below_trans (below_alloc (below_alloc H1.out _) _) b2)
      clear b2
      have B2q := B2.div fp fq
      obtain ⟨s1, s2⟩ := B2q.Rm (by first | exact EQ_lt2 | exact EQ_lt3)
      go_wp2_with fail
      refine afterF (over_c _ p q n1 n2 n3 n4 fp fq EQ_lt h0.out) ?_; intro A5 L5 c5 A6 L6 c6 w3 hA hB b3 z3 hc3 hf3
      have y3 : w.heap.size + 2 < w3.heap.size := (by omega)
      have u3 : w1.heap.size < w3.heap.size := (by omega)
      have v3 : w1.heap.size + 1 < w3.heap.size := (by omega)
      have H3 := Aside0.mk (below_trans H2.out b3)
      clear b3 z3
      go_wp2_with fail
      refine afterW (rwrite_c _ (p / q) _ rfl hA hB s1 s2) ?_; intro w4 b4 z4 hc4 hf4
      have y4 : w.heap.size + 2 < w4.heap.size := (by omega)
      have H4 := Aside0.mk (below_trans H3.out b4)
      clear b4 z4
      go_wp2
      refine bodyPost_ret (v := wV (some (p / q))) (by simp [results, Tryd.results33, go_sem, wV, hc1, hc2, hc3, hc4, hf1, hf2, hf3, hf4, y1, y2, y3, y4, x1, v1, u2, v2, u3, v3]) rfl ⟨rfl, ?_⟩
      repeat first | (with_reducible exact H4.out) | refine below_set ?_ (by omega)
  · rw [h2]
    clear h2
    go_enter Tryd.func33, Tryd.ntmps33
    go_wp2_with fail
    refine afterB (F.out _) ?_; intro x A L c A1 L1 c1 y A2 L2 c2 A3 L3 c3 w1 hq b1 z1 hc1 hf1
    rw [h1]
    have y1 : w.heap.size + 2 < w1.heap.size := (by simp at z1; omega)
    have x1 : w.heap.size + 1 < w1.heap.size := by omega
    have v1 : w.heap.size < w1.heap.size := by omega
    have H1 := Aside0.mk (below_trans (w := w) (by repeat first | (with_reducible exact Below.refl _ _) | (with_reducible refine below_alloc ?_ _)) b1)
    clear b1 z1 hq
    go_wp2
    refine bodyPost_ret (v := wV none) (by rw [wV_none]; simp [results, Tryd.results33, go_sem, hc1, hf1, y1, x1, v1]) rfl ⟨rfl, ?_⟩
    repeat first | (with_reducible exact H1.out) | refine below_set ?_ (by omega) | refine below_alloc ?_ _

end Go.Proofs.YtplpmndchdockaaDoor.M
