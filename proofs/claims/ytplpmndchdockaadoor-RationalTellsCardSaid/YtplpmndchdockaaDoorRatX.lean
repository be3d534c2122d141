import Derived.Test.YtplpmndchdockaaDoorRatW
/-! The program's fractions: Cmp. -/
namespace Go.Proofs.YtplpmndchdockaaDoor.M
open Go Go.RowKit Go.Proofs.YtplpmndchdockaaDoorV.PrintWords
set_option autoImplicit false
set_option linter.unusedVariables false
set_option linter.unusedSimpArgs false

set_option maxHeartbeats 4000000 in
theorem pcmp_c (w : World) (N D N2 D2 : ByteArray) (hN : N.size ≤ 140737488355328) (hN2 : N2.size ≤ 140737488355328) :
    Calls Tryd.prog 31 #[.agg #[.string N, .string D], .agg #[.string N2, .string D2]] w fun e w' => e = .returned (.int .i64 (cmpQ (rdQ N D) (rdQ N2 D2))) ∧ Below w.heap.size w w' := by
  obtain ⟨o, ho⟩ : ∃ o, o = rdQ N D := ⟨_, rfl⟩
  obtain ⟨o2, ho2⟩ : ∃ o, o = rdQ N2 D2 := ⟨_, rfl⟩
  have F := fun W => read_c W N D hN
  have F2 := fun W => read_c W N2 D2 hN2
  rw [← ho] at F
  rw [← ho2] at F2
  rw [← ho, ← ho2]
  replace F := Aside0.mk F
  replace F2 := Aside0.mk F2
  have fin : (∃ p q, o = some p ∧ o2 = some q) ∨ (((o.isSome = false) ∨ (o.isSome = true ∧ o2.isSome = false)) ∧ cmpQ o o2 = 0) := by
    cases o <;> cases o2 <;> simp [cmpQ]
  rcases fin with ⟨p, q, hp, hq⟩ | ⟨h1, h2⟩
  · subst hp
    subst hq
    have fp := rdQ_fits ho.symm
    have fq := rdQ_fits ho2.symm
    clear ho ho2
    obtain ⟨s1, s2, s3, _, _⟩ := ops_Sm fp fq
    obtain ⟨t1, t2⟩ := fits_Sm fp
    obtain ⟨t3, t4⟩ := fits_Sm fq
    clear fp fq
    obtain ⟨t, ht⟩ : ∃ t, t = sumN (decide (p.num < 0)) (!decide (q.num < 0)) (p.num.natAbs * q.den) (q.num.natAbs * p.den) := ⟨_, rfl⟩
    have e : cmpQ (some p) (some q) = if t.2 = 0 then 0 else if t.1 = true then -1 else 1 := ord_parts p q ht
    rw [e]
    clear e
    have S : ∀ (X : World) (A : Option Addr) (L c : Nat) (A1 : Option Addr) (L1 c1 : Nat) (A2 : Option Addr) (L2 c2 : Nat) (A3 : Option Addr) (L3 c3 lo lo1 lo2 lo3 : Nat), Nf 1000000000 lo X (.slice A L c) p.num.natAbs → Nf 1000000000 lo1 X (.slice A1 L1 c1) p.den → Nf 1000000000 lo2 X (.slice A2 L2 c2) q.num.natAbs → Nf 1000000000 lo3 X (.slice A3 L3 c3) q.den →
        Calls Tryd.prog 77 #[.agg #[.bool (decide (p.num < 0)), .slice A L c, .slice A1 L1 c1], .agg #[.bool (!decide (q.num < 0)), .slice A2 L2 c2, .slice A3 L3 c3]] X (RetP t.1 t.2 (p.den * q.den) X) := by
      intro X A L c A1 L1 c1 A2 L2 c2 A3 L3 c3 l0 l1 l2 l3 h0 h1 h2 h3
      rw [ht]
      exact sum_c X _ _ h0 h1 h2 h3 t1 t2 t3 t4 s1 s2 s3
    clear ht
    replace S := Aside0.mk S
    have cs : (t.2 = 0) ∨ (t.2 ≠ 0 ∧ t.1 = true) ∨ (t.2 ≠ 0 ∧ t.1 = false) := by
      by_cases h : t.2 = 0
      · exact .inl h
      · cases hb : t.1 with
        | true => exact .inr (.inl ⟨h, rfl⟩)
        | false => exact .inr (.inr ⟨h, rfl⟩)
    obtain ⟨tb, tn⟩ := t
    dsimp only at S cs ⊢
    rcases cs with rfl | ⟨hn0, rfl⟩ | ⟨hn0, rfl⟩
    · rw [if_pos rfl]
      go_enter Tryd.func31, Tryd.ntmps31
      go_wp2_with fail
      refine afterR (F.out _) ?_; intro b A L c A' L' c' w1 hq b1 z1 hc1 hf1; have H1 := Aside0.mk (below_trans (w := w) (by repeat first | (with_reducible exact Below.refl _ _) | (with_reducible refine below_alloc ?_ _)) b1)
      have y1 : w.heap.size < w1.heap.size := (by simp at z1; omega)
      have x1 : w.heap.size + 1 < w1.heap.size := (by simp at z1; omega)
      obtain ⟨rfl, n1, n2⟩ := hq.out p rfl
      clear b1 z1 hq
      go_wp2_with fail
      refine afterR (F2.out _) ?_; intro b' A2 L2 c2 A3 L3 c3 w2 hq b2 z2 hc2 hf2; have H2 := Aside0.mk (below_trans (below_alloc H1.out _) b2)
      have y2 : w1.heap.size < w2.heap.size := (by simp at z2; omega)
      obtain ⟨rfl, n3, n4⟩ := hq.out q rfl
      replace n1 := (n1.alloc _).below b2
      replace n2 := (n2.alloc _).below b2
      clear b2 z2 hq
      go_wp2_with fail
      refine afterP (S.out _ _ _ _ _ _ _ _ _ _ _ _ _ _ _ _ _ (n1.alloc _) (n2.alloc _) (n3.alloc _) (n4.alloc _)) ?_; intro A5 L5 c5 A6 L6 c6 w3 hx hy b3 z3 hc3 hf3
      have hz := hx.zero_iff (by decide)
      have H3 := Aside0.mk (below_trans (below_alloc H2.out _) b3)
      have hL : L5 = 0 := by omega
      subst hL
      clear b3 z3 hx hy hz n1 n2 n3 n4
      go_wp2
      refine bodyPost_ret (v := .int .i64 (0)) (by simp [results, Tryd.results31, go_sem]) rfl ⟨rfl, ?_⟩
      repeat first | (with_reducible exact H3.out) | refine below_set ?_ (by omega) | refine below_alloc ?_ _
    · rw [if_neg hn0, if_pos rfl]
      go_enter Tryd.func31, Tryd.ntmps31
      go_wp2_with fail
      refine afterR (F.out _) ?_; intro b A L c A' L' c' w1 hq b1 z1 hc1 hf1; have H1 := Aside0.mk (below_trans (w := w) (by repeat first | (with_reducible exact Below.refl _ _) | (with_reducible refine below_alloc ?_ _)) b1)
      have y1 : w.heap.size < w1.heap.size := (by simp at z1; omega)
      have x1 : w.heap.size + 1 < w1.heap.size := (by simp at z1; omega)
      obtain ⟨rfl, n1, n2⟩ := hq.out p rfl
      clear b1 z1 hq
      go_wp2_with fail
      refine afterR (F2.out _) ?_; intro b' A2 L2 c2 A3 L3 c3 w2 hq b2 z2 hc2 hf2; have H2 := Aside0.mk (below_trans (below_alloc H1.out _) b2)
      have y2 : w1.heap.size < w2.heap.size := (by simp at z2; omega)
      obtain ⟨rfl, n3, n4⟩ := hq.out q rfl
      replace n1 := (n1.alloc _).below b2
      replace n2 := (n2.alloc _).below b2
      clear b2 z2 hq
      go_wp2_with fail
      refine afterP (S.out _ _ _ _ _ _ _ _ _ _ _ _ _ _ _ _ _ (n1.alloc _) (n2.alloc _) (n3.alloc _) (n4.alloc _)) ?_; intro A5 L5 c5 A6 L6 c6 w3 hx hy b3 z3 hc3 hf3
      have hz := hx.zero_iff (by decide)
      have H3 := Aside0.mk (below_trans (below_alloc H2.out _) b3)
      have hL : ¬ L5 = 0 := by omega
      clear b3 z3 hx hy hz n1 n2 n3 n4
      go_wp2
      refine bodyPost_ret (v := .int .i64 (-1)) (by simp [results, Tryd.results31, go_sem]) rfl ⟨rfl, ?_⟩
      repeat first | (with_reducible exact H3.out) | refine below_set ?_ (by omega) | refine below_alloc ?_ _
    · rw [if_neg hn0, if_neg (by decide)]
      go_enter Tryd.func31, Tryd.ntmps31
      go_wp2_with fail
      refine afterR (F.out _) ?_; intro b A L c A' L' c' w1 hq b1 z1 hc1 hf1; have H1 := Aside0.mk (below_trans (w := w) (by repeat first | (with_reducible exact Below.refl _ _) | (with_reducible refine below_alloc ?_ _)) b1)
      have y1 : w.heap.size < w1.heap.size := (by simp at z1; omega)
      have x1 : w.heap.size + 1 < w1.heap.size := (by simp at z1; omega)
      obtain ⟨rfl, n1, n2⟩ := hq.out p rfl
      clear b1 z1 hq
      go_wp2_with fail
      refine afterR (F2.out _) ?_; intro b' A2 L2 c2 A3 L3 c3 w2 hq b2 z2 hc2 hf2; have H2 := Aside0.mk (below_trans (below_alloc H1.out _) b2)
      have y2 : w1.heap.size < w2.heap.size := (by simp at z2; omega)
      obtain ⟨rfl, n3, n4⟩ := hq.out q rfl
      replace n1 := (n1.alloc _).below b2
      replace n2 := (n2.alloc _).below b2
      clear b2 z2 hq
      go_wp2_with fail
      refine afterP (S.out _ _ _ _ _ _ _ _ _ _ _ _ _ _ _ _ _ (n1.alloc _) (n2.alloc _) (n3.alloc _) (n4.alloc _)) ?_; intro A5 L5 c5 A6 L6 c6 w3 hx hy b3 z3 hc3 hf3
      have hz := hx.zero_iff (by decide)
      have H3 := Aside0.mk (below_trans (below_alloc H2.out _) b3)
      have hL : ¬ L5 = 0 := by omega
      clear b3 z3 hx hy hz n1 n2 n3 n4
      go_wp2
      refine bodyPost_ret (v := .int .i64 (1)) (by simp [results, Tryd.results31, go_sem]) rfl ⟨rfl, ?_⟩
      repeat first | (with_reducible exact H3.out) | refine below_set ?_ (by omega) | refine below_alloc ?_ _
  · rw [h2]
    clear h2 ho ho2
    rcases h1 with h1 | ⟨h1, h3⟩
    all_goals
      go_enter Tryd.func31, Tryd.ntmps31
      go_wp2_with fail
      refine afterR (F.out _) ?_; intro b A L c A' L' c' w1 hq b1 z1 hc1 hf1; have H1 := Aside0.mk (below_trans (w := w) (by repeat first | (with_reducible exact Below.refl _ _) | (with_reducible refine below_alloc ?_ _)) b1)
      have y1 : w.heap.size < w1.heap.size := (by simp at z1; omega)
      have x1 : w.heap.size + 1 < w1.heap.size := (by simp at z1; omega)
      clear b1 z1 hq
      go_wp2_with fail
      refine afterR (F2.out _) ?_; intro b' A2 L2 c2 A3 L3 c3 w2 hq b2 z2 hc2 hf2; have H2 := Aside0.mk (below_trans (below_alloc H1.out _) b2); clear b2 z2 hq
      go_wp2
      refine bodyPost_ret (v := .int .i64 0) (by simp [results, Tryd.results31, go_sem]) rfl ⟨rfl, ?_⟩
      repeat first | (with_reducible exact H2.out) | refine below_set ?_ (by omega) | refine below_alloc ?_ _
end Go.Proofs.YtplpmndchdockaaDoor.M
