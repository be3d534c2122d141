import Derived.Test.YtplpmndchdockaaDoorRefJ
/-! The reference's fractions: both, Add, Sub, Mul, Div, Cmp; and Cmp of the program. -/
namespace Go.Proofs.YtplpmndchdockaaDoor.M
open Go Go.RowKit Go.Proofs.YtplpmndchdockaaDoorV.PrintWords
set_option autoImplicit false
set_option linter.unusedVariables false
set_option linter.unusedSimpArgs false

theorem keepS3 {W w' : World} {m : Nat} (h : Below W.heap.size W w') : ∀ b o, m < b → b < W.heap.size → w'.cell? ⟨b, o, none⟩ = W.cell? ⟨b, o, none⟩ := fun b o _ hb => (bcell h).1 b o hb
theorem keepS3_set {W w' : World} {m r j : Nat} {u : Value} (hr : r ≤ m) (h : ∀ b o, m < b → b < W.heap.size → w'.cell? ⟨b, o, none⟩ = W.cell? ⟨b, o, none⟩) : ∀ b o, m < b → b < W.heap.size → (w'.setCell ⟨r, j, none⟩ u).cell? ⟨b, o, none⟩ = W.cell? ⟨b, o, none⟩ :=
  fun b o hm hb => (World.cell?_of_block (Below.heap_setCell w' ⟨r, j, none⟩ u b (by dsimp only; omega))).trans (h b o hm hb)
/-- A call that reads two fractions. -/
def RetB (a b : Option Rat) (w : World) (e : Ending) (w' : World) : Prop := ∃ x A L c A1 L1 c1 y A2 L2 c2 A3 L3 c3, e = .returned (.tuple #[.agg #[.bool x, .slice A L c, .slice A1 L1 c1], .agg #[.bool y, .slice A2 L2 c2, .slice A3 L3 c3], .bool (a.isSome && b.isSome)]) ∧ Below w.heap.size w w' ∧
  ∀ p q, a = some p → b = some q → x = decide (p.num < 0) ∧ y = decide (q.num < 0) ∧ Nf 4294967296 0 w' (.slice A L c) p.num.natAbs ∧ Nf 4294967296 0 w' (.slice A1 L1 c1) p.den ∧ Nf 4294967296 0 w' (.slice A2 L2 c2) q.num.natAbs ∧ Nf 4294967296 0 w' (.slice A3 L3 c3) q.den
theorem afterB {P : Program} {f : FuncId} {args : Array Value} {W : World} {a b : Option Rat} {Q : Ending → World → Prop} (h : Calls P f args W (RetB a b W))
    (k : ∀ x A L c A1 L1 c1 y A2 L2 c2 A3 L3 c3 w1, Aside0 (∀ p q, a = some p → b = some q → x = decide (p.num < 0) ∧ y = decide (q.num < 0) ∧ Nf 4294967296 0 w1 (.slice A L c) p.num.natAbs ∧ Nf 4294967296 0 w1 (.slice A1 L1 c1) p.den ∧ Nf 4294967296 0 w1 (.slice A2 L2 c2) q.num.natAbs ∧ Nf 4294967296 0 w1 (.slice A3 L3 c3) q.den) → Below W.heap.size W w1 → W.heap.size ≤ w1.heap.size → (∀ b o, b < W.heap.size → w1.cell? ⟨b, o, none⟩ = W.cell? ⟨b, o, none⟩) → (∀ b o, b < W.heap.size → w1.frozen? ⟨b, o, none⟩ = W.frozen? ⟨b, o, none⟩) →
      Q (.returned (.tuple #[.agg #[.bool x, .slice A L c, .slice A1 L1 c1], .agg #[.bool y, .slice A2 L2 c2, .slice A3 L3 c3], .bool (a.isSome && b.isSome)])) w1) : Calls P f args W Q :=
  h.mono fun e w1 ⟨x, A, L, c, A1, L1, c1, y, A2, L2, c2, A3, L3, c3, he, hb, hN⟩ => by subst he; exact k x A L c A1 L1 c1 y A2 L2 c2 A3 L3 c3 w1 ⟨hN⟩ hb hb.size (bcell hb).1 (bcell hb).2
set_option maxHeartbeats 4000000 in
theorem both_c (w : World) (N D N2 D2 : ByteArray) (hN : N.size ≤ 140737488355328) (hN2 : N2.size ≤ 140737488355328) :
    Calls Tryd.prog 75 #[.agg #[.string N, .string D], .agg #[.string N2, .string D2]] w (RetB (rdQ N D) (rdQ N2 D2) w) := by
  have F := fun W => rread_c W N D hN
  have F2 := fun W => rread_c W N2 D2 hN2
  generalize rdQ N D = a at *
  generalize rdQ N2 D2 = b at *
  replace F := Aside0.mk F
  replace F2 := Aside0.mk F2
  obtain ⟨pa, hpa⟩ : ∃ s, s = a.isSome := ⟨_, rfl⟩
  obtain ⟨pb, hpb⟩ : ∃ s, s = b.isSome := ⟨_, rfl⟩
  replace hpa := Aside0.mk hpa
  replace hpb := Aside0.mk hpb
  cases pa <;> cases pb
  all_goals
    go_enter Tryd.func75, Tryd.ntmps75
    go_wp2_with fail
    refine afterR (F.out _) ?_; intro x A L c A1 L1 c1 w1 hq b1 z1 hc1 hf1
    rw [← hpa.out]
    have y1 : w.heap.size + 3 < w1.heap.size := (by simp at z1; omega)
    have x1 : w.heap.size + 2 < w1.heap.size := by omega
    have v1 : w.heap.size + 1 < w1.heap.size := by omega
    have H1 := Aside0.mk (below_trans (w := w) (by repeat first | (with_reducible exact Below.refl _ _) | (with_reducible refine below_alloc ?_ _)) b1)
    clear b1 z1
    go_wp2_with fail
    refine afterR (F2.out _) ?_; intro y A2 L2 c2 A3 L3 c3 w2 hq2 b2 z2 hc2 hf2
    rw [← hpb.out]
    have u2 : w1.heap.size < w2.heap.size := (by simp at z2; omega)
    have y2 : w.heap.size + 3 < w2.heap.size := by omega
    have x2 : w.heap.size + 2 < w2.heap.size := by omega
    have H2 := Aside0.mk (below_trans (below_alloc H1.out _) b2)
    have hb2 := Aside0.mk b2
    clear b2 z2
    go_upto_region 3 with fail
    refine region_letter ?_; intro W hW
    have k0 : W.cell? ⟨w1.heap.size, 0, none⟩ = some (.bool x) := by rw [hW]; simp [go_sem, hc2, u2]
    have k1 : W.cell? ⟨w1.heap.size, 1, none⟩ = some (.slice A L c) := by rw [hW]; simp [go_sem, hc2, u2]
    have k2 : W.cell? ⟨w1.heap.size, 2, none⟩ = some (.slice A1 L1 c1) := by rw [hW]; simp [go_sem, hc2, u2]
    have k3 : W.cell? ⟨w2.heap.size, 0, none⟩ = some (.bool y) := by rw [hW]; simp [go_sem]
    have k4 : W.cell? ⟨w2.heap.size, 1, none⟩ = some (.slice A2 L2 c2) := by rw [hW]; simp [go_sem]
    have k5 : W.cell? ⟨w2.heap.size, 2, none⟩ = some (.slice A3 L3 c3) := by rw [hW]; simp [go_sem]
    have m0 : W.cell? ⟨w.heap.size + 2, 0, none⟩ = some (.bool false) := by rw [hW]; simp [go_sem, hc1, hc2, u2, y1, y2, x1, x2]
    have m1 : W.cell? ⟨w.heap.size + 2, 1, none⟩ = some (.slice none 0 0) := by rw [hW]; simp [go_sem, hc1, hc2, u2, y1, y2, x1, x2]
    have m2 : W.cell? ⟨w.heap.size + 2, 2, none⟩ = some (.slice none 0 0) := by rw [hW]; simp [go_sem, hc1, hc2, u2, y1, y2, x1, x2]
    have m3 : W.cell? ⟨w.heap.size + 3, 0, none⟩ = some (.bool false) := by rw [hW]; simp [go_sem, hc1, hc2, u2, y1, y2, x1, x2]
    have m4 : W.cell? ⟨w.heap.size + 3, 1, none⟩ = some (.slice none 0 0) := by rw [hW]; simp [go_sem, hc1, hc2, u2, y1, y2, x1, x2]
    have m5 : W.cell? ⟨w.heap.size + 3, 2, none⟩ = some (.slice none 0 0) := by rw [hW]; simp [go_sem, hc1, hc2, u2, y1, y2, x1, x2]
    have f0 : W.frozen? ⟨w.heap.size + 2, 0, none⟩ = false := by rw [hW]; simp [go_sem, hf1, hf2, u2, y1, y2, x1, x2]
    have f1 : W.frozen? ⟨w.heap.size + 2, 1, none⟩ = false := by rw [hW]; simp [go_sem, hf1, hf2, u2, y1, y2, x1, x2]
    have f2 : W.frozen? ⟨w.heap.size + 2, 2, none⟩ = false := by rw [hW]; simp [go_sem, hf1, hf2, u2, y1, y2, x1, x2]
    have f3 : W.frozen? ⟨w.heap.size + 3, 0, none⟩ = false := by rw [hW]; simp [go_sem, hf1, hf2, u2, y1, y2, x1, x2]
    have f4 : W.frozen? ⟨w.heap.size + 3, 1, none⟩ = false := by rw [hW]; simp [go_sem, hf1, hf2, u2, y1, y2, x1, x2]
    have f5 : W.frozen? ⟨w.heap.size + 3, 2, none⟩ = false := by rw [hW]; simp [go_sem, hf1, hf2, u2, y1, y2, x1, x2]
    have yW : w.heap.size + 3 < W.heap.size := by rw [hW]; simp; omega
    have t1 : w1.heap.size < W.heap.size := by rw [hW]; simp; omega
    have t2 : w2.heap.size < W.heap.size := by rw [hW]; simp
    have BW : Below w2.heap.size w2 W := by rw [hW]; exact (by (repeat first | (with_reducible exact Below.refl _ _) | (with_reducible refine below_drew ?_) | (with_reducible refine below_alloc ?_ _) | ((with_reducible refine below_set ?_ ?hh); (case hh => omega))); done)
    have HW := Aside0.mk (below_trans H2.out BW)
    have hN : Aside0 (∀ p q, a = some p → b = some q → x = decide (p.num < 0) ∧ y = decide (q.num < 0) ∧ Nf 4294967296 (w.heap.size + 4) W (.slice A L c) p.num.natAbs ∧ Nf 4294967296 (w.heap.size + 4) W (.slice A1 L1 c1) p.den ∧ Nf 4294967296 (w.heap.size + 4) W (.slice A2 L2 c2) q.num.natAbs ∧ Nf 4294967296 (w.heap.size + 4) W (.slice A3 L3 c3) q.den) :=
      ⟨fun p q hp hqq => by
        obtain ⟨e1, n1, n2⟩ := hq.out p hp
        obtain ⟨e2, n3, n4⟩ := hq2.out q hqq
        exact ⟨e1, e2, (((n1.alloc _).below hb2.out).below BW).low (by simp), (((n2.alloc _).below hb2.out).below BW).low (by simp), (n3.below BW).low (by simp; omega), (n4.below BW).low (by simp; omega)⟩⟩
    clear hW BW hc1 hc2 hf1 hf2 hq hq2 hb2 H1 H2 x1 v1 u2 x2
    have n1' : w1.heap.size ≠ w.heap.size + 2 := by omega
    have n2' : w1.heap.size ≠ w.heap.size + 3 := by omega
    have n3' : w2.heap.size ≠ w.heap.size + 2 := by omega
    have n4' : w2.heap.size ≠ w.heap.size + 3 := by omega
    go_region
    all_goals
      go_wp2
      refine bodyPost_ret (v := .tuple #[.agg #[.bool x, .slice A L c, .slice A1 L1 c1], .agg #[.bool y, .slice A2 L2 c2, .slice A3 L3 c3], .bool (a.isSome && b.isSome)]) (by rw [← hpa.out, ← hpb.out]; simp [results, Tryd.results75, go_sem, m0, m1, m2, m3, m4, m5, f0, f1, f2, f3, f4, f5, yW]) rfl ⟨x, A, L, c, A1, L1, c1, y, A2, L2, c2, A3, L3, c3, rfl, ?_, fun p q hp hqq => ?_⟩
      · have BW' := below_trans HW.out (Below.refl _ _)
        repeat first | (with_reducible exact HW.out) | (with_reducible refine below_drew ?_) | (with_reducible refine below_set ?_ (by omega))
      · obtain ⟨e1, e2, n1, n2, n3, n4⟩ := hN.out p q hp hqq
        refine ⟨e1, e2, ?_, ?_, ?_, ?_⟩
        · refine Nf.low (lo := w.heap.size + 4) ?_ (Nat.zero_le _)
          repeat first | (with_reducible exact n1) | (with_reducible refine Nf.drew ?_) | (with_reducible refine Nf.set ?_ (by dsimp only; omega) _)
        · refine Nf.low (lo := w.heap.size + 4) ?_ (Nat.zero_le _)
          repeat first | (with_reducible exact n2) | (with_reducible refine Nf.drew ?_) | (with_reducible refine Nf.set ?_ (by dsimp only; omega) _)
        · refine Nf.low (lo := w.heap.size + 4) ?_ (Nat.zero_le _)
          repeat first | (with_reducible exact n3) | (with_reducible refine Nf.drew ?_) | (with_reducible refine Nf.set ?_ (by dsimp only; omega) _)
        · refine Nf.low (lo := w.heap.size + 4) ?_ (Nat.zero_le _)
          repeat first | (with_reducible exact n4) | (with_reducible refine Nf.drew ?_) | (with_reducible refine Nf.set ?_ (by dsimp only; omega) _)
def EQ : Nat := 1600
theorem EQ_lt : EQ + EQ < 100000000 := by decide
theorem EQ_lt2 : EQ + EQ + 1 < 1000000000 := by decide
theorem EQ_lt3 : EQ + EQ < 1000000000 := by decide
theorem fits_B2 {q : Rat} (h : Fits q) : B2 q EQ := by
  have h1 : 10 ^ MD ≤ 2 ^ EQ := by
    refine Nat.le_trans (Nat.pow_le_pow_left (show 10 ≤ 2 ^ 4 by decide) _) ?_
    rw [← Nat.pow_mul]
    exact Nat.pow_le_pow_right (by decide) (by rw [MD_eq]; decide)
  exact ⟨Nat.le_of_lt (Nat.lt_of_lt_of_le h.1 h1), Nat.le_of_lt (Nat.lt_of_lt_of_le h.2 h1)⟩
set_option maxHeartbeats 4000000 in
theorem qadd_c (w : World) (N D N2 D2 : ByteArray) (hN : N.size ≤ 140737488355328) (hN2 : N2.size ≤ 140737488355328) :
    Calls Tryd.prog 28 #[.agg #[.string N, .string D], .agg #[.string N2, .string D2]] w fun e w' => e = .returned (wV (addQ (rdQ N D) (rdQ N2 D2))) ∧ Below w.heap.size w w' := by
  have F := fun W => both_c W N D N2 D2 hN hN2
  have G1 : ∀ p, rdQ N D = some p → Fits p := fun p h => rdQ_fits h
  have G2 : ∀ p, rdQ N2 D2 = some p → Fits p := fun p h => rdQ_fits h
  generalize rdQ N D = a at *
  generalize rdQ N2 D2 = b at *
  replace F := Aside0.mk F
  have fin : (∃ p q, a = some p ∧ b = some q) ∨ ((a.isSome && b.isSome) = false ∧ addQ a b = none) := by
    cases a <;> cases b <;> simp [addQ]
  rcases fin with ⟨p, q, rfl, rfl⟩ | ⟨h1, h2⟩
  · have fp := fits_B2 (G1 p rfl)
    have fq := fits_B2 (G2 q rfl)
    clear G1 G2
    go_enter Tryd.func28, Tryd.ntmps28
    go_wp2_with fail
    refine afterB (F.out _) ?_; intro x A L c A1 L1 c1 y A2 L2 c2 A3 L3 c3 w1 hq b1 z1 hc1 hf1
    obtain ⟨rfl, rfl, n1, n2, n3, n4⟩ := hq.out p q rfl rfl
    have y1 : w.heap.size + 2 < w1.heap.size := (by simp at z1; omega)
    have x1 : w.heap.size + 1 < w1.heap.size := by omega
    have v1 : w.heap.size < w1.heap.size := by omega
    have H1 := Aside0.mk (below_trans (w := w) (by repeat first | (with_reducible exact Below.refl _ _) | (with_reducible refine below_alloc ?_ _)) b1)
    clear b1 z1 hq
    have B2q := B2.add fp fq
    obtain ⟨s1, s2⟩ := B2q.Rm (by first | exact EQ_lt2 | exact EQ_lt3)
    go_wp2_with fail
    refine afterF (plus_c _ p q ((n1.alloc _).alloc _) ((n2.alloc _).alloc _) ((n3.alloc _).alloc _) ((n4.alloc _).alloc _) fp fq EQ_lt) ?_; intro A5 L5 c5 A6 L6 c6 w2 hA hB b2 z2 hc2 hf2
    have y2 : w.heap.size + 2 < w2.heap.size := (by simp at z2; omega)
    have u2 : w1.heap.size < w2.heap.size := (by simp at z2; omega)
    have v2 : w1.heap.size + 1 < w2.heap.size := (by simp at z2; omega)
    have H2 := Aside0.mk (below_trans (below_alloc (below_alloc H1.out _) _) b2)
    clear b2 z2
    go_wp2_with fail
    refine afterW (rwrite_c _ (p + q) _ rfl hA hB s1 s2) ?_; intro w3 b3 z3 hc3 hf3
    have y3 : w.heap.size + 2 < w3.heap.size := (by omega)
    have u3 : w2.heap.size ≤ w3.heap.size := z3
    have H3 := Aside0.mk (below_trans H2.out b3)
    clear b3 z3
    go_wp2
    refine bodyPost_ret (v := wV (addQ (some p) (some q))) (by unfold addQ; simp [results, Tryd.results28, go_sem, wV, hc1, hc2, hc3, hf1, hf2, hf3, y1, y2, y3, x1, v1, u2, v2]) rfl ⟨rfl, ?_⟩
    repeat first | (with_reducible exact H3.out) | refine below_set ?_ (by omega)
  · rw [h2]
    clear h2
    go_enter Tryd.func28, Tryd.ntmps28
    go_wp2_with fail
    refine afterB (F.out _) ?_; intro x A L c A1 L1 c1 y A2 L2 c2 A3 L3 c3 w1 hq b1 z1 hc1 hf1
    rw [h1]
    have y1 : w.heap.size + 2 < w1.heap.size := (by simp at z1; omega)
    have x1 : w.heap.size + 1 < w1.heap.size := by omega
    have v1 : w.heap.size < w1.heap.size := by omega
    have H1 := Aside0.mk (below_trans (w := w) (by repeat first | (with_reducible exact Below.refl _ _) | (with_reducible refine below_alloc ?_ _)) b1)
    clear b1 z1 hq
    go_wp2
    refine bodyPost_ret (v := wV none) (by rw [wV_none]; simp [results, Tryd.results28, go_sem, hc1, hf1, y1, x1, v1]) rfl ⟨rfl, ?_⟩
    repeat first | (with_reducible exact H1.out) | refine below_set ?_ (by omega) | refine below_alloc ?_ _
set_option maxHeartbeats 4000000 in
theorem qsub_c (w : World) (N D N2 D2 : ByteArray) (hN : N.size ≤ 140737488355328) (hN2 : N2.size ≤ 140737488355328) :
    Calls Tryd.prog 32 #[.agg #[.string N, .string D], .agg #[.string N2, .string D2]] w fun e w' => e = .returned (wV (subQ (rdQ N D) (rdQ N2 D2))) ∧ Below w.heap.size w w' := by
  have F := fun W => both_c W N D N2 D2 hN hN2
  have G1 : ∀ p, rdQ N D = some p → Fits p := fun p h => rdQ_fits h
  have G2 : ∀ p, rdQ N2 D2 = some p → Fits p := fun p h => rdQ_fits h
  generalize rdQ N D = a at *
  generalize rdQ N2 D2 = b at *
  replace F := Aside0.mk F
  have fin : (∃ p q, a = some p ∧ b = some q) ∨ ((a.isSome && b.isSome) = false ∧ subQ a b = none) := by
    cases a <;> cases b <;> simp [subQ]
  rcases fin with ⟨p, q, rfl, rfl⟩ | ⟨h1, h2⟩
  · have fp := fits_B2 (G1 p rfl)
    have fq := fits_B2 (G2 q rfl)
    clear G1 G2
    go_enter Tryd.func32, Tryd.ntmps32
    go_wp2_with fail
    refine afterB (F.out _) ?_; intro x A L c A1 L1 c1 y A2 L2 c2 A3 L3 c3 w1 hq b1 z1 hc1 hf1
    obtain ⟨rfl, rfl, n1, n2, n3, n4⟩ := hq.out p q rfl rfl
    have y1 : w.heap.size + 2 < w1.heap.size := (by simp at z1; omega)
    have x1 : w.heap.size + 1 < w1.heap.size := by omega
    have v1 : w.heap.size < w1.heap.size := by omega
    have H1 := Aside0.mk (below_trans (w := w) (by repeat first | (with_reducible exact Below.refl _ _) | (with_reducible refine below_alloc ?_ _)) b1)
    clear b1 z1 hq
    have B2q := B2.sub fp fq
    obtain ⟨s1, s2⟩ := B2q.Rm (by first | exact EQ_lt2 | exact EQ_lt3)
    go_wp2_with fail
    refine afterF (minus_c _ p q ((n1.alloc _).alloc _) ((n2.alloc _).alloc _) ((n3.alloc _).alloc _) ((n4.alloc _).alloc _) fp fq EQ_lt) ?_; intro A5 L5 c5 A6 L6 c6 w2 hA hB b2 z2 hc2 hf2
    have y2 : w.heap.size + 2 < w2.heap.size := (by simp at z2; omega)
    have u2 : w1.heap.size < w2.heap.size := (by simp at z2; omega)
    have v2 : w1.heap.size + 1 < w2.heap.size := (by simp at z2; omega)
    have H2 := Aside0.mk (below_trans (below_alloc (below_alloc H1.out _) _) b2)
    clear b2 z2
    go_wp2_with fail
    refine afterW (rwrite_c _ (p - q) _ rfl hA hB s1 s2) ?_; intro w3 b3 z3 hc3 hf3
    have y3 : w.heap.size + 2 < w3.heap.size := (by omega)
    have u3 : w2.heap.size ≤ w3.heap.size := z3
    have H3 := Aside0.mk (below_trans H2.out b3)
    clear b3 z3
    go_wp2
    refine bodyPost_ret (v := wV (subQ (some p) (some q))) (by unfold subQ; simp [results, Tryd.results32, go_sem, wV, hc1, hc2, hc3, hf1, hf2, hf3, y1, y2, y3, x1, v1, u2, v2]) rfl ⟨rfl, ?_⟩
    repeat first | (with_reducible exact H3.out) | refine below_set ?_ (by omega)
  · rw [h2]
    clear h2
    go_enter Tryd.func32, Tryd.ntmps32
    go_wp2_with fail
    refine afterB (F.out _) ?_; intro x A L c A1 L1 c1 y A2 L2 c2 A3 L3 c3 w1 hq b1 z1 hc1 hf1
    rw [h1]
    have y1 : w.heap.size + 2 < w1.heap.size := (by simp at z1; omega)
    have x1 : w.heap.size + 1 < w1.heap.size := by omega
    have v1 : w.heap.size < w1.heap.size := by omega
    have H1 := Aside0.mk (below_trans (w := w) (by repeat first | (with_reducible exact Below.refl _ _) | (with_reducible refine below_alloc ?_ _)) b1)
    clear b1 z1 hq
    go_wp2
    refine bodyPost_ret (v := wV none) (by rw [wV_none]; simp [results, Tryd.results32, go_sem, hc1, hf1, y1, x1, v1]) rfl ⟨rfl, ?_⟩
    repeat first | (with_reducible exact H1.out) | refine below_set ?_ (by omega) | refine below_alloc ?_ _
set_option maxHeartbeats 4000000 in
theorem qmul_c (w : World) (N D N2 D2 : ByteArray) (hN : N.size ≤ 140737488355328) (hN2 : N2.size ≤ 140737488355328) :
    Calls Tryd.prog 26 #[.agg #[.string N, .string D], .agg #[.string N2, .string D2]] w fun e w' => e = .returned (wV (mulQ (rdQ N D) (rdQ N2 D2))) ∧ Below w.heap.size w w' := by
  have F := fun W => both_c W N D N2 D2 hN hN2
  have G1 : ∀ p, rdQ N D = some p → Fits p := fun p h => rdQ_fits h
  have G2 : ∀ p, rdQ N2 D2 = some p → Fits p := fun p h => rdQ_fits h
  generalize rdQ N D = a at *
  generalize rdQ N2 D2 = b at *
  replace F := Aside0.mk F
  have fin : (∃ p q, a = some p ∧ b = some q) ∨ ((a.isSome && b.isSome) = false ∧ mulQ a b = none) := by
    cases a <;> cases b <;> simp [mulQ]
  rcases fin with ⟨p, q, rfl, rfl⟩ | ⟨h1, h2⟩
  · have fp := fits_B2 (G1 p rfl)
    have fq := fits_B2 (G2 q rfl)
    clear G1 G2
    go_enter Tryd.func26, Tryd.ntmps26
    go_wp2_with fail
    refine afterB (F.out _) ?_; intro x A L c A1 L1 c1 y A2 L2 c2 A3 L3 c3 w1 hq b1 z1 hc1 hf1
    obtain ⟨rfl, rfl, n1, n2, n3, n4⟩ := hq.out p q rfl rfl
    have y1 : w.heap.size + 2 < w1.heap.size := (by simp at z1; omega)
    have x1 : w.heap.size + 1 < w1.heap.size := by omega
    have v1 : w.heap.size < w1.heap.size := by omega
    have H1 := Aside0.mk (below_trans (w := w) (by repeat first | (with_reducible exact Below.refl _ _) | (with_reducible refine below_alloc ?_ _)) b1)
    clear b1 z1 hq
    have B2q := B2.mul fp fq
    obtain ⟨s1, s2⟩ := B2q.Rm (by first | exact EQ_lt2 | exact EQ_lt3)
    go_wp2_with fail
    refine afterF (times2_c _ p q ((n1.alloc _).alloc _) ((n2.alloc _).alloc _) ((n3.alloc _).alloc _) ((n4.alloc _).alloc _) fp fq EQ_lt) ?_; intro A5 L5 c5 A6 L6 c6 w2 hA hB b2 z2 hc2 hf2
    have y2 : w.heap.size + 2 < w2.heap.size := (by simp at z2; omega)
    have u2 : w1.heap.size < w2.heap.size := (by simp at z2; omega)
    have v2 : w1.heap.size + 1 < w2.heap.size := (by simp at z2; omega)
    have H2 := Aside0.mk (below_trans (below_alloc (below_alloc H1.out _) _) b2)
    clear b2 z2
    go_wp2_with fail
    refine afterW (rwrite_c _ (p * q) _ rfl hA hB s1 s2) ?_; intro w3 b3 z3 hc3 hf3
    have y3 : w.heap.size + 2 < w3.heap.size := (by omega)
    have u3 : w2.heap.size ≤ w3.heap.size := z3
    have H3 := Aside0.mk (below_trans H2.out b3)
    clear b3 z3
    go_wp2
    refine bodyPost_ret (v := wV (mulQ (some p) (some q))) (by unfold mulQ; simp [results, Tryd.results26, go_sem, wV, hc1, hc2, hc3, hf1, hf2, hf3, y1, y2, y3, x1, v1, u2, v2]) rfl ⟨rfl, ?_⟩
    repeat first | (with_reducible exact H3.out) | refine below_set ?_ (by omega)
  · rw [h2]
    clear h2
    go_enter Tryd.func26, Tryd.ntmps26
    go_wp2_with fail
    refine afterB (F.out _) ?_; intro x A L c A1 L1 c1 y A2 L2 c2 A3 L3 c3 w1 hq b1 z1 hc1 hf1
    rw [h1]
    have y1 : w.heap.size + 2 < w1.heap.size := (by simp at z1; omega)
    have x1 : w.heap.size + 1 < w1.heap.size := by omega
    have v1 : w.heap.size < w1.heap.size := by omega
    have H1 := Aside0.mk (below_trans (w := w) (by repeat first | (with_reducible exact Below.refl _ _) | (with_reducible refine below_alloc ?_ _)) b1)
    clear b1 z1 hq
    go_wp2
    refine bodyPost_ret (v := wV none) (by rw [wV_none]; simp [results, Tryd.results26, go_sem, hc1, hf1, y1, x1, v1]) rfl ⟨rfl, ?_⟩
    repeat first | (with_reducible exact H1.out) | refine below_set ?_ (by omega) | refine below_alloc ?_ _
set_option maxHeartbeats 4000000 in
theorem qcmp_c (w : World) (N D N2 D2 : ByteArray) (hN : N.size ≤ 140737488355328) (hN2 : N2.size ≤ 140737488355328) :
    Calls Tryd.prog 34 #[.agg #[.string N, .string D], .agg #[.string N2, .string D2]] w fun e w' => e = .returned (.int .i64 (cmpQ (rdQ N D) (rdQ N2 D2))) ∧ Below w.heap.size w w' := by
  have F := fun W => both_c W N D N2 D2 hN hN2
  have G1 : ∀ p, rdQ N D = some p → Fits p := fun p h => rdQ_fits h
  have G2 : ∀ p, rdQ N2 D2 = some p → Fits p := fun p h => rdQ_fits h
  generalize rdQ N D = a at *
  generalize rdQ N2 D2 = b at *
  replace F := Aside0.mk F
  have fin : (∃ p q, a = some p ∧ b = some q) ∨ ((a.isSome && b.isSome) = false ∧ cmpQ a b = 0) := by
    cases a <;> cases b <;> simp [cmpQ]
  rcases fin with ⟨p, q, rfl, rfl⟩ | ⟨h1, h2⟩
  · have fp := fits_B2 (G1 p rfl)
    have fq := fits_B2 (G2 q rfl)
    clear G1 G2
    have e : cmpQ (some p) (some q) = ordI (p - q) := rfl
    rw [e]
    clear e
    go_enter Tryd.func34, Tryd.ntmps34
    go_wp2_with fail
    refine afterB (F.out _) ?_; intro x A L c A1 L1 c1 y A2 L2 c2 A3 L3 c3 w1 hq b1 z1 hc1 hf1
    obtain ⟨rfl, rfl, n1, n2, n3, n4⟩ := hq.out p q rfl rfl
    have H1 := Aside0.mk (below_trans (w := w) (by repeat first | (with_reducible exact Below.refl _ _) | (with_reducible refine below_alloc ?_ _)) b1)
    clear b1 z1 hq
    go_wp2_with fail
    refine afterV (order_c _ p q ((n1.alloc _).alloc _) ((n2.alloc _).alloc _) ((n3.alloc _).alloc _) ((n4.alloc _).alloc _) fp fq EQ_lt) ?_; intro w2 b2 z2 hc2 hf2
    have H2 := Aside0.mk (below_trans (below_alloc (below_alloc H1.out _) _) b2)
    clear b2 z2
    go_wp2
    refine bodyPost_ret (v := .int .i64 (ordI (p - q))) (by simp [results, Tryd.results34, go_sem]) rfl ⟨rfl, H2.out⟩
  · rw [h2]
    clear h2
    go_enter Tryd.func34, Tryd.ntmps34
    go_wp2_with fail
    refine afterB (F.out _) ?_; intro x A L c A1 L1 c1 y A2 L2 c2 A3 L3 c3 w1 hq b1 z1 hc1 hf1
    rw [h1]
    have H1 := Aside0.mk (below_trans (w := w) (by repeat first | (with_reducible exact Below.refl _ _) | (with_reducible refine below_alloc ?_ _)) b1)
    clear b1 z1 hq
    go_wp2
    refine bodyPost_ret (v := .int .i64 0) (by simp [results, Tryd.results34, go_sem]) rfl ⟨rfl, ?_⟩
    repeat first | (with_reducible exact H1.out) | refine below_set ?_ (by omega) | refine below_alloc ?_ _
end Go.Proofs.YtplpmndchdockaaDoor.M
