import Derived.Test.YtplpmndchdockaaDoorRefH
import Derived.Test.YtplpmndchdockaaDoorRatW
/-! The reference's fractions: Times, Over, Order. -/
namespace Go.Proofs.YtplpmndchdockaaDoor.M
open Go Go.RowKit Go.Proofs.YtplpmndchdockaaDoorV.PrintWords
set_option autoImplicit false
set_option linter.unusedVariables false
set_option linter.unusedSimpArgs false

theorem mul_Rm {p q : Rat} {e f : Nat} (hp : B2 p e) (hq : B2 q f) (hef : e + f < 100000000) : Rm (p.num.natAbs * q.num.natAbs) ∧ Rm (p.den * q.den) ∧ Rm (p.num.natAbs * q.den) ∧ Rm (p.den * q.num.natAbs) :=
  ⟨Rm.pow (le_mul2 hp.num hq.num) (by omega), Rm.pow (le_mul2 hp.den hq.den) (by omega), Rm.pow (le_mul2 hp.num hq.den) (by omega), Rm.pow (le_mul2 hp.den hq.num) (by omega)⟩
theorem times2_c (w : World) (p q : Rat) {A A1 A2 A3 : Option Addr} {L c L1 c1 L2 c2 L3 c3 lo lo1 lo2 lo3 e f : Nat} (hn : Nf 4294967296 lo w (.slice A L c) p.num.natAbs) (hd : Nf 4294967296 lo1 w (.slice A1 L1 c1) p.den)
    (hn2 : Nf 4294967296 lo2 w (.slice A2 L2 c2) q.num.natAbs) (hd2 : Nf 4294967296 lo3 w (.slice A3 L3 c3) q.den) (hp : B2 p e) (hq : B2 q f) (hef : e + f < 100000000) :
    Calls Tryd.prog 68 #[.agg #[.bool (decide (p.num < 0)), .slice A L c, .slice A1 L1 c1], .agg #[.bool (decide (q.num < 0)), .slice A2 L2 c2, .slice A3 L3 c3]] w (RetF (p * q) w) := by
  obtain ⟨s1, s2, _, _⟩ := mul_Rm hp hq hef
  obtain ⟨t1, t2⟩ := hp.Rm (by omega)
  obtain ⟨t3, t4⟩ := hq.Rm (by omega)
  rw [pq_mul]
  exact times_c w _ _ hn hd hn2 hd2 t1 t2 t3 t4 s1 s2 (den_mul p q)
set_option maxHeartbeats 4000000 in
theorem over_c (w : World) (p q : Rat) {A A1 A2 A3 : Option Addr} {L c L1 c1 L2 c2 L3 c3 lo lo1 lo2 lo3 e f : Nat} (hn : Nf 4294967296 lo w (.slice A L c) p.num.natAbs) (hd : Nf 4294967296 lo1 w (.slice A1 L1 c1) p.den)
    (hn2 : Nf 4294967296 lo2 w (.slice A2 L2 c2) q.num.natAbs) (hd2 : Nf 4294967296 lo3 w (.slice A3 L3 c3) q.den) (hp : B2 p e) (hq : B2 q f) (hef : e + f < 100000000) (h0 : q.num.natAbs ≠ 0) :
    Calls Tryd.prog 83 #[.agg #[.bool (decide (p.num < 0)), .slice A L c, .slice A1 L1 c1], .agg #[.bool (decide (q.num < 0)), .slice A2 L2 c2, .slice A3 L3 c3]] w (RetF (p / q) w) := by
  have HB := Aside0.mk (below_alloc (below_alloc (below_alloc (Below.refl w.heap.size w) (Obj.cells #[Value.bool (decide (p.num < 0)), Value.slice A L c, Value.slice A1 L1 c1] 94)) (Obj.cells #[Value.bool (decide (q.num < 0)), Value.slice A2 L2 c2, Value.slice A3 L3 c3] 94)) (Obj.cells #[Value.bool false, Value.slice none 0 0, Value.slice none 0 0] 94))
  obtain ⟨_, _, s1, s2⟩ := mul_Rm hp hq hef
  obtain ⟨t1, t2⟩ := hp.Rm (by omega)
  obtain ⟨t3, t4⟩ := hq.Rm (by omega)
  have hz : p.den * q.num.natAbs ≠ 0 := Nat.mul_ne_zero p.den_nz h0
  rw [pq_div p q (fun h => h0 ((q0_iff q).mp h))]
  clear hp hq hef h0
  generalize p.num.natAbs = n at *
  generalize q.num.natAbs = n2 at *
  generalize p.den = d at *
  generalize q.den = d2 at *
  generalize decide (p.num < 0) = bp at *
  generalize decide (q.num < 0) = bq at *
  obtain ⟨t, ht⟩ : ∃ t, t = fr (bp != bq) (n * d2) (d * n2) := ⟨_, rfl⟩
  have Lw := fun (X : World) (A : Option Addr) (L c : Nat) (A' : Option Addr) (L' c' lo lo' : Nat) (h1 : Nf 4294967296 lo X (.slice A L c) (n * d2)) (h2 : Nf 4294967296 lo' X (.slice A' L' c') (d * n2)) => lowest_c X (bp != bq) h1 h2 hz s1 s2
  rw [← ht] at Lw ⊢
  clear ht
  replace Lw := Aside0.mk Lw
  have hbb : (!bp == bq) = (bp != bq) := bne_beq bp bq
  replace hbb := Aside0.mk hbb
  go_enter Tryd.func83, Tryd.ntmps83
  go_upto_region 1 with fail
  refine region_letter ?_; intro W hW
  have k0 : W.cell? ⟨w.heap.size, 0, none⟩ = some (.bool bp) := by rw [hW]; simp [go_sem]
  have k1 : W.cell? ⟨w.heap.size, 1, none⟩ = some (.slice A L c) := by rw [hW]; simp [go_sem]
  have k2 : W.cell? ⟨w.heap.size, 2, none⟩ = some (.slice A1 L1 c1) := by rw [hW]; simp [go_sem]
  have k3 : W.cell? ⟨w.heap.size + 1, 0, none⟩ = some (.bool bq) := by rw [hW]; simp [go_sem]
  have k4 : W.cell? ⟨w.heap.size + 1, 1, none⟩ = some (.slice A2 L2 c2) := by rw [hW]; simp [go_sem]
  have k5 : W.cell? ⟨w.heap.size + 1, 2, none⟩ = some (.slice A3 L3 c3) := by rw [hW]; simp [go_sem]
  have r0 : W.cell? ⟨w.heap.size + 2, 0, none⟩ = some (.bool false) := by rw [hW]; simp [go_sem]
  have r1 : W.cell? ⟨w.heap.size + 2, 1, none⟩ = some (.slice none 0 0) := by rw [hW]; simp [go_sem]
  have r2 : W.cell? ⟨w.heap.size + 2, 2, none⟩ = some (.slice none 0 0) := by rw [hW]; simp [go_sem]
  have f0 : W.frozen? ⟨w.heap.size + 2, 0, none⟩ = false := by rw [hW]; simp [go_sem]
  have f1 : W.frozen? ⟨w.heap.size + 2, 1, none⟩ = false := by rw [hW]; simp [go_sem]
  have f2 : W.frozen? ⟨w.heap.size + 2, 2, none⟩ = false := by rw [hW]; simp [go_sem]
  have yW : w.heap.size + 2 < W.heap.size := by rw [hW]; simp
  have xW : w.heap.size + 1 < W.heap.size := by omega
  have vW : w.heap.size < W.heap.size := by omega
  have BW : Below w.heap.size w W := by rw [hW]; exact HB.out
  replace hn := hn.below BW
  replace hd := hd.below BW
  replace hn2 := hn2.below BW
  replace hd2 := hd2.below BW
  replace BW := Aside0.mk BW
  clear hW HB
  go_region_held3 (fun w' => ∀ b o, b < W.heap.size → b ≠ w.heap.size + 2 → w'.cell? ⟨b, o, none⟩ = W.cell? ⟨b, o, none⟩) (repeat first | refine keepS2_set ?_ | exact keepS2 (by (repeat first | (with_reducible exact Below.refl _ _) | (with_reducible exact Ba) | (with_reducible exact Bb) | (with_reducible exact Bc) | (with_reducible refine below_drew ?_) | (with_reducible refine below_alloc ?_ _) | ((with_reducible refine below_set ?_ ?hh); (case hh => omega))); done))
    (first
      | (go_at_call_of 124 (Value.slice A L c); refine afterO (W := W) (by (repeat first | (with_reducible exact Below.refl _ _) | (with_reducible refine below_drew ?_) | (with_reducible refine below_alloc ?_ _) | ((with_reducible refine below_set ?_ ?hh); (case hh => omega))); done) (rtimes_c _ (hn.below (by (repeat first | (with_reducible exact Below.refl _ _) | (with_reducible refine below_drew ?_) | (with_reducible refine below_alloc ?_ _) | ((with_reducible refine below_set ?_ ?hh); (case hh => omega))); done)) (hd2.below (by (repeat first | (with_reducible exact Below.refl _ _) | (with_reducible refine below_drew ?_) | (with_reducible refine below_alloc ?_ _) | ((with_reducible refine below_set ?_ ?hh); (case hh => omega))); done)) t1 t4) ?_; intro A5 L5 c5 wa hx Ba ba za)
      | (go_at_call_of 124 (Value.slice A1 L1 c1); refine afterO (W := W) (by (repeat first | (with_reducible exact Below.refl _ _) | (with_reducible exact Ba) | (with_reducible refine below_drew ?_) | (with_reducible refine below_alloc ?_ _) | ((with_reducible refine below_set ?_ ?hh); (case hh => omega))); done) (rtimes_c _ (hd.below (by (repeat first | (with_reducible exact Below.refl _ _) | (with_reducible exact Ba) | (with_reducible refine below_drew ?_) | (with_reducible refine below_alloc ?_ _) | ((with_reducible refine below_set ?_ ?hh); (case hh => omega))); done)) (hn2.below (by (repeat first | (with_reducible exact Below.refl _ _) | (with_reducible exact Ba) | (with_reducible refine below_drew ?_) | (with_reducible refine below_alloc ?_ _) | ((with_reducible refine below_set ?_ ?hh); (case hh => omega))); done)) t2 t3) ?_; intro A6 L6 c6 wb hy Bb bb zb; replace hx := hx.below (below_trans (by (repeat first | (with_reducible exact Below.refl _ _) | (with_reducible refine below_drew ?_) | (with_reducible refine below_alloc ?_ _) | ((with_reducible refine below_set ?_ ?hh); (case hh => omega))); done) bb))
      | (go_at_call 118; (try rw [hbb.out]); refine afterFO (W := W) (by (repeat first | (with_reducible exact Below.refl _ _) | (with_reducible exact Bb) | (with_reducible refine below_drew ?_) | (with_reducible refine below_alloc ?_ _) | ((with_reducible refine below_set ?_ ?hh); (case hh => omega))); done) (Lw.out _ _ _ _ _ _ _ _ _ (hx.below (by (repeat first | (with_reducible exact Below.refl _ _) | (with_reducible refine below_drew ?_) | (with_reducible refine below_alloc ?_ _) | ((with_reducible refine below_set ?_ ?hh); (case hh => omega))); done)) (hy.below (by (repeat first | (with_reducible exact Below.refl _ _) | (with_reducible refine below_drew ?_) | (with_reducible refine below_alloc ?_ _) | ((with_reducible refine below_set ?_ ?hh); (case hh => omega))); done))) ?_; intro A7 L7 c7 A8 L8 c8 wc hA hB Bc bc zc; have hfc := (bcell Bc).2; have hcc := (bcell Bc).1; have yc := Nat.lt_of_lt_of_le yW zc))
  all_goals
    have H3 := Aside0.mk (below_trans BW.out Bc)
    clear ba Ba bb Bb bc Bc
    go_wp2
    refine bodyPost_ret (v := .agg #[.bool (decide (t.num < 0)), .slice A7 L7 c7, .slice A8 L8 c8]) (by simp [results, Tryd.results83, go_sem, hcc, hfc, r0, r1, r2, f0, f1, f2, yW, yc]) rfl (RetF.of rfl rfl ?_ ?_ ?_)
    · refine Nf.low (lo := W.heap.size) ?_ (by omega)
      repeat first | (with_reducible exact hA) | (with_reducible refine Nf.set ?_ yW _)
    · refine Nf.low (lo := W.heap.size) ?_ (by omega)
      repeat first | (with_reducible exact hB) | (with_reducible refine Nf.set ?_ yW _)
    · repeat first | (with_reducible exact H3.out) | refine below_set ?_ (by omega)

set_option maxHeartbeats 4000000 in
theorem order_c (w : World) (p q : Rat) {A A1 A2 A3 : Option Addr} {L c L1 c1 L2 c2 L3 c3 lo lo1 lo2 lo3 e f : Nat} (hn : Nf 4294967296 lo w (.slice A L c) p.num.natAbs) (hd : Nf 4294967296 lo1 w (.slice A1 L1 c1) p.den)
    (hn2 : Nf 4294967296 lo2 w (.slice A2 L2 c2) q.num.natAbs) (hd2 : Nf 4294967296 lo3 w (.slice A3 L3 c3) q.den) (hp : B2 p e) (hq : B2 q f) (hef : e + f < 100000000) :
    Calls Tryd.prog 84 #[.agg #[.bool (decide (p.num < 0)), .slice A L c, .slice A1 L1 c1], .agg #[.bool (decide (q.num < 0)), .slice A2 L2 c2, .slice A3 L3 c3]] w fun e w' => e = .returned (.int .i64 (ordI (p - q))) ∧ Below w.heap.size w w' := by
  have F := fun (X : World) (hX : Below w.heap.size w X) => minus_c X p q (hn.below hX) (hd.below hX) (hn2.below hX) (hd2.below hX) hp hq hef
  clear hn hd hn2 hd2 hp hq hef
  generalize p - q = t at *
  replace F := Aside0.mk F
  generalize decide (p.num < 0) = bp at *
  generalize decide (q.num < 0) = bq at *
  unfold ordI
  by_cases h0 : t.num.natAbs = 0
  · rw [if_pos h0]
    go_enter Tryd.func84, Tryd.ntmps84
    go_wp2_with fail
    refine afterF (F.out _ (by repeat first | (with_reducible exact Below.refl _ _) | (with_reducible refine below_alloc ?_ _))) ?_; intro A5 L5 c5 A6 L6 c6 w1 hA hB b1 z1 hc1 hf1
    have H1 := Aside0.mk (below_trans (w := w) (by repeat first | (with_reducible exact Below.refl _ _) | (with_reducible refine below_alloc ?_ _)) b1)
    clear b1 z1 hB hc1 hf1
    go_wp2_with fail
    refine afterV (zero_c _ _ (hA.alloc _)) ?_; intro w2 b2 z2 hc2 hf2
    rw [decide_eq_true h0]
    have y2 : w1.heap.size < w2.heap.size := (by simp at z2; omega)
    have H2 := Aside0.mk (below_trans (below_alloc H1.out _) b2)
    clear b2 z2 hA
    go_wp2
    refine bodyPost_ret (v := .int .i64 (0)) (by simp [results, Tryd.results84, go_sem]) rfl ⟨rfl, ?_⟩
    repeat first | (with_reducible exact H2.out) | refine below_set ?_ (by omega) | refine below_alloc ?_ _
  · rw [if_neg h0]
    by_cases hb : t.num < 0
    · rw [if_pos hb]
      go_enter Tryd.func84, Tryd.ntmps84
      go_wp2_with fail
      refine afterF (F.out _ (by repeat first | (with_reducible exact Below.refl _ _) | (with_reducible refine below_alloc ?_ _))) ?_; intro A5 L5 c5 A6 L6 c6 w1 hA hB b1 z1 hc1 hf1
      have H1 := Aside0.mk (below_trans (w := w) (by repeat first | (with_reducible exact Below.refl _ _) | (with_reducible refine below_alloc ?_ _)) b1)
      clear b1 z1 hB hc1 hf1
      go_wp2_with fail
      refine afterV (zero_c _ _ (hA.alloc _)) ?_; intro w2 b2 z2 hc2 hf2
      rw [decide_eq_false h0]
      have y2 : w1.heap.size < w2.heap.size := (by simp at z2; omega)
      have H2 := Aside0.mk (below_trans (below_alloc H1.out _) b2)
      clear b2 z2 hA
      go_wp2
      refine bodyPost_ret (v := .int .i64 (-1)) (by simp [results, Tryd.results84, go_sem]) rfl ⟨rfl, ?_⟩
      repeat first | (with_reducible exact H2.out) | refine below_set ?_ (by omega) | refine below_alloc ?_ _
    · rw [if_neg hb]
      go_enter Tryd.func84, Tryd.ntmps84
      go_wp2_with fail
      refine afterF (F.out _ (by repeat first | (with_reducible exact Below.refl _ _) | (with_reducible refine below_alloc ?_ _))) ?_; intro A5 L5 c5 A6 L6 c6 w1 hA hB b1 z1 hc1 hf1
      have H1 := Aside0.mk (below_trans (w := w) (by repeat first | (with_reducible exact Below.refl _ _) | (with_reducible refine below_alloc ?_ _)) b1)
      clear b1 z1 hB hc1 hf1
      go_wp2_with fail
      refine afterV (zero_c _ _ (hA.alloc _)) ?_; intro w2 b2 z2 hc2 hf2
      rw [decide_eq_false h0]
      have y2 : w1.heap.size < w2.heap.size := (by simp at z2; omega)
      have H2 := Aside0.mk (below_trans (below_alloc H1.out _) b2)
      clear b2 z2 hA
      go_wp2
      refine bodyPost_ret (v := .int .i64 (1)) (by simp [results, Tryd.results84, go_sem]) rfl ⟨rfl, ?_⟩
      repeat first | (with_reducible exact H2.out) | refine below_set ?_ (by omega) | refine below_alloc ?_ _
end Go.Proofs.YtplpmndchdockaaDoor.M
