import Derived.Test.YtplpmndchdockaaDoorRatT
import Derived.Test.YtplpmndchdockaaDoorPQ
/-! The program's fractions: Add, Sub, Mul, Div. -/
namespace Go.Proofs.YtplpmndchdockaaDoor.M
open Go Go.RowKit Go.Proofs.YtplpmndchdockaaDoorV.PrintWords
set_option autoImplicit false
set_option linter.unusedVariables false
set_option linter.unusedSimpArgs false

def addQ (a b : Option Rat) : Option Rat := match a, b with
  | some p, some q => some (p + q)
  | _, _ => none
def subQ (a b : Option Rat) : Option Rat := match a, b with
  | some p, some q => some (p - q)
  | _, _ => none
def mulQ (a b : Option Rat) : Option Rat := match a, b with
  | some p, some q => some (p * q)
  | _, _ => none
def divQ (a b : Option Rat) : Option Rat := match a, b with
  | some p, some q => if q.num.natAbs = 0 then none else some (p / q)
  | _, _ => none
def gAdd (p q : Rat) : Option (Bool × Nat × Nat) := some ((sumN (decide (p.num < 0)) (decide (q.num < 0)) (p.num.natAbs * q.den) (q.num.natAbs * p.den)).1, (sumN (decide (p.num < 0)) (decide (q.num < 0)) (p.num.natAbs * q.den) (q.num.natAbs * p.den)).2, p.den * q.den)
def gSub (p q : Rat) : Option (Bool × Nat × Nat) := some ((sumN (decide (p.num < 0)) (!decide (q.num < 0)) (p.num.natAbs * q.den) (q.num.natAbs * p.den)).1, (sumN (decide (p.num < 0)) (!decide (q.num < 0)) (p.num.natAbs * q.den) (q.num.natAbs * p.den)).2, p.den * q.den)
def gMul (p q : Rat) : Option (Bool × Nat × Nat) := some (decide (p.num < 0) != decide (q.num < 0), p.num.natAbs * q.num.natAbs, p.den * q.den)
def gDiv (p q : Rat) : Option (Bool × Nat × Nat) := if q.num.natAbs = 0 then none else some (decide (p.num < 0) != decide (q.num < 0), p.num.natAbs * q.den, p.den * q.num.natAbs)
theorem withQ_add (a b : Option Rat) : withQ gAdd a b = addQ a b := by
  unfold withQ addQ gAdd
  cases a <;> cases b <;> try rfl
  rename_i p q
  dsimp only [Option.map_some]
  rw [← pq_sum]
theorem withQ_sub (a b : Option Rat) : withQ gSub a b = subQ a b := by
  unfold withQ subQ gSub
  cases a <;> cases b <;> try rfl
  rename_i p q
  dsimp only [Option.map_some]
  rw [pq_sub]
theorem withQ_mul (a b : Option Rat) : withQ gMul a b = mulQ a b := by
  unfold withQ mulQ gMul
  cases a <;> cases b <;> try rfl
  rename_i p q
  dsimp only [Option.map_some]
  rw [← pq_mul]
theorem withQ_div (a b : Option Rat) : withQ gDiv a b = divQ a b := by
  unfold withQ divQ gDiv
  cases a <;> cases b <;> try rfl
  rename_i p q
  dsimp only
  by_cases h : q.num.natAbs = 0
  · rw [if_pos h, if_pos h]; rfl
  · rw [if_neg h, if_neg h, Option.map_some, ← pq_div p q (fun h0 => h ((q0_iff q).mp h0))]
theorem sumN_lt {b c : Bool} {x y k : Nat} (hx : x < 10 ^ k) (hy : y < 10 ^ k) : (sumN b c x y).2 < 10 ^ (k + 1) := by
  have := lt_add10 hx hy
  unfold sumN
  split
  · exact this
  · split <;> (dsimp only; omega)
theorem ops_Sm {p q : Rat} (hp : Fits p) (hq : Fits q) : Sm (p.num.natAbs * q.den) ∧ Sm (q.num.natAbs * p.den) ∧ Sm (p.den * q.den) ∧ Sm (p.num.natAbs * q.num.natAbs) ∧ Sm (p.den * q.num.natAbs) :=
  ⟨Sm.of10 (pr_lt hp.1 hq.2) (by rw [MD_eq]; omega), Sm.of10 (pr_lt hq.1 hp.2) (by rw [MD_eq]; omega), Sm.of10 (pr_lt hp.2 hq.2) (by rw [MD_eq]; omega), Sm.of10 (pr_lt hp.1 hq.1) (by rw [MD_eq]; omega), Sm.of10 (pr_lt hp.2 hq.1) (by rw [MD_eq]; omega)⟩
theorem opS_add : OpS gAdd := by
  intro p q t hp hq ht
  obtain ⟨s1, s2, s3, s4, s5⟩ := ops_Sm hp hq
  unfold gAdd at ht
  injection ht with ht
  subst ht
  exact ⟨den_mul p q, Sm.of10 (sumN_lt (pr_lt hp.1 hq.2) (pr_lt hq.1 hp.2)) (by rw [MD_eq]; omega), s3⟩
theorem opS_sub : OpS gSub := by
  intro p q t hp hq ht
  obtain ⟨s1, s2, s3, s4, s5⟩ := ops_Sm hp hq
  unfold gSub at ht
  injection ht with ht
  subst ht
  exact ⟨den_mul p q, Sm.of10 (sumN_lt (pr_lt hp.1 hq.2) (pr_lt hq.1 hp.2)) (by rw [MD_eq]; omega), s3⟩
theorem opS_mul : OpS gMul := by
  intro p q t hp hq ht
  obtain ⟨s1, s2, s3, s4, s5⟩ := ops_Sm hp hq
  unfold gMul at ht
  injection ht with ht
  subst ht
  exact ⟨den_mul p q, s4, s3⟩
theorem opS_div : OpS gDiv := by
  intro p q t hp hq ht
  obtain ⟨s1, s2, s3, s4, s5⟩ := ops_Sm hp hq
  unfold gDiv at ht
  split at ht
  · cases ht
  · rename_i h
    injection ht with ht
    subst ht
    exact ⟨Nat.mul_ne_zero p.den_nz h, s1, s5⟩
set_option maxHeartbeats 4000000 in
theorem op_add : OpC 76 gAdd := by
  intro w p q A L c A1 L1 c1 A2 L2 c2 A3 L3 c3 lo lo1 lo2 lo3 hn hd hn2 hd2 fp fq
  obtain ⟨s1, s2, s3, s4, s5⟩ := ops_Sm fp fq
  obtain ⟨t1, t2⟩ := fits_Sm fp
  obtain ⟨t3, t4⟩ := fits_Sm fq
  have HB := Aside0.mk (below_alloc (below_alloc (below_alloc (Below.refl w.heap.size w) (Obj.cells #[Value.bool (decide (p.num < 0)), Value.slice A L c, Value.slice A1 L1 c1] 82)) (Obj.cells #[Value.bool (decide (q.num < 0)), Value.slice A2 L2 c2, Value.slice A3 L3 c3] 82)) (Obj.cells #[Value.bool false, Value.slice none 0 0, Value.slice none 0 0] 82))
  unfold gAdd
  clear fp fq
  generalize p.num.natAbs = n at *
  generalize q.num.natAbs = n2 at *
  generalize p.den = d at *
  generalize q.den = d2 at *
  generalize decide (p.num < 0) = bp at *
  generalize decide (q.num < 0) = bq at *
  generalize ht : (sumN bp (bq) (n * d2) (n2 * d)) = t at *
  have F : ∀ W, Below w.heap.size w W → Calls Tryd.prog 77 #[.agg #[.bool bp, .slice A L c, .slice A1 L1 c1], .agg #[.bool (bq), .slice A2 L2 c2, .slice A3 L3 c3]] W (RetP t.1 t.2 (d * d2) W) := by
    intro W hW
    rw [← ht]
    exact sum_c W bp (bq) (hn.below hW) (hd.below hW) (hn2.below hW) (hd2.below hW) t1 t2 t3 t4 s1 s2 s3
  clear ht
  replace F := Aside0.mk F
  go_enter Tryd.func76, Tryd.ntmps76
  go_wp2_with fail
  refine afterP (F.out _ (by repeat first | (with_reducible exact Below.refl _ _) | (with_reducible refine below_set ?_ (by omega)) | (with_reducible refine below_alloc ?_ _))) ?_; intro A5 L5 c5 A6 L6 c6 w1 hx hy b1 z1 hc1 hf1
  have y1 : w.heap.size + 2 < w1.heap.size := (by simp at z1; omega)
  have x1 : w.heap.size < w1.heap.size := by omega
  have v1 : w.heap.size + 1 < w1.heap.size := by omega
  have H1 := Aside0.mk (below_trans (w := w) (by repeat first | (with_reducible exact Below.refl _ _) | (with_reducible refine below_set ?_ (by omega)) | (with_reducible refine below_alloc ?_ _)) b1)
  replace hx := hx.low (lo' := w.heap.size + 3) (by simp)
  replace hy := hy.low (lo' := w.heap.size + 3) (by simp)
  clear b1 z1
  go_wp2
  refine bodyPost_ret (v := .tuple #[.agg #[.bool t.1, .slice A5 L5 c5, .slice A6 L6 c6], .bool true]) (by simp [results, Tryd.results76, go_sem, hc1, hf1, y1, x1, v1]) rfl ⟨t.1, A5, L5, c5, A6, L6, c6, rfl, ?_, fun t' ht' => ?_⟩
  · repeat first | (with_reducible exact H1.out) | refine below_set ?_ (by omega)
  · injection ht' with ht'
    subst ht'
    refine ⟨rfl, ?_, ?_⟩
    · refine Nf.low (lo := w.heap.size + 3) ?_ (Nat.zero_le _)
      repeat first | (with_reducible exact hx) | (with_reducible refine Nf.set ?_ (by dsimp only; omega) _)
    · refine Nf.low (lo := w.heap.size + 3) ?_ (Nat.zero_le _)
      repeat first | (with_reducible exact hy) | (with_reducible refine Nf.set ?_ (by dsimp only; omega) _)
set_option maxHeartbeats 4000000 in
theorem op_sub : OpC 79 gSub := by
  intro w p q A L c A1 L1 c1 A2 L2 c2 A3 L3 c3 lo lo1 lo2 lo3 hn hd hn2 hd2 fp fq
  obtain ⟨s1, s2, s3, s4, s5⟩ := ops_Sm fp fq
  obtain ⟨t1, t2⟩ := fits_Sm fp
  obtain ⟨t3, t4⟩ := fits_Sm fq
  have HB := Aside0.mk (below_alloc (below_alloc (below_alloc (Below.refl w.heap.size w) (Obj.cells #[Value.bool (decide (p.num < 0)), Value.slice A L c, Value.slice A1 L1 c1] 82)) (Obj.cells #[Value.bool (decide (q.num < 0)), Value.slice A2 L2 c2, Value.slice A3 L3 c3] 82)) (Obj.cells #[Value.bool false, Value.slice none 0 0, Value.slice none 0 0] 82))
  unfold gSub
  clear fp fq
  generalize p.num.natAbs = n at *
  generalize q.num.natAbs = n2 at *
  generalize p.den = d at *
  generalize q.den = d2 at *
  generalize decide (p.num < 0) = bp at *
  generalize decide (q.num < 0) = bq at *
  generalize ht : (sumN bp (!bq) (n * d2) (n2 * d)) = t at *
  have F : ∀ W, Below w.heap.size w W → Calls Tryd.prog 77 #[.agg #[.bool bp, .slice A L c, .slice A1 L1 c1], .agg #[.bool (!bq), .slice A2 L2 c2, .slice A3 L3 c3]] W (RetP t.1 t.2 (d * d2) W) := by
    intro W hW
    rw [← ht]
    exact sum_c W bp (!bq) (hn.below hW) (hd.below hW) (hn2.below hW) (hd2.below hW) t1 t2 t3 t4 s1 s2 s3
  clear ht
  replace F := Aside0.mk F
  go_enter Tryd.func79, Tryd.ntmps79
  go_wp2_with fail
  refine afterP (F.out _ (by repeat first | (with_reducible exact Below.refl _ _) | (with_reducible refine below_set ?_ (by omega)) | (with_reducible refine below_alloc ?_ _))) ?_; intro A5 L5 c5 A6 L6 c6 w1 hx hy b1 z1 hc1 hf1
  have y1 : w.heap.size + 2 < w1.heap.size := (by simp at z1; omega)
  have x1 : w.heap.size < w1.heap.size := by omega
  have v1 : w.heap.size + 1 < w1.heap.size := by omega
  have H1 := Aside0.mk (below_trans (w := w) (by repeat first | (with_reducible exact Below.refl _ _) | (with_reducible refine below_set ?_ (by omega)) | (with_reducible refine below_alloc ?_ _)) b1)
  replace hx := hx.low (lo' := w.heap.size + 3) (by simp)
  replace hy := hy.low (lo' := w.heap.size + 3) (by simp)
  clear b1 z1
  go_wp2
  refine bodyPost_ret (v := .tuple #[.agg #[.bool t.1, .slice A5 L5 c5, .slice A6 L6 c6], .bool true]) (by simp [results, Tryd.results79, go_sem, hc1, hf1, y1, x1, v1]) rfl ⟨t.1, A5, L5, c5, A6, L6, c6, rfl, ?_, fun t' ht' => ?_⟩
  · repeat first | (with_reducible exact H1.out) | refine below_set ?_ (by omega)
  · injection ht' with ht'
    subst ht'
    refine ⟨rfl, ?_, ?_⟩
    · refine Nf.low (lo := w.heap.size + 3) ?_ (Nat.zero_le _)
      repeat first | (with_reducible exact hx) | (with_reducible refine Nf.set ?_ (by dsimp only; omega) _)
    · refine Nf.low (lo := w.heap.size + 3) ?_ (Nat.zero_le _)
      repeat first | (with_reducible exact hy) | (with_reducible refine Nf.set ?_ (by dsimp only; omega) _)
set_option maxHeartbeats 4000000 in
theorem op_mul : OpC 74 gMul := by
  intro w p q A L c A1 L1 c1 A2 L2 c2 A3 L3 c3 lo lo1 lo2 lo3 hn hd hn2 hd2 fp fq
  obtain ⟨s1, s2, s3, s4, s5⟩ := ops_Sm fp fq
  obtain ⟨t1, t2⟩ := fits_Sm fp
  obtain ⟨t3, t4⟩ := fits_Sm fq
  have HB := Aside0.mk (below_alloc (below_alloc (below_alloc (Below.refl w.heap.size w) (Obj.cells #[Value.bool (decide (p.num < 0)), Value.slice A L c, Value.slice A1 L1 c1] 82)) (Obj.cells #[Value.bool (decide (q.num < 0)), Value.slice A2 L2 c2, Value.slice A3 L3 c3] 82)) (Obj.cells #[Value.bool false, Value.slice none 0 0, Value.slice none 0 0] 82))
  unfold gMul
  clear fp fq
  generalize p.num.natAbs = n at *
  generalize q.num.natAbs = n2 at *
  generalize p.den = d at *
  generalize q.den = d2 at *
  generalize decide (p.num < 0) = bp at *
  generalize decide (q.num < 0) = bq at *
  have hbb : (!bp == bq) = (bp != bq) := bne_beq bp bq
  replace hbb := Aside0.mk hbb
  go_enter Tryd.func74, Tryd.ntmps74
  go_upto_region 1 with fail
  refine region_letter ?_; intro W hW
  have k0 : W.cell? ⟨w.heap.size, 0, none⟩ = some (.bool bp) := by rw [hW]; simp [go_sem]
  have k1 : W.cell? ⟨w.heap.size, 1, none⟩ = some (.slice A L c) := by rw [hW]; simp [go_sem]
  have k2 : W.cell? ⟨w.heap.size, 2, none⟩ = some (.slice A1 L1 c1) := by rw [hW]; simp [go_sem]
  have k3 : W.cell? ⟨w.heap.size + 1, 0, none⟩ = some (.bool bq) := by rw [hW]; simp [go_sem]
  have k4 : W.cell? ⟨w.heap.size + 1, 1, none⟩ = some (.slice A2 L2 c2) := by rw [hW]; simp [go_sem]
  have k5 : W.cell? ⟨w.heap.size + 1, 2, none⟩ = some (.slice A3 L3 c3) := by rw [hW]; simp [go_sem]
  have r0 : W.cell? ⟨w.heap.size + 2, 0, none⟩ = some (.bool false) := by rw [hW]; simp [go_sem]
  have r1 : W.cell? ⟨w.heap.size + 2, 1, none⟩ = some (.slice none 0 0) := by rw [hW]; simp [go_sem]
  have r2 : W.cell? ⟨w.heap.size + 2, 2, none⟩ = some (.slice none 0 0) := by rw [hW]; simp [go_sem]
  have f0 : W.frozen? ⟨w.heap.size + 2, 0, none⟩ = false := by rw [hW]; simp [go_sem]
  have f1 : W.frozen? ⟨w.heap.size + 2, 1, none⟩ = false := by rw [hW]; simp [go_sem]
  have f2 : W.frozen? ⟨w.heap.size + 2, 2, none⟩ = false := by rw [hW]; simp [go_sem]
  have yW : w.heap.size + 2 < W.heap.size := by rw [hW]; simp
  have xW : w.heap.size + 1 < W.heap.size := by omega
  have vW : w.heap.size < W.heap.size := by omega
  have BW : Below w.heap.size w W := by rw [hW]; exact HB.out
  replace hn := hn.below BW
  replace hd := hd.below BW
  replace hn2 := hn2.below BW
  replace hd2 := hd2.below BW
  replace BW := Aside0.mk BW
  clear hW HB
  go_region_held3 (fun w' => ∀ b o, b < W.heap.size → b ≠ w.heap.size + 2 → w'.cell? ⟨b, o, none⟩ = W.cell? ⟨b, o, none⟩) (repeat first | refine keepS2_set ?_ | exact keepS2 (by (repeat first | (with_reducible exact Below.refl _ _) | (with_reducible exact Ba) | (with_reducible exact Bb) | (with_reducible refine below_drew ?_) | (with_reducible refine below_alloc ?_ _) | ((with_reducible refine below_set ?_ ?hh); (case hh => omega))); done))
    (first
      | (go_at_call_of 61 (Value.slice A L c); refine afterO (W := W) (by (repeat first | (with_reducible exact Below.refl _ _) | (with_reducible refine below_drew ?_) | (with_reducible refine below_alloc ?_ _) | ((with_reducible refine below_set ?_ ?hh); (case hh => omega))); done) (mul_c _ (hn.below (by (repeat first | (with_reducible exact Below.refl _ _) | (with_reducible refine below_drew ?_) | (with_reducible refine below_alloc ?_ _) | ((with_reducible refine below_set ?_ ?hh); (case hh => omega))); done)) (hn2.below (by (repeat first | (with_reducible exact Below.refl _ _) | (with_reducible refine below_drew ?_) | (with_reducible refine below_alloc ?_ _) | ((with_reducible refine below_set ?_ ?hh); (case hh => omega))); done)) t1 t3) ?_; intro A5 L5 c5 wa hx Ba ba za)
      | (go_at_call_of 61 (Value.slice A1 L1 c1); refine afterO (W := W) (by (repeat first | (with_reducible exact Below.refl _ _) | (with_reducible exact Ba) | (with_reducible refine below_drew ?_) | (with_reducible refine below_alloc ?_ _) | ((with_reducible refine below_set ?_ ?hh); (case hh => omega))); done) (mul_c _ (hd.below (by (repeat first | (with_reducible exact Below.refl _ _) | (with_reducible exact Ba) | (with_reducible refine below_drew ?_) | (with_reducible refine below_alloc ?_ _) | ((with_reducible refine below_set ?_ ?hh); (case hh => omega))); done)) (hd2.below (by (repeat first | (with_reducible exact Below.refl _ _) | (with_reducible exact Ba) | (with_reducible refine below_drew ?_) | (with_reducible refine below_alloc ?_ _) | ((with_reducible refine below_set ?_ ?hh); (case hh => omega))); done)) t2 t4) ?_; intro A6 L6 c6 wb hy Bb bb zb; replace hx := hx.below (below_trans (by (repeat first | (with_reducible exact Below.refl _ _) | (with_reducible refine below_drew ?_) | (with_reducible refine below_alloc ?_ _) | ((with_reducible refine below_set ?_ ?hh); (case hh => omega))); done) bb); have hfb := (bcell Bb).2; have hcb := (bcell Bb).1; have yb := Nat.lt_of_lt_of_le yW zb))
  all_goals
    have H3 := Aside0.mk (below_trans BW.out Bb)
    replace hx := hx.low (lo' := W.heap.size) (by simp)
    replace hy := hy.low (lo' := W.heap.size) (by first | exact za | simp)
    clear bb Bb
    go_wp2
    (try rw [hbb.out])
    refine bodyPost_ret (v := .tuple #[.agg #[.bool (bp != bq), .slice A5 L5 c5, .slice A6 L6 c6], .bool true]) (by simp [results, Tryd.results74, go_sem, hcb, hfb, r0, r1, r2, f0, f1, f2, yW, yb]) rfl ⟨bp != bq, A5, L5, c5, A6, L6, c6, rfl, ?_, fun t' ht' => ?_⟩
    · repeat first | (with_reducible exact H3.out) | refine below_set ?_ (by omega)
    · injection ht' with ht'
      subst ht'
      refine ⟨rfl, ?_, ?_⟩
      · refine Nf.low (lo := W.heap.size) ?_ (Nat.zero_le _)
        repeat first | (with_reducible exact hx) | (with_reducible refine Nf.set ?_ yW _)
      · refine Nf.low (lo := W.heap.size) ?_ (Nat.zero_le _)
        repeat first | (with_reducible exact hy) | (with_reducible refine Nf.set ?_ yW _)
set_option maxHeartbeats 4000000 in
theorem op_div : OpC 80 gDiv := by
  intro w p q A L c A1 L1 c1 A2 L2 c2 A3 L3 c3 lo lo1 lo2 lo3 hn hd hn2 hd2 fp fq
  obtain ⟨s1, s2, s3, s4, s5⟩ := ops_Sm fp fq
  obtain ⟨t1, t2⟩ := fits_Sm fp
  obtain ⟨t3, t4⟩ := fits_Sm fq
  have HB := Aside0.mk (below_alloc (below_alloc (below_alloc (Below.refl w.heap.size w) (Obj.cells #[Value.bool (decide (p.num < 0)), Value.slice A L c, Value.slice A1 L1 c1] 82)) (Obj.cells #[Value.bool (decide (q.num < 0)), Value.slice A2 L2 c2, Value.slice A3 L3 c3] 82)) (Obj.cells #[Value.bool false, Value.slice none 0 0, Value.slice none 0 0] 82))
  unfold gDiv
  have hz := hn2.zero_iff (by decide)
  clear fp fq
  generalize p.num.natAbs = n at *
  generalize q.num.natAbs = n2 at *
  generalize p.den = d at *
  generalize q.den = d2 at *
  generalize decide (p.num < 0) = bp at *
  generalize decide (q.num < 0) = bq at *
  have hbb : (!bp == bq) = (bp != bq) := bne_beq bp bq
  replace hbb := Aside0.mk hbb
  by_cases h0 : n2 = 0
  · have hL2 : L2 = 0 := by omega
    subst hL2
    rw [if_pos h0]
    clear hz
    go_enter Tryd.func80, Tryd.ntmps80
    go_upto_region 1 with fail
    refine region_letter ?_; intro W hW
    have k0 : W.cell? ⟨w.heap.size, 0, none⟩ = some (.bool bp) := by rw [hW]; simp [go_sem]
    have k1 : W.cell? ⟨w.heap.size, 1, none⟩ = some (.slice A L c) := by rw [hW]; simp [go_sem]
    have k2 : W.cell? ⟨w.heap.size, 2, none⟩ = some (.slice A1 L1 c1) := by rw [hW]; simp [go_sem]
    have k3 : W.cell? ⟨w.heap.size + 1, 0, none⟩ = some (.bool bq) := by rw [hW]; simp [go_sem]
    have k4 : W.cell? ⟨w.heap.size + 1, 1, none⟩ = some (.slice A2 0 c2) := by rw [hW]; simp [go_sem]
    have k5 : W.cell? ⟨w.heap.size + 1, 2, none⟩ = some (.slice A3 L3 c3) := by rw [hW]; simp [go_sem]
    have r0 : W.cell? ⟨w.heap.size + 2, 0, none⟩ = some (.bool false) := by rw [hW]; simp [go_sem]
    have r1 : W.cell? ⟨w.heap.size + 2, 1, none⟩ = some (.slice none 0 0) := by rw [hW]; simp [go_sem]
    have r2 : W.cell? ⟨w.heap.size + 2, 2, none⟩ = some (.slice none 0 0) := by rw [hW]; simp [go_sem]
    have f0 : W.frozen? ⟨w.heap.size + 2, 0, none⟩ = false := by rw [hW]; simp [go_sem]
    have f1 : W.frozen? ⟨w.heap.size + 2, 1, none⟩ = false := by rw [hW]; simp [go_sem]
    have f2 : W.frozen? ⟨w.heap.size + 2, 2, none⟩ = false := by rw [hW]; simp [go_sem]
    have yW : w.heap.size + 2 < W.heap.size := by rw [hW]; simp
    have xW : w.heap.size + 1 < W.heap.size := by omega
    have vW : w.heap.size < W.heap.size := by omega
    have BW : Below w.heap.size w W := by rw [hW]; exact HB.out
    replace hn := hn.below BW
    replace hd := hd.below BW
    replace hn2 := hn2.below BW
    replace hd2 := hd2.below BW
    replace BW := Aside0.mk BW
    clear hW HB
    go_region_held3 (fun w' => ∀ b o, b < W.heap.size → b ≠ w.heap.size + 2 → w'.cell? ⟨b, o, none⟩ = W.cell? ⟨b, o, none⟩) (repeat first | refine keepS2_set ?_ | exact keepS2 (by (repeat first | (with_reducible exact Below.refl _ _) | (with_reducible exact Ba) | (with_reducible exact Bb) | (with_reducible refine below_drew ?_) | (with_reducible refine below_alloc ?_ _) | ((with_reducible refine below_set ?_ ?hh); (case hh => omega))); done))
      (first
        | (go_at_call_of 61 (Value.slice A L c); refine afterO (W := W) (by (repeat first | (with_reducible exact Below.refl _ _) | (with_reducible refine below_drew ?_) | (with_reducible refine below_alloc ?_ _) | ((with_reducible refine below_set ?_ ?hh); (case hh => omega))); done) (mul_c _ (hn.below (by (repeat first | (with_reducible exact Below.refl _ _) | (with_reducible refine below_drew ?_) | (with_reducible refine below_alloc ?_ _) | ((with_reducible refine below_set ?_ ?hh); (case hh => omega))); done)) (hd2.below (by (repeat first | (with_reducible exact Below.refl _ _) | (with_reducible refine below_drew ?_) | (with_reducible refine below_alloc ?_ _) | ((with_reducible refine below_set ?_ ?hh); (case hh => omega))); done)) t1 t4) ?_; intro A5 L5 c5 wa hx Ba ba za)
        | (go_at_call_of 61 (Value.slice A1 L1 c1); refine afterO (W := W) (by (repeat first | (with_reducible exact Below.refl _ _) | (with_reducible exact Ba) | (with_reducible refine below_drew ?_) | (with_reducible refine below_alloc ?_ _) | ((with_reducible refine below_set ?_ ?hh); (case hh => omega))); done) (mul_c _ (hd.below (by (repeat first | (with_reducible exact Below.refl _ _) | (with_reducible exact Ba) | (with_reducible refine below_drew ?_) | (with_reducible refine below_alloc ?_ _) | ((with_reducible refine below_set ?_ ?hh); (case hh => omega))); done)) (hn2.below (by (repeat first | (with_reducible exact Below.refl _ _) | (with_reducible exact Ba) | (with_reducible refine below_drew ?_) | (with_reducible refine below_alloc ?_ _) | ((with_reducible refine below_set ?_ ?hh); (case hh => omega))); done)) t2 t3) ?_; intro A6 L6 c6 wb hy Bb bb zb; replace hx := hx.below (below_trans (by (repeat first | (with_reducible exact Below.refl _ _) | (with_reducible refine below_drew ?_) | (with_reducible refine below_alloc ?_ _) | ((with_reducible refine below_set ?_ ?hh); (case hh => omega))); done) bb); have hfb := (bcell Bb).2; have hcb := (bcell Bb).1; have yb := Nat.lt_of_lt_of_le yW zb))
    all_goals
      have H3 := Aside0.mk (below_trans BW.out Bb)
      replace hx := hx.low (lo' := W.heap.size) (by simp)
      replace hy := hy.low (lo' := W.heap.size) (by first | exact za | simp)
      clear bb Bb
      go_wp2
      (try rw [hbb.out])
      refine bodyPost_ret (v := .tuple #[.agg #[.bool (bp != bq), .slice A5 L5 c5, .slice A6 L6 c6], .bool false]) (by simp [results, Tryd.results80, go_sem, hcb, hfb, r0, r1, r2, f0, f1, f2, yW, yb]) rfl ⟨bp != bq, A5, L5, c5, A6, L6, c6, rfl, ?_, fun t' ht' => ?_⟩
      · repeat first | (with_reducible exact H3.out) | refine below_set ?_ (by omega)
      · cases ht'
  · have hL2 : 0 < L2 := by omega
    rw [if_neg h0]
    clear hz
    go_enter Tryd.func80, Tryd.ntmps80
    go_upto_region 1 with fail
    refine region_letter ?_; intro W hW
    have k0 : W.cell? ⟨w.heap.size, 0, none⟩ = some (.bool bp) := by rw [hW]; simp [go_sem]
    have k1 : W.cell? ⟨w.heap.size, 1, none⟩ = some (.slice A L c) := by rw [hW]; simp [go_sem]
    have k2 : W.cell? ⟨w.heap.size, 2, none⟩ = some (.slice A1 L1 c1) := by rw [hW]; simp [go_sem]
    have k3 : W.cell? ⟨w.heap.size + 1, 0, none⟩ = some (.bool bq) := by rw [hW]; simp [go_sem]
    have k4 : W.cell? ⟨w.heap.size + 1, 1, none⟩ = some (.slice A2 L2 c2) := by rw [hW]; simp [go_sem]
    have k5 : W.cell? ⟨w.heap.size + 1, 2, none⟩ = some (.slice A3 L3 c3) := by rw [hW]; simp [go_sem]
    have r0 : W.cell? ⟨w.heap.size + 2, 0, none⟩ = some (.bool false) := by rw [hW]; simp [go_sem]
    have r1 : W.cell? ⟨w.heap.size + 2, 1, none⟩ = some (.slice none 0 0) := by rw [hW]; simp [go_sem]
    have r2 : W.cell? ⟨w.heap.size + 2, 2, none⟩ = some (.slice none 0 0) := by rw [hW]; simp [go_sem]
    have f0 : W.frozen? ⟨w.heap.size + 2, 0, none⟩ = false := by rw [hW]; simp [go_sem]
    have f1 : W.frozen? ⟨w.heap.size + 2, 1, none⟩ = false := by rw [hW]; simp [go_sem]
    have f2 : W.frozen? ⟨w.heap.size + 2, 2, none⟩ = false := by rw [hW]; simp [go_sem]
    have yW : w.heap.size + 2 < W.heap.size := by rw [hW]; simp
    have xW : w.heap.size + 1 < W.heap.size := by omega
    have vW : w.heap.size < W.heap.size := by omega
    have BW : Below w.heap.size w W := by rw [hW]; exact HB.out
    replace hn := hn.below BW
    replace hd := hd.below BW
    replace hn2 := hn2.below BW
    replace hd2 := hd2.below BW
    replace BW := Aside0.mk BW
    clear hW HB
    go_region_held3 (fun w' => ∀ b o, b < W.heap.size → b ≠ w.heap.size + 2 → w'.cell? ⟨b, o, none⟩ = W.cell? ⟨b, o, none⟩) (repeat first | refine keepS2_set ?_ | exact keepS2 (by (repeat first | (with_reducible exact Below.refl _ _) | (with_reducible exact Ba) | (with_reducible exact Bb) | (with_reducible refine below_drew ?_) | (with_reducible refine below_alloc ?_ _) | ((with_reducible refine below_set ?_ ?hh); (case hh => omega))); done))
      (first
        | (go_at_call_of 61 (Value.slice A L c); refine afterO (W := W) (by (repeat first | (with_reducible exact Below.refl _ _) | (with_reducible refine below_drew ?_) | (with_reducible refine below_alloc ?_ _) | ((with_reducible refine below_set ?_ ?hh); (case hh => omega))); done) (mul_c _ (hn.below (by (repeat first | (with_reducible exact Below.refl _ _) | (with_reducible refine below_drew ?_) | (with_reducible refine below_alloc ?_ _) | ((with_reducible refine below_set ?_ ?hh); (case hh => omega))); done)) (hd2.below (by (repeat first | (with_reducible exact Below.refl _ _) | (with_reducible refine below_drew ?_) | (with_reducible refine below_alloc ?_ _) | ((with_reducible refine below_set ?_ ?hh); (case hh => omega))); done)) t1 t4) ?_; intro A5 L5 c5 wa hx Ba ba za)
        | (go_at_call_of 61 (Value.slice A1 L1 c1); refine afterO (W := W) (by (repeat first | (with_reducible exact Below.refl _ _) | (with_reducible exact Ba) | (with_reducible refine below_drew ?_) | (with_reducible refine below_alloc ?_ _) | ((with_reducible refine below_set ?_ ?hh); (case hh => omega))); done) (mul_c _ (hd.below (by (repeat first | (with_reducible exact Below.refl _ _) | (with_reducible exact Ba) | (with_reducible refine below_drew ?_) | (with_reducible refine below_alloc ?_ _) | ((with_reducible refine below_set ?_ ?hh); (case hh => omega))); done)) (hn2.below (by (repeat first | (with_reducible exact Below.refl _ _) | (with_reducible exact Ba) | (with_reducible refine below_drew ?_) | (with_reducible refine below_alloc ?_ _) | ((with_reducible refine below_set ?_ ?hh); (case hh => omega))); done)) t2 t3) ?_; intro A6 L6 c6 wb hy Bb bb zb; replace hx := hx.below (below_trans (by (repeat first | (with_reducible exact Below.refl _ _) | (with_reducible refine below_drew ?_) | (with_reducible refine below_alloc ?_ _) | ((with_reducible refine below_set ?_ ?hh); (case hh => omega))); done) bb); have hfb := (bcell Bb).2; have hcb := (bcell Bb).1; have yb := Nat.lt_of_lt_of_le yW zb))
    all_goals
      have H3 := Aside0.mk (below_trans BW.out Bb)
      replace hx := hx.low (lo' := W.heap.size) (by simp)
      replace hy := hy.low (lo' := W.heap.size) (by first | exact za | simp)
      clear bb Bb
      go_wp2
      (try rw [hbb.out])
      refine bodyPost_ret (v := .tuple #[.agg #[.bool (bp != bq), .slice A5 L5 c5, .slice A6 L6 c6], .bool true]) (by simp [results, Tryd.results80, go_sem, hcb, hfb, r0, r1, r2, f0, f1, f2, yW, yb]) rfl ⟨bp != bq, A5, L5, c5, A6, L6, c6, rfl, ?_, fun t' ht' => ?_⟩
      · repeat first | (with_reducible exact H3.out) | refine below_set ?_ (by omega)
      · injection ht' with ht'
        subst ht'
        refine ⟨rfl, ?_, ?_⟩
        · refine Nf.low (lo := W.heap.size) ?_ (Nat.zero_le _)
          repeat first | (with_reducible exact hx) | (with_reducible refine Nf.set ?_ yW _)
        · refine Nf.low (lo := W.heap.size) ?_ (Nat.zero_le _)
          repeat first | (with_reducible exact hy) | (with_reducible refine Nf.set ?_ yW _)
theorem cl_add (args : Array Value) (W : World) : (callFunc 76 args).run Tryd.prog W = .ok (.enter 76 args) W := by kernel_rfl
set_option maxHeartbeats 1000000 in
theorem padd_c (w : World) (N D N2 D2 : ByteArray) (hN : N.size ≤ 140737488355328) (hN2 : N2.size ≤ 140737488355328) :
    Calls Tryd.prog 27 #[.agg #[.string N, .string D], .agg #[.string N2, .string D2]] w fun e w' => e = .returned (wV (addQ (rdQ N D) (rdQ N2 D2))) ∧ Below w.heap.size w w' := by
  obtain ⟨o, ho, F⟩ : ∃ o, o = addQ (rdQ N D) (rdQ N2 D2) ∧ ∀ W, Calls Tryd.prog 73 #[.agg #[.string N, .string D], .agg #[.string N2, .string D2], .func (.func 76) #[] #[]] W fun e w' => e = .returned (wV o) ∧ Below W.heap.size W w' :=
    ⟨_, rfl, fun W => by rw [← withQ_add]; exact with_c W N D N2 D2 76 gAdd cl_add op_add opS_add hN hN2⟩
  rw [← ho]
  clear ho
  replace F := Aside0.mk F
  go_enter Tryd.func27, Tryd.ntmps27
  go_wp2_with fail
  refine afterW (F.out _) ?_; intro w1 b1 z1 hc1 hf1
  have y1 : w.heap.size + 2 < w1.heap.size := (by simp at z1; omega)
  have H1 := Aside0.mk (below_trans (w := w) (by repeat first | (with_reducible exact Below.refl _ _) | (with_reducible refine below_set ?_ (by omega)) | (with_reducible refine below_alloc ?_ _)) b1)
  clear b1 z1
  go_wp2
  refine bodyPost_ret (v := wV o) (by simp [results, Tryd.results27, go_sem, wV, hc1, hf1, y1]) rfl ⟨rfl, ?_⟩
  repeat first | (with_reducible exact H1.out) | refine below_set ?_ (by omega)
theorem cl_sub (args : Array Value) (W : World) : (callFunc 79 args).run Tryd.prog W = .ok (.enter 79 args) W := by kernel_rfl
set_option maxHeartbeats 1000000 in
theorem psub_c (w : World) (N D N2 D2 : ByteArray) (hN : N.size ≤ 140737488355328) (hN2 : N2.size ≤ 140737488355328) :
    Calls Tryd.prog 29 #[.agg #[.string N, .string D], .agg #[.string N2, .string D2]] w fun e w' => e = .returned (wV (subQ (rdQ N D) (rdQ N2 D2))) ∧ Below w.heap.size w w' := by
  obtain ⟨o, ho, F⟩ : ∃ o, o = subQ (rdQ N D) (rdQ N2 D2) ∧ ∀ W, Calls Tryd.prog 73 #[.agg #[.string N, .string D], .agg #[.string N2, .string D2], .func (.func 79) #[] #[]] W fun e w' => e = .returned (wV o) ∧ Below W.heap.size W w' :=
    ⟨_, rfl, fun W => by rw [← withQ_sub]; exact with_c W N D N2 D2 79 gSub cl_sub op_sub opS_sub hN hN2⟩
  rw [← ho]
  clear ho
  replace F := Aside0.mk F
  go_enter Tryd.func29, Tryd.ntmps29
  go_wp2_with fail
  refine afterW (F.out _) ?_; intro w1 b1 z1 hc1 hf1
  have y1 : w.heap.size + 2 < w1.heap.size := (by simp at z1; omega)
  have H1 := Aside0.mk (below_trans (w := w) (by repeat first | (with_reducible exact Below.refl _ _) | (with_reducible refine below_set ?_ (by omega)) | (with_reducible refine below_alloc ?_ _)) b1)
  clear b1 z1
  go_wp2
  refine bodyPost_ret (v := wV o) (by simp [results, Tryd.results29, go_sem, wV, hc1, hf1, y1]) rfl ⟨rfl, ?_⟩
  repeat first | (with_reducible exact H1.out) | refine below_set ?_ (by omega)
theorem cl_mul (args : Array Value) (W : World) : (callFunc 74 args).run Tryd.prog W = .ok (.enter 74 args) W := by kernel_rfl
set_option maxHeartbeats 1000000 in
theorem pmul_c (w : World) (N D N2 D2 : ByteArray) (hN : N.size ≤ 140737488355328) (hN2 : N2.size ≤ 140737488355328) :
    Calls Tryd.prog 25 #[.agg #[.string N, .string D], .agg #[.string N2, .string D2]] w fun e w' => e = .returned (wV (mulQ (rdQ N D) (rdQ N2 D2))) ∧ Below w.heap.size w w' := by
  obtain ⟨o, ho, F⟩ : ∃ o, o = mulQ (rdQ N D) (rdQ N2 D2) ∧ ∀ W, Calls Tryd.prog 73 #[.agg #[.string N, .string D], .agg #[.string N2, .string D2], .func (.func 74) #[] #[]] W fun e w' => e = .returned (wV o) ∧ Below W.heap.size W w' :=
    ⟨_, rfl, fun W => by rw [← withQ_mul]; exact with_c W N D N2 D2 74 gMul cl_mul op_mul opS_mul hN hN2⟩
  rw [← ho]
  clear ho
  replace F := Aside0.mk F
  go_enter Tryd.func25, Tryd.ntmps25
  go_wp2_with fail
  refine afterW (F.out _) ?_; intro w1 b1 z1 hc1 hf1
  have y1 : w.heap.size + 2 < w1.heap.size := (by simp at z1; omega)
  have H1 := Aside0.mk (below_trans (w := w) (by repeat first | (with_reducible exact Below.refl _ _) | (with_reducible refine below_set ?_ (by omega)) | (with_reducible refine below_alloc ?_ _)) b1)
  clear b1 z1
  go_wp2
  refine bodyPost_ret (v := wV o) (by simp [results, Tryd.results25, go_sem, wV, hc1, hf1, y1]) rfl ⟨rfl, ?_⟩
  repeat first | (with_reducible exact H1.out) | refine below_set ?_ (by omega)
theorem cl_div (args : Array Value) (W : World) : (callFunc 80 args).run Tryd.prog W = .ok (.enter 80 args) W := by kernel_rfl
set_option maxHeartbeats 1000000 in
theorem pdiv_c (w : World) (N D N2 D2 : ByteArray) (hN : N.size ≤ 140737488355328) (hN2 : N2.size ≤ 140737488355328) :
    Calls Tryd.prog 30 #[.agg #[.string N, .string D], .agg #[.string N2, .string D2]] w fun e w' => e = .returned (wV (divQ (rdQ N D) (rdQ N2 D2))) ∧ Below w.heap.size w w' := by
  obtain ⟨o, ho, F⟩ : ∃ o, o = divQ (rdQ N D) (rdQ N2 D2) ∧ ∀ W, Calls Tryd.prog 73 #[.agg #[.string N, .string D], .agg #[.string N2, .string D2], .func (.func 80) #[] #[]] W fun e w' => e = .returned (wV o) ∧ Below W.heap.size W w' :=
    ⟨_, rfl, fun W => by rw [← withQ_div]; exact with_c W N D N2 D2 80 gDiv cl_div op_div opS_div hN hN2⟩
  rw [← ho]
  clear ho
  replace F := Aside0.mk F
  go_enter Tryd.func30, Tryd.ntmps30
  go_wp2_with fail
  refine afterW (F.out _) ?_; intro w1 b1 z1 hc1 hf1
  have y1 : w.heap.size + 2 < w1.heap.size := (by simp at z1; omega)
  have H1 := Aside0.mk (below_trans (w := w) (by repeat first | (with_reducible exact Below.refl _ _) | (with_reducible refine below_set ?_ (by omega)) | (with_reducible refine below_alloc ?_ _)) b1)
  clear b1 z1
  go_wp2
  refine bodyPost_ret (v := wV o) (by simp [results, Tryd.results30, go_sem, wV, hc1, hf1, y1]) rfl ⟨rfl, ?_⟩
  repeat first | (with_reducible exact H1.out) | refine below_set ?_ (by omega)
end Go.Proofs.YtplpmndchdockaaDoor.M
