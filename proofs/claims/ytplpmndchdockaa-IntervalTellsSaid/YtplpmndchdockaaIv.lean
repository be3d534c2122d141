import Derived.Test.YtplpmndchdockaaBits
import Derived.Test.YtplpmndchdockaaEvs
import Derived.Test.YtplpmndchdockaaDiv
import Derived.Test.YtplpmndchdockaaPr3
import Derived.Test.YtplpmndchdockaaPr5
import Derived.Test.YtplpmndchdockaaPr2
import Derived.Test.YtplpmndchdockaaPr4
namespace Go.Proofs.Ytplpmndchdockaa.M
open Go Go.RowKit Go.Proofs.Ytplpmndchdockaa.Pr Go.Proofs.YtplpmndchdockaaV.PrintWords Go.Proofs.YtplpmndchdockaaV.PrintLast Go.Proofs.YtplpmndchdockaaV.PrintMore
set_option autoImplicit false

/-! ### Valid intervals -/
def VB (a b : Int) : Bool := decide (-2305843009213693952 ≤ a) && (decide (a ≤ b) && decide (b ≤ 2305843009213693952))
theorem VB_iff {a b : Int} : VB a b = true ↔ -2305843009213693952 ≤ a ∧ a ≤ b ∧ b ≤ 2305843009213693952 := by unfold VB; simp
def mk (lo hi : Int) : Int × Int × Bool := if VB lo hi = true then (lo, hi, true) else (0, 0, false)
theorem valid_f (a b : Int) : interval_Valid.f a b = some (VB a b) := by
  unfold interval_Valid.f VB
  by_cases h : -2305843009213693952 ≤ a
  · rw [if_pos h]
    by_cases g : a ≤ b
    · rw [if_pos g]; simp [h, g]
    · rw [if_neg g]; simp [g]
  · rw [if_neg h]; simp [h]
theorem made_f (a b : Int) : interval_made.f a b = some (mk a b) := by
  unfold interval_made.f mk
  rw [valid_f]; simp only [Option.bind_some]
  split <;> rfl
theorem both_f (a b c d : Int) : interval_both.f a b c d = some (VB a b && VB c d) := by
  unfold interval_both.f
  rw [valid_f]; simp only [Option.bind_some]
  cases h : VB a b
  · simp
  · simp [valid_f]
theorem add_f (a b c d : Int) : interval_Add.f a b c d = some (if (VB a b && VB c d) = true then mk (a + c) (b + d) else (0, 0, false)) := by
  unfold interval_Add.f
  rw [both_f]; simp only [Option.bind_some]
  by_cases h : (VB a b && VB c d) = true
  · rw [if_pos h, if_pos h, made_f]; simp only [Option.bind_some]
    rw [Bool.and_eq_true, VB_iff, VB_iff] at h
    rw [w64_eq (by omega) (by omega), w64_eq (by omega) (by omega)]
  · rw [if_neg h, if_neg h]
theorem sub_f (a b c d : Int) : interval_Sub.f a b c d = some (if (VB a b && VB c d) = true then mk (a - d) (b - c) else (0, 0, false)) := by
  unfold interval_Sub.f
  rw [both_f]; simp only [Option.bind_some]
  by_cases h : (VB a b && VB c d) = true
  · rw [if_pos h, if_pos h, made_f]; simp only [Option.bind_some]
    rw [Bool.and_eq_true, VB_iff, VB_iff] at h
    rw [w64_eq (by omega) (by omega), w64_eq (by omega) (by omega)]
  · rw [if_neg h, if_neg h]
theorem meet_f (a b c d : Int) : interval_Meet.f a b c d = some (if (VB a b && VB c d) = true then mk (mx a c) (mn b d) else (0, 0, false)) := by
  unfold interval_Meet.f
  rw [both_f]; simp only [Option.bind_some]
  by_cases h : (VB a b && VB c d) = true
  · rw [if_pos h, if_pos h, made_f]; simp only [Option.bind_some]
  · rw [if_neg h, if_neg h]
theorem hull_f (a b c d : Int) : interval_Hull.f a b c d = some (if (VB a b && VB c d) = true then mk (mn a c) (mx b d) else (0, 0, false)) := by
  unfold interval_Hull.f
  rw [both_f]; simp only [Option.bind_some]
  by_cases h : (VB a b && VB c d) = true
  · rw [if_pos h, if_pos h, made_f]; simp only [Option.bind_some]
  · rw [if_neg h, if_neg h]

/-! ### A number, rounded down and up -/
def fc (z D : Int) : Int × Int := (z / D, -((-z) / D))
theorem fc_le {z D : Int} (hD : 0 < D) : (fc z D).1 ≤ (fc z D).2 := by
  unfold fc
  have h1 := Int.ediv_mul_le z (Int.ne_of_gt hD)
  have h2 := Int.ediv_mul_le (-z) (Int.ne_of_gt hD)
  have h3 : (z / D + (-z) / D) * D ≤ 0 * D := by rw [Int.add_mul]; omega
  have := Int.le_of_mul_le_mul_right h3 hD
  simp only; omega
def abs_ (x : Int) : Int := if x < 0 then -x else x
theorem abs_nn (x : Int) : 0 ≤ abs_ x := by unfold abs_; split <;> omega
theorem abs_f (x : Int) (h0 : -9223372036854775808 ≤ x) (h1 : x ≤ 9223372036854775807) : interval_abs.f x = some (abs_ x) := by
  unfold interval_abs.f abs_
  by_cases h : x < 0
  · rw [if_pos h, if_pos h]; congr 1; simp only [u64_mod]; omega
  · rw [if_neg h, if_neg h]; congr 1; simp only [u64_mod]; omega
theorem neg_div {A D : Int} (hD : 0 < D) : (-A) / D = -(A / D + if A % D > 0 then 1 else 0) := by
  have h1 := Int.ediv_mul_add_emod A D
  have h2 := Int.emod_nonneg A (Int.ne_of_gt hD)
  have h3 := Int.emod_lt_of_pos A hD
  by_cases h : A % D > 0
  · rw [if_pos h]
    have e : -A = (D - A % D) + (-(A / D + 1)) * D := by
      have : (-(A / D + 1)) * D = -(A / D * D) - D := by grind
      omega
    rw [e, Int.add_mul_ediv_right _ _ (Int.ne_of_gt hD), Int.ediv_eq_zero_of_lt (by omega) (by omega)]; omega
  · rw [if_neg h]
    have e : -A = 0 + (-(A / D)) * D := by
      have : (-(A / D)) * D = -(A / D * D) := by grind
      omega
    rw [e, Int.add_mul_ediv_right _ _ (Int.ne_of_gt hD)]; simp
/-- What 'ends' answers: the number with its sign, rounded down and up. -/
theorem ends_fc (neg : Bool) {A D : Int} (hA : 0 ≤ A) (hD : 0 < D) (hq : A / D < 9223372036854775807) :
    interval_ends.f neg (A / D) (decide (A % D > 0)) = some (fc (if neg = true then -A else A) D) := by
  have q0 := Int.ediv_nonneg hA (Int.le_of_lt hD)
  have e := neg_div (A := A) hD
  unfold interval_ends.f fc
  by_cases h : A % D > 0
  · rw [if_pos h] at e
    rw [decide_eq_true h, if_pos rfl]
    cases neg
    · rw [if_neg (by decide), if_neg (by decide), e, w64_eq (n := A / D) (by omega) (by omega), w64_eq (by omega) (by omega)]; congr 2; omega
    · rw [if_pos rfl, if_pos rfl, Int.neg_neg, e, w64_eq (n := A / D) (by omega) (by omega), w64_eq (n := A / D + 1) (by omega) (by omega), w64_eq (by omega) (by omega), w64_eq (by omega) (by omega)]
  · rw [if_neg h] at e
    rw [decide_eq_false h, if_neg (by decide)]
    cases neg
    · rw [if_neg (by decide), if_neg (by decide), e, w64_eq (n := A / D) (by omega) (by omega)]; congr 2; omega
    · rw [if_pos rfl, if_pos rfl, Int.neg_neg, e, w64_eq (n := A / D) (by omega) (by omega), w64_eq (by omega) (by omega)]; congr 2; omega
theorem mul_sign (x y : Int) : (if ((decide (x < 0)) != (decide (y < 0))) = true then -(abs_ x * abs_ y) else abs_ x * abs_ y) = x * y := by
  unfold abs_
  by_cases hx : x < 0 <;> by_cases hy : y < 0 <;> simp [hx, hy, Int.neg_mul, Int.mul_neg]
theorem mul64_f (x y : Int) (hx : 0 ≤ x) (hx1 : x < 18446744073709551616) (hy : 0 ≤ y) (hy1 : y < 18446744073709551616) : bits_Mul64.f x y = some (x * y / 18446744073709551616, x * y % 18446744073709551616) := by
  unfold bits_Mul64.f
  rw [mul64_hi x y hx hx1 hy hy1, mul64_lo]
theorem abs_le {x M : Int} (h0 : -M ≤ x) (h1 : x ≤ M) : abs_ x ≤ M := by unfold abs_; split <;> omega
/-- The product's two roundings; none: too great. -/
def cMul (x y : Int) : Option (Int × Int) := if abs_ x * abs_ y / 18446744073709551616 ≥ 1073741824 then none else some (fc (x * y) 4294967296)
def okC (c : Option (Int × Int)) : Int × Int × Bool := match c with | none => (0, 0, false) | some p => (p.1, p.2, true)
theorem product_f (x y : Int) (hx0 : -2305843009213693952 ≤ x) (hx1 : x ≤ 2305843009213693952) (hy0 : -2305843009213693952 ≤ y) (hy1 : y ≤ 2305843009213693952) :
    interval_product.f x y = some (okC (cMul x y)) := by
  unfold interval_product.f cMul
  have ax := abs_nn x; have ay := abs_nn y
  have bx := abs_le hx0 hx1; have by' := abs_le hy0 hy1
  have hm := mulbd ax bx ay by'
  rw [abs_f x (by omega) (by omega), abs_f y (by omega) (by omega)]; simp only [Option.bind_some]
  rw [mul64_f _ _ ax (by omega) ay (by omega)]; simp only [Option.bind_some]
  have hs := mul_sign x y
  generalize abs_ x * abs_ y = A at *
  by_cases h : A / 18446744073709551616 ≥ 1073741824
  · rw [if_pos h, if_pos h]; rfl
  · rw [if_neg h, if_neg h]
    have e1 : Go.bits .or .u64 (IntKind.u64.wrap ((A / 18446744073709551616) * 4294967296)) ((A % 18446744073709551616) / 4294967296) = A / 4294967296 := by
      rw [u64_eq (by omega) (by omega), or32 (by omega) (by omega) (by omega) (by omega)]; omega
    have e2 : Int.tmod (A % 18446744073709551616) 4294967296 = A % 4294967296 := by
      rw [Int.tmod_eq_emod_of_nonneg (by omega)]; omega
    rw [e1, e2, ends_fc _ (by omega) (by decide) (by omega), hs]; rfl
/-- The quotient's. -/
def cDiv (x y : Int) : Option (Int × Int) := if abs_ x * 4294967296 / abs_ y > 2305843009213693952 then none else some (fc (if y < 0 then -x * 4294967296 else x * 4294967296) (abs_ y))
theorem div_sign (x y : Int) : (if ((decide (x < 0)) != (decide (y < 0))) = true then -(abs_ x * 4294967296) else abs_ x * 4294967296) = (if y < 0 then -x * 4294967296 else x * 4294967296) := by
  unfold abs_
  by_cases hx : x < 0 <;> by_cases hy : y < 0 <;> simp [hx, hy] <;> omega
theorem quotient_f (x y : Int) (hx0 : -2305843009213693952 ≤ x) (hx1 : x ≤ 2305843009213693952) (hy0 : -2305843009213693952 ≤ y) (hy1 : y ≤ 2305843009213693952) (hy : y ≠ 0) :
    Ev (fun k => interval_quotient.f k x y) (okC (cDiv x y)) := by
  have ax := abs_nn x; have ay := abs_nn y
  have bx := abs_le hx0 hx1; have by' := abs_le hy0 hy1
  have ay' : 0 < abs_ y := by unfold abs_; split <;> omega
  have hs := div_sign x y
  have hd : abs_ x * 4294967296 / 18446744073709551616 * 18446744073709551616 + abs_ x * 4294967296 % 18446744073709551616 = abs_ x * 4294967296 := by omega
  by_cases h : abs_ x * 4294967296 / 18446744073709551616 ≥ abs_ y
  · refine Ev.same (fun k => ?_)
    unfold interval_quotient.f cDiv
    rw [abs_f x (by omega) (by omega), abs_f y (by omega) (by omega)]; simp only [Option.bind_some]
    rw [mul64_f _ _ ax (by omega) (by omega) (by omega)]; simp only [Option.bind_some]
    rw [if_pos h, if_pos]
    · rfl
    · have : 2305843009213693953 ≤ abs_ x * 4294967296 / abs_ y := (Int.le_ediv_iff_mul_le ay').mpr (by omega)
      omega
  · refine use (div64 (abs_ x * 4294967296 / 18446744073709551616) (abs_ x * 4294967296 % 18446744073709551616) (abs_ y) (by omega) (by omega) (by omega) (by omega) (by omega)) (F' := fun _ => some (okC (cDiv x y))) (Ev.now _) (fun k hk => ?_)
    unfold interval_quotient.f cDiv
    rw [abs_f x (by omega) (by omega), abs_f y (by omega) (by omega)]; simp only [Option.bind_some]
    rw [mul64_f _ _ ax (by omega) (by omega) (by omega)]; simp only [Option.bind_some]
    rw [if_neg h, hk]; simp only [Option.bind_some]
    rw [hd]
    by_cases g : abs_ x * 4294967296 / abs_ y > 2305843009213693952
    · rw [if_pos g, if_pos g]; rfl
    · rw [if_neg g, if_neg g, ends_fc _ (by omega) ay' (by omega), hs]; rfl
/-- The hull of four corners. -/
def hull4 (C : Int → Int → Option (Int × Int)) (a0 a1 b0 b1 : Int) : Int × Int × Bool :=
  match C a0 b0, C a0 b1, C a1 b0, C a1 b1 with
  | some p, some q, some s, some t => mk (mn (mn (mn (mn 2305843009213693953 p.1) q.1) s.1) t.1) (mx (mx (mx (mx (-2305843009213693953) p.2) q.2) s.2) t.2)
  | _, _, _, _ => (0, 0, false)
theorem corners_f {F : Int → Int → Option (Int × Int × Bool)} {C : Int → Int → Option (Int × Int)} {a0 a1 b0 b1 : Int} (h1 : F a0 b0 = some (okC (C a0 b0))) (h2 : F a0 b1 = some (okC (C a0 b1))) (h3 : F a1 b0 = some (okC (C a1 b0))) (h4 : F a1 b1 = some (okC (C a1 b1))) :
    cornersOf F a0 a1 b0 b1 = some (hull4 C a0 a1 b0 b1) := by
  unfold cornersOf hull4
  rw [h1, h2, h3, h4]
  cases C a0 b0 <;> simp [okC]
  cases C a0 b1 <;> simp
  cases C a1 b0 <;> simp
  cases C a1 b1 <;> simp [made_f]
theorem mul_f (a b c d : Int) : interval_Mul.f a b c d = some (if (VB a b && VB c d) = true then hull4 cMul a b c d else (0, 0, false)) := by
  unfold interval_Mul.f
  rw [both_f]; simp only [Option.bind_some]
  by_cases h : (VB a b && VB c d) = true
  · rw [if_pos h, if_pos h]
    rw [Bool.and_eq_true, VB_iff, VB_iff] at h
    exact corners_f (product_f _ _ (by omega) (by omega) (by omega) (by omega)) (product_f _ _ (by omega) (by omega) (by omega) (by omega)) (product_f _ _ (by omega) (by omega) (by omega) (by omega)) (product_f _ _ (by omega) (by omega) (by omega) (by omega))
  · rw [if_neg h, if_neg h]
theorem div_f (a b c d : Int) : Ev (fun k => interval_Div.f k a b c d) (if (VB a b && VB c d) = true then (if c ≤ 0 ∧ d ≥ 0 then (0, 0, false) else hull4 cDiv a b c d) else (0, 0, false)) := by
  by_cases h : (VB a b && VB c d) = true
  · rw [if_pos h]
    have hb := both_f a b c d
    rw [h] at hb
    rw [Bool.and_eq_true, VB_iff, VB_iff] at h
    by_cases z : c ≤ 0 ∧ d ≥ 0
    · rw [if_pos z]
      refine Ev.same (fun k => ?_)
      unfold interval_Div.f
      rw [hb]; simp only [Option.bind_some]
      rw [if_pos trivial, if_pos z.1, if_pos z.2]
    · rw [if_neg z]
      have q1 := quotient_f a c (by omega) (by omega) (by omega) (by omega) (by omega)
      have q2 := quotient_f a d (by omega) (by omega) (by omega) (by omega) (by omega)
      have q3 := quotient_f b c (by omega) (by omega) (by omega) (by omega) (by omega)
      have q4 := quotient_f b d (by omega) (by omega) (by omega) (by omega) (by omega)
      obtain ⟨K1, q1⟩ := q1
      obtain ⟨K2, q2⟩ := q2
      obtain ⟨K3, q3⟩ := q3
      obtain ⟨K4, q4⟩ := q4
      refine ⟨max (max K1 K2) (max K3 K4), fun k hk => ?_⟩
      have hc : cornersOf (interval_quotient.f k) a b c d = some (hull4 cDiv a b c d) := corners_f (q1 k (by omega)) (q2 k (by omega)) (q3 k (by omega)) (q4 k (by omega))
      unfold interval_Div.f
      rw [hb]; simp only [Option.bind_some]
      rw [if_pos trivial, hc]
      by_cases z1 : c ≤ 0
      · rw [if_pos z1, if_neg (by omega)]
      · rw [if_neg z1]
  · rw [if_neg h]
    refine Ev.same (fun k => ?_)
    unfold interval_Div.f
    rw [both_f]; simp only [Option.bind_some]
    rw [if_neg h]

/-! ### Square roots -/
theorem sq_lt {a b : Int} (ha : 0 ≤ a) (h : a < b) : a * a < b * b := by
  have h1 : a * a ≤ a * b := Int.mul_le_mul_of_nonneg_left (Int.le_of_lt h) ha
  have h2 : a * b < b * b := Int.mul_lt_mul_of_pos_right h (by omega)
  omega
theorem sq_le {a b : Int} (ha : 0 ≤ a) (h : a ≤ b) : a * a ≤ b * b := Int.mul_le_mul h h ha (by omega)
theorem of_sq_lt {a b : Int} (hb : 0 ≤ b) (h : a * a < b * b) : a < b := by
  rcases Int.lt_or_le a b with h1 | h1
  · exact h1
  · have := sq_le hb h1; omega
/-- r is the root of S, rounded down. -/
def IsRoot (r S : Int) : Prop := 0 ≤ r ∧ r * r ≤ S ∧ S < (r + 1) * (r + 1)
theorem IsRoot.uniq {r s S : Int} (h : IsRoot r S) (g : IsRoot s S) : r = s := by
  have h1 : r < s + 1 := of_sq_lt (by have := g.1; omega) (Int.lt_of_le_of_lt h.2.1 g.2.2)
  have h2 : s < r + 1 := of_sq_lt (by have := h.1; omega) (Int.lt_of_le_of_lt g.2.1 h.2.2)
  omega
theorem IsRoot.mono {r s S T : Int} (h : IsRoot r S) (g : IsRoot s T) (hST : S ≤ T) : r ≤ s := by
  have h1 : r < s + 1 := of_sq_lt (by have := g.1; omega) (by have := h.2.1; have := g.2.2; omega)
  omega
theorem le128 {x S : Int} (_hx : 0 ≤ x) (_hS : 0 ≤ S) : (x / 18446744073709551616 < S / 18446744073709551616 ∨ x / 18446744073709551616 = S / 18446744073709551616 ∧ x % 18446744073709551616 ≤ S % 18446744073709551616) ↔ x ≤ S := by omega
theorem root_l (S : Int) (hS : 0 ≤ S) : ∀ (j : Nat) (r : Int), 0 ≤ r → r + 2 ^ (j + 1) ≤ 281474976710656 → r * r ≤ S → S < (r + 2 ^ (j + 1)) * (r + 2 ^ (j + 1)) →
    ∃ s, IsRoot s S ∧ s ≤ 281474976710655 ∧ Ev (fun k => interval_root.l0 k (S / 18446744073709551616) (S % 18446744073709551616) r (2 ^ j)) (s, decide (s * s ≠ S)) := by
  intro j
  induction j with
  | zero =>
    intro r r0 rb h1 h2
    have hb := rb
    simp only [Nat.zero_add, Int.pow_one] at rb h2
    have fin : ∀ s, IsRoot s S → s ≤ 281474976710655 → Ev (fun k => interval_root.l0 k (S / 18446744073709551616) (S % 18446744073709551616) s 0) (s, decide (s * s ≠ S)) := by
      intro s hs sb
      refine Ev.ans (fun k => ?_)
      simp only [interval_root.l0]
      rw [if_neg (by decide), mul64_f s s hs.1 (by omega) hs.1 (by omega)]; simp only [Option.bind_some]
      have s2 := Int.mul_nonneg hs.1 hs.1
      rw [w64_eq (n := s) (by have := hs.1; omega) (by omega)]
      by_cases e : s * s = S
      · rw [if_pos (by rw [e]), e]; simp
      · rw [decide_eq_true e]
        by_cases e2 : s * s / 18446744073709551616 = S / 18446744073709551616
        · rw [if_pos e2, bne_iff_ne.mpr]; omega
        · rw [if_neg e2]
    by_cases c : (r + 1) * (r + 1) ≤ S
    · refine ⟨r + 1, ⟨by omega, c, by rw [Int.add_assoc]; exact h2⟩, by omega, ?_⟩
      refine Ev.step (f := fun k => interval_root.l0 k (S / 18446744073709551616) (S % 18446744073709551616) (r + 1) 0) (fun k => ?_) (fin _ ⟨by omega, c, by rw [Int.add_assoc]; exact h2⟩ (by omega))
      simp only [interval_root.l0, Int.pow_zero]
      rw [if_pos (by decide), u64_eq (n := r + 1) (by omega) (by omega), mul64_f (r + 1) (r + 1) (by omega) (by omega) (by omega) (by omega)]; simp only [Option.bind_some]
      have hl := (le128 (Int.mul_nonneg (show 0 ≤ r + 1 by omega) (show 0 ≤ r + 1 by omega)) hS).mpr c
      by_cases d : (r + 1) * (r + 1) / 18446744073709551616 < S / 18446744073709551616
      · rw [if_pos d]; rfl
      · rw [if_neg d, if_pos (by omega), if_pos (by omega)]; rfl
    · refine ⟨r, ⟨r0, h1, by omega⟩, by omega, ?_⟩
      refine Ev.step (f := fun k => interval_root.l0 k (S / 18446744073709551616) (S % 18446744073709551616) r 0) (fun k => ?_) (fin _ ⟨r0, h1, by omega⟩ (by omega))
      simp only [interval_root.l0, Int.pow_zero]
      rw [if_pos (by decide), u64_eq (n := r + 1) (by omega) (by omega), mul64_f (r + 1) (r + 1) (by omega) (by omega) (by omega) (by omega)]; simp only [Option.bind_some]
      have hl := fun h => c ((le128 (Int.mul_nonneg (show 0 ≤ r + 1 by omega) (show 0 ≤ r + 1 by omega)) hS).mp h)
      rw [if_neg (fun h => hl (.inl h))]
      by_cases d : (r + 1) * (r + 1) / 18446744073709551616 = S / 18446744073709551616
      · rw [if_pos d, if_neg (fun h => hl (.inr ⟨d, h⟩))]; rfl
      · rw [if_neg d]; rfl
  | succ j ih =>
    intro r r0 rb h1 h2
    have hp : (0 : Int) < 2 ^ (j + 1) := Int.pow_pos (by decide)
    have e2 : (2 : Int) ^ (j + 1 + 1) = 2 ^ (j + 1) + 2 ^ (j + 1) := by rw [Int.pow_succ 2 (j + 1)]; omega
    have e3 : (2 : Int) ^ (j + 1) / 2 = 2 ^ j := by rw [Int.pow_succ]; omega
    rw [e2] at rb h2
    by_cases c : (r + 2 ^ (j + 1)) * (r + 2 ^ (j + 1)) ≤ S
    · obtain ⟨s, hs, sb, he⟩ := ih (r + 2 ^ (j + 1)) (by omega) (by omega) c (by rw [Int.add_assoc]; exact h2)
      refine ⟨s, hs, sb, Ev.step (fun k => ?_) he⟩
      simp only [interval_root.l0]
      rw [if_pos (by omega), u64_eq (n := r + 2 ^ (j + 1)) (by omega) (by omega), mul64_f (r + 2 ^ (j + 1)) (r + 2 ^ (j + 1)) (by omega) (by omega) (by omega) (by omega)]; simp only [Option.bind_some]
      have hl := (le128 (Int.mul_nonneg (show 0 ≤ r + 2 ^ (j + 1) by omega) (show 0 ≤ r + 2 ^ (j + 1) by omega)) hS).mpr c
      rw [e3]
      by_cases d : (r + 2 ^ (j + 1)) * (r + 2 ^ (j + 1)) / 18446744073709551616 < S / 18446744073709551616
      · rw [if_pos d]
      · rw [if_neg d, if_pos (by omega), if_pos (by omega)]
    · obtain ⟨s, hs, sb, he⟩ := ih r r0 (by omega) h1 (by omega)
      refine ⟨s, hs, sb, Ev.step (fun k => ?_) he⟩
      simp only [interval_root.l0]
      rw [if_pos (by omega), u64_eq (n := r + 2 ^ (j + 1)) (by omega) (by omega), mul64_f (r + 2 ^ (j + 1)) (r + 2 ^ (j + 1)) (by omega) (by omega) (by omega) (by omega)]; simp only [Option.bind_some]
      have hl := fun h => c ((le128 (Int.mul_nonneg (show 0 ≤ r + 2 ^ (j + 1) by omega) (show 0 ≤ r + 2 ^ (j + 1) by omega)) hS).mp h)
      rw [e3, if_neg (fun h => hl (.inl h))]
      by_cases d : (r + 2 ^ (j + 1)) * (r + 2 ^ (j + 1)) / 18446744073709551616 = S / 18446744073709551616
      · rw [if_pos d, if_neg (fun h => hl (.inr ⟨d, h⟩))]
      · rw [if_neg d]
theorem root_f (n : Int) (h0 : 0 ≤ n) (h1 : n ≤ 2305843009213693952) : ∃ s, IsRoot s (n * 4294967296) ∧ s ≤ 281474976710655 ∧ Ev (fun k => interval_root.f k n) (s, decide (s * s ≠ n * 4294967296)) := by
  obtain ⟨s, hs, sb, he⟩ := root_l (n * 4294967296) (by omega) 47 0 (by decide) (by decide) (by omega) (by
    have e : ((0 : Int) + 2 ^ (47 + 1)) * (0 + 2 ^ (47 + 1)) = 79228162514264337593543950336 := by decide
    rw [e]; omega)
  refine ⟨s, hs, sb, Ev.congr (fun k => ?_) he⟩
  unfold interval_root.f
  rw [u64_eq h0 (by omega), mul64_f n 4294967296 h0 (by omega) (by decide) (by decide)]; simp only [Option.bind_some]
  rfl
theorem sqrt_yes (a b : Int) (h : VB a b = true) (g : 0 ≤ a) : ∃ s t, IsRoot s (a * 4294967296) ∧ IsRoot t (b * 4294967296) ∧ t ≤ 281474976710655 ∧ Ev (fun k => interval_Sqrt.f k a b) (s, if t * t = b * 4294967296 then t else t + 1, true) := by
  have hv := valid_f a b
  rw [h] at hv
  rw [VB_iff] at h
  obtain ⟨s, hs, sb, es⟩ := root_f a g (by omega)
  obtain ⟨t, ht, tb, et⟩ := root_f b (by omega) (by omega)
  have hst := hs.mono ht (by omega)
  refine ⟨s, t, hs, ht, tb, ?_⟩
  obtain ⟨K1, es⟩ := es
  obtain ⟨K2, et⟩ := et
  refine ⟨max K1 K2 + 1, fun k hk => ?_⟩
  obtain ⟨m, rfl⟩ : ∃ m, k = m + 1 := ⟨k - 1, by omega⟩
  unfold interval_Sqrt.f
  rw [hv]; simp only [Option.bind_some]
  rw [if_pos trivial, decide_eq_false (by omega)]
  simp only [interval_Sqrt.j0]
  have es' : interval_root.f m a = _ := es m (by omega)
  have et' : interval_root.f m b = _ := et m (by omega)
  rw [if_neg (by decide), es', et']; simp only [Option.bind_some]
  have hm : ∀ u, t ≤ u → u ≤ 281474976710656 → mk s u = (s, u, true) := by
    intro u u1 u2
    unfold mk
    rw [if_pos (VB_iff.mpr ⟨by have := hs.1; omega, by omega, by omega⟩)]
  by_cases e : t * t = b * 4294967296
  · rw [if_neg (by simpa using e), if_pos e, made_f, hm t (by omega) (by omega)]; rfl
  · rw [if_pos (by simpa using e), if_neg e, w64_eq (by have := ht.1; omega) (by omega), made_f, hm (t + 1) (by omega) (by omega)]; rfl
theorem sqrt_no (a b : Int) (h : ¬ (VB a b = true ∧ 0 ≤ a)) : Ev (fun k => interval_Sqrt.f k a b) (0, 0, false) := by
  have hv := valid_f a b
  refine Ev.ans (fun k => ?_)
  unfold interval_Sqrt.f
  rw [hv]; simp only [Option.bind_some]
  cases e : VB a b
  · rw [if_neg (by decide)]
    simp only [interval_Sqrt.j0]
    rw [if_pos trivial]
  · rw [if_pos rfl, decide_eq_true (by rw [e] at h; simp at h; omega)]
    simp only [interval_Sqrt.j0]
    rw [if_pos trivial]
end Go.Proofs.Ytplpmndchdockaa.M
