import Derived.Test.YtplpmndchdockaaDoorRdB
/-! Sums, products, quotients of fractions, in parts; their order. -/
namespace Go.Proofs.YtplpmndchdockaaDoor.M
open Go
set_option autoImplicit false
set_option linter.unusedVariables false

theorem bne_beq (b c : Bool) : (!b == c) = (b != c) := by cases b <;> cases c <;> rfl
theorem pq_sum (p q : Rat) : p + q = fr (sumN (decide (p.num < 0)) (decide (q.num < 0)) (p.num.natAbs * q.den) (q.num.natAbs * p.den)).1 (sumN (decide (p.num < 0)) (decide (q.num < 0)) (p.num.natAbs * q.den) (q.num.natAbs * p.den)).2 (p.den * q.den) := by
  rw [fr_sum p.den_nz q.den_nz, fr_self, fr_self]
theorem pq_mul (p q : Rat) : p * q = fr (decide (p.num < 0) != decide (q.num < 0)) (p.num.natAbs * q.num.natAbs) (p.den * q.den) := by
  rw [← fr_mul, fr_self, fr_self]
theorem pq_div (p q : Rat) (h : q ≠ 0) : p / q = fr (decide (p.num < 0) != decide (q.num < 0)) (p.num.natAbs * q.den) (p.den * q.num.natAbs) := by
  have h0 : q.num.natAbs ≠ 0 := by
    intro h0; apply h; rw [← fr_self q, fr_zero q.den_nz]; exact h0
  rw [← fr_div _ _ _ _ _ _ p.den_nz q.den_nz h0, fr_self, fr_self]
theorem den_mul (p q : Rat) : p.den * q.den ≠ 0 := Nat.mul_ne_zero p.den_nz q.den_nz
theorem q0_iff (q : Rat) : q = 0 ↔ q.num.natAbs = 0 := by rw [← fr_zero (b := decide (q.num < 0)) q.den_nz, fr_self]
/-- What Cmp answers. -/
def ordI (t : Rat) : Int := if t.num.natAbs = 0 then 0 else if t.num < 0 then -1 else 1
def cmpQ (a b : Option Rat) : Int := match a, b with
  | some p, some q => ordI (p - q)
  | _, _ => 0
theorem pq_sub (p q : Rat) : fr (sumN (decide (p.num < 0)) (!decide (q.num < 0)) (p.num.natAbs * q.den) (q.num.natAbs * p.den)).1 (sumN (decide (p.num < 0)) (!decide (q.num < 0)) (p.num.natAbs * q.den) (q.num.natAbs * p.den)).2 (p.den * q.den) = p - q := by
  rw [fr_sum p.den_nz q.den_nz, fr_self, ← fr_neg', fr_self, Rat.sub_eq_add_neg]
theorem ord_parts (p q : Rat) {t : Bool × Nat} (ht : t = sumN (decide (p.num < 0)) (!decide (q.num < 0)) (p.num.natAbs * q.den) (q.num.natAbs * p.den)) : ordI (p - q) = if t.2 = 0 then 0 else if t.1 = true then -1 else 1 := by
  have h := pq_sub p q
  rw [← ht] at h
  have hz := den_mul p q
  unfold ordI
  rw [← h]
  have h1 := (q0_iff (fr t.1 t.2 (p.den * q.den))).symm.trans (fr_zero hz)
  by_cases h0 : t.2 = 0
  · rw [if_pos (h1.mpr h0), if_pos h0]
  · rw [if_neg (fun hc => h0 (h1.mp hc)), if_neg h0]
    have h2 := fr_neg (b := t.1) (n := t.2) hz
    have h3 : t.2 / (p.den * q.den).gcd t.2 ≠ 0 := by
      have := Nat.div_pos (Nat.gcd_le_right (p.den * q.den) (Nat.pos_of_ne_zero h0)) (gcd_pos' (n := t.2) hz)
      omega
    by_cases hb : t.1 = true
    · rw [if_pos (h2.mpr ⟨hb, h3⟩), if_pos hb]
    · rw [if_neg (fun hc => hb (h2.mp hc).1), if_neg hb]
end Go.Proofs.YtplpmndchdockaaDoor.M
