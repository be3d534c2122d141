import Derived.Test.YtplpmndchdockaaDoorRdQ
/-! What Scale answers. -/
namespace Go.Proofs.YtplpmndchdockaaDoor.M
open Go
set_option autoImplicit false
set_option linter.unusedVariables false

/-- A quotient of naturals, rounded up. -/
def upN (a d : Nat) : Nat := if a % d = 0 then a / d else a / d + 1
/-- What Scale answers of a multiple a / d with a sign: rounded down, rounded up, and whether both are in range. -/
def scN (neg : Bool) (a d : Nat) : Int × Int × Bool :=
  if upN a d ≤ 2305843009213693952 then (if neg = true then (-(upN a d : Int), -((a / d : Nat) : Int), true) else (((a / d : Nat) : Int), (upN a d : Int), true)) else (0, 0, false)
/-- What Scale answers of a fraction (where it is valid) and a unit. -/
def scQ (o : Option Rat) (u : Int) : Int × Int × Bool := match o with
  | some q => if 1 ≤ u then scN (decide (q.num < 0)) (q.num.natAbs * u.toNat) q.den else (0, 0, false)
  | none => (0, 0, false)
theorem div_mul_cancel2 {a d g : Nat} (hg : 0 < g) : (a * g) / (d * g) = a / d := Nat.mul_div_mul_right _ _ hg
theorem scN_common {neg : Bool} {a d g : Nat} (hg : 0 < g) : scN neg (a * g) (d * g) = scN neg a d := by
  have h1 : (a * g) / (d * g) = a / d := Nat.mul_div_mul_right _ _ hg
  have h2 : (a * g) % (d * g) = (a % d) * g := Nat.mul_mod_mul_right _ _ _
  have h3 : (a % d) * g = 0 ↔ a % d = 0 := by
    constructor
    · intro h; rcases Nat.mul_eq_zero.mp h with h | h <;> omega
    · intro h; rw [h, Nat.zero_mul]
  have h4 : upN (a * g) (d * g) = upN a d := by
    unfold upN
    rw [h1, h2]
    by_cases h : a % d = 0
    · rw [if_pos h, if_pos (h3.mpr h)]
    · rw [if_neg h, if_neg (fun hc => h (h3.mp hc))]
  unfold scN
  rw [h1, h4]
/-- The sign of 0 is no matter. -/
theorem scN_zero {b c : Bool} {d : Nat} : scN b 0 d = scN c 0 d := by
  unfold scN upN
  cases b <;> cases c <;> simp
theorem upN_0 {m d : Nat} (h : m % d = 0) : upN m d = m / d := by unfold upN; rw [if_pos h]
theorem upN_1 {m d : Nat} (h : m % d ≠ 0) : upN m d = m / d + 1 := by unfold upN; rw [if_neg h]
def scV (t : Int × Int × Bool) : Value := .tuple #[.int .i64 t.1, .int .i64 t.2.1, .bool t.2.2]
end Go.Proofs.YtplpmndchdockaaDoor.M
