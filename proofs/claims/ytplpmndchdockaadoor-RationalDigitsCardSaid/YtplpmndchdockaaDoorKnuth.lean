/-! The choice of a digit of a quotient. -/
namespace Go.Proofs.YtplpmndchdockaaDoor.M
set_option autoImplicit false

/-- What stands at the choice of a digit of a quotient. -/
structure Kn (B v1 v2 vl P v top u2 ul R : Int) : Prop where
  hB : 2 ≤ B
  hP : 0 < P
  hv1 : 1 ≤ v1
  v1B : v1 < B
  h2 : 0 ≤ v2
  h2B : v2 < B
  hl : 0 ≤ vl
  hlP : vl < P
  ev : v = (v1 * B + v2) * P + vl
  ht : 0 ≤ top
  hu : 0 ≤ u2
  huB : u2 < B
  hul : 0 ≤ ul
  hulP : ul < P
  eR : R = (top * B + u2) * P + ul
  hR : R < v * B

theorem mul_le {a b c : Int} (h : 0 ≤ c) (g : a ≤ b) : a * c ≤ b * c := Int.mul_le_mul_of_nonneg_right g h
theorem mul_lt {a b c : Int} (h : 0 < c) (g : a < b) : a * c < b * c := Int.mul_lt_mul_of_pos_right g h

namespace Kn
variable {B v1 v2 vl P v top u2 ul R : Int}
theorem vpos (k : Kn B v1 v2 vl P v top u2 ul R) : B * P ≤ v := by
  have h1 : 0 ≤ v2 * P := Int.mul_nonneg k.h2 (Int.le_of_lt k.hP)
  have h2 : 1 * (B * P) ≤ v1 * (B * P) := mul_le (Int.mul_nonneg (by have := k.hB; omega) (Int.le_of_lt k.hP)) k.hv1
  have := k.ev; have := k.hl
  have e : (v1 * B + v2) * P = v1 * (B * P) + v2 * P := by grind
  omega
theorem vpos' (k : Kn B v1 v2 vl P v top u2 ul R) : 0 < v := by
  have := k.vpos; have : 0 < B * P := Int.mul_pos (by have := k.hB; omega) k.hP
  omega
theorem Rnn (k : Kn B v1 v2 vl P v top u2 ul R) : 0 ≤ R := by
  have h1 : 0 ≤ top * B := Int.mul_nonneg k.ht (by have := k.hB; omega)
  have : 0 ≤ (top * B + u2) * P := Int.mul_nonneg (by have := k.hu; omega) (Int.le_of_lt k.hP)
  have := k.eR; have := k.hul; omega
theorem qs_lt (k : Kn B v1 v2 vl P v top u2 ul R) : R / v < B := Int.ediv_lt_of_lt_mul k.vpos' (by have := k.hR; rw [Int.mul_comm]; exact this)
theorem top_lt (k : Kn B v1 v2 vl P v top u2 ul R) : top < (v1 + 1) * B := by
  have hBP : 0 < B * P := Int.mul_pos (by have := k.hB; omega) k.hP
  have h1 : v < (v1 + 1) * (B * P) := by
    have e : (v1 + 1) * (B * P) = v1 * (B * P) + B * P := by grind
    have e2 : (v1 * B + v2) * P = v1 * (B * P) + v2 * P := by grind
    have h3 : (v2 + 1) * P ≤ B * P := mul_le (Int.le_of_lt k.hP) (by have := k.h2B; omega)
    have e3 : (v2 + 1) * P = v2 * P + P := by grind
    have := k.ev; have := k.hlP; omega
  have h2 : top * (B * P) ≤ R := by
    have e : (top * B + u2) * P = top * (B * P) + u2 * P := by grind
    have : 0 ≤ u2 * P := Int.mul_nonneg k.hu (Int.le_of_lt k.hP)
    have := k.eR; have := k.hul; omega
  have h4 : v * B < (v1 + 1) * (B * P) * B := mul_lt (by have := k.hB; omega) h1
  have h5 : top * (B * P) < ((v1 + 1) * B) * (B * P) := by
    have e : (v1 + 1) * (B * P) * B = ((v1 + 1) * B) * (B * P) := by grind
    have := k.hR; omega
  exact Int.lt_of_mul_lt_mul_right h5 (Int.le_of_lt hBP)
/-- A digit that is seen to be too great is too great. -/
theorem dec (k : Kn B v1 v2 vl P v top u2 ul R) {q r : Int} (e : q * v1 + r = top) (hq : R / v ≤ q) (q0 : 0 ≤ q) (h : q ≥ B ∨ q * v2 > r * B + u2) : R / v ≤ q - 1 := by
  rcases h with h | h
  · have := k.qs_lt; omega
  · have h1 : top * B + u2 + 1 ≤ q * (v1 * B + v2) := by
      have e1 : q * (v1 * B + v2) = (q * v1 + r) * B - r * B + q * v2 := by grind
      rw [e] at e1; omega
    have h2 : (top * B + u2 + 1) * P ≤ q * (v1 * B + v2) * P := mul_le (Int.le_of_lt k.hP) h1
    have h3 : R < q * v := by
      have e2 : q * v = q * (v1 * B + v2) * P + q * vl := by rw [k.ev]; grind
      have e3 : (top * B + u2 + 1) * P = (top * B + u2) * P + P := by grind
      have : 0 ≤ q * vl := Int.mul_nonneg q0 k.hl
      have := k.eR; have := k.hulP; omega
    have := Int.ediv_lt_of_lt_mul k.vpos' h3
    omega
theorem exit (k : Kn B v1 v2 vl P v top u2 ul R) {q r : Int} (e : q * v1 + r = top) (h : q < B) (g : q * v2 ≤ r * B + u2) : q ≤ R / v + 1 := by
  have h1 : q * (v1 * B + v2) ≤ top * B + u2 := by
    have e1 : q * (v1 * B + v2) = (q * v1 + r) * B - r * B + q * v2 := by grind
    rw [e] at e1; omega
  have h2 : q * (v1 * B + v2) * P ≤ (top * B + u2) * P := mul_le (Int.le_of_lt k.hP) h1
  have e2 : q * v = q * (v1 * B + v2) * P + q * vl := by rw [k.ev]; grind
  have h3 : q * vl ≤ B * P := Int.le_trans (mul_le k.hl (Int.le_of_lt h)) (Int.mul_le_mul_of_nonneg_left (Int.le_of_lt k.hlP) (by have := k.hB; omega))
  have h4 : (q - 1) * v ≤ R := by
    have : (q - 1) * v = q * v - v := by grind
    have := k.vpos; have := k.eR; have := k.hul; omega
  have : q - 1 ≤ R / v := (Int.le_ediv_iff_mul_le k.vpos').mpr h4
  omega
theorem exit2 (k : Kn B v1 v2 vl P v top u2 ul R) {q r : Int} (e : q * v1 + r = top)  (h : B ≤ r) : q < B ∧ q * v2 ≤ r * B + u2 := by
  have h1 := k.top_lt
  have h2 : q * v1 < B * v1 := by
    have : (v1 + 1) * B = B * v1 + B := by grind
    omega
  have h3 : q < B := Int.lt_of_mul_lt_mul_right h2 (by have := k.hv1; omega)
  refine ⟨h3, ?_⟩
  have h4 : q * v2 ≤ B * v2 := mul_le k.h2 (Int.le_of_lt h3)
  have h5 : v2 * B ≤ r * B := mul_le (by have := k.hB; omega) (by have := k.h2B; omega)
  have : B * v2 = v2 * B := Int.mul_comm _ _
  have := k.hu; omega
end Kn
end Go.Proofs.YtplpmndchdockaaDoor.M
