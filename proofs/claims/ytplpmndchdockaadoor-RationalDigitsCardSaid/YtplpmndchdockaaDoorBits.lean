import Derived.Laws.BitsLemmas
import Derived.Laws.Bits64
import Derived.IntWalk
import Derived.RowKit
namespace Go.Proofs.YtplpmndchdockaaDoor.M
open Go Go.RowKit
set_option autoImplicit false

theorem u64_eq {n : Int} (h0 : 0 ≤ n) (h1 : n < 18446744073709551616) : IntKind.u64.wrap n = n := by rw [IntKind.wrap_u64]; omega
theorem u64_mod (n : Int) : IntKind.u64.wrap n = n % 18446744073709551616 := IntKind.wrap_u64 n
theorem w64_eq {n : Int} (h0 : -9223372036854775808 ≤ n) (h1 : n ≤ 9223372036854775807) : wrap64 n = n := by unfold wrap64; omega
theorem u64_wraps (n : Int) (h0 : 0 ≤ n) (h1 : n < 2 ^ 64) : IntKind.u64.wrap n = n := u64_eq h0 (by simpa using h1)
theorem and32 {x : Int} (h0 : 0 ≤ x) (h1 : x < 18446744073709551616) : Go.bits .and .u64 x 4294967295 = x % 4294967296 := by
  have := bits_mask .u64 64 (by decide) u64_wraps 32 (by decide) x h0 (by simpa using h1)
  simpa using this
theorem or32 {x y : Int} (h0 : 0 ≤ x) (h1 : x < 4294967296) (h2 : 0 ≤ y) (h3 : y < 4294967296) : Go.bits .or .u64 (x * 4294967296) y = x * 4294967296 + y :=
  bits_join .u64 64 (by decide) u64_wraps 32 _ y (by omega) (by simp) (by simp; omega) h2 (by simpa using h3) (by simp; omega)
theorem mulbd {a b M N : Int} (ha : 0 ≤ a) (hM : a ≤ M) (hb : 0 ≤ b) (hN : b ≤ N) : 0 ≤ a * b ∧ a * b ≤ M * N :=
  ⟨Int.mul_nonneg ha hb, Int.mul_le_mul hM hN hb (by omega)⟩
theorem mul_split (a b c d : Int) : (a * 4294967296 + b) * (c * 4294967296 + d) = (a * c) * 18446744073709551616 + (a * d + b * c) * 4294967296 + b * d := by grind
theorem mul64_hi (x y : Int) (hx : 0 ≤ x) (hx1 : x < 18446744073709551616) (hy : 0 ≤ y) (hy1 : y < 18446744073709551616) :
    IntKind.u64.wrap ((IntKind.u64.wrap ((IntKind.u64.wrap ((x / 4294967296) * (y / 4294967296))) + ((IntKind.u64.wrap ((IntKind.u64.wrap ((x / 4294967296) * (Go.bits .and .u64 y 4294967295))) + ((IntKind.u64.wrap ((Go.bits .and .u64 x 4294967295) * (Go.bits .and .u64 y 4294967295))) / 4294967296))) / 4294967296))) + ((IntKind.u64.wrap ((Go.bits .and .u64 (IntKind.u64.wrap ((IntKind.u64.wrap ((x / 4294967296) * (Go.bits .and .u64 y 4294967295))) + ((IntKind.u64.wrap ((Go.bits .and .u64 x 4294967295) * (Go.bits .and .u64 y 4294967295))) / 4294967296))) 4294967295) + (IntKind.u64.wrap ((Go.bits .and .u64 x 4294967295) * (y / 4294967296))))) / 4294967296)) = x * y / 18446744073709551616 := by
  rw [and32 hx hx1, and32 hy hy1]
  have ex : x = (x / 4294967296) * 4294967296 + x % 4294967296 := by omega
  have ey : y = (y / 4294967296) * 4294967296 + y % 4294967296 := by omega
  have e := mul_split (x / 4294967296) (x % 4294967296) (y / 4294967296) (y % 4294967296)
  rw [← ex, ← ey] at e
  have hp := mulbd (a := x / 4294967296) (b := y / 4294967296) (M := 4294967295) (N := 4294967295) (by omega) (by omega) (by omega) (by omega)
  have hq := mulbd (a := x / 4294967296) (b := y % 4294967296) (M := 4294967295) (N := 4294967295) (by omega) (by omega) (by omega) (by omega)
  have hr := mulbd (a := x % 4294967296) (b := y / 4294967296) (M := 4294967295) (N := 4294967295) (by omega) (by omega) (by omega) (by omega)
  have hs := mulbd (a := x % 4294967296) (b := y % 4294967296) (M := 4294967295) (N := 4294967295) (by omega) (by omega) (by omega) (by omega)
  generalize x / 4294967296 * (y / 4294967296) = p at *
  generalize x / 4294967296 * (y % 4294967296) = q at *
  generalize x % 4294967296 * (y / 4294967296) = r at *
  generalize x % 4294967296 * (y % 4294967296) = s at *
  clear ex ey
  generalize x * y = z at *
  subst e
  rw [u64_eq hp.1 (by omega), u64_eq hq.1 (by omega), u64_eq hr.1 (by omega), u64_eq hs.1 (by omega)]
  rw [u64_eq (n := q + s / 4294967296) (by omega) (by omega), and32 (by omega) (by omega)]
  rw [u64_eq (n := (q + s / 4294967296) % 4294967296 + r) (by omega) (by omega)]
  rw [u64_eq (n := p + (q + s / 4294967296) / 4294967296) (by omega) (by omega)]
  rw [u64_eq (by omega) (by omega)]
  omega
theorem mul64_lo (x y : Int) : IntKind.u64.wrap (x * y) = x * y % 18446744073709551616 := u64_mod _
end Go.Proofs.YtplpmndchdockaaDoor.M
