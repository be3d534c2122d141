import Derived.Test.YtplpmndchdockaaIv
import Derived.Test.YtplpmndchdockaaPr3
namespace Go.Proofs.Ytplpmndchdockaa.M
open Go Go.RowKit Go.Proofs.Ytplpmndchdockaa.Pr Go.Proofs.YtplpmndchdockaaV.PrintWords Go.Proofs.YtplpmndchdockaaV.PrintLast Go.Proofs.YtplpmndchdockaaV.PrintMore
set_option autoImplicit false

theorem awake37 : Ev (fun k => flagstonelaw37_awake.f k) true := by
  obtain ⟨s, t, hs, ht, tb, e⟩ := sqrt_yes 8589934592 8589934592 (by decide) (by decide)
  have h1 : IsRoot 6074000999 (8589934592 * 4294967296) := ⟨by decide, by decide, by decide⟩
  have e1 := hs.uniq h1
  have e2 := ht.uniq h1
  subst e1; subst e2
  rw [if_neg (by decide)] at e
  refine use e (F' := fun _ => some true) (Ev.now _) (fun k hk => ?_)
  unfold flagstonelaw37_awake.f
  rw [hk, mul_f]; simp only [Option.bind_some]
  rfl
theorem made37 (a b m : Int) (hm0 : 0 ≤ m) (hm1 : m ≤ 255) : ∃ lo hi, flagstonelaw37_made.f a b m = some (lo, hi) ∧ VB lo hi = true := by
  unfold flagstonelaw37_made.f
  have e1 : Int.tmod m 50 = m % 50 := Int.tmod_eq_emod_of_nonneg hm0
  rw [w64_eq (n := m) (by omega) (by omega), e1, w64_eq (n := 3 + m % 50) (by omega) (by omega), u64_eq (n := 3 + m % 50) (by omega) (by omega), if_pos (by omega)]
  generalize shr .i64 a (3 + m % 50) = p
  generalize shr .i64 b (3 + m % 50) = q
  by_cases h : m ≥ 200
  · rw [if_pos h]
    refine ⟨_, _, rfl, ?_⟩
    have hx : -2305843009213693952 ≤ mx (-2305843009213693952) (mn p 2305843009213693952) ∧ mx (-2305843009213693952) (mn p 2305843009213693952) ≤ 2305843009213693952 := by unfold mx mn; omega
    generalize mx (-2305843009213693952) (mn p 2305843009213693952) = x at *
    rw [w64_eq (n := x + m) (by omega) (by omega), w64_eq (by omega) (by omega), VB_iff]
    unfold mx mn; omega
  · rw [if_neg h]
    refine ⟨_, _, rfl, ?_⟩
    have hx : -2305843009213693952 ≤ mx (-2305843009213693952) (mn p 2305843009213693952) ∧ mx (-2305843009213693952) (mn p 2305843009213693952) ≤ 2305843009213693952 := by unfold mx mn; omega
    have hy : -2305843009213693952 ≤ mx (-2305843009213693952) (mn q 2305843009213693952) ∧ mx (-2305843009213693952) (mn q 2305843009213693952) ≤ 2305843009213693952 := by unfold mx mn; omega
    generalize mx (-2305843009213693952) (mn p 2305843009213693952) = x at *
    generalize mx (-2305843009213693952) (mn q 2305843009213693952) = y at *
    rw [VB_iff]
    unfold mx mn; omega
theorem mk_ok (a b : Int) : (mk a b).2.2 = VB a b := by unfold mk; cases VB a b <;> rfl
theorem mk_yes {a b : Int} (h : VB a b = true) : mk a b = (a, b, true) := by unfold mk; rw [if_pos h]
theorem mn4_le (M a b c d : Int) : mn (mn (mn (mn M a) b) c) d ≤ a ∧ mn (mn (mn (mn M a) b) c) d ≤ b ∧ mn (mn (mn (mn M a) b) c) d ≤ c ∧ mn (mn (mn (mn M a) b) c) d ≤ d ∧ mn (mn (mn (mn M a) b) c) d ≤ M := by
  have h : ∀ x y, mn x y ≤ x ∧ mn x y ≤ y := by intro x y; unfold mn; split <;> omega
  have h1 := h M a; have h2 := h (mn M a) b; have h3 := h (mn (mn M a) b) c; have h4 := h (mn (mn (mn M a) b) c) d
  omega
theorem mx4_ge (M a b c d : Int) : a ≤ mx (mx (mx (mx M a) b) c) d ∧ b ≤ mx (mx (mx (mx M a) b) c) d ∧ c ≤ mx (mx (mx (mx M a) b) c) d ∧ d ≤ mx (mx (mx (mx M a) b) c) d ∧ M ≤ mx (mx (mx (mx M a) b) c) d := by
  have h : ∀ x y, x ≤ mx x y ∧ y ≤ mx x y := by intro x y; unfold mx; split <;> omega
  have h1 := h M a; have h2 := h (mx M a) b; have h3 := h (mx (mx M a) b) c; have h4 := h (mx (mx (mx M a) b) c) d
  omega
theorem ge_mn {L x y : Int} (h : L ≤ x) (g : L ≤ y) : L ≤ mn x y := by unfold mn; split <;> omega
theorem mx_le {U x y : Int} (h : x ≤ U) (g : y ≤ U) : mx x y ≤ U := by unfold mx; split <;> omega
theorem fc_mono1 {z w D : Int} (hD : 0 < D) (h : z ≤ w) : (fc z D).1 ≤ (fc w D).1 := Int.ediv_le_ediv hD h
theorem fc_mono2 {z w D : Int} (hD : 0 < D) (h : z ≤ w) : (fc z D).2 ≤ (fc w D).2 := by
  have : -w / D ≤ -z / D := Int.ediv_le_ediv hD (by omega)
  unfold fc; simp only; omega
theorem u8_bd {n : Int} (h : (Lit.int .u8 n).wf = true) : 0 ≤ n ∧ n ≤ 255 := by
  simp only [Lit.wf, IntKind.min, IntKind.max, IntKind.signed, IntKind.bits, Bool.and_eq_true] at h
  simpa using h
end Go.Proofs.Ytplpmndchdockaa.M
