import Derived.Test.YtplpmndchdockaaCommon
import Derived.Test.YtplpmndchdockaaPr13
import Derived.Test.YtplpmndchdockaaPr9
import Derived.Test.YtplpmndchdockaaPr11
import Derived.Test.YtplpmndchdockaaPr12
namespace Go.Proofs.Ytplpmndchdockaa.M
open Go Go.RowKit Go.Proofs.Ytplpmndchdockaa.Pr Go.Proofs.YtplpmndchdockaaV.PrintWords Go.Proofs.YtplpmndchdockaaV.PrintLast Go.Proofs.YtplpmndchdockaaV.PrintMore
set_option autoImplicit false

theorem rvalid_f (a b : Int) : flagstoneref37_Valid.f a b = some (VB a b) := valid_f a b
theorem checked_f (a b : Int) : flagstoneref37_checked.f a b = some (mk a b) := by
  unfold flagstoneref37_checked.f mk
  rw [rvalid_f]; simp only [Option.bind_some]
  split <;> rfl
theorem radd_f (a b c d : Int) : flagstoneref37_Add.f a b c d = some (if (VB a b && VB c d) = true then mk (a + c) (b + d) else (0, 0, false)) := by
  unfold flagstoneref37_Add.f
  rw [rvalid_f]; simp only [Option.bind_some]
  cases h1 : VB a b
  · simp
  · rw [if_pos rfl, rvalid_f]; simp only [Option.bind_some, Bool.true_and]
    cases h2 : VB c d
    · simp
    · rw [if_pos rfl, if_pos rfl, checked_f]; simp only [Option.bind_some]
      rw [VB_iff] at h1 h2
      rw [w64_eq (by omega) (by omega), w64_eq (by omega) (by omega)]
theorem rsub_f (a b c d : Int) : flagstoneref37_Sub.f a b c d = some (if (VB a b && VB c d) = true then mk (a - d) (b - c) else (0, 0, false)) := by
  unfold flagstoneref37_Sub.f
  rw [rvalid_f]; simp only [Option.bind_some]
  cases h1 : VB a b
  · simp
  · rw [if_pos rfl, rvalid_f]; simp only [Option.bind_some, Bool.true_and]
    cases h2 : VB c d
    · simp
    · rw [if_pos rfl, if_pos rfl, checked_f]; simp only [Option.bind_some]
      rw [VB_iff] at h1 h2
      rw [w64_eq (by omega) (by omega), w64_eq (by omega) (by omega)]
theorem rmeet_f (a b c d : Int) : flagstoneref37_Meet.f a b c d = some (if (VB a b && VB c d) = true then mk (mx a c) (mn b d) else (0, 0, false)) := by
  unfold flagstoneref37_Meet.f
  rw [rvalid_f]; simp only [Option.bind_some]
  cases h1 : VB a b
  · simp
  · rw [if_pos rfl, rvalid_f]; simp only [Option.bind_some, Bool.true_and]
    cases h2 : VB c d
    · simp
    · rw [if_pos rfl, if_pos rfl, checked_f]; simp only [Option.bind_some]
theorem rhull_f (a b c d : Int) : flagstoneref37_Hull.f a b c d = some (if (VB a b && VB c d) = true then mk (mn a c) (mx b d) else (0, 0, false)) := by
  unfold flagstoneref37_Hull.f
  rw [rvalid_f]; simp only [Option.bind_some]
  cases h1 : VB a b
  · simp
  · rw [if_pos rfl, rvalid_f]; simp only [Option.bind_some, Bool.true_and]
    cases h2 : VB c d
    · simp
    · rw [VB_iff] at h1 h2
      rw [if_pos rfl, if_pos rfl, mk_yes (VB_iff.mpr (by unfold mn mx; omega))]

/-! ### Products and quotients of the reference -/
def rC (c : Option (Int × Int)) : Int × Int × Bool := match c with | none => (0, 0, false) | some p => if p.1 < -2305843009213693952 ∨ p.2 > 2305843009213693952 then (0, 0, false) else (p.1, p.2, true)
theorem size_f (x : Int) (h0 : -9223372036854775808 ≤ x) (h1 : x ≤ 9223372036854775807) : flagstoneref37_size.f x = some (abs_ x, decide (x < 0)) := by
  unfold flagstoneref37_size.f abs_
  by_cases h : x < 0
  · rw [if_pos h, if_pos h, decide_eq_true h]; congr 2; simp only [u64_mod]; omega
  · rw [if_neg h, if_neg h, decide_eq_false h]; congr 2; simp only [u64_mod]; omega
theorem rounded_f (k : Nat) (neg : Bool) {A D : Int} (hA : 0 ≤ A) (hD : 0 < D) (hq : A / D < 9223372036854775807) :
    flagstoneref37_rounded.f (k + 1) neg (A / D) (decide (A % D > 0)) = some (rC (some (fc (if neg = true then -A else A) D))) := by
  have q0 := Int.ediv_nonneg hA (Int.le_of_lt hD)
  have e := neg_div (A := A) hD
  have key : ∀ far, far = A / D + (if A % D > 0 then 1 else 0) → flagstoneref37_rounded.j0 (k + 1) neg (A / D) far = some (rC (some (fc (if neg = true then -A else A) D))) := by
    intro far hf
    rw [← hf] at e
    have f0 : A / D ≤ far := by rw [hf]; split <;> omega
    have f1 : far ≤ A / D + 1 := by rw [hf]; split <;> omega
    simp only [flagstoneref37_rounded.j0]
    unfold rC fc
    by_cases c : far > 2305843009213693952
    · rw [if_pos c]
      cases neg
      · simp only [Bool.false_eq_true, if_false]; rw [if_pos (by right; omega)]
      · simp only [if_true]; rw [if_pos (by left; omega)]
    · rw [if_neg c]
      cases neg
      · simp only [Bool.false_eq_true, if_false]; rw [if_neg (by omega), w64_eq (n := A / D) (by omega) (by omega), w64_eq (n := far) (by omega) (by omega)]; congr 2; congr 1; omega
      · simp only [if_true, Int.neg_neg]; rw [if_neg (by omega), w64_eq (n := A / D) (by omega) (by omega), w64_eq (n := far) (by omega) (by omega), w64_eq (n := -far) (by omega) (by omega), w64_eq (n := -(A / D)) (by omega) (by omega), e]
  unfold flagstoneref37_rounded.f
  by_cases h : A % D > 0
  · rw [decide_eq_true h, if_pos rfl, u64_eq (by omega) (by omega)]
    exact key _ (by rw [if_pos h])
  · rw [decide_eq_false h, if_neg (by decide)]
    exact key _ (by rw [if_neg h]; omega)
theorem rproduct_f (k : Nat) (x y : Int) (hx0 : -2305843009213693952 ≤ x) (hx1 : x ≤ 2305843009213693952) (hy0 : -2305843009213693952 ≤ y) (hy1 : y ≤ 2305843009213693952) :
    flagstoneref37_product.f (k + 1) x y = some (rC (cMul x y)) := by
  unfold flagstoneref37_product.f cMul
  have ax := abs_nn x; have ay := abs_nn y
  have bx := abs_le hx0 hx1; have by' := abs_le hy0 hy1
  have hm := mulbd ax bx ay by'
  rw [size_f x (by omega) (by omega), size_f y (by omega) (by omega)]; simp only [Option.bind_some]
  rw [mul64_f _ _ ax (by omega) ay (by omega)]; simp only [Option.bind_some]
  have hs := mul_sign x y
  generalize abs_ x * abs_ y = A at *
  by_cases h : A / 18446744073709551616 ≥ 1073741824
  · rw [if_pos (by omega), if_pos h]; rfl
  · rw [if_neg (by omega), if_neg h]
    have e1 : Go.bits .or .u64 (IntKind.u64.wrap ((A / 18446744073709551616) * 4294967296)) ((A % 18446744073709551616) / 4294967296) = A / 4294967296 := by
      rw [u64_eq (by omega) (by omega), or32 (by omega) (by omega) (by omega) (by omega)]; omega
    have e2 : decide (IntKind.u64.wrap ((A % 18446744073709551616) * 4294967296) > 0) = decide (A % 4294967296 > 0) := by
      rw [u64_mod]; apply decide_eq_decide.mpr; omega
    rw [e1, e2, rounded_f k _ (by omega) (by decide) (by omega), hs]; rfl
theorem rquotient_f (x y : Int) (hx0 : -2305843009213693952 ≤ x) (hx1 : x ≤ 2305843009213693952) (hy0 : -2305843009213693952 ≤ y) (hy1 : y ≤ 2305843009213693952) (hy : y ≠ 0) :
    Ev (fun k => flagstoneref37_quotient.f k x y) (rC (cDiv x y)) := by
  have ax := abs_nn x; have ay := abs_nn y
  have bx := abs_le hx0 hx1; have by' := abs_le hy0 hy1
  have ay' : 0 < abs_ y := by unfold abs_; split <;> omega
  have hs := div_sign x y
  have e1 : IntKind.u64.wrap (abs_ x * 4294967296) = abs_ x % 4294967296 * 4294967296 := by rw [u64_mod]; omega
  by_cases h : abs_ x / 4294967296 ≥ abs_ y
  · refine Ev.same (fun k => ?_)
    unfold flagstoneref37_quotient.f cDiv
    rw [size_f x (by omega) (by omega), size_f y (by omega) (by omega)]; simp only [Option.bind_some]
    rw [if_pos h, if_pos]
    · rfl
    · have : 2305843009213693953 ≤ abs_ x * 4294967296 / abs_ y := (Int.le_ediv_iff_mul_le ay').mpr (by omega)
      omega
  · have hd : abs_ x / 4294967296 * 18446744073709551616 + abs_ x % 4294967296 * 4294967296 = abs_ x * 4294967296 := by omega
    obtain ⟨K, hK⟩ := div64 (abs_ x / 4294967296) (abs_ x % 4294967296 * 4294967296) (abs_ y) (by omega) (by omega) (by omega) (by omega) (by omega)
    refine ⟨K + 1, fun k hk => ?_⟩
    obtain ⟨m, rfl⟩ : ∃ m, k = m + 1 := ⟨k - 1, by omega⟩
    have hk' : bits_Div64.f (m + 1) (abs_ x / 4294967296) (abs_ x % 4294967296 * 4294967296) (abs_ y) = _ := hK (m + 1) (by omega)
    show flagstoneref37_quotient.f (m + 1) x y = _
    unfold flagstoneref37_quotient.f cDiv
    rw [size_f x (by omega) (by omega), size_f y (by omega) (by omega)]; simp only [Option.bind_some]
    rw [if_neg h, e1, hk']; simp only [Option.bind_some]
    rw [hd]
    by_cases g : abs_ x * 4294967296 / abs_ y > 2305843009213693952
    · rw [if_pos g, if_pos g]; rfl
    · rw [if_neg g, if_neg g, rounded_f m _ (by omega) ay' (by omega), hs]; rfl
/-- The reference's hull of four corners. -/
def rhull4 (C : Int → Int → Option (Int × Int)) (a0 a1 b0 b1 : Int) : Int × Int × Bool :=
  if (rC (C a0 b0)).2.2 = true then (if (rC (C a0 b1)).2.2 = true then (if (rC (C a1 b0)).2.2 = true then (if (rC (C a1 b1)).2.2 = true then
    (mn (mn (mn (mn 2305843009213693952 (rC (C a0 b0)).1) (rC (C a0 b1)).1) (rC (C a1 b0)).1) (rC (C a1 b1)).1, mx (mx (mx (mx (-2305843009213693952) (rC (C a0 b0)).2.1) (rC (C a0 b1)).2.1) (rC (C a1 b0)).2.1) (rC (C a1 b1)).2.1, true)
    else (0, 0, false)) else (0, 0, false)) else (0, 0, false)) else (0, 0, false)
theorem rC_no {p : Int × Int} (h : p.1 < -2305843009213693952 ∨ p.2 > 2305843009213693952) : rC (some p) = (0, 0, false) := by unfold rC; simp only; rw [if_pos h]
theorem rC_yes {p : Int × Int} (h : ¬ (p.1 < -2305843009213693952 ∨ p.2 > 2305843009213693952)) : rC (some p) = (p.1, p.2, true) := by unfold rC; simp only; rw [if_neg h]
theorem hull4_eq (C : Int → Int → Option (Int × Int)) (a0 a1 b0 b1 : Int) (hC0 : ∀ x p, C x b0 = some p → p.1 ≤ p.2) (hC1 : ∀ x p, C x b1 = some p → p.1 ≤ p.2) : hull4 C a0 a1 b0 b1 = rhull4 C a0 a1 b0 b1 := by
  unfold hull4 rhull4
  cases e1 : C a0 b0 with
  | none => simp [rC]
  | some p =>
  cases e2 : C a0 b1 with
  | none => simp [rC]
  | some q =>
  cases e3 : C a1 b0 with
  | none => simp [rC]
  | some s =>
  cases e4 : C a1 b1 with
  | none => simp [rC]
  | some t =>
  have p1 := hC0 _ _ e1
  have q1 := hC1 _ _ e2
  have s1 := hC0 _ _ e3
  have t1 := hC1 _ _ e4
  simp only
  have L := mn4_le 2305843009213693953 p.1 q.1 s.1 t.1
  have U := mx4_ge (-2305843009213693953) p.2 q.2 s.2 t.2
  have bad : ∀ r : Int × Int, (r.1 < -2305843009213693952 ∨ r.2 > 2305843009213693952) → mn (mn (mn (mn 2305843009213693953 p.1) q.1) s.1) t.1 ≤ r.1 → r.2 ≤ mx (mx (mx (mx (-2305843009213693953) p.2) q.2) s.2) t.2 → mk (mn (mn (mn (mn 2305843009213693953 p.1) q.1) s.1) t.1) (mx (mx (mx (mx (-2305843009213693953) p.2) q.2) s.2) t.2) = (0, 0, false) := by
    intro r hr h1 h2
    unfold mk
    rw [if_neg]
    rw [VB_iff]; omega
  by_cases cp : p.1 < -2305843009213693952 ∨ p.2 > 2305843009213693952
  · rw [bad p cp (by omega) (by omega), rC_no cp, if_neg (by decide)]
  rw [rC_yes cp, if_pos rfl]
  by_cases cq : q.1 < -2305843009213693952 ∨ q.2 > 2305843009213693952
  · rw [bad q cq (by omega) (by omega), rC_no cq, if_neg (by decide)]
  rw [rC_yes cq, if_pos rfl]
  by_cases cs : s.1 < -2305843009213693952 ∨ s.2 > 2305843009213693952
  · rw [bad s cs (by omega) (by omega), rC_no cs, if_neg (by decide)]
  rw [rC_yes cs, if_pos rfl]
  by_cases ct : t.1 < -2305843009213693952 ∨ t.2 > 2305843009213693952
  · rw [bad t ct (by omega) (by omega), rC_no ct, if_neg (by decide)]
  rw [rC_yes ct, if_pos rfl]
  have em : mn 2305843009213693953 p.1 = mn 2305843009213693952 p.1 := by unfold mn; omega
  have ex : mx (-2305843009213693953) p.2 = mx (-2305843009213693952) p.2 := by unfold mx; omega
  rw [em] at L ⊢
  rw [ex] at U ⊢
  have L' : -2305843009213693952 ≤ mn (mn (mn (mn 2305843009213693952 p.1) q.1) s.1) t.1 := ge_mn (ge_mn (ge_mn (ge_mn (by omega) (by omega)) (by omega)) (by omega)) (by omega)
  have U' : mx (mx (mx (mx (-2305843009213693952) p.2) q.2) s.2) t.2 ≤ 2305843009213693952 := mx_le (mx_le (mx_le (mx_le (by omega) (by omega)) (by omega)) (by omega)) (by omega)
  rw [mk_yes (VB_iff.mpr (by omega))]
theorem cMul_le (x y : Int) (p : Int × Int) (h : cMul x y = some p) : p.1 ≤ p.2 := by
  unfold cMul at h; split at h
  · cases h
  · simp only [Option.some.injEq] at h; subst h; exact fc_le (by decide)
theorem cDiv_le (x y : Int) (hy : y ≠ 0) (p : Int × Int) (h : cDiv x y = some p) : p.1 ≤ p.2 := by
  unfold cDiv at h; split at h
  · cases h
  · simp only [Option.some.injEq] at h; subst h; exact fc_le (by unfold abs_; split <;> omega)

/-! ### The reference's loops -/
theorem rd2_0 (x y : Int) : rd [x, y] 0 = x := rfl
theorem rd2_1 (x y : Int) : rd [x, y] 1 = y := rfl
theorem td0 : wrap64 (Int.tdiv 0 2) = 0 := by decide +kernel
theorem td1 : wrap64 (Int.tdiv 1 2) = 0 := by decide +kernel
theorem td2 : wrap64 (Int.tdiv 2 2) = 1 := by decide +kernel
theorem td3 : wrap64 (Int.tdiv 3 2) = 1 := by decide +kernel
theorem tm0 : Int.tmod 0 2 = 0 := by decide +kernel
theorem tm1 : Int.tmod 1 2 = 1 := by decide +kernel
theorem tm2 : Int.tmod 2 2 = 0 := by decide +kernel
theorem tm3 : Int.tmod 3 2 = 1 := by decide +kernel
theorem rmul_l (a0 a1 b0 b1 : Int) (h : VB a0 a1 = true) (g : VB b0 b1 = true) (k : Nat) : flagstoneref37_Mul.l0 (k + 6) 2305843009213693952 (-2305843009213693952) 0 a0 a1 b0 b1 = some (rhull4 cMul a0 a1 b0 b1) := by
  rw [VB_iff] at h g
  have p1 := fun m => rproduct_f m a0 b0 (by omega) (by omega) (by omega) (by omega)
  have p2 := fun m => rproduct_f m a0 b1 (by omega) (by omega) (by omega) (by omega)
  have p3 := fun m => rproduct_f m a1 b0 (by omega) (by omega) (by omega) (by omega)
  have p4 := fun m => rproduct_f m a1 b1 (by omega) (by omega) (by omega) (by omega)
  unfold rhull4
  rw [flagstoneref37_Mul.l0]; simp only [Option.bind_some, List.length_cons, List.length_nil]
  rw [if_pos (by decide), td0, tm0, if_pos (by decide), if_pos (by decide), if_pos (by decide), if_pos (by decide), rd2_0, rd2_0, p1]; simp only [Option.bind_some]
  by_cases c1 : (rC (cMul a0 b0)).2.2 = true
  rotate_left
  · rw [if_neg c1, if_neg c1]
  rw [if_pos c1, if_pos c1, show wrap64 (0 + 1) = 1 by decide +kernel]
  rw [flagstoneref37_Mul.l0]; simp only [Option.bind_some, List.length_cons, List.length_nil]
  rw [if_pos (by decide), td1, tm1, if_pos (by decide), if_pos (by decide), if_pos (by decide), if_pos (by decide), rd2_0, rd2_1, p2]; simp only [Option.bind_some]
  by_cases c2 : (rC (cMul a0 b1)).2.2 = true
  rotate_left
  · rw [if_neg c2, if_neg c2]
  rw [if_pos c2, if_pos c2, show wrap64 (1 + 1) = 2 by decide +kernel]
  rw [flagstoneref37_Mul.l0]; simp only [Option.bind_some, List.length_cons, List.length_nil]
  rw [if_pos (by decide), td2, tm2, if_pos (by decide), if_pos (by decide), if_pos (by decide), if_pos (by decide), rd2_1, rd2_0, p3]; simp only [Option.bind_some]
  by_cases c3 : (rC (cMul a1 b0)).2.2 = true
  rotate_left
  · rw [if_neg c3, if_neg c3]
  rw [if_pos c3, if_pos c3, show wrap64 (2 + 1) = 3 by decide +kernel]
  rw [flagstoneref37_Mul.l0]; simp only [Option.bind_some, List.length_cons, List.length_nil]
  rw [if_pos (by decide), td3, tm3, if_pos (by decide), if_pos (by decide), if_pos (by decide), if_pos (by decide), rd2_1, rd2_1, p4]; simp only [Option.bind_some]
  by_cases c4 : (rC (cMul a1 b1)).2.2 = true
  rotate_left
  · rw [if_neg c4, if_neg c4]
  rw [if_pos c4, if_pos c4, show wrap64 (3 + 1) = 4 by decide +kernel]
  rw [flagstoneref37_Mul.l0]
  rw [if_neg (by decide)]
theorem rmul_f (a b c d : Int) : Ev (fun k => flagstoneref37_Mul.f k a b c d) (if (VB a b && VB c d) = true then rhull4 cMul a b c d else (0, 0, false)) := by
  refine ⟨7, fun k hk => ?_⟩
  obtain ⟨m, rfl⟩ : ∃ m, k = m + 7 := ⟨k - 7, by omega⟩
  show flagstoneref37_Mul.f (m + 7) a b c d = _
  unfold flagstoneref37_Mul.f
  rw [rvalid_f, rvalid_f]; simp only [Option.bind_some]
  cases h1 : VB a b
  · rw [if_neg (by decide), if_neg (by simp), flagstoneref37_Mul.j0, if_pos rfl]
  · rw [if_pos rfl]
    cases h2 : VB c d
    · rw [if_neg (by decide), flagstoneref37_Mul.j0, if_pos (by decide)]
    · rw [if_pos (by decide), flagstoneref37_Mul.j0, if_neg (by decide)]
      exact rmul_l a b c d h1 h2 m
theorem rdiv_l (a0 a1 b0 b1 : Int) (h : VB a0 a1 = true) (g : VB b0 b1 = true) (z : ¬ (b0 ≤ 0 ∧ b1 ≥ 0)) : ∃ K, ∀ k, K ≤ k → flagstoneref37_Div.l0 (k + 6) 2305843009213693952 (-2305843009213693952) 0 a0 a1 b0 b1 = some (rhull4 cDiv a0 a1 b0 b1) := by
  rw [VB_iff] at h g
  obtain ⟨K1, p1⟩ := rquotient_f a0 b0 (by omega) (by omega) (by omega) (by omega) (by omega)
  obtain ⟨K2, p2⟩ := rquotient_f a0 b1 (by omega) (by omega) (by omega) (by omega) (by omega)
  obtain ⟨K3, p3⟩ := rquotient_f a1 b0 (by omega) (by omega) (by omega) (by omega) (by omega)
  obtain ⟨K4, p4⟩ := rquotient_f a1 b1 (by omega) (by omega) (by omega) (by omega) (by omega)
  refine ⟨max (max K1 K2) (max K3 K4), fun k hk => ?_⟩
  have p1' : flagstoneref37_quotient.f (k + 5) a0 b0 = _ := p1 _ (by omega)
  have p2' : flagstoneref37_quotient.f (k + 4) a0 b1 = _ := p2 _ (by omega)
  have p3' : flagstoneref37_quotient.f (k + 3) a1 b0 = _ := p3 _ (by omega)
  have p4' : flagstoneref37_quotient.f (k + 2) a1 b1 = _ := p4 _ (by omega)
  unfold rhull4
  rw [flagstoneref37_Div.l0]; simp only [Option.bind_some, List.length_cons, List.length_nil]
  rw [if_pos (by decide), td0, tm0, if_pos (by decide), if_pos (by decide), if_pos (by decide), if_pos (by decide), rd2_0, rd2_0, p1']; simp only [Option.bind_some]
  by_cases c1 : (rC (cDiv a0 b0)).2.2 = true
  rotate_left
  · rw [if_neg c1, if_neg c1]
  rw [if_pos c1, if_pos c1, show wrap64 (0 + 1) = 1 by decide +kernel]
  rw [flagstoneref37_Div.l0]; simp only [Option.bind_some, List.length_cons, List.length_nil]
  rw [if_pos (by decide), td1, tm1, if_pos (by decide), if_pos (by decide), if_pos (by decide), if_pos (by decide), rd2_0, rd2_1, p2']; simp only [Option.bind_some]
  by_cases c2 : (rC (cDiv a0 b1)).2.2 = true
  rotate_left
  · rw [if_neg c2, if_neg c2]
  rw [if_pos c2, if_pos c2, show wrap64 (1 + 1) = 2 by decide +kernel]
  rw [flagstoneref37_Div.l0]; simp only [Option.bind_some, List.length_cons, List.length_nil]
  rw [if_pos (by decide), td2, tm2, if_pos (by decide), if_pos (by decide), if_pos (by decide), if_pos (by decide), rd2_1, rd2_0, p3']; simp only [Option.bind_some]
  by_cases c3 : (rC (cDiv a1 b0)).2.2 = true
  rotate_left
  · rw [if_neg c3, if_neg c3]
  rw [if_pos c3, if_pos c3, show wrap64 (2 + 1) = 3 by decide +kernel]
  rw [flagstoneref37_Div.l0]; simp only [Option.bind_some, List.length_cons, List.length_nil]
  rw [if_pos (by decide), td3, tm3, if_pos (by decide), if_pos (by decide), if_pos (by decide), if_pos (by decide), rd2_1, rd2_1, p4']; simp only [Option.bind_some]
  by_cases c4 : (rC (cDiv a1 b1)).2.2 = true
  rotate_left
  · rw [if_neg c4, if_neg c4]
  rw [if_pos c4, if_pos c4, show wrap64 (3 + 1) = 4 by decide +kernel]
  rw [flagstoneref37_Div.l0]
  rw [if_neg (by decide)]
theorem rdiv_f (a b c d : Int) : Ev (fun k => flagstoneref37_Div.f k a b c d) (if (VB a b && VB c d) = true then (if c ≤ 0 ∧ d ≥ 0 then (0, 0, false) else rhull4 cDiv a b c d) else (0, 0, false)) := by
  have hno : ∀ k, flagstoneref37_Div.j0 (k + 1) true a b c d = some (0, 0, false) := fun k => by rw [flagstoneref37_Div.j0, if_pos rfl]
  cases h1 : VB a b
  · refine Ev.ans (fun k => ?_)
    unfold flagstoneref37_Div.f
    rw [rvalid_f, rvalid_f, h1]; simp only [Option.bind_some]
    rw [if_neg (by decide), hno]; rfl
  cases h2 : VB c d
  · refine Ev.ans (fun k => ?_)
    unfold flagstoneref37_Div.f
    rw [rvalid_f, rvalid_f, h1, h2]; simp only [Option.bind_some]
    rw [if_pos trivial, if_neg (by decide), hno]; rfl
  rw [if_pos (by decide)]
  by_cases z : c ≤ 0 ∧ d ≥ 0
  · rw [if_pos z]
    refine Ev.ans (fun k => ?_)
    unfold flagstoneref37_Div.f
    rw [rvalid_f, rvalid_f, h1, h2]; simp only [Option.bind_some]
    rw [if_pos trivial, if_pos trivial, if_pos z.1, decide_eq_true z.2, hno]
  · rw [if_neg z]
    obtain ⟨K, hK⟩ := rdiv_l a b c d h1 h2 z
    refine ⟨K + 7, fun k hk => ?_⟩
    obtain ⟨m, rfl⟩ : ∃ m, k = m + 7 := ⟨k - 7, by omega⟩
    have hj : flagstoneref37_Div.j0 (m + 7) false a b c d = some (rhull4 cDiv a b c d) := by
      rw [flagstoneref37_Div.j0, if_neg (by decide)]; exact hK m (by omega)
    show flagstoneref37_Div.f (m + 7) a b c d = _
    unfold flagstoneref37_Div.f
    rw [rvalid_f, rvalid_f, h1, h2]; simp only [Option.bind_some]
    rw [if_pos trivial, if_pos trivial]
    by_cases z1 : c ≤ 0
    · rw [if_pos z1, decide_eq_false (by omega), hj]
    · rw [if_neg z1, hj]

/-! ### The reference's root -/
theorem least_f (m n : Int) (hm0 : 0 ≤ m) (hm1 : m ≤ 140737488355328) (hn0 : 0 ≤ n) (hn1 : n ≤ 2305843009213693952) : flagstoneref37_least.f m n = some (decide (n * 4294967296 ≤ m * m)) := by
  unfold flagstoneref37_least.f
  have hs := mulbd (a := m) (b := m) hm0 hm1 hm0 hm1
  rw [u64_eq hm0 (by omega), u64_eq hn0 (by omega), mul64_f m m hm0 (by omega) hm0 (by omega)]; simp only [Option.bind_some]
  generalize m * m = S at *
  have e : IntKind.u64.wrap (n * 4294967296) = n * 4294967296 % 18446744073709551616 := u64_mod _
  by_cases c : S / 18446744073709551616 > n / 4294967296
  · rw [if_pos c, decide_eq_true (by omega)]
  · rw [if_neg c]
    by_cases d : S / 18446744073709551616 = n / 4294967296
    · rw [if_pos d, e]; congr 1; apply decide_eq_decide.mpr; omega
    · rw [if_neg d, decide_eq_false (by omega)]
/-- c is the root of S, rounded up. -/
def IsCeil (c S : Int) : Prop := 0 ≤ c ∧ S ≤ c * c ∧ (c = 0 ∨ (c - 1) * (c - 1) < S)
theorem rroot_l (n : Int) (hn0 : 0 ≤ n) (hn1 : n ≤ 2305843009213693952) : ∀ (d : Nat) (lo hi : Int), (hi - lo).toNat ≤ d → 0 ≤ lo → lo ≤ hi → hi ≤ 140737488355328 → (lo = 0 ∨ (lo - 1) * (lo - 1) < n * 4294967296) → n * 4294967296 ≤ hi * hi →
    ∃ c, IsCeil c (n * 4294967296) ∧ c ≤ 140737488355328 ∧ Ev (fun k => flagstoneref37_root.l0 k n lo hi) c := by
  intro d
  induction d with
  | zero =>
    intro lo hi hd h0 h1 h2 h3 h4
    obtain rfl : lo = hi := by omega
    refine ⟨lo, ⟨h0, h4, h3⟩, h2, Ev.ans (fun k => ?_)⟩
    simp only [flagstoneref37_root.l0]
    rw [if_neg (by omega)]
  | succ d ih =>
    intro lo hi hd h0 h1 h2 h3 h4
    by_cases e : lo < hi
    · have em : wrap64 (lo + wrap64 (Int.tdiv (wrap64 (hi - lo)) 2)) = lo + (hi - lo) / 2 := by
        rw [w64_eq (n := hi - lo) (by omega) (by omega), Int.tdiv_eq_ediv_of_nonneg (by omega), w64_eq (n := (hi - lo) / 2) (by omega) (by omega), w64_eq (by omega) (by omega)]
      have hl := least_f (lo + (hi - lo) / 2) n (by omega) (by omega) hn0 hn1
      by_cases c : n * 4294967296 ≤ (lo + (hi - lo) / 2) * (lo + (hi - lo) / 2)
      · obtain ⟨r, hr, hr2, he⟩ := ih lo (lo + (hi - lo) / 2) (by omega) h0 (by omega) (by omega) h3 c
        refine ⟨r, hr, hr2, Ev.step (fun k => ?_) he⟩
        simp only [flagstoneref37_root.l0]
        rw [if_pos e, em, hl, decide_eq_true c]; simp only [Option.bind_some, if_true]
      · obtain ⟨r, hr, hr2, he⟩ := ih (lo + (hi - lo) / 2 + 1) hi (by omega) (by omega) (by omega) h2 (.inr (by rw [Int.add_sub_cancel]; omega)) h4
        refine ⟨r, hr, hr2, Ev.step (fun k => ?_) he⟩
        simp only [flagstoneref37_root.l0]
        rw [if_pos e, em, hl, decide_eq_false c]; simp only [Option.bind_some]
        rw [if_neg (by decide), w64_eq (by omega) (by omega)]
    · obtain rfl : lo = hi := by omega
      refine ⟨lo, ⟨h0, h4, h3⟩, h2, Ev.ans (fun k => ?_)⟩
      simp only [flagstoneref37_root.l0]
      rw [if_neg (by omega)]
theorem rroot_f (n : Int) (hn0 : 0 ≤ n) (hn1 : n ≤ 2305843009213693952) : ∃ c, IsCeil c (n * 4294967296) ∧ c ≤ 140737488355328 ∧ Ev (fun k => flagstoneref37_root.f k n) c := by
  obtain ⟨c, h1, h2, h3⟩ := rroot_l n hn0 hn1 140737488355328 0 140737488355328 (by omega) (by omega) (by omega) (by omega) (.inl rfl) (by omega)
  exact ⟨c, h1, h2, h3⟩
theorem ceil_root {c r S : Int} (h : IsCeil c S) (g : IsRoot r S) : c = if r * r = S then r else r + 1 := by
  obtain ⟨c0, c1, c2⟩ := h
  obtain ⟨r0, r1, r2⟩ := g
  have a1 : r ≤ c := by
    have : ¬ c < r := fun hlt => by have := sq_lt c0 hlt; omega
    omega
  have a2 : c ≤ r + 1 := by
    rcases c2 with c2 | c2
    · omega
    · have := of_sq_lt (a := c - 1) (b := r + 1) (by omega) (by omega); omega
  by_cases e : r * r = S
  · rw [if_pos e]
    rcases c2 with c2 | c2
    · omega
    · have := of_sq_lt (a := c - 1) (b := r) r0 (by omega); omega
  · rw [if_neg e]
    have : c ≠ r := by rintro rfl; omega
    omega
theorem rsqrt_yes (a b : Int) (h : VB a b = true) (g : 0 ≤ a) {s t : Int} (hs : IsRoot s (a * 4294967296)) (ht : IsRoot t (b * 4294967296)) : Ev (fun k => flagstoneref37_Sqrt.f k a b) (s, if t * t = b * 4294967296 then t else t + 1, true) := by
  have hv := rvalid_f a b
  rw [h] at hv
  rw [VB_iff] at h
  obtain ⟨c, hc, cb, ec⟩ := rroot_f a g (by omega)
  obtain ⟨d, hd, db, ed⟩ := rroot_f b (by omega) (by omega)
  have e1 := ceil_root hc hs
  have e2 := ceil_root hd ht
  obtain ⟨K1, ec⟩ := ec
  obtain ⟨K2, ed⟩ := ed
  refine ⟨max K1 K2 + 1, fun k hk => ?_⟩
  obtain ⟨m, rfl⟩ : ∃ m, k = m + 1 := ⟨k - 1, by omega⟩
  have ec' : flagstoneref37_root.f m a = _ := ec m (by omega)
  have ed' : flagstoneref37_root.f m b = _ := ed m (by omega)
  show flagstoneref37_Sqrt.f (m + 1) a b = _
  unfold flagstoneref37_Sqrt.f
  rw [hv]; simp only [Option.bind_some]
  rw [if_pos trivial, decide_eq_false (by omega)]
  simp only [flagstoneref37_Sqrt.j0]
  rw [if_neg (by decide), ec', ed']; simp only [Option.bind_some]
  have c0 := hc.1
  have hcc := mulbd (a := c) (b := c) c0 cb c0 cb
  rw [u64_eq (n := c) c0 (by omega), u64_eq (n := a) g (by omega), mul64_f c c c0 (by omega) c0 (by omega)]; simp only [Option.bind_some]
  rw [← e2, u64_mod]
  by_cases e : s * s = a * 4294967296
  · rw [if_pos e] at e1
    subst e1
    rw [if_pos (by omega), if_pos (by omega)]
  · rw [if_neg e] at e1
    have hne : c * c ≠ a * 4294967296 := by
      intro hx
      have := hs.2.2; rw [← e1] at this; omega
    have es : wrap64 (c - 1) = s := by rw [w64_eq (by omega) (by omega)]; omega
    rw [es]
    by_cases x : c * c / 18446744073709551616 = a / 4294967296
    · rw [if_pos x, if_neg (by omega)]
    · rw [if_neg x]
theorem rsqrt_no (a b : Int) (h : ¬ (VB a b = true ∧ 0 ≤ a)) : Ev (fun k => flagstoneref37_Sqrt.f k a b) (0, 0, false) := by
  have hv := rvalid_f a b
  refine Ev.ans (fun k => ?_)
  unfold flagstoneref37_Sqrt.f
  rw [hv]; simp only [Option.bind_some]
  cases e : VB a b
  · rw [if_neg (by decide)]
    simp only [flagstoneref37_Sqrt.j0]
    rw [if_pos trivial]
  · rw [if_pos rfl, decide_eq_true (by rw [e] at h; simp at h; omega)]
    simp only [flagstoneref37_Sqrt.j0]
    rw [if_pos trivial]

/-! ### Program and reference answer alike -/
theorem alike (j a b c d : Int) (h0 : 0 ≤ j) (h1 : j < 7) : ∃ r, Ev (fun k => flagstonelaw37_operate.f k j a b c d) r ∧ Ev (fun k => flagstonelaw37_refer.f k j a b c d) r := by
  have hj : j = 0 ∨ j = 1 ∨ j = 2 ∨ j = 3 ∨ j = 4 ∨ j = 5 ∨ j = 6 := by omega
  rcases hj with rfl | rfl | rfl | rfl | rfl | rfl | rfl
  · refine ⟨if (VB a b && VB c d) = true then mk (a + c) (b + d) else (0, 0, false), Ev.same (fun k => ?_), Ev.same (fun k => ?_)⟩
    · unfold flagstonelaw37_operate.f
      rw [if_pos rfl, add_f]; simp only [Option.bind_some]
    · unfold flagstonelaw37_refer.f
      rw [if_pos rfl, radd_f]; simp only [Option.bind_some]
  · refine ⟨if (VB a b && VB c d) = true then mk (a - d) (b - c) else (0, 0, false), Ev.same (fun k => ?_), Ev.same (fun k => ?_)⟩
    · unfold flagstonelaw37_operate.f
      rw [if_neg (by decide), if_pos rfl, sub_f]; simp only [Option.bind_some]
    · unfold flagstonelaw37_refer.f
      rw [if_neg (by decide), if_pos rfl, rsub_f]; simp only [Option.bind_some]
  · refine ⟨if (VB a b && VB c d) = true then hull4 cMul a b c d else (0, 0, false), Ev.same (fun k => ?_), ?_⟩
    · unfold flagstonelaw37_operate.f
      rw [if_neg (by decide), if_neg (by decide), if_pos rfl, mul_f]; simp only [Option.bind_some]
    · have := rmul_f a b c d
      rw [← hull4_eq cMul a b c d (fun x p => cMul_le x c p) (fun x p => cMul_le x d p)] at this
      refine use this (F' := fun _ => some _) (Ev.now _) (fun k hk => ?_)
      unfold flagstonelaw37_refer.f
      rw [if_neg (by decide), if_neg (by decide), if_pos rfl, hk]; simp only [Option.bind_some]
  · refine ⟨if (VB a b && VB c d) = true then (if c ≤ 0 ∧ d ≥ 0 then (0, 0, false) else hull4 cDiv a b c d) else (0, 0, false), ?_, ?_⟩
    · refine use (div_f a b c d) (F' := fun _ => some _) (Ev.now _) (fun k hk => ?_)
      unfold flagstonelaw37_operate.f
      rw [if_neg (by decide), if_neg (by decide), if_neg (by decide), if_pos rfl, hk]; simp only [Option.bind_some]
    · have := rdiv_f a b c d
      have e : (if (VB a b && VB c d) = true then (if c ≤ 0 ∧ d ≥ 0 then (0, 0, false) else rhull4 cDiv a b c d) else (0, 0, false)) = (if (VB a b && VB c d) = true then (if c ≤ 0 ∧ d ≥ 0 then (0, 0, false) else hull4 cDiv a b c d) else (0, 0, false)) := by
        by_cases v : (VB a b && VB c d) = true
        · rw [if_pos v, if_pos v]
          rw [Bool.and_eq_true, VB_iff, VB_iff] at v
          by_cases z : c ≤ 0 ∧ d ≥ 0
          · rw [if_pos z, if_pos z]
          · rw [if_neg z, if_neg z, hull4_eq cDiv a b c d (fun x p => cDiv_le x c (by omega) p) (fun x p => cDiv_le x d (by omega) p)]
        · rw [if_neg v, if_neg v]
      rw [e] at this
      refine use this (F' := fun _ => some _) (Ev.now _) (fun k hk => ?_)
      unfold flagstonelaw37_refer.f
      rw [if_neg (by decide), if_neg (by decide), if_neg (by decide), if_pos rfl, hk]; simp only [Option.bind_some]
  · refine ⟨if (VB a b && VB c d) = true then mk (mx a c) (mn b d) else (0, 0, false), Ev.same (fun k => ?_), Ev.same (fun k => ?_)⟩
    · unfold flagstonelaw37_operate.f
      rw [if_neg (by decide), if_neg (by decide), if_neg (by decide), if_neg (by decide), if_pos rfl, meet_f]; simp only [Option.bind_some]
    · unfold flagstonelaw37_refer.f
      rw [if_neg (by decide), if_neg (by decide), if_neg (by decide), if_neg (by decide), if_pos rfl, rmeet_f]; simp only [Option.bind_some]
  · refine ⟨if (VB a b && VB c d) = true then mk (mn a c) (mx b d) else (0, 0, false), Ev.same (fun k => ?_), Ev.same (fun k => ?_)⟩
    · unfold flagstonelaw37_operate.f
      rw [if_neg (by decide), if_neg (by decide), if_neg (by decide), if_neg (by decide), if_neg (by decide), if_pos rfl, hull_f]; simp only [Option.bind_some]
    · unfold flagstonelaw37_refer.f
      rw [if_neg (by decide), if_neg (by decide), if_neg (by decide), if_neg (by decide), if_neg (by decide), if_pos rfl, rhull_f]; simp only [Option.bind_some]
  · have key : ∀ r, Ev (fun k => interval_Sqrt.f k a b) r → Ev (fun k => flagstoneref37_Sqrt.f k a b) r → ∃ r, Ev (fun k => flagstonelaw37_operate.f k 6 a b c d) r ∧ Ev (fun k => flagstonelaw37_refer.f k 6 a b c d) r := by
      intro r e1 e2
      refine ⟨r, ?_, ?_⟩
      · refine use e1 (F' := fun _ => some r) (Ev.now _) (fun k hk => ?_)
        unfold flagstonelaw37_operate.f
        rw [if_neg (by decide), if_neg (by decide), if_neg (by decide), if_neg (by decide), if_neg (by decide), if_neg (by decide), hk]; simp only [Option.bind_some]
      · refine use e2 (F' := fun _ => some r) (Ev.now _) (fun k hk => ?_)
        unfold flagstonelaw37_refer.f
        rw [if_neg (by decide), if_neg (by decide), if_neg (by decide), if_neg (by decide), if_neg (by decide), if_neg (by decide), hk]; simp only [Option.bind_some]
    by_cases v : VB a b = true ∧ 0 ≤ a
    · obtain ⟨s, t, hs, ht, _, e⟩ := sqrt_yes a b v.1 v.2
      exact key _ e (rsqrt_yes a b v.1 v.2 hs ht)
    · exact key _ (sqrt_no a b v) (rsqrt_no a b v)
theorem agree_l (a b c d : Int) : ∀ (n : Nat) (j : Int), 0 ≤ j → j + n = 7 → Ev (fun k => flagstonelaw37_agree.l0 k j a b c d) true := by
  intro n
  induction n with
  | zero =>
    intro j h0 h1
    obtain rfl : j = 7 := by omega
    refine Ev.ans (fun k => ?_)
    simp only [flagstonelaw37_agree.l0]
    rw [if_neg (by decide), valid_f, rvalid_f]; simp only [Option.bind_some]
    simp
  | succ n ih =>
    intro j h0 h1
    obtain ⟨r, ⟨K1, o1⟩, ⟨K2, o2⟩⟩ := alike j a b c d h0 (by omega)
    obtain ⟨K3, o3⟩ := ih (j + 1) (by omega) (by omega)
    refine ⟨max (max K1 K2) K3 + 1, fun k hk => ?_⟩
    obtain ⟨m, rfl⟩ : ∃ m, k = m + 1 := ⟨k - 1, by omega⟩
    have o1' : flagstonelaw37_operate.f m j a b c d = _ := o1 m (by omega)
    have o2' : flagstonelaw37_refer.f m j a b c d = _ := o2 m (by omega)
    have o3' : flagstonelaw37_agree.l0 m (j + 1) a b c d = _ := o3 m (by omega)
    simp only [flagstonelaw37_agree.l0]
    rw [if_pos (by omega), o1', o2']; simp only [Option.bind_some]
    rw [w64_eq (by omega) (by omega), o3']
    rw [if_neg (by simp), if_neg (by simp)]
theorem agree_f (a b c d : Int) : Ev (fun k => flagstonelaw37_agree.f k a b c d) true := agree_l a b c d 7 0 (by omega) (by omega)
end Go.Proofs.Ytplpmndchdockaa.M
