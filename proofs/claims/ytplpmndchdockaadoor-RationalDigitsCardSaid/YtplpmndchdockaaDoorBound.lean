import Derived.Test.YtplpmndchdockaaDoorFrac
/-! Bounds of fractions. -/
namespace Go.Proofs.YtplpmndchdockaaDoor.M
set_option autoImplicit false

/-- Numerator and denominator have a bound. -/
structure Bd (q : Rat) (M : Nat) : Prop where
  num : q.num.natAbs ≤ M
  den : q.den ≤ M
theorem Bd.mkRat {a : Int} {d M : Nat} (hd : d ≠ 0) (ha : a.natAbs ≤ M) (h : d ≤ M) : Bd (mkRat a d) M := by
  have hg := gcd_pos' (n := a.natAbs) hd
  constructor
  · rw [Rat.num_mkRat, if_neg hd]
    have hdv : ((Nat.gcd d a.natAbs : Nat) : Int) ∣ a := by rw [Int.ofNat_dvd_left]; exact Nat.gcd_dvd_right d _
    rw [Int.natAbs_ediv_of_dvd hdv]
    exact Nat.le_trans (Nat.div_le_self _ _) ha
  · rw [Rat.den_mkRat, if_neg hd]
    exact Nat.le_trans (Nat.div_le_self _ _) h
theorem Bd.one_le {q : Rat} {M : Nat} (h : Bd q M) : 1 ≤ M := Nat.le_trans (Nat.pos_of_ne_zero q.den_nz) h.den
theorem Bd.le {q : Rat} {M N : Nat} (h : Bd q M) (g : M ≤ N) : Bd q N := ⟨Nat.le_trans h.num g, Nat.le_trans h.den g⟩
theorem natAbs_mul_le {a b : Int} {M N : Nat} (h : a.natAbs ≤ M) (g : b.natAbs ≤ N) : (a * b).natAbs ≤ M * N := by
  rw [Int.natAbs_mul]; exact Nat.mul_le_mul h g
theorem Bd.add {p q : Rat} {M N : Nat} (h : Bd p M) (g : Bd q N) : Bd (p + q) (2 * (M * N)) := by
  rw [Rat.add_def']
  refine Bd.mkRat (Nat.mul_ne_zero p.den_nz q.den_nz) ?_ ?_
  · have h1 := natAbs_mul_le h.num (show (q.den : Int).natAbs ≤ N from g.den)
    have h2 := natAbs_mul_le g.num (show (p.den : Int).natAbs ≤ M from h.den)
    have h3 : N * M = M * N := Nat.mul_comm _ _
    omega
  · have := Nat.mul_le_mul h.den g.den; omega
theorem Bd.neg {p : Rat} {M : Nat} (h : Bd p M) : Bd (-p) M := ⟨by rw [Rat.neg_num, Int.natAbs_neg]; exact h.num, by rw [Rat.neg_den]; exact h.den⟩
theorem Bd.sub {p q : Rat} {M N : Nat} (h : Bd p M) (g : Bd q N) : Bd (p - q) (2 * (M * N)) := by
  rw [Rat.sub_eq_add_neg]; exact h.add g.neg
theorem Bd.mul {p q : Rat} {M N : Nat} (h : Bd p M) (g : Bd q N) : Bd (p * q) (M * N) := by
  rw [Rat.mul_def']
  exact Bd.mkRat (Nat.mul_ne_zero p.den_nz q.den_nz) (natAbs_mul_le h.num g.num) (Nat.mul_le_mul h.den g.den)
theorem Bd.inv {q : Rat} {M : Nat} (h : Bd q M) : Bd q⁻¹ M := by
  constructor
  · rw [Rat.num_inv]
    rcases Int.lt_trichotomy q.num 0 with h0 | h0 | h0
    · rw [Int.sign_eq_neg_one_of_neg h0]; have := h.den; omega
    · rw [h0]; simp
    · rw [Int.sign_eq_one_of_pos h0]; have := h.den; omega
  · rw [Rat.den_inv]; split
    · exact h.one_le
    · exact h.num
theorem Bd.div {p q : Rat} {M N : Nat} (h : Bd p M) (g : Bd q N) : Bd (p / q) (M * N) := by
  rw [Rat.div_def]; exact h.mul g.inv
theorem Bd.fits {q : Rat} {M : Nat} (h : Bd q M) (g : M < 10 ^ MD) : Fits q := ⟨Nat.lt_of_le_of_lt h.num g, Nat.lt_of_le_of_lt h.den g⟩
theorem fits_neg {q : Rat} : Fits (-q) ↔ Fits q := by unfold Fits; rw [Rat.neg_num, Int.natAbs_neg, Rat.neg_den]
/-- The bound as a power of two. -/
def B2 (q : Rat) (e : Nat) : Prop := Bd q (2 ^ e)
theorem B2.le {q : Rat} {e f : Nat} (h : B2 q e) (g : e ≤ f) : B2 q f := Bd.le h (Nat.pow_le_pow_right (by omega) g)
theorem B2.add {p q : Rat} {e f : Nat} (h : B2 p e) (g : B2 q f) : B2 (p + q) (e + f + 1) := by
  have := Bd.add h g; unfold B2; rw [Nat.pow_succ, Nat.pow_add, Nat.mul_comm]; exact this
theorem B2.neg {p : Rat} {e : Nat} (h : B2 p e) : B2 (-p) e := Bd.neg h
theorem B2.sub {p q : Rat} {e f : Nat} (h : B2 p e) (g : B2 q f) : B2 (p - q) (e + f + 1) := by rw [Rat.sub_eq_add_neg]; exact h.add g.neg
theorem B2.mul {p q : Rat} {e f : Nat} (h : B2 p e) (g : B2 q f) : B2 (p * q) (e + f) := by unfold B2; rw [Nat.pow_add]; exact Bd.mul h g
theorem B2.div {p q : Rat} {e f : Nat} (h : B2 p e) (g : B2 q f) : B2 (p / q) (e + f) := by unfold B2; rw [Nat.pow_add]; exact Bd.div h g
theorem pw8 {e n : Nat} (h : n ≠ 0) (g : e ≤ 3 * n) : 2 ^ e < 10 ^ n := by
  refine Nat.lt_of_le_of_lt (Nat.pow_le_pow_right (by omega) g) ?_
  rw [Nat.pow_mul]; exact Nat.pow_lt_pow_left (by decide) h
theorem B2.fits {q : Rat} {e : Nat} (h : B2 q e) (g : e ≤ 1200) : Fits q := Bd.fits h (pw8 (n := MD) (by unfold MD; omega) (by unfold MD; omega))

/-- Rounded down, of a fraction of integers. -/
theorem floor_mkRat (a : Int) {d : Nat} (hd : d ≠ 0) : (mkRat a d).floor = a / d := by
  rw [Rat.floor_def, Rat.num_mkRat, Rat.den_mkRat, if_neg hd, if_neg hd]
  have hg := gcd_pos' (n := a.natAbs) hd
  have h1 : ((Nat.gcd d a.natAbs : Nat) : Int) ∣ a := by rw [Int.ofNat_dvd_left]; exact Nat.gcd_dvd_right d _
  obtain ⟨e, he⟩ := Nat.gcd_dvd_left d a.natAbs
  obtain ⟨b, hb⟩ := h1
  generalize Nat.gcd d a.natAbs = g at *
  subst he
  have hg' : ((g : Nat) : Int) ≠ 0 := by omega
  rw [hb, Nat.mul_div_cancel_left _ hg, Int.mul_ediv_cancel_left _ hg', Int.natCast_mul, Int.mul_ediv_mul_of_pos _ _ (by omega)]
end Go.Proofs.YtplpmndchdockaaDoor.M
