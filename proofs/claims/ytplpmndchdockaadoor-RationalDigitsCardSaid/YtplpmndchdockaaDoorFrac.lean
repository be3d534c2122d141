import Derived.Test.YtplpmndchdockaaDoorDigits
/-! Fractions in parts, and their texts. -/
namespace Go.Proofs.YtplpmndchdockaaDoor.M
set_option autoImplicit false

def sg (neg : Bool) (n : Nat) : Int := if neg then -(n : Int) else n
theorem sg_abs (b : Bool) (n : Nat) : (sg b n).natAbs = n := by unfold sg; split <;> omega
/-- The number of a fraction in parts. -/
def fr (neg : Bool) (n d : Nat) : Rat := mkRat (sg neg n) d
theorem fr_num {b : Bool} {n d : Nat} (hd : d ≠ 0) : (fr b n d).num.natAbs = n / Nat.gcd d n := by
  unfold fr; rw [Rat.num_mkRat, if_neg hd, sg_abs]
  have : ((Nat.gcd d n : Nat) : Int) ≠ 0 := by have := Nat.gcd_pos_of_pos_left n (Nat.pos_of_ne_zero hd); omega
  have hdv : ((Nat.gcd d n : Nat) : Int) ∣ sg b n := by rw [Int.ofNat_dvd_left, sg_abs]; exact Nat.gcd_dvd_right d n
  rw [Int.natAbs_ediv_of_dvd hdv, sg_abs]; rfl
theorem fr_den {b : Bool} {n d : Nat} (hd : d ≠ 0) : (fr b n d).den = d / Nat.gcd d n := by
  unfold fr; rw [Rat.den_mkRat, if_neg hd, sg_abs]
theorem gcd_pos' {n d : Nat} (hd : d ≠ 0) : 0 < Nat.gcd d n := Nat.gcd_pos_of_pos_left n (Nat.pos_of_ne_zero hd)
theorem fr_neg {b : Bool} {n d : Nat} (hd : d ≠ 0) : (fr b n d).num < 0 ↔ b = true ∧ n / Nat.gcd d n ≠ 0 := by
  have h1 := fr_num (b := b) (n := n) hd
  unfold fr at h1 ⊢
  rw [Rat.num_mkRat, if_neg hd, sg_abs] at h1 ⊢
  have hg : (0 : Int) < (Nat.gcd d n : Nat) := by have := gcd_pos' (n := n) hd; omega
  cases b with
  | false =>
    have : 0 ≤ sg false n / ((Nat.gcd d n : Nat) : Int) := Int.ediv_nonneg (by simp [sg]) (Int.le_of_lt hg)
    simp; exact this
  | true =>
    have h3 : sg true n / ((Nat.gcd d n : Nat) : Int) ≤ 0 := Int.ediv_nonpos_of_nonpos_of_neg (by simp [sg]) (by omega)
    simp only [true_and]
    omega
theorem fr_eq {b : Bool} {n d : Nat} {b' : Bool} {n' d' : Nat} (hd : d ≠ 0) (hd' : d' ≠ 0) (h : sg b n * d' = sg b' n' * d) : fr b n d = fr b' n' d' := by
  unfold fr; exact (Rat.mkRat_eq_iff hd hd').mpr h
theorem fr_add {b c : Bool} {n m d e : Nat} (hd : d ≠ 0) (he : e ≠ 0) : fr b n d + fr c m e = mkRat (sg b n * e + sg c m * d) (d * e) := by
  unfold fr; exact Rat.mkRat_add_mkRat _ _ hd he
theorem fr_neg' (b : Bool) (n d : Nat) : - fr b n d = fr (!b) n d := by
  unfold fr; rw [Rat.neg_mkRat]; congr 1; unfold sg; cases b <;> simp
theorem sg_mul (b c : Bool) (n m : Nat) : sg b n * sg c m = sg (b != c) (n * m) := by
  unfold sg; cases b <;> cases c <;> simp [Int.neg_mul, Int.mul_neg]
theorem fr_mul (b c : Bool) (n m d e : Nat) : fr b n d * fr c m e = fr (b != c) (n * m) (d * e) := by
  unfold fr; rw [Rat.mkRat_mul_mkRat, sg_mul]
theorem fr_zero {b : Bool} {n d : Nat} (hd : d ≠ 0) : fr b n d = 0 ↔ n = 0 := by
  unfold fr; rw [Rat.mkRat_eq_zero hd]; unfold sg; split <;> omega
theorem fr_div (b c : Bool) (n m d e : Nat) (hd : d ≠ 0) (he : e ≠ 0) (hm : m ≠ 0) : fr b n d / fr c m e = fr (b != c) (n * e) (d * m) := by
  have h0 : fr c m e ≠ 0 := fun h => hm ((fr_zero he).mp h)
  have h1 : fr (b != c) (n * e) (d * m) * fr c m e = fr b n d := by
    rw [fr_mul]
    apply fr_eq (Nat.mul_ne_zero (Nat.mul_ne_zero hd hm) he) hd
    have : ((b != c) != c) = b := by cases b <;> cases c <;> rfl
    rw [this]; unfold sg; cases b <;> simp <;> grind
  rw [← h1, Rat.mul_div_cancel h0]
/-- A fraction in lowest terms is its own parts. -/
theorem fr_coprime {b : Bool} {n d : Nat} (hd : d ≠ 0) (h : Nat.gcd d n = 1) : (fr b n d).num = sg b n ∧ (fr b n d).den = d := by
  unfold fr; rw [Rat.num_mkRat, Rat.den_mkRat, if_neg hd, if_neg hd, sg_abs, h]; simp
theorem fr_self (q : Rat) : fr (decide (q.num < 0)) q.num.natAbs q.den = q := by
  unfold fr
  have : sg (decide (q.num < 0)) q.num.natAbs = q.num := by
    unfold sg; by_cases h : q.num < 0
    · simp [h]; omega
    · simp [h]; omega
  rw [this, Rat.mkRat_self]
/-- The sum's parts, as programs reckon them. -/
def sumN (b c : Bool) (x y : Nat) : Bool × Nat := if b = c then (b, x + y) else if y ≤ x then (b, x - y) else (c, y - x)
theorem sumN_sg (b c : Bool) (x y : Nat) : sg (sumN b c x y).1 (sumN b c x y).2 = sg b x + sg c y := by
  unfold sumN sg
  by_cases h : b = c
  · subst h; cases b <;> simp; omega
  · rw [if_neg h]
    by_cases h2 : y ≤ x
    · rw [if_pos h2]; cases b <;> cases c <;> simp_all <;> omega
    · rw [if_neg h2]; cases b <;> cases c <;> simp_all <;> omega
theorem fr_sum {b c : Bool} {n m d e : Nat} (hd : d ≠ 0) (he : e ≠ 0) : fr (sumN b c (n * e) (m * d)).1 (sumN b c (n * e) (m * d)).2 (d * e) = fr b n d + fr c m e := by
  rw [fr_add hd he]; unfold fr; rw [sumN_sg]; congr 1
  unfold sg; cases b <;> cases c <;> simp <;> grind

/-! ### Texts -/
def MD : Nat := 400
def Fits (q : Rat) : Prop := q.num.natAbs < 10 ^ MD ∧ q.den < 10 ^ MD
def numTx (q : Rat) : List Int := if q.num < 0 then 45 :: tx q.num.natAbs else tx q.num.natAbs
def denTx (q : Rat) : List Int := tx q.den
theorem tx_no_minus (n : Nat) : (tx n).head? ≠ some 45 := by
  intro h
  have h2 : (45 : Int) ∈ tx n := List.mem_of_head? h
  have := (isDec_tx n).dig 45 h2; omega
theorem tx_inj_q {p q : Rat} (h1 : numTx p = numTx q) (h2 : denTx p = denTx q) : p = q := by
  have e2 := tx_inj h2
  apply Rat.ext _ e2
  unfold numTx at h1
  by_cases hp : p.num < 0 <;> by_cases hq : q.num < 0
  · rw [if_pos hp, if_pos hq] at h1
    have := tx_inj (List.cons.inj h1).2; omega
  · rw [if_pos hp, if_neg hq] at h1
    exact absurd (by rw [← h1]; rfl) (tx_no_minus q.num.natAbs)
  · rw [if_neg hp, if_pos hq] at h1
    exact absurd (by rw [h1]; rfl) (tx_no_minus p.num.natAbs)
  · rw [if_neg hp, if_neg hq] at h1
    have := tx_inj h1; omega
/-- What the texts of a valid fraction are. -/
def IsTx (a b : List Int) (q : Rat) : Prop := a = numTx q ∧ b = denTx q ∧ Fits q
theorem IsTx.uniq {a b : List Int} {p q : Rat} (h : IsTx a b p) (g : IsTx a b q) : p = q := tx_inj_q (h.1.symm.trans g.1) (h.2.1.symm.trans g.2.1)
end Go.Proofs.YtplpmndchdockaaDoor.M
