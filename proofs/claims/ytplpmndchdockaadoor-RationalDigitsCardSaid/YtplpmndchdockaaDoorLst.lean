import Derived.Test.YtplpmndchdockaaDoorDigits
/-! Steps of sums over digit lists that both texts share. -/
namespace Go.Proofs.YtplpmndchdockaaDoor.M
set_option autoImplicit false
set_option linter.unusedVariables false

theorem vI_one (B x : Int) : vI B [x] = x := by simp [vI]
/-- A digit is laid behind: x + B q = s. -/
theorem push_val {B : Int} (out : List Int) (x q s : Int) (e : x + B * q = s) : vI B (out ++ [x]) + B ^ (out.length + 1) * q = vI B out + B ^ out.length * s := by
  rw [vI_append, vI_one, ← e, Int.pow_succ]; grind
theorem push_at {B : Int} {out : List Int} {i : Nat} (hi : out.length = i) (x q s : Int) (e : x + B * q = s) : vI B (out ++ [x]) + B ^ (i + 1) * q = vI B out + B ^ i * s := by
  subst hi; exact push_val out x q s e
theorem set_val {B : Int} (out : List Int) (p : Nat) (hp : p < out.length) (v q t : Int) (e : v + B * q = t) : vI B (out.set p v) + B ^ (p + 1) * q = vI B out + B ^ p * (t - out.getD p 0) := by
  rw [vI_set _ _ _ _ hp, ← e, Int.pow_succ]; grind
theorem set_at (o : List Int) (m : Nat) (x : Int) : (o ++ List.replicate (m + 1) 0).set o.length x = (o ++ [x]) ++ List.replicate m 0 := by
  rw [List.set_append_right _ _ (Nat.le_refl _), Nat.sub_self, List.replicate_succ, List.set_cons_zero]; simp
/-- From behind. -/
theorem set_back (o : List Int) (m : Nat) (x : Int) : (List.replicate (m + 1) 0 ++ o).set m x = List.replicate m 0 ++ (x :: o) := by
  rw [List.replicate_succ', List.append_assoc, List.set_append_right _ _ (by simp)]; simp
theorem getD_set (l : List Int) (n : Nat) (x : Int) (m : Nat) : (l.set n x).getD m 0 = if n = m ∧ n < l.length then x else l.getD m 0 := by
  rw [List.getD_eq_getElem?_getD, List.getD_eq_getElem?_getD, List.getElem?_set]
  by_cases h : n = m
  · subst h
    by_cases h2 : n < l.length
    · simp [h2]
    · simp [h2]
  · simp [h]
/-- Zeros from j on. -/
def Zr (l : List Int) (j : Nat) : Prop := ∀ p, j ≤ p → l.getD p 0 = 0
theorem Zr.set {l : List Int} {j n : Nat} {x : Int} (h : Zr l j) (hn : n < j) : Zr (l.set n x) j := by
  intro p hp
  rw [getD_set, if_neg (by omega)]; exact h p hp
theorem Zr.set' {l : List Int} {j n : Nat} {x : Int} (h : Zr l j) (hn : n ≤ j) : Zr (l.set n x) (j + 1) := by
  intro p hp
  rw [getD_set, if_neg (by omega)]; exact h p (by omega)
theorem Zr.replicate (n : Nat) : Zr (List.replicate n 0) 0 := by
  intro p _
  rw [List.getD_eq_getElem?_getD, List.getElem?_replicate]
  split <;> rfl
/-- A round of a product: at place i + k. -/
theorem mul_round {B : Int} {out b : List Int} {i k : Nat} {W x c v q : Int} (hp : i + k < out.length) (hk : k < b.length) (h : vI B out + B ^ (i + k) * c = W + B ^ i * (x * vI B (b.take k)))
    (e : v + B * q = out.getD (i + k) 0 + x * b.getD k 0 + c) : vI B (out.set (i + k) v) + B ^ (i + (k + 1)) * q = W + B ^ i * (x * vI B (b.take (k + 1))) := by
  rw [show i + (k + 1) = (i + k) + 1 by omega, set_val out (i + k) hp v q _ e, vI_take_succ _ _ _ hk, show out.getD (i + k) 0 + x * b.getD k 0 + c - out.getD (i + k) 0 = x * b.getD k 0 + c by omega, Int.mul_add, show vI B out + (B ^ (i + k) * (x * b.getD k 0) + B ^ (i + k) * c) = (vI B out + B ^ (i + k) * c) + B ^ (i + k) * (x * b.getD k 0) by omega, h, Int.pow_add]
  grind
theorem dig_mul {B x y c o : Int} (hB : 0 < B) (hx0 : 0 ≤ x) (hx : x < B) (hy0 : 0 ≤ y) (hy : y < B) (hc0 : 0 ≤ c) (hc : c < B) (ho0 : 0 ≤ o) (ho : o < B) : 0 ≤ x * y ∧ 0 ≤ o + x * y + c ∧ o + x * y + c < B * B := by
  have h1 : 0 ≤ x * y := Int.mul_nonneg hx0 hy0
  have h2 : x * y ≤ (B - 1) * (B - 1) := Int.mul_le_mul (by omega) (by omega) hy0 (by omega)
  have h3 : (B - 1) * (B - 1) = B * B - 2 * B + 1 := by grind
  omega
/-- A digit out of the number. -/
theorem getD_val {B : Int} (hB : 0 < B) : ∀ {l : List Int}, Dg B l → ∀ j : Nat, l.getD j 0 = vI B l / B ^ j % B
  | [], _, j => by simp [vI]
  | x :: l, h, 0 => by
    have := h.head
    simp only [vI, List.getD_cons_zero, Int.pow_zero, Int.ediv_one]
    rw [Int.add_mul_emod_self_left, Int.emod_eq_of_lt this.1 this.2]
  | x :: l, h, j + 1 => by
    have := h.head
    have ih := getD_val hB h.tail j
    rw [List.getD_cons_succ, ih, vI, Int.pow_succ, Int.mul_comm (B ^ j) B, ← Int.ediv_ediv_of_nonneg (Int.le_of_lt hB), Int.add_mul_ediv_left _ _ (by omega), Int.ediv_eq_zero_of_lt this.1 this.2, Int.zero_add]
/-- A list whose digits are those of W. -/
theorem val_of_digits {B : Int} (hB : 0 < B) (W : Int) : ∀ (l : List Int) (j : Nat), (∀ i, i < l.length → l.getD i 0 = W / B ^ (j + i) % B) → vI B l = W / B ^ j % B ^ l.length
  | [], j, _ => by simp [vI, Int.emod_one]
  | x :: l, j, h => by
    have ih := val_of_digits hB W l (j + 1) (fun i hi => by
      have := h (i + 1) (by simpa using hi)
      rw [List.getD_cons_succ] at this
      rw [this, show j + (i + 1) = j + 1 + i by omega])
    have h0 := h 0 (by simp)
    rw [List.getD_cons_zero, Nat.add_zero] at h0
    rw [vI, ih, h0, Int.pow_succ, ← Int.ediv_ediv_of_nonneg (Int.le_of_lt (pow_pos' hB j)), List.length_cons, Int.pow_succ, Int.mul_comm (B ^ l.length) B]
    generalize W / B ^ j = V
    have hM := pow_pos' hB l.length
    generalize B ^ l.length = M at hM
    have h1 := Int.emod_nonneg V (Int.ne_of_gt hB)
    have h2 := Int.emod_lt_of_pos V hB
    have h3 := Int.emod_nonneg (V / B) (Int.ne_of_gt hM)
    have h4 := Int.emod_lt_of_pos (V / B) hM
    have e1 := Int.mul_ediv_add_emod V B
    have e2 := Int.mul_ediv_add_emod (V / B) M
    have e : V = (V % B + B * (V / B % M)) + (B * M) * (V / B / M) := by
      have : B * M * (V / B / M) = B * (M * (V / B / M)) := Int.mul_assoc _ _ _
      have h5 : B * (M * (V / B / M) + V / B % M) = B * (V / B) := by rw [e2]
      rw [Int.mul_add] at h5
      omega
    conv => rhs; rw [e]
    rw [Int.add_mul_emod_self_left]
    have h6 : 0 ≤ B * (V / B % M) := Int.mul_nonneg (Int.le_of_lt hB) h3
    have h7 : B * (V / B % M + 1) ≤ B * M := Int.mul_le_mul_of_nonneg_left (by omega) (Int.le_of_lt hB)
    rw [Int.mul_add, Int.mul_one] at h7
    exact (Int.emod_eq_of_lt (by omega) (by omega)).symm
/-- Quotient and rest, out of an equation. -/
theorem div_of {a d q r : Nat} (e : a = q * d + r) (h : r < d) : a / d = q ∧ a % d = r := by
  subst e
  have hd : 0 < d := by omega
  constructor
  · rw [Nat.mul_comm, Nat.mul_add_div hd, Nat.div_eq_of_lt h, Nat.add_zero]
  · rw [Nat.mul_comm, Nat.mul_add_mod, Nat.mod_eq_of_lt h]

/-! ### The two bases -/
theorem pDg (n : Nat) : Dg 1000000000 (digs 1000000000 n) := digs_Dg (B := 1000000000) (by decide) n
theorem pNm (n : Nat) : Nm (digs 1000000000 n) := digs_Nm (B := 1000000000) (by decide) n
theorem pVal (n : Nat) : vI 1000000000 (digs 1000000000 n) = n := digs_val (B := 1000000000) (by decide) n
theorem pTrim {l : List Int} (h : Dg 1000000000 l) {n : Nat} (hv : vI 1000000000 l = n) : trimL l = digs 1000000000 n := trimL_digs (B := 1000000000) (by decide) h hv
theorem rDg (n : Nat) : Dg 4294967296 (digs 4294967296 n) := digs_Dg (B := 4294967296) (by decide) n
theorem rNm (n : Nat) : Nm (digs 4294967296 n) := digs_Nm (B := 4294967296) (by decide) n
theorem rVal (n : Nat) : vI 4294967296 (digs 4294967296 n) = n := digs_val (B := 4294967296) (by decide) n
theorem rTrim {l : List Int} (h : Dg 4294967296 l) {n : Nat} (hv : vI 4294967296 l = n) : trimL l = digs 4294967296 n := trimL_digs (B := 4294967296) (by decide) h hv
theorem digs_len_mono {B : Nat} (hB : 2 ≤ B) {m n : Nat} (h : m ≤ n) : (digs B m).length ≤ (digs B n).length := digs_len_le hB (Nat.lt_of_le_of_lt h (digs_lt_pow hB n))
/-- The lengths that are spoken of. -/
def LM : Nat := 1000000000000
end Go.Proofs.YtplpmndchdockaaDoor.M
