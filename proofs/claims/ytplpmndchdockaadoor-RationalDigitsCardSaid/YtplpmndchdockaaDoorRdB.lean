import Derived.Test.YtplpmndchdockaaDoorScaleQ
import Derived.Test.YtplpmndchdockaaDoorConR
/-! The value of a fraction's texts: bounds; out of the texts of a fraction. -/
namespace Go.Proofs.YtplpmndchdockaaDoor.M
open Go Go.RowKit Go.Proofs.YtplpmndchdockaaDoorV.PrintWords
set_option autoImplicit false
set_option linter.unusedVariables false

theorem num_lt {s : ByteArray} (h : dgB (cs s) = true) : (numOf (cs s)).toNat < 10 ^ MD := by
  obtain ⟨h1, h2⟩ := (dgB_iff _).mp h
  have h3 := numOf_lt (l := cs s) h1.dig
  have h4 := numOf_nonneg (l := cs s) h1.dig
  have h5 := pow_mono (B := 10) (by omega) (show (cs s).length ≤ MD by unfold MD; omega)
  have e : (((10 ^ MD : Nat)) : Int) = (10 : Int) ^ MD := by rw [Int.natCast_pow]; rfl
  omega
theorem rdQ_fits {N D : ByteArray} {q : Rat} (h : rdQ N D = some q) : Fits q := by
  obtain ⟨hf, _, h1, h2, _⟩ := rdQ_parts h
  obtain ⟨g1, g2, _⟩ := form_den hf
  exact ⟨by rw [h1]; exact num_lt g1, by rw [h2]; exact num_lt g2⟩
theorem lt_mul10 {a b j k : Nat} (ha : a < 10 ^ j) (hb : b < 10 ^ k) : a * b < 10 ^ (j + k) := by
  rw [Nat.pow_add]; exact Nat.mul_lt_mul'' ha hb
theorem lt_add10 {a b j : Nat} (ha : a < 10 ^ j) (hb : b < 10 ^ j) : a + b < 10 ^ (j + 1) := by
  rw [Nat.pow_succ]; omega
theorem lt_le10 {a j k : Nat} (ha : a < 10 ^ j) (h : j ≤ k) : a < 10 ^ k := Nat.lt_of_lt_of_le ha (Nat.pow_le_pow_right (by decide) h)
theorem Sm.of10 {n k : Nat} (h : n < 10 ^ k) (hk : k ≤ 3000) : Sm n := ⟨lt_le10 h (by unfold XL; exact hk)⟩
theorem Rm.of10 {n k : Nat} (h : n < 10 ^ k) (hk : k ≤ 100000) : Rm n := by
  refine ⟨Nat.lt_of_lt_of_le h (Nat.le_trans (Nat.pow_le_pow_left (show 10 ≤ 2 ^ 4 by decide) _) ?_)⟩
  rw [← Nat.pow_mul]
  exact Nat.pow_le_pow_right (by decide) (by unfold RX; omega)
theorem lt64 {u : Nat} (h : u < 18446744073709551616) : u < 10 ^ 20 := Nat.lt_of_lt_of_le h (by decide)
theorem MD_eq : MD = 400 := rfl
theorem fits_Sm {q : Rat} (h : Fits q) : Sm q.num.natAbs ∧ Sm q.den := ⟨Sm.of10 h.1 (by rw [MD_eq]; omega), Sm.of10 h.2 (by rw [MD_eq]; omega)⟩
theorem fits_Rm {q : Rat} (h : Fits q) : Rm q.num.natAbs ∧ Rm q.den := ⟨Rm.of10 h.1 (by rw [MD_eq]; omega), Rm.of10 h.2 (by rw [MD_eq]; omega)⟩
/-- Products of parts of two fractions that fit. -/
theorem pr_lt {a b : Nat} (ha : a < 10 ^ MD) (hb : b < 10 ^ MD) : a * b < 10 ^ (MD + MD) := lt_mul10 ha hb

theorem dgB_tx {n : Nat} : dgB (tx n) = true ↔ n < 10 ^ MD := by
  rw [dgB_iff, ← tx_len (n := n) (m := MD) (by decide)]
  exact ⟨fun h => h.2, fun h => ⟨isDec_tx n, h⟩⟩
theorem tx_head (n : Nat) : (tx n).head? ≠ some 45 := tx_no_minus n
theorem cs_bN (q : Rat) : cs (bN q) = numTx q := cs_bs (numTx_byte q)
theorem cs_bD (q : Rat) : cs (bD q) = tx q.den := cs_bs (tx_byte q.den)
theorem mB_bN (q : Rat) : mB (bN q) = decide (q.num < 0) := by
  unfold mB
  rw [cs_bN]
  unfold numTx
  by_cases h : q.num < 0
  · rw [if_pos h]; simp [h]
  · rw [if_neg h, decide_eq_false h]; exact decide_eq_false (tx_no_minus _)
theorem cs_aft_bN (q : Rat) : cs (aft (bN q)) = tx q.num.natAbs := by
  rw [cs_aft, mB_bN, cs_bN]
  unfold numTx
  by_cases h : q.num < 0
  · rw [if_pos (decide_eq_true h), if_pos h]; rfl
  · rw [if_neg (by simp [h]), if_neg h]
theorem fmB_rt (q : Rat) : fmB (bN q) (bD q) = true ↔ Fits q := by
  unfold fmB
  rw [cs_aft_bN, cs_bD, mB_bN]
  simp only [Bool.and_eq_true, Bool.not_eq_true', Bool.and_eq_false_iff, decide_eq_false_iff_not, dgB_tx, tx_eq_zero]
  have h1 := q.den_nz
  constructor
  · rintro ⟨⟨⟨h2, h3⟩, _⟩, _⟩; exact ⟨h2, h3⟩
  · rintro ⟨h2, h3⟩; exact ⟨⟨⟨h2, h3⟩, by omega⟩, h1⟩
/-- A fraction that fits is read out of its own texts. -/
theorem rdQ_rt {q : Rat} (h : Fits q) : rdQ (bN q) (bD q) = some q := by
  unfold rdQ
  rw [mB_bN, cs_aft_bN, cs_bD, numOf_tx, numOf_tx, Int.toNat_natCast, Int.toNat_natCast, fr_self, if_pos]
  refine ⟨(fmB_rt q).mpr h, ?_⟩
  rw [Nat.gcd_comm]; exact q.reduced
theorem rdQ_nil (D : ByteArray) : rdQ ⟨#[]⟩ D = none := rdQ_no (by
  intro h
  have h1 := (form_den h).1
  have : cs (aft ⟨#[]⟩) = [] := by rw [cs_aft]; rfl
  rw [this] at h1
  cases h1)
/-- What is read of what was handed back. -/
theorem rdQ_wV (o : Option Rat) : rdQ (wN o) (wD o) = match o with | some q => if okQ q = true then some q else none | none => none := by
  cases o with
  | none => exact rdQ_nil _
  | some q =>
    unfold wN wD
    dsimp only
    by_cases h : okQ q = true
    · rw [if_pos h, if_pos h, if_pos h]; exact rdQ_rt ((okQ_iff q).mp h)
    · rw [if_neg h, if_neg h, if_neg h]; exact rdQ_nil _
theorem wN_ok {q : Rat} (h : Fits q) : wN (some q) = bN q ∧ wD (some q) = bD q ∧ wO (some q) = true := by
  have h1 := (okQ_iff q).mpr h
  unfold wN wD wO
  simp [h1]
/-- The texts tell the fraction. -/
theorem bq_inj {p q : Rat} : (bN p = bN q ∧ bD p = bD q) ↔ p = q := by
  constructor
  · rintro ⟨h1, h2⟩
    exact tx_inj_q (by rw [← cs_bN, ← cs_bN, h1]) (by show tx p.den = tx q.den; rw [← cs_bD, ← cs_bD, h2])
  · rintro rfl; exact ⟨rfl, rfl⟩
theorem scN_div {b : Bool} {n d g : Nat} (hg : 0 < g) (h1 : g ∣ n) (h2 : g ∣ d) : scN b (n / g) (d / g) = scN b n d := by
  obtain ⟨x, rfl⟩ := h1
  obtain ⟨y, rfl⟩ := h2
  rw [Nat.mul_div_cancel_left _ hg, Nat.mul_div_cancel_left _ hg, Nat.mul_comm g x, Nat.mul_comm g y, scN_common hg]
/-- A multiple's ends, out of the parts in lowest terms. -/
theorem scN_fr {b : Bool} {n d : Nat} (hd : d ≠ 0) : scN (decide ((fr b n d).num < 0)) (fr b n d).num.natAbs (fr b n d).den = scN b n d := by
  have hg := gcd_pos' (n := n) hd
  have h3 := fr_neg (b := b) (n := n) hd
  rw [fr_num hd, fr_den hd]
  by_cases h0 : n / Nat.gcd d n = 0
  · rw [← scN_div (b := b) hg (Nat.gcd_dvd_right d n) (Nat.gcd_dvd_left d n), h0]
    exact scN_zero
  · have h4 : decide ((fr b n d).num < 0) = b := by cases b <;> simp_all
    rw [h4]
    exact scN_div hg (Nat.gcd_dvd_right d n) (Nat.gcd_dvd_left d n)
/-- What Scale answers: the ends are one apart at most. -/
theorem scQ_near (o : Option Rat) (u : Int) : (scQ o u).2.2 = true → (scQ o u).2.1 - (scQ o u).1 = 0 ∨ (scQ o u).2.1 - (scQ o u).1 = 1 := by
  have hu : ∀ a d : Nat, upN a d = a / d ∨ upN a d = a / d + 1 := fun a d => by unfold upN; split <;> omega
  unfold scQ scN
  cases o with
  | none => intro h; cases h
  | some q =>
    dsimp only
    split
    · have := hu (q.num.natAbs * u.toNat) q.den
      split
      · split <;> (intro _; dsimp only; omega)
      · intro h; cases h
    · intro h; cases h
/-- .. and they are in range. -/
theorem scQ_range (o : Option Rat) (u : Int) : -2305843009213693952 ≤ (scQ o u).1 ∧ (scQ o u).1 ≤ 2305843009213693952 ∧ -2305843009213693952 ≤ (scQ o u).2.1 ∧ (scQ o u).2.1 ≤ 2305843009213693952 := by
  have hu : ∀ a d : Nat, a / d ≤ upN a d := fun a d => by unfold upN; split <;> omega
  unfold scQ scN
  cases o with
  | none => dsimp only; omega
  | some q =>
    dsimp only
    split
    · have := hu (q.num.natAbs * u.toNat) q.den
      generalize (q.num.natAbs * u.toNat) / q.den = z at *
      generalize upN (q.num.natAbs * u.toNat) q.den = y at *
      split
      · split <;> (dsimp only; omega)
      · dsimp only; omega
    · dsimp only; omega
theorem wN_size (o : Option Rat) : (wN o).size ≤ 401 ∧ (wD o).size ≤ 400 := by
  unfold wN wD
  cases o with
  | none => exact ⟨by decide, by decide⟩
  | some q =>
    dsimp only
    by_cases h : okQ q = true
    · rw [if_pos h, if_pos h]
      obtain ⟨h1, h2⟩ := (okQ_iff q).mp h
      have g1 := (tx_len (n := q.num.natAbs) (m := MD) (by decide)).mpr h1
      have g2 := (tx_len (n := q.den) (m := MD) (by decide)).mpr h2
      rw [MD_eq] at g1 g2
      unfold bN bD numTx denTx
      rw [bs_size, bs_size]
      refine ⟨?_, g2⟩
      split
      · rw [List.length_cons]; omega
      · omega
    · rw [if_neg h, if_neg h]; exact ⟨by decide, by decide⟩
theorem wO_valid (o : Option Rat) : (rdQ (wN o) (wD o)).isSome = wO o := by
  rw [rdQ_wV]
  cases o with
  | none => rfl
  | some q => unfold wO; dsimp only; by_cases h : okQ q = true <;> simp [h]
end Go.Proofs.YtplpmndchdockaaDoor.M
