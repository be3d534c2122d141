import Derived.Test.YtplpmndchdockaaDoorRnB
/-! The reference's naturals: divide and divisor. -/
namespace Go.Proofs.YtplpmndchdockaaDoor.M
open Go Go.RowKit Go.Proofs.YtplpmndchdockaaDoor.Pr Go.Proofs.YtplpmndchdockaaDoorV.PrintWords
set_option autoImplicit false
set_option linter.unusedVariables false

theorem shl32 {r : Nat} (hr : r < 32) : shl .u32 1 (r : Int) = 2 ^ r := by
  have := shl_small (k := .u32) (x := 1) (y := (r : Int)) rfl (by have : IntKind.u32.bits = 32 := rfl; rw [this]; omega)
  rw [← this, Int.toNat_natCast, Int.one_mul]
  have hp : (2 : Int) ^ r ≤ 2 ^ 31 := pow_mono (by omega) (by omega)
  have hp0 : (0 : Int) < 2 ^ r := pow_pos' (by omega) r
  have e31 : (2 : Int) ^ 31 = 2147483648 := by decide
  have : IntKind.u32.wrap (2 ^ r) = 2 ^ r % 4294967296 := by simp [IntKind.wrap, IntKind.bits, IntKind.signed]
  rw [this]; omega
theorem or_bit {x : Int} {r : Nat} (h0 : 0 ≤ x) (h1 : x < 4294967296) (hr : r < 32) (hx : x % 2 ^ (r + 1) = 0) : Go.bits .or .u32 x (2 ^ r) = x + 2 ^ r := by
  have hk : ∀ n : Int, 0 ≤ n → n < 2 ^ 32 → IntKind.u32.wrap n = n := by
    intro n h0 h1
    have e32 : (2 : Int) ^ 32 = 4294967296 := by decide
    have : IntKind.u32.wrap n = n % 4294967296 := by simp [IntKind.wrap, IntKind.bits, IntKind.signed]
    rw [this]; omega
  have hp : (2 : Int) ^ r ≤ 2 ^ 31 := pow_mono (by omega) (by omega)
  have hp0 : (0 : Int) < 2 ^ r := pow_pos' (by omega) r
  have e31 : (2 : Int) ^ 31 = 2147483648 := by decide
  have e32 : (2 : Int) ^ 32 = 4294967296 := by decide
  exact bits_join .u32 32 (by decide) hk (r + 1) x (2 ^ r) h0 hx (by omega) (by omega) (by rw [Int.pow_succ]; omega) (by omega)
/-- A digit of a multiple of 2^(i+1), at the place of bit i. -/
theorem low_bits {q : List Int} (dq : Dg 4294967296 q) {Q : Int} {i : Nat} (h : vI 4294967296 q = Q * 2 ^ (i + 1)) : q.getD (i / 32) 0 % 2 ^ (i % 32 + 1) = 0 := by
  rw [getD_val (by omega) dq, h, pow32]
  have e : (2 : Int) ^ (i + 1) = 2 ^ (32 * (i / 32)) * 2 ^ (i % 32 + 1) := by rw [← Int.pow_add]; congr 1; omega
  have hp := pow_pos' (show (0 : Int) < 2 by omega) (32 * (i / 32))
  have e2 : Q * 2 ^ (i + 1) = 2 ^ (32 * (i / 32)) * (Q * 2 ^ (i % 32 + 1)) := by rw [e]; grind
  rw [e2, Int.mul_ediv_cancel_left _ (Int.ne_of_gt hp)]
  have hr : i % 32 < 32 := Nat.mod_lt _ (by decide)
  have e3 : (4294967296 : Int) = 2 ^ (i % 32 + 1) * 2 ^ (31 - i % 32) := by
    rw [← Int.pow_add, show i % 32 + 1 + (31 - i % 32) = 32 by omega]; decide
  rw [e3]
  rw [Int.emod_emod_of_dvd _ (Int.dvd_mul_right _ _), Int.mul_emod_left]
theorem new_digit {x : Int} {r : Nat} (h0 : 0 ≤ x) (h1 : x < 4294967296) (hr : r < 32) (hlow : x % 2 ^ (r + 1) = 0) : x + 2 ^ r < 4294967296 := by
  have e3 : (4294967296 : Int) = 2 ^ (r + 1) * 2 ^ (31 - r) := by
    rw [← Int.pow_add, show r + 1 + (31 - r) = 32 by omega]; decide
  have hpp : (0 : Int) < 2 ^ (r + 1) := pow_pos' (by omega) _
  have hp0 : (0 : Int) < 2 ^ r := pow_pos' (by omega) _
  have hdv := Int.mul_ediv_add_emod x (2 ^ (r + 1))
  rw [hlow, Int.add_zero] at hdv
  have hlt : x / 2 ^ (r + 1) < 2 ^ (31 - r) := Int.ediv_lt_of_lt_mul hpp (by rw [Int.mul_comm, ← e3]; exact h1)
  have h5 : 2 ^ (r + 1) * (x / 2 ^ (r + 1) + 1) ≤ 2 ^ (r + 1) * 2 ^ (31 - r) := Int.mul_le_mul_of_nonneg_left (by omega) (Int.le_of_lt hpp)
  rw [← e3, Int.mul_add, hdv, Int.mul_one, Int.pow_succ] at h5
  omega
theorem half_shift {b i : Nat} : b * 2 ^ (i + 1) / 2 = b * 2 ^ i := by rw [Nat.pow_succ, ← Nat.mul_assoc, Nat.mul_div_cancel _ (by decide)]
/-- A round of the division, as the program goes: the divisor fits. -/
theorem dv_ge {k i : Nat} {a d a' d' q : List Int} {c : Int} (h1 : flagstoneref36_compare.f k a d = some c) (hc : c ≥ 0) (h2 : flagstoneref36_minus.f k a d = some a') (h3 : flagstoneref36_half.f k d = some d') (hi : i ≤ 90000000000000) (hl : i / 32 < q.length) (dq : Dg 4294967296 q) (hlow : q.getD (i / 32) 0 % 2 ^ (i % 32 + 1) = 0) :
    flagstoneref36_divide.l0 (k + 1) a q d (((i + 1 : Nat) : Int) - 1) = flagstoneref36_divide.l0 k a' (q.set (i / 32) (q.getD (i / 32) 0 + 2 ^ (i % 32))) d' ((i : Int) - 1) := by
  have hr : i % 32 < 32 := Nat.mod_lt _ (by decide)
  have hx := dq.get (by omega) (i / 32)
  have hor := or_bit hx.1 hx.2 hr hlow
  have ei : ((i + 1 : Nat) : Int) - 1 = (i : Int) := by omega
  have eD : wrap64 (Int.tdiv (i : Int) 32) = ((i / 32 : Nat) : Int) := by rw [Int.tdiv_eq_ediv_of_nonneg (by omega), w64_eq (by omega) (by omega)]; omega
  have eM : IntKind.u64.wrap (Int.tmod (i : Int) 32) = ((i % 32 : Nat) : Int) := by rw [Int.tmod_eq_emod_of_nonneg (by omega), u64_eq (by omega) (by omega)]; omega
  have eW : wrap64 ((i : Int) - 1) = (i : Int) - 1 := w64_eq (by omega) (by omega)
  have g1 : (i : Int) ≥ 0 := by omega
  have g2 : ((i / 32 : Nat) : Int) < (q.length : Int) := by omega
  simp only [flagstoneref36_divide.l0]
  rw [ei, if_pos g1, h1, Option.bind_some, if_pos hc, h2, Option.bind_some, eD, if_pos (Int.natCast_nonneg _), if_pos g2, eM, if_pos (Int.natCast_nonneg _), h3, Option.bind_some, rrd_nat, Int.toNat_natCast, shl32 hr, hor, eW]
theorem dv_lt {k i : Nat} {a d d' q : List Int} {c : Int} (h1 : flagstoneref36_compare.f k a d = some c) (hc : ¬ c ≥ 0) (h3 : flagstoneref36_half.f k d = some d') (hi : i ≤ 90000000000000) :
    flagstoneref36_divide.l0 (k + 1) a q d (((i + 1 : Nat) : Int) - 1) = flagstoneref36_divide.l0 k a q d' ((i : Int) - 1) := by
  have ei : ((i + 1 : Nat) : Int) - 1 = (i : Int) := by omega
  have eW : wrap64 ((i : Int) - 1) = (i : Int) - 1 := w64_eq (by omega) (by omega)
  have g1 : (i : Int) ≥ 0 := by omega
  simp only [flagstoneref36_divide.l0]
  rw [ei, if_pos g1, h1, Option.bind_some, if_neg hc, h3, Option.bind_some, eW]
theorem dv_end {k : Nat} {a d q q' : List Int} (h : flagstoneref36_trim.f k q = some q') : flagstoneref36_divide.l0 (k + 1) a q d (((0 : Nat) : Int) - 1) = some (q', a) := by
  simp only [flagstoneref36_divide.l0]
  rw [if_neg (by omega), h, Option.bind_some]
theorem set_bit {q : List Int} {Q : Int} {i : Nat} (hl : i / 32 < q.length) (hv : vI 4294967296 q = Q * 2 ^ (i + 1)) : vI 4294967296 (q.set (i / 32) (q.getD (i / 32) 0 + 2 ^ (i % 32))) = (2 * Q + 1) * 2 ^ i := by
  rw [vI_set _ _ _ _ hl, hv, show q.getD (i / 32) 0 + 2 ^ (i % 32) - q.getD (i / 32) 0 = 2 ^ (i % 32) by omega, pow32, ← Int.pow_add, show 32 * (i / 32) + i % 32 = i by omega, Int.pow_succ]
  grind
theorem step_sum {b A A0 i : Nat} {Q : Int} (hge : b * 2 ^ i ≤ A) (hs : Q * 2 ^ (i + 1) * b + A = A0) : (2 * Q + 1) * 2 ^ i * b + ((A - b * 2 ^ i : Nat) : Int) = A0 := by
  have e1 : ((A - b * 2 ^ i : Nat) : Int) = (A : Int) - (b : Int) * 2 ^ i := by rw [Int.natCast_sub hge, Int.natCast_mul, Int.natCast_pow]; rfl
  rw [e1, ← hs, Int.pow_succ]
  grind
theorem step_lt {b A i : Nat} (hge : b * 2 ^ i ≤ A) (hA : A < b * 2 ^ (i + 1)) : A - b * 2 ^ i < b * 2 ^ i := by
  have hb2 : b * 2 ^ (i + 1) = 2 * (b * 2 ^ i) := by rw [Nat.pow_succ]; grind
  omega
theorem half_next {b i : Nat} : i ≠ 0 → b * 2 ^ i / 2 = b * 2 ^ (i - 1) := by
  intro h
  obtain ⟨j, rfl⟩ : ∃ j, i = j + 1 := ⟨i - 1, by omega⟩
  rw [half_shift, Nat.add_sub_cancel]
theorem cmp_ge {m n : Nat} (h : n ≤ m) : rcmpI (m : Int) (n : Int) ≥ 0 := by
  unfold rcmpI
  rw [if_neg (by omega)]
  split <;> omega
theorem divide_l0 {b N A0 : Nat} (hb0 : b ≠ 0) (hN : N ≤ 64 * LM) (hD : ∀ i, i ≤ N → (digs 4294967296 (b * 2 ^ i)).length ≤ LM) (t : Nat) :
    ∀ (A D : Nat) (q : List Int) (Q : Int), t ≤ N + 1 → (t ≠ 0 → D = b * 2 ^ (t - 1)) → A < b * 2 ^ t → (digs 4294967296 A).length ≤ LM → q.length = N / 32 + 1 → Dg 4294967296 q → 0 ≤ Q → vI 4294967296 q = Q * 2 ^ t → vI 4294967296 q * b + A = A0 →
      Ev (fun k => flagstoneref36_divide.l0 k (digs 4294967296 A) q (digs 4294967296 D) ((t : Int) - 1)) (digs 4294967296 (A0 / b), digs 4294967296 (A0 % b)) := by
  have hNL := hN
  unfold LM at hNL
  induction t with
  | zero =>
    intro A D q Q ht hDt hA hAl hq dq Q0 hv hs
    rw [Nat.pow_zero, Nat.mul_one] at hA
    obtain ⟨x, hx⟩ := Int.eq_ofNat_of_zero_le (vI_nonneg (by omega) dq)
    rw [hx] at hs
    have e : A0 = x * b + A := by exact_mod_cast hs.symm
    obtain ⟨h1, h2⟩ := div_of e hA
    obtain ⟨K, hK⟩ := rtrimP q (by omega)
    rw [rTrim dq hx] at hK
    refine ⟨K + 1, fun k hk => ?_⟩
    obtain ⟨k, rfl⟩ : ∃ j, k = j + 1 := ⟨k - 1, by omega⟩
    rw [h1, h2]
    exact dv_end (hK k (by omega))
  | succ i ih =>
    intro A D q Q ht hDt hA hAl hq dq Q0 hv hs
    obtain rfl := hDt (by omega)
    rw [Nat.add_sub_cancel]
    have hi : i ≤ N := by omega
    have hi9 : i ≤ 90000000000000 := by omega
    have hl : i / 32 < q.length := by omega
    obtain ⟨K1, hK1⟩ := rcmpP hAl (hD i hi)
    obtain ⟨K2, hK2⟩ := halfP (hD i hi)
    by_cases hge : b * 2 ^ i ≤ A
    · obtain ⟨K3, hK3⟩ := minusP hAl hge
      have hlow := low_bits dq hv
      have hx := dq.get (by omega) (i / 32)
      have hnew := new_digit hx.1 hx.2 (Nat.mod_lt _ (by decide)) hlow
      have hp0 : (0 : Int) < 2 ^ (i % 32) := pow_pos' (by omega) _
      have hvq := set_bit hl hv
      rw [hv] at hs
      obtain ⟨K4, hK4⟩ := ih (A - b * 2 ^ i) (b * 2 ^ i / 2) (q.set (i / 32) (q.getD (i / 32) 0 + 2 ^ (i % 32))) (2 * Q + 1) (Nat.le_trans hi (Nat.le_succ N)) half_next (step_lt hge hA) (Nat.le_trans (digs_len_mono (by decide) (Nat.sub_le _ _)) hAl) (by rw [List.length_set]; exact hq) (dq.set _ ⟨Int.le_trans hx.1 (Int.le_add_of_nonneg_right (Int.le_of_lt hp0)), hnew⟩) (by clear hs hv hvq hnew hlow hp0; omega) hvq (by rw [hvq]; exact step_sum hge hs)
      refine ⟨K1 + K2 + K3 + K4 + 1, fun k hk => ?_⟩
      obtain ⟨k, rfl⟩ : ∃ j, k = j + 1 := ⟨k - 1, by clear hs hv hvq hnew hlow hp0; omega⟩
      have l1 : K1 ≤ k := by clear hs hv hvq hnew hlow hp0; omega
      have l2 : K2 ≤ k := by clear hs hv hvq hnew hlow hp0; omega
      have l3 : K3 ≤ k := by clear hs hv hvq hnew hlow hp0; omega
      have l4 : K4 ≤ k := by clear hs hv hvq hnew hlow hp0; omega
      exact (dv_ge (hK1 k l1) (cmp_ge hge) (hK3 k l3) (hK2 k l2) hi9 hl dq hlow).trans (hK4 k l4)
    · have hcg : ¬ rcmpI (A : Int) ((b * 2 ^ i : Nat) : Int) ≥ 0 := by
        rw [rcmpI_lt (Int.ofNat_lt.mpr (Nat.lt_of_not_le hge))]; decide
      obtain ⟨K4, hK4⟩ := ih A (b * 2 ^ i / 2) q (2 * Q) (Nat.le_trans hi (Nat.le_succ N)) half_next (Nat.lt_of_not_le hge) hAl hq dq (by clear hs hv; omega) (by rw [hv, Int.pow_succ]; grind) hs
      refine ⟨K1 + K2 + K4 + 1, fun k hk => ?_⟩
      obtain ⟨k, rfl⟩ : ∃ j, k = j + 1 := ⟨k - 1, by clear hs hv; omega⟩
      have l1 : K1 ≤ k := by clear hs hv; omega
      have l2 : K2 ≤ k := by clear hs hv; omega
      have l4 : K4 ≤ k := by clear hs hv; omega
      exact (dv_lt (hK1 k l1) hcg (hK2 k l2) hi9).trans (hK4 k l4)
theorem rlen_shift {b s : Nat} : (digs 4294967296 (b * 2 ^ s)).length ≤ (digs 4294967296 b).length + (s / 32 + 1) := by
  refine digs_len_le (by decide) ?_
  have h1 := digs_lt_pow (B := 4294967296) (by decide) b
  have e : (4294967296 : Nat) ^ (s / 32 + 1) = 2 ^ (32 * (s / 32 + 1)) := by rw [Nat.pow_mul]
  have h2 : 2 ^ s ≤ 4294967296 ^ (s / 32 + 1) := by rw [e]; exact Nat.pow_le_pow_right (by decide) (by omega)
  rw [Nat.pow_add]
  exact Nat.lt_of_lt_of_le (Nat.mul_lt_mul_of_pos_right h1 (Nat.pow_pos (by decide))) (Nat.mul_le_mul_left _ h2)
theorem bl_mono {m n : Nat} (h : m ≤ n) : bl m ≤ bl n := by
  by_cases h0 : m = 0
  · subst h0; rw [bl_zero]; omega
  · by_cases hc : bl m ≤ bl n
    · exact hc
    · have h1 := bl_lt n
      have h2 := bl_le h0
      have := Nat.pow_le_pow_right (show 0 < 2 by decide) (show bl n + 1 ≤ bl m by omega)
      rw [Nat.pow_succ] at this
      omega
theorem bl_len {n : Nat} : bl n ≤ 32 * (digs 4294967296 n).length := by
  by_cases h0 : n = 0
  · subst h0; rw [bl_zero]; omega
  · have h1 := digs_lt_pow (B := 4294967296) (by decide) n
    have e : (4294967296 : Nat) ^ (digs 4294967296 n).length = 2 ^ (32 * (digs 4294967296 n).length) := by rw [Nat.pow_mul]
    rw [e] at h1
    have h2 := bl_le h0
    by_cases hc : bl n ≤ 32 * (digs 4294967296 n).length
    · exact hc
    · have := Nat.pow_le_pow_right (show 0 < 2 by decide) (show 32 * (digs 4294967296 n).length + 1 ≤ bl n by omega)
      rw [Nat.pow_succ] at this
      omega
theorem rdivP {a b : Nat} (ha : 4 * (digs 4294967296 a).length + 4 ≤ LM) (hb : 4 * (digs 4294967296 b).length + 4 ≤ LM) (hb0 : b ≠ 0) : Ev (fun k => flagstoneref36_divide.f k (digs 4294967296 a) (digs 4294967296 b)) (digs 4294967296 (a / b), digs 4294967296 (a % b)) := by
  have hA := ha
  have hB := hb
  unfold LM at hA hB
  have hal : (digs 4294967296 a).length ≤ LM := by omega
  have hbl : (digs 4294967296 b).length ≤ LM := by omega
  obtain ⟨K1, hK1⟩ := bitsP hal
  obtain ⟨K2, hK2⟩ := bitsP hbl
  have hla := bl_len (n := a)
  have hlb := bl_len (n := b)
  by_cases hlt : bl a < bl b
  · have hab : a < b := by
      by_cases h : a < b
      · exact h
      · have := bl_mono (show b ≤ a by omega); omega
    refine ⟨K1 + K2, fun k hk => ?_⟩
    rw [Nat.div_eq_of_lt hab, Nat.mod_eq_of_lt hab, digs_zero]
    show flagstoneref36_divide.f k _ _ = _
    unfold flagstoneref36_divide.f
    rw [show flagstoneref36_bits.f k (digs 4294967296 a) = _ from hK1 k (by omega), Option.bind_some, show flagstoneref36_bits.f k (digs 4294967296 b) = _ from hK2 k (by omega), Option.bind_some, w64_eq (by omega) (by omega), if_pos (by omega)]
  · obtain ⟨n, hn⟩ : ∃ n, bl a = bl b + n := ⟨bl a - bl b, by omega⟩
    have hnl : n ≤ 64 * LM := by unfold LM; omega
    have hsl : ∀ i, i ≤ n → (digs 4294967296 (b * 2 ^ i)).length ≤ LM := by
      intro i hi
      have := rlen_shift (b := b) (s := i)
      unfold LM; omega
    obtain ⟨K3, hK3⟩ := shiftP (n := b) hbl hnl
    have hlt2 : a < b * 2 ^ (n + 1) := by
      have h1 := bl_lt a
      have h2 := bl_le hb0
      rw [hn, Nat.pow_add] at h1
      have h3 : 2 ^ bl b * 2 ^ n ≤ (2 * b) * 2 ^ n := Nat.mul_le_mul_right _ h2
      have e : b * 2 ^ (n + 1) = (2 * b) * 2 ^ n := by rw [Nat.pow_succ]; grind
      omega
    obtain ⟨K4, hK4⟩ := divide_l0 (N := n) (A0 := a) hb0 hnl hsl (n + 1) a (b * 2 ^ n) (List.replicate (n / 32 + 1) 0) 0 (Nat.le_refl _) (fun _ => by rw [Nat.add_sub_cancel]) hlt2 hal (by simp) (Dg.replicate (by omega) _) (by omega) (by rw [vI_replicate]; simp) (by rw [vI_replicate]; simp)
    refine ⟨K1 + K2 + K3 + K4, fun k hk => ?_⟩
    show flagstoneref36_divide.f k _ _ = _
    unfold flagstoneref36_divide.f
    have l1 : K1 ≤ k := by omega
    have l2 : K2 ≤ k := by omega
    have l3 : K3 ≤ k := by omega
    have l4 : K4 ≤ k := by omega
    have en : wrap64 ((bl a : Int) - (bl b : Int)) = (n : Int) := by rw [w64_eq (by omega) (by omega)]; omega
    have eD : wrap64 (wrap64 (Int.tdiv (n : Int) 32) + 1) = ((n / 32 + 1 : Nat) : Int) := by rw [Int.tdiv_eq_ediv_of_nonneg (by omega), w64_eq (n := (n : Int) / 32) (by omega) (by omega), w64_eq (by omega) (by omega)]; omega
    have g1 : ¬ (n : Int) < 0 := by omega
    have g2 : n / 32 + 1 ≤ 70368744177664 := by unfold LM at hnl; omega
    rw [show flagstoneref36_bits.f k (digs 4294967296 a) = _ from hK1 k l1, Option.bind_some, show flagstoneref36_bits.f k (digs 4294967296 b) = _ from hK2 k l2, Option.bind_some, en, if_neg g1, eD, if_pos (Int.natCast_nonneg _), Int.toNat_natCast, if_pos g2, show flagstoneref36_shift.f k (digs 4294967296 b) (n : Int) = _ from hK3 k l3, Option.bind_some]
    have := hK4 k l4
    rw [show ((n + 1 : Nat) : Int) - 1 = (n : Int) by omega] at this
    exact this
theorem divisor_l0 (m : Nat) : ∀ n : Nat, n ≠ 0 → 4 * (digs 4294967296 m).length + 4 ≤ LM → 4 * (digs 4294967296 n).length + 4 ≤ LM → Ev (fun k => flagstoneref36_divisor.l0 k (digs 4294967296 m) (digs 4294967296 n)) (digs 4294967296 (Nat.gcd m n)) := by
  induction m using Nat.strongRecOn with
  | ind m ih =>
    intro n hn0 hm hn
    by_cases h0 : m = 0
    · subst h0
      rw [digs_zero, Nat.gcd_zero_left]
      exact Ev.ans fun k => by simp [flagstoneref36_divisor.l0]
    · have hne : (digs 4294967296 m).length ≠ 0 := fun e => h0 ((digs_nil (B := 4294967296) (by decide) m).mp (List.length_eq_zero_iff.mp e))
      have hlt : n % m < m := Nat.mod_lt _ (by omega)
      have hll : 4 * (digs 4294967296 (n % m)).length + 4 ≤ LM := by
        have := digs_len_mono (B := 4294967296) (by decide) (Nat.le_of_lt hlt)
        omega
      have h := ih (n % m) hlt m h0 hll hm
      rw [Nat.gcd_rec m n]
      refine Ev.step (f := fun k => (flagstoneref36_divide.f k (digs 4294967296 n) (digs 4294967296 m)).bind fun bt => flagstoneref36_divisor.l0 k bt.2 (digs 4294967296 m)) (fun k => ?_) (Ev.bind (f := fun k (bt : List Int × List Int) => flagstoneref36_divisor.l0 k bt.2 (digs 4294967296 m)) (rdivP hn hm h0) h)
      simp only [flagstoneref36_divisor.l0]; rw [if_pos (by omega)]
theorem divisorP {m n : Nat} (hn0 : n ≠ 0) (hm : 4 * (digs 4294967296 m).length + 4 ≤ LM) (hn : 4 * (digs 4294967296 n).length + 4 ≤ LM) : Ev (fun k => flagstoneref36_divisor.f k (digs 4294967296 m) (digs 4294967296 n)) (digs 4294967296 (Nat.gcd m n)) := divisor_l0 m n hn0 hm hn
end Go.Proofs.YtplpmndchdockaaDoor.M
