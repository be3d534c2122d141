import Derived.Test.YtplpmndchdockaaDoorRnA
/-! The reference's naturals: bits, shift, half, divide, divisor. -/
namespace Go.Proofs.YtplpmndchdockaaDoor.M
open Go Go.RowKit Go.Proofs.YtplpmndchdockaaDoor.Pr Go.Proofs.YtplpmndchdockaaDoorV.PrintWords
set_option autoImplicit false
set_option linter.unusedVariables false

/-- The number of bits. -/
def bl (n : Nat) : Nat := if h : n = 0 then 0 else bl (n / 2) + 1
termination_by n
decreasing_by omega
theorem bl_zero : bl 0 = 0 := by unfold bl; simp
theorem bl_pos {n : Nat} (h : n ≠ 0) : bl n = bl (n / 2) + 1 := by conv => lhs; unfold bl; rw [dif_neg h]
theorem bl_lt (n : Nat) : n < 2 ^ bl n := by
  induction n using Nat.strongRecOn with
  | ind n ih =>
    by_cases h : n = 0
    · subst h; rw [bl_zero]; decide
    · have := ih (n / 2) (by omega)
      rw [bl_pos h, Nat.pow_succ]; omega
theorem bl_le {n : Nat} (h0 : n ≠ 0) : 2 ^ bl n ≤ 2 * n := by
  induction n using Nat.strongRecOn with
  | ind n ih =>
    rw [bl_pos h0, Nat.pow_succ]
    by_cases h : n / 2 = 0
    · rw [h, bl_zero]; omega
    · have := ih (n / 2) (by omega) h; omega
theorem bl_uniq {n b : Nat} (h1 : n < 2 ^ b) (h2 : 2 ^ b ≤ 2 * n) : b = bl n := by
  have h0 : n ≠ 0 := by
    intro e; subst e
    have := Nat.pow_pos (n := b) (show 0 < 2 by omega); omega
  have h3 := bl_lt n
  have h4 := bl_le h0
  rcases Nat.lt_trichotomy b (bl n) with h | h | h
  · have := Nat.pow_le_pow_right (show 0 < 2 by omega) (show b + 1 ≤ bl n from h)
    rw [Nat.pow_succ] at this; omega
  · exact h
  · have := Nat.pow_le_pow_right (show 0 < 2 by omega) (show bl n + 1 ≤ b from h)
    rw [Nat.pow_succ] at this; omega
theorem bits_l0 (n : Nat) : ∀ s : Int, 0 ≤ s → s + n ≤ 9000000000000000000 → Ev (fun k => flagstoneref36_bits.l0 k s (n : Int)) (s + bl n) := by
  induction n using Nat.strongRecOn with
  | ind n ih =>
    intro s h0 h1
    by_cases h : n = 0
    · subst h
      rw [bl_zero]
      exact Ev.ans fun k => by simp [flagstoneref36_bits.l0]
    · have := ih (n / 2) (by omega) (s + 1) (by omega) (by omega)
      rw [bl_pos h, show s + ((bl (n / 2) + 1 : Nat) : Int) = s + 1 + (bl (n / 2) : Int) by omega]
      refine Ev.step (fun k => ?_) this
      simp only [flagstoneref36_bits.l0]
      rw [if_pos (by omega), w64_eq (by omega) (by omega)]; rfl
theorem bitsP {n : Nat} (hM : (digs 4294967296 n).length ≤ LM) : Ev (fun k => flagstoneref36_bits.f k (digs 4294967296 n)) (bl n : Int) := by
  unfold LM at hM
  by_cases h : n = 0
  · subst h
    rw [digs_zero, bl_zero]
    exact Ev.same fun k => by simp [flagstoneref36_bits.f]
  · have hne : (digs 4294967296 n).length ≠ 0 := fun e => h ((digs_nil (B := 4294967296) (by decide) n).mp (List.length_eq_zero_iff.mp e))
    obtain ⟨m, hm⟩ : ∃ m, (digs 4294967296 n).length = m + 1 := ⟨(digs 4294967296 n).length - 1, by omega⟩
    have hd := (rDg n).get (by omega) m
    obtain ⟨t, ht⟩ := Int.eq_ofNat_of_zero_le hd.1
    have hsp := vI_split 4294967296 (digs 4294967296 n) m (by omega)
    rw [rVal, vI_drop_succ _ _ _ (by omega), List.drop_of_length_le (by omega), vI_nil, Int.mul_zero, Int.add_zero, ht] at hsp
    have hlo := vI_nonneg (by omega) ((rDg n).take m)
    have hlt := vI_lt (by omega) ((rDg n).take m)
    rw [List.length_take, Nat.min_eq_left (by omega)] at hlt
    have ht0 : t ≠ 0 := by
      intro e
      obtain ⟨l, x, hl, hlm⟩ : ∃ l x, digs 4294967296 n = l ++ [x] ∧ l.length = m := by
        refine ⟨(digs 4294967296 n).dropLast, (digs 4294967296 n).getLast (by intro e; rw [e] at hm; simp at hm), (List.dropLast_concat_getLast _).symm, by rw [List.length_dropLast]; omega⟩
      have hnm := rNm n
      rw [hl, Nm_snoc] at hnm
      rw [hl, List.getD_eq_getElem?_getD, List.getElem?_append_right (by omega)] at ht
      simp [hlm] at ht
      omega
    have h3 := bl_lt t
    have h4 := bl_le ht0
    have eB : (4294967296 : Int) ^ m = ((2 ^ (32 * m) : Nat) : Int) := by rw [Nat.pow_mul, Int.natCast_pow]; rfl
    rw [eB] at hsp hlt
    obtain ⟨lo, hlo'⟩ := Int.eq_ofNat_of_zero_le hlo
    rw [hlo'] at hsp hlt
    have e1 : n = lo + 2 ^ (32 * m) * t := by exact_mod_cast hsp
    have e2 : lo < 2 ^ (32 * m) := by exact_mod_cast hlt
    have hb : 32 * m + bl t = bl n := by
      refine bl_uniq ?_ ?_
      · rw [e1, Nat.pow_add]
        have : 2 ^ (32 * m) * (t + 1) ≤ 2 ^ (32 * m) * 2 ^ bl t := Nat.mul_le_mul_left _ h3
        rw [Nat.mul_add, Nat.mul_one] at this
        omega
      · rw [e1, Nat.pow_add]
        have : 2 ^ (32 * m) * 2 ^ bl t ≤ 2 ^ (32 * m) * (2 * t) := Nat.mul_le_mul_left _ h4
        have e3 : 2 ^ (32 * m) * (2 * t) = 2 * (2 ^ (32 * m) * t) := by grind
        omega
    have := bits_l0 t (32 * m) (by omega) (by omega)
    rw [show (32 * (m : Int) + (bl t : Int)) = (bl n : Int) by omega] at this
    refine Ev.congr (fun k => ?_) this
    unfold flagstoneref36_bits.f
    have e5 : wrap64 (((digs 4294967296 n).length : Int) - 1) = (m : Int) := by rw [w64_eq (by omega) (by omega)]; omega
    rw [if_neg (by omega), e5, if_pos (by omega), if_pos (by omega), rrd_nat, ht, w64_eq (by omega) (by omega)]

theorem pow32 (m : Nat) : (4294967296 : Int) ^ m = 2 ^ (32 * m) := by rw [Int.pow_mul]; rfl
theorem shl64 {x : Int} {r : Nat} (h0 : 0 ≤ x) (h1 : x < 4294967296) (hr : r < 32) : shl .u64 x (r : Int) = x * 2 ^ r := by
  have := shl_small (k := .u64) (x := x) (y := (r : Int)) rfl (by have : IntKind.u64.bits = 64 := rfl; rw [this]; omega)
  rw [← this, Int.toNat_natCast]
  have hp : (2 : Int) ^ r ≤ 2 ^ 31 := pow_mono (by omega) (by omega)
  have hp0 : (0 : Int) < 2 ^ r := pow_pos' (by omega) r
  have e31 : (2 : Int) ^ 31 = 2147483648 := by decide
  have h2 : x * 2 ^ r ≤ 4294967295 * 2147483648 := Int.mul_le_mul (by omega) (by omega) (by omega) (by omega)
  exact u64_eq (Int.mul_nonneg h0 (by omega)) (by omega)
theorem orsh {x c : Int} {r : Nat} (h0 : 0 ≤ x) (h1 : x < 4294967296) (hr : r < 32) (c0 : 0 ≤ c) (c1 : c < 2 ^ r) : Go.bits .or .u64 (x * 2 ^ r) c = x * 2 ^ r + c := by
  have hp : (2 : Int) ^ r ≤ 2 ^ 31 := pow_mono (by omega) (by omega)
  have hp0 : (0 : Int) < 2 ^ r := pow_pos' (by omega) r
  have e31 : (2 : Int) ^ 31 = 2147483648 := by decide
  have e64 : (2 : Int) ^ 64 = 18446744073709551616 := by decide
  have h2 : x * 2 ^ r ≤ 4294967295 * 2147483648 := Int.mul_le_mul (by omega) (by omega) (by omega) (by omega)
  exact bits_join .u64 64 (by decide) u64_wraps r _ c (Int.mul_nonneg h0 (by omega)) (Int.mul_emod_left _ _) (by omega) c0 c1 (by omega)
theorem shift_l0 {a : List Int} (da : Dg 4294967296 a) (hM : a.length ≤ LM) {s : Nat} (hs : s ≤ 64 * LM) {n : Nat} (hn : vI 4294967296 a * 2 ^ s = n) (m : Nat) :
    ∀ (i : Nat) (o : List Int) (c : Int), i + m = a.length → o.length = s / 32 + i → Dg 4294967296 o → 0 ≤ c → c < 2 ^ (s % 32) → vI 4294967296 o + 4294967296 ^ (s / 32 + i) * c = 4294967296 ^ (s / 32) * (vI 4294967296 (a.take i) * 2 ^ (s % 32)) →
      Ev (fun k => flagstoneref36_shift.l0 k a (s : Int) o c (i : Int)) (digs 4294967296 n) := by
  unfold LM at hM hs
  have hr : s % 32 < 32 := Nat.mod_lt _ (by decide)
  have hp : (2 : Int) ^ (s % 32) ≤ 2 ^ 31 := pow_mono (by omega) (by omega)
  have hp0 : (0 : Int) < 2 ^ (s % 32) := pow_pos' (by omega) _
  have e31 : (2 : Int) ^ 31 = 2147483648 := by decide
  induction m with
  | zero =>
    intro i o c hi ho hd c0 c1 hv
    refine Ev.step (f := fun k => (flagstoneref36_trim.f k (o ++ [c])).bind fun t => some t) (fun k => ?_) (rtrim_then (by simp; omega) (hd.push' (by omega)) ?_)
    · simp only [flagstoneref36_shift.l0]
      rw [if_neg (by omega), if_pos (by omega), Int.emod_eq_of_lt (by omega) (by omega)]
    · rw [vI_append, vI_one, ho, hv, List.take_of_length_le (by omega), ← hn, pow32, ← Int.mul_assoc, Int.mul_comm _ (vI 4294967296 a), Int.mul_assoc, ← Int.pow_add, show 32 * (s / 32) + s % 32 = s by omega]
  | succ m ih =>
    intro i o c hi ho hd c0 c1 hv
    have ha := da.get (by omega) i
    have e : (a.getD i 0 * 2 ^ (s % 32) + c) % 4294967296 + 4294967296 * ((a.getD i 0 * 2 ^ (s % 32) + c) / 4294967296) = a.getD i 0 * 2 ^ (s % 32) + c := by omega
    have hx0 : 0 ≤ a.getD i 0 * 2 ^ (s % 32) := Int.mul_nonneg ha.1 (by omega)
    have hx1 : (a.getD i 0 + 1) * 2 ^ (s % 32) ≤ 4294967296 * 2 ^ (s % 32) := Int.mul_le_mul_of_nonneg_right (by omega) (by omega)
    rw [Int.add_mul, Int.one_mul] at hx1
    have hc2 : (a.getD i 0 * 2 ^ (s % 32) + c) / 4294967296 < 2 ^ (s % 32) := Int.ediv_lt_of_lt_mul (by omega) (by omega)
    have eT : Int.tmod (s : Int) 32 = ((s % 32 : Nat) : Int) := by rw [Int.tmod_eq_emod_of_nonneg (by omega)]; omega
    refine Ev.step (f := fun k => flagstoneref36_shift.l0 k a (s : Int) (o ++ [(a.getD i 0 * 2 ^ (s % 32) + c) % 4294967296]) ((a.getD i 0 * 2 ^ (s % 32) + c) / 4294967296) ((i + 1 : Nat) : Int)) (fun k => ?_) (ih _ _ _ (by omega) (by simp [ho]; omega) (hd.push' (by omega)) (Int.ediv_nonneg (by omega) (by omega)) hc2 ?_)
    · simp only [flagstoneref36_shift.l0]
      rw [if_pos (by omega), if_pos (by omega), eT, u64_eq (n := ((s % 32 : Nat) : Int)) (by omega) (by omega), if_pos (by omega), if_pos (by omega), rrd_nat, u64_eq (n := a.getD i 0) (by omega) (by omega), shl64 ha.1 ha.2 hr, orsh ha.1 ha.2 hr c0 c1, w64_eq (by omega) (by omega)]; rfl
    · rw [show s / 32 + (i + 1) = s / 32 + i + 1 by omega, push_at ho _ _ _ e, vI_take_succ _ _ _ (by omega), Int.mul_add, show vI 4294967296 o + (4294967296 ^ (s / 32 + i) * (a.getD i 0 * 2 ^ (s % 32)) + 4294967296 ^ (s / 32 + i) * c) = (vI 4294967296 o + 4294967296 ^ (s / 32 + i) * c) + 4294967296 ^ (s / 32 + i) * (a.getD i 0 * 2 ^ (s % 32)) by omega, hv, Int.pow_add]
      grind
theorem shiftP {n s : Nat} (hM : (digs 4294967296 n).length ≤ LM) (hs : s ≤ 64 * LM) : Ev (fun k => flagstoneref36_shift.f k (digs 4294967296 n) (s : Int)) (digs 4294967296 (n * 2 ^ s)) := by
  have hs' := hs
  unfold LM at hs'
  have := shift_l0 (rDg n) hM hs (n := n * 2 ^ s) (by rw [rVal, Int.natCast_mul, Int.natCast_pow]; rfl) _ 0 (List.replicate (s / 32) 0) 0 (Nat.zero_add _) (by simp) (Dg.replicate (by omega) _) (by omega) (pow_pos' (by omega) _) (by simp [vI_replicate, vI])
  refine Ev.congr (fun k => ?_) this
  unfold flagstoneref36_shift.f
  have eD : wrap64 (Int.tdiv (s : Int) 32) = ((s / 32 : Nat) : Int) := by rw [Int.tdiv_eq_ediv_of_nonneg (by omega), w64_eq (by omega) (by omega)]; omega
  rw [eD, if_pos (by omega), Int.toNat_natCast, if_pos (by omega)]; rfl

theorem or_low {x y : Int} (x0 : 0 ≤ x) (x1 : x < 2147483648) (y0 : 0 ≤ y) (y1 : y ≤ 1) : Go.bits .or .u32 x (y * 2147483648) = x + y * 2147483648 := by
  obtain ⟨a, rfl⟩ := Int.eq_ofNat_of_zero_le x0
  obtain ⟨b, rfl⟩ := Int.eq_ofNat_of_zero_le y0
  have hk : ∀ n : Int, 0 ≤ n → n < 2 ^ 32 → IntKind.u32.wrap n = n := by
    intro n h0 h1
    have e32 : (2 : Int) ^ 32 = 4294967296 := by decide
    have : IntKind.u32.wrap n = n % 4294967296 := by simp [IntKind.wrap, IntKind.bits, IntKind.signed]
    rw [this]; omega
  have hb : b * 2147483648 < 2 ^ 32 := by omega
  have h1 := (bits_nat .u32 32 (by decide) hk a (b * 2147483648) (by omega) hb).2
  have h2 := (bits_nat .u32 32 (by decide) hk (b * 2147483648) a hb (by omega)).2
  have h3 := bits_join .u32 32 (by decide) hk 31 ((b * 2147483648 : Nat) : Int) (a : Int) (by omega) (by omega) (by omega) (by omega) (by omega) (by omega)
  rw [Int.natCast_mul] at h1 h2 h3
  rw [show ((b : Int) * 2147483648) = (b : Int) * ((2147483648 : Nat) : Int) from rfl, h1, Nat.or_comm, ← h2, h3]
  omega
theorem half_l0 {a : List Int} (da : Dg 4294967296 a) (hM : a.length ≤ LM) {n : Nat} (hn : vI 4294967296 a / 2 = n) (m : Nat) :
    ∀ (i : Nat) (o : List Int), i + m = a.length → o.length = i → Dg 4294967296 o → (∀ p, p < o.length → o.getD p 0 = vI 4294967296 a / 2 / 4294967296 ^ (0 + p) % 4294967296) →
      Ev (fun k => flagstoneref36_half.l0 k a (o ++ List.replicate m 0) (i : Int)) (digs 4294967296 n) := by
  unfold LM at hM
  have hV0 := vI_nonneg (by omega) da
  have hV1 := vI_lt (by omega) da
  induction m with
  | zero =>
    intro i o hi ho hd hv
    rw [List.replicate_zero, List.append_nil]
    have h1 := val_of_digits (B := 4294967296) (by omega) (vI 4294967296 a / 2) o 0 hv
    rw [Int.pow_zero, Int.ediv_one, Int.emod_eq_of_lt (by omega) (by rw [show o.length = a.length by omega]; omega), hn] at h1
    refine Ev.step (f := fun k => (flagstoneref36_trim.f k o).bind fun t => some t) (fun k => ?_) (rtrim_then (by omega) hd h1)
    simp only [flagstoneref36_half.l0]; rw [if_neg (by omega)]
  | succ m ih =>
    intro i o hi ho hd hv
    have ha := da.get (by omega) i
    have hb := da.get (by omega) (i + 1)
    have hset : ∀ x : Int, (o ++ List.replicate (m + 1) 0).set i x = (o ++ [x]) ++ List.replicate m 0 := fun x => by rw [← ho]; exact set_at o m x
    have hlen : (i : Int) < ((o ++ List.replicate (m + 1) 0).length : Int) := by simp [ho]; omega
    have e1 : (i : Int) + 1 = ((i + 1 : Nat) : Int) := by omega
    refine Ev.step (f := fun k => flagstoneref36_half.l0 k a ((o ++ [a.getD i 0 / 2 + (a.getD (i + 1) 0 % 2) * 2147483648]) ++ List.replicate m 0) ((i + 1 : Nat) : Int)) (fun k => ?_) (ih _ _ (by omega) (by simp [ho]) (hd.push' (by omega)) (fun p hp => ?_))
    · simp only [flagstoneref36_half.l0]
      rw [if_pos (by omega), if_pos (by omega), w64_eq (n := (i : Int) + 1) (by omega) (by omega), e1, digitP da, Option.bind_some, if_pos hlen, Int.toNat_natCast, hset, rrd_nat, u64_eq (n := a.getD (i + 1) 0 * 2147483648) (by omega) (by omega), show a.getD (i + 1) 0 * 2147483648 % 4294967296 = (a.getD (i + 1) 0 % 2) * 2147483648 by omega, or_low (by omega) (by omega) (by omega) (by omega)]
    · simp only [List.length_append, List.length_singleton] at hp
      by_cases hpi : p < o.length
      · rw [List.getD_eq_getElem?_getD, List.getElem?_append_left hpi, ← List.getD_eq_getElem?_getD]; exact hv p hpi
      · obtain rfl : p = o.length := by omega
        rw [List.getD_eq_getElem?_getD, List.getElem?_append_right (by omega), Nat.sub_self, Nat.zero_add, ho]
        simp only [List.getElem?_cons_zero, Option.getD_some]
        rw [getD_val (by omega) da i, getD_val (by omega) da (i + 1), Int.pow_succ, ← Int.ediv_ediv_of_nonneg (Int.le_of_lt (pow_pos' (by omega) i)), Int.ediv_ediv_of_nonneg (show (0 : Int) ≤ 2 by omega), Int.mul_comm 2, ← Int.ediv_ediv_of_nonneg (Int.le_of_lt (pow_pos' (by omega) i))]
        generalize vI 4294967296 a / 4294967296 ^ i = Y
        omega
theorem halfP {n : Nat} (hM : (digs 4294967296 n).length ≤ LM) : Ev (fun k => flagstoneref36_half.f k (digs 4294967296 n)) (digs 4294967296 (n / 2)) := by
  have hM' := hM
  unfold LM at hM'
  have := half_l0 (rDg n) hM (n := n / 2) (by rw [rVal]; omega) _ 0 [] (Nat.zero_add _) rfl Dg.nil (fun p hp => by simp at hp)
  refine Ev.congr (fun k => ?_) this
  unfold flagstoneref36_half.f
  rw [if_pos (by omega), if_pos (by omega), Int.toNat_natCast]; rfl
end Go.Proofs.YtplpmndchdockaaDoor.M
