import Derived.Test.YtplpmndchdockaaDoorPnD
/-! The program's naturals: divNat and gcd, whole. -/
namespace Go.Proofs.YtplpmndchdockaaDoor.M
open Go Go.RowKit Go.Proofs.YtplpmndchdockaaDoor.Pr Go.Proofs.YtplpmndchdockaaDoorV.PrintWords
set_option autoImplicit false
set_option linter.unusedVariables false

theorem digs_one {d : Nat} (h0 : 0 < d) (h : d < 1000000000) : digs 1000000000 d = [(d : Int)] := by
  rw [digs_pos (by omega) h0, Nat.mod_eq_of_lt h, Nat.div_eq_of_lt h, digs_zero]
theorem len_one {b : Nat} (h : (digs 1000000000 b).length = 1) : 0 < b ∧ b < 1000000000 ∧ digs 1000000000 b = [(b : Int)] := by
  have h1 := digs_lt_pow (B := 1000000000) (by decide) b
  rw [h, Nat.pow_one] at h1
  have h0 : 0 < b := by
    rcases Nat.eq_zero_or_pos b with rfl | h0
    · rw [digs_zero] at h; simp at h
    · exact h0
  exact ⟨h0, h1, digs_one h0 h1⟩
/-- What stands behind the comparison, for a divisor of two digits and more. -/
def dvRest (k : Nat) (l0 l1 : List Int) (s : Int) : Option (List Int × List Int) :=
  (rational_mulNat.f k l0 [s]).bind fun t174 => (rational_mulNat.f k l1 [s]).bind fun t177 => (rational_natural_uint32.f t174).bind fun t180 => if t180.length < 35184372088832 then (if 0 ≤ (wrap64 ((wrap64 ((t174.length : Int) - (t177.length : Int))) + 1)) then (if (wrap64 ((wrap64 ((t174.length : Int) - (t177.length : Int))) + 1) : Int).toNat ≤ 70368744177664 then (rational_divNat.l0 k [s] t177 (t177.length : Int) (t180 ++ [0]) (List.replicate (wrap64 ((wrap64 ((t174.length : Int) - (t177.length : Int))) + 1) : Int).toNat 0) (wrap64 ((t174.length : Int) - (t177.length : Int)))) else none) else none) else none
theorem dv_case (k : Nat) (l0 l1 : List Int) {m : Nat} (hm : l1.length = m + 2) (hM : m ≤ LM) (h0 : 0 ≤ l1.getD (m + 1) 0) (h1 : l1.getD (m + 1) 0 < 1000000000) (c : Int) (hc : ¬ c < 0) (e : rational_cmpNat.f k l0 l1 = some c) :
    rational_divNat.f k l0 l1 = dvRest k l0 l1 (1000000000 / (l1.getD (m + 1) 0 + 1)) := by
  unfold LM at hM
  have hl : ¬ ((l1.length : Int) = 1) := by omega
  have e1 : wrap64 ((l1.length : Int) - 1) = ((m + 1 : Nat) : Int) := by rw [w64_eq (by omega) (by omega)]; omega
  have h2 : ((m + 1 : Nat) : Int) < (l1.length : Int) := by omega
  have e2 : (l1.getD (m + 1) 0 + 1) % 4294967296 = l1.getD (m + 1) 0 + 1 := Int.emod_eq_of_lt (by omega) (by omega)
  have h3 : ¬ (l1.getD (m + 1) 0 + 1 = 0) := by omega
  unfold rational_divNat.f dvRest
  rw [e, Option.bind_some, if_neg hc, if_neg hl, e1, if_pos (Int.natCast_nonneg _), if_pos h2, rd_nat, e2, if_neg h3, Option.bind_some]
theorem scale_ok {x : Int} (h0 : 1 ≤ x) (h1 : x < 1000000000) : ∃ s : Nat, (1000000000 : Int) / (x + 1) = s ∧ 0 < s ∧ s < 1000000000 := by
  obtain ⟨s, hs⟩ : ∃ s : Nat, (1000000000 : Int) / (x + 1) = s := Int.eq_ofNat_of_zero_le (Int.ediv_nonneg (by omega) (by omega))
  refine ⟨s, hs, ?_, ?_⟩
  · have : 1 ≤ (1000000000 : Int) / (x + 1) := (Int.le_ediv_iff_mul_le (by omega)).mpr (by omega)
    omega
  · have : (1000000000 : Int) / (x + 1) < 1000000000 := Int.ediv_lt_of_lt_mul (by omega) (by omega)
    omega
theorem len_scaled {x s : Nat} (hs0 : 0 < s) (hs1 : s < 1000000000) : (digs 1000000000 (x * s)).length ≤ (digs 1000000000 x).length + 1 := by
  refine digs_len_le (by decide) ?_
  rw [Nat.pow_succ]
  have h2 := digs_lt_pow (B := 1000000000) (by decide) x
  exact Nat.lt_of_lt_of_le (Nat.mul_lt_mul_of_pos_right h2 hs0) (Nat.mul_le_mul_left _ (Nat.le_of_lt hs1))
theorem dv_rest {a b s n : Nat} (ha : (digs 1000000000 a).length + 2 ≤ LM) (hb : (digs 1000000000 b).length + 2 ≤ LM) (hs0 : 0 < s) (hs1 : s < 1000000000) (hn : (digs 1000000000 (b * s)).length = n + 2) (hvu : (digs 1000000000 (b * s)).length ≤ (digs 1000000000 (a * s)).length) :
    Ev (fun k => dvRest k (digs 1000000000 a) (digs 1000000000 b) (s : Int)) (digs 1000000000 (a / b), digs 1000000000 (a % b)) := by
  have hA := ha
  have hB := hb
  unfold LM at hA hB
  have hsl : (digs 1000000000 s).length = 1 := by rw [digs_one hs0 hs1]; rfl
  have hu := mulP (a := a) (b := s) (Nat.le_trans (Nat.le_add_right _ 2) ha) (by rw [hsl]; unfold LM; omega)
  have hv := mulP (a := b) (b := s) (Nat.le_trans (Nat.le_add_right _ 2) hb) (by rw [hsl]; unfold LM; omega)
  rw [digs_one hs0 hs1] at hu hv
  have hlu := len_scaled (x := a) hs0 hs1
  have hlv := len_scaled (x := b) hs0 hs1
  have hvV := vI_lt (by omega) (pDg (a * s))
  have hlow := (pNm (b * s)).low (by omega) (pDg _) (by intro e; rw [e] at hn; simp at hn)
  rw [hn] at hlow
  have hN : (digs 1000000000 (a * s)).length ≤ 3 * LM := by unfold LM; omega
  have hn2 : n + 2 ≤ LM := by unfold LM; omega
  have hfst : vI 1000000000 (digs 1000000000 (a * s) ++ [0]) < vI 1000000000 (digs 1000000000 (b * s)) * 1000000000 ^ ((digs 1000000000 (a * s)).length - (n + 2) + 1) := by
    rw [vI_append, vI_one, Int.mul_zero, Int.add_zero]
    have h3 : (1000000000 : Int) ^ (n + 2 - 1) * 1000000000 ^ ((digs 1000000000 (a * s)).length - (n + 2) + 1) = 1000000000 ^ (digs 1000000000 (a * s)).length := by rw [← Int.pow_add]; congr 1; omega
    have h4 := Int.mul_le_mul_of_nonneg_right hlow (Int.le_of_lt (pow_pos' (show (0 : Int) < 1000000000 by omega) ((digs 1000000000 (a * s)).length - (n + 2) + 1)))
    rw [h3] at h4
    exact Int.lt_of_lt_of_le hvV h4
  have hmain := div_l0 (s := s) (a := a) (b := b) (N := (digs 1000000000 (a * s)).length) (pDg (b * s)) (pNm (b * s)) hn hn2 hs0 hs1 hN (pVal _) ((digs 1000000000 (a * s)).length - (n + 2) + 1) (digs 1000000000 (a * s) ++ [0]) [] (by rw [List.length_append]; rfl) (by rw [List.length_nil]; omega) ((pDg _).push (by omega)) Dg.nil hfst
    (by rw [vI_append, vI_one, Int.mul_zero, Int.add_zero, pVal, vI_nil, Int.mul_zero, Int.add_zero])
  rw [List.append_nil] at hmain
  have hcl : rational_natural_uint32.f (digs 1000000000 (a * s)) = some (digs 1000000000 (a * s)) := by
    unfold rational_natural_uint32.f
    simp only [Option.bind_some, List.nil_append, List.length_nil, Nat.zero_add]
    rw [if_pos (by omega)]
  clear hfst hlow hvV
  obtain ⟨K1, hK1⟩ := hu
  obtain ⟨K2, hK2⟩ := hv
  obtain ⟨K3, hK3⟩ := hmain
  refine ⟨K1 + K2 + K3, fun k hk => ?_⟩
  show dvRest k _ _ _ = _
  unfold dvRest
  rw [show rational_mulNat.f k (digs 1000000000 a) [(s : Int)] = _ from hK1 k (by omega), Option.bind_some]
  rw [show rational_mulNat.f k (digs 1000000000 b) [(s : Int)] = _ from hK2 k (by omega), Option.bind_some, hcl, Option.bind_some]
  rw [if_pos (by omega), w64_eq (n := ((digs 1000000000 (a * s)).length : Int) - ((digs 1000000000 (b * s)).length : Int)) (by omega) (by omega), w64_eq (by omega) (by omega), if_pos (by omega), if_pos (by omega), show (((digs 1000000000 (a * s)).length : Int) - ((digs 1000000000 (b * s)).length : Int) + 1).toNat = (digs 1000000000 (a * s)).length - (n + 2) + 1 by omega, show ((digs 1000000000 (a * s)).length : Int) - ((digs 1000000000 (b * s)).length : Int) = (((digs 1000000000 (a * s)).length - (n + 2) + 1 : Nat) : Int) - 1 by omega, hn]
  exact hK3 k (by omega)
theorem divP {a b : Nat} (ha : (digs 1000000000 a).length + 2 ≤ LM) (hb : (digs 1000000000 b).length + 2 ≤ LM) (hb0 : b ≠ 0) : Ev (fun k => rational_divNat.f k (digs 1000000000 a) (digs 1000000000 b)) (digs 1000000000 (a / b), digs 1000000000 (a % b)) := by
  have ha' := Nat.le_trans (Nat.le_add_right _ 2) ha
  have hb' := Nat.le_trans (Nat.le_add_right _ 2) hb
  obtain ⟨K0, hK0⟩ := cmpP (a := a) (b := b) ha' hb'
  by_cases hlt : a < b
  · refine ⟨K0, fun k hk => ?_⟩
    show rational_divNat.f k _ _ = _
    unfold rational_divNat.f
    rw [show rational_cmpNat.f k (digs 1000000000 a) (digs 1000000000 b) = _ from hK0 k hk, show cmpN a b = -1 from cmpI_lt (by omega), Option.bind_some, if_pos (show (-1 : Int) < 0 by decide), Nat.div_eq_of_lt hlt, Nat.mod_eq_of_lt hlt, digs_zero]
  · have hc0 : ¬ cmpN a b < 0 := by unfold cmpN cmpI; split <;> omega
    by_cases h1 : (digs 1000000000 b).length = 1
    · obtain ⟨g0, g1, g2⟩ := len_one h1
      obtain ⟨K1, hK1⟩ := smallP (a := a) ha' g0 (by omega)
      refine ⟨K0 + K1, fun k hk => ?_⟩
      show rational_divNat.f k _ _ = _
      unfold rational_divNat.f
      rw [show rational_cmpNat.f k (digs 1000000000 a) (digs 1000000000 b) = _ from hK0 k (by omega), Option.bind_some, if_neg hc0, if_pos (by omega), if_pos (by omega), g2, show rd [(b : Int)] 0 = (b : Int) from rfl, show rational_small.f k (digs 1000000000 a) (b : Int) = _ from hK1 k (by omega)]
      rfl
    · have hne : digs 1000000000 b ≠ [] := fun e => hb0 ((digs_nil (B := 1000000000) (by decide) b).mp e)
      obtain ⟨m, hm⟩ : ∃ m, (digs 1000000000 b).length = m + 2 := ⟨(digs 1000000000 b).length - 2, by
        have : (digs 1000000000 b).length ≠ 0 := fun e => hne (List.length_eq_zero_iff.mp e)
        omega⟩
      have htop := lead_pos (pDg b) (pNm b) hm
      have htop1 := (pDg b).get (by omega) (m + 1)
      obtain ⟨s, hs, hs0, hs1⟩ := scale_ok htop htop1.2
      have hbv : (digs 1000000000 b).length ≤ (digs 1000000000 (b * s)).length := digs_len_mono (by decide) (Nat.le_mul_of_pos_right _ hs0)
      have hvu : (digs 1000000000 (b * s)).length ≤ (digs 1000000000 (a * s)).length := digs_len_mono (by decide) (Nat.mul_le_mul_right _ (Nat.le_of_not_lt hlt))
      obtain ⟨K1, hK1⟩ := dv_rest (n := (digs 1000000000 (b * s)).length - 2) ha hb hs0 hs1 (by omega) hvu
      refine ⟨K0 + K1, fun k hk => ?_⟩
      show rational_divNat.f k _ _ = _
      rw [dv_case k _ _ hm (by omega) htop1.1 htop1.2 _ hc0 (hK0 k (by omega)), hs]
      exact hK1 k (by omega)
theorem gcd_l0 (n : Nat) : ∀ m : Nat, (digs 1000000000 m).length + 2 ≤ LM → (digs 1000000000 n).length + 2 ≤ LM → Ev (fun k => rational_gcd.l0 k (digs 1000000000 m) (digs 1000000000 n)) (digs 1000000000 (Nat.gcd m n)) := by
  induction n using Nat.strongRecOn with
  | ind n ih =>
    intro m hm hn
    by_cases h0 : n = 0
    · subst h0
      rw [digs_zero, Nat.gcd_zero_right]
      exact Ev.ans fun k => by simp [rational_gcd.l0]
    · have hne : (digs 1000000000 n).length ≠ 0 := fun e => h0 ((digs_nil (B := 1000000000) (by decide) n).mp (List.length_eq_zero_iff.mp e))
      have hlt : m % n < n := Nat.mod_lt _ (by omega)
      have h := ih (m % n) hlt n hn (Nat.le_trans (Nat.add_le_add_right (digs_len_mono (by omega) (Nat.le_of_lt hlt)) 2) hn)
      rw [Nat.gcd_comm m n, Nat.gcd_rec n m, Nat.gcd_comm (m % n) n]
      refine Ev.step (f := fun k => (rational_divNat.f k (digs 1000000000 m) (digs 1000000000 n)).bind fun bt => rational_gcd.l0 k (digs 1000000000 n) bt.2) (fun k => ?_) (Ev.bind (f := fun k (bt : List Int × List Int) => rational_gcd.l0 k (digs 1000000000 n) bt.2) (divP hm hn h0) h)
      simp only [rational_gcd.l0]; rw [if_pos (by omega)]
theorem gcdP {m n : Nat} (hm : (digs 1000000000 m).length + 2 ≤ LM) (hn : (digs 1000000000 n).length + 2 ≤ LM) : Ev (fun k => rational_gcd.f k (digs 1000000000 m) (digs 1000000000 n)) (digs 1000000000 (Nat.gcd m n)) := gcd_l0 n m hm hn
end Go.Proofs.YtplpmndchdockaaDoor.M
