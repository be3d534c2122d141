import Derived.Test.YtplpmndchdockaaDoorLa
import Derived.Test.YtplpmndchdockaaDoorBits
import Derived.Test.YtplpmndchdockaaDoorEvs
import Derived.Test.YtplpmndchdockaaDoorLst
/-! The program's naturals (base 10^9): what trim, natOf, cmpNat, addNat, subNat, mulNat and small reckon. -/
namespace Go.Proofs.YtplpmndchdockaaDoor.M
open Go Go.RowKit Go.Proofs.YtplpmndchdockaaDoor.Pr Go.Proofs.YtplpmndchdockaaDoorV.PrintWords
set_option autoImplicit false
set_option linter.unusedVariables false

theorem rd_nat (l : List Int) (i : Nat) : rd l (i : Int) = l.getD i 0 := by simp [rd]
theorem snoc_of_len {α : Type} {l : List α} {n : Nat} (h : l.length = n + 1) : ∃ m x, l = m ++ [x] ∧ m.length = n := by
  have hl : l ≠ [] := by intro e; rw [e] at h; simp at h
  refine ⟨l.dropLast, l.getLast hl, (List.dropLast_concat_getLast hl).symm, ?_⟩
  rw [List.length_dropLast]; omega
theorem getD_snoc (m : List Int) (x : Int) : (m ++ [x]).getD m.length 0 = x := by
  rw [List.getD_eq_getElem?_getD, List.getElem?_append_right (by omega)]; simp
theorem getD_at (m r : List Int) (x : Int) : (m ++ x :: r).getD m.length 0 = x := by
  rw [List.getD_eq_getElem?_getD, List.getElem?_append_right (by omega)]; simp
theorem getD_left (m r : List Int) (i : Nat) (h : i < m.length) : (m ++ r).getD i 0 = m.getD i 0 := by
  rw [List.getD_eq_getElem?_getD, List.getD_eq_getElem?_getD, List.getElem?_append_left h]
theorem trim_l0 (n : Nat) : ∀ l : List Int, l.length = n → n ≤ 9000000000000000000 → Ev (fun k => rational_trim.l0 k l) (trimL l) := by
  induction n with
  | zero =>
    intro l h _
    obtain rfl := List.length_eq_zero_iff.mp h
    exact Ev.ans fun k => by simp [rational_trim.l0, trimL]
  | succ n ih =>
    intro l h hn
    obtain ⟨m, x, rfl, hm⟩ := snoc_of_len h
    refine Ev.step (f := fun k => if x = 0 then rational_trim.l0 k m else some (m ++ [x])) (fun k => ?_) ?_
    · simp only [rational_trim.l0]
      rw [h, if_pos (by omega)]
      have e : wrap64 (((n + 1 : Nat) : Int) - 1) = (n : Int) := by rw [w64_eq (by omega) (by omega)]; omega
      rw [e, if_pos (by omega), if_pos (by omega), rd_nat, Int.toNat_natCast, if_pos (show (n : Int) ≤ ((n + 1 : Nat) : Int) by omega), ← hm, getD_snoc, List.take_left]
    · by_cases hx : x = 0
      · subst hx
        simp only [if_true]
        rw [trimL_snoc_zero]; exact ih m hm (by omega)
      · simp only [if_neg hx]
        rw [trimL_of_Nm (Nm_snoc.mpr hx)]; exact Ev.now _
theorem trimP (l : List Int) (h : l.length ≤ 9000000000000000000) : Ev (fun k => rational_trim.f k l) (trimL l) := trim_l0 _ l rfl h

theorem natOf_l0 (n : Nat) : ∀ acc : List Int, n < 18446744073709551616 → acc.length + (digs 1000000000 n).length < 35184372088832 → Ev (fun k => rational_natOf.l0 k (n : Int) acc) (acc ++ digs 1000000000 n) := by
  induction n using Nat.strongRecOn with
  | ind n ih =>
    intro acc hn hl
    rcases Nat.eq_zero_or_pos n with rfl | h0
    · rw [digs_zero, List.append_nil]; exact Ev.ans fun k => by simp [rational_natOf.l0]
    · rw [digs_pos (by omega) h0] at hl ⊢
      simp only [List.length_cons] at hl
      have hq : n / 1000000000 < n := Nat.div_lt_self h0 (by omega)
      refine Ev.step (f := fun k => rational_natOf.l0 k ((n / 1000000000 : Nat) : Int) (acc ++ [((n % 1000000000 : Nat) : Int)])) (fun k => ?_) ?_
      · simp only [rational_natOf.l0]
        have e1 : Int.tdiv (n : Int) 1000000000 = ((n / 1000000000 : Nat) : Int) := by rw [Int.tdiv_eq_ediv_of_nonneg (by omega)]; omega
        have e2 : Int.tmod (n : Int) 1000000000 % 4294967296 = ((n % 1000000000 : Nat) : Int) := by rw [Int.tmod_eq_emod_of_nonneg (by omega)]; omega
        rw [if_pos (by omega), if_pos (by omega), e1, e2, u64_eq (by omega) (by omega)]
      · have := ih (n / 1000000000) hq (acc ++ [((n % 1000000000 : Nat) : Int)]) (by omega) (by rw [List.length_append]; simp only [List.length_cons, List.length_nil]; omega)
        simpa using this
theorem digs_len64 {n : Nat} (h : n < 18446744073709551616) : (digs 1000000000 n).length ≤ 3 := digs_len_le (by omega) (Nat.lt_of_lt_of_le h (by decide))
theorem natOfP (n : Nat) (h : n < 18446744073709551616) : Ev (fun k => rational_natOf.f k (n : Int)) (digs 1000000000 n) := by
  exact natOf_l0 n [] h (by have := digs_len64 h; simp; omega)

/-! ### Comparison -/
def cmpI (a b : Int) : Int := if a < b then -1 else if a = b then 0 else 1
def cmpN (a b : Nat) : Int := cmpI a b
theorem cmp_less {B : Int} (hB : 1 ≤ B) {a b : List Int} (da : Dg B a) (db : Dg B b) {j : Nat} (ha : j < a.length) (hb : j < b.length) (h : a.getD j 0 < b.getD j 0) : vI B (a.take (j + 1)) < vI B (b.take (j + 1)) := by
  rw [vI_take_succ _ _ _ ha, vI_take_succ _ _ _ hb]
  have h1 := vI_lt (by omega) (da.take j)
  rw [List.length_take, Nat.min_eq_left (by omega)] at h1
  have h2 := vI_nonneg (by omega) (db.take j)
  have h3 : B ^ j * (a.getD j 0 + 1) ≤ B ^ j * b.getD j 0 := Int.mul_le_mul_of_nonneg_left (by omega) (Int.le_of_lt (pow_pos' (by omega) _))
  rw [Int.mul_add, Int.mul_one] at h3
  omega
theorem cmp_same {B : Int} {a b : List Int} {j : Nat} (ha : j < a.length) (hb : j < b.length) (h : a.getD j 0 = b.getD j 0) : cmpI (vI B (a.take (j + 1))) (vI B (b.take (j + 1))) = cmpI (vI B (a.take j)) (vI B (b.take j)) := by
  rw [vI_take_succ _ _ _ ha, vI_take_succ _ _ _ hb, h]
  unfold cmpI
  repeat' split
  all_goals omega
theorem cmpI_lt {a b : Int} (h : a < b) : cmpI a b = -1 := by unfold cmpI; rw [if_pos h]
theorem cmpI_gt {a b : Int} (h : b < a) : cmpI a b = 1 := by unfold cmpI; rw [if_neg (by omega), if_neg (by omega)]
theorem cmp_l0 {a b : List Int} (da : Dg 1000000000 a) (db : Dg 1000000000 b) (j : Nat) : j ≤ a.length → j ≤ b.length → j ≤ 9000000000000000000 → Ev (fun k => rational_cmpNat.l0 k a b ((j : Int) - 1)) (cmpI (vI 1000000000 (a.take j)) (vI 1000000000 (b.take j))) := by
  induction j with
  | zero => intro _ _ _; exact Ev.ans fun k => by simp [rational_cmpNat.l0, cmpI]
  | succ j ih =>
    intro ha hb hj
    have e : ((j + 1 : Nat) : Int) - 1 = (j : Int) := by omega
    rw [e]
    refine Ev.step (f := fun k => if a.getD j 0 = b.getD j 0 then rational_cmpNat.l0 k a b ((j : Int) - 1) else if a.getD j 0 < b.getD j 0 then some (-1) else some 1) (fun k => ?_) ?_
    · simp only [rational_cmpNat.l0]
      rw [if_pos (by omega), if_pos (by omega), if_pos (by omega), if_pos (by omega), rd_nat, rd_nat, w64_eq (by omega) (by omega)]
    · by_cases h : a.getD j 0 = b.getD j 0
      · simp only [if_pos h]
        rw [cmp_same (by omega) (by omega) h]; exact ih (by omega) (by omega) (by omega)
      · simp only [if_neg h]
        by_cases h2 : a.getD j 0 < b.getD j 0
        · simp only [if_pos h2]; rw [cmpI_lt (cmp_less (by omega) da db (by omega) (by omega) h2)]; exact Ev.now _
        · simp only [if_neg h2]; rw [cmpI_gt (cmp_less (by omega) db da (by omega) (by omega) (by omega))]; exact Ev.now _
theorem cmpP {a b : Nat} (ha : (digs 1000000000 a).length ≤ LM) (hb : (digs 1000000000 b).length ≤ LM) : Ev (fun k => rational_cmpNat.f k (digs 1000000000 a) (digs 1000000000 b)) (cmpN a b) := by
  unfold LM at ha hb
  have da := digs_Dg (show 2 ≤ 1000000000 by omega) a
  have db := digs_Dg (show 2 ≤ 1000000000 by omega) b
  have na := digs_Nm (show 2 ≤ 1000000000 by omega) a
  have nb := digs_Nm (show 2 ≤ 1000000000 by omega) b
  have va := digs_val (show 2 ≤ 1000000000 by omega) a
  have vb := digs_val (show 2 ≤ 1000000000 by omega) b
  unfold cmpN
  by_cases h : (digs 1000000000 a).length = (digs 1000000000 b).length
  · have := cmp_l0 da db (digs 1000000000 a).length (Nat.le_refl _) (by omega) (by omega)
    rw [List.take_of_length_le (Nat.le_refl _), List.take_of_length_le (by omega), show (1000000000 : Int) = ((1000000000 : Nat) : Int) from rfl, va, vb] at this
    refine Ev.congr (fun k => ?_) this
    unfold rational_cmpNat.f
    rw [if_pos (by omega), w64_eq (by omega) (by omega)]
  · by_cases h2 : (digs 1000000000 a).length < (digs 1000000000 b).length
    · have := vI_lt_of_len (by omega) da db nb h2
      rw [va, vb] at this
      rw [cmpI_lt this]
      exact Ev.same fun k => by unfold rational_cmpNat.f; rw [if_neg (by omega), if_pos (by omega)]
    · have := vI_lt_of_len (by omega) db da na (by omega)
      rw [va, vb] at this
      rw [cmpI_gt this]
      exact Ev.same fun k => by unfold rational_cmpNat.f; rw [if_neg (by omega), if_neg (by omega)]
end Go.Proofs.YtplpmndchdockaaDoor.M
