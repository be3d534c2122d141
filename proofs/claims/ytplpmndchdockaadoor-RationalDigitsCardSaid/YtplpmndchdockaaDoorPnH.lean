import Derived.Test.YtplpmndchdockaaDoorConP
import Derived.Test.YtplpmndchdockaaDoorLd
/-! The number of a natural: what Scale's local function answers. -/
namespace Go.Proofs.YtplpmndchdockaaDoor.M
open Go Go.RowKit Go.Proofs.YtplpmndchdockaaDoor.Pr Go.Proofs.YtplpmndchdockaaDoorV.PrintWords
set_option autoImplicit false
set_option linter.unusedVariables false

theorem val_l0 {l : List Int} (dl : Dg 1000000000 l) (hl : l.length ≤ LM) (j : Nat) : ∀ x : Int, 0 ≤ x → j ≤ l.length → x * 1000000000 ^ j + vI 1000000000 (l.take j) ≤ 4611686018427387904 → Ev (fun k => rational_Scale_1.l0 k l x ((j : Int) - 1)) (x * 1000000000 ^ j + vI 1000000000 (l.take j)) := by
  unfold LM at hl
  induction j with
  | zero =>
    intro x h0 _ _
    rw [Int.pow_zero, Int.mul_one, List.take_zero, vI_nil, Int.add_zero]
    exact Ev.ans fun k => by simp only [rational_Scale_1.l0]; rw [if_neg (by omega)]
  | succ j ih =>
    intro x h0 hj hb
    have hd := dl.get (by omega) j
    have e : x * 1000000000 ^ (j + 1) + vI 1000000000 (l.take (j + 1)) = (x * 1000000000 + l.getD j 0) * 1000000000 ^ j + vI 1000000000 (l.take j) := by
      rw [vI_take_succ _ _ _ (by omega), Int.pow_succ]; grind
    rw [e] at hb ⊢
    have hp := pow_pos' (show (0 : Int) < 1000000000 by omega) j
    have hv := vI_nonneg (by omega) (dl.take j)
    have hx0 : 0 ≤ x * 1000000000 + l.getD j 0 := by omega
    have hx1 : (x * 1000000000 + l.getD j 0) * 1 ≤ (x * 1000000000 + l.getD j 0) * 1000000000 ^ j := Int.mul_le_mul_of_nonneg_left (by omega) hx0
    have hx : x * 1000000000 + l.getD j 0 ≤ 4611686018427387904 := by omega
    have h := ih (x * 1000000000 + l.getD j 0) hx0 (by omega) hb
    clear hb hx1 hv hp e
    refine Ev.step (fun k => ?_) h
    simp only [rational_Scale_1.l0]
    rw [show ((j + 1 : Nat) : Int) - 1 = (j : Int) by omega, if_pos (by omega), if_pos (by omega), if_pos (by omega), rd_nat, w64_eq (n := x * 1000000000) (by omega) (by omega), w64_eq (n := l.getD j 0) (by omega) (by omega), w64_eq (n := x * 1000000000 + l.getD j 0) (by omega) (by omega), w64_eq (n := (j : Int) - 1) (by omega) (by omega)]
theorem valP {n : Nat} (h : n ≤ 4611686018427387904) : Ev (fun k => rational_Scale_1.f k (digs 1000000000 n)) (n : Int) := by
  have hl : (digs 1000000000 n).length ≤ 3 := digs_len64 (by omega)
  have := val_l0 (pDg n) (by unfold LM; omega) (digs 1000000000 n).length 0 (by omega) (Nat.le_refl _) (by rw [List.take_of_length_le (Nat.le_refl _), pVal]; omega)
  rw [List.take_of_length_le (Nat.le_refl _), pVal, Int.zero_mul, Int.zero_add] at this
  refine Ev.congr (fun k => ?_) this
  unfold rational_Scale_1.f
  rw [w64_eq (by omega) (by omega)]
theorem val_c (w : World) {A : Option Addr} {L c n lo : Nat} (ha : Nf 1000000000 lo w (.slice A L c) n) (h : n ≤ 4611686018427387904) : Calls Tryd.prog 65 #[.slice A L c] w fun e w' => e = .returned (.int .i64 (n : Int)) ∧ ∃ q, w' = w.drewN q := by
  obtain ⟨k, hk⟩ := (valP h).rounds
  rw [ha.len]
  exact (rational_Scale_1.calls k A c _ _ w ha.C ha.cap hk).mono fun e w' ⟨he, hd⟩ => ⟨he, hd.out⟩
end Go.Proofs.YtplpmndchdockaaDoor.M
