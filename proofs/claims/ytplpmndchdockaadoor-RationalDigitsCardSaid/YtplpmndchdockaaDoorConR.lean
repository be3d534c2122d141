import Derived.Test.YtplpmndchdockaaDoorRnD
import Derived.Test.YtplpmndchdockaaDoorNv
/-! The contracts of the reference's naturals and texts, over numbers in memory. -/
namespace Go.Proofs.YtplpmndchdockaaDoor.M
open Go Go.RowKit Go.Proofs.YtplpmndchdockaaDoor.Pr Go.Proofs.YtplpmndchdockaaDoorV.PrintWords
set_option autoImplicit false
set_option linter.unusedVariables false

/-- A bound that all numbers of the reference keep. -/
def RX : Nat := 1000000000
structure Rm (n : Nat) : Prop where
  out : n < 2 ^ RX
theorem Rm.len {n : Nat} (h : Rm n) : (digs 4294967296 n).length ≤ RX := digs_len_le (by decide) (Nat.lt_of_lt_of_le h.out (Nat.pow_le_pow_left (by decide) _))
theorem Rm.len4 {n : Nat} (h : Rm n) : 4 * (digs 4294967296 n).length + 4 ≤ LM := by
  have := h.len
  unfold RX at this
  unfold LM
  omega
theorem Rm.len1 {n : Nat} (h : Rm n) : (digs 4294967296 n).length ≤ LM := by have := h.len4; omega
theorem Rm.le {m n : Nat} (h : Rm n) (g : m ≤ n) : Rm m := ⟨Nat.lt_of_le_of_lt g h.out⟩
theorem Rm.ten {n : Nat} (h : Rm n) : n < 10 ^ RX := Nat.lt_of_lt_of_le h.out (Nat.pow_le_pow_left (by decide) _)

section
variable (w : World) {A B : Option Addr} {L M c d m n lo lo' : Nat}
theorem rnatural_c (h : n < 18446744073709551616) : Calls Tryd.prog 122 #[.int .u64 (n : Int)] w (RetN 4294967296 w.heap.size n w) := by
  obtain ⟨k, hk⟩ := (rnaturalP n h).rounds
  exact (flagstoneref36_natural.calls k _ _ w hk).mono fun e w' ⟨v, he, hR, hb⟩ => RetN.of he (Nf.ofR hR (Nat.le_refl _)) hb
theorem rsize_c (a : Int) (h0 : -9223372036854775808 ≤ a) (h1 : a ≤ 9223372036854775807) : Calls Tryd.prog 125 #[.int .i64 a] w (RetN 4294967296 w.heap.size a.natAbs w) := by
  obtain ⟨k, hk⟩ := (sizeP a h0 h1).rounds
  exact (flagstoneref36_size.calls k _ _ w hk).mono fun e w' ⟨v, he, hR, hb⟩ => RetN.of he (Nf.ofR hR (Nat.le_refl _)) hb
theorem rcmp_c (ha : Nf 4294967296 lo w (.slice A L c) m) (hb : Nf 4294967296 lo' w (.slice B M d) n) (hm : Rm m) (hn : Rm n) : Calls Tryd.prog 119 #[.slice A L c, .slice B M d] w fun e w' => e = .returned (.int .i64 (rcmpI m n)) ∧ ∃ q, w' = w.drewN q := by
  obtain ⟨k, hk⟩ := (rcmpP hm.len1 hn.len1).rounds
  rw [ha.len, hb.len]
  exact (flagstoneref36_compare.calls k A c _ B d _ _ w ha.C ha.cap hb.C hb.cap hk).mono fun e w' ⟨he, hd⟩ => ⟨he, hd.out⟩
theorem rplus_c (ha : Nf 4294967296 lo w (.slice A L c) m) (hb : Nf 4294967296 lo' w (.slice B M d) n) (hm : Rm m) (hn : Rm n) : Calls Tryd.prog 121 #[.slice A L c, .slice B M d] w (RetN 4294967296 w.heap.size (m + n) w) := by
  obtain ⟨k, hk⟩ := (plusP hm.len1 hn.len1).rounds
  rw [ha.len, hb.len]
  exact (flagstoneref36_plus.calls k A c _ B d _ _ w ha.C ha.cap hb.C hb.cap hk).mono fun e w' ⟨v, he, hR, hb⟩ => RetN.of he (Nf.ofR hR (Nat.le_refl _)) hb
theorem rminus_c (ha : Nf 4294967296 lo w (.slice A L c) m) (hb : Nf 4294967296 lo' w (.slice B M d) n) (hm : Rm m) (h : n ≤ m) : Calls Tryd.prog 129 #[.slice A L c, .slice B M d] w (RetN 4294967296 w.heap.size (m - n) w) := by
  obtain ⟨k, hk⟩ := (minusP hm.len1 h).rounds
  rw [ha.len, hb.len]
  exact (flagstoneref36_minus.calls k A c _ B d _ _ w ha.C ha.cap hb.C hb.cap hk).mono fun e w' ⟨v, he, hR, hb⟩ => RetN.of he (Nf.ofR hR (Nat.le_refl _)) hb
theorem rtimes_c (ha : Nf 4294967296 lo w (.slice A L c) m) (hb : Nf 4294967296 lo' w (.slice B M d) n) (hm : Rm m) (hn : Rm n) : Calls Tryd.prog 124 #[.slice A L c, .slice B M d] w (RetN 4294967296 w.heap.size (m * n) w) := by
  obtain ⟨k, hk⟩ := (timesP hm.len1 hn.len1).rounds
  rw [ha.len, hb.len]
  exact (flagstoneref36_times.calls k A c _ B d _ _ w ha.C ha.cap hb.C hb.cap hk).mono fun e w' ⟨v, he, hR, hb⟩ => RetN.of he (Nf.ofR hR (Nat.le_refl _)) hb
theorem rdiv_c (ha : Nf 4294967296 lo w (.slice A L c) m) (hb : Nf 4294967296 lo' w (.slice B M d) n) (hm : Rm m) (hn : Rm n) (h : n ≠ 0) : Calls Tryd.prog 120 #[.slice A L c, .slice B M d] w (RetN2 4294967296 w.heap.size (m / n) (m % n) w) := by
  obtain ⟨k, hk⟩ := (rdivP hm.len4 hn.len4 h).rounds
  rw [ha.len, hb.len]
  exact (flagstoneref36_divide.calls k (fun k => 0 ≤ k) A c _ B d _ _ _ w ha.toNv.V hb.C hb.cap hk).mono fun e w' ⟨v, u, he, h1, h2, hb⟩ => RetN2.of he (Nf.ofR h1 (Nat.le_refl _)) (Nf.ofV h2 (fun k _ => Nat.zero_le k)) hb
theorem rgcd_c (ha : Nf 4294967296 lo w (.slice A L c) m) (hb : Nf 4294967296 lo' w (.slice B M d) n) (hm : Rm m) (hn : Rm n) (h : n ≠ 0) : Calls Tryd.prog 138 #[.slice A L c, .slice B M d] w (RetN 4294967296 0 (Nat.gcd m n) w) := by
  obtain ⟨k, hk⟩ := (divisorP h hm.len4 hn.len4).rounds
  rw [ha.len, hb.len]
  exact (flagstoneref36_divisor.calls k (fun k => 0 ≤ k) A c _ (fun k => 0 ≤ k) B d _ _ w ha.toNv.V hb.toNv.V hk).mono fun e w' ⟨v, he, hR, hb⟩ => RetN.of he (Nf.ofV hR (fun k _ => Nat.zero_le k)) hb
theorem rshow_c (ha : Nf 4294967296 lo w (.slice A L c) m) (hm : Rm m) : Calls Tryd.prog 127 #[.slice A L c] w fun e w' => e = .returned (.string (bs (tx m))) ∧ Below w.heap.size w w' := by
  obtain ⟨k, hk⟩ := (showP hm.ten (by unfold RX LM; decide)).rounds
  rw [ha.len]
  exact flagstoneref36_show.calls k (fun k => 0 ≤ k) A c _ _ w ha.toNv.V hk
theorem rdigits_c (s : ByteArray) : Calls Tryd.prog 116 #[.string s] w fun e w' => e = .returned (.bool (dgB (cs s))) ∧ ∃ q, w' = w.drewN q := by
  obtain ⟨k, hk⟩ := (rdigitsP s).rounds
  exact (flagstoneref36_digits.calls k s _ w hk).mono fun e w' ⟨he, hd⟩ => ⟨he, hd.out⟩
theorem rparse_c (s : ByteArray) (h : dgB (cs s) = true) : Calls Tryd.prog 117 #[.string s] w (RetN 4294967296 w.heap.size (numOf (cs s)).toNat w) := by
  obtain ⟨k, hk⟩ := (rparseP h).rounds
  exact (flagstoneref36_parse.calls k s _ w hk).mono fun e w' ⟨v, he, hR, hb⟩ => RetN.of he (Nf.ofR hR (Nat.le_refl _)) hb
theorem rdigit_c (ha : Nf 4294967296 lo w (.slice A L c) m) (i : Nat) : Calls Tryd.prog 143 #[.slice A L c, .int .i64 (i : Int)] w fun e w' => e = .returned (.int .u64 ((digs 4294967296 m).getD i 0)) ∧ ∃ q, w' = w.drewN q := by
  rw [ha.len]
  exact (flagstoneref36_digit.calls A c _ (i : Int) _ w ha.C ha.cap (digitP (rDg m) i)).mono fun e w' ⟨he, hd⟩ => ⟨he, hd.out⟩
end
end Go.Proofs.YtplpmndchdockaaDoor.M
