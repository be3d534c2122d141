import Derived.Test.YtplpmndchdockaaDoorPnF
import Derived.Test.YtplpmndchdockaaDoorPnG
/-! The contracts of the program's naturals and texts, over numbers in memory. -/
namespace Go.Proofs.YtplpmndchdockaaDoor.M
open Go Go.RowKit Go.Proofs.YtplpmndchdockaaDoor.Pr Go.Proofs.YtplpmndchdockaaDoorV.PrintWords
set_option autoImplicit false
set_option linter.unusedVariables false

/-- A bound that all numbers of the program keep. -/
def XL : Nat := 3000
structure Sm (n : Nat) : Prop where
  out : n < 10 ^ XL
theorem Sm.len {n : Nat} (h : Sm n) : (digs 1000000000 n).length + 2 ≤ LM := by
  have : (digs 1000000000 n).length ≤ XL := digs_len_le (by decide) (Nat.lt_of_lt_of_le h.out (Nat.pow_le_pow_left (by decide) _))
  unfold XL at this
  unfold LM
  omega
theorem Sm.len' {n : Nat} (h : Sm n) : (digs 1000000000 n).length ≤ LM := Nat.le_trans (Nat.le_add_right _ 2) h.len
theorem Sm.le {m n : Nat} (h : Sm n) (g : m ≤ n) : Sm m := ⟨Nat.lt_of_le_of_lt g h.out⟩

section
variable (w : World) {A B : Option Addr} {L M c d m n lo lo' : Nat}
theorem natOf_c (h : n < 18446744073709551616) : Calls Tryd.prog 62 #[.int .u64 (n : Int)] w (RetN 1000000000 w.heap.size n w) := by
  obtain ⟨k, hk⟩ := (natOfP n h).rounds
  exact (rational_natOf.calls k _ _ w hk).mono fun e w' ⟨v, he, hR, hb⟩ => RetN.of he (Nf.ofR hR (Nat.le_refl _)) hb
theorem cmp_c (ha : Nf 1000000000 lo w (.slice A L c) m) (hb : Nf 1000000000 lo' w (.slice B M d) n) (hm : Sm m) (hn : Sm n) : Calls Tryd.prog 64 #[.slice A L c, .slice B M d] w fun e w' => e = .returned (.int .i64 (cmpN m n)) ∧ ∃ q, w' = w.drewN q := by
  obtain ⟨k, hk⟩ := (cmpP hm.len' hn.len').rounds
  rw [ha.len, hb.len]
  exact (rational_cmpNat.calls k A c _ B d _ _ w ha.C ha.cap hb.C hb.cap hk).mono fun e w' ⟨he, hd⟩ => ⟨he, hd.out⟩
theorem add_c (ha : Nf 1000000000 lo w (.slice A L c) m) (hb : Nf 1000000000 lo' w (.slice B M d) n) (hm : Sm m) (hn : Sm n) : Calls Tryd.prog 63 #[.slice A L c, .slice B M d] w (RetN 1000000000 w.heap.size (m + n) w) := by
  obtain ⟨k, hk⟩ := (addP hm.len' hn.len').rounds
  rw [ha.len, hb.len]
  exact (rational_addNat.calls k A c _ B d _ _ w ha.C ha.cap hb.C hb.cap hk).mono fun e w' ⟨v, he, hR, hb⟩ => RetN.of he (Nf.ofV hR (fun _ hk => hk)) hb
theorem sub_c (ha : Nf 1000000000 lo w (.slice A L c) m) (hb : Nf 1000000000 lo' w (.slice B M d) n) (hm : Sm m) (h : n ≤ m) : Calls Tryd.prog 128 #[.slice A L c, .slice B M d] w (RetN 1000000000 w.heap.size (m - n) w) := by
  obtain ⟨k, hk⟩ := (subP hm.len' h).rounds
  rw [ha.len, hb.len]
  exact (rational_subNat.calls k A c _ B d _ _ w ha.C ha.cap hb.C hb.cap hk).mono fun e w' ⟨v, he, hR, hb⟩ => RetN.of he (Nf.ofV hR (fun _ hk => hk)) hb
theorem mul_c (ha : Nf 1000000000 lo w (.slice A L c) m) (hb : Nf 1000000000 lo' w (.slice B M d) n) (hm : Sm m) (hn : Sm n) : Calls Tryd.prog 61 #[.slice A L c, .slice B M d] w (RetN 1000000000 w.heap.size (m * n) w) := by
  obtain ⟨k, hk⟩ := (mulP hm.len' hn.len').rounds
  rw [ha.len, hb.len]
  exact (rational_mulNat.calls k A c _ B d _ _ w ha.C ha.cap hb.C hb.cap hk).mono fun e w' ⟨v, he, hR, hb⟩ => RetN.of he (Nf.ofV hR (fun _ hk => hk)) hb
theorem div_c (ha : Nf 1000000000 lo w (.slice A L c) m) (hb : Nf 1000000000 lo' w (.slice B M d) n) (hm : Sm m) (hn : Sm n) (h : n ≠ 0) : Calls Tryd.prog 60 #[.slice A L c, .slice B M d] w (RetN2 1000000000 0 (m / n) (m % n) w) := by
  obtain ⟨k, hk⟩ := (divP hm.len hn.len h).rounds
  rw [ha.len, hb.len]
  exact (rational_divNat.calls k (fun k => 0 ≤ k) A c _ B d _ _ _ w ha.toNv.V hb.C hb.cap hk).mono fun e w' ⟨v, u, he, h1, h2, hb⟩ => RetN2.of he (Nf.ofV h1 (fun k _ => Nat.zero_le k)) (Nf.ofV h2 (fun k _ => Nat.zero_le k)) hb
theorem gcd_c (ha : Nf 1000000000 lo w (.slice A L c) m) (hb : Nf 1000000000 lo' w (.slice B M d) n) (hm : Sm m) (hn : Sm n) : Calls Tryd.prog 110 #[.slice A L c, .slice B M d] w (RetN 1000000000 0 (Nat.gcd m n) w) := by
  obtain ⟨k, hk⟩ := (gcdP hm.len hn.len).rounds
  rw [ha.len, hb.len]
  exact (rational_gcd.calls k (fun k => 0 ≤ k) A c _ (fun k => 0 ≤ k) B d _ _ w ha.toNv.V hb.toNv.V hk).mono fun e w' ⟨v, he, hR, hb⟩ => RetN.of he (Nf.ofV hR (fun k _ => Nat.zero_le k)) hb
theorem str_c (ha : Nf 1000000000 lo w (.slice A L c) m) (hm : Sm m) : Calls Tryd.prog 126 #[.slice A L c] w fun e w' => e = .returned (.string (bs (tx m))) ∧ Below w.heap.size w w' := by
  obtain ⟨k, hk⟩ := (strP hm.len').rounds
  rw [ha.len]
  exact rational_natural_String.calls k A c _ _ w ha.C ha.cap hk
theorem digits_c (s : ByteArray) : Calls Tryd.prog 108 #[.string s] w fun e w' => e = .returned (.bool (dgB (cs s))) ∧ ∃ q, w' = w.drewN q := by
  obtain ⟨k, hk⟩ := (digitsP s).rounds
  exact (rational_digits.calls k s _ w hk).mono fun e w' ⟨he, hd⟩ => ⟨he, hd.out⟩
theorem cut_c (s : ByteArray) (hs : s.size ≤ 9000000000000000000) : Calls Tryd.prog 107 #[.string s, .string ⟨#[45]⟩] w fun e w' => e = .returned (.tuple #[.string (aft s), .bool (mB s)]) ∧ ∃ q, w' = w.drewN q :=
  (strings_CutPrefix.calls s ⟨#[45]⟩ _ _ w (cutP s hs)).mono fun e w' ⟨he, hd⟩ => ⟨he, hd.out⟩
theorem parse_c (s : ByteArray) (h : dgB (cs s) = true) : Calls Tryd.prog 109 #[.string s] w (RetN 1000000000 w.heap.size (numOf (cs s)).toNat w) := by
  obtain ⟨k, hk⟩ := (parseP h).rounds
  exact (rational_parse.calls k s _ w hk).mono fun e w' ⟨v, he, hR, hb⟩ => RetN.of he (Nf.ofV hR (fun _ hk => hk)) hb
theorem abs_c (a : Int) (h0 : -9223372036854775808 ≤ a) (h1 : a ≤ 9223372036854775807) : Calls Tryd.prog 71 #[.int .i64 a] w fun e w' => e = .returned (.int .u64 (a.natAbs : Int)) ∧ ∃ q, w' = w.drewN q := by
  have hk : rational_abs.f a = some (a.natAbs : Int) := by
    unfold rational_abs.f
    by_cases h : a < 0
    · rw [if_pos h, u64_mod, u64_mod]; congr 1; omega
    · rw [if_neg h, u64_mod]; congr 1; omega
  exact (rational_abs.calls a _ w hk).mono fun e w' ⟨he, hd⟩ => ⟨he, hd.out⟩
end
end Go.Proofs.YtplpmndchdockaaDoor.M
