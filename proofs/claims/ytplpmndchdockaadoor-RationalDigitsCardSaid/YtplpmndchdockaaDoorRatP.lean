import Derived.Test.YtplpmndchdockaaDoorConP
/-! The program's fractions: the walks of write, Of, read, Valid. -/
namespace Go.Proofs.YtplpmndchdockaaDoor.M
open Go Go.RowKit Go.Proofs.YtplpmndchdockaaDoorV.PrintWords
set_option autoImplicit false
set_option linter.unusedVariables false
set_option linter.unusedSimpArgs false

/-! ### What is handed back, out of the parts -/
theorem txl_le (n : Nat) : (bs (tx n)).size ≤ 400 ↔ n < 10 ^ MD := by rw [bs_size]; exact tx_len (m := MD) (by decide)
theorem wr_no {b : Bool} {n m : Nat} (hm : m ≠ 0) (h : 400 < (bs (tx (n / m.gcd n))).size ∨ 400 < (bs (tx (m / m.gcd n))).size) : wV (some (fr b n m)) = .tuple #[.agg #[.string ⟨#[]⟩, .string ⟨#[]⟩], .bool false] := by
  have h1 := txl_le (n / m.gcd n)
  have h2 := txl_le (m / m.gcd n)
  have hk : okQ (fr b n m) = false := by
    unfold okQ
    rw [fr_num hm, fr_den hm, Bool.and_eq_false_iff]
    rcases h with h | h
    · exact .inl (decide_eq_false (by omega))
    · exact .inr (decide_eq_false (by omega))
  simp [wV, wN, wD, wO, hk]
theorem wr_yes {b : Bool} {n m : Nat} (hm : m ≠ 0) (h1 : (bs (tx (n / m.gcd n))).size ≤ 400) (h2 : (bs (tx (m / m.gcd n))).size ≤ 400) :
    wV (some (fr b n m)) = .tuple #[.agg #[.string (if b = true ∧ n / m.gcd n ≠ 0 then ⟨#[45]⟩ ++ bs (tx (n / m.gcd n)) else bs (tx (n / m.gcd n))), .string (bs (tx (m / m.gcd n)))], .bool true] := by
  have hk : okQ (fr b n m) = true := by
    unfold okQ
    rw [fr_num hm, fr_den hm, decide_eq_true ((txl_le _).mp h1), decide_eq_true ((txl_le _).mp h2)]; rfl
  have hN : bN (fr b n m) = if b = true ∧ n / m.gcd n ≠ 0 then ⟨#[45]⟩ ++ bs (tx (n / m.gcd n)) else bs (tx (n / m.gcd n)) := by
    unfold bN numTx
    rw [fr_num hm]
    by_cases h : b = true ∧ n / m.gcd n ≠ 0
    · rw [if_pos ((fr_neg hm).mpr h), if_pos h]; exact (bs_append [45] _).symm
    · rw [if_neg (fun hc => h ((fr_neg hm).mp hc)), if_neg h]
  have hD : bD (fr b n m) = bs (tx (m / m.gcd n)) := by unfold bD denTx; rw [fr_den hm]
  simp [wV, wN, wD, wO, hk, hN, hD]
set_option maxHeartbeats 1000000 in
theorem write_c (w : World) (b : Bool) {A B : Option Addr} {L M c d : Nat} {n m lo lo' : Nat} (ha : Nf 1000000000 lo w (.slice A L c) n) (hb : Nf 1000000000 lo' w (.slice B M d) m) (hm : m ≠ 0) (sn : Sm n) (sm : Sm m) :
    Calls Tryd.prog 70 #[.agg #[.bool b, .slice A L c, .slice B M d]] w fun e w' => e = .returned (wV (some (fr b n m))) ∧ Below w.heap.size w w' := by
  have HB := Aside0.mk (below_alloc (below_alloc (Below.refl w.heap.size w) (Obj.cells #[Value.bool b, Value.slice A L c, Value.slice B M d] 82)) (Obj.cells #[Value.string { data := #[] }, Value.string { data := #[] }] 23))
  have gp : Nat.gcd m n ≠ 0 := by have := Nat.gcd_pos_of_pos_left n (Nat.pos_of_ne_zero hm); omega
  have sg : Sm (Nat.gcd m n) := sm.le (Nat.gcd_le_left _ (Nat.pos_of_ne_zero hm))
  have sq := sn.le (Nat.div_le_self n (m.gcd n))
  have sp := sm.le (Nat.div_le_self m (m.gcd n))
  go_enter Tryd.func70, Tryd.ntmps70
  go_wp2_with fail
  refine after (gcd_c _ (hb.below HB.out) (ha.below HB.out) sm sn) ?_; intro C K f w1 hg b1 z1 hc1 hf1; have y1 : w.heap.size < w1.heap.size ∧ w.heap.size + 1 < w1.heap.size := (by simp at z1; omega); obtain ⟨y1, x1⟩ := y1; have H1 := Aside0.mk (below_trans HB.out b1); clear b1 z1
  go_wp2_with fail
  refine after2 (div_c _ (ha.below H1.out) hg sn sg gp) ?_; intro C2 K2 f2 C2' K2' f2' w2 hq hr2 b2 z2 hc2 hf2; have y2 := Nat.lt_of_lt_of_le y1 z2; have x2 := Nat.lt_of_lt_of_le x1 z2; have H2 := Aside0.mk (below_trans H1.out b2); replace hg := hg.below b2; clear b2 z2
  go_wp2_with fail
  refine after2 (div_c _ (hb.below H2.out) hg sm sg gp) ?_; intro C3 K3 f3 C3' K3' f3' w3 hp hr3 b3 z3 hc3 hf3; have y3 := Nat.lt_of_lt_of_le y2 z3; have x3 := Nat.lt_of_lt_of_le x2 z3; have H3 := Aside0.mk (below_trans H2.out b3); replace hq := hq.below b3; clear b3 z3
  go_wp2_with fail
  refine afterV (str_c _ hq sq) ?_; intro w4 b4 z4 hc4 hf4; have y4 := Nat.lt_of_lt_of_le y3 z4; have x4 := Nat.lt_of_lt_of_le x3 z4; have H4 := Aside0.mk (below_trans H3.out b4); replace hp := hp.below b4; clear b4 z4
  go_wp2_with fail
  refine afterV (str_c _ hp sp) ?_; intro w5 b5 z5 hc5 hf5; have y5 := Nat.lt_of_lt_of_le y4 z5; have x5 := Nat.lt_of_lt_of_le x4 z5; have H5 := Aside0.mk (below_trans H4.out b5); clear b5 z5
  have hz := Aside0.mk (hq.zero_iff (by decide))
  go_wp2
  · have h : 400 < ((bs (tx (n / m.gcd n))).size : Int) ∨ 400 < ((bs (tx (m / m.gcd n))).size : Int) := by assumption
    refine bodyPost_ret (v := wV (some (fr b n m))) (by rw [wr_no hm (by omega)]; simp [results, Tryd.results70, go_sem, hc5, hc4, hc3, hc2, hc1, y1, y2, y3, y4, y5, x1, x2, x3, x4, x5]) rfl ⟨rfl, ?_⟩
    repeat first | exact H5.out | refine below_set ?_ (by omega) | refine below_alloc ?_ _
  · have h : ((bs (tx (n / m.gcd n))).size : Int) ≤ 400 ∧ ((bs (tx (m / m.gcd n))).size : Int) ≤ 400 := by assumption
    have h0 : 0 < K2 := by assumption
    have hb1 : b = true := by assumption
    refine bodyPost_ret (v := wV (some (fr b n m))) (by rw [wr_yes hm (by omega) (by omega), if_pos ⟨hb1, hz.out.mp h0⟩]; simp [results, Tryd.results70, go_sem, hc5, hc4, hc3, hc2, hc1, y1, y2, y3, y4, y5, x1, x2, x3, x4, x5]) rfl ⟨rfl, ?_⟩
    repeat first | exact H5.out | refine below_set ?_ (by omega) | refine below_alloc ?_ _
  · have h : ((bs (tx (n / m.gcd n))).size : Int) ≤ 400 ∧ ((bs (tx (m / m.gcd n))).size : Int) ≤ 400 := by assumption
    have h0 : ¬ 0 < K2 := by assumption
    refine bodyPost_ret (v := wV (some (fr b n m))) (by rw [wr_yes hm (by omega) (by omega), if_neg (fun hc => h0 (hz.out.mpr hc.2))]; simp [results, Tryd.results70, go_sem, hc5, hc4, hc3, hc2, hc1, y1, y2, y3, y4, y5, x1, x2, x3, x4, x5]) rfl ⟨rfl, ?_⟩
    repeat first | exact H5.out | refine below_set ?_ (by omega) | refine below_alloc ?_ _
  · have h : ((bs (tx (n / m.gcd n))).size : Int) ≤ 400 ∧ ((bs (tx (m / m.gcd n))).size : Int) ≤ 400 := by assumption
    have hb1 : ¬ b = true := by assumption
    refine bodyPost_ret (v := wV (some (fr b n m))) (by rw [wr_yes hm (by omega) (by omega), if_neg (fun hc => hb1 hc.1)]; simp [results, Tryd.results70, go_sem, hc5, hc4, hc3, hc2, hc1, y1, y2, y3, y4, y5, x1, x2, x3, x4, x5]) rfl ⟨rfl, ?_⟩
    repeat first | exact H5.out | refine below_set ?_ (by omega) | refine below_alloc ?_ _
  · have h : 400 < ((bs (tx (n / m.gcd n))).size : Int) := by assumption
    refine bodyPost_ret (v := wV (some (fr b n m))) (by rw [wr_no hm (by omega)]; simp [results, Tryd.results70, go_sem, hc5, hc4, hc3, hc2, hc1, y1, y2, y3, y4, y5, x1, x2, x3, x4, x5]) rfl ⟨rfl, ?_⟩
    repeat first | exact H5.out | refine below_set ?_ (by omega) | refine below_alloc ?_ _

theorem fr_int (a b : Int) (hb : b ≠ 0) : fr (decide (a < 0) != decide (b < 0)) a.natAbs b.natAbs = (a : Rat) / (b : Rat) := by
  have h0 : (b : Rat) ≠ 0 := by simpa using hb
  have h1 : fr (decide (a < 0) != decide (b < 0)) a.natAbs b.natAbs = mkRat (if b < 0 then -a else a) b.natAbs := by
    unfold fr sg
    congr 1
    by_cases h : a < 0 <;> by_cases g : b < 0 <;> simp [h, g] <;> omega
  rw [h1, Rat.mkRat_eq_div]
  by_cases g : b < 0
  · rw [if_pos g]
    have : ((b.natAbs : Nat) : Rat) = -(b : Rat) := by
      have e : (b.natAbs : Int) = -b := by omega
      rw [← Rat.intCast_natCast, e, Rat.intCast_neg]
    rw [this, Rat.intCast_neg]
    grind
  · rw [if_neg g]
    have e : (b.natAbs : Int) = b := by omega
    rw [← Rat.intCast_natCast, e]
/-- What Of answers. -/
def ofQ (a b : Int) : Option Rat := if b = 0 then none else some ((a : Rat) / (b : Rat))
theorem ten_lt : 18446744073709551616 ≤ 10 ^ XL := by
  refine Nat.le_trans (by decide : 18446744073709551616 ≤ 10 ^ 20) (Nat.pow_le_pow_right (by decide) (by unfold XL; decide))
theorem Sm.abs {a : Int} (h0 : -9223372036854775808 ≤ a) (h1 : a ≤ 9223372036854775807) : Sm a.natAbs := ⟨Nat.lt_of_lt_of_le (show a.natAbs < 18446744073709551616 by omega) ten_lt⟩
set_option maxHeartbeats 1000000 in
theorem of_c (w : World) (a b : Int) (a0 : -9223372036854775808 ≤ a) (a1 : a ≤ 9223372036854775807) (b0 : -9223372036854775808 ≤ b) (b1' : b ≤ 9223372036854775807) :
    Calls Tryd.prog 21 #[.int .i64 a, .int .i64 b] w fun e w' => e = .returned (wV (ofQ a b)) ∧ Below w.heap.size w w' := by
  have HB := Aside0.mk (below_alloc (Below.refl w.heap.size w) (Obj.cells #[Value.string { data := #[] }, Value.string { data := #[] }] 23))
  have sa := Sm.abs a0 a1
  have sb := Sm.abs b0 b1'
  by_cases hb : b = 0
  · subst hb
    go_enter Tryd.func21, Tryd.ntmps21
    go_wp2
    refine bodyPost_ret (v := wV (ofQ a 0)) (by simp [results, Tryd.results21, go_sem, wV, wN, wD, wO, ofQ]) rfl ⟨rfl, ?_⟩
    repeat first | exact HB.out | refine below_set ?_ (by omega) | refine below_alloc ?_ _
  · have eq := fr_int a b hb
    have hm : b.natAbs ≠ 0 := by omega
    have eqb : (!decide (a < 0) == decide (b < 0)) = (decide (a < 0) != decide (b < 0)) := by cases decide (a < 0) <;> cases decide (b < 0) <;> rfl
    replace eqb := Aside0.mk eqb
    go_enter Tryd.func21, Tryd.ntmps21
    go_wp2_with fail
    refine afterQ (abs_c _ a a0 a1) ?_; intro w1 b1 z1 hc1 hf1; have y1 : w.heap.size < w1.heap.size := (by simp at z1; omega); have H1 := Aside0.mk (below_trans HB.out b1); clear b1 z1
    go_wp2_with fail
    refine after (natOf_c _ (by omega)) ?_; intro A L c w2 ha b2 z2 hc2 hf2; have y2 := Nat.lt_of_lt_of_le y1 z2; have H2 := Aside0.mk (below_trans H1.out b2); clear b2 z2
    go_wp2_with fail
    refine afterQ (abs_c _ b b0 b1') ?_; intro w3 b3 z3 hc3 hf3; have y3 := Nat.lt_of_lt_of_le y2 z3; have H3 := Aside0.mk (below_trans H2.out b3); replace ha := ha.below b3; clear b3 z3
    go_wp2_with fail
    refine after (natOf_c _ (by omega)) ?_; intro A2 L2 c2 w4 hd b4 z4 hc4 hf4; have y4 := Nat.lt_of_lt_of_le y3 z4; have H4 := Aside0.mk (below_trans H3.out b4); replace ha := ha.below b4; clear b4 z4
    go_wp2_with fail
    rw [eqb.out]
    refine afterW (write_c _ _ ha hd hm sa sb) ?_; intro w5 b5 z5 hc5 hf5; have y5 := Nat.lt_of_lt_of_le y4 z5; have H5 := Aside0.mk (below_trans H4.out b5); clear b5 z5
    go_wp2
    refine bodyPost_ret (v := wV (ofQ a b)) (by simp [results, Tryd.results21, go_sem, wV, ofQ, hb, eq, hc5, hc4, hc3, hc2, hc1, y1, y2, y3, y4, y5]) rfl ⟨rfl, ?_⟩
    repeat first | exact H5.out | refine below_set ?_ (by omega) | refine below_alloc ?_ _
end Go.Proofs.YtplpmndchdockaaDoor.M
