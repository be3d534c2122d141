import Derived.Test.YtplpmndchdockaaDoorLc
import Derived.Test.YtplpmndchdockaaDoorBits
import Derived.Test.YtplpmndchdockaaDoorEvs
import Derived.Test.YtplpmndchdockaaDoorLst
/-! The reference's naturals (base 2^32): trim, natural, compare, digit, plus, minus, times. -/
namespace Go.Proofs.YtplpmndchdockaaDoor.M
open Go Go.RowKit Go.Proofs.YtplpmndchdockaaDoor.Pr Go.Proofs.YtplpmndchdockaaDoorV.PrintWords
set_option autoImplicit false
set_option linter.unusedVariables false

theorem rrd_nat (l : List Int) (i : Nat) : rd l (i : Int) = l.getD i 0 := by simp [rd]
theorem Dg.push' {B x : Int} {l : List Int} (h : Dg B l) (hx : 0 ≤ x ∧ x < B) : Dg B (l ++ [x]) := h.append (Dg.cons hx Dg.nil)
theorem rtrim_l0 (l : List Int) (hl : l.length ≤ 9000000000000000000) (n : Nat) : n ≤ l.length → trimL (l.take n) = trimL l → Ev (fun k => flagstoneref36_trim.l0 k l (n : Int)) (trimL l) := by
  induction n with
  | zero =>
    intro _ he
    rw [List.take_zero] at he
    refine Ev.ans fun k => ?_
    simp only [flagstoneref36_trim.l0]
    rw [if_neg (by omega), if_pos (by omega), if_pos (by omega), ← he]; rfl
  | succ n ih =>
    intro hn he
    have e : wrap64 (((n + 1 : Nat) : Int) - 1) = (n : Int) := by rw [w64_eq (by omega) (by omega)]; omega
    refine Ev.step (f := fun k => if l.getD n 0 = 0 then flagstoneref36_trim.l0 k l (n : Int) else some (l.take (n + 1))) (fun k => ?_) ?_
    · simp only [flagstoneref36_trim.l0]
      rw [if_pos (show ((n + 1 : Nat) : Int) > 0 by omega), e, if_pos (show (0 : Int) ≤ (n : Int) by omega), if_pos (show (n : Int) < (l.length : Int) by omega), rrd_nat, if_pos (show (0 : Int) ≤ ((n + 1 : Nat) : Int) by omega), if_pos (show ((n + 1 : Nat) : Int) ≤ (l.length : Int) by omega), Int.toNat_natCast]
    · by_cases hx : l.getD n 0 = 0
      · simp only [if_pos hx]
        refine ih (by omega) ?_
        rw [← he, take_snoc _ _ (by omega), hx, trimL_snoc_zero]
      · simp only [if_neg hx]
        rw [← he, take_snoc _ _ (by omega), trimL_of_Nm (Nm_snoc.mpr hx)]; exact Ev.now _
theorem rtrimP (l : List Int) (hl : l.length ≤ 9000000000000000000) : Ev (fun k => flagstoneref36_trim.f k l) (trimL l) := rtrim_l0 l hl l.length (Nat.le_refl _) (by rw [List.take_of_length_le (Nat.le_refl _)])
theorem rtrim_then {l : List Int} {n : Nat} (hl : l.length ≤ 9000000000000000000) (h : Dg 4294967296 l) (hv : vI 4294967296 l = n) : Ev (fun k => (flagstoneref36_trim.f k l).bind fun t => some t) (digs 4294967296 n) := by
  have := rtrimP l hl
  rw [rTrim h hv] at this
  exact Ev.bind (f := fun _ t => some t) this (Ev.now _)
theorem rnaturalP (n : Nat) (h : n < 18446744073709551616) : Ev (fun k => flagstoneref36_natural.f k (n : Int)) (digs 4294967296 n) := by
  refine rtrim_then (l := [(n : Int) % 4294967296, ((n : Int) / 4294967296) % 4294967296]) (by simp) (Dg.cons (by omega) (Dg.cons (by omega) Dg.nil)) ?_
  simp only [vI]; omega

def rcmpI (a b : Int) : Int := if a < b then -1 else if a = b then 0 else 1
theorem rcmp_less {B : Int} (hB : 1 ≤ B) {a b : List Int} (da : Dg B a) (db : Dg B b) {j : Nat} (ha : j < a.length) (hb : j < b.length) (h : a.getD j 0 < b.getD j 0) : vI B (a.take (j + 1)) < vI B (b.take (j + 1)) := by
  rw [vI_take_succ _ _ _ ha, vI_take_succ _ _ _ hb]
  have h1 := vI_lt (by omega) (da.take j)
  rw [List.length_take, Nat.min_eq_left (by omega)] at h1
  have h2 := vI_nonneg (by omega) (db.take j)
  have h3 : B ^ j * (a.getD j 0 + 1) ≤ B ^ j * b.getD j 0 := Int.mul_le_mul_of_nonneg_left (by omega) (Int.le_of_lt (pow_pos' (by omega) _))
  rw [Int.mul_add, Int.mul_one] at h3
  omega
theorem rcmpI_lt {a b : Int} (h : a < b) : rcmpI a b = -1 := by unfold rcmpI; rw [if_pos h]
theorem rcmpI_gt {a b : Int} (h : b < a) : rcmpI a b = 1 := by unfold rcmpI; rw [if_neg (by omega), if_neg (by omega)]
theorem rcmp_same {B : Int} {a b : List Int} {j : Nat} (ha : j < a.length) (hb : j < b.length) (h : a.getD j 0 = b.getD j 0) : rcmpI (vI B (a.take (j + 1))) (vI B (b.take (j + 1))) = rcmpI (vI B (a.take j)) (vI B (b.take j)) := by
  rw [vI_take_succ _ _ _ ha, vI_take_succ _ _ _ hb, h]
  unfold rcmpI
  repeat' split
  all_goals omega
theorem rcmp_l0 {a b : List Int} (da : Dg 4294967296 a) (db : Dg 4294967296 b) (j : Nat) : j ≤ a.length → j ≤ b.length → j ≤ 9000000000000000000 → Ev (fun k => flagstoneref36_compare.l0 k a b ((j : Int) - 1)) (rcmpI (vI 4294967296 (a.take j)) (vI 4294967296 (b.take j))) := by
  induction j with
  | zero => intro _ _ _; exact Ev.ans fun k => by simp [flagstoneref36_compare.l0, rcmpI]
  | succ j ih =>
    intro ha hb hj
    have e : ((j + 1 : Nat) : Int) - 1 = (j : Int) := by omega
    rw [e]
    refine Ev.step (f := fun k => if a.getD j 0 < b.getD j 0 then some (-1) else if a.getD j 0 > b.getD j 0 then some 1 else flagstoneref36_compare.l0 k a b ((j : Int) - 1)) (fun k => ?_) ?_
    · simp only [flagstoneref36_compare.l0]
      rw [if_pos (by omega), if_pos (by omega), if_pos (by omega), if_pos (by omega), rrd_nat, rrd_nat, w64_eq (by omega) (by omega)]
    · by_cases h : a.getD j 0 < b.getD j 0
      · simp only [if_pos h]; rw [rcmpI_lt (rcmp_less (by omega) da db (by omega) (by omega) h)]; exact Ev.now _
      · by_cases h2 : a.getD j 0 > b.getD j 0
        · simp only [if_neg h, if_pos h2]; rw [rcmpI_gt (rcmp_less (by omega) db da (by omega) (by omega) h2)]; exact Ev.now _
        · simp only [if_neg h, if_neg h2]
          rw [rcmp_same (by omega) (by omega) (by omega)]; exact ih (by omega) (by omega) (by omega)
theorem rcmpP {a b : Nat} (ha : (digs 4294967296 a).length ≤ LM) (hb : (digs 4294967296 b).length ≤ LM) : Ev (fun k => flagstoneref36_compare.f k (digs 4294967296 a) (digs 4294967296 b)) (rcmpI a b) := by
  unfold LM at ha hb
  have va := rVal a
  have vb := rVal b
  by_cases h : (digs 4294967296 a).length < (digs 4294967296 b).length
  · have := vI_lt_of_len (by omega) (rDg a) (rDg b) (rNm b) h
    rw [va, vb] at this
    rw [rcmpI_lt this]
    exact Ev.same fun k => by unfold flagstoneref36_compare.f; rw [if_pos (by omega)]
  · by_cases h2 : (digs 4294967296 b).length < (digs 4294967296 a).length
    · have := vI_lt_of_len (by omega) (rDg b) (rDg a) (rNm a) h2
      rw [va, vb] at this
      rw [rcmpI_gt this]
      exact Ev.same fun k => by unfold flagstoneref36_compare.f; rw [if_neg (by omega), if_pos (by omega)]
    · have := rcmp_l0 (rDg a) (rDg b) (digs 4294967296 a).length (Nat.le_refl _) (by omega) (by omega)
      rw [List.take_of_length_le (Nat.le_refl _), List.take_of_length_le (by omega), va, vb] at this
      refine Ev.congr (fun k => ?_) this
      unfold flagstoneref36_compare.f
      rw [if_neg (by omega), if_neg (by omega), w64_eq (by omega) (by omega)]
theorem digitP {l : List Int} (dl : Dg 4294967296 l) (i : Nat) : flagstoneref36_digit.f l (i : Int) = some (l.getD i 0) := by
  unfold flagstoneref36_digit.f
  have := dl.get (by omega) i
  by_cases h : i < l.length
  · rw [if_neg (by omega), if_pos (by omega), if_pos (by omega), rrd_nat, u64_eq (by omega) (by omega)]
  · rw [if_pos (by omega), List.getD_eq_getElem?_getD, List.getElem?_eq_none (by omega)]; rfl
theorem vI_take_getD {B : Int} {l : List Int} (i : Nat) : vI B (l.take (i + 1)) = vI B (l.take i) + B ^ i * l.getD i 0 := by
  by_cases h : i < l.length
  · exact vI_take_succ _ _ _ h
  · rw [List.take_of_length_le (by omega), List.take_of_length_le (by omega), List.getD_eq_getElem?_getD, List.getElem?_eq_none (by omega)]; simp

theorem plus_l0 {a b : List Int} (da : Dg 4294967296 a) (db : Dg 4294967296 b) (hA : a.length ≤ LM) (hB : b.length ≤ LM) {n : Nat} (hn : vI 4294967296 a + vI 4294967296 b = n) (m : Nat) :
    ∀ (i : Nat) (o : List Int) (c : Int), max a.length b.length + 1 ≤ i + m → i ≤ max a.length b.length + 1 → o.length = i → Dg 4294967296 o → 0 ≤ c → c ≤ 1 → (max a.length b.length + 1 ≤ i → c = 0) → vI 4294967296 o + 4294967296 ^ i * c = vI 4294967296 (a.take i) + vI 4294967296 (b.take i) →
      Ev (fun k => flagstoneref36_plus.l0 k a b o c (i : Int)) (digs 4294967296 n) := by
  unfold LM at hA hB
  induction m with
  | zero =>
    intro i o c hi hi2 ho hd c0 c1 hc hv
    obtain rfl := hc (by omega)
    rw [Int.mul_zero, Int.add_zero, List.take_of_length_le (by omega), List.take_of_length_le (by omega), hn] at hv
    refine Ev.step (f := fun k => flagstoneref36_plus.j1 k a b o 0 (i : Int) false) (fun k => by simp only [flagstoneref36_plus.l0]; rw [if_neg (by omega), if_neg (by omega)]; rfl) (Ev.step (f := fun k => (flagstoneref36_trim.f k o).bind fun t => some t) (fun k => by simp only [flagstoneref36_plus.j1]; rw [if_neg (by simp)]) (rtrim_then (by omega) hd hv))
  | succ m ih =>
    intro i o c hi hi2 ho hd c0 c1 hc hv
    have ha := da.get (by omega) i
    have hb := db.get (by omega) i
    by_cases hgo : i < a.length ∨ i < b.length ∨ c > 0
    · have hi3 : i < max a.length b.length + 1 := by
        rcases hgo with h | h | h
        · omega
        · omega
        · by_cases h2 : max a.length b.length + 1 ≤ i
          · have := hc h2; omega
          · omega
      have hs : 0 ≤ a.getD i 0 + b.getD i 0 + c := by omega
      have j1 : Ev (fun k => flagstoneref36_plus.j1 k a b o c (i : Int) true) (digs 4294967296 n) := by
        refine Ev.step (f := fun k => flagstoneref36_plus.l0 k a b (o ++ [(a.getD i 0 + b.getD i 0 + c) % 4294967296]) ((a.getD i 0 + b.getD i 0 + c) / 4294967296) ((i + 1 : Nat) : Int)) (fun k => ?_) (ih _ _ _ (by omega) (by omega) (by simp [ho]) (hd.push' (by omega)) (by omega) (by omega) (fun h => ?_) ?_)
        · simp only [flagstoneref36_plus.j1]
          rw [if_pos trivial, digitP da, digitP db, Option.bind_some, Option.bind_some, if_pos (by omega), u64_eq (n := a.getD i 0 + b.getD i 0) (by omega) (by omega), u64_eq (n := a.getD i 0 + b.getD i 0 + c) (by omega) (by omega), w64_eq (by omega) (by omega)]; rfl
        · have e1 : a.getD i 0 = 0 := by rw [List.getD_eq_getElem?_getD, List.getElem?_eq_none (by omega)]; rfl
          have e2 : b.getD i 0 = 0 := by rw [List.getD_eq_getElem?_getD, List.getElem?_eq_none (by omega)]; rfl
          rw [e1, e2]; omega
        · rw [push_at ho _ _ (a.getD i 0 + b.getD i 0 + c) (by omega), vI_take_getD, vI_take_getD, show a.getD i 0 + b.getD i 0 + c = c + (a.getD i 0 + b.getD i 0) by omega, Int.mul_add, Int.mul_add]; omega
      refine Ev.step (f := fun k => flagstoneref36_plus.j1 k a b o c (i : Int) true) (fun k => ?_) j1
      simp only [flagstoneref36_plus.l0]
      by_cases h1 : (i : Int) < (a.length : Int)
      · rw [if_pos h1]
      · by_cases h2 : (i : Int) < (b.length : Int)
        · rw [if_neg h1, if_pos h2]
        · rw [if_neg h1, if_neg h2, decide_eq_true (by omega)]
    · obtain rfl : c = 0 := by omega
      rw [Int.mul_zero, Int.add_zero, List.take_of_length_le (by omega), List.take_of_length_le (by omega), hn] at hv
      refine Ev.step (f := fun k => flagstoneref36_plus.j1 k a b o 0 (i : Int) false) (fun k => by simp only [flagstoneref36_plus.l0]; rw [if_neg (by omega), if_neg (by omega)]; rfl) (Ev.step (f := fun k => (flagstoneref36_trim.f k o).bind fun t => some t) (fun k => by simp only [flagstoneref36_plus.j1]; rw [if_neg (by simp)]) (rtrim_then (by omega) hd hv))
theorem plusP {a b : Nat} (ha : (digs 4294967296 a).length ≤ LM) (hb : (digs 4294967296 b).length ≤ LM) : Ev (fun k => flagstoneref36_plus.f k (digs 4294967296 a) (digs 4294967296 b)) (digs 4294967296 (a + b)) :=
  plus_l0 (rDg a) (rDg b) ha hb (n := a + b) (by rw [rVal, rVal]; omega) (max (digs 4294967296 a).length (digs 4294967296 b).length + 1) 0 [] 0 (by omega) (by omega) rfl Dg.nil (by omega) (by omega) (fun h => rfl) (by simp [vI])

theorem minus_l0 {a b : List Int} (da : Dg 4294967296 a) (db : Dg 4294967296 b) (hab : b.length ≤ a.length) (hM : a.length ≤ LM) {n : Nat} (hn : vI 4294967296 a - vI 4294967296 b = n) (m : Nat) :
    ∀ (i : Nat) (o : List Int) (c : Int), i + m = a.length → o.length = i → Dg 4294967296 o → 0 ≤ c → c ≤ 1 → vI 4294967296 o + 4294967296 ^ i * (-c) = vI 4294967296 (a.take i) - vI 4294967296 (b.take i) →
      Ev (fun k => flagstoneref36_minus.l0 k a b (o ++ List.replicate m 0) c (i : Int)) (digs 4294967296 n) := by
  unfold LM at hM
  induction m with
  | zero =>
    intro i o c hi ho hd c0 c1 hv
    rw [List.take_of_length_le (by omega), List.take_of_length_le (by omega), hn, Int.mul_neg] at hv
    have hlt := vI_lt (by omega) hd
    rw [ho] at hlt
    have hc : c = 0 := by
      by_cases h : c = 1
      · subst h; rw [Int.mul_one] at hv; omega
      · omega
    subst hc
    rw [List.replicate_zero, List.append_nil]
    refine Ev.step (f := fun k => (flagstoneref36_trim.f k o).bind fun t => some t) (fun k => ?_) (rtrim_then (by omega) hd (by omega))
    simp only [flagstoneref36_minus.l0]; rw [if_neg (by omega)]
  | succ m ih =>
    intro i o c hi ho hd c0 c1 hv
    have ha := da.get (by omega) i
    have hb := db.get (by omega) i
    have hset : ∀ x : Int, (o ++ List.replicate (m + 1) 0).set i x = (o ++ [x]) ++ List.replicate m 0 := fun x => by rw [← ho]; exact set_at o m x
    have hlen : (i : Int) < ((o ++ List.replicate (m + 1) 0).length : Int) := by simp [ho]; omega
    have e : ∀ s : Int, s = a.getD i 0 - b.getD i 0 - c → IntKind.u64.wrap (IntKind.u64.wrap (a.getD i 0 - b.getD i 0) - c) = if s < 0 then s + 18446744073709551616 else s := by
      intro s hs
      rw [u64_mod, u64_mod]; split <;> omega
    have e' := e _ rfl
    refine Ev.step (f := fun k => flagstoneref36_minus.l0 k a b ((o ++ [(a.getD i 0 - b.getD i 0 - c) % 4294967296]) ++ List.replicate m 0) (if a.getD i 0 - b.getD i 0 - c < 0 then 1 else 0) ((i + 1 : Nat) : Int)) (fun k => ?_) (ih _ _ _ (by omega) (by simp [ho]) (hd.push' (by omega)) (by split <;> omega) (by split <;> omega) ?_)
    · simp only [flagstoneref36_minus.l0]
      rw [if_pos (by omega), digitP da, digitP db, Option.bind_some, Option.bind_some, if_pos (by omega), if_pos hlen, Int.toNat_natCast, hset, e', w64_eq (by omega) (by omega)]
      by_cases h0 : a.getD i 0 - b.getD i 0 - c < 0
      · rw [if_pos h0, if_pos h0, show (a.getD i 0 - b.getD i 0 - c + 18446744073709551616) % 4294967296 = (a.getD i 0 - b.getD i 0 - c) % 4294967296 by omega, show (a.getD i 0 - b.getD i 0 - c + 18446744073709551616) / 9223372036854775808 = 1 by omega]; rfl
      · rw [if_neg h0, if_neg h0, show (a.getD i 0 - b.getD i 0 - c) / 9223372036854775808 = 0 by omega]; rfl
    · rw [push_at ho _ _ (a.getD i 0 - b.getD i 0 - c) (by split <;> omega), vI_take_getD, vI_take_getD, show a.getD i 0 - b.getD i 0 - c = -c + (a.getD i 0 - b.getD i 0) by omega, Int.mul_add, Int.mul_sub]; omega
theorem minusP {a b : Nat} (ha : (digs 4294967296 a).length ≤ LM) (h : b ≤ a) : Ev (fun k => flagstoneref36_minus.f k (digs 4294967296 a) (digs 4294967296 b)) (digs 4294967296 (a - b)) := by
  have hA := ha
  unfold LM at hA
  have := minus_l0 (rDg a) (rDg b) (digs_len_mono (by decide) h) ha (n := a - b) (by rw [rVal, rVal]; omega) _ 0 [] 0 (Nat.zero_add _) rfl Dg.nil (by omega) (by omega) (by simp [vI])
  refine Ev.congr (fun k => ?_) this
  unfold flagstoneref36_minus.f
  rw [if_pos (by omega), if_pos (by omega), Int.toNat_natCast]; rfl

theorem times_l1 {a b : List Int} (da : Dg 4294967296 a) (db : Dg 4294967296 b) (hM : a.length + b.length ≤ 2 * LM) {r : List Int} {i : Nat} (hi : i < a.length) (W : Int)
    (next : ∀ o : List Int, o.length = a.length + b.length → Dg 4294967296 o → Zr o (i + b.length + 1) → vI 4294967296 o = W + 4294967296 ^ i * (a.getD i 0 * vI 4294967296 b) → Ev (fun k => flagstoneref36_times.l0 k a b o ((i + 1 : Nat) : Int)) r) (m : Nat) :
    ∀ (q : Nat) (o : List Int) (c : Int), q + m = b.length → o.length = a.length + b.length → Dg 4294967296 o → Zr o (i + b.length) → 0 ≤ c → c < 4294967296 → vI 4294967296 o + 4294967296 ^ (i + q) * c = W + 4294967296 ^ i * (a.getD i 0 * vI 4294967296 (b.take q)) →
      Ev (fun k => flagstoneref36_times.l1 k a b o (i : Int) c (q : Int)) r := by
  unfold LM at hM
  induction m with
  | zero =>
    intro q o c hq ho hd hz c0 c1 hv
    obtain rfl : q = b.length := by omega
    refine Ev.step (f := fun k => flagstoneref36_times.l0 k a b (o.set (i + b.length) c) ((i + 1 : Nat) : Int)) (fun k => ?_) (next _ (by simpa using ho) (hd.set _ (by omega)) (hz.set' (Nat.le_refl _)) ?_)
    · simp only [flagstoneref36_times.l1]
      rw [if_neg (by omega), w64_eq (n := (i : Int) + (b.length : Int)) (by omega) (by omega), if_pos (by omega), if_pos (by omega), w64_eq (by omega) (by omega), Int.emod_eq_of_lt (by omega) (by omega), show ((i : Int) + (b.length : Int)).toNat = i + b.length by omega]; rfl
    · rw [vI_set _ _ _ _ (by omega), hz _ (Nat.le_refl _), Int.sub_zero]
      rw [List.take_of_length_le (Nat.le_refl _)] at hv
      exact hv
  | succ m ih =>
    intro q o c hq ho hd hz c0 c1 hv
    have hx := da.get (by omega) i
    have hb := db.get (by omega) q
    have hg := hd.get (by omega) (i + q)
    obtain ⟨p0, t0, t1⟩ := dig_mul (B := 4294967296) (by omega) hx.1 hx.2 hb.1 hb.2 c0 c1 hg.1 hg.2
    have e : (o.getD (i + q) 0 + a.getD i 0 * b.getD q 0 + c) % 4294967296 + 4294967296 * ((o.getD (i + q) 0 + a.getD i 0 * b.getD q 0 + c) / 4294967296) = o.getD (i + q) 0 + a.getD i 0 * b.getD q 0 + c := by omega
    refine Ev.step (f := fun k => flagstoneref36_times.l1 k a b (o.set (i + q) ((o.getD (i + q) 0 + a.getD i 0 * b.getD q 0 + c) % 4294967296)) (i : Int) ((o.getD (i + q) 0 + a.getD i 0 * b.getD q 0 + c) / 4294967296) ((q + 1 : Nat) : Int)) (fun k => ?_) (ih _ _ _ (by omega) (by simpa using ho) (hd.set _ (by omega)) (hz.set (by omega)) (by omega) (by omega) (mul_round (by omega) (by omega) hv e))
    simp only [flagstoneref36_times.l1]
    rw [if_pos (by omega), if_pos (by omega), if_pos (by omega), if_pos (by omega), w64_eq (n := (i : Int) + (q : Int)) (by omega) (by omega), if_pos (by omega), if_pos (by omega), show (i : Int) + (q : Int) = ((i + q : Nat) : Int) by omega, rrd_nat, rrd_nat, rrd_nat, Int.toNat_natCast, w64_eq (by omega) (by omega)]
    generalize o.getD (i + q) 0 = g at *
    generalize b.getD q 0 = y at *
    generalize a.getD i 0 = x at *
    rw [u64_eq (n := g) (by omega) (by omega), u64_eq (n := x) (by omega) (by omega), u64_eq (n := y) (by omega) (by omega)]
    generalize x * y = z at *
    rw [u64_eq (n := z) (by omega) (by omega), Int.add_comm z g, u64_eq (n := g + z) (by omega) (by omega), u64_eq (n := g + z + c) (by omega) (by omega)]; rfl
theorem times_l0 {a b : List Int} (da : Dg 4294967296 a) (db : Dg 4294967296 b) (hM : a.length + b.length ≤ 2 * LM) {n : Nat} (hn : vI 4294967296 a * vI 4294967296 b = n) (m : Nat) :
    ∀ (i : Nat) (o : List Int), i + m = a.length → o.length = a.length + b.length → Dg 4294967296 o → Zr o (i + b.length) → vI 4294967296 o = vI 4294967296 (a.take i) * vI 4294967296 b →
      Ev (fun k => flagstoneref36_times.l0 k a b o (i : Int)) (digs 4294967296 n) := by
  have hM' := hM
  unfold LM at hM'
  induction m with
  | zero =>
    intro i o hi ho hd hz hv
    refine Ev.step (f := fun k => (flagstoneref36_trim.f k o).bind fun t => some t) (fun k => ?_) (rtrim_then (by omega) hd ?_)
    · simp only [flagstoneref36_times.l0]; rw [if_neg (by omega)]
    · rw [hv, List.take_of_length_le (by omega)]; exact hn
  | succ m ih =>
    intro i o hi ho hd hz hv
    refine Ev.step (f := fun k => flagstoneref36_times.l1 k a b o (i : Int) 0 ((0 : Nat) : Int)) (fun k => ?_) (times_l1 da db hM (by omega) (vI 4294967296 (a.take i) * vI 4294967296 b) (fun o' ho' hd' hz' hv' => ih (i + 1) o' (by omega) ho' hd' (by rw [show i + 1 + b.length = i + b.length + 1 by omega]; exact hz') ?_) _ 0 o 0 (Nat.zero_add _) ho hd hz (by omega) (by omega) (by simp [hv, vI]))
    · simp only [flagstoneref36_times.l0]
      rw [if_pos (by omega)]; rfl
    · rw [hv', vI_take_succ _ _ _ (by omega)]; grind
theorem timesP {a b : Nat} (ha : (digs 4294967296 a).length ≤ LM) (hb : (digs 4294967296 b).length ≤ LM) : Ev (fun k => flagstoneref36_times.f k (digs 4294967296 a) (digs 4294967296 b)) (digs 4294967296 (a * b)) := by
  have hA := ha
  have hB := hb
  unfold LM at hA hB
  have := times_l0 (rDg a) (rDg b) (by omega) (n := a * b) (by rw [rVal, rVal, Int.natCast_mul]) _ 0 (List.replicate ((digs 4294967296 a).length + (digs 4294967296 b).length) 0) (Nat.zero_add _) (by simp) (Dg.replicate (by omega) _) (fun p _ => Zr.replicate _ p (Nat.zero_le _)) (by simp [vI_replicate, vI])
  refine Ev.congr (fun k => ?_) this
  unfold flagstoneref36_times.f
  rw [w64_eq (by omega) (by omega), if_pos (by omega), if_pos (by omega), show (((digs 4294967296 a).length : Int) + ((digs 4294967296 b).length : Int)).toNat = (digs 4294967296 a).length + (digs 4294967296 b).length by omega]; rfl
end Go.Proofs.YtplpmndchdockaaDoor.M
