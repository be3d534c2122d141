import Derived.Test.YtplpmndchdockaaDoorRnC
import Derived.Test.YtplpmndchdockaaDoorPnF
/-! The reference's texts: digits, parse, show; size. -/
namespace Go.Proofs.YtplpmndchdockaaDoor.M
open Go Go.RowKit Go.Proofs.YtplpmndchdockaaDoor.Pr Go.Proofs.YtplpmndchdockaaDoorV.PrintWords
set_option autoImplicit false
set_option linter.unusedVariables false

theorem rdig_l0 (s : ByteArray) (hs : s.size ≤ 400) (m : Nat) : ∀ i : Nat, i + m = s.size → Ev (fun k => flagstoneref36_digits.l0 k s (i : Int)) (((cs s).drop i).all (fun c => decide (48 ≤ c ∧ c ≤ 57))) := by
  induction m with
  | zero =>
    intro i hi
    rw [List.drop_of_length_le (by rw [cs_length]; omega)]
    exact Ev.ans fun k => by simp only [flagstoneref36_digits.l0]; rw [if_neg (by omega)]; rfl
  | succ m ih =>
    intro i hi
    rw [drop_cons' _ _ (by rw [cs_length]; omega), List.all_cons]
    refine Ev.step (f := fun k => if (cs s).getD i 0 < 48 then some false else if (cs s).getD i 0 > 57 then some false else flagstoneref36_digits.l0 k s ((i + 1 : Nat) : Int)) (fun k => ?_) ?_
    · simp only [flagstoneref36_digits.l0]
      rw [if_pos (by omega), if_pos (by omega), bt_cs, w64_eq (by omega) (by omega)]; rfl
    · by_cases h1 : (cs s).getD i 0 < 48
      · simp only [if_pos h1]; rw [decide_eq_false (by omega), Bool.false_and]; exact Ev.now _
      · by_cases h2 : (cs s).getD i 0 > 57
        · simp only [if_neg h1, if_pos h2]; rw [decide_eq_false (by omega), Bool.false_and]; exact Ev.now _
        · simp only [if_neg h1, if_neg h2]; rw [decide_eq_true (by omega), Bool.true_and]; exact ih _ (by omega)
theorem rdigitsP (s : ByteArray) : Ev (fun k => flagstoneref36_digits.f k s) (dgB (cs s)) := by
  have hl := cs_length s
  have j1 : Ev (fun k => flagstoneref36_digits.j0 k s true) false := Ev.ans fun k => by simp [flagstoneref36_digits.j0]
  unfold dgB
  by_cases h1 : s.size < 1
  · rw [decide_eq_false (by omega), Bool.false_and]
    exact Ev.congr (fun k => by unfold flagstoneref36_digits.f; rw [if_pos (by omega)]) j1
  · by_cases h2 : s.size > 400
    · rw [decide_eq_false (by omega), Bool.false_and]
      exact Ev.congr (fun k => by unfold flagstoneref36_digits.f; rw [if_neg (by omega), if_pos (by omega)]) j1
    · have hb : bt s 0 = (cs s).getD 0 0 := bt_cs s 0
      have hh := head_getD (l := cs s) (by omega) 48
      have h0 := rdig_l0 s (by omega) s.size 0 (by omega)
      rw [List.drop_zero] at h0
      have j2 : Ev (fun k => flagstoneref36_digits.j0 k s false) ((cs s).all (fun c => decide (48 ≤ c ∧ c ≤ 57))) := Ev.step (fun k => by simp only [flagstoneref36_digits.j0]; rw [if_neg (by simp)]; rfl) h0
      by_cases h4 : s.size > 1
      · by_cases h3 : (cs s).getD 0 0 = 48
        · rw [decide_eq_false (by rw [hh, hl]; omega), Bool.false_and]
          refine Ev.congr (fun k => ?_) j1
          unfold flagstoneref36_digits.f
          rw [if_neg (by omega), if_neg (by omega), if_pos (by omega), if_pos (by omega), hb, h3]; rfl
        · rw [decide_eq_true (by rw [hh, hl]; omega), Bool.true_and]
          refine Ev.congr (fun k => ?_) j2
          unfold flagstoneref36_digits.f
          rw [if_neg (by omega), if_neg (by omega), if_pos (by omega), if_pos (by omega), hb, show ((cs s).getD 0 0 == 48) = false by rw [beq_eq_false_iff_ne]; exact h3]
      · rw [decide_eq_true (by rw [hh, hl]; omega), Bool.true_and]
        refine Ev.congr (fun k => ?_) j2
        unfold flagstoneref36_digits.f
        rw [if_neg (by omega), if_neg (by omega), if_neg (by omega)]

theorem rlen_ten {n E : Nat} (h : n < 10 ^ E) : (digs 4294967296 n).length ≤ E := digs_len_le (by decide) (Nat.lt_of_lt_of_le h (Nat.pow_le_pow_left (by decide) _))
theorem rparse_l0 {s : ByteArray} (had : AD (cs s)) (hs : s.size ≤ 400) (m : Nat) : ∀ i : Nat, i + m = s.size → Ev (fun k => flagstoneref36_parse.l0 k s (digs 4294967296 (numOf ((cs s).take i)).toNat) (i : Int)) (digs 4294967296 (numOf (cs s)).toNat) := by
  have hl := cs_length s
  have hten : digs 4294967296 10 = [10] := by rw [digs_pos (by decide) (by decide), Nat.mod_eq_of_lt (by decide), Nat.div_eq_of_lt (by decide), digs_zero]; rfl
  induction m with
  | zero =>
    intro i hi
    rw [List.take_of_length_le (by omega)]
    exact Ev.ans fun k => by simp only [flagstoneref36_parse.l0]; rw [if_neg (by omega)]
  | succ m ih =>
    intro i hi
    have hc := had.getD (i := i) (by omega)
    have h0 := numOf_nonneg (had.take i)
    have h1 := numOf_lt (had.take i)
    rw [List.length_take, Nat.min_eq_left (by omega)] at h1
    obtain ⟨x, hx⟩ := Int.eq_ofNat_of_zero_le h0
    obtain ⟨c, hcc⟩ : ∃ c : Nat, (cs s).getD i 0 - 48 = c := Int.eq_ofNat_of_zero_le (by omega)
    have hxl : x < 10 ^ i := by
      rw [hx, show (10 : Int) ^ i = ((10 ^ i : Nat) : Int) by rw [Int.natCast_pow]; rfl] at h1
      exact_mod_cast h1
    have hxd : (digs 4294967296 x).length ≤ 400 := Nat.le_trans (rlen_ten hxl) (by omega)
    have hx10 : (digs 4294967296 (x * 10)).length ≤ 401 := by
      refine Nat.le_trans (rlen_ten (E := i + 1) ?_) (by omega)
      rw [Nat.pow_succ]; omega
    have hcl : (digs 4294967296 c).length ≤ 1 := rlen_ten (E := 1) (by omega)
    obtain ⟨K1, hK1⟩ := timesP (a := x) (b := 10) (by unfold LM; omega) (by rw [hten]; unfold LM; decide)
    rw [hten] at hK1
    obtain ⟨K2, hK2⟩ := rnaturalP c (by omega)
    obtain ⟨K3, hK3⟩ := plusP (a := x * 10) (b := c) (by unfold LM; omega) (by unfold LM; omega)
    obtain ⟨K4, hK4⟩ := ih (i + 1) (by omega)
    rw [take_snoc _ _ (by omega), numOf_snoc, hx, hcc, show ((x : Int) * 10 + (c : Int)).toNat = x * 10 + c by omega] at hK4
    rw [hx, Int.toNat_natCast]
    refine ⟨K1 + K2 + K3 + K4 + 1, fun k hk => ?_⟩
    obtain ⟨k, rfl⟩ : ∃ j, k = j + 1 := ⟨k - 1, by omega⟩
    have eW : wrap64 ((i : Int) + 1) = ((i + 1 : Nat) : Int) := by rw [w64_eq (by omega) (by omega)]; rfl
    have eC : (bt s (i : Int) - 48) % 256 = (c : Int) := by rw [bt_cs]; omega
    show flagstoneref36_parse.l0 (k + 1) _ _ _ = _
    simp only [flagstoneref36_parse.l0]
    rw [if_pos (by omega), show flagstoneref36_times.f k (digs 4294967296 x) [10] = _ from hK1 k (by omega), Option.bind_some, if_pos (Int.natCast_nonneg _), eC, show flagstoneref36_natural.f k (c : Int) = _ from hK2 k (by omega), Option.bind_some, show flagstoneref36_plus.f k (digs 4294967296 (x * 10)) (digs 4294967296 c) = _ from hK3 k (by omega), Option.bind_some, eW]
    exact hK4 k (by omega)
theorem rparseP {s : ByteArray} (h : dgB (cs s) = true) : Ev (fun k => flagstoneref36_parse.f k s) (digs 4294967296 (numOf (cs s)).toNat) := by
  obtain ⟨h1, h2⟩ := (dgB_iff _).mp h
  rw [cs_length] at h2
  have := rparse_l0 h1.dig h2 s.size 0 (by omega)
  rw [List.take_zero, show (numOf []).toNat = 0 from rfl, digs_zero] at this
  exact this

/-- What a text in the making holds. -/
structure Sw (N X : Nat) (S : List Int) : Prop where
  ad : AD S
  val : (X : Int) * 10 ^ S.length + numOf S = N
  lead : X = 0 → S.head? ≠ some 48
theorem Sw.push {N Q n : Nat} {S : List Int} {i : Nat} (had : AD S) (hv : ((Q * 10 ^ (i + 1) + n : Nat) : Int) * 10 ^ S.length + numOf S = N) : AD ((48 + ((n % 10 : Nat) : Int)) :: S) ∧ ((Q * 10 ^ i + n / 10 : Nat) : Int) * 10 ^ ((48 + ((n % 10 : Nat) : Int)) :: S).length + numOf ((48 + ((n % 10 : Nat) : Int)) :: S) = N := by
  constructor
  · intro c hc
    rcases List.mem_cons.mp hc with rfl | hc
    · omega
    · exact had c hc
  · rw [numOf_cons, List.length_cons, ← hv, Nat.pow_succ, Int.pow_succ]
    have e : n = 10 * (n / 10) + n % 10 := by omega
    generalize (10 : Int) ^ S.length = p
    have e2 : ((Q * (10 ^ i * 10) + n : Nat) : Int) = ((Q * 10 ^ i + n / 10 : Nat) : Int) * 10 + ((n % 10 : Nat) : Int) := by
      have : Q * (10 ^ i * 10) + n = (Q * 10 ^ i + n / 10) * 10 + n % 10 := by
        conv => lhs; rw [e]
        grind
      exact_mod_cast this
    rw [e2]
    grind
theorem Sw.done {N : Nat} {S : List Int} (h : Sw N 0 S) (hN : N ≠ 0) : S = tx N := by
  have hv := h.val
  rw [show ((0 : Nat) : Int) = 0 from rfl, Int.zero_mul, Int.zero_add] at hv
  have hdec : IsDec S := ⟨fun e => by rw [e, numOf_nil] at hv; omega, fun c hc => h.ad c hc, fun hh => absurd hh (h.lead rfl)⟩
  have := hdec.eq
  rw [hv] at this; exact this
theorem show_emit {k Q n i : Nat} {S : List Int} (hi : i < 9) (hn : n < 1000000000) (hl : S.length ≤ 900000000000000000) (hgo : ¬ (Q = 0 ∧ n = 0)) :
    flagstoneref36_show.l1 (k + 1) (bs S) (digs 4294967296 Q) (n : Int) (i : Int) = flagstoneref36_show.l1 k (bs ((48 + ((n % 10 : Nat) : Int)) :: S)) (digs 4294967296 Q) ((n / 10 : Nat) : Int) ((i + 1 : Nat) : Int) := by
  have hQ0 := digs_nil (B := 4294967296) (by decide) Q
  rw [← List.length_eq_zero_iff] at hQ0
  have g0 : (i : Int) < 9 := by omega
  have g1 : ¬ ((digs 4294967296 Q).length : Int) > 0 → (n : Int) > 0 := by omega
  have ebs : (strOfNums [(IntKind.u64.wrap (48 + Int.tmod (n : Int) 10)) % 256]) ++ bs S = bs ((48 + ((n % 10 : Nat) : Int)) :: S) := by
    rw [strOfNums_bs, bs_append]
    congr 1
    rw [Int.tmod_eq_emod_of_nonneg (by omega), u64_eq (by omega) (by omega), List.singleton_append]
    congr 1
    omega
  have esz : ((strOfNums [(IntKind.u64.wrap (48 + Int.tmod (n : Int) 10)) % 256]).size + (bs S).size) ≤ 9223372036854775807 := by
    rw [strOfNums_bs, bs_size, bs_size, List.length_singleton]; omega
  have en : IntKind.u64.wrap (Int.tdiv (n : Int) 10) = ((n / 10 : Nat) : Int) := by rw [Int.tdiv_eq_ediv_of_nonneg (by omega), u64_eq (by omega) (by omega)]; omega
  have eW : wrap64 ((i : Int) + 1) = ((i + 1 : Nat) : Int) := by rw [w64_eq (by omega) (by omega)]; rfl
  simp only [flagstoneref36_show.l1]
  rw [if_pos g0]
  by_cases hq : ((digs 4294967296 Q).length : Int) > 0
  · rw [if_pos hq, Option.bind_some, if_pos esz, ebs, en, eW]
  · rw [if_neg hq, if_pos (g1 hq), Option.bind_some, if_pos esz, ebs, en, eW]
theorem show_l1 {N E : Nat} (hE : E ≤ 100 * LM) {Q : Nat} {r : ByteArray} (next : ∀ S : List Int, Sw N Q S → S.length ≤ E + 9 → Ev (fun k => flagstoneref36_show.l0 k (digs 4294967296 Q) (bs S)) r) (m : Nat) :
    ∀ (i n : Nat) (S : List Int), i + m = 9 → n < 10 ^ m → AD S → S.length ≤ E + i → ((Q * 10 ^ m + n : Nat) : Int) * 10 ^ S.length + numOf S = N → (Q = 0 → n = 0 → S.head? ≠ some 48) →
      Ev (fun k => flagstoneref36_show.l1 k (bs S) (digs 4294967296 Q) (n : Int) (i : Int)) r := by
  unfold LM at hE
  have hQ0 := digs_nil (B := 4294967296) (by decide) Q
  rw [← List.length_eq_zero_iff] at hQ0
  induction m with
  | zero =>
    intro i n S hi hn had hl hv hlead
    obtain rfl : i = 9 := by omega
    obtain rfl : n = 0 := by rw [Nat.pow_zero] at hn; omega
    have := next S ⟨had, by rw [Nat.pow_zero, Nat.mul_one, Nat.add_zero] at hv; exact hv, fun h => hlead h rfl⟩ (by omega)
    refine Ev.step (fun k => ?_) this
    simp only [flagstoneref36_show.l1]
    rw [if_neg (by omega)]
  | succ m ih =>
    intro i n S hi hn had hl hv hlead
    by_cases hgo : Q = 0 ∧ n = 0
    · obtain ⟨hq, rfl⟩ := hgo
      have := next S ⟨had, by rw [hq] at hv ⊢; rw [Nat.zero_mul, Nat.add_zero] at hv; exact hv, fun h => hlead h rfl⟩ (by omega)
      refine Ev.step (fun k => ?_) this
      simp only [flagstoneref36_show.l1]
      rw [if_pos (by omega), if_neg (by omega), if_neg (by omega)]
    · obtain ⟨had', hv'⟩ := Sw.push had hv
      have hn9 : n < 1000000000 := Nat.lt_of_lt_of_le hn (Nat.le_trans (Nat.pow_le_pow_right (by decide) (show m + 1 ≤ 9 by omega)) (by decide))
      rw [Nat.pow_succ] at hn
      have hih := ih (i + 1) (n / 10) ((48 + ((n % 10 : Nat) : Int)) :: S) (by omega) (by omega) had' (by rw [List.length_cons]; omega) hv' (fun hq h0 => by
        intro hh
        rw [List.head?_cons, Option.some.injEq] at hh
        exact hgo ⟨hq, by omega⟩)
      refine Ev.step (fun k => ?_) hih
      exact show_emit (by clear hv hv' hih ih hlead next; omega) hn9 (by clear hv hv' hih ih hlead next; omega) hgo
theorem show_l0 {N E : Nat} (hN : N ≠ 0) (hNE : N < 10 ^ E) (hE : 100 * E + 100 ≤ LM) (X : Nat) : ∀ S : List Int, Sw N X S → S.length ≤ E + 9 → Ev (fun k => flagstoneref36_show.l0 k (digs 4294967296 X) (bs S)) (bs (tx N)) := by
  have hEL := hE
  unfold LM at hEL
  have hX0 := digs_nil (B := 4294967296) (by decide) X
  rw [← List.length_eq_zero_iff] at hX0
  induction X using Nat.strongRecOn with
  | ind X ih =>
    intro S h hl
    have hX0 := digs_nil (B := 4294967296) (by decide) X
    rw [← List.length_eq_zero_iff] at hX0
    by_cases h0 : X = 0
    · subst h0
      rw [← h.done hN]
      exact Ev.ans fun k => by simp only [flagstoneref36_show.l0]; rw [if_neg (by omega)]
    · have hsn := numOf_nonneg h.ad
      have hv := h.val
      -- the length so far
      have hlen : S.length < E := by
        have h1 : (1 : Int) * 10 ^ S.length ≤ (X : Int) * 10 ^ S.length := Int.mul_le_mul_of_nonneg_right (by omega) (Int.le_of_lt (pow_pos' (by omega) _))
        have h2 : (10 : Int) ^ S.length < (10 : Int) ^ E := by
          have e : (10 : Int) ^ E = ((10 ^ E : Nat) : Int) := by rw [Int.natCast_pow]; rfl
          rw [e]; omega
        by_cases hc : S.length < E
        · exact hc
        · have := pow_mono (B := 10) (by omega) (show E ≤ S.length by omega)
          omega
      have hXN : X < 10 ^ E := by
        have h1 : (X : Int) * 1 ≤ (X : Int) * 10 ^ S.length := Int.mul_le_mul_of_nonneg_left (by have := pow_pos' (show (0 : Int) < 10 by omega) S.length; omega) (by omega)
        omega
      have hXl := rlen_ten hXN
      have e9 : digs 4294967296 1000000000 = [1000000000] := by rw [digs_pos (by decide) (by decide), Nat.mod_eq_of_lt (by decide), Nat.div_eq_of_lt (by decide), digs_zero]; rfl
      obtain ⟨K1, hK1⟩ := rdivP (a := X) (b := 1000000000) (by omega) (by rw [e9]; unfold LM; decide) (by decide)
      rw [e9] at hK1
      have hdm := Nat.div_add_mod X 1000000000
      have hl1 := show_l1 (N := N) (E := E) (Q := X / 1000000000) (by unfold LM; omega) (fun S' hS' hl' => ih (X / 1000000000) (Nat.div_lt_self (by omega) (by decide)) (by rw [List.length_eq_zero_iff]; exact digs_nil (by decide) _) S' hS' hl') 9 0 (X % 1000000000) S (by omega) (Nat.mod_lt _ (by decide)) h.ad (by omega) (by
        rw [← hv]
        congr 2
        have : (10 : Nat) ^ 9 = 1000000000 := by decide
        rw [this]; omega) (fun hq hr => absurd (show X = 0 by omega) h0)
      obtain ⟨K2, hK2⟩ := hl1
      refine ⟨K1 + K2 + 1, fun k hk => ?_⟩
      obtain ⟨k, rfl⟩ : ∃ j, k = j + 1 := ⟨k - 1, by omega⟩
      have hdg : flagstoneref36_digit.f (digs 4294967296 (X % 1000000000)) 0 = some ((X % 1000000000 : Nat) : Int) := by
        have := digitP (rDg (X % 1000000000)) 0
        rw [show ((0 : Nat) : Int) = 0 from rfl] at this
        rw [this]
        congr 1
        by_cases hr : X % 1000000000 = 0
        · rw [hr, digs_zero]; rfl
        · rw [digs_pos (by decide) (by omega), List.getD_cons_zero, Nat.mod_eq_of_lt (Nat.lt_trans (Nat.mod_lt X (show 1000000000 > 0 by decide)) (by decide))]
      show flagstoneref36_show.l0 (k + 1) _ _ = _
      simp only [flagstoneref36_show.l0]
      rw [if_pos (by omega), show flagstoneref36_divide.f k (digs 4294967296 X) [1000000000] = _ from hK1 k (by omega), Option.bind_some, hdg, Option.bind_some]
      exact hK2 k (by omega)
theorem showP {N E : Nat} (hNE : N < 10 ^ E) (hE : 100 * E + 100 ≤ LM) : Ev (fun k => flagstoneref36_show.f k (digs 4294967296 N)) (bs (tx N)) := by
  by_cases h0 : N = 0
  · subst h0
    refine Ev.same fun k => ?_
    unfold flagstoneref36_show.f
    rw [digs_zero, tx_zero]; rfl
  · have hne : (digs 4294967296 N).length ≠ 0 := fun e => h0 ((digs_nil (B := 4294967296) (by decide) N).mp (List.length_eq_zero_iff.mp e))
    have hAD : AD [] := fun c hc => by cases hc
    have := show_l0 h0 hNE hE N [] ⟨hAD, (by rw [numOf_nil]; simp), fun h => absurd h h0⟩ (by simp)
    refine Ev.congr (fun k => ?_) this
    unfold flagstoneref36_show.f
    rw [if_neg (by omega)]; rfl
theorem sizeP (a : Int) (h0 : -9223372036854775808 ≤ a) (h1 : a ≤ 9223372036854775807) : Ev (fun k => flagstoneref36_size.f k a) (digs 4294967296 a.natAbs) := by
  have h := rnaturalP a.natAbs (by omega)
  refine Ev.congr (fun k => ?_) (Ev.bind (f := fun _ t => some t) h (Ev.now _))
  unfold flagstoneref36_size.f
  by_cases hc : a < 0
  · rw [if_pos hc, u64_mod, u64_mod, show -(a % 18446744073709551616) % 18446744073709551616 = (a.natAbs : Int) by omega]
  · rw [if_neg hc, u64_mod, show a % 18446744073709551616 = (a.natAbs : Int) by omega]
end Go.Proofs.YtplpmndchdockaaDoor.M
