import Derived.Test.YtplpmndchdockaaDoorPnA
/-! The program's naturals: addNat, subNat, mulNat, small. -/
namespace Go.Proofs.YtplpmndchdockaaDoor.M
open Go Go.RowKit Go.Proofs.YtplpmndchdockaaDoor.Pr Go.Proofs.YtplpmndchdockaaDoorV.PrintWords
set_option autoImplicit false
set_option linter.unusedVariables false

theorem trim_then {l : List Int} {n : Nat} (hl : l.length ≤ 9000000000000000000) (h : Dg 1000000000 l) (hv : vI 1000000000 l = n) : Ev (fun k => (rational_trim.f k l).bind fun t => some t) (digs 1000000000 n) := by
  have := trimP l hl
  rw [pTrim h hv] at this
  exact Ev.bind (f := fun _ t => some t) this (Ev.now _)
theorem Dg.push {B x : Int} {l : List Int} (h : Dg B l) (hx : 0 ≤ x ∧ x < B) : Dg B (l ++ [x]) := h.append (Dg.cons hx Dg.nil)

theorem add_l0 {a b : List Int} (da : Dg 1000000000 a) (db : Dg 1000000000 b) (hab : b.length ≤ a.length) (hM : a.length ≤ LM) {n : Nat} (hn : vI 1000000000 a + vI 1000000000 b = n) (m : Nat) :
    ∀ (i : Nat) (o : List Int) (c : Int), i + m = a.length → o.length = i → Dg 1000000000 o → 0 ≤ c → c ≤ 1 → vI 1000000000 o + 1000000000 ^ i * c = vI 1000000000 (a.take i) + vI 1000000000 (b.take i) →
      Ev (fun k => rational_addNat.l0 k b o c a (a.length : Int) (i : Int)) (digs 1000000000 n) := by
  unfold LM at hM
  induction m with
  | zero =>
    intro i o c hi ho hd c0 c1 hv
    refine Ev.step (f := fun k => (rational_trim.f k (o ++ [c])).bind fun t => some t) (fun k => ?_) (trim_then (by simp; omega) (hd.push (by omega)) ?_)
    · simp only [rational_addNat.l0]; rw [if_neg (by omega), if_pos (by omega)]
    · rw [vI_append, vI_one, ho, hv, List.take_of_length_le (by omega), List.take_of_length_le (by omega)]; exact hn
  | succ m ih =>
    intro i o c hi ho hd c0 c1 hv
    have ha := da.get (by omega) i
    have hb := db.get (by omega) i
    have hs := vI_take_succ 1000000000 a i (by omega)
    by_cases hib : i < b.length
    · have hsb := vI_take_succ 1000000000 b i hib
      refine Ev.step (f := fun k => rational_addNat.l0 k b (o ++ [(a.getD i 0 + c + b.getD i 0) % 1000000000]) ((a.getD i 0 + c + b.getD i 0) / 1000000000) a (a.length : Int) ((i + 1 : Nat) : Int)) (fun k => ?_) (ih _ _ _ (by omega) (by simp [ho]) (hd.push (by omega)) (by omega) (by omega) ?_)
      · simp only [rational_addNat.l0]
        rw [if_pos (by omega), if_pos (by omega), if_pos (by omega), if_pos (by omega), if_pos (by omega), rd_nat, rd_nat, w64_eq (by omega) (by omega)]
        have e : ((a.getD i 0 + c) % 4294967296 + b.getD i 0) % 4294967296 = a.getD i 0 + c + b.getD i 0 := by omega
        rw [e]; rfl
      · rw [push_at ho _ _ (a.getD i 0 + c + b.getD i 0) (by omega), hs, hsb]
        rw [show a.getD i 0 + c + b.getD i 0 = c + (a.getD i 0 + b.getD i 0) by omega, Int.mul_add, Int.mul_add]
        omega
    · have hsb : b.take (i + 1) = b.take i := by rw [List.take_of_length_le (by omega), List.take_of_length_le (by omega)]
      refine Ev.step (f := fun k => rational_addNat.l0 k b (o ++ [(a.getD i 0 + c) % 1000000000]) ((a.getD i 0 + c) / 1000000000) a (a.length : Int) ((i + 1 : Nat) : Int)) (fun k => ?_) (ih _ _ _ (by omega) (by simp [ho]) (hd.push (by omega)) (by omega) (by omega) ?_)
      · simp only [rational_addNat.l0]
        rw [if_pos (by omega), if_pos (by omega), if_pos (by omega), if_neg (by omega), if_pos (by omega), rd_nat, w64_eq (by omega) (by omega)]
        have e : (a.getD i 0 + c) % 4294967296 = a.getD i 0 + c := by omega
        rw [e]; rfl
      · rw [push_at ho _ _ (a.getD i 0 + c) (by omega), hs, hsb]
        rw [Int.add_comm (a.getD i 0) c, Int.mul_add]
        omega
theorem add_l1_eq : ∀ (k : Nat) (b o : List Int) (c : Int) (a : List Int) (n i : Int), rational_addNat.l1 k b o c a n i = rational_addNat.l0 k b o c a n i
  | 0, _, _, _, _, _, _ => by simp [rational_addNat.l0, rational_addNat.l1]
  | k + 1, b, o, c, a, n, i => by simp only [rational_addNat.l0, rational_addNat.l1, add_l1_eq k]
theorem addP {a b : Nat} (ha : (digs 1000000000 a).length ≤ LM) (hb : (digs 1000000000 b).length ≤ LM) : Ev (fun k => rational_addNat.f k (digs 1000000000 a) (digs 1000000000 b)) (digs 1000000000 (a + b)) := by
  have hA := ha
  have hB := hb
  unfold LM at hA hB
  by_cases h : (digs 1000000000 a).length < (digs 1000000000 b).length
  · have := add_l0 (pDg b) (pDg a) (Nat.le_of_lt h) hb (n := a + b) (by rw [pVal, pVal]; omega) _ 0 [] 0 (Nat.zero_add _) rfl Dg.nil (by omega) (by omega) (by simp [vI])
    refine Ev.congr (fun k => ?_) this
    unfold rational_addNat.f
    rw [if_pos (by omega), w64_eq (by omega) (by omega), if_pos (by omega), if_pos (by omega)]; rfl
  · have := add_l0 (pDg a) (pDg b) (by omega) ha (n := a + b) (by rw [pVal, pVal]; omega) _ 0 [] 0 (Nat.zero_add _) rfl Dg.nil (by omega) (by omega) (by simp [vI])
    refine Ev.congr (fun k => ?_) this
    unfold rational_addNat.f
    rw [if_neg (by omega), w64_eq (by omega) (by omega), if_pos (by omega), if_pos (by omega), add_l1_eq]; rfl

theorem sub_l0 {a b : List Int} (da : Dg 1000000000 a) (db : Dg 1000000000 b) (hab : b.length ≤ a.length) (hM : a.length ≤ LM) {n : Nat} (hn : vI 1000000000 a - vI 1000000000 b = n) (m : Nat) :
    ∀ (i : Nat) (o : List Int) (c : Int), i + m = a.length → o.length = i → Dg 1000000000 o → 0 ≤ c → c ≤ 1 → vI 1000000000 o + 1000000000 ^ i * (-c) = vI 1000000000 (a.take i) - vI 1000000000 (b.take i) →
      Ev (fun k => rational_subNat.l0 k b (o ++ List.replicate m 0) c a (a.length : Int) (i : Int)) (digs 1000000000 n) := by
  unfold LM at hM
  induction m with
  | zero =>
    intro i o c hi ho hd c0 c1 hv
    rw [List.take_of_length_le (by omega), List.take_of_length_le (by omega), hn, Int.mul_neg] at hv
    have hlt := vI_lt (by omega) hd
    rw [ho] at hlt
    have hc : c = 0 := by
      by_cases h : c = 1
      · subst h; rw [Int.mul_one] at hv; omega
      · omega
    subst hc
    rw [List.replicate_zero, List.append_nil]
    refine Ev.step (f := fun k => (rational_trim.f k o).bind fun t => some t) (fun k => ?_) (trim_then (by omega) hd ?_)
    · simp only [rational_subNat.l0]; rw [if_neg (by omega)]
    · omega
  | succ m ih =>
    intro i o c hi ho hd c0 c1 hv
    have ha := da.get (by omega) i
    have hb := db.get (by omega) i
    have hs := vI_take_succ 1000000000 a i (by omega)
    have hset : ∀ x : Int, (o ++ List.replicate (m + 1) 0).set i x = (o ++ [x]) ++ List.replicate m 0 := fun x => by rw [← ho]; exact set_at o m x
    have hlen : (i : Int) < ((o ++ List.replicate (m + 1) 0).length : Int) := by simp [ho]; omega
    have key : ∀ s : Int, -1000000000 ≤ s → s < 1000000000 → vI 1000000000 (a.take (i + 1)) - vI 1000000000 (b.take (i + 1)) = vI 1000000000 o + 1000000000 ^ i * s →
        Ev (fun k => if s < 0 then rational_subNat.l0 k b ((o ++ [s + 1000000000]) ++ List.replicate m 0) 1 a (a.length : Int) ((i + 1 : Nat) : Int) else rational_subNat.l0 k b ((o ++ [s]) ++ List.replicate m 0) 0 a (a.length : Int) ((i + 1 : Nat) : Int)) (digs 1000000000 n) := by
      intro s s0 s1 hval
      by_cases h0 : s < 0
      · simp only [if_pos h0]
        refine ih _ _ _ (by omega) (by simp [ho]) (hd.push (by omega)) (by omega) (by omega) ?_
        rw [hval]; exact push_at ho _ _ s (by omega)
      · simp only [if_neg h0]
        refine ih _ _ _ (by omega) (by simp [ho]) (hd.push (by omega)) (by omega) (by omega) ?_
        rw [hval]; exact push_at ho _ _ s (by omega)
    by_cases hib : i < b.length
    · have hsb := vI_take_succ 1000000000 b i hib
      refine Ev.step (fun k => ?_) (key (a.getD i 0 - c - b.getD i 0) (by omega) (by omega) ?_)
      · simp only [rational_subNat.l0]
        rw [if_pos (by omega), if_pos (by omega), if_pos (by omega), if_pos (by omega), if_pos hlen, if_pos hlen, rd_nat, rd_nat, Int.toNat_natCast, hset, hset, w64_eq (n := a.getD i 0) (by omega) (by omega), w64_eq (n := b.getD i 0) (by omega) (by omega), w64_eq (n := a.getD i 0 - c) (by omega) (by omega), w64_eq (n := a.getD i 0 - c - b.getD i 0) (by omega) (by omega), w64_eq (n := (i : Int) + 1) (by omega) (by omega)]
        by_cases h0 : a.getD i 0 - c - b.getD i 0 < 0
        · rw [if_pos h0, if_pos h0, w64_eq (by omega) (by omega), Int.emod_eq_of_lt (by omega) (by omega)]; rfl
        · rw [if_neg h0, if_neg h0, Int.emod_eq_of_lt (by omega) (by omega)]; rfl
      · rw [hs, hsb, Int.mul_sub, Int.mul_sub]; rw [Int.mul_neg] at hv; omega
    · have hsb : b.take (i + 1) = b.take i := by rw [List.take_of_length_le (by omega), List.take_of_length_le (by omega)]
      refine Ev.step (fun k => ?_) (key (a.getD i 0 - c) (by omega) (by omega) ?_)
      · simp only [rational_subNat.l0]
        rw [if_pos (by omega), if_pos (by omega), if_pos (by omega), if_neg (by omega), if_pos hlen, if_pos hlen, rd_nat, Int.toNat_natCast, hset, hset, w64_eq (n := a.getD i 0) (by omega) (by omega), w64_eq (n := a.getD i 0 - c) (by omega) (by omega), w64_eq (n := (i : Int) + 1) (by omega) (by omega)]
        by_cases h0 : a.getD i 0 - c < 0
        · rw [if_pos h0, if_pos h0, w64_eq (by omega) (by omega), Int.emod_eq_of_lt (by omega) (by omega)]; rfl
        · rw [if_neg h0, if_neg h0, Int.emod_eq_of_lt (by omega) (by omega)]; rfl
      · rw [hs, hsb, Int.mul_sub]; rw [Int.mul_neg] at hv; omega
theorem subP {a b : Nat} (ha : (digs 1000000000 a).length ≤ LM) (h : b ≤ a) : Ev (fun k => rational_subNat.f k (digs 1000000000 a) (digs 1000000000 b)) (digs 1000000000 (a - b)) := by
  have hA := ha
  unfold LM at hA
  have := sub_l0 (pDg a) (pDg b) (digs_len_mono (by omega) h) ha (n := a - b) (by rw [pVal, pVal]; omega) _ 0 [] 0 (Nat.zero_add _) rfl Dg.nil (by omega) (by omega) (by simp [vI])
  refine Ev.congr (fun k => ?_) this
  unfold rational_subNat.f
  rw [if_pos (by omega), if_pos (by omega), Int.toNat_natCast]; rfl

theorem mul_l1 {a b : List Int} (da : Dg 1000000000 a) (db : Dg 1000000000 b) (hM : a.length + b.length ≤ 2 * LM) {r : List Int} {i : Nat} {x : Int} (hi : i < a.length) (hx : 0 ≤ x ∧ x < 1000000000) (W : Int)
    (next : ∀ o : List Int, o.length = a.length + b.length → Dg 1000000000 o → Zr o (i + b.length + 1) → vI 1000000000 o = W + 1000000000 ^ i * (x * vI 1000000000 b) → Ev (fun k => rational_mulNat.l0 k b o a (a.length : Int) ((i + 1 : Nat) : Int)) r) (m : Nat) :
    ∀ (q : Nat) (o : List Int) (c : Int), q + m = b.length → o.length = a.length + b.length → Dg 1000000000 o → Zr o (i + b.length) → 0 ≤ c → c < 1000000000 → vI 1000000000 o + 1000000000 ^ (i + q) * c = W + 1000000000 ^ i * (x * vI 1000000000 (b.take q)) →
      Ev (fun k => rational_mulNat.l1 k b o (i : Int) x c a (a.length : Int) (i : Int) b (b.length : Int) (q : Int)) r := by
  unfold LM at hM
  induction m with
  | zero =>
    intro q o c hq ho hd hz c0 c1 hv
    obtain rfl : q = b.length := by omega
    refine Ev.step (f := fun k => rational_mulNat.l0 k b (o.set (i + b.length) c) a (a.length : Int) ((i + 1 : Nat) : Int)) (fun k => ?_) (next _ (by simpa using ho) (hd.set _ (by omega)) (hz.set' (Nat.le_refl _)) ?_)
    · simp only [rational_mulNat.l1]
      rw [if_neg (by omega), w64_eq (n := (i : Int) + (b.length : Int)) (by omega) (by omega), if_pos (by omega), if_pos (by omega), w64_eq (by omega) (by omega), Int.emod_eq_of_lt (by omega) (by omega), show ((i : Int) + (b.length : Int)).toNat = i + b.length by omega]; rfl
    · rw [vI_set _ _ _ _ (by omega), hz _ (Nat.le_refl _), Int.sub_zero]
      rw [List.take_of_length_le (Nat.le_refl _)] at hv
      exact hv
  | succ m ih =>
    intro q o c hq ho hd hz c0 c1 hv
    have hb := db.get (by omega) q
    have hg := hd.get (by omega) (i + q)
    obtain ⟨p0, t0, t1⟩ := dig_mul (B := 1000000000) (by omega) hx.1 hx.2 hb.1 hb.2 c0 c1 hg.1 hg.2
    have e : (o.getD (i + q) 0 + x * b.getD q 0 + c) % 1000000000 + 1000000000 * ((o.getD (i + q) 0 + x * b.getD q 0 + c) / 1000000000) = o.getD (i + q) 0 + x * b.getD q 0 + c := by omega
    refine Ev.step (f := fun k => rational_mulNat.l1 k b (o.set (i + q) ((o.getD (i + q) 0 + x * b.getD q 0 + c) % 1000000000)) (i : Int) x ((o.getD (i + q) 0 + x * b.getD q 0 + c) / 1000000000) a (a.length : Int) (i : Int) b (b.length : Int) ((q + 1 : Nat) : Int)) (fun k => ?_) (ih _ _ _ (by omega) (by simpa using ho) (hd.set _ (by omega)) (hz.set (by omega)) (by omega) (by omega) (mul_round (by omega) (by omega) hv e))
    simp only [rational_mulNat.l1]
    rw [if_pos (by omega), if_pos (by omega), if_pos (by omega), w64_eq (n := (i : Int) + (q : Int)) (by omega) (by omega), if_pos (by omega), if_pos (by omega), show (i : Int) + (q : Int) = ((i + q : Nat) : Int) by omega, rd_nat, rd_nat, Int.toNat_natCast, w64_eq (by omega) (by omega)]
    generalize o.getD (i + q) 0 = g at *
    generalize b.getD q 0 = y at *
    rw [u64_eq (n := g) (by omega) (by omega), u64_eq (n := x) (by omega) (by omega), u64_eq (n := y) (by omega) (by omega)]
    generalize x * y = z at *
    rw [u64_eq (n := z) (by omega) (by omega), u64_eq (n := g + z) (by omega) (by omega), u64_eq (n := g + z + c) (by omega) (by omega), Int.tmod_eq_emod_of_nonneg (by omega), Int.tdiv_eq_ediv_of_nonneg (by omega), u64_eq (by omega) (by omega), Int.emod_eq_of_lt (b := 4294967296) (by omega) (by omega)]; rfl
theorem mul_l0 {a b : List Int} (da : Dg 1000000000 a) (db : Dg 1000000000 b) (hM : a.length + b.length ≤ 2 * LM) {n : Nat} (hn : vI 1000000000 a * vI 1000000000 b = n) (m : Nat) :
    ∀ (i : Nat) (o : List Int), i + m = a.length → o.length = a.length + b.length → Dg 1000000000 o → Zr o (i + b.length) → vI 1000000000 o = vI 1000000000 (a.take i) * vI 1000000000 b →
      Ev (fun k => rational_mulNat.l0 k b o a (a.length : Int) (i : Int)) (digs 1000000000 n) := by
  have hM' := hM
  unfold LM at hM'
  induction m with
  | zero =>
    intro i o hi ho hd hz hv
    refine Ev.step (f := fun k => (rational_trim.f k o).bind fun t => some t) (fun k => ?_) (trim_then (by omega) hd ?_)
    · simp only [rational_mulNat.l0]; rw [if_neg (by omega)]
    · rw [hv, List.take_of_length_le (by omega)]; exact hn
  | succ m ih =>
    intro i o hi ho hd hz hv
    have hx := da.get (by omega) i
    refine Ev.step (f := fun k => rational_mulNat.l1 k b o (i : Int) (a.getD i 0) 0 a (a.length : Int) (i : Int) b (b.length : Int) ((0 : Nat) : Int)) (fun k => ?_) (mul_l1 da db hM (by omega) hx (vI 1000000000 (a.take i) * vI 1000000000 b) (fun o' ho' hd' hz' hv' => ih (i + 1) o' (by omega) ho' hd' (by rw [show i + 1 + b.length = i + b.length + 1 by omega]; exact hz') ?_) _ 0 o 0 (Nat.zero_add _) ho hd hz (by omega) (by omega) (by simp [hv, vI]))
    · simp only [rational_mulNat.l0]
      rw [if_pos (by omega), if_pos (by omega), if_pos (by omega), rd_nat]; rfl
    · rw [hv', vI_take_succ _ _ _ (by omega)]; grind
theorem mulP {a b : Nat} (ha : (digs 1000000000 a).length ≤ LM) (hb : (digs 1000000000 b).length ≤ LM) : Ev (fun k => rational_mulNat.f k (digs 1000000000 a) (digs 1000000000 b)) (digs 1000000000 (a * b)) := by
  have hA := ha
  have hB := hb
  unfold LM at hA hB
  have := mul_l0 (pDg a) (pDg b) (by omega) (n := a * b) (by rw [pVal, pVal, Int.natCast_mul]) _ 0 (List.replicate ((digs 1000000000 a).length + (digs 1000000000 b).length) 0) (Nat.zero_add _) (by simp) (Dg.replicate (by omega) _) (fun p _ => Zr.replicate _ p (Nat.zero_le _)) (by simp [vI_replicate, vI])
  refine Ev.congr (fun k => ?_) this
  unfold rational_mulNat.f
  rw [w64_eq (by omega) (by omega), if_pos (by omega), if_pos (by omega), show (((digs 1000000000 a).length : Int) + ((digs 1000000000 b).length : Int)).toNat = (digs 1000000000 a).length + (digs 1000000000 b).length by omega]; rfl

theorem small_l0 {a : List Int} (da : Dg 1000000000 a) (hM : a.length ≤ LM) {d : Nat} (hd0 : 0 < d) (hd1 : d < 4294967296) {u v : Nat} (j : Nat) :
    ∀ (o : List Int) (s : Int), j + o.length = a.length → Dg 1000000000 o → 0 ≤ s → s < d → vI 1000000000 (a.drop j) = vI 1000000000 o * d + s → (vI 1000000000 a = (u : Int) * d + v) → v < d →
      Ev (fun k => rational_small.l0 k a (d : Int) (List.replicate j 0 ++ o) s ((j : Int) - 1)) (digs 1000000000 u, digs 1000000000 v) := by
  unfold LM at hM
  induction j with
  | zero =>
    intro o s hj hd s0 s1 hv huv hvd
    rw [List.drop_zero] at hv
    have h0 := vI_nonneg (by omega) hd
    obtain ⟨q, hq⟩ := Int.eq_ofNat_of_zero_le h0
    obtain ⟨s, rfl⟩ := Int.eq_ofNat_of_zero_le s0
    rw [hv, hq] at huv
    have e2 : q * d + s = u * d + v := by exact_mod_cast huv
    obtain ⟨h1, h2⟩ := div_of (a := q * d + s) rfl (by omega : s < d)
    obtain ⟨h3, h4⟩ := div_of e2 hvd
    obtain rfl : q = u := by omega
    obtain rfl : s = v := by omega
    have ht := trimP o (by omega)
    rw [pTrim hd hq] at ht
    refine Ev.step (f := fun k => (rational_trim.f k o).bind fun t => (rational_natOf.f k (s : Int)).bind fun t' => some (t, t')) (fun k => ?_) (Ev.bind (f := fun k t => (rational_natOf.f k (s : Int)).bind fun t' => some (t, t')) ht (Ev.bind (f := fun _ t' => some (digs 1000000000 q, t')) (natOfP s (by omega)) (Ev.now _)))
    simp only [rational_small.l0]; rw [if_neg (by omega)]; rfl
  | succ j ih =>
    intro o s hj hd s0 s1 hv huv hvd
    have ha := da.get (by omega) j
    have hs := vI_drop_succ 1000000000 a j (by omega)
    have hn : 0 ≤ s * 1000000000 + a.getD j 0 ∧ s * 1000000000 + a.getD j 0 < d * 1000000000 := by omega
    have hq0 : 0 ≤ (s * 1000000000 + a.getD j 0) / d := Int.ediv_nonneg hn.1 (by omega)
    have hq1 : (s * 1000000000 + a.getD j 0) / d < 1000000000 := Int.ediv_lt_of_lt_mul (by omega) (by omega)
    have hr0 := Int.emod_nonneg (s * 1000000000 + a.getD j 0) (show (d : Int) ≠ 0 by omega)
    have hr1 := Int.emod_lt_of_pos (s * 1000000000 + a.getD j 0) (show (0 : Int) < d by omega)
    have he := Int.mul_ediv_add_emod (s * 1000000000 + a.getD j 0) d
    refine Ev.step (f := fun k => rational_small.l0 k a (d : Int) (List.replicate j 0 ++ ((s * 1000000000 + a.getD j 0) / d :: o)) ((s * 1000000000 + a.getD j 0) % d) ((j : Int) - 1)) (fun k => ?_) (ih _ _ (by simp; omega) (Dg.cons ⟨hq0, hq1⟩ hd) hr0 hr1 ?_ huv hvd)
    · have e : ((j + 1 : Nat) : Int) - 1 = (j : Int) := by omega
      have hl : (j : Int) < ((List.replicate (j + 1) 0 ++ o).length : Int) := by simp; omega
      simp only [rational_small.l0]
      rw [e, if_pos (by omega), if_pos (by omega), if_pos (by omega), if_neg (by rw [u64_eq (by omega) (by omega)]; omega), if_pos hl, rd_nat, Int.toNat_natCast, set_back, w64_eq (by omega) (by omega)]
      rw [u64_eq (n := s * 1000000000) (by omega) (by omega), u64_eq (n := a.getD j 0) (by omega) (by omega), u64_eq (n := (d : Int)) (by omega) (by omega), u64_eq (n := s * 1000000000 + a.getD j 0) (by omega) (by omega), Int.tmod_eq_emod_of_nonneg (by omega), Int.tdiv_eq_ediv_of_nonneg (by omega), u64_eq hq0 (by omega), Int.emod_eq_of_lt (b := 4294967296) hq0 (by omega)]
    · rw [hs, hv, vI]
      have : (↑d : Int) * ((s * 1000000000 + a.getD j 0) / ↑d) = ((s * 1000000000 + a.getD j 0) / ↑d) * ↑d := Int.mul_comm _ _
      rw [Int.add_mul, Int.mul_add, Int.mul_assoc 1000000000 (vI 1000000000 o) ↑d]
      omega
theorem smallP {a d : Nat} (ha : (digs 1000000000 a).length ≤ LM) (hd0 : 0 < d) (hd1 : d < 4294967296) : Ev (fun k => rational_small.f k (digs 1000000000 a) (d : Int)) (digs 1000000000 (a / d), digs 1000000000 (a % d)) := by
  have hA := ha
  unfold LM at hA
  have := small_l0 (pDg a) ha hd0 hd1 (u := a / d) (v := a % d) (digs 1000000000 a).length [] 0 (by simp) Dg.nil (by omega) (by omega) (by simp [vI]) (by rw [pVal]; have := Nat.div_add_mod a d; rw [Nat.mul_comm] at this; exact_mod_cast this.symm) (Nat.mod_lt _ hd0)
  refine Ev.congr (fun k => ?_) this
  unfold rational_small.f
  rw [if_pos (by omega), if_pos (by omega), Int.toNat_natCast, w64_eq (by omega) (by omega), List.append_nil]
end Go.Proofs.YtplpmndchdockaaDoor.M
