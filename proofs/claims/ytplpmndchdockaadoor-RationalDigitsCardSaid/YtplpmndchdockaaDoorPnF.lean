import Derived.Test.YtplpmndchdockaaDoorPnE
/-! Texts: TrimLeft, parse and String. -/
namespace Go.Proofs.YtplpmndchdockaaDoor.M
open Go Go.RowKit Go.Proofs.YtplpmndchdockaaDoor.Pr Go.Proofs.YtplpmndchdockaaDoorV.PrintWords
set_option autoImplicit false
set_option linter.unusedVariables false

theorem tlb_l0 (n : Nat) : ∀ s : ByteArray, s.size = n → n ≤ 9000000000000000000 → ∃ r : ByteArray, Ev (fun k => strings_trimLeftByte.l0 k s 48) r ∧ cs r = (cs s).dropWhile (fun c => decide (c = 48)) := by
  induction n with
  | zero =>
    intro s h _
    refine ⟨s, Ev.ans fun k => by simp only [strings_trimLeftByte.l0]; rw [if_neg (by omega)], ?_⟩
    have : cs s = [] := List.length_eq_zero_iff.mp (by rw [cs_length]; exact h)
    rw [this]; rfl
  | succ n ih =>
    intro s h hn
    have hl := cs_length s
    have hb : bt s 0 = (cs s).getD 0 0 := bt_cs s 0
    have hx : (s.extract 1 s.size).size = n := by rw [← cs_length, cs_extract_end, List.length_drop]; omega
    obtain ⟨r, hr, hc⟩ := ih _ hx (by omega)
    rw [cs_extract_end] at hc
    cases e : cs s with
    | nil => rw [e] at hl; simp at hl; omega
    | cons y l =>
      rw [e] at hb hc
      simp only [List.getD_cons_zero] at hb
      by_cases hy : y = 48
      · refine ⟨r, Ev.step (fun k => ?_) hr, by simp only [List.drop_one, List.tail_cons] at hc; rw [hc, List.dropWhile_cons_of_pos (by simpa using hy)]⟩
        simp only [strings_trimLeftByte.l0]; rw [if_pos (by omega), if_pos (by omega), hb, if_pos hy, if_pos (by omega)]
      · refine ⟨s, Ev.ans fun k => ?_, by rw [List.dropWhile_cons_of_neg (by simpa using hy)]; exact e⟩
        simp only [strings_trimLeftByte.l0]; rw [if_pos (by omega), if_pos (by omega), hb, if_neg hy]
theorem trimLeftP (s : ByteArray) (hs : s.size ≤ 9000000000000000000) : ∃ r : ByteArray, Ev (fun k => strings_TrimLeft.f k s ⟨#[48]⟩) r ∧ cs r = (cs s).dropWhile (fun c => decide (c = 48)) := by
  obtain ⟨r, hr, hc⟩ := tlb_l0 s.size s rfl hs
  have e1 : ((⟨#[48]⟩ : ByteArray).size : Int) = 1 := rfl
  have e2 : ((⟨#[48]⟩ : ByteArray).toList == ([] : List UInt8)) = false := by rw [Go.ByteArray.toList_eq]; rfl
  have e3 : bt ⟨#[48]⟩ 0 = 48 := rfl
  by_cases h : s.size = 0
  · refine ⟨s, Ev.step (g := fun k => strings_TrimLeft.f k s ⟨#[48]⟩) (f := fun _ => some s) (fun k => ?_) (Ev.now _), ?_⟩
    · show strings_TrimLeft.f (k + 1) s ⟨#[48]⟩ = some s
      unfold strings_TrimLeft.f; rw [if_pos ((toList_nil_iff s).mpr h)]; simp [strings_TrimLeft.j0]
    · have : cs s = [] := List.length_eq_zero_iff.mp (by rw [cs_length]; exact h)
      rw [this]; rfl
  · refine ⟨r, ?_, hc⟩
    have hr' : Ev (fun k => strings_trimLeftByte.f k s 48) r := hr
    refine Ev.step (f := fun k => (strings_trimLeftByte.f k s 48).bind fun t => some t) (fun k => ?_) (Ev.bind (f := fun _ t => some t) hr' (Ev.now _))
    unfold strings_TrimLeft.f
    rw [if_neg (fun hc => h ((toList_nil_iff s).mp hc)), e2]
    simp only [strings_TrimLeft.j0]
    rw [if_neg (by simp), e1, if_pos rfl, if_pos (by omega), e3, if_pos (by omega)]

theorem numOf_append (a b : List Int) : numOf (a ++ b) = numOf a * 10 ^ b.length + numOf b := by
  unfold numOf
  rw [List.map_append, List.reverse_append, vI_append, List.length_reverse, List.length_map]
  grind
theorem numOf_one (c : Int) : numOf [c] = c - 48 := by simp [numOf, vI]
theorem numOf_nil : numOf [] = 0 := rfl
theorem numOf_snoc (a : List Int) (c : Int) : numOf (a ++ [c]) = numOf a * 10 + (c - 48) := by rw [numOf_append, numOf_one]; simp
theorem numOf_cons (c : Int) (a : List Int) : numOf (c :: a) = (c - 48) * 10 ^ a.length + numOf a := by
  have := numOf_append [c] a
  rw [numOf_one] at this; exact this
/-- All are digits. -/
def AD (l : List Int) : Prop := ∀ c ∈ l, 48 ≤ c ∧ c ≤ 57
theorem AD.take {l : List Int} (h : AD l) (n : Nat) : AD (l.take n) := fun c hc => h c (List.mem_of_mem_take hc)
theorem AD.drop {l : List Int} (h : AD l) (n : Nat) : AD (l.drop n) := fun c hc => h c (List.mem_of_mem_drop hc)
theorem AD.Dg {l : List Int} (h : AD l) : Dg 10 ((l.map (· - 48)).reverse) := by
  intro x hx
  rw [List.mem_reverse, List.mem_map] at hx
  obtain ⟨c, hc, rfl⟩ := hx
  have := h c hc; omega
theorem numOf_nonneg {l : List Int} (h : AD l) : 0 ≤ numOf l := vI_nonneg (by omega) h.Dg
theorem numOf_lt {l : List Int} (h : AD l) : numOf l < 10 ^ l.length := by
  have := vI_lt (by omega) h.Dg
  rw [List.length_reverse, List.length_map] at this; exact this
theorem AD.getD {l : List Int} (h : AD l) {i : Nat} (hi : i < l.length) : 48 ≤ l.getD i 0 ∧ l.getD i 0 ≤ 57 := by
  rw [List.getD_eq_getElem?_getD, List.getElem?_eq_getElem hi]; exact h _ (List.getElem_mem hi)

theorem parse_l1 {s : ByteArray} (had : AD (cs s)) (hs : s.size ≤ 400) {acc : List Int} (ha : acc.length ≤ 1000) {e st : Nat} (he : e ≤ s.size) (hst : st ≤ e) (h9 : e ≤ st + 9) {r : List Int}
    (next : Ev (fun k => rational_parse.l0 k s (acc ++ [numOf (((cs s).take e).drop st)]) ((e : Int) - 9)) r) (m : Nat) :
    ∀ i : Nat, i + m = e → st ≤ i → Ev (fun k => rational_parse.l1 k s acc (e : Int) (numOf (((cs s).take i).drop st)) (i : Int)) r := by
  have hl := cs_length s
  induction m with
  | zero =>
    intro i hi hsi
    obtain rfl : i = e := by omega
    refine Ev.step (fun k => ?_) next
    simp only [rational_parse.l1]
    rw [if_neg (by omega), if_pos (by omega), w64_eq (by omega) (by omega)]
  | succ m ih =>
    intro i hi hsi
    refine Ev.step (fun k => ?_) (ih (i + 1) (by omega) (by omega))
    simp only [rational_parse.l1]
    have hc := had.getD (i := i) (by omega)
    have e1 : ((cs s).take (i + 1)).drop st = ((cs s).take i).drop st ++ [(cs s).getD i 0] := by
      rw [take_snoc _ _ (by omega), List.drop_append_of_le_length (by rw [List.length_take]; omega)]
    have h0 := numOf_nonneg ((had.take i).drop st)
    have h1 := numOf_lt ((had.take i).drop st)
    have hlen : (((cs s).take i).drop st).length = i - st := by rw [List.length_drop, List.length_take]; omega
    rw [hlen] at h1
    have h2 := pow_mono (B := 10) (by omega) (show i - st ≤ 8 by omega)
    rw [e1, numOf_snoc, if_pos (by omega), if_pos (by omega), if_pos (by omega), bt_cs, w64_eq (by omega) (by omega)]
    generalize numOf (((cs s).take i).drop st) = d at *
    have e8 : (10 : Int) ^ 8 = 100000000 := by decide
    have e2 : ((d * 10 % 4294967296 + ((cs s).getD i 0 - 48) % 256) % 4294967296) = d * 10 + ((cs s).getD i 0 - 48) := by omega
    rw [e2]; rfl
theorem parse_l0 {s : ByteArray} (had : AD (cs s)) (hs : s.size ≤ 400) {n : Nat} (hn : numOf (cs s) = n) (e : Nat) :
    ∀ acc : List Int, e ≤ s.size → acc.length ≤ s.size - e → Dg 1000000000 acc → vI 1000000000 acc + 1000000000 ^ acc.length * numOf ((cs s).take e) = n → Ev (fun k => rational_parse.l0 k s acc (e : Int)) (digs 1000000000 n) := by
  have hl := cs_length s
  have fin : ∀ (acc : List Int) (x : Int), x ≤ 0 → acc.length ≤ 1000 → Dg 1000000000 acc → vI 1000000000 acc = n → Ev (fun k => rational_parse.l0 k s acc x) (digs 1000000000 n) := by
    intro acc x hx ha hd hv
    refine Ev.step (f := fun k => (rational_trim.f k acc).bind fun t => some t) (fun k => ?_) (trim_then (by omega) hd hv)
    simp only [rational_parse.l0]; rw [if_neg (by omega)]
  induction e using Nat.strongRecOn with
  | ind e ih =>
    intro acc he ha hd hv
    by_cases h0 : e = 0
    · subst h0
      refine fin acc _ (by omega) (by omega) hd ?_
      rw [List.take_zero, numOf_nil, Int.mul_zero, Int.add_zero] at hv; exact hv
    · have hsplit : ∀ st, st ≤ e → numOf ((cs s).take e) = numOf ((cs s).take st) * 10 ^ (e - st) + numOf (((cs s).take e).drop st) := by
        intro st hst
        have := numOf_append ((cs s).take st) (((cs s).take e).drop st)
        rw [show (cs s).take st = ((cs s).take e).take st by rw [List.take_take, Nat.min_eq_left hst], List.take_append_drop, List.length_drop, List.length_take, Nat.min_eq_left (by omega)] at this
        rw [this, show ((cs s).take e).take st = (cs s).take st by rw [List.take_take, Nat.min_eq_left hst]]
      have hch0 : ∀ st, 0 ≤ numOf (((cs s).take e).drop st) := fun st => numOf_nonneg ((had.take e).drop st)
      have hch1 : ∀ st, st ≤ e → e ≤ st + 9 → numOf (((cs s).take e).drop st) < 1000000000 := by
        intro st h1 h2
        have h3 := numOf_lt ((had.take e).drop st)
        rw [List.length_drop, List.length_take, Nat.min_eq_left (by omega)] at h3
        have h4 := pow_mono (B := 10) (by omega) (show e - st ≤ 9 by omega)
        have e9 : (10 : Int) ^ 9 = 1000000000 := by decide
        omega
      have first : ∀ st : Nat, mx 0 (wrap64 ((e : Int) - 9)) = (st : Int) → st ≤ e → e ≤ st + 9 → Ev (fun k => rational_parse.l0 k s (acc ++ [numOf (((cs s).take e).drop st)]) ((e : Int) - 9)) (digs 1000000000 n) → Ev (fun k => rational_parse.l0 k s acc (e : Int)) (digs 1000000000 n) := by
        intro st h1 h2 h3 h4
        have h5 := parse_l1 had hs (by omega) he h2 h3 h4 (e - st) st (by omega) (Nat.le_refl _)
        refine Ev.step (fun k => ?_) h5
        simp only [rational_parse.l0]
        rw [if_pos (by omega), h1, List.drop_of_length_le (by rw [List.length_take]; omega)]; rfl
      by_cases h9 : 9 ≤ e
      · refine first (e - 9) (by rw [w64_eq (by omega) (by omega)]; unfold mx; split <;> omega) (by omega) (by omega) ?_
        have := ih (e - 9) (by omega) (acc ++ [numOf (((cs s).take e).drop (e - 9))]) (by omega) (by simp; omega) (hd.push ⟨hch0 _, hch1 _ (by omega) (by omega)⟩) (by
          rw [vI_append, vI_one, List.length_append, List.length_singleton, Int.pow_succ, ← hv, hsplit (e - 9) (by omega), show e - (e - 9) = 9 by omega, show (10 : Int) ^ 9 = 1000000000 by decide]
          grind)
        rw [show ((e - 9 : Nat) : Int) = (e : Int) - 9 by omega] at this
        exact this
      · refine first 0 (by rw [w64_eq (by omega) (by omega)]; unfold mx; split <;> omega) (by omega) (by omega) (fin _ _ (by omega) (by simp; omega) (hd.push ⟨hch0 _, hch1 _ (by omega) (by omega)⟩) ?_)
        rw [vI_append, vI_one, List.drop_zero]; exact hv
theorem parseP {s : ByteArray} (h : dgB (cs s) = true) : Ev (fun k => rational_parse.f k s) (digs 1000000000 (numOf (cs s)).toNat) := by
  obtain ⟨h1, h2⟩ := (dgB_iff _).mp h
  rw [cs_length] at h2
  have had : AD (cs s) := h1.dig
  have h0 := numOf_nonneg had
  exact parse_l0 had h2 (by omega) s.size [] (Nat.le_refl _) (by simp) Dg.nil (by rw [List.take_of_length_le (by rw [cs_length]; exact Nat.le_refl _)]; simp [vI]; omega)

theorem str_l1 {l : List Int} (hl : Dg 1000000000 l) (hM : l.length ≤ LM) {r : ByteArray} {i : Nat} (hi : i < l.length) (W : Int)
    (next : ∀ o : List Int, o.length = 9 * i + 9 → AD o → numOf o = W + 1000000000 ^ i * l.getD i 0 → Ev (fun k => rational_natural_String.l0 k (List.replicate (9 * l.length - (9 * i + 9)) 0 ++ o) l (l.length : Int) ((i + 1 : Nat) : Int)) r) (m : Nat) :
    ∀ (q : Nat) (o : List Int) (d : Int), q + m = 9 → o.length = 9 * i + q → AD o → 0 ≤ d → d < 10 ^ m → numOf o + 10 ^ (9 * i + q) * d = W + 1000000000 ^ i * l.getD i 0 →
      Ev (fun k => rational_natural_String.l1 k (List.replicate (9 * l.length - (9 * i + q)) 0 ++ o) (i : Int) d l (l.length : Int) (i : Int) (q : Int)) r := by
  unfold LM at hM
  induction m with
  | zero =>
    intro q o d hq ho ha d0 d1 hv
    obtain rfl : q = 9 := by omega
    obtain rfl : d = 0 := by simp at d1; omega
    rw [Int.mul_zero, Int.add_zero] at hv
    refine Ev.step (fun k => ?_) (next o ho ha hv)
    simp only [rational_natural_String.l1]; rw [if_neg (by omega), w64_eq (by omega) (by omega)]; rfl
  | succ m ih =>
    intro q o d hq ho ha d0 d1 hv
    have hlen : (List.replicate (9 * l.length - (9 * i + q)) 0 ++ o).length = 9 * l.length := by rw [List.length_append, List.length_replicate]; omega
    have hd10 : d < 10000000000 := by
      have := pow_mono (B := 10) (by omega) (show m + 1 ≤ 10 by omega)
      have e : (10 : Int) ^ 10 = 10000000000 := by decide
      omega
    have hd9 : d < 1000000000 := by
      have := pow_mono (B := 10) (by omega) (show m + 1 ≤ 9 by omega)
      have e : (10 : Int) ^ 9 = 1000000000 := by decide
      omega
    rw [Int.pow_succ] at d1
    have had' : AD ((48 + d % 10) :: o) := by
      intro c hc
      rcases List.mem_cons.mp hc with rfl | hc
      · omega
      · exact ha c hc
    have hih := ih (q + 1) ((48 + d % 10) :: o) (d / 10) (by omega) (by simp; omega) had' (by omega) (by omega) (by
      rw [numOf_cons, ho, ← hv, show 9 * i + (q + 1) = 9 * i + q + 1 by omega, Int.pow_succ, show 48 + d % 10 - 48 = d % 10 by omega]
      have e : d = 10 * (d / 10) + d % 10 := by omega
      generalize (10 : Int) ^ (9 * i + q) = p
      conv => rhs; rw [e]
      grind)
    refine Ev.step (fun k => ?_) hih
    have eix : wrap64 (wrap64 (wrap64 (((List.replicate (9 * l.length - (9 * i + q)) 0 ++ o).length : Int) - 1) - wrap64 (9 * (i : Int))) - (q : Int)) = ((9 * l.length - (9 * i + (q + 1)) : Nat) : Int) := by
      rw [hlen, w64_eq (n := 9 * (i : Int)) (by omega) (by omega), w64_eq (n := ((9 * l.length : Nat) : Int) - 1) (by omega) (by omega), w64_eq (n := ((9 * l.length : Nat) : Int) - 1 - 9 * (i : Int)) (by omega) (by omega), w64_eq (by omega) (by omega)]; omega
    have hix : ((9 * l.length - (9 * i + (q + 1)) : Nat) : Int) < ((List.replicate (9 * l.length - (9 * i + q)) 0 ++ o).length : Int) := by rw [hlen]; omega
    simp only [rational_natural_String.l1]
    rw [if_pos (by omega), eix, if_pos (by omega), if_pos hix, Int.toNat_natCast, show 9 * l.length - (9 * i + q) = (9 * l.length - (9 * i + (q + 1))) + 1 by omega, set_back, Int.tmod_eq_emod_of_nonneg d0, Int.tdiv_eq_ediv_of_nonneg d0, w64_eq (by omega) (by omega), show (48 + d % 10 % 256) % 256 = 48 + d % 10 by omega, show d / 10 % 4294967296 = d / 10 by omega]; rfl
theorem pow9 (i : Nat) : (10 : Int) ^ (9 * i) = 1000000000 ^ i := by rw [Int.pow_mul]; rfl
theorem drop48 {l : List Int} : ∀ {o : List Int}, AD o → ∃ m, o = m ++ o.dropWhile (fun c => decide (c = 48)) ∧ numOf (o.dropWhile (fun c => decide (c = 48))) = numOf o ∧ (o.dropWhile (fun c => decide (c = 48))).head? ≠ some 48
  | [], _ => ⟨[], rfl, rfl, by simp⟩
  | c :: o, h => by
    by_cases hc : c = 48
    · obtain ⟨m, h1, h2, h3⟩ := drop48 (l := l) (o := o) (fun x hx => h x (by simp [hx]))
      rw [List.dropWhile_cons_of_pos (by simpa using hc)]
      exact ⟨c :: m, by rw [List.cons_append, ← h1], by rw [h2, numOf_cons, hc]; simp, h3⟩
    · rw [List.dropWhile_cons_of_neg (by simpa using hc)]
      exact ⟨[], rfl, rfl, by simpa using hc⟩
theorem str_l0 {n : Nat} (hn : 0 < n) (hM : (digs 1000000000 n).length ≤ LM) (m : Nat) :
    ∀ (i : Nat) (o : List Int), i + m = (digs 1000000000 n).length → o.length = 9 * i → AD o → numOf o = vI 1000000000 ((digs 1000000000 n).take i) →
      Ev (fun k => rational_natural_String.l0 k (List.replicate (9 * (digs 1000000000 n).length - 9 * i) 0 ++ o) (digs 1000000000 n) ((digs 1000000000 n).length : Int) (i : Int)) (bs (tx n)) := by
  have hM' := hM
  unfold LM at hM'
  induction m with
  | zero =>
    intro i o hi ho ha hv
    rw [List.take_of_length_le (by omega), pVal] at hv
    rw [show 9 * (digs 1000000000 n).length - 9 * i = 0 by omega, List.replicate_zero, List.nil_append]
    have hby : ∀ x ∈ o, 0 ≤ x ∧ x < 256 := fun x hx => by have := ha x hx; omega
    obtain ⟨r, hr, hc⟩ := trimLeftP (bs o) (by rw [bs_size]; omega)
    rw [cs_bs hby] at hc
    obtain ⟨pre, h1, h2, h3⟩ := drop48 (l := []) ha
    have hdec : IsDec (o.dropWhile (fun c => decide (c = 48))) := by
      refine ⟨fun e => ?_, fun c hc => ha c ?_, fun hh => absurd hh h3⟩
      · rw [e, numOf_nil] at h2; omega
      · rw [h1]; exact List.mem_append_right _ hc
    have hr2 : r = bs (tx n) := by
      rw [← bs_cs r, hc, hdec.eq, h2, hv]; rfl
    rw [hr2] at hr
    refine Ev.step (f := fun k => (strings_TrimLeft.f k (bs o) ⟨#[48]⟩).bind fun t => some t) (fun k => ?_) (Ev.bind (f := fun _ t => some t) hr (Ev.now _))
    simp only [rational_natural_String.l0]; rw [if_neg (by omega)]; rfl
  | succ m ih =>
    intro i o hi ho ha hv
    have hx := (pDg n).get (by omega) i
    have e9 : (10 : Int) ^ 9 = 1000000000 := by decide
    refine Ev.step (fun k => ?_) (str_l1 (i := i) (pDg n) hM (by omega) (vI 1000000000 ((digs 1000000000 n).take i)) (fun o' ho' ha' hv' => ?_) 9 0 o ((digs 1000000000 n).getD i 0) (by omega) (by omega) ha hx.1 (by rw [e9]; exact hx.2) (by rw [Nat.add_zero, pow9, hv]))
    · simp only [rational_natural_String.l0]
      rw [if_pos (by omega), if_pos (by omega), if_pos (by omega), rd_nat]; rfl
    · exact ih (i + 1) o' (by omega) (by omega) ha' (by rw [hv', vI_take_succ _ _ _ (by omega)])
theorem strP {n : Nat} (hM : (digs 1000000000 n).length ≤ LM) : Ev (fun k => rational_natural_String.f k (digs 1000000000 n)) (bs (tx n)) := by
  have hM' := hM
  unfold LM at hM'
  by_cases h0 : n = 0
  · subst h0
    refine Ev.same fun k => ?_
    unfold rational_natural_String.f
    rw [digs_zero, tx_zero]; rfl
  · have hne : (digs 1000000000 n).length ≠ 0 := fun e => h0 ((digs_nil (B := 1000000000) (by decide) n).mp (List.length_eq_zero_iff.mp e))
    have := str_l0 (by omega) hM _ 0 [] (Nat.zero_add _) rfl (fun c hc => by cases hc) (by simp [numOf_nil, vI])
    refine Ev.congr (fun k => ?_) this
    unfold rational_natural_String.f
    rw [if_neg (by omega), w64_eq (by omega) (by omega), if_pos (by omega), if_pos (by omega), show (9 * ((digs 1000000000 n).length : Int)).toNat = 9 * (digs 1000000000 n).length - 9 * 0 by omega, List.append_nil]; rfl
end Go.Proofs.YtplpmndchdockaaDoor.M
