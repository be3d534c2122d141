import Derived.Test.YtplpmndchdockaaDoorConP
/-! The value of a fraction's texts. -/
namespace Go.Proofs.YtplpmndchdockaaDoor.M
open Go Go.RowKit Go.Proofs.YtplpmndchdockaaDoorV.PrintWords
set_option autoImplicit false
set_option linter.unusedVariables false
set_option linter.unusedSimpArgs false

/-- The form of a fraction's texts. -/
def fmB (N D : ByteArray) : Bool := dgB (cs (aft N)) && dgB (cs D) && !(mB N && decide (cs (aft N) = [48])) && !decide (cs D = [48])
/-- The value of a fraction's texts, where they are valid. -/
def rdQ (N D : ByteArray) : Option Rat := if fmB N D = true ∧ Nat.gcd (numOf (cs D)).toNat (numOf (cs (aft N))).toNat = 1 then some (fr (mB N) (numOf (cs (aft N))).toNat (numOf (cs D)).toNat) else none
theorem IsDec.zero {l : List Int} (h : IsDec l) : (numOf l).toNat = 0 ↔ l = [48] := by
  have h1 := h.eq
  constructor
  · intro h0; rw [h0, tx_zero] at h1; exact h1
  · intro h0; rw [h0]; rfl
theorem Sm.num {s : ByteArray} (h : dgB (cs s) = true) : Sm (numOf (cs s)).toNat := by
  obtain ⟨h1, h2⟩ := (dgB_iff _).mp h
  have h3 := numOf_lt (l := cs s) h1.dig
  have h4 := numOf_nonneg (l := cs s) h1.dig
  have h5 := pow_mono (B := 10) (by omega) (show (cs s).length ≤ XL by unfold XL; omega)
  constructor
  have e : (((10 ^ XL : Nat)) : Int) = (10 : Int) ^ XL := by rw [Int.natCast_pow]; rfl
  omega
theorem form_den {N D : ByteArray} (h : fmB N D = true) : dgB (cs (aft N)) = true ∧ dgB (cs D) = true ∧ (numOf (cs D)).toNat ≠ 0 := by
  unfold fmB at h
  simp only [Bool.and_eq_true, Bool.not_eq_true', decide_eq_false_iff_not] at h
  obtain ⟨⟨⟨h1, h2⟩, _⟩, h3⟩ := h
  exact ⟨h1, h2, fun h0 => h3 ((((dgB_iff _).mp h2).1.zero).mp h0)⟩
theorem one_byte (s : ByteArray) (b : UInt8) : s.toList = [b] ↔ cs s = [(b.toNat : Int)] := toList_eq_iff s [b]
theorem form_zero {N D : ByteArray} (h : fmB N D = true) : (mB N = true → ¬ (aft N).toList = [48]) ∧ (D.toList == [48]) = false := by
  unfold fmB at h
  simp only [Bool.and_eq_true, Bool.not_eq_true', decide_eq_false_iff_not, Bool.and_eq_false_iff] at h
  obtain ⟨⟨⟨h1, h2⟩, h4⟩, h3⟩ := h
  refine ⟨fun hm hc => ?_, by rw [beq_eq_false_iff_ne]; exact fun hc => h3 ((one_byte D 48).mp hc)⟩
  rcases h4 with h4 | h4
  · rw [hm] at h4; cases h4
  · exact h4 ((one_byte _ 48).mp hc)

theorem form_iff {N D : ByteArray} : fmB N D = true ↔ dgB (cs (aft N)) = true ∧ dgB (cs D) = true ∧ ¬ (mB N = true ∧ (aft N).toList = [48]) ∧ ¬ D.toList = [48] := by
  unfold fmB
  rw [one_byte, one_byte]
  simp only [Bool.and_eq_true, Bool.not_eq_true', decide_eq_false_iff_not, Bool.and_eq_false_iff, decide_eq_true_eq]
  constructor
  · rintro ⟨⟨⟨h1, h2⟩, h3⟩, h4⟩
    refine ⟨h1, h2, fun hc => ?_, h4⟩
    rcases h3 with h3 | h3
    · rw [hc.1] at h3; cases h3
    · exact h3 hc.2
  · rintro ⟨h1, h2, h3, h4⟩
    refine ⟨⟨⟨h1, h2⟩, ?_⟩, h4⟩
    cases hm : mB N with
    | false => exact .inl rfl
    | true => exact .inr (fun hc => h3 ⟨hm, hc⟩)
theorem rdQ_no {N D : ByteArray} (h : ¬ fmB N D = true) : rdQ N D = none := by unfold rdQ; rw [if_neg (fun hc => h hc.1)]
/-- A call that reads a fraction: what it hands back, where it is valid. -/
def RetR (B : Nat) (o : Option Rat) (w : World) (e : Ending) (w' : World) : Prop := ∃ b A L c A' L' c', e = .returned (.tuple #[.agg #[.bool b, .slice A L c, .slice A' L' c'], .bool o.isSome]) ∧ Below w.heap.size w w' ∧
  (∀ q, o = some q → b = decide (q.num < 0) ∧ Nf B w.heap.size w' (.slice A L c) q.num.natAbs ∧ Nf B w.heap.size w' (.slice A' L' c') q.den)
theorem RetR.no {B : Nat} {o : Option Rat} {w w' : World} {e : Ending} {b : Bool} {A A' : Option Addr} {L c L' c' : Nat} (ho : o = none) (he : e = .returned (.tuple #[.agg #[.bool b, .slice A L c, .slice A' L' c'], .bool false])) (hb : Below w.heap.size w w') : RetR B o w e w' := by
  subst ho
  exact ⟨b, A, L, c, A', L', c', he, hb, fun q hq => by cases hq⟩
theorem RetR.yes {B : Nat} {o : Option Rat} {q : Rat} {w w' : World} {e : Ending} {b : Bool} {A A' : Option Addr} {L c L' c' : Nat} (ho : o = some q) (he : e = .returned (.tuple #[.agg #[.bool b, .slice A L c, .slice A' L' c'], .bool true])) (hb : Below w.heap.size w w')
    (h0 : b = decide (q.num < 0)) (h1 : Nf B w.heap.size w' (.slice A L c) q.num.natAbs) (h2 : Nf B w.heap.size w' (.slice A' L' c') q.den) : RetR B o w e w' := by
  subst ho
  exact ⟨b, A, L, c, A', L', c', he, hb, fun p hp => by cases hp; exact ⟨h0, h1, h2⟩⟩
theorem afterR {P : Program} {f : FuncId} {args : Array Value} {W : World} {B : Nat} {o : Option Rat} {Q : Ending → World → Prop} (h : Calls P f args W (RetR B o W))
    (k : ∀ b A L c A' L' c' w1, Aside0 (∀ q, o = some q → b = decide (q.num < 0) ∧ Nf B W.heap.size w1 (.slice A L c) q.num.natAbs ∧ Nf B W.heap.size w1 (.slice A' L' c') q.den) → Below W.heap.size W w1 → W.heap.size ≤ w1.heap.size → (∀ b o, b < W.heap.size → w1.cell? ⟨b, o, none⟩ = W.cell? ⟨b, o, none⟩) → (∀ b o, b < W.heap.size → w1.frozen? ⟨b, o, none⟩ = W.frozen? ⟨b, o, none⟩) → Q (.returned (.tuple #[.agg #[.bool b, .slice A L c, .slice A' L' c'], .bool o.isSome])) w1) : Calls P f args W Q :=
  h.mono fun e w1 ⟨b, A, L, c, A', L', c', he, hb, hN⟩ => by subst he; exact k b A L c A' L' c' w1 ⟨hN⟩ hb hb.size (bcell hb).1 (bcell hb).2
/-- A form whose parts have no common divisor: its value and its parts. -/
theorem rdQ_parts {N D : ByteArray} {q : Rat} (h : rdQ N D = some q) : fmB N D = true ∧ Nat.gcd (numOf (cs D)).toNat (numOf (cs (aft N))).toNat = 1 ∧ q.num.natAbs = (numOf (cs (aft N))).toNat ∧ q.den = (numOf (cs D)).toNat ∧ decide (q.num < 0) = mB N := by
  unfold rdQ at h
  split at h
  · rename_i hc
    injection h with h
    subst h
    obtain ⟨hd1, hd2, hd0⟩ := form_den hc.1
    obtain ⟨hz1, hz2⟩ := form_zero hc.1
    obtain ⟨e1, e2⟩ := fr_coprime (b := mB N) hd0 hc.2
    refine ⟨hc.1, hc.2, by rw [e1, sg_abs], e2, ?_⟩
    rw [e1]
    generalize hx : (numOf (cs (aft N))).toNat = x at *
    cases hm : mB N with
    | false => rw [decide_eq_false_iff_not]; unfold sg; simp
    | true =>
      have h0 : x ≠ 0 := fun h0 => hz1 hm ((one_byte _ 48).mpr ((((dgB_iff _).mp hd1).1.zero).mp (hx.trans h0)))
      rw [decide_eq_true_iff]; unfold sg; rw [if_pos rfl]; omega
  · cases h
end Go.Proofs.YtplpmndchdockaaDoor.M
