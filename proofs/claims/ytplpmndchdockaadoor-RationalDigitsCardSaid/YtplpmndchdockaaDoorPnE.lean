import Derived.Test.YtplpmndchdockaaDoorPnB
import Derived.Test.YtplpmndchdockaaDoorNv
/-! Texts: what digits, CutPrefix, TrimLeft, parse and String reckon. -/
namespace Go.Proofs.YtplpmndchdockaaDoor.M
open Go Go.RowKit Go.Proofs.YtplpmndchdockaaDoor.Pr Go.Proofs.YtplpmndchdockaaDoorV.PrintWords
set_option autoImplicit false
set_option linter.unusedVariables false

theorem strOfNums_bs (l : List Int) : strOfNums l = bs l := rfl
theorem bt_cs (s : ByteArray) (i : Nat) : bt s (i : Int) = (cs s).getD i 0 := by
  unfold bt cs
  rw [List.getD_eq_getElem?_getD, List.getElem?_map]
  by_cases h : i < s.size
  · rw [dif_pos (by simpa using h), List.getElem?_eq_getElem (by simpa using h)]
    simp only [Option.map_some, Option.getD_some, Int.toNat_natCast]
    rfl
  · rw [dif_neg (by simpa using h), List.getElem?_eq_none (by simpa using h)]; rfl
theorem toList_nil_iff (s : ByteArray) : s.toList = [] ↔ s.size = 0 := by
  rw [Go.ByteArray.toList_eq]
  constructor
  · intro h
    have h1 : s.data.toList.length = 0 := by rw [h]; rfl
    rw [Array.length_toList] at h1; exact h1
  · intro h
    exact List.length_eq_zero_iff.mp (by rw [Array.length_toList]; exact h)
theorem cs_extract (s : ByteArray) (a b : Nat) : cs (s.extract a b) = ((cs s).drop a).take (b - a) := by
  unfold cs
  have : (s.extract a b).data.toList = (s.data.toList.drop a).take (b - a) := by simp
  rw [this, List.map_take, List.map_drop]
theorem cs_extract_end (s : ByteArray) (a : Nat) : cs (s.extract a s.size) = (cs s).drop a := by
  rw [cs_extract, List.take_of_length_le (by rw [List.length_drop, cs_length]; omega)]
theorem toList_eq_iff (s : ByteArray) (l : List UInt8) : s.toList = l ↔ cs s = l.map fun b => (b.toNat : Int) := by
  rw [Go.ByteArray.toList_eq]
  constructor
  · intro h; unfold cs; rw [h]
  · intro h
    have h2 := congrArg bs h
    rw [bs_cs] at h2
    rw [h2]
    unfold bs
    simp only [List.map_map]
    have : (fun x : Int => UInt8.ofNat x.toNat) ∘ (fun b : UInt8 => ((b.toNat : Nat) : Int)) = id := by funext b; simp only [Function.comp, Int.toNat_natCast, id, UInt8.ofNat_toNat]
    rw [this, List.map_id]

/-- The form of a number in decimal that a Rational may contain. -/
def dgB (l : List Int) : Bool := decide (1 ≤ l.length ∧ l.length ≤ 400 ∧ (l.head? = some 48 → l.length = 1)) && l.all (fun c => decide (48 ≤ c ∧ c ≤ 57))
theorem dgB_iff (l : List Int) : dgB l = true ↔ IsDec l ∧ l.length ≤ 400 := by
  unfold dgB
  rw [Bool.and_eq_true, decide_eq_true_iff, List.all_eq_true]
  constructor
  · rintro ⟨⟨h1, h2, h3⟩, h4⟩
    exact ⟨⟨fun e => by rw [e] at h1; simp at h1, fun c hc => of_decide_eq_true (h4 c hc), h3⟩, h2⟩
  · rintro ⟨⟨h1, h2, h3⟩, h4⟩
    refine ⟨⟨?_, h4, h3⟩, fun c hc => decide_eq_true (h2 c hc)⟩
    cases l with
    | nil => exact absurd rfl h1
    | cons => simp
theorem dig_l0 (s : ByteArray) (hs : s.size ≤ 400) (m : Nat) : ∀ i : Nat, i + m = s.size → Ev (fun k => rational_digits.l0 k s (s.size : Int) (i : Int)) (((cs s).drop i).all (fun c => decide (48 ≤ c ∧ c ≤ 57))) := by
  induction m with
  | zero =>
    intro i hi
    rw [List.drop_of_length_le (by rw [cs_length]; omega)]
    exact Ev.ans fun k => by simp only [rational_digits.l0]; rw [if_neg (by omega)]; rfl
  | succ m ih =>
    intro i hi
    rw [drop_cons' _ _ (by rw [cs_length]; omega), List.all_cons]
    refine Ev.step (f := fun k => if (cs s).getD i 0 < 48 then some false else if (cs s).getD i 0 > 57 then some false else rational_digits.l0 k s (s.size : Int) ((i + 1 : Nat) : Int)) (fun k => ?_) ?_
    · simp only [rational_digits.l0]
      rw [if_pos (by omega), if_pos (by omega), if_pos (by omega), bt_cs, w64_eq (by omega) (by omega)]; rfl
    · by_cases h1 : (cs s).getD i 0 < 48
      · simp only [if_pos h1]; rw [decide_eq_false (by omega), Bool.false_and]; exact Ev.now _
      · by_cases h2 : (cs s).getD i 0 > 57
        · simp only [if_neg h1, if_pos h2]; rw [decide_eq_false (by omega), Bool.false_and]; exact Ev.now _
        · simp only [if_neg h1, if_neg h2]; rw [decide_eq_true (by omega), Bool.true_and]; exact ih _ (by omega)
theorem head_getD {l : List Int} (h : 1 ≤ l.length) (x : Int) : l.head? = some x ↔ l.getD 0 0 = x := by
  cases l with
  | nil => simp at h
  | cons y l => simp
theorem digitsP (s : ByteArray) : Ev (fun k => rational_digits.f k s) (dgB (cs s)) := by
  have hl := cs_length s
  have j1 : Ev (fun k => rational_digits.j0 k s true) false := Ev.ans fun k => by simp [rational_digits.j0]
  unfold dgB
  by_cases h1 : s.size < 1
  · rw [decide_eq_false (by omega), Bool.false_and]
    exact Ev.congr (fun k => by unfold rational_digits.f; rw [if_pos (by omega)]) j1
  · by_cases h2 : s.size > 400
    · rw [decide_eq_false (by omega), Bool.false_and]
      exact Ev.congr (fun k => by unfold rational_digits.f; rw [if_neg (by omega), if_pos (by omega)]) j1
    · have hb : bt s 0 = (cs s).getD 0 0 := bt_cs s 0
      have hh := head_getD (l := cs s) (by omega) 48
      have h0 := dig_l0 s (by omega) s.size 0 (by omega)
      rw [List.drop_zero] at h0
      have j2 : Ev (fun k => rational_digits.j0 k s false) ((cs s).all (fun c => decide (48 ≤ c ∧ c ≤ 57))) := Ev.step (fun k => by simp only [rational_digits.j0]; rw [if_neg (by simp)]; rfl) h0
      by_cases h3 : (cs s).getD 0 0 = 48
      · by_cases h4 : s.size > 1
        · rw [decide_eq_false (by rw [hh, hl]; omega), Bool.false_and]
          refine Ev.congr (fun k => ?_) j1
          unfold rational_digits.f
          rw [if_neg (by omega), if_neg (by omega), if_pos (by omega), hb, if_pos h3, decide_eq_true (by omega)]
        · rw [decide_eq_true (by rw [hh, hl]; omega), Bool.true_and]
          refine Ev.congr (fun k => ?_) j2
          unfold rational_digits.f
          rw [if_neg (by omega), if_neg (by omega), if_pos (by omega), hb, if_pos h3, decide_eq_false (by omega)]
      · rw [decide_eq_true (by rw [hh, hl]; omega), Bool.true_and]
        refine Ev.congr (fun k => ?_) j2
        unfold rational_digits.f
        rw [if_neg (by omega), if_neg (by omega), if_pos (by omega), hb, if_neg h3]

/-- Is there a sign in front? -/
def mB (s : ByteArray) : Bool := decide ((cs s).head? = some 45)
/-- What stands behind the sign. -/
def aft (s : ByteArray) : ByteArray := if mB s = true then s.extract 1 s.size else s
theorem cs_aft (s : ByteArray) : cs (aft s) = if mB s = true then (cs s).drop 1 else cs s := by
  unfold aft; split
  · exact cs_extract_end s 1
  · rfl
theorem cutP (s : ByteArray) (hs : s.size ≤ 9000000000000000000) : strings_CutPrefix.f s ⟨#[45]⟩ = some (aft s, mB s) := by
  have e1 : ((⟨#[45]⟩ : ByteArray).size : Int) = 1 := rfl
  have e2 : (⟨#[45]⟩ : ByteArray).toList = [45] := by rw [Go.ByteArray.toList_eq]
  have hl := cs_length s
  unfold strings_CutPrefix.f stringslite_CutPrefix.f stringslite_HasPrefix.f
  rw [e1, e2]
  have hm : mB s = true ↔ (cs s).head? = some 45 := by unfold mB; rw [decide_eq_true_iff]
  by_cases h : (s.size : Int) ≥ 1
  · rw [if_pos h, if_pos (by omega), if_pos h]
    have hb : ((s.extract 0 ((1 : Int).toNat)).toList == [45]) = mB s := by
      rw [Bool.eq_iff_iff, hm, beq_iff_eq, toList_eq_iff, cs_extract]
      cases e : cs s with
      | nil => rw [e] at hl; simp at hl; omega
      | cons y l => simp
    rw [hb]
    unfold aft
    cases hmb : mB s with
    | true => simp only [Option.bind_some, if_true]; rw [if_pos (by omega), if_pos h]; rfl
    | false => simp
  · rw [if_neg h]
    have : mB s = false := by
      rw [Bool.eq_false_iff]; intro hc; rw [hm] at hc
      cases e : cs s with
      | nil => rw [e] at hc; simp at hc
      | cons y l => rw [e] at hl; simp at hl; omega
    unfold aft; rw [this]; simp
end Go.Proofs.YtplpmndchdockaaDoor.M
