import Derived.Test.YtplpmndchdockaaDoorPnB
import Derived.Test.YtplpmndchdockaaDoorLb
import Derived.Test.YtplpmndchdockaaDoorKnuth
/-! The program's naturals: the long division. -/
namespace Go.Proofs.YtplpmndchdockaaDoor.M
open Go Go.RowKit Go.Proofs.YtplpmndchdockaaDoor.Pr Go.Proofs.YtplpmndchdockaaDoorV.PrintWords
set_option autoImplicit false
set_option linter.unusedVariables false

theorem set_mid (o r : List Int) (x y : Int) : (o ++ x :: r).set o.length y = (o ++ [y]) ++ r := by
  rw [List.set_append_right _ _ (Nat.le_refl _), Nat.sub_self, List.set_cons_zero]; simp
theorem vI_drop_nil {B : Int} {v : List Int} {i : Nat} (h : v.length ≤ i) : vI B (v.drop i) = 0 := by rw [List.drop_of_length_le h]; rfl
theorem red_alg {p x y q w c bw c2 b2 R V : Int} (e : y = x - q * w - c - bw + 1000000000 * (c2 + b2)) :
    p * y + p * 1000000000 * (R - q * V - c2 - b2) = p * (x + 1000000000 * R - q * (w + 1000000000 * V) - c - bw) := by subst e; grind
theorem mulbd' {q w : Int} (hw : 0 ≤ w ∧ w < 1000000000) (q0 : 0 ≤ q) (q1 : q < 1000000000) : 0 ≤ q * w ∧ q * w ≤ 999999999 * 999999999 :=
  ⟨Int.mul_nonneg q0 hw.1, Int.mul_le_mul (by omega) (by omega) hw.1 (by omega)⟩
theorem red_l0 {v : List Int} (dv : Dg 1000000000 v) (hv : v.length ≤ LM) {q : Int} (q0 : 0 ≤ q) (q1 : q < 1000000000) (r : List Int) :
    ∀ (o : List Int) (c bw : Int) (N : Nat), N = o.length + r.length → N ≤ 4 * LM → Dg 1000000000 o → Dg 1000000000 r → 0 ≤ c → c < 1000000000 → 0 ≤ bw → bw ≤ 1 → (v.length < o.length → c = 0) → v.length < N →
      ∃ (b : Bool) (o' : List Int), Ev (fun k => rational_reduce.l0 k (o ++ r) v q c bw (N : Int) (o.length : Int)) (b, o') ∧ o'.length = N ∧ Dg 1000000000 o' ∧
        vI 1000000000 o' = vI 1000000000 o + 1000000000 ^ o.length * (vI 1000000000 r - q * vI 1000000000 (v.drop o.length) - c - bw) + (if b = true then 0 else 1000000000 ^ N) := by
  unfold LM at hv ⊢
  induction r with
  | nil =>
    intro o c bw N hN hM ho _ c0 c1 b0 b1 hc hvN
    simp only [List.length_nil, Nat.add_zero] at hN
    subst hN
    obtain rfl := hc hvN
    refine ⟨bw == 0, o, Ev.ans fun k => by simp only [rational_reduce.l0]; rw [if_neg (by omega), List.append_nil], rfl, ho, ?_⟩
    rw [vI_drop_nil (by omega)]
    by_cases h : bw = 0
    · subst h; simp [vI]
    · obtain rfl : bw = 1 := by omega
      simp [vI]; omega
  | cons x r ih =>
    intro o c bw N hN hM ho hr c0 c1 b0 b1 hc hvN
    simp only [List.length_cons] at hN
    have hx := hr.head
    have hlt : (o.length : Int) < (N : Int) := by omega
    have hrd : rd (o ++ x :: r) (o.length : Int) = x := by rw [rd_nat, getD_at]
    have hll : (o.length : Int) < ((o ++ x :: r).length : Int) := by simp only [List.length_append, List.length_cons]; omega
    have key : ∀ (w V p : Int), 0 ≤ p → p ≤ 1000000000 * 999999999 → p = c + q * w → vI 1000000000 (v.drop o.length) = w + 1000000000 * V → V = vI 1000000000 (v.drop (o.length + 1)) → (v.length ≤ o.length → p < 1000000000) →
        ∃ (b : Bool) (o' : List Int), Ev (fun k => if x - p % 1000000000 - bw < 0 then rational_reduce.l0 k ((o ++ [x - p % 1000000000 - bw + 1000000000]) ++ r) v q (p / 1000000000) 1 (N : Int) ((o.length + 1 : Nat) : Int) else rational_reduce.l0 k ((o ++ [x - p % 1000000000 - bw]) ++ r) v q (p / 1000000000) 0 (N : Int) ((o.length + 1 : Nat) : Int)) (b, o') ∧ o'.length = N ∧ Dg 1000000000 o' ∧
        vI 1000000000 o' = vI 1000000000 o + 1000000000 ^ o.length * (vI 1000000000 (x :: r) - q * vI 1000000000 (v.drop o.length) - c - bw) + (if b = true then 0 else 1000000000 ^ N) := by
      intro w V p p0 p1 hp hV hV2 hpl
      have hl1 : ∀ y : Int, (o ++ [y]).length = o.length + 1 := fun y => by simp
      by_cases h0 : x - p % 1000000000 - bw < 0
      · simp only [if_pos h0]
        obtain ⟨b, o', hE, h1, h2, h3⟩ := ih (o ++ [x - p % 1000000000 - bw + 1000000000]) (p / 1000000000) 1 N (by rw [hl1]; omega) hM (ho.push (by omega)) hr.tail (by omega) (by omega) (by omega) (by omega) (fun h => by rw [hl1] at h; have := hpl (by omega); omega) hvN
        rw [hl1] at hE h3
        refine ⟨b, o', hE, h1, h2, ?_⟩
        rw [h3, vI_append, vI_one, ← hV2, hV, vI_cons, Int.pow_succ, Int.add_assoc (vI 1000000000 o), red_alg (x := x) (w := w) (c := c) (bw := bw) (by omega)]
      · simp only [if_neg h0]
        obtain ⟨b, o', hE, h1, h2, h3⟩ := ih (o ++ [x - p % 1000000000 - bw]) (p / 1000000000) 0 N (by rw [hl1]; omega) hM (ho.push (by omega)) hr.tail (by omega) (by omega) (by omega) (by omega) (fun h => by rw [hl1] at h; have := hpl (by omega); omega) hvN
        rw [hl1] at hE h3
        refine ⟨b, o', hE, h1, h2, ?_⟩
        rw [h3, vI_append, vI_one, ← hV2, hV, vI_cons, Int.pow_succ, Int.add_assoc (vI 1000000000 o), red_alg (x := x) (w := w) (c := c) (bw := bw) (by omega)]
    by_cases hi : o.length < v.length
    · have hw := dv.get (by omega) o.length
      have hqw := mulbd' hw q0 q1
      obtain ⟨b, o', hE, h⟩ := key (v.getD o.length 0) _ (c + q * v.getD o.length 0) (by omega) (by omega) rfl (vI_drop_succ 1000000000 v o.length hi) rfl (fun h => by omega)
      refine ⟨b, o', Ev.step (fun k => ?_) hE, h⟩
      simp only [rational_reduce.l0]
      rw [if_pos hlt, if_pos (by omega), if_pos (by omega), if_pos hll, hrd, rd_nat, Int.toNat_natCast, set_mid, set_mid]
      generalize v.getD o.length 0 = w at *
      rw [u64_eq (n := w) (by omega) (by omega)]
      generalize q * w = z at *
      rw [u64_eq (n := z) (by omega) (by omega), u64_eq (n := c + z) (by omega) (by omega), Int.tmod_eq_emod_of_nonneg (by omega), Int.tdiv_eq_ediv_of_nonneg (by omega), w64_eq (n := x) (by omega) (by omega), w64_eq (n := (c + z) % 1000000000) (by omega) (by omega), w64_eq (n := x - (c + z) % 1000000000) (by omega) (by omega), w64_eq (n := x - (c + z) % 1000000000 - bw) (by omega) (by omega), u64_eq (n := (c + z) / 1000000000) (by omega) (by omega), w64_eq (n := (o.length : Int) + 1) (by omega) (by omega)]
      by_cases h0 : x - (c + z) % 1000000000 - bw < 0
      · rw [if_pos h0, if_pos h0, w64_eq (by omega) (by omega), Int.emod_eq_of_lt (b := 4294967296) (by omega) (by omega)]; rfl
      · rw [if_neg h0, if_neg h0, Int.emod_eq_of_lt (b := 4294967296) (by omega) (by omega)]; rfl
    · obtain ⟨b, o', hE, h⟩ := key 0 0 c c0 (by omega) (by omega) (by rw [vI_drop_nil (by omega)]; rfl) (by rw [vI_drop_nil (by omega)]) (fun h => c1)
      refine ⟨b, o', Ev.step (fun k => ?_) hE, h⟩
      simp only [rational_reduce.l0]
      rw [if_pos hlt, if_neg (by omega), if_pos (by omega), if_pos hll, hrd, Int.toNat_natCast, set_mid, set_mid]
      rw [Int.tmod_eq_emod_of_nonneg (by omega), Int.tdiv_eq_ediv_of_nonneg (by omega), w64_eq (n := x) (by omega) (by omega), w64_eq (n := c % 1000000000) (by omega) (by omega), w64_eq (n := x - c % 1000000000) (by omega) (by omega), w64_eq (n := x - c % 1000000000 - bw) (by omega) (by omega), u64_eq (n := c / 1000000000) (by omega) (by omega), w64_eq (n := (o.length : Int) + 1) (by omega) (by omega)]
      by_cases h0 : x - c % 1000000000 - bw < 0
      · rw [if_pos h0, if_pos h0, w64_eq (by omega) (by omega), Int.emod_eq_of_lt (b := 4294967296) (by omega) (by omega)]; rfl
      · rw [if_neg h0, if_neg h0, Int.emod_eq_of_lt (b := 4294967296) (by omega) (by omega)]; rfl
theorem reduceP {a v : List Int} (da : Dg 1000000000 a) (dv : Dg 1000000000 v) (ha : a.length ≤ 4 * LM) (hv : v.length ≤ LM) (hl : v.length < a.length) {q : Int} (q0 : 0 ≤ q) (q1 : q < 1000000000) :
    ∃ (b : Bool) (o : List Int), Ev (fun k => rational_reduce.f k a v q) (b, o) ∧ o.length = a.length ∧ Dg 1000000000 o ∧ vI 1000000000 o = vI 1000000000 a - q * vI 1000000000 v + (if b = true then 0 else 1000000000 ^ a.length) := by
  obtain ⟨b, o, hE, h1, h2, h3⟩ := red_l0 dv hv q0 q1 a [] 0 0 a.length (by simp) ha Dg.nil da (by omega) (by omega) (by omega) (by omega) (fun h => by simp at h) hl
  exact ⟨b, o, hE, h1, h2, by rw [h3]; simp [vI]⟩

theorem rest_l0 {v : List Int} (dv : Dg 1000000000 v) (hv : v.length ≤ LM) (r : List Int) :
    ∀ (o : List Int) (c : Int) (N : Nat), N = o.length + r.length → N ≤ 4 * LM → Dg 1000000000 o → Dg 1000000000 r → 0 ≤ c → c ≤ 1 → v.length ≤ N →
      ∃ (o' : List Int) (cf : Int), Ev (fun k => rational_restore.l0 k (o ++ r) v c (N : Int) (o.length : Int)) o' ∧ o'.length = N ∧ Dg 1000000000 o' ∧ 0 ≤ cf ∧ cf ≤ 1 ∧
        vI 1000000000 o' + 1000000000 ^ N * cf = vI 1000000000 o + 1000000000 ^ o.length * (vI 1000000000 r + vI 1000000000 (v.drop o.length) + c) := by
  unfold LM at hv ⊢
  induction r with
  | nil =>
    intro o c N hN hM ho _ c0 c1 hvN
    simp only [List.length_nil, Nat.add_zero] at hN
    subst hN
    refine ⟨o, c, Ev.ans fun k => by simp only [rational_restore.l0]; rw [if_neg (by omega), List.append_nil], rfl, ho, c0, c1, ?_⟩
    rw [vI_drop_nil (by omega)]; simp [vI]
  | cons x r ih =>
    intro o c N hN hM ho hr c0 c1 hvN
    simp only [List.length_cons] at hN
    have hx := hr.head
    have hlt : (o.length : Int) < (N : Int) := by omega
    have hrd : rd (o ++ x :: r) (o.length : Int) = x := by rw [rd_nat, getD_at]
    have hll : (o.length : Int) < ((o ++ x :: r).length : Int) := by simp only [List.length_append, List.length_cons]; omega
    have key : ∀ (w : Int), 0 ≤ w → w < 1000000000 → vI 1000000000 (v.drop o.length) = w + 1000000000 * vI 1000000000 (v.drop (o.length + 1)) →
        ∃ (o' : List Int) (cf : Int), Ev (fun k => rational_restore.l0 k ((o ++ [(x + c + w) % 1000000000]) ++ r) v ((x + c + w) / 1000000000) (N : Int) ((o.length + 1 : Nat) : Int)) o' ∧ o'.length = N ∧ Dg 1000000000 o' ∧ 0 ≤ cf ∧ cf ≤ 1 ∧
        vI 1000000000 o' + 1000000000 ^ N * cf = vI 1000000000 o + 1000000000 ^ o.length * (vI 1000000000 (x :: r) + vI 1000000000 (v.drop o.length) + c) := by
      intro w w0 w1 hV
      have hl1 : ∀ y : Int, (o ++ [y]).length = o.length + 1 := fun y => by simp
      obtain ⟨o', cf, hE, h1, h2, h3, h4, h5⟩ := ih (o ++ [(x + c + w) % 1000000000]) ((x + c + w) / 1000000000) N (by rw [hl1]; omega) hM (ho.push (by omega)) hr.tail (by omega) (by omega) hvN
      rw [hl1] at hE h5
      refine ⟨o', cf, hE, h1, h2, h3, h4, ?_⟩
      rw [h5, vI_append, vI_one, hV, vI_cons, Int.pow_succ]
      have e : (x + c + w) % 1000000000 + 1000000000 * ((x + c + w) / 1000000000) = x + c + w := by omega
      generalize (x + c + w) % 1000000000 = g at *
      obtain rfl : g = x + c + w - 1000000000 * ((x + c + w) / 1000000000) := by omega
      grind
    by_cases hi : o.length < v.length
    · have hw := dv.get (by omega) o.length
      obtain ⟨o', cf, hE, h⟩ := key (v.getD o.length 0) hw.1 hw.2 (vI_drop_succ 1000000000 v o.length hi)
      refine ⟨o', cf, Ev.step (fun k => ?_) hE, h⟩
      simp only [rational_restore.l0]
      rw [if_pos hlt, if_pos (by omega), if_pos hll, if_pos (by omega), hrd, rd_nat, Int.toNat_natCast, set_mid, w64_eq (by omega) (by omega)]
      have e : ((x + c) % 4294967296 + v.getD o.length 0) % 4294967296 = x + c + v.getD o.length 0 := by omega
      rw [e]; rfl
    · obtain ⟨o', cf, hE, h⟩ := key 0 (by omega) (by omega) (by rw [vI_drop_nil (by omega), vI_drop_nil (by omega)]; rfl)
      refine ⟨o', cf, Ev.step (fun k => ?_) hE, h⟩
      simp only [rational_restore.l0]
      rw [if_pos hlt, if_pos (by omega), if_pos hll, if_neg (by omega), hrd, Int.toNat_natCast, set_mid, w64_eq (by omega) (by omega)]
      have e : (x + c) % 4294967296 = x + c + 0 := by omega
      rw [e]; rfl
theorem restoreP {a v : List Int} (da : Dg 1000000000 a) (dv : Dg 1000000000 v) (ha : a.length ≤ 4 * LM) (hv : v.length ≤ LM) (hl : v.length ≤ a.length) :
    ∃ (o : List Int) (cf : Int), Ev (fun k => rational_restore.f k a v) o ∧ o.length = a.length ∧ Dg 1000000000 o ∧ 0 ≤ cf ∧ cf ≤ 1 ∧ vI 1000000000 o + 1000000000 ^ a.length * cf = vI 1000000000 a + vI 1000000000 v := by
  obtain ⟨o, cf, hE, h1, h2, h3, h4, h5⟩ := rest_l0 dv hv a [] 0 a.length (by simp) ha Dg.nil da (by omega) (by omega) hl
  exact ⟨o, cf, hE, h1, h2, h3, h4, by rw [h5]; simp [vI]⟩
end Go.Proofs.YtplpmndchdockaaDoor.M
