import Derived.Test.YtplpmndchdockaaDoorPnC
/-! The program's naturals: divNat and gcd. -/
namespace Go.Proofs.YtplpmndchdockaaDoor.M
open Go Go.RowKit Go.Proofs.YtplpmndchdockaaDoor.Pr Go.Proofs.YtplpmndchdockaaDoorV.PrintWords
set_option autoImplicit false
set_option linter.unusedVariables false

namespace Kn
variable {B v1 v2 vl P v top u2 ul R : Int}
theorem start (k : Kn B v1 v2 vl P v top u2 ul R) : R / v ≤ top / v1 := by
  have hB := k.hB
  have hv1 := k.hv1
  have hBP : 0 < B * P := Int.mul_pos (by omega) k.hP
  have hV : v1 * (B * P) ≤ v := by
    have e : (v1 * B + v2) * P = v1 * (B * P) + v2 * P := by grind
    have h1 : 0 ≤ v2 * P := Int.mul_nonneg k.h2 (Int.le_of_lt k.hP)
    have := k.ev; have := k.hl; omega
  have hR : R < (top + 1) * (B * P) := by
    have e : (top * B + u2) * P = top * (B * P) + u2 * P := by grind
    have e2 : (top + 1) * (B * P) = top * (B * P) + B * P := by grind
    have h3 : (u2 + 1) * P ≤ B * P := mul_le (Int.le_of_lt k.hP) (by have := k.huB; omega)
    have e3 : (u2 + 1) * P = u2 * P + P := by grind
    have := k.eR; have := k.hulP; omega
  have hq0 : 0 ≤ R / v := Int.ediv_nonneg k.Rnn (Int.le_of_lt k.vpos')
  have h1 : R / v * v ≤ R := Int.ediv_mul_le R (Int.ne_of_gt k.vpos')
  have h2 : R / v * (v1 * (B * P)) ≤ R / v * v := Int.mul_le_mul_of_nonneg_left hV hq0
  have h3 : (R / v * v1) * (B * P) < (top + 1) * (B * P) := by
    have : (R / v * v1) * (B * P) = R / v * (v1 * (B * P)) := Int.mul_assoc _ _ _
    omega
  have h4 : R / v * v1 < top + 1 := Int.lt_of_mul_lt_mul_right h3 (Int.le_of_lt hBP)
  exact (Int.le_ediv_iff_mul_le (by omega)).mpr (by omega)
theorem start_lt (k : Kn B v1 v2 vl P v top u2 ul R) : top / v1 < 2 * B := by
  have hB := k.hB
  have hv1 := k.hv1
  refine Int.ediv_lt_of_lt_mul (by omega) ?_
  have h1 := k.top_lt
  have h2 : (v1 + 1) * B ≤ (2 * v1) * B := mul_le (by omega) (by omega)
  have e : (2 * v1) * B = v1 * (2 * B) := by grind
  have e2 : (2 * B) * v1 = v1 * (2 * B) := Int.mul_comm _ _
  omega
end Kn

theorem kn_l1 {v rest : List Int} {out : List Int} {x6 : List Int} {j n : Nat} {vl P V top ul R : Int} {res : List Int × List Int} (dv : Dg 1000000000 v) (dr : Dg 1000000000 rest)
    (hn : 2 ≤ n) (hv : v.length = n) (hr : j + n < rest.length) (hM : rest.length ≤ 4 * LM)
    (kn : Kn 1000000000 (v.getD (n - 1) 0) (v.getD (n - 2) 0) vl P V top (rest.getD (j + n - 2) 0) ul R)
    (H : ∀ q : Int, R / V ≤ q → q ≤ R / V + 1 → 0 ≤ q → q < 1000000000 → Ev (fun k => rational_divNat.j3 k x6 v (n : Int) rest out (j : Int) q) res) (d : Nat) :
    ∀ (q r : Int), 1000000000 - r ≤ d → 0 ≤ r → r < 1000000000 → q * v.getD (n - 1) 0 + r = top → R / V ≤ q → 0 ≤ q → q < 2000000000 → Ev (fun k => rational_divNat.l1 k x6 v (n : Int) rest out (j : Int) q r) res := by
  unfold LM at hM
  have hq0 : 0 ≤ R / V := Int.ediv_nonneg kn.Rnn (Int.le_of_lt kn.vpos')
  have hv1 := dv.get (by omega) (n - 1)
  have hv2 := dv.get (by omega) (n - 2)
  have hu2 := dr.get (by omega) (j + n - 2)
  have h1 := kn.hv1
  have en1 : wrap64 ((n : Int) - 1) = ((n - 1 : Nat) : Int) := by rw [w64_eq (by omega) (by omega)]; omega
  have en2 : wrap64 ((n : Int) - 2) = ((n - 2 : Nat) : Int) := by rw [w64_eq (by omega) (by omega)]; omega
  have ej : wrap64 (wrap64 ((j : Int) + (n : Int)) - 2) = ((j + n - 2 : Nat) : Int) := by rw [w64_eq (n := (j : Int) + (n : Int)) (by omega) (by omega), w64_eq (by omega) (by omega)]; omega
  induction d with
  | zero => intro q r h0 h2 h3; omega
  | succ d ih =>
    intro q r hd r0 r1 e hq q0 q1
    have hmul := Int.mul_nonneg q0 hv2.1
    have hmul2 : q * v.getD (n - 2) 0 ≤ 2000000000 * 1000000000 := Int.mul_le_mul (by omega) (by omega) hv2.1 (by omega)
    -- the second half of a round
    have half : ∀ t : Bool, (t = true → R / V ≤ q - 1) → (t = false → q ≤ R / V + 1 ∧ q < 1000000000) → Ev (fun k => rational_divNat.j2 k x6 v (n : Int) rest out (j : Int) q r t) res := by
      intro t ht hf
      cases t with
      | false =>
        obtain ⟨g1, g2⟩ := hf rfl
        refine Ev.step (f := fun k => rational_divNat.j3 k x6 v (n : Int) rest out (j : Int) q) (fun k => ?_) (H q hq g1 q0 g2)
        simp only [rational_divNat.j2]; rw [if_neg (by simp)]
      | true =>
        have g := ht rfl
        by_cases hb : r + v.getD (n - 1) 0 ≥ 1000000000
        · have e2 : (q - 1) * v.getD (n - 1) 0 + (r + v.getD (n - 1) 0) = top := by rw [← e]; grind
          obtain ⟨g1, g2⟩ := kn.exit2 e2 (by omega)
          have g3 := kn.exit e2 g1 g2
          refine Ev.step (f := fun k => rational_divNat.j3 k x6 v (n : Int) rest out (j : Int) (q - 1)) (fun k => ?_) (H (q - 1) g g3 (by omega) g1)
          simp only [rational_divNat.j2]
          rw [if_pos trivial, en1, if_pos (by omega), if_pos (by omega), rd_nat, u64_eq (n := v.getD (n - 1) 0) (by omega) (by omega), u64_eq (n := r + v.getD (n - 1) 0) (by omega) (by omega), if_pos hb, u64_eq (by omega) (by omega)]
        · refine Ev.step (f := fun k => rational_divNat.l1 k x6 v (n : Int) rest out (j : Int) (q - 1) (r + v.getD (n - 1) 0)) (fun k => ?_) (ih (q - 1) (r + v.getD (n - 1) 0) (by omega) (by omega) (by omega) (by rw [← e]; grind) g (by omega) (by omega))
          simp only [rational_divNat.j2]
          rw [if_pos trivial, en1, if_pos (by omega), if_pos (by omega), rd_nat, u64_eq (n := v.getD (n - 1) 0) (by omega) (by omega), u64_eq (n := r + v.getD (n - 1) 0) (by omega) (by omega), if_neg hb, u64_eq (by omega) (by omega)]
    by_cases hb : q ≥ 1000000000
    · refine Ev.step (f := fun k => rational_divNat.j2 k x6 v (n : Int) rest out (j : Int) q r true) (fun k => ?_) (half true (fun _ => kn.dec e hq q0 (.inl hb)) (fun h => by cases h))
      simp only [rational_divNat.l1]; rw [if_pos hb]
    · refine Ev.step (f := fun k => rational_divNat.j2 k x6 v (n : Int) rest out (j : Int) q r (decide (q * v.getD (n - 2) 0 > r * 1000000000 + rest.getD (j + n - 2) 0))) (fun k => ?_) (half _ (fun h => kn.dec e hq q0 (.inr (of_decide_eq_true h))) (fun h => ?_))
      · simp only [rational_divNat.l1]
        rw [if_neg hb, en2, ej, if_pos (by omega), if_pos (by omega), if_pos (by omega), if_pos (by omega), rd_nat, rd_nat, u64_eq (n := v.getD (n - 2) 0) (by omega) (by omega), u64_eq (n := rest.getD (j + n - 2) 0) (by omega) (by omega), u64_eq (n := r * 1000000000) (by omega) (by omega), u64_eq (n := r * 1000000000 + rest.getD (j + n - 2) 0) (by omega) (by omega), u64_eq (n := q * v.getD (n - 2) 0) (by omega) (by omega)]
      · have h5 := of_decide_eq_false h
        exact ⟨kn.exit e (by omega) (by omega), by omega⟩

theorem part_hi {X lo p R Pn H V B : Int} (e : X = lo + p * (R + (Pn * B) * H)) (h0 : 0 ≤ lo) (hR : 0 ≤ R) (hH : 0 ≤ H) (hX : X < V * (p * B)) (hV : V < Pn) (hPn : 0 < Pn) (hp : 0 < p) (hB : 0 < B) : H = 0 := by
  by_cases h : H = 0
  · exact h
  · have hpB := Int.mul_pos hp hB
    have hPB := Int.mul_pos hPn hB
    have h1 : (Pn * B) * 1 ≤ (Pn * B) * H := Int.mul_le_mul_of_nonneg_left (by omega) (Int.le_of_lt hPB)
    have h2 : p * (Pn * B) ≤ p * (R + (Pn * B) * H) := Int.mul_le_mul_of_nonneg_left (by omega) (Int.le_of_lt hp)
    have h3 : V * (p * B) ≤ Pn * (p * B) := Int.mul_le_mul_of_nonneg_right (by omega) (Int.le_of_lt hpB)
    have e4 : Pn * (p * B) = p * (Pn * B) := by grind
    omega
theorem part_lt {X lo p R V B : Int} (e : X = lo + p * R) (h0 : 0 ≤ lo) (hX : X < V * (p * B)) (hp : 0 < p) : R < V * B := by
  have e2 : V * (p * B) = p * (V * B) := by grind
  exact Int.lt_of_mul_lt_mul_left (a := p) (by omega) (Int.le_of_lt hp)
theorem getD_part {l : List Int} {j T i : Nat} (h : i < T - j) : ((l.take T).drop j).getD i 0 = l.getD (j + i) 0 := by
  rw [List.getD_eq_getElem?_getD, List.getD_eq_getElem?_getD, List.getElem?_drop, List.getElem?_take, if_pos (by omega)]
/-- The three last digits of a list, and what stands below them. -/
theorem top3 {l : List Int} {m : Nat} (h : l.length = m + 3) : vI 1000000000 l = ((l.getD (m + 2) 0 * 1000000000 + l.getD (m + 1) 0) * 1000000000 + l.getD m 0) * 1000000000 ^ m + vI 1000000000 (l.take m) := by
  rw [vI_split 1000000000 l m (by omega), vI_drop_succ _ _ _ (by omega), vI_drop_succ _ _ _ (by omega), vI_drop_succ _ _ _ (by omega), vI_drop_nil (by omega)]
  grind
theorem top2 {l : List Int} {m : Nat} (h : l.length = m + 2) : vI 1000000000 l = (l.getD (m + 1) 0 * 1000000000 + l.getD m 0) * 1000000000 ^ m + vI 1000000000 (l.take m) := by
  rw [vI_split 1000000000 l m (by omega), vI_drop_succ _ _ _ (by omega), vI_drop_succ _ _ _ (by omega), vI_drop_nil (by omega)]
  grind
/-- A part of a list laid anew. -/
theorem splice_val {l p : List Int} {j T : Nat} (hj : j ≤ T) (hT : T ≤ l.length) (hp : p.length = T - j) : vI 1000000000 (l.take j ++ (p ++ l.drop T)) = vI 1000000000 (l.take j) + 1000000000 ^ j * (vI 1000000000 p + 1000000000 ^ (T - j) * vI 1000000000 (l.drop T)) := by
  rw [vI_append, vI_append, hp, List.length_take, Nat.min_eq_left (by omega)]
theorem splice_self {l : List Int} {j T : Nat} (hj : j ≤ T) : l.take j ++ ((l.take T).drop j ++ l.drop T) = l := by
  rw [← List.append_assoc]
  conv => lhs; lhs; lhs; rw [show l.take j = (l.take T).take j by rw [List.take_take, Nat.min_eq_left hj]]
  rw [List.take_append_drop, List.take_append_drop]
theorem splice_take {l p : List Int} {j T : Nat} (hj : j ≤ T) (hT : T ≤ l.length) (hp : p.length = T - j) : (l.take j ++ (p ++ l.drop T)).take j = l.take j := by
  rw [List.take_append_of_le_length (by rw [List.length_take]; omega), List.take_of_length_le (by rw [List.length_take]; omega)]
theorem splice_part {l p : List Int} {j T : Nat} (hj : j ≤ T) (hT : T ≤ l.length) (hp : p.length = T - j) : ((l.take j ++ (p ++ l.drop T)).take T).drop j = p := by
  have h1 : (l.take j).length = j := by rw [List.length_take]; omega
  rw [List.drop_take, List.drop_append_of_le_length (by omega), List.drop_of_length_le (by omega), List.nil_append, List.take_append_of_le_length (by omega), List.take_of_length_le (by omega)]
theorem splice_drop {l p : List Int} {j T : Nat} (hj : j ≤ T) (hT : T ≤ l.length) (hp : p.length = T - j) : (l.take j ++ (p ++ l.drop T)).drop T = l.drop T := by
  have h1 : (l.take j ++ p).length = T := by rw [List.length_append, List.length_take]; omega
  rw [← List.append_assoc, List.drop_append_of_le_length (by omega), List.drop_of_length_le (by omega), List.nil_append]
theorem splice_len {l p : List Int} {j T : Nat} (hj : j ≤ T) (hT : T ≤ l.length) (hp : p.length = T - j) : (l.take j ++ (p ++ l.drop T)).length = l.length := by
  rw [List.length_append, List.length_append, List.length_take, List.length_drop]; omega

/-- What is known of the part of the rest at place j. -/
structure Pt (v rest : List Int) (m j : Nat) (R : Int) : Prop where
  pl : ((rest.take (j + (m + 2) + 1)).drop j).length = m + 3
  pd : Dg 1000000000 ((rest.take (j + (m + 2) + 1)).drop j)
  pv : vI 1000000000 ((rest.take (j + (m + 2) + 1)).drop j) = R
  hi : vI 1000000000 (rest.drop (j + (m + 2) + 1)) = 0
  all : vI 1000000000 rest = vI 1000000000 (rest.take j) + 1000000000 ^ j * R
  nn : 0 ≤ R
  kn : Kn 1000000000 (v.getD (m + 2 - 1) 0) (v.getD (m + 2 - 2) 0) (vI 1000000000 (v.take m)) (1000000000 ^ m) (vI 1000000000 v) (rest.getD (j + (m + 2)) 0 * 1000000000 + rest.getD (j + (m + 1)) 0) (rest.getD (j + (m + 2) - 2) 0) (vI 1000000000 (((rest.take (j + (m + 2) + 1)).drop j).take m)) R
theorem lead_pos {v : List Int} {m : Nat} (dv : Dg 1000000000 v) (nv : Nm v) (hv : v.length = m + 2) : 1 ≤ v.getD (m + 1) 0 := by
  have hvne : v ≠ [] := by intro e; rw [e] at hv; simp at hv
  have h := nv hvne
  rw [List.getLast_eq_getElem] at h
  have e : v.getD (m + 1) 0 = v[v.length - 1]'(by omega) := by
    rw [List.getD_eq_getElem?_getD, List.getElem?_eq_getElem (by omega)]
    simp only [Option.getD_some]
    congr 1
    omega
  rw [← e] at h
  have := dv.get (by omega) (m + 1)
  omega
theorem pt_of {v rest : List Int} {m j : Nat} (dv : Dg 1000000000 v) (nv : Nm v) (hv : v.length = m + 2) (dr : Dg 1000000000 rest) (hT : j + (m + 2) < rest.length) (hlt : vI 1000000000 rest < vI 1000000000 v * (1000000000 ^ j * 1000000000)) : ∃ R, Pt v rest m j R := by
  have hp := pow_pos' (show (0 : Int) < 1000000000 by omega) j
  have hpl : ((rest.take (j + (m + 2) + 1)).drop j).length = m + 3 := by rw [List.length_drop, List.length_take]; omega
  have dp : Dg 1000000000 ((rest.take (j + (m + 2) + 1)).drop j) := (dr.take _).drop _
  have eself := splice_self (l := rest) (show j ≤ j + (m + 2) + 1 by omega)
  have hval := splice_val (l := rest) (p := (rest.take (j + (m + 2) + 1)).drop j) (j := j) (T := j + (m + 2) + 1) (by omega) (by omega) (by omega)
  rw [eself, show j + (m + 2) + 1 - j = (m + 2) + 1 by omega, Int.pow_succ 1000000000 (m + 2)] at hval
  have hlo := vI_nonneg (by omega) (dr.take j)
  have hRn := vI_nonneg (by omega) dp
  have hHn := vI_nonneg (by omega) (dr.drop (j + (m + 2) + 1))
  have hVl := vI_lt (by omega) dv
  rw [hv] at hVl
  have hH := part_hi hval hlo hRn hHn hlt hVl (pow_pos' (by omega) _) hp (by omega)
  rw [hH, Int.mul_zero, Int.add_zero] at hval
  have hRlt := part_lt hval hlo hlt hp
  have et := top3 hpl
  have ev := top2 (l := v) (m := m) hv
  rw [getD_part (by omega), getD_part (by omega), getD_part (by omega)] at et
  have hv2 := dv.get (by omega) m
  have hv1 := dv.get (by omega) (m + 1)
  have hu0 := dr.get (by omega) (j + m)
  have hu1 := dr.get (by omega) (j + (m + 1))
  have hu2 := dr.get (by omega) (j + (m + 2))
  have hul0 := vI_nonneg (by omega) (dp.take m)
  have hul1 := vI_lt (by omega) (dp.take m)
  rw [List.length_take, Nat.min_eq_left (by omega)] at hul1
  have hvl0 := vI_nonneg (by omega) (dv.take m)
  have hvl1 := vI_lt (by omega) (dv.take m)
  rw [List.length_take, Nat.min_eq_left (by omega)] at hvl1
  have hv1p := lead_pos dv nv hv
  refine ⟨_, hpl, dp, rfl, hH, hval, hRn, ?_⟩
  rw [show m + 2 - 1 = m + 1 by omega, show m + 2 - 2 = m by omega, show j + (m + 2) - 2 = j + m by omega]
  have htop : 0 ≤ rest.getD (j + (m + 2)) 0 * 1000000000 + rest.getD (j + (m + 1)) 0 := by clear et ev hul0 hul1 hvl0 hvl1 hRlt hval hlo hRn hHn hVl hlt; omega
  exact ⟨by omega, pow_pos' (by omega) _, hv1p, hv1.2, hv2.1, hv2.2, hvl0, hvl1, ev, htop, hu0.1, hu0.2, hul0, hul1, et, hRlt⟩
theorem pt_next {v rest o p : List Int} {m j : Nat} {R : Int} (pt : Pt v rest m j R) (hV : 0 < vI 1000000000 v) (dr : Dg 1000000000 rest) (hT : j + (m + 2) < rest.length) (hp : p.length = m + 3) (hpv : vI 1000000000 p = R % vI 1000000000 v) :
    vI 1000000000 (rest.take j ++ (p ++ rest.drop (j + (m + 2) + 1))) < vI 1000000000 v * 1000000000 ^ j ∧
      vI 1000000000 (rest.take j ++ (p ++ rest.drop (j + (m + 2) + 1))) + vI 1000000000 v * 1000000000 ^ j * vI 1000000000 (R / vI 1000000000 v :: o) = vI 1000000000 rest + vI 1000000000 v * (1000000000 ^ j * 1000000000) * vI 1000000000 o := by
  have hsv := splice_val (l := rest) (p := p) (j := j) (T := j + (m + 2) + 1) (by omega) (by omega) (by omega)
  rw [pt.hi, Int.mul_zero, Int.add_zero, hpv] at hsv
  have hlow := vI_lt (by omega) (dr.take j)
  rw [List.length_take, Nat.min_eq_left (by omega)] at hlow
  have hpj := pow_pos' (show (0 : Int) < 1000000000 by omega) j
  have hdm := Int.mul_ediv_add_emod R (vI 1000000000 v)
  have hm1 := Int.emod_lt_of_pos R hV
  have hall := pt.all
  constructor
  · rw [hsv]
    have h1 : 1000000000 ^ j * (R % vI 1000000000 v + 1) ≤ 1000000000 ^ j * vI 1000000000 v := Int.mul_le_mul_of_nonneg_left (by omega) (Int.le_of_lt hpj)
    rw [Int.mul_add, Int.mul_one, Int.mul_comm _ (vI 1000000000 v)] at h1
    clear hdm hm1 hall hpj
    omega
  · rw [hsv, vI, hall]
    have e5 : vI 1000000000 v * 1000000000 ^ j * (R / vI 1000000000 v + 1000000000 * vI 1000000000 o) = 1000000000 ^ j * (vI 1000000000 v * (R / vI 1000000000 v)) + vI 1000000000 v * (1000000000 ^ j * 1000000000) * vI 1000000000 o := by grind
    rw [e5]
    have e6 : 1000000000 ^ j * R = 1000000000 ^ j * (vI 1000000000 v * (R / vI 1000000000 v)) + 1000000000 ^ j * (R % vI 1000000000 v) := by rw [← Int.mul_add, hdm]
    rw [e6]
    clear hdm hm1 hall hpj e5 e6 hlow
    omega
/-- The rounds of the second half: reduce, and where need be restore. -/
theorem div_j3 {v rest o : List Int} {m j : Nat} {R : Int} {x6 : List Int} {res : List Int × List Int} (pt : Pt v rest m j R) (dv : Dg 1000000000 v) (dr : Dg 1000000000 rest) (hv : v.length = m + 2) (hV : 0 < vI 1000000000 v) (hM : m + 2 ≤ LM) (hj : j ≤ 4 * LM) (hT : j + (m + 2) < rest.length)
    (next : ∀ p : List Int, p.length = m + 3 → Dg 1000000000 p → vI 1000000000 p = R % vI 1000000000 v → Ev (fun k => rational_divNat.l0 k x6 v ((m + 2 : Nat) : Int) (rest.take j ++ (p ++ rest.drop (j + (m + 2) + 1))) (List.replicate j 0 ++ (R / vI 1000000000 v :: o)) ((j : Int) - 1)) res) :
    ∀ q : Int, R / vI 1000000000 v ≤ q → q ≤ R / vI 1000000000 v + 1 → 0 ≤ q → q < 1000000000 → Ev (fun k => rational_divNat.j3 k x6 v ((m + 2 : Nat) : Int) rest (List.replicate (j + 1) 0 ++ o) (j : Int) q) res := by
  intro q q0 q1 q2 q3
  have hML := hM
  have hjL := hj
  unfold LM at hML hjL
  have e1 : wrap64 (wrap64 ((j : Int) + ((m + 2 : Nat) : Int)) + 1) = ((j + (m + 2) + 1 : Nat) : Int) := by rw [w64_eq (n := (j : Int) + ((m + 2 : Nat) : Int)) (by omega) (by omega), w64_eq (by omega) (by omega)]; omega
  obtain ⟨c, o1, hE, hl1, d1, hv1'⟩ := reduceP pt.pd dv (by rw [pt.pl]; unfold LM; omega) (by rw [hv]; exact hM) (by rw [pt.pl]; omega) q2 q3
  rw [pt.pv, pt.pl] at hv1'
  rw [pt.pl] at hl1
  have hrl0 := vI_nonneg (by omega) d1
  have hrl1 := vI_lt (by omega) d1
  rw [hl1] at hrl1
  have hdm := Int.mul_ediv_add_emod R (vI 1000000000 v)
  have hm0 := Int.emod_nonneg R (Int.ne_of_gt hV)
  have hm1 := Int.emod_lt_of_pos R hV
  have hq0 : 0 ≤ R / vI 1000000000 v := Int.ediv_nonneg pt.nn (Int.le_of_lt hV)
  have hll : (j : Int) < ((List.replicate (j + 1) 0 ++ o).length : Int) := by simp; omega
  have hsub : Ev (fun k => rational_reduceSub.f k rest (j : Int) ((j + (m + 2) + 1 : Nat) : Int) v q) (c, rest.take j ++ (o1 ++ rest.drop (j + (m + 2) + 1))) := by
    refine Ev.congr (fun k => ?_) (Ev.bind (f := fun _ (r_ : Bool × List Int) => some (r_.1, rest.take j ++ (r_.2 ++ rest.drop (j + (m + 2) + 1)))) hE (Ev.now _))
    unfold rational_reduceSub.f
    rw [if_pos ⟨by omega, by omega, by omega⟩, Int.toNat_natCast, Int.toNat_natCast]
  generalize hgV : vI 1000000000 v = V at *
  generalize hgP : (1000000000 : Int) ^ (m + 3) = P at *
  by_cases hq : q = R / V
  · have hc : c = true := by
      cases c with
      | true => rfl
      | false =>
        exfalso
        rw [hq, if_neg (by simp), Int.mul_comm] at hv1'
        omega
    subst hc
    rw [if_pos rfl, hq, Int.mul_comm] at hv1'
    refine Ev.step (f := fun k => (rational_reduceSub.f k rest (j : Int) ((j + (m + 2) + 1 : Nat) : Int) v q).bind fun bt213 => if bt213.1 = true then rational_divNat.l0 k x6 v ((m + 2 : Nat) : Int) bt213.2 (List.replicate j 0 ++ (q :: o)) ((j : Int) - 1) else ((rational_restoreSub.f k bt213.2 (j : Int) ((j + (m + 2) + 1 : Nat) : Int) v).bind fun t220 => rational_divNat.l0 k x6 v ((m + 2 : Nat) : Int) t220 (List.replicate j 0 ++ ((IntKind.u64.wrap (q - 1) % 4294967296) :: o)) ((j : Int) - 1))) (fun k => ?_)
      (Ev.bind (f := fun k (bt213 : Bool × List Int) => if bt213.1 = true then rational_divNat.l0 k x6 v ((m + 2 : Nat) : Int) bt213.2 (List.replicate j 0 ++ (q :: o)) ((j : Int) - 1) else ((rational_restoreSub.f k bt213.2 (j : Int) ((j + (m + 2) + 1 : Nat) : Int) v).bind fun t220 => rational_divNat.l0 k x6 v ((m + 2 : Nat) : Int) t220 (List.replicate j 0 ++ ((IntKind.u64.wrap (q - 1) % 4294967296) :: o)) ((j : Int) - 1))) hsub ?_)
    · clear hv1' hrl0 hrl1 hdm hm0 hm1
      simp only [rational_divNat.j3]
      rw [if_pos (by omega), e1, if_pos (by omega), if_pos (by omega)]
      simp only [if_pos hll, Int.toNat_natCast, set_back]
      rw [w64_eq (n := (j : Int) - 1) (by omega) (by omega), Int.emod_eq_of_lt (a := q) (by omega) (by omega)]
    · simp only [if_true]
      rw [hq]; exact next o1 hl1 d1 (by omega)
  · obtain rfl : q = R / V + 1 := by omega
    have hc : c = false := by
      cases c with
      | false => rfl
      | true =>
        exfalso
        rw [if_pos rfl, Int.mul_comm, Int.mul_add] at hv1'
        omega
    subst hc
    rw [if_neg (by simp), Int.mul_comm, Int.mul_add, Int.mul_one] at hv1'
    obtain ⟨o2, cf, hE2, hl2, d2, cf0, cf1, hv2'⟩ := restoreP d1 dv (by rw [hl1]; unfold LM; omega) (by rw [hv]; exact hM) (by omega)
    rw [hl1, hgV, hgP] at hv2'
    rw [hl1] at hl2
    have hr20 := vI_nonneg (by omega) d2
    have hr21 := vI_lt (by omega) d2
    rw [hl2, hgP] at hr21
    have hcf : cf = 1 := by
      by_cases h : cf = 0
      · subst h; rw [Int.mul_zero] at hv2'; omega
      · omega
    subst hcf
    rw [Int.mul_one] at hv2'
    have hsub2 : Ev (fun k => rational_restoreSub.f k (rest.take j ++ (o1 ++ rest.drop (j + (m + 2) + 1))) (j : Int) ((j + (m + 2) + 1 : Nat) : Int) v) (rest.take j ++ (o2 ++ rest.drop (j + (m + 2) + 1))) := by
      refine Ev.congr (fun k => ?_) (Ev.bind (f := fun _ (r_ : List Int) => some (rest.take j ++ (r_ ++ rest.drop (j + (m + 2) + 1)))) hE2 (Ev.now _))
      unfold rational_restoreSub.f
      rw [if_pos (by rw [splice_len (by omega) (by omega) (by omega)]; omega), Int.toNat_natCast, Int.toNat_natCast, splice_part (by omega) (by omega) (by omega), splice_take (by omega) (by omega) (by omega), splice_drop (by omega) (by omega) (by omega)]
    refine Ev.step (f := fun k => (rational_reduceSub.f k rest (j : Int) ((j + (m + 2) + 1 : Nat) : Int) v (R / V + 1)).bind fun bt213 => if bt213.1 = true then rational_divNat.l0 k x6 v ((m + 2 : Nat) : Int) bt213.2 (List.replicate j 0 ++ ((R / V + 1) :: o)) ((j : Int) - 1) else ((rational_restoreSub.f k bt213.2 (j : Int) ((j + (m + 2) + 1 : Nat) : Int) v).bind fun t220 => rational_divNat.l0 k x6 v ((m + 2 : Nat) : Int) t220 (List.replicate j 0 ++ (R / V :: o)) ((j : Int) - 1))) (fun k => ?_)
      (Ev.bind (f := fun k (bt213 : Bool × List Int) => if bt213.1 = true then rational_divNat.l0 k x6 v ((m + 2 : Nat) : Int) bt213.2 (List.replicate j 0 ++ ((R / V + 1) :: o)) ((j : Int) - 1) else ((rational_restoreSub.f k bt213.2 (j : Int) ((j + (m + 2) + 1 : Nat) : Int) v).bind fun t220 => rational_divNat.l0 k x6 v ((m + 2 : Nat) : Int) t220 (List.replicate j 0 ++ (R / V :: o)) ((j : Int) - 1))) hsub ?_)
    · clear hv1' hrl0 hrl1 hdm hm0 hm1 hv2' hr20 hr21
      simp only [rational_divNat.j3]
      rw [if_pos (by omega), e1, if_pos (by omega), if_pos (by omega)]
      simp only [if_pos hll, Int.toNat_natCast, set_back]
      rw [w64_eq (n := (j : Int) - 1) (by omega) (by omega), Int.emod_eq_of_lt (a := R / V + 1) (by omega) (by omega), show R / V + 1 - 1 = R / V by omega, u64_eq (by omega) (by omega), Int.emod_eq_of_lt (a := R / V) (by omega) (by omega)]
    · simp only [Bool.false_eq_true, if_false]
      exact Ev.bind (f := fun k t220 => rational_divNat.l0 k x6 v ((m + 2 : Nat) : Int) t220 (List.replicate j 0 ++ (R / V :: o)) ((j : Int) - 1)) hsub2 (next o2 hl2 d2 (by omega))
/-- A round whole. -/
theorem div_round {v rest out : List Int} {m j : Nat} {R : Int} {x6 : List Int} {res : List Int × List Int} (pt : Pt v rest m j R) (dv : Dg 1000000000 v) (nv : Nm v) (dr : Dg 1000000000 rest) (hv : v.length = m + 2) (hM : rest.length ≤ 4 * LM) (hT : j + (m + 2) < rest.length)
    (H : ∀ q : Int, R / vI 1000000000 v ≤ q → q ≤ R / vI 1000000000 v + 1 → 0 ≤ q → q < 1000000000 → Ev (fun k => rational_divNat.j3 k x6 v ((m + 2 : Nat) : Int) rest out (j : Int) q) res) :
    Ev (fun k => rational_divNat.l0 k x6 v ((m + 2 : Nat) : Int) rest out (((j + 1 : Nat) : Int) - 1)) res := by
  have hML := hM
  unfold LM at hML
  have en1 : wrap64 (((m + 2 : Nat) : Int) - 1) = ((m + 1 : Nat) : Int) := by rw [w64_eq (by omega) (by omega)]; omega
  have ej : wrap64 ((j : Int) + ((m + 2 : Nat) : Int)) = ((j + (m + 2) : Nat) : Int) := by rw [w64_eq (by omega) (by omega)]; omega
  have ej1 : wrap64 (((j + (m + 2) : Nat) : Int) - 1) = ((j + (m + 1) : Nat) : Int) := by rw [w64_eq (by omega) (by omega)]; omega
  have et0 : ((j + 1 : Nat) : Int) - 1 = (j : Int) := by omega
  have hv1p := lead_pos dv nv hv
  have hv1 := dv.get (by omega) (m + 1)
  have hu1 := dr.get (by omega) (j + (m + 1))
  have hu2 := dr.get (by omega) (j + (m + 2))
  have kn := pt.kn
  have hst := kn.start
  have hst2 := kn.start_lt
  have hq0 : 0 ≤ R / vI 1000000000 v := Int.ediv_nonneg kn.Rnn (Int.le_of_lt kn.vpos')
  have em : m + 2 - 1 = m + 1 := rfl
  rw [em] at hst hst2
  obtain ⟨D, hD⟩ : ∃ D : Nat, (D : Int) = 1000000000 := ⟨1000000000, rfl⟩
  have hk := kn_l1 (x6 := x6) (out := out) dv dr (by omega) hv hT hM kn H D
  rw [em] at hk
  have hc1 : (((m + 1 : Nat) : Int)) < (v.length : Int) := by omega
  have hc2 : (((j + (m + 2) : Nat) : Int)) < (rest.length : Int) := by omega
  have hc3 : (((j + (m + 1) : Nat) : Int)) < (rest.length : Int) := by omega
  refine Ev.step (fun k => ?_) (hk ((rest.getD (j + (m + 2)) 0 * 1000000000 + rest.getD (j + (m + 1)) 0) / v.getD (m + 1) 0) ((rest.getD (j + (m + 2)) 0 * 1000000000 + rest.getD (j + (m + 1)) 0) % v.getD (m + 1) 0) ?_ (Int.emod_nonneg _ (by omega)) (Int.lt_trans (Int.emod_lt_of_pos _ (by omega)) hv1.2) (by rw [Int.mul_comm]; exact Int.mul_ediv_add_emod _ _) hst (Int.le_trans hq0 hst) hst2)
  · have hqq := Int.le_trans hq0 hst
    clear hst hk kn pt H hq0
    simp only [rational_divNat.l0]
    rw [et0, if_pos (Int.natCast_nonneg j), ej, ej1, en1, if_pos (Int.natCast_nonneg _), if_pos hc2, if_pos (Int.natCast_nonneg _), if_pos hc3, if_pos (Int.natCast_nonneg _), if_pos hc1, rd_nat, rd_nat, rd_nat]
    clear en1 ej ej1 et0 hc1 hc2 hc3 hT hv dv nv dr hM hML em
    generalize v.getD (m + 1) 0 = v1 at *
    generalize rest.getD (j + (m + 1)) 0 = u1 at *
    generalize rest.getD (j + (m + 2)) 0 = u2 at *
    rw [u64_eq (n := v1) (by omega) (by omega), if_neg (by omega), u64_eq (n := u2) (by omega) (by omega), u64_eq (n := u1) (by omega) (by omega), u64_eq (n := u2 * 1000000000) (by omega) (by omega), u64_eq (n := u2 * 1000000000 + u1) (by omega) (by omega), Int.tmod_eq_emod_of_nonneg (by omega), Int.tdiv_eq_ediv_of_nonneg (by omega), u64_eq hqq (Int.lt_trans hst2 (by decide))]
  · have := Int.emod_nonneg (rest.getD (j + (m + 2)) 0 * 1000000000 + rest.getD (j + (m + 1)) 0) (show v.getD (m + 1) 0 ≠ 0 by omega)
    rw [hD]
    clear hst hst2 hk kn pt H hq0
    omega
theorem div_l0 {v : List Int} (dv : Dg 1000000000 v) (nv : Nm v) {m : Nat} (hv : v.length = m + 2) (hM : m + 2 ≤ LM) {s a b N : Nat} (hs0 : 0 < s) (hs1 : s < 1000000000) (hN : N ≤ 3 * LM) (hV : vI 1000000000 v = ((b * s : Nat) : Int)) (t : Nat) :
    ∀ (rest o : List Int), rest.length = N + 1 → t + o.length + (m + 2) = N + 1 → Dg 1000000000 rest → Dg 1000000000 o → vI 1000000000 rest < vI 1000000000 v * 1000000000 ^ t → vI 1000000000 rest + (vI 1000000000 v * 1000000000 ^ t) * vI 1000000000 o = ((a * s : Nat) : Int) →
      Ev (fun k => rational_divNat.l0 k [(s : Int)] v ((m + 2 : Nat) : Int) rest (List.replicate t 0 ++ o) ((t : Int) - 1)) (digs 1000000000 (a / b), digs 1000000000 (a % b)) := by
  have hML := hM
  have hNL := hN
  unfold LM at hML hNL
  have hvne : v ≠ [] := by intro e; rw [e] at hv; simp at hv
  have hVpos := nv.pos (by omega) dv hvne
  induction t with
  | zero =>
    intro rest o hr ho dr d_o hlt hU
    rw [Int.pow_zero, Int.mul_one] at hlt hU
    obtain ⟨x, hx⟩ := Int.eq_ofNat_of_zero_le (vI_nonneg (by omega) dr)
    obtain ⟨q, hq⟩ := Int.eq_ofNat_of_zero_le (vI_nonneg (by omega) d_o)
    rw [hx, hq, hV] at hU
    rw [hx, hV] at hlt
    have hU' : a * s = q * (b * s) + x := by
      have : x + b * s * q = a * s := by exact_mod_cast hU
      rw [← this, Nat.mul_comm q]; omega
    obtain ⟨h1, h2⟩ := div_of hU' (by omega)
    rw [Nat.mul_div_mul_right _ _ hs0] at h1
    rw [Nat.mul_mod_mul_right] at h2
    have ht := trimP rest (by omega)
    rw [pTrim dr hx, ← h2] at ht
    have hxl : (digs 1000000000 (a % b * s)).length ≤ LM := by
      refine Nat.le_trans (digs_len_mono (by omega) (Nat.le_of_lt (show a % b * s < b * s by omega))) ?_
      rw [← digs_unique (B := 1000000000) (by decide) dv nv hV, hv]; exact hM
    have hsm := smallP hxl hs0 (by omega)
    rw [Nat.mul_div_cancel _ hs0] at hsm
    have ho' := trimP o (by omega)
    rw [pTrim d_o hq, ← h1] at ho'
    refine Ev.step (f := fun k => (rational_trim.f k rest).bind fun t189 => ((rational_small.f k t189 (s : Int)).bind fun bt193 => ((rational_trim.f k o).bind fun t199 => some (t199, bt193.1)))) (fun k => ?_)
      (Ev.bind (f := fun k t189 => ((rational_small.f k t189 (s : Int)).bind fun bt193 => ((rational_trim.f k o).bind fun t199 => some (t199, bt193.1)))) ht
        (Ev.bind (f := fun k bt193 => ((rational_trim.f k o).bind fun t199 => some (t199, bt193.1))) hsm (Ev.bind (f := fun k t199 => some (t199, digs 1000000000 (a % b))) ho' (Ev.now _))))
    simp only [rational_divNat.l0]
    rw [if_neg (by omega)]
    simp [rd]
  | succ j ih =>
    intro rest o hr ho dr d_o hlt hU
    rw [Int.pow_succ] at hlt hU
    obtain ⟨R, pt⟩ := pt_of dv nv hv dr (by omega) hlt
    have hq0 : 0 ≤ R / vI 1000000000 v := Int.ediv_nonneg pt.nn (Int.le_of_lt hVpos)
    refine div_round pt dv nv dr hv (by unfold LM; omega) (by omega) (fun q q0 q1 q2 q3 => div_j3 pt dv dr hv hVpos hM (by unfold LM; omega) (by omega) (fun p hp dp hpv => ?_) q q0 q1 q2 q3)
    obtain ⟨h1, h2⟩ := pt_next (o := o) pt hVpos dr (by omega) hp hpv
    refine ih _ _ (by rw [splice_len (by omega) (by omega) (by omega)]; exact hr) (by simp only [List.length_cons]; omega) ((dr.take _).append (dp.append (dr.drop _))) (Dg.cons ⟨hq0, by omega⟩ d_o) h1 (by rw [h2]; exact hU)
end Go.Proofs.YtplpmndchdockaaDoor.M
