import Derived.Test.YtplpmndchdockaaCommon
import Derived.Test.YtplpmndchdockaaPr5
import Derived.Test.YtplpmndchdockaaPr6
import Derived.Test.YtplpmndchdockaaPr7
namespace Go.Proofs.Ytplpmndchdockaa.M
open Go Go.RowKit Go.Proofs.Ytplpmndchdockaa.Pr Go.Proofs.YtplpmndchdockaaV.PrintWords Go.Proofs.YtplpmndchdockaaV.PrintLast Go.Proofs.YtplpmndchdockaaV.PrintMore
set_option autoImplicit false

/-- The operations that the law tries. -/
def rop (j a b c d : Int) : Int × Int × Bool :=
  if (VB a b && VB c d) = true then (if j = 0 then mk (a + c) (b + d) else if j = 1 then mk (a - d) (b - c) else if j = 2 then hull4 cMul a b c d else if c ≤ 0 ∧ d ≥ 0 then (0, 0, false) else hull4 cDiv a b c d) else (0, 0, false)
theorem operate_f (j a b c d : Int) (h0 : 0 ≤ j) (h1 : j < 4) : Ev (fun k => flagstonelaw37_operate.f k j a b c d) (rop j a b c d) := by
  have hj : j = 0 ∨ j = 1 ∨ j = 2 ∨ j = 3 := by omega
  rcases hj with rfl | rfl | rfl | rfl
  · refine Ev.same (fun k => ?_)
    unfold flagstonelaw37_operate.f rop
    rw [if_pos rfl, add_f]; simp only [Option.bind_some]; rfl
  · refine Ev.same (fun k => ?_)
    unfold flagstonelaw37_operate.f rop
    rw [if_neg (by decide), if_pos rfl, sub_f]; simp only [Option.bind_some]; rfl
  · refine Ev.same (fun k => ?_)
    unfold flagstonelaw37_operate.f rop
    rw [if_neg (by decide), if_neg (by decide), if_pos rfl, mul_f]; simp only [Option.bind_some]; rfl
  · refine use (div_f a b c d) (F' := fun _ => some _) (Ev.now _) (fun k hk => ?_)
    unfold flagstonelaw37_operate.f rop
    rw [if_neg (by decide), if_neg (by decide), if_neg (by decide), if_pos rfl, hk]; simp only [Option.bind_some]; rfl
/-- At a number between two the answer lies between theirs. -/
def Conv (C : Int → Int → Option (Int × Int)) (x0 x1 y : Int) : Prop :=
  ∀ z p q, x0 ≤ z → z ≤ x1 → C x0 y = some p → C x1 y = some q → ∃ r, C z y = some r ∧ r.1 ≤ r.2 ∧ (p.1 ≤ r.1 ∨ q.1 ≤ r.1) ∧ (r.2 ≤ p.2 ∨ r.2 ≤ q.2)
theorem between {a b z y : Int} (h0 : a ≤ z) (h1 : z ≤ b) : (a * y ≤ z * y ∧ z * y ≤ b * y) ∨ (b * y ≤ z * y ∧ z * y ≤ a * y) := by
  rcases Int.le_total 0 y with h | h
  · exact .inl ⟨Int.mul_le_mul_of_nonneg_right h0 h, Int.mul_le_mul_of_nonneg_right h1 h⟩
  · exact .inr ⟨Int.mul_le_mul_of_nonpos_right h1 h, Int.mul_le_mul_of_nonpos_right h0 h⟩
theorem abs_between {a b z : Int} (h0 : a ≤ z) (h1 : z ≤ b) : abs_ z ≤ abs_ a ∨ abs_ z ≤ abs_ b := by unfold abs_; repeat' split <;> try omega
theorem conv_mul (x0 x1 y : Int) : Conv cMul x0 x1 y := by
  intro z p q h0 h1 hp hq
  unfold cMul at *
  split at hp
  · cases hp
  split at hq
  · cases hq
  rename_i g0 g1
  simp only [Option.some.injEq] at hp hq
  subst hp; subst hq
  have hz : ¬ abs_ z * abs_ y / 18446744073709551616 ≥ 1073741824 := by
    rcases abs_between h0 h1 with h | h
    · have := Int.mul_le_mul_of_nonneg_right h (abs_nn y); omega
    · have := Int.mul_le_mul_of_nonneg_right h (abs_nn y); omega
  rw [if_neg hz]
  refine ⟨_, rfl, fc_le (by decide), ?_, ?_⟩
  · rcases between (y := y) h0 h1 with h | h
    · exact .inl (fc_mono1 (by decide) h.1)
    · exact .inr (fc_mono1 (by decide) h.1)
  · rcases between (y := y) h0 h1 with h | h
    · exact .inr (fc_mono2 (by decide) h.2)
    · exact .inl (fc_mono2 (by decide) h.2)
theorem conv_div (x0 x1 y : Int) (hy : y ≠ 0) : Conv cDiv x0 x1 y := by
  intro z p q h0 h1 hp hq
  have hD : 0 < abs_ y := by unfold abs_; split <;> omega
  unfold cDiv at *
  split at hp
  · cases hp
  split at hq
  · cases hq
  rename_i g0 g1
  simp only [Option.some.injEq] at hp hq
  subst hp; subst hq
  have hz : ¬ abs_ z * 4294967296 / abs_ y > 2305843009213693952 := by
    rcases abs_between h0 h1 with h | h
    · have := Int.ediv_le_ediv hD (show abs_ z * 4294967296 ≤ abs_ x0 * 4294967296 by omega); omega
    · have := Int.ediv_le_ediv hD (show abs_ z * 4294967296 ≤ abs_ x1 * 4294967296 by omega); omega
  rw [if_neg hz]
  refine ⟨_, rfl, fc_le hD, ?_, ?_⟩
  · by_cases h : y < 0
    · simp only [if_pos h]; exact .inr (fc_mono1 hD (by omega))
    · simp only [if_neg h]; exact .inl (fc_mono1 hD (by omega))
  · by_cases h : y < 0
    · simp only [if_pos h]; exact .inl (fc_mono2 hD (by omega))
    · simp only [if_neg h]; exact .inr (fc_mono2 hD (by omega))
def Nested (z x : Int × Int × Bool) : Prop := x.2.2 = true → z.2.2 = true ∧ x.1 ≤ z.1 ∧ z.2.1 ≤ x.2.1
theorem nest_hull (C : Int → Int → Option (Int × Int)) {x0 x1 z0 z1 y0 y1 : Int} (c0 : Conv C x0 x1 y0) (c1 : Conv C x0 x1 y1) (h0 : x0 ≤ z0) (h1 : z0 ≤ z1) (h2 : z1 ≤ x1) : Nested (hull4 C z0 z1 y0 y1) (hull4 C x0 x1 y0 y1) := by
  intro hok
  unfold hull4 at hok ⊢
  cases e1 : C x0 y0 with
  | none => simp [e1] at hok
  | some p =>
  cases e2 : C x0 y1 with
  | none => simp [e1, e2] at hok
  | some q =>
  cases e3 : C x1 y0 with
  | none => simp [e1, e2, e3] at hok
  | some s =>
  cases e4 : C x1 y1 with
  | none => simp [e1, e2, e3, e4] at hok
  | some t =>
  simp only [e1, e2, e3, e4] at hok ⊢
  obtain ⟨p', f1, l1, u1, v1⟩ := c0 z0 p s h0 (by omega) e1 e3
  obtain ⟨q', f2, l2, u2, v2⟩ := c1 z0 q t h0 (by omega) e2 e4
  obtain ⟨s', f3, l3, u3, v3⟩ := c0 z1 p s (by omega) h2 e1 e3
  obtain ⟨t', f4, l4, u4, v4⟩ := c1 z1 q t (by omega) h2 e2 e4
  simp only [f1, f2, f3, f4]
  rw [mk_ok] at hok
  rw [mk_yes hok]
  have hv := VB_iff.mp hok
  have L := mn4_le 2305843009213693953 p.1 q.1 s.1 t.1
  have U := mx4_ge (-2305843009213693953) p.2 q.2 s.2 t.2
  have L' := mn4_le 2305843009213693953 p'.1 q'.1 s'.1 t'.1
  have U' := mx4_ge (-2305843009213693953) p'.2 q'.2 s'.2 t'.2
  generalize mn (mn (mn (mn 2305843009213693953 p.1) q.1) s.1) t.1 = lo at *
  generalize mx (mx (mx (mx (-2305843009213693953) p.2) q.2) s.2) t.2 = hi at *
  have d1 : lo ≤ p'.1 := by omega
  have d2 : lo ≤ q'.1 := by omega
  have d3 : lo ≤ s'.1 := by omega
  have d4 : lo ≤ t'.1 := by omega
  have g1 : p'.2 ≤ hi := by omega
  have g2 : q'.2 ≤ hi := by omega
  have g3 : s'.2 ≤ hi := by omega
  have g4 : t'.2 ≤ hi := by omega
  have k1 : lo ≤ mn (mn (mn (mn 2305843009213693953 p'.1) q'.1) s'.1) t'.1 := ge_mn (ge_mn (ge_mn (ge_mn (by omega) d1) d2) d3) d4
  have k2 : mx (mx (mx (mx (-2305843009213693953) p'.2) q'.2) s'.2) t'.2 ≤ hi := mx_le (mx_le (mx_le (mx_le (by omega) g1) g2) g3) g4
  generalize mn (mn (mn (mn 2305843009213693953 p'.1) q'.1) s'.1) t'.1 = lo' at *
  generalize mx (mx (mx (mx (-2305843009213693953) p'.2) q'.2) s'.2) t'.2 = hi' at *
  rw [mk_yes (VB_iff.mpr (by omega))]
  exact ⟨rfl, k1, k2⟩
theorem nest_rop (j : Int) (h0 : 0 ≤ j) (h1 : j < 4) {x0 x1 z0 z1 y0 y1 : Int} (hx : VB x0 x1 = true) (hy : VB y0 y1 = true) (g0 : x0 ≤ z0) (g1 : z0 ≤ z1) (g2 : z1 ≤ x1) : Nested (rop j z0 z1 y0 y1) (rop j x0 x1 y0 y1) := by
  have hx' := VB_iff.mp hx
  have hy' := VB_iff.mp hy
  have hz : VB z0 z1 = true := VB_iff.mpr ⟨by omega, by omega, by omega⟩
  unfold rop
  rw [hx, hy, hz]
  simp only [Bool.and_self, if_true]
  have hj : j = 0 ∨ j = 1 ∨ j = 2 ∨ j = 3 := by omega
  rcases hj with rfl | rfl | rfl | rfl
  · simp only [Int.reduceEq, if_true]
    intro hok
    rw [mk_ok] at hok
    rw [mk_yes hok, mk_yes (VB_iff.mpr (by have := VB_iff.mp hok; omega))]
    exact ⟨rfl, by simp only; omega, by simp only; omega⟩
  · simp only [Int.reduceEq, if_true, if_false]
    intro hok
    rw [mk_ok] at hok
    rw [mk_yes hok, mk_yes (VB_iff.mpr (by have := VB_iff.mp hok; omega))]
    exact ⟨rfl, by simp only; omega, by simp only; omega⟩
  · simp only [Int.reduceEq, if_true, if_false]
    exact nest_hull cMul (conv_mul _ _ _) (conv_mul _ _ _) g0 g1 g2
  · simp only [Int.reduceEq, if_false]
    by_cases h : y0 ≤ 0 ∧ y1 ≥ 0
    · rw [if_pos h]; intro hok; rw [if_pos h] at hok; cases hok
    · rw [if_neg h, if_neg h]
      exact nest_hull cDiv (conv_div _ _ _ (by omega)) (conv_div _ _ _ (by omega)) g0 g1 g2
theorem inside_f (a b c d : Int) : flagstonelaw37_inside.f a b c d = some (decide (a ≥ c ∧ b ≤ d)) := by
  unfold flagstonelaw37_inside.f
  by_cases h : a ≥ c
  · rw [if_pos h]; simp [h]
  · rw [if_neg h]; simp [h]
theorem nests_end {x0 x1 y0 y1 z0 z1 : Int} (hx : VB x0 x1 = true) (hy : VB y0 y1 = true) : Ev (fun k => flagstonelaw37_IntervalNests.l0 k 4 x0 x1 y0 y1 z0 z1) true := by
  have hx' := VB_iff.mp hx
  have hy' := VB_iff.mp hy
  have hh : VB (mn x0 y0) (mx x1 y1) = true := VB_iff.mpr (by unfold mn mx; omega)
  have hj : Ev (fun k => flagstonelaw37_IntervalNests.j1 k (mk (mx x0 y0) (mn x1 y1)).2.2 false x0 x1 y0 y1 (mk (mx x0 y0) (mn x1 y1)).1 (mk (mx x0 y0) (mn x1 y1)).2.1) true := by
    refine Ev.ans (fun k => ?_)
    simp only [flagstonelaw37_IntervalNests.j1]
    rw [if_neg (by decide), mk_ok]
    by_cases hm : VB (mx x0 y0) (mn x1 y1) = true
    · rw [mk_yes hm, if_pos hm]
      have hm' := VB_iff.mp hm
      simp only [inside_f, Option.bind_some]
      rw [decide_eq_true (by unfold mn mx at *; omega), if_pos rfl, decide_eq_true (by unfold mn mx at *; omega), if_pos rfl, if_pos trivial]
      simp
    · rw [if_neg hm]
      have hm' : ¬ (mx x0 y0 ≤ mn x1 y1) := fun h => hm (VB_iff.mpr (by unfold mn mx at *; omega))
      by_cases h : x1 < y0
      · rw [if_pos h]
      · rw [if_neg h, decide_eq_true (by unfold mn mx at *; omega)]
  refine Ev.step (f := fun k => flagstonelaw37_IntervalNests.j1 k (mk (mx x0 y0) (mn x1 y1)).2.2 false x0 x1 y0 y1 (mk (mx x0 y0) (mn x1 y1)).1 (mk (mx x0 y0) (mn x1 y1)).2.1) (fun k => ?_) hj
  simp only [flagstonelaw37_IntervalNests.l0]
  rw [if_neg (by decide), hull_f, meet_f, hx, hy]
  simp only [Bool.and_self, if_true, Option.bind_some, inside_f]
  rw [mk_yes hh]
  simp only [if_true]
  rw [decide_eq_true (by unfold mn mx; omega), if_pos rfl, decide_eq_true (by unfold mn mx; omega), if_pos rfl]
  by_cases c1 : mn x0 y0 = x0
  · rw [if_pos c1]
    by_cases c2 : mx x1 y1 = x1
    · rw [if_pos c2]
    · rw [if_neg c2]
      have : mx x1 y1 = y1 := by unfold mx at *; omega
      rw [this]; simp
  · rw [if_neg c1, if_pos (by unfold mn at *; omega)]
    by_cases c2 : mx x1 y1 = x1
    · rw [if_pos c2]
    · rw [if_neg c2]
      have : mx x1 y1 = y1 := by unfold mx at *; omega
      rw [this]; simp
theorem nests_loop {x0 x1 y0 y1 z0 z1 : Int} (hx : VB x0 x1 = true) (hy : VB y0 y1 = true) (g0 : x0 ≤ z0) (g1 : z0 ≤ z1) (g2 : z1 ≤ x1) :
    ∀ (n : Nat) (j : Int), 0 ≤ j → j + n = 4 → Ev (fun k => flagstonelaw37_IntervalNests.l0 k j x0 x1 y0 y1 z0 z1) true := by
  intro n
  induction n with
  | zero => intro j h0 h1; obtain rfl : j = 4 := by omega
            exact nests_end hx hy
  | succ n ih =>
    intro j h0 h1
    obtain ⟨K1, o1⟩ := operate_f j x0 x1 y0 y1 h0 (by omega)
    obtain ⟨K2, o2⟩ := operate_f j z0 z1 y0 y1 h0 (by omega)
    obtain ⟨K3, o3⟩ := ih (j + 1) (by omega) (by omega)
    refine ⟨max (max K1 K2) K3 + 1, fun k hk => ?_⟩
    obtain ⟨m, rfl⟩ : ∃ m, k = m + 1 := ⟨k - 1, by omega⟩
    have o1' : flagstonelaw37_operate.f m j x0 x1 y0 y1 = _ := o1 m (by omega)
    have o2' : flagstonelaw37_operate.f m j z0 z1 y0 y1 = _ := o2 m (by omega)
    have o3' : flagstonelaw37_IntervalNests.l0 m (j + 1) x0 x1 y0 y1 z0 z1 = _ := o3 m (by omega)
    simp only [flagstonelaw37_IntervalNests.l0]
    rw [if_pos (by omega), o1', o2']; simp only [Option.bind_some]
    rw [w64_eq (by omega) (by omega), o3']
    by_cases h : (rop j x0 x1 y0 y1).2.2 = true
    · obtain ⟨n1, n2, n3⟩ := nest_rop j h0 (by omega) hx hy g0 g1 g2 h
      rw [if_pos h, if_pos n1, inside_f]; simp only [Option.bind_some]
      rw [decide_eq_true ⟨n2, n3⟩, if_pos rfl]
    · rw [if_neg h]
theorem nests (a b c d m n i k : Int) (hm0 : 0 ≤ m) (hm1 : m ≤ 255) (hn0 : 0 ≤ n) (hn1 : n ≤ 255) (hi0 : 0 ≤ i) (hi1 : i ≤ 255) (hk0 : 0 ≤ k) (hk1 : k ≤ 255) : Ev (fun q => flagstonelaw37_IntervalNests.f q a b c d m n i k) true := by
  obtain ⟨x0, x1, hx, vx⟩ := made37 a b m hm0 hm1
  obtain ⟨y0, y1, hy, vy⟩ := made37 c d n hn0 hn1
  have hx' := VB_iff.mp vx
  have ht : Int.tdiv (x1 - x0) 600 = (x1 - x0) / 600 := Int.tdiv_eq_ediv_of_nonneg (by omega)
  have hw0 : 0 ≤ (x1 - x0) / 600 := by omega
  have p1 := mulbd (a := (x1 - x0) / 600) (b := i) (M := (x1 - x0) / 600) (N := 255) hw0 (Int.le_refl _) hi0 hi1
  have p2 := mulbd (a := (x1 - x0) / 600) (b := k) (M := (x1 - x0) / 600) (N := 255) hw0 (Int.le_refl _) hk0 hk1
  have hl := nests_loop vx vy (z0 := x0 + (x1 - x0) / 600 * i) (z1 := x1 - (x1 - x0) / 600 * k) (by omega) (by omega) (by omega) 4 0 (by omega) (by omega)
  obtain ⟨K1, h1⟩ := awake37
  obtain ⟨K2, h2⟩ := hl
  refine ⟨max K1 K2, fun q hq => ?_⟩
  have h1' : flagstonelaw37_awake.f q = some true := h1 q (by omega)
  have h2' : flagstonelaw37_IntervalNests.l0 q 0 x0 x1 y0 y1 (x0 + (x1 - x0) / 600 * i) (x1 - (x1 - x0) / 600 * k) = some true := h2 q (by omega)
  show flagstonelaw37_IntervalNests.f q a b c d m n i k = some true
  unfold flagstonelaw37_IntervalNests.f
  rw [h1']; simp only [Option.bind_some, if_true]
  rw [hx, hy]; simp only [Option.bind_some]
  rw [w64_eq (n := x1 - x0) (by omega) (by omega), ht, w64_eq (n := (x1 - x0) / 600) (by omega) (by omega), w64_eq (n := i) (by omega) (by omega), w64_eq (n := k) (by omega) (by omega)]
  rw [w64_eq (n := (x1 - x0) / 600 * i) (by omega) (by omega), w64_eq (n := (x1 - x0) / 600 * k) (by omega) (by omega), w64_eq (by omega) (by omega), w64_eq (by omega) (by omega)]
  exact h2'
end Go.Proofs.Ytplpmndchdockaa.M
