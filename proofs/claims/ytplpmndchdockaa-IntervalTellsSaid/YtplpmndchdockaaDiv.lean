import Derived.Test.YtplpmndchdockaaBits
import Derived.Test.YtplpmndchdockaaEvs
import Derived.Test.YtplpmndchdockaaKnuth
import Derived.Test.YtplpmndchdockaaDigits
import Derived.Test.YtplpmndchdockaaPr4
import Derived.Test.YtplpmndchdockaaPr3
namespace Go.Proofs.Ytplpmndchdockaa.M
open Go Go.RowKit Go.Proofs.Ytplpmndchdockaa.Pr Go.Proofs.YtplpmndchdockaaV.PrintWords Go.Proofs.YtplpmndchdockaaV.PrintLast Go.Proofs.YtplpmndchdockaaV.PrintMore
set_option autoImplicit false

/-! ### bits.Len64, LeadingZeros64 -/
def IsLen (x t : Int) : Prop := 0 ≤ t ∧ x < 2 ^ t.toNat ∧ (0 < x → 1 ≤ t ∧ 2 ^ (t.toNat - 1) ≤ x)
theorem IsLen.up {x t : Int} (n : Nat) (h : IsLen (x / 2 ^ n) t) (hx : 2 ^ n ≤ x) : IsLen x (t + n) := by
  obtain ⟨h0, h1, h2⟩ := h
  have hp : (0 : Int) < 2 ^ n := Int.pow_pos (by decide)
  have hq : 0 < x / 2 ^ n := by
    have := (Int.le_ediv_iff_mul_le hp (a := 1) (b := x)).mpr (by omega)
    omega
  obtain ⟨h3, h4⟩ := h2 hq
  refine ⟨by omega, ?_, fun _ => ⟨by omega, ?_⟩⟩
  · rw [show (t + n).toNat = t.toNat + n by omega, Int.pow_add]
    exact (Int.ediv_lt_iff_lt_mul hp).mp h1
  · rw [show (t + n).toNat - 1 = (t.toNat - 1) + n by omega, Int.pow_add]
    exact (Int.le_ediv_iff_mul_le hp).mp h4
def lenTab : ByteArray := (⟨#[0, 1, 2, 2, 3, 3, 3, 3, 4, 4, 4, 4, 4, 4, 4, 4, 5, 5, 5, 5, 5, 5, 5, 5, 5, 5, 5, 5, 5, 5, 5, 5, 6, 6, 6, 6, 6, 6, 6, 6, 6, 6, 6, 6, 6, 6, 6, 6, 6, 6, 6, 6, 6, 6, 6, 6, 6, 6, 6, 6, 6, 6, 6, 6, 7, 7, 7, 7, 7, 7, 7, 7, 7, 7, 7, 7, 7, 7, 7, 7, 7, 7, 7, 7, 7, 7, 7, 7, 7, 7, 7, 7, 7, 7, 7, 7, 7, 7, 7, 7, 7, 7, 7, 7, 7, 7, 7, 7, 7, 7, 7, 7, 7, 7, 7, 7, 7, 7, 7, 7, 7, 7, 7, 7, 7, 7, 7, 7, 8, 8, 8, 8, 8, 8, 8, 8, 8, 8, 8, 8, 8, 8, 8, 8, 8, 8, 8, 8, 8, 8, 8, 8, 8, 8, 8, 8, 8, 8, 8, 8, 8, 8, 8, 8, 8, 8, 8, 8, 8, 8, 8, 8, 8, 8, 8, 8, 8, 8, 8, 8, 8, 8, 8, 8, 8, 8, 8, 8, 8, 8, 8, 8, 8, 8, 8, 8, 8, 8, 8, 8, 8, 8, 8, 8, 8, 8, 8, 8, 8, 8, 8, 8, 8, 8, 8, 8, 8, 8, 8, 8, 8, 8, 8, 8, 8, 8, 8, 8, 8, 8, 8, 8, 8, 8, 8, 8, 8, 8, 8, 8, 8, 8, 8, 8, 8, 8, 8, 8, 8, 8, 8, 8, 8, 8, 8, 8]⟩ : ByteArray)
theorem lenTab_at : ∀ n : Fin 256, (bt lenTab (n.val : Int)).toNat ≤ 8 ∧ 0 ≤ bt lenTab (n.val : Int) ∧ n.val < 2 ^ (bt lenTab (n.val : Int)).toNat ∧ (0 < n.val → 1 ≤ (bt lenTab (n.val : Int)).toNat ∧ 2 ^ ((bt lenTab (n.val : Int)).toNat - 1) ≤ n.val) := by decide +kernel
theorem lenTab_is (x : Int) (h0 : 0 ≤ x) (h1 : x < 256) : IsLen x (bt lenTab x) ∧ bt lenTab x ≤ 8 := by
  obtain ⟨n, rfl⟩ := Int.eq_ofNat_of_zero_le h0
  obtain ⟨a, b, c, d⟩ := lenTab_at ⟨n, by omega⟩
  simp only at a b c d
  refine ⟨⟨b, ?_, fun h => ?_⟩, by omega⟩
  · have : ((n : Nat) : Int) < ((2 ^ (bt lenTab (n : Int)).toNat : Nat) : Int) := by exact_mod_cast c
    simpa using this
  · obtain ⟨e, f⟩ := d (by omega)
    refine ⟨by omega, ?_⟩
    have : ((2 ^ ((bt lenTab (n : Int)).toNat - 1) : Nat) : Int) ≤ ((n : Nat) : Int) := by exact_mod_cast f
    simpa using this
theorem w64s {n : Int} (h0 : 0 ≤ n) (h1 : n ≤ 200) : wrap64 n = n := w64_eq (by omega) (by omega)
theorem len64_eq (k : Nat) (x0 x2 : Int) : bits_Len64.j0 (k + 1) x0 x2 = (if x0 ≥ 65536 then (if (x0 / 65536) ≥ 256 then (if 0 ≤ (((x0 / 65536) / 256) % 256) then (if (((x0 / 65536) / 256) % 256) < 256 then (some (wrap64 ((wrap64 ((wrap64 (x2 + 16)) + 8)) + (wrap64 (bt lenTab (((x0 / 65536) / 256) % 256)))))) else (none)) else (none)) else (if 0 ≤ ((x0 / 65536) % 256) then (if ((x0 / 65536) % 256) < 256 then (some (wrap64 ((wrap64 (x2 + 16)) + (wrap64 (bt lenTab ((x0 / 65536) % 256)))))) else (none)) else (none))) else (if x0 ≥ 256 then (if 0 ≤ ((x0 / 256) % 256) then (if ((x0 / 256) % 256) < 256 then (some (wrap64 ((wrap64 (x2 + 8)) + (wrap64 (bt lenTab ((x0 / 256) % 256)))))) else (none)) else (none)) else (if 0 ≤ ((x0) % 256) then (if ((x0) % 256) < 256 then (some (wrap64 (x2 + (wrap64 (bt lenTab ((x0) % 256)))))) else (none)) else (none)))) := rfl
theorem len64_j (k : Nat) (x : Int) (h0 : 0 ≤ x) (h1 : x < 4294967296) (c : Int) (c0 : 0 ≤ c) (c1 : c ≤ 32) : ∃ t, bits_Len64.j0 (k + 1) x c = some (c + t) ∧ IsLen x t ∧ t ≤ 32 := by
  rw [len64_eq]
  by_cases a : x ≥ 65536
  · rw [if_pos a]
    by_cases b : x / 65536 ≥ 256
    · rw [if_pos b, if_pos (by omega), if_pos (by omega)]
      have e : x / 65536 / 256 % 256 = x / 65536 / 256 := by omega
      obtain ⟨t1, t2⟩ := lenTab_is (x / 65536 / 256) (by omega) (by omega)
      have t0 := t1.1
      rw [e]
      refine ⟨bt lenTab (x / 65536 / 256) + 24, ?_, ?_, by omega⟩
      · rw [w64s (n := bt _ _) t0 (by omega), w64s (n := c + 16) (by omega) (by omega), w64s (n := c + 16 + 8) (by omega) (by omega), w64s (by omega) (by omega)]
        congr 1; omega
      · have := (t1.up (x := x / 65536) 8 (by simpa using b)).up (x := x) 16 (by simpa using a)
        rw [show bt lenTab (x / 65536 / 256) + 24 = bt lenTab (x / 65536 / 256) + ((8 : Nat) : Int) + ((16 : Nat) : Int) by omega]
        exact this
    · rw [if_neg b, if_pos (by omega), if_pos (by omega)]
      have e : x / 65536 % 256 = x / 65536 := by omega
      obtain ⟨t1, t2⟩ := lenTab_is (x / 65536) (by omega) (by omega)
      have t0 := t1.1
      rw [e]
      refine ⟨bt lenTab (x / 65536) + 16, ?_, t1.up (x := x) 16 (by simpa using a), by omega⟩
      rw [w64s (n := bt _ _) t0 (by omega), w64s (n := c + 16) (by omega) (by omega), w64s (by omega) (by omega)]
      congr 1; omega
  · rw [if_neg a]
    by_cases b : x ≥ 256
    · rw [if_pos b, if_pos (by omega), if_pos (by omega)]
      have e : x / 256 % 256 = x / 256 := by omega
      obtain ⟨t1, t2⟩ := lenTab_is (x / 256) (by omega) (by omega)
      have t0 := t1.1
      rw [e]
      refine ⟨bt lenTab (x / 256) + 8, ?_, t1.up (x := x) 8 (by simpa using b), by omega⟩
      rw [w64s (n := bt _ _) t0 (by omega), w64s (n := c + 8) (by omega) (by omega), w64s (by omega) (by omega)]
      congr 1; omega
    · rw [if_neg b, if_pos (by omega), if_pos (by omega)]
      have e : x % 256 = x := by omega
      obtain ⟨t1, t2⟩ := lenTab_is x (by omega) (by omega)
      have t0 := t1.1
      rw [e]
      refine ⟨bt lenTab x, ?_, t1, by omega⟩
      rw [w64s (n := bt _ _) t0 (by omega), w64s (by omega) (by omega)]
theorem len64 (k : Nat) (x : Int) (h0 : 0 ≤ x) (h1 : x < 18446744073709551616) : ∃ t, bits_Len64.f (k + 1) x = some t ∧ IsLen x t ∧ t ≤ 64 := by
  unfold bits_Len64.f
  by_cases a : x ≥ 4294967296
  · rw [if_pos a]
    obtain ⟨t, h, ht, hl⟩ := len64_j k (x / 4294967296) (by omega) (by omega) 32 (by omega) (by omega)
    refine ⟨_, h, ?_, by omega⟩
    have := ht.up (x := x) 32 (by simpa using a)
    rw [Int.add_comm]; exact this
  · rw [if_neg a]
    obtain ⟨t, h, ht, hl⟩ := len64_j k x h0 (by omega) 0 (by omega) (by omega)
    refine ⟨_, h, ?_, by omega⟩
    rw [Int.zero_add]; exact ht
/-- How many zeros stand in front. -/
theorem lead64 (k : Nat) (x : Int) (h0 : 0 < x) (h1 : x < 18446744073709551616) : ∃ s : Nat, bits_LeadingZeros64.f (k + 1) x = some (s : Int) ∧ s ≤ 63 ∧ 9223372036854775808 ≤ x * 2 ^ s ∧ x * 2 ^ s < 18446744073709551616 := by
  obtain ⟨t, h, ⟨t0, t1, t2⟩, tl⟩ := len64 k x (by omega) h1
  obtain ⟨t3, t4⟩ := t2 h0
  refine ⟨(64 - t).toNat, ?_, by omega, ?_, ?_⟩
  · unfold bits_LeadingZeros64.f
    rw [h]; simp only [Option.bind_some]
    rw [w64s (by omega) (by omega)]
    congr 1; omega
  · have := Int.mul_le_mul_of_nonneg_right t4 (Int.le_of_lt (show (0 : Int) < 2 ^ (64 - t).toNat from Int.pow_pos (by decide)))
    rw [← Int.pow_add, show t.toNat - 1 + (64 - t).toNat = 63 by omega] at this
    simpa using this
  · have := Int.mul_lt_mul_of_pos_right t1 (show (0 : Int) < 2 ^ (64 - t).toNat from Int.pow_pos (by decide))
    rw [← Int.pow_add, show t.toNat + (64 - t).toNat = 64 by omega] at this
    simpa using this

/-! ### bits.Div64 -/
/-- One digit of a quotient by two digits: what stands before and in its loop. -/
structure D2 (v1 v2 v top u R : Int) : Prop where
  h1 : 2147483648 ≤ v1
  h1B : v1 < 4294967296
  h2 : 0 ≤ v2
  h2B : v2 < 4294967296
  ev : v = v1 * 4294967296 + v2
  ht : 0 ≤ top
  htv : top < v
  hu : 0 ≤ u
  huB : u < 4294967296
  eR : R = top * 4294967296 + u
theorem D2.kn {v1 v2 v top u R : Int} (d : D2 v1 v2 v top u R) : Kn 4294967296 v1 v2 0 1 v top u 0 R := by
  obtain ⟨h1, h1B, h2, h2B, ev, ht, htv, hu, huB, eR⟩ := d
  exact ⟨by decide, by decide, by omega, h1B, h2, h2B, by decide, by decide, by omega, ht, hu, huB, by decide, by decide, by omega, by omega⟩
theorem D2.exact_ {v1 v2 v top u R : Int} (d : D2 v1 v2 v top u R) {q r : Int} (e : q * v1 + r = top) (g : q * v2 ≤ r * 4294967296 + u) : q ≤ R / v := by
  have hv : 0 < v := d.kn.vpos'
  refine (Int.le_ediv_iff_mul_le hv).mpr ?_
  have e1 : q * v = (q * v1) * 4294967296 + q * v2 := by rw [d.ev]; grind
  have := d.eR; omega
theorem D2.qbd {v1 v2 v top u R : Int} (d : D2 v1 v2 v top u R) {q r : Int} (e : q * v1 + r = top) (q0 : 0 ≤ q) (r0 : 0 ≤ r) : q < 8589934592 ∧ q * v1 < 18446744073709551616 := by
  have hk := d.kn.top_lt
  have h3 : q * 2147483648 ≤ q * v1 := Int.mul_le_mul_of_nonneg_left d.h1 q0
  have := d.htv; have := d.ev; have := d.h1B; have := d.h2B
  omega
theorem div64_l0 {v1 v2 v top u R : Int} (d : D2 v1 v2 v top u R) (s u0 : Int) (res : Int × Int) (hres : Ev (fun k => bits_Div64.j2 k v s v1 v2 top u u0 (R / v)) res) :
    ∀ (n : Nat) (q r : Int), q.toNat ≤ n → q * v1 + r = top → R / v ≤ q → 0 ≤ q → 0 ≤ r → r < 4294967296 → Ev (fun k => bits_Div64.l0 k v s v1 v2 top u u0 q r) res := by
  have hv : 0 < v := d.kn.vpos'
  have hR0 : 0 ≤ R / v := Int.ediv_nonneg d.kn.Rnn (Int.le_of_lt hv)
  have := d.h1; have := d.h1B; have := d.h2; have := d.h2B; have := d.hu; have := d.huB
  intro n
  induction n with
  | zero =>
    intro q r hn e hq q0 r0 rB
    have hq0 : q = 0 := by omega
    subst hq0
    refine Ev.step (f := fun k => bits_Div64.j1 k v s v1 v2 top u u0 0 r false) (fun k => ?_) ?_
    · simp only [bits_Div64.l0]; rw [if_neg (by omega), Int.zero_mul, u64_eq (by omega) (by omega), u64_eq (n := 4294967296 * r) (by omega) (by omega), u64_eq (by omega) (by omega)]
      rw [decide_eq_false (by omega)]
    · refine Ev.step (f := fun k => bits_Div64.j2 k v s v1 v2 top u u0 0) (fun k => ?_) ?_
      · simp only [bits_Div64.j1]; rw [if_neg (by decide)]
      · rw [show (R / v) = 0 by omega] at hres; exact hres
  | succ n ih =>
    intro q r hn e hq q0 r0 rB
    obtain ⟨qb, _⟩ := d.qbd e q0 r0
    have next : ∀ (h : q ≥ 4294967296 ∨ q * v2 > r * 4294967296 + u), Ev (fun k => bits_Div64.j1 k v s v1 v2 top u u0 q r true) res := by
      intro h
      have hd := d.kn.dec e hq q0 h
      by_cases c : r + v1 ≥ 4294967296
      · refine Ev.step (f := fun k => bits_Div64.j2 k v s v1 v2 top u u0 (q - 1)) (fun k => ?_) ?_
        · simp only [bits_Div64.j1]
          rw [if_pos trivial, u64_eq (n := r + v1) (by omega) (by omega), if_pos c, u64_eq (by omega) (by omega)]
        · have e' : (q - 1) * v1 + (r + v1) = top := by rw [← e]; grind
          obtain ⟨x1, x2⟩ := d.kn.exit2 e' c
          have := d.exact_ e' x2
          rw [show q - 1 = R / v by omega]; exact hres
      · refine Ev.step (f := fun k => bits_Div64.l0 k v s v1 v2 top u u0 (q - 1) (r + v1)) (fun k => ?_) ?_
        · simp only [bits_Div64.j1]
          rw [if_pos trivial, u64_eq (n := r + v1) (by omega) (by omega), if_neg c, u64_eq (by omega) (by omega)]
        · exact ih (q - 1) (r + v1) (by omega) (by rw [← e]; grind) hd (by omega) (by omega) (by omega)
    by_cases a : q ≥ 4294967296
    · refine Ev.step (f := fun k => bits_Div64.j1 k v s v1 v2 top u u0 q r true) (fun k => ?_) (next (.inl a))
      simp only [bits_Div64.l0]; rw [if_pos a]
    · have hm := mulbd (a := q) (b := v2) (M := 4294967295) (N := 4294967295) q0 (by omega) (by omega) (by omega)
      have e1 : IntKind.u64.wrap ((IntKind.u64.wrap (4294967296 * r)) + u) = r * 4294967296 + u := by
        rw [u64_eq (n := 4294967296 * r) (by omega) (by omega), u64_eq (by omega) (by omega)]; omega
      by_cases b : q * v2 > r * 4294967296 + u
      · refine Ev.step (f := fun k => bits_Div64.j1 k v s v1 v2 top u u0 q r true) (fun k => ?_) (next (.inr b))
        simp only [bits_Div64.l0]; rw [if_neg a, e1, u64_eq hm.1 (by omega), decide_eq_true b]
      · refine Ev.step (f := fun k => bits_Div64.j1 k v s v1 v2 top u u0 q r false) (fun k => ?_) ?_
        · simp only [bits_Div64.l0]; rw [if_neg a, e1, u64_eq hm.1 (by omega), decide_eq_false b]
        · refine Ev.step (f := fun k => bits_Div64.j2 k v s v1 v2 top u u0 q) (fun k => ?_) ?_
          · simp only [bits_Div64.j1]; rw [if_neg (by decide)]
          · have := d.exact_ e (by omega)
            rw [show q = R / v by omega]; exact hres
theorem div64_l1 {v1 v2 v top u R : Int} (d : D2 v1 v2 v top u R) (s q1 : Int) (hs : 0 ≤ s) :
    ∀ (n : Nat) (q r : Int), q.toNat ≤ n → q * v1 + r = top → R / v ≤ q → 0 ≤ q → 0 ≤ r → r < 4294967296 → Ev (fun k => bits_Div64.l1 k v s v1 v2 u q1 r top q) (IntKind.u64.wrap ((IntKind.u64.wrap (q1 * 4294967296)) + R / v), shr .u64 (IntKind.u64.wrap ((IntKind.u64.wrap ((IntKind.u64.wrap (top * 4294967296)) + u)) - (IntKind.u64.wrap ((R / v) * v)))) s) := by
  have hv : 0 < v := d.kn.vpos'
  have hR0 : 0 ≤ R / v := Int.ediv_nonneg d.kn.Rnn (Int.le_of_lt hv)
  have := d.h1; have := d.h1B; have := d.h2; have := d.h2B; have := d.hu; have := d.huB
  have fin : ∀ (q r : Int), q = R / v → Ev (fun k => bits_Div64.j4 k v s v1 v2 u q1 r top q false) (IntKind.u64.wrap ((IntKind.u64.wrap (q1 * 4294967296)) + R / v), shr .u64 (IntKind.u64.wrap ((IntKind.u64.wrap ((IntKind.u64.wrap (top * 4294967296)) + u)) - (IntKind.u64.wrap ((R / v) * v)))) s) := by
    rintro q r rfl
    refine Ev.step (f := fun k => some _) (fun k => ?_) (Ev.now _)
    simp only [bits_Div64.j4]; rw [if_neg (by decide), if_pos hs]
  intro n
  induction n with
  | zero =>
    intro q r hn e hq q0 r0 rB
    have hq0 : q = 0 := by omega
    subst hq0
    refine Ev.step (f := fun k => bits_Div64.j4 k v s v1 v2 u q1 r top 0 false) (fun k => ?_) (fin _ _ (by omega))
    simp only [bits_Div64.l1]; rw [if_neg (by omega), Int.zero_mul, u64_eq (by omega) (by omega), u64_eq (n := 4294967296 * r) (by omega) (by omega), u64_eq (by omega) (by omega)]
    rw [decide_eq_false (by omega)]
  | succ n ih =>
    intro q r hn e hq q0 r0 rB
    obtain ⟨qb, _⟩ := d.qbd e q0 r0
    have next : ∀ (h : q ≥ 4294967296 ∨ q * v2 > r * 4294967296 + u), Ev (fun k => bits_Div64.j4 k v s v1 v2 u q1 r top q true) (IntKind.u64.wrap ((IntKind.u64.wrap (q1 * 4294967296)) + R / v), shr .u64 (IntKind.u64.wrap ((IntKind.u64.wrap ((IntKind.u64.wrap (top * 4294967296)) + u)) - (IntKind.u64.wrap ((R / v) * v)))) s) := by
      intro h
      have hd := d.kn.dec e hq q0 h
      by_cases c : r + v1 ≥ 4294967296
      · have e' : (q - 1) * v1 + (r + v1) = top := by rw [← e]; grind
        obtain ⟨x1, x2⟩ := d.kn.exit2 e' c
        have := d.exact_ e' x2
        refine Ev.step (f := fun k => some _) (fun k => ?_) (Ev.now _)
        simp only [bits_Div64.j4]
        rw [if_pos trivial, u64_eq (n := r + v1) (by omega) (by omega), if_pos c, if_pos hs, u64_eq (n := q - 1) (by omega) (by omega), show q - 1 = R / v by omega]
      · refine Ev.step (f := fun k => bits_Div64.l1 k v s v1 v2 u q1 (r + v1) top (q - 1)) (fun k => ?_) ?_
        · simp only [bits_Div64.j4]
          rw [if_pos trivial, u64_eq (n := r + v1) (by omega) (by omega), if_neg c, u64_eq (n := q - 1) (by omega) (by omega)]
        · exact ih (q - 1) (r + v1) (by omega) (by rw [← e]; grind) hd (by omega) (by omega) (by omega)
    by_cases a : q ≥ 4294967296
    · refine Ev.step (f := fun k => bits_Div64.j4 k v s v1 v2 u q1 r top q true) (fun k => ?_) (next (.inl a))
      simp only [bits_Div64.l1]; rw [if_pos a]
    · have hm := mulbd (a := q) (b := v2) (M := 4294967295) (N := 4294967295) q0 (by omega) (by omega) (by omega)
      have e1 : IntKind.u64.wrap ((IntKind.u64.wrap (4294967296 * r)) + u) = r * 4294967296 + u := by
        rw [u64_eq (n := 4294967296 * r) (by omega) (by omega), u64_eq (by omega) (by omega)]; omega
      by_cases b : q * v2 > r * 4294967296 + u
      · refine Ev.step (f := fun k => bits_Div64.j4 k v s v1 v2 u q1 r top q true) (fun k => ?_) (next (.inr b))
        simp only [bits_Div64.l1]; rw [if_neg a, e1, u64_eq hm.1 (by omega), decide_eq_true b]
      · refine Ev.step (f := fun k => bits_Div64.j4 k v s v1 v2 u q1 r top q false) (fun k => ?_) (fin _ _ ?_)
        · simp only [bits_Div64.l1]; rw [if_neg a, e1, u64_eq hm.1 (by omega), decide_eq_false b]
        · have := d.exact_ e (by omega)
          omega
theorem D2.top_le {v1 v2 v top u R : Int} (d : D2 v1 v2 v top u R) : R / v ≤ top / v1 := by
  have hv : 0 < v := d.kn.vpos'
  have h1 : 0 < v1 := by have := d.h1; omega
  have h2 : top < (top / v1 + 1) * v1 := Int.lt_ediv_add_one_mul_self top h1
  have h3 : R < (top / v1 + 1) * v := by
    have e : (top / v1 + 1) * v = ((top / v1 + 1) * v1) * 4294967296 + (top / v1 + 1) * v2 := by rw [d.ev]; grind
    have : 0 ≤ (top / v1 + 1) * v2 := Int.mul_nonneg (by have := Int.ediv_nonneg d.ht (Int.le_of_lt h1); omega) d.h2
    have := d.eR; have := d.huB; omega
  have := Int.ediv_lt_of_lt_mul hv h3
  omega
/-- What a loop begins with: quotient and rest by the first digit. -/
theorem D2.start {v1 v2 v top u R : Int} (d : D2 v1 v2 v top u R) : IntKind.u64.wrap (Int.tdiv top v1) = top / v1 ∧ IntKind.u64.wrap (top - (IntKind.u64.wrap ((top / v1) * v1))) = top % v1 ∧ 0 ≤ top / v1 ∧ 0 ≤ top % v1 ∧ top % v1 < 4294967296 ∧ (top / v1) * v1 + top % v1 = top := by
  have h1 : 0 < v1 := by have := d.h1; omega
  have q0 := Int.ediv_nonneg d.ht (Int.le_of_lt h1)
  have r0 := Int.emod_nonneg top (Int.ne_of_gt h1)
  have rl := Int.emod_lt_of_pos top h1
  have e : (top / v1) * v1 + top % v1 = top := by have := Int.ediv_mul_add_emod top v1; omega
  obtain ⟨a, b⟩ := d.qbd e q0 r0
  have hm := Int.mul_nonneg q0 (Int.le_of_lt h1)
  refine ⟨?_, ?_, q0, r0, by have := d.h1B; omega, e⟩
  · rw [Int.tdiv_eq_ediv_of_nonneg d.ht, u64_eq q0 (by omega)]
  · rw [u64_eq hm b, show top - top / v1 * v1 = top % v1 by omega, u64_eq r0 (by have := d.h1B; omega)]
theorem div64_j2 {v1 v2 v top u R : Int} (d : D2 v1 v2 v top u R) (hv64 : v < 18446744073709551616) (s u0 : Int) (hs : 0 ≤ s) (hu0 : 0 ≤ u0) (hu1 : u0 < 4294967296) :
    Ev (fun k => bits_Div64.j2 k v s v1 v2 top u u0 (R / v)) ((R / v) * 4294967296 + ((R % v) * 4294967296 + u0) / v, shr .u64 (((R % v) * 4294967296 + u0) % v) s) := by
  have hv : 0 < v := d.kn.vpos'
  have h1 : 0 < v1 := by have := d.h1; omega
  have hm0 := Int.emod_nonneg R (Int.ne_of_gt hv)
  have hml := Int.emod_lt_of_pos R hv
  have hq0 := Int.ediv_nonneg d.kn.Rnn (Int.le_of_lt hv)
  have hqB := d.kn.qs_lt
  have eR := Int.ediv_mul_add_emod R v
  have d2 : D2 v1 v2 v (R % v) u0 ((R % v) * 4294967296 + u0) := ⟨d.h1, d.h1B, d.h2, d.h2B, d.ev, hm0, hml, hu0, hu1, rfl⟩
  have hun : IntKind.u64.wrap ((IntKind.u64.wrap ((IntKind.u64.wrap (top * 4294967296)) + u)) - (IntKind.u64.wrap ((R / v) * v))) = R % v := by
    simp only [u64_mod]
    have := d.eR
    generalize R / v * v = z at *
    generalize R % v = m at *
    omega
  obtain ⟨s1, s2, s3, s4, s5, s6⟩ := d2.start
  have q20 := Int.ediv_nonneg d2.kn.Rnn (Int.le_of_lt hv)
  have q2B := d2.kn.qs_lt
  have e2 := Int.ediv_mul_add_emod ((R % v) * 4294967296 + u0) v
  have m20 := Int.emod_nonneg ((R % v) * 4294967296 + u0) (Int.ne_of_gt hv)
  have m2l := Int.emod_lt_of_pos ((R % v) * 4294967296 + u0) hv
  have hl := div64_l1 d2 s (R / v) hs ((R % v) / v1).toNat ((R % v) / v1) ((R % v) % v1) (Nat.le_refl _) s6 d2.top_le s3 s4 s5
  have hf : IntKind.u64.wrap ((IntKind.u64.wrap ((IntKind.u64.wrap ((R % v) * 4294967296)) + u0)) - (IntKind.u64.wrap ((((R % v) * 4294967296 + u0) / v) * v))) = ((R % v) * 4294967296 + u0) % v := by
    simp only [u64_mod]
    generalize ((R % v) * 4294967296 + u0) / v * v = z at *
    generalize ((R % v) * 4294967296 + u0) % v = m at *
    omega
  rw [hf] at hl
  rw [u64_eq (n := R / v * 4294967296) (by omega) (by omega), u64_eq (by omega) (by omega)] at hl
  refine Ev.step (fun k => ?_) hl
  simp only [bits_Div64.j2]
  rw [if_neg (by omega), hun, s1, s2]
theorem pow_split (s : Nat) (h : s ≤ 64) : (2 : Int) ^ s * 2 ^ (64 - s) = 18446744073709551616 := by
  rw [← Int.pow_add, show s + (64 - s) = 64 by omega]; rfl
theorem or_shift {x y : Int} (s : Nat) (hs : s ≤ 63) (h0 : 0 ≤ x) (h1 : x * 2 ^ s < 18446744073709551616) (h2 : 0 ≤ y) (h3 : y < 2 ^ s) : Go.bits .or .u64 (x * 2 ^ s) y = x * 2 ^ s + y := by
  have hp : (0 : Int) < 2 ^ s := Int.pow_pos (by decide)
  have hb : (2 : Int) ^ s < 18446744073709551616 := by
    have : (2 : Int) ^ s ≤ 2 ^ 63 := pow_mono (by decide) hs
    have e : (2 : Int) ^ 63 = 9223372036854775808 := by decide
    omega
  exact bits_join .u64 64 (by decide) u64_wraps s _ y (Int.mul_nonneg h0 (Int.le_of_lt hp)) (Int.mul_emod_left _ _) (by simpa using h1) h2 h3 (by simp; omega)
theorem div64 (hi lo y : Int) (h0 : 0 ≤ hi) (h1 : hi < y) (hy : y < 18446744073709551616) (l0 : 0 ≤ lo) (l1 : lo < 18446744073709551616) :
    Ev (fun k => bits_Div64.f k hi lo y) ((hi * 18446744073709551616 + lo) / y, (hi * 18446744073709551616 + lo) % y) := by
  have hy0 : 0 < y := by omega
  by_cases hz : hi = 0
  · subst hz
    refine Ev.congr (f := fun k => some _) (fun k => ?_) (Ev.now _)
    unfold bits_Div64.f
    rw [if_neg (by omega), if_neg (by omega), if_pos rfl, Int.tdiv_eq_ediv_of_nonneg l0, Int.tmod_eq_emod_of_nonneg l0]
    rw [u64_eq (Int.ediv_nonneg l0 (by omega)) (Int.lt_of_le_of_lt (Int.ediv_le_self _ l0) l1)]
    simp
  · obtain ⟨s, hs, s63, sy0, sy1⟩ := lead64 0 y hy0 hy
    have hlead : Ev (fun k => bits_LeadingZeros64.f k y) (s : Int) := Ev.of (fun k => bits_LeadingZeros64.mono y k) hs
    have hp : (0 : Int) < 2 ^ s := Int.pow_pos (by decide)
    have hc : (0 : Int) < 2 ^ (64 - s) := Int.pow_pos (by decide)
    have hpc := pow_split s (by omega)
    have hyp : hi * 2 ^ s + 2 ^ s ≤ y * 2 ^ s := by
      have := Int.mul_le_mul_of_nonneg_right (show hi + 1 ≤ y by omega) (Int.le_of_lt hp)
      rw [Int.add_mul, Int.one_mul] at this; exact this
    have hh0 : 0 ≤ hi * 2 ^ s := Int.mul_nonneg h0 (Int.le_of_lt hp)
    have e1 : shl .u64 y (s : Int) = y * 2 ^ s := by
      unfold shl; rw [show min (s : Int).toNat IntKind.u64.bits = s by simp [IntKind.bits] <;> omega, u64_eq (by omega) (by omega)]
    have e2 : shl .u64 hi (s : Int) = hi * 2 ^ s := by
      unfold shl; rw [show min (s : Int).toNat IntKind.u64.bits = s by simp [IntKind.bits] <;> omega, u64_eq (by omega) (by omega)]
    have e3 : shr .u64 lo (64 - (s : Int)) = lo / 2 ^ (64 - s) := by
      unfold shr; rw [show min (64 - (s : Int)).toNat IntKind.u64.bits = 64 - s by simp [IntKind.bits] <;> omega]
    have c1 : lo / 2 ^ (64 - s) < 2 ^ s := Int.ediv_lt_of_lt_mul hc (by rw [hpc]; exact l1)
    have c0 : 0 ≤ lo / 2 ^ (64 - s) := Int.ediv_nonneg l0 (Int.le_of_lt hc)
    have elo : lo * 2 ^ s = (lo / 2 ^ (64 - s)) * 18446744073709551616 + (lo % 2 ^ (64 - s)) * 2 ^ s := by
      have := Int.ediv_mul_add_emod lo (2 ^ (64 - s))
      conv => lhs; rw [← this]
      rw [← hpc]; grind
    have m1 : (lo % 2 ^ (64 - s)) * 2 ^ s + 2 ^ s ≤ 18446744073709551616 := by
      have := Int.mul_le_mul_of_nonneg_right (show lo % 2 ^ (64 - s) + 1 ≤ 2 ^ (64 - s) from Int.emod_lt_of_pos lo hc) (Int.le_of_lt hp)
      rw [Int.add_mul, Int.one_mul] at this
      have e : (2 : Int) ^ (64 - s) * 2 ^ s = 2 ^ s * 2 ^ (64 - s) := Int.mul_comm _ _
      rw [e, hpc] at this; exact this
    have m0 : 0 ≤ (lo % 2 ^ (64 - s)) * 2 ^ s := Int.mul_nonneg (Int.emod_nonneg lo (Int.ne_of_gt hc)) (Int.le_of_lt hp)
    have e4 : shl .u64 lo (s : Int) = (lo % 2 ^ (64 - s)) * 2 ^ s := by
      unfold shl; rw [show min (s : Int).toNat IntKind.u64.bits = s by simp [IntKind.bits] <;> omega, u64_mod, elo]; omega
    have e5 : Go.bits .or .u64 (hi * 2 ^ s) (lo / 2 ^ (64 - s)) = hi * 2 ^ s + lo / 2 ^ (64 - s) := or_shift s s63 h0 (by omega) c0 c1
    have hU : (hi * 18446744073709551616 + lo) * 2 ^ s = (hi * 2 ^ s + lo / 2 ^ (64 - s)) * 18446744073709551616 + (lo % 2 ^ (64 - s)) * 2 ^ s := by
      rw [Int.add_mul, elo]; grind
    have hyp2 : (hi * 18446744073709551616 + lo) * 2 ^ s / (y * 2 ^ s) = (hi * 18446744073709551616 + lo) / y := Int.mul_ediv_mul_of_pos_left _ _ hp
    have hmod2 : (hi * 18446744073709551616 + lo) * 2 ^ s % (y * 2 ^ s) = ((hi * 18446744073709551616 + lo) % y) * 2 ^ s := by
      have a1 := Int.ediv_mul_add_emod ((hi * 18446744073709551616 + lo) * 2 ^ s) (y * 2 ^ s)
      have a2 := Int.ediv_mul_add_emod (hi * 18446744073709551616 + lo) y
      rw [hyp2] at a1
      have a3 : ((hi * 18446744073709551616 + lo) / y * y + (hi * 18446744073709551616 + lo) % y) * 2 ^ s = (hi * 18446744073709551616 + lo) * 2 ^ s := by rw [a2]
      rw [Int.add_mul] at a3
      have a4 : (hi * 18446744073709551616 + lo) / y * (y * 2 ^ s) = (hi * 18446744073709551616 + lo) / y * y * 2 ^ s := by grind
      omega
    have hmnn := Int.emod_nonneg (hi * 18446744073709551616 + lo) (Int.ne_of_gt hy0)
    generalize hW : hi * 18446744073709551616 + lo = W at *
    generalize y * 2 ^ s = Y at *
    generalize hi * 2 ^ s = A at *
    generalize lo / 2 ^ (64 - s) = C at *
    generalize (lo % 2 ^ (64 - s)) * 2 ^ s = E at *
    have d : D2 (Y / 4294967296) (Y % 4294967296) Y (A + C) (E / 4294967296) ((A + C) * 4294967296 + E / 4294967296) :=
      ⟨by omega, by omega, by omega, by omega, by omega, by omega, by omega, by omega, by omega, rfl⟩
    have hj := div64_j2 d sy1 s (E % 4294967296) (by omega) (by omega) (by omega)
    have hv : 0 < Y := by omega
    obtain ⟨s1, s2, s3, s4, s5, s6⟩ := d.start
    have hl := div64_l0 d s (E % 4294967296) _ hj ((A + C) / (Y / 4294967296)).toNat ((A + C) / (Y / 4294967296)) ((A + C) % (Y / 4294967296)) (Nat.le_refl _) s6 d.top_le s3 s4 s5
    refine use hlead (F' := fun k => bits_Div64.l0 k Y s (Y / 4294967296) (Y % 4294967296) (A + C) (E / 4294967296) (E % 4294967296) ((A + C) / (Y / 4294967296)) ((A + C) % (Y / 4294967296))) ?_ (fun k hk => ?_)
    rotate_left
    · unfold bits_Div64.f
      rw [if_neg (by omega), if_neg (by omega), if_neg hz, hk]
      simp only [Option.bind_some]
      rw [u64_eq (n := (s : Int)) (by omega) (by omega), u64_eq (n := 64 - (s : Int)) (by omega) (by omega), e1, e2, e3, e4, e5]
      rw [if_pos (by omega), if_pos (by omega), if_neg (by omega), and32 (by omega) (by omega), and32 (by omega) (by omega), s1, s2]
    · have f1 : ((A + C) * 4294967296 + E / 4294967296) * 4294967296 + E % 4294967296 = W * 2 ^ s := by rw [hU]; omega
      generalize (A + C) * 4294967296 + E / 4294967296 = R at *
      have g1 := Int.ediv_mul_add_emod R Y
      have g2 : R / Y * 4294967296 + (R % Y * 4294967296 + E % 4294967296) / Y = W * 2 ^ s / Y := by
        rw [← f1]
        have : R * 4294967296 + E % 4294967296 = (R % Y * 4294967296 + E % 4294967296) + (R / Y * 4294967296) * Y := by
          have : (R / Y * 4294967296) * Y = (R / Y * Y) * 4294967296 := by grind
          omega
        rw [this, Int.add_mul_ediv_right _ _ (Int.ne_of_gt hv)]; omega
      have g3 : (R % Y * 4294967296 + E % 4294967296) % Y = W * 2 ^ s % Y := by
        rw [← f1]
        have : R * 4294967296 + E % 4294967296 = (R % Y * 4294967296 + E % 4294967296) + (R / Y * 4294967296) * Y := by
          have : (R / Y * 4294967296) * Y = (R / Y * Y) * 4294967296 := by grind
          omega
        rw [this, Int.add_mul_emod_self_right]
      rw [g2, g3, hyp2, hmod2] at hl
      have g4 : shr .u64 (W % y * 2 ^ s) (s : Int) = W % y := by
        unfold shr
        rw [show min (s : Int).toNat IntKind.u64.bits = s by simp [IntKind.bits] <;> omega]
        exact Int.mul_ediv_cancel _ (Int.ne_of_gt hp)
      rw [g4] at hl
      exact hl
end Go.Proofs.Ytplpmndchdockaa.M
