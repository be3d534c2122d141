import Derived.Test.YtplpmndchdockaaDoorRefD
import Derived.Test.YtplpmndchdockaaDoorScaleQ
/-! The reference's fractions: fixed, Ends, Times, Scale. -/
namespace Go.Proofs.YtplpmndchdockaaDoor.M
open Go Go.RowKit Go.Proofs.YtplpmndchdockaaDoorV.PrintWords
set_option autoImplicit false
set_option linter.unusedVariables false
set_option linter.unusedSimpArgs false

theorem two_digits {n : Nat} (h : n < 18446744073709551616) : (n : Int) = (digs 4294967296 n).getD 1 0 * 4294967296 + (digs 4294967296 n).getD 0 0 ∧ 0 ≤ (digs 4294967296 n).getD 0 0 ∧ (digs 4294967296 n).getD 0 0 < 4294967296 ∧ 0 ≤ (digs 4294967296 n).getD 1 0 ∧ (digs 4294967296 n).getD 1 0 < 4294967296 := by
  have h0 := getD_val (by omega) (rDg n) 0
  have h1 := getD_val (by omega) (rDg n) 1
  rw [rVal] at h0 h1
  rw [Int.pow_zero, Int.ediv_one] at h0
  rw [show (4294967296 : Int) ^ 1 = 4294967296 from rfl] at h1
  have h2 := (rDg n).get (by omega) 0
  have h3 := (rDg n).get (by omega) 1
  refine ⟨?_, h2.1, h2.2, h3.1, h3.2⟩
  omega
theorem or_two {x y : Int} (x0 : 0 ≤ x) (x1 : x < 4294967296) (y0 : 0 ≤ y) (y1 : y < 4294967296) : Go.bits .or .u64 (x * 4294967296) y = x * 4294967296 + y := or32 x0 x1 y0 y1
theorem rdigs (n lo : Nat) (hn : n ≤ 2305843009213693952) : ∃ x y : Int, IntKind.u64.wrap (x * 4294967296) = x * 4294967296 ∧ Go.bits .or .u64 (x * 4294967296) y = n ∧
    (∀ w A L c, Nf 4294967296 lo w (.slice A L c) n → Calls Tryd.prog 143 #[.slice A L c, .int .i64 1] w fun e w' => e = .returned (.int .u64 x) ∧ ∃ q, w' = w.drewN q) ∧
    (∀ w A L c, Nf 4294967296 lo w (.slice A L c) n → Calls Tryd.prog 143 #[.slice A L c, .int .i64 0] w fun e w' => e = .returned (.int .u64 y) ∧ ∃ q, w' = w.drewN q) := by
  obtain ⟨d, d0, d1, d2, d3⟩ := two_digits (n := n) (by omega)
  refine ⟨(digs 4294967296 n).getD 1 0, (digs 4294967296 n).getD 0 0, ?_, ?_, fun w A L c ha => rdigit_c _ ha 1, fun w A L c ha => rdigit_c _ ha 0⟩
  · exact u64_eq (by omega) (by omega)
  · rw [or_two d2 d3 d0 d1]; exact d.symm
theorem rlimit_c : ∃ K : Nat, K = 2305843009213693952 ∧ Rm K ∧ ∀ w, Calls Tryd.prog 122 #[.int .u64 2305843009213693952] w (RetN 4294967296 w.heap.size K w) :=
  ⟨_, rfl, Rm.abs (a := 2305843009213693952) (by omega) (by omega), fun _ => rnatural_c _ (n := 2305843009213693952) (by omega)⟩
set_option maxHeartbeats 1000000 in
theorem fixed_c (w : World) (b : Bool) {A : Option Addr} {L c n lo : Nat} (ha : Nf 4294967296 lo w (.slice A L c) n) (sn : Rm n) :
    Calls Tryd.prog 123 #[.bool b, .slice A L c] w fun e w' => e = .returned (if n ≤ 2305843009213693952 then .tuple #[.int .i64 (if b = true then -(n : Int) else (n : Int)), .bool true] else .tuple #[.int .i64 0, .bool false]) ∧ Below w.heap.size w w' := by
  obtain ⟨K, hK, sm, hlim⟩ := rlimit_c
  rw [← hK]
  have hc : rcmpI (n : Int) (K : Int) > 0 ↔ ¬ n ≤ K := by
    unfold rcmpI
    repeat' split
    all_goals omega
  have hS := Aside0.mk sn
  by_cases hn : n ≤ K
  · have h0 : ¬ rcmpI (n : Int) (K : Int) > 0 := fun h => hc.mp h hn
    clear hc
    rw [if_pos hn]
    go_enter Tryd.func123, Tryd.ntmps123
    go_wp2_with fail
    refine after (hlim _) ?_; intro A1 L1 c1 w1 h1 b1 z1 hc1 hf1
    go_wp2_with fail
    refine afterQ (rcmp_c _ (ha.below b1) h1 sn sm) ?_; intro w2 b2 z2 hc2 hf2
    replace ha := (ha.below b1).below b2
    have H2 := Aside0.mk (below_trans b1 b2)
    have hK := Aside0.mk (And.intro hK hn)
    clear b1 b2 z1 z2 hc1 hf1 hc2 hf2 h1 sn sm hn hlim
    generalize rcmpI (n : Int) (K : Int) = cc at *
    have h1 : cc ≤ 0 := by omega
    clear h0
    obtain ⟨x, y, e0, hd, g1, g0⟩ := rdigs n lo (by have := hK.out; omega)
    go_wp2_with fail
    refine afterQ (g1 _ _ _ _ ha) ?_; intro wa ba za hca hfa; replace ha := ha.below ba; replace H2 := Aside0.mk (below_trans H2.out ba); clear hca hfa za ba
    go_wp2_with fail
    refine afterQ (g0 _ _ _ _ ha) ?_; intro wb bb zb hcb hfb; replace H2 := Aside0.mk (below_trans H2.out bb); clear hcb hfb zb bb ha g0 g1
    have e2 : wrap64 (n : Int) = n := by have := hK.out; unfold wrap64; omega
    have e3 : wrap64 (-(n : Int)) = -(n : Int) := by have := hK.out; unfold wrap64; omega
    cases b
    · go_wp2
      refine bodyPost_ret (v := .tuple #[.int .i64 (n : Int), .bool true]) (by simp [results, Tryd.results123, go_sem, e0, hd, e2]) rfl ⟨by simp, H2.out⟩
    · go_wp2
      refine bodyPost_ret (v := .tuple #[.int .i64 (-(n : Int)), .bool true]) (by simp [results, Tryd.results123, go_sem, e0, hd, e2, e3]) rfl ⟨by simp, H2.out⟩
  · have h0 : rcmpI (n : Int) (K : Int) > 0 := hc.mpr hn
    clear hc
    rw [if_neg hn]
    go_enter Tryd.func123, Tryd.ntmps123
    go_wp2_with fail
    refine after (hlim _) ?_; intro A1 L1 c1 w1 h1 b1 z1 hc1 hf1
    go_wp2_with fail
    refine afterQ (rcmp_c _ (ha.below b1) h1 sn sm) ?_; intro w2 b2 z2 hc2 hf2
    have H2 := Aside0.mk (below_trans b1 b2)
    clear b1 b2 z1 z2 hc1 hf1 hc2 hf2 h1 sn sm hn hlim hK
    go_wp2
    go_ret2
    exact ⟨rfl, H2.out⟩
def fxI (b : Bool) (n : Nat) : Int := if n ≤ 2305843009213693952 then (if b = true then -(n : Int) else (n : Int)) else 0
def fxB (n : Nat) : Bool := decide (n ≤ 2305843009213693952)
theorem fx_c (w : World) (b : Bool) {A : Option Addr} {L c n lo : Nat} (ha : Nf 4294967296 lo w (.slice A L c) n) (sn : Rm n) :
    Calls Tryd.prog 123 #[.bool b, .slice A L c] w fun e w' => e = .returned (.tuple #[.int .i64 (fxI b n), .bool (fxB n)]) ∧ Below w.heap.size w w' :=
  (fixed_c w b ha sn).mono fun e w' ⟨he, hb⟩ => ⟨by subst he; unfold fxI fxB; by_cases h : n ≤ 2305843009213693952 <;> simp [h], hb⟩
theorem Rm.one : Rm 1 := Rm.abs (a := 1) (by omega) (by omega)
theorem one_c (w : World) : Calls Tryd.prog 122 #[.int .u64 1] w (RetN 4294967296 w.heap.size 1 w) := rnatural_c _ (n := 1) (by omega)
theorem min_max_neg {u v : Int} (h : v ≤ u) : min (-v) (-u) = -u ∧ max (-v) (-u) = -v := by omega
theorem min_max_pos {u v : Int} (h : v ≤ u) : min v u = v ∧ max v u = u := by omega
theorem scN_fx (b : Bool) (m d : Nat) : scN b m d = if (fxB (m / d) = true ∧ fxB (upN m d) = true) then (min (fxI b (m / d)) (fxI b (upN m d)), max (fxI b (m / d)) (fxI b (upN m d)), true) else (0, 0, false) := by
  have h : m / d ≤ upN m d := by unfold upN; split <;> omega
  unfold scN fxI fxB
  generalize upN m d = u at *
  generalize m / d = v at *
  by_cases hu : u ≤ 2305843009213693952
  · have hv : v ≤ 2305843009213693952 := by omega
    have n1 := min_max_neg (u := (u : Int)) (v := v) (by omega)
    have n2 := min_max_pos (u := (u : Int)) (v := v) (by omega)
    cases b <;> simp [hu, hv, n1, n2]
  · simp [hu]
theorem fx_v (b : Bool) (n : Nat) (sn : Rm n) : ∃ i p, i = fxI b n ∧ p = fxB n ∧ ∀ w A L c lo, Nf 4294967296 lo w (.slice A L c) n →
    Calls Tryd.prog 123 #[.bool b, .slice A L c] w fun e w' => e = .returned (.tuple #[.int .i64 i, .bool p]) ∧ Below w.heap.size w w' :=
  ⟨_, _, rfl, rfl, fun w A L c lo h => fx_c w b h sn⟩
set_option maxHeartbeats 2000000 in
theorem ends_c (w : World) (b : Bool) {A A' : Option Addr} {L c m lo L' c' d lo' : Nat} (ha : Nf 4294967296 lo w (.slice A L c) m) (hb : Nf 4294967296 lo' w (.slice A' L' c') d) (sm : Rm m) (sd : Rm d) (su : Rm (upN m d)) (hd : d ≠ 0) :
    Calls Tryd.prog 67 #[.agg #[.bool b, .slice A L c, .slice A' L' c']] w fun e w' => e = .returned (scV (scN b m d)) ∧ Below w.heap.size w w' := by
  have HB := Aside0.mk (below_alloc (Below.refl w.heap.size w) (Obj.cells #[Value.bool b, Value.slice A L c, Value.slice A' L' c'] 94))
  have sq : Rm (m / d) := sm.le (Nat.div_le_self _ _)
  obtain ⟨i, p, hi, hp, F⟩ := fx_v b (m / d) sq
  rw [scN_fx, ← hi, ← hp]
  clear hi hp
  by_cases hr : m % d = 0
  · rw [upN_0 hr] at su ⊢
    obtain ⟨i', p', hi, hp, F'⟩ := fx_v b (m / d) sq
    rw [← hi, ← hp]
    clear hi hp
    cases p <;> cases p'
    all_goals
      first
        | rw [if_pos (show true = true ∧ true = true from ⟨rfl, rfl⟩)]
        | rw [if_neg (by simp)]
      go_enter Tryd.func67, Tryd.ntmps67
      go_wp2_with fail
      refine after2 (rdiv_c _ (ha.below HB.out) (hb.below HB.out) sm sd hd) ?_; intro C K f C' K' f' w1 hq hr1 b1 z1 hc1 hf1; have y1 : w.heap.size < w1.heap.size := (by simp at z1; omega); have H1 := Aside0.mk (below_trans HB.out b1); clear b1 z1
      have hK : K' = 0 := by have := hr1.zero_iff (by decide); omega
      subst hK
      clear hr1
      go_wp2_with fail
      refine afterV (F _ _ _ _ _ hq) ?_; intro w2 b2 z2 hc2 hf2; have y2 := Nat.lt_of_lt_of_le y1 z2; have H2 := Aside0.mk (below_trans H1.out b2); replace hq := hq.below b2; clear b2 z2
      go_wp2_with fail
      refine afterV (F' _ _ _ _ _ hq) ?_; intro w3 b3 z3 hc3 hf3; have H3 := Aside0.mk (below_trans H2.out b3); clear b3 z3 hq ha hb hc1 hf1 hc2 hf2 hc3 hf3 F F'
      go_wp2
      all_goals
        refine bodyPost_ret (v := _) ?_ rfl ⟨rfl, H3.out⟩
        simp [results, Tryd.results67, go_sem, scV]
      all_goals omega
  · rw [upN_1 hr] at su ⊢
    have hl : 0 < m % d := Nat.pos_of_ne_zero hr
    obtain ⟨i', p', hi, hp, F'⟩ := fx_v b (m / d + 1) su
    rw [← hi, ← hp]
    clear hi hp
    cases p <;> cases p'
    all_goals
      first
        | rw [if_pos (show true = true ∧ true = true from ⟨rfl, rfl⟩)]
        | rw [if_neg (by simp)]
      go_enter Tryd.func67, Tryd.ntmps67
      go_wp2_with fail
      refine after2 (rdiv_c _ (ha.below HB.out) (hb.below HB.out) sm sd hd) ?_; intro C K f C' K' f' w1 hq hr1 b1 z1 hc1 hf1; have y1 : w.heap.size < w1.heap.size := (by simp at z1; omega); have H1 := Aside0.mk (below_trans HB.out b1); clear b1 z1
      have hK : 0 < K' := (hr1.zero_iff (by decide)).mpr hr
      clear hr1
      go_wp2_with fail
      refine after (one_c _) ?_; intro C1 K1 f1 w1a h1 b1 z1 hc1a hf1a; have y1a := Nat.lt_of_lt_of_le y1 z1; have H1a := Aside0.mk (below_trans H1.out b1); replace hq := hq.below b1; clear b1 z1
      go_wp2_with fail
      refine after (rplus_c _ hq h1 sq Rm.one) ?_; intro C2 K2 f2 w1b h2 b1 z1 hc1b hf1b; have y1b := Nat.lt_of_lt_of_le y1a z1; have H1b := Aside0.mk (below_trans H1a.out b1); replace hq := hq.below b1; clear b1 z1
      go_wp2_with fail
      refine afterV (F _ _ _ _ _ hq) ?_; intro w2 b2 z2 hc2 hf2; have y2 := Nat.lt_of_lt_of_le y1b z2; have H2 := Aside0.mk (below_trans H1b.out b2); replace h2 := h2.below b2; clear b2 z2
      go_wp2_with fail
      refine afterV (F' _ _ _ _ _ h2) ?_; intro w3 b3 z3 hc3 hf3; have H3 := Aside0.mk (below_trans H2.out b3); clear b3 z3 hq ha hb hc1 hf1 hc2 hf2 hc3 hf3 hc1a hf1a hc1b hf1b h1 h2 F F'
      go_wp2
      all_goals
        refine bodyPost_ret (v := _) ?_ rfl ⟨rfl, H3.out⟩
        simp [results, Tryd.results67, go_sem, scV]
      all_goals omega
end Go.Proofs.YtplpmndchdockaaDoor.M
