import Derived.Test.YtplpmndchdockaaDoorConR
import Derived.Test.YtplpmndchdockaaDoorRatP
/-! The reference's fractions: lowest, Make. -/
namespace Go.Proofs.YtplpmndchdockaaDoor.M
open Go Go.RowKit Go.Proofs.YtplpmndchdockaaDoorV.PrintWords
set_option autoImplicit false
set_option linter.unusedVariables false
set_option linter.unusedSimpArgs false

/-- A call that hands back a fraction of the reference. -/
def RetF (q : Rat) (w : World) (e : Ending) (w' : World) : Prop := ∃ A L c A' L' c', e = .returned (.agg #[.bool (decide (q.num < 0)), .slice A L c, .slice A' L' c']) ∧ Nf 4294967296 w.heap.size w' (.slice A L c) q.num.natAbs ∧ Nf 4294967296 w.heap.size w' (.slice A' L' c') q.den ∧ Below w.heap.size w w'
theorem RetF.of {q : Rat} {w w' : World} {e : Ending} {b : Bool} {A A' : Option Addr} {L c L' c' : Nat} (hb : decide (q.num < 0) = b) (he : e = .returned (.agg #[.bool b, .slice A L c, .slice A' L' c'])) (hn : Nf 4294967296 w.heap.size w' (.slice A L c) q.num.natAbs) (hd : Nf 4294967296 w.heap.size w' (.slice A' L' c') q.den) (hB : Below w.heap.size w w') : RetF q w e w' := by
  subst hb
  exact ⟨A, L, c, A', L', c', he, hn, hd, hB⟩
theorem blk_new1 (w : World) (x y : Obj) : ((w.alloc x).alloc y).heap[w.heap.size + 1]? = some y := by
  have := blk_new (w.alloc x) y
  simpa using this
set_option maxHeartbeats 1000000 in
theorem lowest_c (w : World) (b : Bool) {A B : Option Addr} {L M c d : Nat} {n m lo lo' : Nat} (ha : Nf 4294967296 lo w (.slice A L c) n) (hb : Nf 4294967296 lo' w (.slice B M d) m) (hm : m ≠ 0) (sn : Rm n) (sm : Rm m) :
    Calls Tryd.prog 118 #[.bool b, .slice A L c, .slice B M d] w (RetF (fr b n m) w) := by
  have HB := Aside0.mk (below_alloc (Below.refl w.heap.size w) (Obj.cells #[Value.bool false, Value.slice none 0 0, Value.slice none 0 0] 94))
  have hz := ha.zero_iff (by decide)
  by_cases h0 : n = 0
  · have hL : L = 0 := by omega
    subst hL
    have hq : fr b n m = 0 := (fr_zero hm).mpr h0
    rw [hq]
    go_enter Tryd.func118, Tryd.ntmps118
    go_wp2
    refine bodyPost_ret (v := .agg #[.bool false, .slice none 0 0, .slice (some ⟨w.heap.size + 1, 0, none⟩) 1 1]) (by simp [results, Tryd.results118, go_sem]) rfl (RetF.of (by decide) rfl (Nf.nil _ _ _) ?_ ?_)
    · refine Nf.low (lo := w.heap.size + 1) ?_ (by omega)
      exact Nf.one (by decide) (blk_new1 _ _ _)
    · repeat first | exact HB.out | exact Below.refl _ _ | refine below_set ?_ (by omega) | refine below_alloc ?_ _
  · have hL : 0 < L := by omega
    have gp : Nat.gcd n m ≠ 0 := by have := Nat.gcd_pos_of_pos_right n (Nat.pos_of_ne_zero hm); omega
    have sg : Rm (Nat.gcd n m) := sm.le (Nat.gcd_le_right _ (Nat.pos_of_ne_zero hm))
    go_enter Tryd.func118, Tryd.ntmps118
    go_wp2_with fail
    refine after (rgcd_c _ (ha.below HB.out) (hb.below HB.out) sn sm hm) ?_; intro C K f w1 hg b1 z1 hc1 hf1; have y1 : w.heap.size < w1.heap.size := (by simp at z1; omega); have H1 := Aside0.mk (below_trans HB.out b1); clear b1 z1
    go_wp2_with fail
    refine after2 (rdiv_c _ (ha.below H1.out) hg sn sg gp) ?_; intro C2 K2 f2 C2' K2' f2' w2 hq hr2 b2 z2 hc2 hf2; have y2 := Nat.lt_of_lt_of_le y1 z2; have H2 := Aside0.mk (below_trans H1.out b2); replace hg := hg.below b2; clear b2 z2
    go_wp2_with fail
    refine after2 (rdiv_c _ (hb.below H2.out) hg sm sg gp) ?_; intro C3 K3 f3 C3' K3' f3' w3 hp hr3 b3 z3 hc3 hf3; have y3 := Nat.lt_of_lt_of_le y2 z3; have H3 := Aside0.mk (below_trans H2.out b3); replace hq := hq.below b3; clear b3 z3
    go_wp2
    refine bodyPost_ret (v := .agg #[.bool b, .slice C2 K2 f2, .slice C3 K3 f3]) (by simp [results, Tryd.results118, go_sem, hc3, hc2, hc1, y1, y2, y3]) rfl (RetF.of ?_ rfl ?_ ?_ ?_)
    · have h3 := fr_neg (b := b) (n := n) hm
      have h4 : n / m.gcd n ≠ 0 := by
        have := Nat.div_pos (Nat.gcd_le_right m (Nat.pos_of_ne_zero h0)) (Nat.gcd_pos_of_pos_left n (Nat.pos_of_ne_zero hm))
        omega
      cases b <;> simp_all
    · rw [fr_num hm, Nat.gcd_comm]
      refine Nf.low (lo := w1.heap.size) ?_ (Nat.le_of_lt y1)
      repeat first | exact hq | refine Nf.set ?_ y1 _
    · rw [fr_den hm, Nat.gcd_comm]
      refine Nf.low (lo := w2.heap.size) ?_ (Nat.le_of_lt y2)
      repeat first | exact hp | refine Nf.set ?_ y2 _
    · repeat first | exact H3.out | refine below_set ?_ (by omega) | refine below_alloc ?_ _

theorem afterF {P : Program} {f : FuncId} {args : Array Value} {W : World} {q : Rat} {Q : Ending → World → Prop} (h : Calls P f args W (RetF q W))
    (k : ∀ A L c A' L' c' w1, Nf 4294967296 W.heap.size w1 (.slice A L c) q.num.natAbs → Nf 4294967296 W.heap.size w1 (.slice A' L' c') q.den → Below W.heap.size W w1 → W.heap.size ≤ w1.heap.size → (∀ b o, b < W.heap.size → w1.cell? ⟨b, o, none⟩ = W.cell? ⟨b, o, none⟩) → (∀ b o, b < W.heap.size → w1.frozen? ⟨b, o, none⟩ = W.frozen? ⟨b, o, none⟩) → Q (.returned (.agg #[.bool (decide (q.num < 0)), .slice A L c, .slice A' L' c'])) w1) : Calls P f args W Q :=
  h.mono fun e w1 ⟨A, L, c, A', L', c', he, hN, hM, hb⟩ => by subst he; exact k A L c A' L' c' w1 hN hM hb hb.size (bcell hb).1 (bcell hb).2
theorem Rm.abs {a : Int} (h0 : -9223372036854775808 ≤ a) (h1 : a ≤ 9223372036854775807) : Rm a.natAbs := by
  constructor
  refine Nat.lt_of_lt_of_le (show a.natAbs < 18446744073709551616 by omega) ?_
  exact Nat.le_trans (by decide : 18446744073709551616 ≤ 2 ^ 64) (Nat.pow_le_pow_right (by decide) (by unfold RX; decide))
set_option maxHeartbeats 1000000 in
theorem make_c (w : World) (a b : Int) (a0 : -9223372036854775808 ≤ a) (a1 : a ≤ 9223372036854775807) (b0 : -9223372036854775808 ≤ b) (b1' : b ≤ 9223372036854775807) (hb : b ≠ 0) :
    Calls Tryd.prog 69 #[.int .i64 a, .int .i64 b] w (RetF ((a : Rat) / (b : Rat)) w) := by
  have HB := Aside0.mk (below_alloc (Below.refl w.heap.size w) (Obj.cells #[Value.bool false, Value.slice none 0 0, Value.slice none 0 0] 94))
  have sa := Rm.abs a0 a1
  have sb := Rm.abs b0 b1'
  have eq := fr_int a b hb
  have hm : b.natAbs ≠ 0 := by omega
  have eqb : (!decide (a < 0) == decide (b < 0)) = (decide (a < 0) != decide (b < 0)) := by cases decide (a < 0) <;> cases decide (b < 0) <;> rfl
  replace eqb := Aside0.mk eqb
  replace eq := Aside0.mk eq
  rw [← eq.out]
  go_enter Tryd.func69, Tryd.ntmps69
  go_wp2_with fail
  refine after (rsize_c _ a a0 a1) ?_; intro A L c w1 ha b1 z1 hc1 hf1; have y1 : w.heap.size < w1.heap.size := (by simp at z1; omega); have H1 := Aside0.mk (below_trans HB.out b1); clear b1 z1
  go_wp2_with fail
  refine after (rsize_c _ b b0 b1') ?_; intro A2 L2 c2 w2 hd b2 z2 hc2 hf2; have y2 := Nat.lt_of_lt_of_le y1 z2; have H2 := Aside0.mk (below_trans H1.out b2); replace ha := ha.below b2; clear b2 z2
  go_wp2_with fail
  rw [eqb.out]
  refine afterF (lowest_c _ _ ha hd hm sa sb) ?_; intro A3 L3 c3 A4 L4 c4 w3 hn hp b3 z3 hc3 hf3; have y3 := Nat.lt_of_lt_of_le y2 z3; have H3 := Aside0.mk (below_trans H2.out b3); clear b3 z3
  go_wp2
  refine bodyPost_ret (v := .agg #[.bool (decide ((fr (decide (a < 0) != decide (b < 0)) a.natAbs b.natAbs).num < 0)), .slice A3 L3 c3, .slice A4 L4 c4]) (by simp [results, Tryd.results69, go_sem, hc3, hc2, hc1, y1, y2, y3]) rfl (RetF.of rfl rfl ?_ ?_ ?_)
  · refine Nf.low (lo := w2.heap.size) ?_ (Nat.le_of_lt y2)
    repeat first | exact hn | refine Nf.set ?_ y2 _
  · refine Nf.low (lo := w2.heap.size) ?_ (Nat.le_of_lt y2)
    repeat first | exact hp | refine Nf.set ?_ y2 _
  · repeat first | exact H3.out | refine below_set ?_ (by omega) | refine below_alloc ?_ _
end Go.Proofs.YtplpmndchdockaaDoor.M
