import Derived.Test.YtplpmndchdockaaDoorRefF
import Derived.Test.YtplpmndchdockaaDoorRdB
import Derived.Test.YtplpmndchdockaaDoorOvr
/-! The reference's fractions: Scale. -/
namespace Go.Proofs.YtplpmndchdockaaDoor.M
open Go Go.RowKit Go.Proofs.YtplpmndchdockaaDoorV.PrintWords
set_option autoImplicit false
set_option linter.unusedVariables false
set_option linter.unusedSimpArgs false

theorem afterFO {P : Program} {f : FuncId} {args : Array Value} {W X : World} {q : Rat} {Q : Ending → World → Prop} (hX : Below W.heap.size W X) (h : Calls P f args X (RetF q X))
    (k : ∀ A L c A' L' c' w1, Nf 4294967296 W.heap.size w1 (.slice A L c) q.num.natAbs → Nf 4294967296 W.heap.size w1 (.slice A' L' c') q.den → Below W.heap.size W w1 → Below X.heap.size X w1 → W.heap.size ≤ w1.heap.size → Q (.returned (.agg #[.bool (decide (q.num < 0)), .slice A L c, .slice A' L' c'])) w1) : Calls P f args X Q :=
  h.mono fun e w1 ⟨A, L, c, A', L', c', he, hN, hM, hb⟩ => by subst he; exact k A L c A' L' c' w1 (hN.low hX.size) (hM.low hX.size) (below_trans hX hb) hb (below_trans hX hb).size
theorem make1 {u : Int} (h0 : 1 ≤ u) (h1 : u ≤ 9223372036854775807) : ∃ q : Rat, q.num.natAbs = u.toNat ∧ q.den = 1 ∧ decide (q.num < 0) = false ∧ ∀ W, Calls Tryd.prog 69 #[.int .i64 u, .int .i64 1] W (RetF q W) := by
  refine ⟨(u : Rat) / ((1 : Int) : Rat), ?_, ?_, ?_, fun W => make_c W u 1 (by omega) h1 (by omega) (by omega) (by omega)⟩
  all_goals
    have e : (u : Rat) / ((1 : Int) : Rat) = (u : Rat) := by rw [Rat.intCast_one]; grind
    rw [e]
  · rw [Rat.num_intCast]; omega
  · rw [Rat.den_intCast]
  · rw [Rat.num_intCast]; simp; omega
theorem sc_bounds {n d u : Nat} (hn : n < 10 ^ MD) (hd : d < 10 ^ MD) (hu : u < 18446744073709551616) (b : Bool) (h0 : d ≠ 0) : Rm (n * u) ∧ Rm (d * 1) ∧ Rm (fr b (n * u) (d * 1)).num.natAbs ∧ Rm (fr b (n * u) (d * 1)).den ∧ Rm (upN (fr b (n * u) (d * 1)).num.natAbs (fr b (n * u) (d * 1)).den) := by
  have h1 : n * u < 10 ^ (MD + 20) := lt_mul10 hn (lt64 hu)
  have h2 : d * 1 < 10 ^ MD := by omega
  have h3 : d * 1 ≠ 0 := by omega
  have k1 : (fr b (n * u) (d * 1)).num.natAbs ≤ n * u := by rw [fr_num h3]; exact Nat.div_le_self _ _
  have k2 : (fr b (n * u) (d * 1)).den ≤ d * 1 := by rw [fr_den h3]; exact Nat.div_le_self _ _
  have k3 : upN (fr b (n * u) (d * 1)).num.natAbs (fr b (n * u) (d * 1)).den ≤ n * u + 1 := by
    have := Nat.div_le_self (fr b (n * u) (d * 1)).num.natAbs (fr b (n * u) (d * 1)).den
    unfold upN; split <;> omega
  have h4 : n * u + 1 < 10 ^ (MD + 20 + 1) := lt_add10 h1 (Nat.one_lt_pow (by unfold MD; decide) (by decide))
  have r1 : Rm (n * u) := Rm.of10 h1 (by rw [MD_eq]; omega)
  have r2 : Rm (d * 1) := Rm.of10 h2 (by rw [MD_eq]; omega)
  have r3 : Rm (n * u + 1) := Rm.of10 h4 (by rw [MD_eq]; omega)
  exact ⟨r1, r2, r1.le k1, r2.le k2, r3.le k3⟩
theorem afterSc {P : Program} {f : FuncId} {args : Array Value} {W X : World} {t : Int × Int × Bool} {Q : Ending → World → Prop} (hX : Below W.heap.size W X) (h : Calls P f args X fun e w' => e = .returned (scV t) ∧ Below X.heap.size X w')
    (k : ∀ x y z w1, t = (x, y, z) → Below W.heap.size W w1 → W.heap.size ≤ w1.heap.size → Q (.returned (.tuple #[.int .i64 x, .int .i64 y, .bool z])) w1) : Calls P f args X Q :=
  h.mono fun e w1 ⟨he, hb⟩ => by subst he; exact k t.1 t.2.1 t.2.2 w1 rfl (below_trans hX hb) (below_trans hX hb).size
set_option maxHeartbeats 2000000 in
theorem rscale_c (w : World) (N D : ByteArray) (u : Int) (hN : N.size ≤ 140737488355328) (u0 : -9223372036854775808 ≤ u) (u1 : u ≤ 9223372036854775807) :
    Calls Tryd.prog 20 #[.agg #[.string N, .string D], .int .i64 u] w fun e w' => e = .returned (scV (scQ (rdQ N D) u)) ∧ Below w.heap.size w w' := by
  have HB := Aside0.mk (below_alloc (Below.refl w.heap.size w) (Obj.cells #[Value.string N, Value.string D] 23))
  obtain ⟨o, ho⟩ : ∃ o, o = rdQ N D := ⟨_, rfl⟩
  have F := fun W => rread_c W N D hN
  rw [← ho] at F ⊢
  replace F := Aside0.mk F
  cases o with
  | none =>
    clear ho
    go_enter Tryd.func20, Tryd.ntmps20
    go_wp2_with fail
    refine afterR (F.out _) ?_; intro b A L c A' L' c' w1 hq b1 z1 hc1 hf1; have H1 := Aside0.mk (below_trans HB.out b1); clear b1 z1
    go_wp2
    refine bodyPost_ret (v := scV (scQ none u)) (by simp [results, Tryd.results20, go_sem, scV, scQ]) rfl ⟨rfl, ?_⟩
    repeat first | exact H1.out | refine below_set ?_ (by omega) | refine below_alloc ?_ _
  | some q =>
    have hfit := rdQ_fits ho.symm
    clear ho
    by_cases hu : 1 ≤ u
    · have e : scQ (some q) u = scN (decide (q.num < 0)) (q.num.natAbs * u.toNat) q.den := by unfold scQ; dsimp only; rw [if_pos hu]
      obtain ⟨q2, e1, e2, e3, hmk⟩ := make1 hu u1
      obtain ⟨s1, s2, s3, s4, s5⟩ := sc_bounds hfit.1 hfit.2 (u := u.toNat) (by omega) (decide (q.num < 0) != false) q.den_nz
      obtain ⟨sn, sd⟩ := fits_Rm hfit
      have e4 := scN_fr (b := (decide (q.num < 0) != false)) (n := q.num.natAbs * u.toNat) (d := q.den * 1) (by have := q.den_nz; omega)
      rw [Nat.mul_one, Bool.bne_false] at e4
      rw [e, ← e4]
      clear e e4 hfit
      have sk : Rm u.toNat := by have := Rm.abs (a := u) u0 u1; rwa [show u.natAbs = u.toNat by omega] at this
      have hd0 : q.den * 1 ≠ 0 := by have := q.den_nz; omega
      replace hmk := Aside0.mk hmk
      have hdz := Aside0.mk (And.intro hd0 (And.intro e1 (And.intro e2 e3)))
      clear e1 e2 e3 hd0
      obtain ⟨b0, hb0⟩ : ∃ b0, b0 = decide (q.num < 0) := ⟨_, rfl⟩
      rw [← hb0] at s3 s4 s5 ⊢
      replace hb0 := Aside0.mk hb0
      obtain ⟨t, ht0⟩ : ∃ t, t = scN (decide ((fr b0 (q.num.natAbs * u.toNat) (q.den * 1)).num < 0)) (fr b0 (q.num.natAbs * u.toNat) (q.den * 1)).num.natAbs (fr b0 (q.num.natAbs * u.toNat) (q.den * 1)).den := ⟨_, rfl⟩
      rw [Bool.bne_false] at s3 s4 s5
      rw [Nat.mul_one] at ht0
      rw [← ht0]
      replace ht0 := Aside0.mk ht0
      go_enter Tryd.func20, Tryd.ntmps20
      go_wp2_with fail
      refine afterR (F.out _) ?_; intro b A L c A' L' c' w1 hq b1 z1 hc1 hf1; have H1 := Aside0.mk (below_trans HB.out b1); clear b1 z1
      obtain ⟨rfl, hn, hd⟩ := hq.out q rfl
      rw [← hb0.out]
      clear hq
      go_upto_region 4 with fail
      refine region_letter ?_; intro W hW
      have BW : Below w1.heap.size w1 W := by rw [hW]; repeat first | exact Below.refl _ _ | refine below_drew ?_ | refine below_alloc ?_ _ | refine below_set ?_ (by omega)
      have k0 : W.cell? ⟨w1.heap.size, 0, none⟩ = some (.bool b0) := by rw [hW]; simp [go_sem]
      have k1 : W.cell? ⟨w1.heap.size, 1, none⟩ = some (.slice A L c) := by rw [hW]; simp [go_sem]
      have k2 : W.cell? ⟨w1.heap.size, 2, none⟩ = some (.slice A' L' c') := by rw [hW]; simp [go_sem]
      have yW : w1.heap.size < W.heap.size := by rw [hW]; simp
      replace hn := hn.below BW
      replace hd := hd.below BW
      have HW := Aside0.mk (below_trans H1.out BW)
      clear hW BW H1 hc1 hf1
      go_region_held3 (fun w' => Below W.heap.size W w' ∧ ∀ b o, b < W.heap.size → w'.cell? ⟨b, o, none⟩ = W.cell? ⟨b, o, none⟩) (exact keepS (by (repeat first | (with_reducible exact Below.refl _ _) | (with_reducible exact Ba) | (with_reducible exact Bb) | (with_reducible exact Bc) | (with_reducible refine below_drew ?_) | (with_reducible refine below_alloc ?_ _) | ((with_reducible refine below_set ?_ ?hh); (case hh => omega))); done))
        (first
          | (go_at_call 69; refine afterFO (W := W) (by (repeat first | (with_reducible exact Below.refl _ _) | (with_reducible refine below_drew ?_) | (with_reducible refine below_alloc ?_ _) | ((with_reducible refine below_set ?_ ?hh); (case hh => omega))); done) (hmk.out _) ?_; intro A3 L3 c3 A4 L4 c4 wa hm he Ba ba za)
          | (go_at_call 68; refine afterFO (W := W) (by (repeat first | (with_reducible exact Below.refl _ _) | (with_reducible exact Ba) | (with_reducible refine below_drew ?_) | (with_reducible refine below_alloc ?_ _) | ((with_reducible refine below_set ?_ ?hh); (case hh => omega))); done) (times_c _ _ _ (hn.below (by (repeat first | (with_reducible exact Below.refl _ _) | (with_reducible exact Ba) | (with_reducible refine below_drew ?_) | (with_reducible refine below_alloc ?_ _) | ((with_reducible refine below_set ?_ ?hh); (case hh => omega))); done)) (hd.below (by (repeat first | (with_reducible exact Below.refl _ _) | (with_reducible exact Ba) | (with_reducible refine below_drew ?_) | (with_reducible refine below_alloc ?_ _) | ((with_reducible refine below_set ?_ ?hh); (case hh => omega))); done)) (hm.below (by (repeat first | (with_reducible exact Below.refl _ _) | (with_reducible refine below_drew ?_) | (with_reducible refine below_alloc ?_ _) | ((with_reducible refine below_set ?_ ?hh); (case hh => omega))); done)) (he.below (by (repeat first | (with_reducible exact Below.refl _ _) | (with_reducible refine below_drew ?_) | (with_reducible refine below_alloc ?_ _) | ((with_reducible refine below_set ?_ ?hh); (case hh => omega))); done)) sn sd (by rw [hdz.out.2.1]; exact sk) (by rw [hdz.out.2.2.1]; exact Rm.one) (by rw [hdz.out.2.1]; exact s1) (by rw [hdz.out.2.2.1]; exact s2) (by rw [hdz.out.2.2.1]; exact hdz.out.1)) ?_; rw [hdz.out.2.1, hdz.out.2.2.1, hdz.out.2.2.2]; intro A5 L5 c5 A6 L6 c6 wb hp hr Bb bb zb)
          | (go_at_call 67; refine afterSc (W := W) (by (repeat first | (with_reducible exact Below.refl _ _) | (with_reducible exact Bb) | (with_reducible refine below_drew ?_) | (with_reducible refine below_alloc ?_ _) | ((with_reducible refine below_set ?_ ?hh); (case hh => omega))); done) (ends_c _ _ (hp.below (by (repeat first | (with_reducible exact Below.refl _ _) | (with_reducible refine below_drew ?_) | (with_reducible refine below_alloc ?_ _) | ((with_reducible refine below_set ?_ ?hh); (case hh => omega))); done)) (hr.below (by (repeat first | (with_reducible exact Below.refl _ _) | (with_reducible refine below_drew ?_) | (with_reducible refine below_alloc ?_ _) | ((with_reducible refine below_set ?_ ?hh); (case hh => omega))); done)) (by simpa using s3) (by simpa using s4) (by simpa using s5) (Rat.den_nz _)) ?_; intro x y z wc ht Bc zc))
      all_goals
        have hz : t = (x, y, z) := ht0.out.trans (by rw [← ht]; simp)
        clear ht
        go_wp2
        refine bodyPost_ret (v := scV t) (by rw [hz]; simp [results, Tryd.results20, go_sem, scV]) rfl ⟨rfl, below_trans HW.out Bc⟩
    · have e : scQ (some q) u = (0, 0, false) := by unfold scQ; dsimp only; rw [if_neg hu]
      rw [e]
      clear e
      have hu' : u < 1 := by omega
      go_enter Tryd.func20, Tryd.ntmps20
      go_wp2_with fail
      refine afterR (F.out _) ?_; intro b A L c A' L' c' w1 hq b1 z1 hc1 hf1; have H1 := Aside0.mk (below_trans HB.out b1); clear b1 z1
      go_wp2
      refine bodyPost_ret (v := scV (0, 0, false)) (by simp [results, Tryd.results20, go_sem, scV]) rfl ⟨rfl, ?_⟩
      repeat first | exact H1.out | refine below_set ?_ (by omega) | refine below_alloc ?_ _
end Go.Proofs.YtplpmndchdockaaDoor.M
