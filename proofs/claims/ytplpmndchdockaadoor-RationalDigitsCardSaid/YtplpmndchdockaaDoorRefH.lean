import Derived.Test.YtplpmndchdockaaDoorRefF
import Derived.Test.YtplpmndchdockaaDoorPQ
/-! The reference's fractions: Plus, Neg, Minus, Over, Zero, Order. -/
namespace Go.Proofs.YtplpmndchdockaaDoor.M
open Go Go.RowKit Go.Proofs.YtplpmndchdockaaDoorV.PrintWords
set_option autoImplicit false
set_option linter.unusedVariables false
set_option linter.unusedSimpArgs false

theorem Rm.pow {n e : Nat} (h : n ≤ 2 ^ e) (he : e < 1000000000) : Rm n := ⟨Nat.lt_of_le_of_lt h (Nat.pow_lt_pow_right (by decide) (by unfold RX; exact he))⟩
theorem le_mul2 {a b e f : Nat} (ha : a ≤ 2 ^ e) (hb : b ≤ 2 ^ f) : a * b ≤ 2 ^ (e + f) := by rw [Nat.pow_add]; exact Nat.mul_le_mul ha hb
theorem le_add2 {a b e : Nat} (ha : a ≤ 2 ^ e) (hb : b ≤ 2 ^ e) : a + b ≤ 2 ^ (e + 1) := by rw [Nat.pow_succ]; omega
theorem B2.Rm {q : Rat} {e : Nat} (h : B2 q e) (he : e < 1000000000) : Rm q.num.natAbs ∧ Rm q.den := ⟨Rm.pow h.num he, Rm.pow h.den he⟩
theorem rcmpI_ge (a b : Nat) : (0 ≤ rcmpI (a : Int) (b : Int) ↔ b ≤ a) ∧ (rcmpI (a : Int) (b : Int) < 0 ↔ ¬ b ≤ a) := by
  unfold rcmpI
  constructor <;> (repeat' split) <;> omega
set_option maxHeartbeats 4000000 in
theorem plus_c (w : World) (p q : Rat) {A A1 A2 A3 : Option Addr} {L c L1 c1 L2 c2 L3 c3 lo lo1 lo2 lo3 e f : Nat} (hn : Nf 4294967296 lo w (.slice A L c) p.num.natAbs) (hd : Nf 4294967296 lo1 w (.slice A1 L1 c1) p.den)
    (hn2 : Nf 4294967296 lo2 w (.slice A2 L2 c2) q.num.natAbs) (hd2 : Nf 4294967296 lo3 w (.slice A3 L3 c3) q.den) (hp : B2 p e) (hq : B2 q f) (hef : e + f < 100000000) :
    Calls Tryd.prog 78 #[.agg #[.bool (decide (p.num < 0)), .slice A L c, .slice A1 L1 c1], .agg #[.bool (decide (q.num < 0)), .slice A2 L2 c2, .slice A3 L3 c3]] w (RetF (p + q) w) := by
  have HB := Aside0.mk (below_alloc (below_alloc (below_alloc (Below.refl w.heap.size w) (Obj.cells #[Value.bool (decide (p.num < 0)), Value.slice A L c, Value.slice A1 L1 c1] 94)) (Obj.cells #[Value.bool (decide (q.num < 0)), Value.slice A2 L2 c2, Value.slice A3 L3 c3] 94)) (Obj.cells #[Value.bool false, Value.slice none 0 0, Value.slice none 0 0] 94))
  have hsum := pq_sum p q
  have l1 := le_mul2 hp.num hq.den
  have l2 := le_mul2 hq.num hp.den
  rw [Nat.add_comm f e] at l2
  have l3 := le_mul2 hp.den hq.den
  have l4 := le_add2 l1 l2
  have s1 := Rm.pow l1 (by omega)
  have s2 := Rm.pow l2 (by omega)
  have s3 := Rm.pow l3 (by omega)
  have s4 := Rm.pow l4 (by omega)
  obtain ⟨t1, t2⟩ := hp.Rm (by omega)
  obtain ⟨t3, t4⟩ := hq.Rm (by omega)
  have hz := den_mul p q
  clear l1 l2 l3 l4 hp hq hef
  obtain ⟨bp, hbp⟩ : ∃ b, b = decide (p.num < 0) := ⟨_, rfl⟩
  obtain ⟨bq, hbq⟩ : ∃ b, b = decide (q.num < 0) := ⟨_, rfl⟩
  rw [← hbp, ← hbq] at hsum HB ⊢
  clear hbp hbq
  rw [hsum]
  clear hsum
  generalize p.num.natAbs = n at *
  generalize q.num.natAbs = n2 at *
  generalize p.den = d at *
  generalize q.den = d2 at *
  obtain ⟨t, ht⟩ : ∃ t, t = fr (sumN bp bq (n * d2) (n2 * d)).1 (sumN bp bq (n * d2) (n2 * d)).2 (d * d2) := ⟨_, rfl⟩
  rw [← ht]
  replace ht := Aside0.mk ht
  go_enter Tryd.func78, Tryd.ntmps78
  go_upto_region 1 with fail
  refine region_letter ?_; intro W hW
  have k0 : W.cell? ⟨w.heap.size, 0, none⟩ = some (.bool bp) := by rw [hW]; simp [go_sem]
  have k1 : W.cell? ⟨w.heap.size, 1, none⟩ = some (.slice A L c) := by rw [hW]; simp [go_sem]
  have k2 : W.cell? ⟨w.heap.size, 2, none⟩ = some (.slice A1 L1 c1) := by rw [hW]; simp [go_sem]
  have k3 : W.cell? ⟨w.heap.size + 1, 0, none⟩ = some (.bool bq) := by rw [hW]; simp [go_sem]
  have k4 : W.cell? ⟨w.heap.size + 1, 1, none⟩ = some (.slice A2 L2 c2) := by rw [hW]; simp [go_sem]
  have k5 : W.cell? ⟨w.heap.size + 1, 2, none⟩ = some (.slice A3 L3 c3) := by rw [hW]; simp [go_sem]
  have r0 : W.cell? ⟨w.heap.size + 2, 0, none⟩ = some (.bool false) := by rw [hW]; simp [go_sem]
  have r1 : W.cell? ⟨w.heap.size + 2, 1, none⟩ = some (.slice none 0 0) := by rw [hW]; simp [go_sem]
  have r2 : W.cell? ⟨w.heap.size + 2, 2, none⟩ = some (.slice none 0 0) := by rw [hW]; simp [go_sem]
  have f0 : W.frozen? ⟨w.heap.size + 2, 0, none⟩ = false := by rw [hW]; simp [go_sem]
  have f1 : W.frozen? ⟨w.heap.size + 2, 1, none⟩ = false := by rw [hW]; simp [go_sem]
  have f2 : W.frozen? ⟨w.heap.size + 2, 2, none⟩ = false := by rw [hW]; simp [go_sem]
  have yW : w.heap.size + 2 < W.heap.size := by rw [hW]; simp
  have xW : w.heap.size + 1 < W.heap.size := by omega
  have vW : w.heap.size < W.heap.size := by omega
  have BW : Below w.heap.size w W := by rw [hW]; exact HB.out
  replace hn := hn.below BW
  replace hd := hd.below BW
  replace hn2 := hn2.below BW
  replace hd2 := hd2.below BW
  replace BW := Aside0.mk BW
  clear hW HB
  go_region_held3 (fun w' => Below W.heap.size W w' ∧ ∀ b o, b < W.heap.size → w'.cell? ⟨b, o, none⟩ = W.cell? ⟨b, o, none⟩) (exact keepS (by (repeat first | (with_reducible exact Below.refl _ _) | (with_reducible exact Ba) | (with_reducible exact Bb) | (with_reducible refine below_drew ?_) | (with_reducible refine below_alloc ?_ _) | ((with_reducible refine below_set ?_ ?hh); (case hh => omega))); done))
    (first
      | (go_at_call_of 124 (Value.slice A L c); refine afterO (W := W) (by (repeat first | (with_reducible exact Below.refl _ _) | (with_reducible refine below_drew ?_) | (with_reducible refine below_alloc ?_ _) | ((with_reducible refine below_set ?_ ?hh); (case hh => omega))); done) (rtimes_c _ (hn.below (by (repeat first | (with_reducible exact Below.refl _ _) | (with_reducible refine below_drew ?_) | (with_reducible refine below_alloc ?_ _) | ((with_reducible refine below_set ?_ ?hh); (case hh => omega))); done)) (hd2.below (by (repeat first | (with_reducible exact Below.refl _ _) | (with_reducible refine below_drew ?_) | (with_reducible refine below_alloc ?_ _) | ((with_reducible refine below_set ?_ ?hh); (case hh => omega))); done)) t1 t4) ?_; intro A5 L5 c5 wa hx Ba ba za)
      | (go_at_call_of 124 (Value.slice A2 L2 c2); refine afterO (W := W) (by (repeat first | (with_reducible exact Below.refl _ _) | (with_reducible exact Ba) | (with_reducible refine below_drew ?_) | (with_reducible refine below_alloc ?_ _) | ((with_reducible refine below_set ?_ ?hh); (case hh => omega))); done) (rtimes_c _ (hn2.below (by (repeat first | (with_reducible exact Below.refl _ _) | (with_reducible exact Ba) | (with_reducible refine below_drew ?_) | (with_reducible refine below_alloc ?_ _) | ((with_reducible refine below_set ?_ ?hh); (case hh => omega))); done)) (hd.below (by (repeat first | (with_reducible exact Below.refl _ _) | (with_reducible exact Ba) | (with_reducible refine below_drew ?_) | (with_reducible refine below_alloc ?_ _) | ((with_reducible refine below_set ?_ ?hh); (case hh => omega))); done)) t3 t2) ?_; intro A6 L6 c6 wb hy Bb bb zb; replace hx := hx.below (below_trans (by (repeat first | (with_reducible exact Below.refl _ _) | (with_reducible refine below_drew ?_) | (with_reducible refine below_alloc ?_ _) | ((with_reducible refine below_set ?_ ?hh); (case hh => omega))); done) bb)))
  all_goals
    (rename Below _ _ _ ∧ _ => hh0; clear hh0)
    replace hd := hd.below Bb
    replace hd2 := hd2.below Bb
    replace hx := hx.low (lo' := W.heap.size) (by simp)
    replace hy := hy.low (lo' := W.heap.size) (by first | exact za | simp)
    replace k0 := pw_cell_below Bb k0
    replace k3 := pw_cell_below Bb k3
    replace r0 := pw_cell_below Bb r0
    replace r1 := pw_cell_below Bb r1
    replace r2 := pw_cell_below Bb r2
    replace f0 := (Bb.frozen (p := ⟨w.heap.size + 2, 0, none⟩) yW).trans f0
    replace f1 := (Bb.frozen (p := ⟨w.heap.size + 2, 1, none⟩) yW).trans f1
    replace f2 := (Bb.frozen (p := ⟨w.heap.size + 2, 2, none⟩) yW).trans f2
    replace k2 := pw_cell_below Bb k2
    replace k5 := pw_cell_below Bb k5
    have yb := Nat.lt_of_lt_of_le yW zb
    have H1 := Aside0.mk (below_trans BW.out Bb)
    clear ba bb Ba Bb za k1 k4 hn hn2
    go_wp2_with fail
    refine after (rtimes_c _ hd hd2 t2 t4) ?_; intro A7 L7 c7 wc hm bc zc hcc hfc
    replace k0 := pw_cell_below bc k0
    replace k3 := pw_cell_below bc k3
    replace r0 := pw_cell_below bc r0
    replace r1 := pw_cell_below bc r1
    replace r2 := pw_cell_below bc r2
    replace f0 := (bc.frozen (p := ⟨w.heap.size + 2, 0, none⟩) yb).trans f0
    replace f1 := (bc.frozen (p := ⟨w.heap.size + 2, 1, none⟩) yb).trans f1
    replace f2 := (bc.frozen (p := ⟨w.heap.size + 2, 2, none⟩) yb).trans f2
    have yc := Nat.lt_of_lt_of_le yb zc
    have xc : w.heap.size + 1 < wc.heap.size := by omega
    have vc : w.heap.size < wc.heap.size := by omega
    have H2 := Aside0.mk (below_trans H1.out bc)
    replace hx := hx.below bc
    replace hy := hy.below bc
    clear bc hcc hfc hd hd2 k2 k5 zb zc yb
    by_cases hb : bp = bq
    · subst hb
      go_upto_region 4 with fail
      go_region_held3 (fun w' => ∀ b o, b < wc.heap.size → b ≠ w.heap.size + 2 → w'.cell? ⟨b, o, none⟩ = wc.cell? ⟨b, o, none⟩) (repeat first | refine keepS2_set ?_ | exact keepS2 (by (repeat first | (with_reducible exact Below.refl _ _) | (with_reducible exact Be) | (with_reducible exact Bg) | (with_reducible refine below_drew ?_) | (with_reducible refine below_alloc ?_ _) | ((with_reducible refine below_set ?_ ?hh); (case hh => omega))); done))
        (first
          | (go_at_call 121; refine afterO (W := wc) (by (repeat first | (with_reducible exact Below.refl _ _) | (with_reducible refine below_drew ?_) | (with_reducible refine below_alloc ?_ _) | ((with_reducible refine below_set ?_ ?hh); (case hh => omega))); done) (rplus_c _ (hx.below (by (repeat first | (with_reducible exact Below.refl _ _) | (with_reducible refine below_drew ?_) | (with_reducible refine below_alloc ?_ _) | ((with_reducible refine below_set ?_ ?hh); (case hh => omega))); done)) (hy.below (by (repeat first | (with_reducible exact Below.refl _ _) | (with_reducible refine below_drew ?_) | (with_reducible refine below_alloc ?_ _) | ((with_reducible refine below_set ?_ ?hh); (case hh => omega))); done)) s1 s2) ?_; intro A8 L8 c8 we hs Be be ze)
          | (go_at_call 118; refine afterFO (W := wc) (by (repeat first | (with_reducible exact Below.refl _ _) | (with_reducible exact Be) | (with_reducible refine below_drew ?_) | (with_reducible refine below_alloc ?_ _) | ((with_reducible refine below_set ?_ ?hh); (case hh => omega))); done) (lowest_c _ _ (hs.below (by (repeat first | (with_reducible exact Below.refl _ _) | (with_reducible refine below_drew ?_) | (with_reducible refine below_alloc ?_ _) | ((with_reducible refine below_set ?_ ?hh); (case hh => omega))); done)) (hm.below (by (repeat first | (with_reducible exact Below.refl _ _) | (with_reducible exact Be) | (with_reducible refine below_drew ?_) | (with_reducible refine below_alloc ?_ _) | ((with_reducible refine below_set ?_ ?hh); (case hh => omega))); done)) hz s4 s3) ?_; intro A9 L9 c9 AA LA ca wg hA hB Bg bg zg; have hfg := (bcell Bg).2; have hcg := (bcell Bg).1; have yg := Nat.lt_of_lt_of_le yc zg))
      all_goals
        have et : t = fr bp (n * d2 + n2 * d) (d * d2) := ht.out.trans (by unfold sumN; rw [if_pos rfl])
        have H3 := Aside0.mk (below_trans H2.out Bg)
        clear be bg Be Bg
        go_wp2
        refine bodyPost_ret (v := .agg #[.bool (decide ((fr bp (n * d2 + n2 * d) (d * d2)).num < 0)), .slice A9 L9 c9, .slice AA LA ca]) (by simp [results, Tryd.results78, go_sem, hcg, hfg, r0, r1, r2, f0, f1, f2, yc, yg]) rfl (RetF.of (by rw [et]) rfl ?_ ?_ ?_)
        · rw [et]
          refine Nf.low (lo := wc.heap.size) ?_ (by omega)
          repeat first | (with_reducible exact hA) | (with_reducible refine Nf.set ?_ yc _)
        · rw [et]
          refine Nf.low (lo := wc.heap.size) ?_ (by omega)
          repeat first | (with_reducible exact hB) | (with_reducible refine Nf.set ?_ yc _)
        · repeat first | (with_reducible exact H3.out) | refine below_set ?_ (by omega)
    · have hb' : (bp == bq) = false := by cases bp <;> cases bq <;> simp_all
      by_cases hle : n2 * d ≤ n * d2
      · have hg := (rcmpI_ge (n * d2) (n2 * d)).1.mpr hle
        have s5 : Rm (n * d2 - n2 * d) := s1.le (Nat.sub_le _ _)
        have hle' := Aside0.mk hle
        have hb'' := Aside0.mk hb
        clear hb hle
        go_wp2_with fail
        refine afterQ (rcmp_c _ hx hy s1 s2) ?_; intro wd bd zd hcd hfd
        replace k0 := pw_cell_below bd k0
        replace k3 := pw_cell_below bd k3
        replace r0 := pw_cell_below bd r0
        replace r1 := pw_cell_below bd r1
        replace r2 := pw_cell_below bd r2
        replace f0 := (bd.frozen (p := ⟨w.heap.size + 2, 0, none⟩) yc).trans f0
        replace f1 := (bd.frozen (p := ⟨w.heap.size + 2, 1, none⟩) yc).trans f1
        replace f2 := (bd.frozen (p := ⟨w.heap.size + 2, 2, none⟩) yc).trans f2
        replace yc := Nat.lt_of_lt_of_le yc zd
        replace xc := Nat.lt_of_lt_of_le xc zd
        replace vc := Nat.lt_of_lt_of_le vc zd
        replace H2 := Aside0.mk (below_trans H2.out bd)
        replace hx := hx.below bd
        replace hy := hy.below bd
        replace hm := hm.below bd
        clear bd hcd hfd zd
        generalize hcc : rcmpI ((n * d2 : Nat) : Int) ((n2 * d : Nat) : Int) = cc at *
        clear hcc
        go_upto_region 6 with fail
        go_region_held3 (fun w' => ∀ b o, b < wd.heap.size → b ≠ w.heap.size + 2 → w'.cell? ⟨b, o, none⟩ = wd.cell? ⟨b, o, none⟩) (repeat first | refine keepS2_set ?_ | exact keepS2 (by (repeat first | (with_reducible exact Below.refl _ _) | (with_reducible exact Be) | (with_reducible exact Bg) | (with_reducible refine below_drew ?_) | (with_reducible refine below_alloc ?_ _) | ((with_reducible refine below_set ?_ ?hh); (case hh => omega))); done))
          (first
            | (go_at_call 129; refine afterO (W := wd) (by (repeat first | (with_reducible exact Below.refl _ _) | (with_reducible refine below_drew ?_) | (with_reducible refine below_alloc ?_ _) | ((with_reducible refine below_set ?_ ?hh); (case hh => omega))); done) (rminus_c _ (hx.below (by (repeat first | (with_reducible exact Below.refl _ _) | (with_reducible refine below_drew ?_) | (with_reducible refine below_alloc ?_ _) | ((with_reducible refine below_set ?_ ?hh); (case hh => omega))); done)) (hy.below (by (repeat first | (with_reducible exact Below.refl _ _) | (with_reducible refine below_drew ?_) | (with_reducible refine below_alloc ?_ _) | ((with_reducible refine below_set ?_ ?hh); (case hh => omega))); done)) s1 hle'.out) ?_; intro A8 L8 c8 we hs Be be ze)
            | (go_at_call 118; refine afterFO (W := wd) (by (repeat first | (with_reducible exact Below.refl _ _) | (with_reducible exact Be) | (with_reducible refine below_drew ?_) | (with_reducible refine below_alloc ?_ _) | ((with_reducible refine below_set ?_ ?hh); (case hh => omega))); done) (lowest_c _ _ (hs.below (by (repeat first | (with_reducible exact Below.refl _ _) | (with_reducible refine below_drew ?_) | (with_reducible refine below_alloc ?_ _) | ((with_reducible refine below_set ?_ ?hh); (case hh => omega))); done)) (hm.below (by (repeat first | (with_reducible exact Below.refl _ _) | (with_reducible exact Be) | (with_reducible refine below_drew ?_) | (with_reducible refine below_alloc ?_ _) | ((with_reducible refine below_set ?_ ?hh); (case hh => omega))); done)) hz s5 s3) ?_; intro A9 L9 c9 AA LA ca wg hA hB Bg bg zg; have hfg := (bcell Bg).2; have hcg := (bcell Bg).1; have yg := Nat.lt_of_lt_of_le yc zg))
        all_goals
          have et : t = fr bp (n * d2 - n2 * d) (d * d2) := ht.out.trans (by unfold sumN; rw [if_neg hb''.out, if_pos hle'.out])
          have H3 := Aside0.mk (below_trans H2.out Bg)
          clear be bg Be Bg
          go_wp2
          refine bodyPost_ret (v := .agg #[.bool (decide ((fr bp (n * d2 - n2 * d) (d * d2)).num < 0)), .slice A9 L9 c9, .slice AA LA ca]) (by simp [results, Tryd.results78, go_sem, hcg, hfg, r0, r1, r2, f0, f1, f2, yc, yg]) rfl (RetF.of (by rw [et]) rfl ?_ ?_ ?_)
          · rw [et]
            refine Nf.low (lo := wd.heap.size) ?_ (by omega)
            repeat first | (with_reducible exact hA) | (with_reducible refine Nf.set ?_ yc _)
          · rw [et]
            refine Nf.low (lo := wd.heap.size) ?_ (by omega)
            repeat first | (with_reducible exact hB) | (with_reducible refine Nf.set ?_ yc _)
          · repeat first | (with_reducible exact H3.out) | refine below_set ?_ (by omega)
      · have hg := (rcmpI_ge (n * d2) (n2 * d)).2.mpr hle
        have s5 : Rm (n2 * d - n * d2) := s2.le (Nat.sub_le _ _)
        have hle' := Aside0.mk hle
        have hb'' := Aside0.mk hb
        clear hb hle
        go_wp2_with fail
        refine afterQ (rcmp_c _ hx hy s1 s2) ?_; intro wd bd zd hcd hfd
        replace k0 := pw_cell_below bd k0
        replace k3 := pw_cell_below bd k3
        replace r0 := pw_cell_below bd r0
        replace r1 := pw_cell_below bd r1
        replace r2 := pw_cell_below bd r2
        replace f0 := (bd.frozen (p := ⟨w.heap.size + 2, 0, none⟩) yc).trans f0
        replace f1 := (bd.frozen (p := ⟨w.heap.size + 2, 1, none⟩) yc).trans f1
        replace f2 := (bd.frozen (p := ⟨w.heap.size + 2, 2, none⟩) yc).trans f2
        replace yc := Nat.lt_of_lt_of_le yc zd
        replace xc := Nat.lt_of_lt_of_le xc zd
        replace vc := Nat.lt_of_lt_of_le vc zd
        replace H2 := Aside0.mk (below_trans H2.out bd)
        replace hx := hx.below bd
        replace hy := hy.below bd
        replace hm := hm.below bd
        clear bd hcd hfd zd
        generalize hcc : rcmpI ((n * d2 : Nat) : Int) ((n2 * d : Nat) : Int) = cc at *
        clear hcc
        go_upto_region 7 with fail
        go_region_held3 (fun w' => ∀ b o, b < wd.heap.size → b ≠ w.heap.size + 2 → w'.cell? ⟨b, o, none⟩ = wd.cell? ⟨b, o, none⟩) (repeat first | refine keepS2_set ?_ | exact keepS2 (by (repeat first | (with_reducible exact Below.refl _ _) | (with_reducible exact Be) | (with_reducible exact Bg) | (with_reducible refine below_drew ?_) | (with_reducible refine below_alloc ?_ _) | ((with_reducible refine below_set ?_ ?hh); (case hh => omega))); done))
          (first
            | (go_at_call 129; refine afterO (W := wd) (by (repeat first | (with_reducible exact Below.refl _ _) | (with_reducible refine below_drew ?_) | (with_reducible refine below_alloc ?_ _) | ((with_reducible refine below_set ?_ ?hh); (case hh => omega))); done) (rminus_c _ (hy.below (by (repeat first | (with_reducible exact Below.refl _ _) | (with_reducible refine below_drew ?_) | (with_reducible refine below_alloc ?_ _) | ((with_reducible refine below_set ?_ ?hh); (case hh => omega))); done)) (hx.below (by (repeat first | (with_reducible exact Below.refl _ _) | (with_reducible refine below_drew ?_) | (with_reducible refine below_alloc ?_ _) | ((with_reducible refine below_set ?_ ?hh); (case hh => omega))); done)) s2 (by have := hle'.out; omega)) ?_; intro A8 L8 c8 we hs Be be ze)
            | (go_at_call 118; refine afterFO (W := wd) (by (repeat first | (with_reducible exact Below.refl _ _) | (with_reducible exact Be) | (with_reducible refine below_drew ?_) | (with_reducible refine below_alloc ?_ _) | ((with_reducible refine below_set ?_ ?hh); (case hh => omega))); done) (lowest_c _ _ (hs.below (by (repeat first | (with_reducible exact Below.refl _ _) | (with_reducible refine below_drew ?_) | (with_reducible refine below_alloc ?_ _) | ((with_reducible refine below_set ?_ ?hh); (case hh => omega))); done)) (hm.below (by (repeat first | (with_reducible exact Below.refl _ _) | (with_reducible exact Be) | (with_reducible refine below_drew ?_) | (with_reducible refine below_alloc ?_ _) | ((with_reducible refine below_set ?_ ?hh); (case hh => omega))); done)) hz s5 s3) ?_; intro A9 L9 c9 AA LA ca wg hA hB Bg bg zg; have hfg := (bcell Bg).2; have hcg := (bcell Bg).1; have yg := Nat.lt_of_lt_of_le yc zg))
        all_goals
          have et : t = fr bq (n2 * d - n * d2) (d * d2) := ht.out.trans (by unfold sumN; rw [if_neg hb''.out, if_neg hle'.out])
          have H3 := Aside0.mk (below_trans H2.out Bg)
          clear be bg Be Bg
          go_wp2
          refine bodyPost_ret (v := .agg #[.bool (decide ((fr bq (n2 * d - n * d2) (d * d2)).num < 0)), .slice A9 L9 c9, .slice AA LA ca]) (by simp [results, Tryd.results78, go_sem, hcg, hfg, r0, r1, r2, f0, f1, f2, yc, yg]) rfl (RetF.of (by rw [et]) rfl ?_ ?_ ?_)
          · rw [et]
            refine Nf.low (lo := wd.heap.size) ?_ (by omega)
            repeat first | (with_reducible exact hA) | (with_reducible refine Nf.set ?_ yc _)
          · rw [et]
            refine Nf.low (lo := wd.heap.size) ?_ (by omega)
            repeat first | (with_reducible exact hB) | (with_reducible refine Nf.set ?_ yc _)
          · repeat first | (with_reducible exact H3.out) | refine below_set ?_ (by omega)

theorem neg_dec (q : Rat) : decide ((-q).num < 0) = (!decide (q.num < 0) && !decide (q.num.natAbs = 0)) := by
  rw [Rat.neg_num]
  by_cases h : q.num < 0 <;> by_cases g : q.num.natAbs = 0 <;> simp [h, g] <;> omega
set_option maxHeartbeats 1000000 in
theorem neg_c (w : World) (b : Bool) {A A1 : Option Addr} {L c L1 c1 n lo : Nat} (hn : Nf 4294967296 lo w (.slice A L c) n) :
    Calls Tryd.prog 130 #[.agg #[.bool b, .slice A L c, .slice A1 L1 c1]] w fun e w' => e = .returned (.agg #[.bool (!b && !decide (n = 0)), .slice A L c, .slice A1 L1 c1]) ∧ Below w.heap.size w w' := by
  have hz := hn.zero_iff (by decide)
  cases b
  · by_cases h0 : n = 0
    · have hL : L = 0 := by omega
      subst hL
      subst h0
      clear hz
      go_enter Tryd.func130, Tryd.ntmps130
      go_wp2
      refine bodyPost_ret (v := .agg #[.bool false, .slice A 0 c, .slice A1 L1 c1]) (by simp [results, Tryd.results130, go_sem]) rfl ⟨rfl, ?_⟩
      repeat first | exact Below.refl _ _ | refine below_set ?_ (by omega) | refine below_alloc ?_ _
    · have hL : 0 < L := by omega
      rw [decide_eq_false h0]
      clear hz
      go_enter Tryd.func130, Tryd.ntmps130
      go_wp2
      refine bodyPost_ret (v := .agg #[.bool true, .slice A L c, .slice A1 L1 c1]) (by simp [results, Tryd.results130, go_sem]) rfl ⟨rfl, ?_⟩
      repeat first | exact Below.refl _ _ | refine below_set ?_ (by omega) | refine below_alloc ?_ _
  · clear hz
    go_enter Tryd.func130, Tryd.ntmps130
    go_wp2
    refine bodyPost_ret (v := .agg #[.bool false, .slice A L c, .slice A1 L1 c1]) (by simp [results, Tryd.results130, go_sem]) rfl ⟨rfl, ?_⟩
    repeat first | exact Below.refl _ _ | refine below_set ?_ (by omega) | refine below_alloc ?_ _
set_option maxHeartbeats 1000000 in
theorem zero_c (w : World) (b : Bool) {A A1 : Option Addr} {L c L1 c1 n lo : Nat} (hn : Nf 4294967296 lo w (.slice A L c) n) :
    Calls Tryd.prog 82 #[.agg #[.bool b, .slice A L c, .slice A1 L1 c1]] w fun e w' => e = .returned (.bool (decide (n = 0))) ∧ Below w.heap.size w w' := by
  have hz := hn.zero_iff (by decide)
  by_cases h0 : n = 0
  · have hL : L = 0 := by omega
    subst hL
    rw [decide_eq_true h0]
    clear hz h0
    go_enter Tryd.func82, Tryd.ntmps82
    go_wp2
    refine bodyPost_ret (v := .bool true) (by simp [results, Tryd.results82, go_sem]) rfl ⟨rfl, ?_⟩
    repeat first | exact Below.refl _ _ | refine below_set ?_ (by omega) | refine below_alloc ?_ _
  · have hL : 0 < L := by omega
    have hL' : ¬ L = 0 := by omega
    rw [decide_eq_false h0]
    clear hz h0
    go_enter Tryd.func82, Tryd.ntmps82
    go_wp2
    refine bodyPost_ret (v := .bool false) (by simp [results, Tryd.results82, go_sem, hL']) rfl ⟨rfl, ?_⟩
    repeat first | exact Below.refl _ _ | refine below_set ?_ (by omega) | refine below_alloc ?_ _
set_option maxHeartbeats 4000000 in
theorem minus_c (w : World) (p q : Rat) {A A1 A2 A3 : Option Addr} {L c L1 c1 L2 c2 L3 c3 lo lo1 lo2 lo3 e f : Nat} (hn : Nf 4294967296 lo w (.slice A L c) p.num.natAbs) (hd : Nf 4294967296 lo1 w (.slice A1 L1 c1) p.den)
    (hn2 : Nf 4294967296 lo2 w (.slice A2 L2 c2) q.num.natAbs) (hd2 : Nf 4294967296 lo3 w (.slice A3 L3 c3) q.den) (hp : B2 p e) (hq : B2 q f) (hef : e + f < 100000000) :
    Calls Tryd.prog 81 #[.agg #[.bool (decide (p.num < 0)), .slice A L c, .slice A1 L1 c1], .agg #[.bool (decide (q.num < 0)), .slice A2 L2 c2, .slice A3 L3 c3]] w (RetF (p - q) w) := by
  have HB := Aside0.mk (below_alloc (below_alloc (below_alloc (Below.refl w.heap.size w) (Obj.cells #[Value.bool (decide (p.num < 0)), Value.slice A L c, Value.slice A1 L1 c1] 94)) (Obj.cells #[Value.bool (decide (q.num < 0)), Value.slice A2 L2 c2, Value.slice A3 L3 c3] 94)) (Obj.cells #[Value.bool false, Value.slice none 0 0, Value.slice none 0 0] 94))
  rw [Rat.sub_eq_add_neg]
  have hq' := hq.neg
  have en : (-q).num.natAbs = q.num.natAbs := by rw [Rat.neg_num, Int.natAbs_neg]
  have ed : (-q).den = q.den := Rat.neg_den q
  have eb := neg_dec q
  have P : ∀ X A5 L5 c5 A6 L6 c6 A7 L7 c7 A8 L8 c8 a1 a2 a3 a4, Nf 4294967296 a1 X (.slice A5 L5 c5) p.num.natAbs → Nf 4294967296 a2 X (.slice A6 L6 c6) p.den → Nf 4294967296 a3 X (.slice A7 L7 c7) q.num.natAbs → Nf 4294967296 a4 X (.slice A8 L8 c8) q.den →
      Calls Tryd.prog 78 #[.agg #[.bool (decide (p.num < 0)), .slice A5 L5 c5, .slice A6 L6 c6], .agg #[.bool (!decide (q.num < 0) && !decide (q.num.natAbs = 0)), .slice A7 L7 c7, .slice A8 L8 c8]] X (RetF (p + -q) X) := by
    intro X A5 L5 c5 A6 L6 c6 A7 L7 c7 A8 L8 c8 a1 a2 a3 a4 g1 g2 g3 g4
    rw [← eb]
    exact plus_c X p (-q) g1 g2 (by rw [en]; exact g3) (by rw [ed]; exact g4) hp hq' hef
  clear hq' en ed eb hp hq hef
  replace P := Aside0.mk P
  generalize p + -q = t at *
  generalize p.num.natAbs = n at *
  generalize q.num.natAbs = n2 at *
  generalize p.den = d at *
  generalize q.den = d2 at *
  generalize decide (p.num < 0) = bp at *
  generalize decide (q.num < 0) = bq at *
  go_enter Tryd.func81, Tryd.ntmps81
  go_upto_region 1 with fail
  refine region_letter ?_; intro W hW
  have k0 : W.cell? ⟨w.heap.size, 0, none⟩ = some (.bool bp) := by rw [hW]; simp [go_sem]
  have k1 : W.cell? ⟨w.heap.size, 1, none⟩ = some (.slice A L c) := by rw [hW]; simp [go_sem]
  have k2 : W.cell? ⟨w.heap.size, 2, none⟩ = some (.slice A1 L1 c1) := by rw [hW]; simp [go_sem]
  have k3 : W.cell? ⟨w.heap.size + 1, 0, none⟩ = some (.bool bq) := by rw [hW]; simp [go_sem]
  have k4 : W.cell? ⟨w.heap.size + 1, 1, none⟩ = some (.slice A2 L2 c2) := by rw [hW]; simp [go_sem]
  have k5 : W.cell? ⟨w.heap.size + 1, 2, none⟩ = some (.slice A3 L3 c3) := by rw [hW]; simp [go_sem]
  have r0 : W.cell? ⟨w.heap.size + 2, 0, none⟩ = some (.bool false) := by rw [hW]; simp [go_sem]
  have r1 : W.cell? ⟨w.heap.size + 2, 1, none⟩ = some (.slice none 0 0) := by rw [hW]; simp [go_sem]
  have r2 : W.cell? ⟨w.heap.size + 2, 2, none⟩ = some (.slice none 0 0) := by rw [hW]; simp [go_sem]
  have f0 : W.frozen? ⟨w.heap.size + 2, 0, none⟩ = false := by rw [hW]; simp [go_sem]
  have f1 : W.frozen? ⟨w.heap.size + 2, 1, none⟩ = false := by rw [hW]; simp [go_sem]
  have f2 : W.frozen? ⟨w.heap.size + 2, 2, none⟩ = false := by rw [hW]; simp [go_sem]
  have yW : w.heap.size + 2 < W.heap.size := by rw [hW]; simp
  have xW : w.heap.size + 1 < W.heap.size := by omega
  have vW : w.heap.size < W.heap.size := by omega
  have BW : Below w.heap.size w W := by rw [hW]; exact HB.out
  replace hn := hn.below BW
  replace hd := hd.below BW
  replace hn2 := hn2.below BW
  replace hd2 := hd2.below BW
  replace BW := Aside0.mk BW
  clear hW HB
  go_region_held3 (fun w' => ∀ b o, b < W.heap.size → b ≠ w.heap.size + 2 → w'.cell? ⟨b, o, none⟩ = W.cell? ⟨b, o, none⟩) (repeat first | refine keepS2_set ?_ | exact keepS2 (by (repeat first | (with_reducible exact Below.refl _ _) | (with_reducible exact Ba) | (with_reducible exact Bb) | (with_reducible refine below_drew ?_) | (with_reducible refine below_alloc ?_ _) | ((with_reducible refine below_set ?_ ?hh); (case hh => omega))); done))
    (first
      | (go_at_call 130; refine afterOV (W := W) (by (repeat first | (with_reducible exact Below.refl _ _) | (with_reducible refine below_drew ?_) | (with_reducible refine below_alloc ?_ _) | ((with_reducible refine below_set ?_ ?hh); (case hh => omega))); done) (neg_c _ _ (hn2.below (by (repeat first | (with_reducible exact Below.refl _ _) | (with_reducible refine below_drew ?_) | (with_reducible refine below_alloc ?_ _) | ((with_reducible refine below_set ?_ ?hh); (case hh => omega))); done))) ?_; intro wa Ba ba za)
      | (go_at_call 78; refine afterFO (W := W) (by (repeat first | (with_reducible exact Below.refl _ _) | (with_reducible exact Ba) | (with_reducible refine below_drew ?_) | (with_reducible refine below_alloc ?_ _) | ((with_reducible refine below_set ?_ ?hh); (case hh => omega))); done) (P.out _ _ _ _ _ _ _ _ _ _ _ _ _ _ _ _ _ (hn.below (by (repeat first | (with_reducible exact Below.refl _ _) | (with_reducible exact Ba) | (with_reducible refine below_drew ?_) | (with_reducible refine below_alloc ?_ _) | ((with_reducible refine below_set ?_ ?hh); (case hh => omega))); done)) (hd.below (by (repeat first | (with_reducible exact Below.refl _ _) | (with_reducible exact Ba) | (with_reducible refine below_drew ?_) | (with_reducible refine below_alloc ?_ _) | ((with_reducible refine below_set ?_ ?hh); (case hh => omega))); done)) (hn2.below (by (repeat first | (with_reducible exact Below.refl _ _) | (with_reducible exact Ba) | (with_reducible refine below_drew ?_) | (with_reducible refine below_alloc ?_ _) | ((with_reducible refine below_set ?_ ?hh); (case hh => omega))); done)) (hd2.below (by (repeat first | (with_reducible exact Below.refl _ _) | (with_reducible exact Ba) | (with_reducible refine below_drew ?_) | (with_reducible refine below_alloc ?_ _) | ((with_reducible refine below_set ?_ ?hh); (case hh => omega))); done))) ?_; intro A5 L5 c5 A6 L6 c6 wb hA hB Bb bb zb; have hfb := (bcell Bb).2; have hcb := (bcell Bb).1; have yb := Nat.lt_of_lt_of_le yW zb))
  all_goals
    have H3 := Aside0.mk (below_trans BW.out Bb)
    clear bb Bb
    go_wp2
    refine bodyPost_ret (v := .agg #[.bool (decide (t.num < 0)), .slice A5 L5 c5, .slice A6 L6 c6]) (by simp [results, Tryd.results81, go_sem, hcb, hfb, r0, r1, r2, f0, f1, f2, yW, yb]) rfl (RetF.of rfl rfl ?_ ?_ ?_)
    · refine Nf.low (lo := W.heap.size) ?_ (by omega)
      repeat first | (with_reducible exact hA) | (with_reducible refine Nf.set ?_ yW _)
    · refine Nf.low (lo := W.heap.size) ?_ (by omega)
      repeat first | (with_reducible exact hB) | (with_reducible refine Nf.set ?_ yW _)
    · repeat first | (with_reducible exact H3.out) | refine below_set ?_ (by omega)
end Go.Proofs.YtplpmndchdockaaDoor.M
