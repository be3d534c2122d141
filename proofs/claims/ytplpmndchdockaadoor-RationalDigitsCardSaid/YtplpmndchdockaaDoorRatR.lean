import Derived.Test.YtplpmndchdockaaDoorRatP
import Derived.Test.YtplpmndchdockaaDoorRdQ
import Derived.Test.YtplpmndchdockaaDoorOvr
/-! The program's fractions: read and Valid. -/
namespace Go.Proofs.YtplpmndchdockaaDoor.M
open Go Go.RowKit Go.Proofs.YtplpmndchdockaaDoorV.PrintWords
set_option autoImplicit false
set_option linter.unusedVariables false
set_option linter.unusedSimpArgs false

theorem pform_parts {N D : ByteArray} (h : fmB N D = true) : ∃ n d : Nat, (∀ W, Calls Tryd.prog 109 #[.string (aft N)] W (RetN 1000000000 W.heap.size n W)) ∧ (∀ W, Calls Tryd.prog 109 #[.string D] W (RetN 1000000000 W.heap.size d W)) ∧ d ≠ 0 ∧ Sm n ∧ Sm d ∧ rdQ N D = (if Nat.gcd d n = 1 then some (fr (mB N) n d) else none) ∧ (Nat.gcd d n = 1 → mB N = decide ((fr (mB N) n d).num < 0) ∧ (fr (mB N) n d).num.natAbs = n ∧ (fr (mB N) n d).den = d) := by
  obtain ⟨hd1, hd2, hd0⟩ := form_den h
  have e : rdQ N D = (if Nat.gcd (numOf (cs D)).toNat (numOf (cs (aft N))).toNat = 1 then some (fr (mB N) (numOf (cs (aft N))).toNat (numOf (cs D)).toNat) else none) := by
    unfold rdQ
    by_cases hg : Nat.gcd (numOf (cs D)).toNat (numOf (cs (aft N))).toNat = 1
    · rw [if_pos ⟨h, hg⟩, if_pos hg]
    · rw [if_neg (fun hc => hg hc.2), if_neg hg]
  refine ⟨_, _, fun W => parse_c W (aft N) hd1, fun W => parse_c W D hd2, hd0, Sm.num hd1, Sm.num hd2, e, fun hg => ?_⟩
  rw [if_pos hg] at e
  obtain ⟨_, _, p1, p2, p3⟩ := rdQ_parts e
  exact ⟨p3.symm, p1, p2⟩
theorem Sm.one : Sm 1 := ⟨Nat.one_lt_pow (by unfold XL; decide) (by decide)⟩
theorem cmpN_one (g : Nat) : (cmpN g 1 == 0) = decide (g = 1) := by
  unfold cmpN cmpI
  rw [Bool.eq_iff_iff, beq_iff_eq, decide_eq_true_iff]
  repeat' split
  all_goals omega
set_option maxHeartbeats 40000000 in
theorem read_c (w : World) (N D : ByteArray) (hN : N.size ≤ 140737488355328) : Calls Tryd.prog 59 #[.agg #[.string N, .string D]] w (RetR 1000000000 (rdQ N D) w) := by
  have HB := Aside0.mk (below_alloc (below_alloc (Below.refl w.heap.size w) (Obj.cells #[Value.string N, Value.string D] 23)) (Obj.cells #[Value.bool false, Value.slice none 0 0, Value.slice none 0 0] 82))
  go_enter Tryd.func59, Tryd.ntmps59
  go_wp2_with fail
  refine afterQ (cut_c _ N (by omega)) ?_; intro w0 b0 z0 hc0 hf0; have y0 : w.heap.size < w0.heap.size := (by simp at z0; omega); have x0 : w.heap.size + 1 < w0.heap.size := (by simp at z0; omega); have H0 := Aside0.mk (below_trans HB.out b0); clear b0 z0
  go_wp2_with fail
  refine afterQ (digits_c _ _) ?_; intro w1 b1 z1 hc1 hf1; have y1 := Nat.lt_of_lt_of_le y0 z1; have x1 := Nat.lt_of_lt_of_le x0 z1; have H1 := Aside0.mk (below_trans H0.out b1); clear b1 z1
  go_wp2_with fail
  case isTrue =>
    refine afterQ (digits_c _ D) ?_; intro w2 b2 z2 hc2 hf2; have y2 := Nat.lt_of_lt_of_le y1 z2; have x2 := Nat.lt_of_lt_of_le x1 z2; have H2 := Aside0.mk (below_trans H1.out b2); clear b2 z2
    go_upto_region 4 with fail
    all_goals try (
      refine bodyPost_ret (v := .tuple #[.agg #[.bool false, .slice none 0 0, .slice none 0 0], .bool false]) (by simp [results, Tryd.results59, go_sem, hc2, hc1, hc0, y0, x0, y1, x1, y2, x2]) rfl (RetR.no (rdQ_no (by rw [form_iff]; simp_all)) rfl ?_)
      repeat first | exact H2.out | refine below_set ?_ (by omega) | refine below_alloc ?_ _
      done)
    all_goals
      have hf : fmB N D = true := by rw [form_iff]; simp_all
      obtain ⟨n, d, pA, pD, hd0, sn, sd, hrd, hpt⟩ := pform_parts hf
      obtain ⟨b0, hb0⟩ : ∃ b0, b0 = mB N := ⟨_, rfl⟩
      rw [← hb0] at hrd hpt
      first
        | rw [show mB N = true by assumption] at hb0
        | rw [show mB N = false from Bool.eq_false_iff.mpr (by assumption)] at hb0
      replace hb0 := Aside0.mk hb0
      replace pA := Aside0.mk pA
      replace pD := Aside0.mk pD
      replace hrd := Aside0.mk hrd
      replace hpt := Aside0.mk hpt
      have k2 : w2.cell? ⟨w.heap.size, 1, none⟩ = some (.string D) := by simp [go_sem, hc2, hc1, hc0, y0, y1, y2]
      have r0 : w2.cell? ⟨w.heap.size + 1, 0, none⟩ = some (.bool false) := by simp [go_sem, hc2, hc1, hc0, x0, x1, x2]
      have r1 : w2.cell? ⟨w.heap.size + 1, 1, none⟩ = some (.slice none 0 0) := by simp [go_sem, hc2, hc1, hc0, x0, x1, x2]
      have r2 : w2.cell? ⟨w.heap.size + 1, 2, none⟩ = some (.slice none 0 0) := by simp [go_sem, hc2, hc1, hc0, x0, x1, x2]
      have f0 : w2.frozen? ⟨w.heap.size + 1, 0, none⟩ = false := by simp [go_sem, hf2, hf1, hf0, x0, x1, x2]
      have f1 : w2.frozen? ⟨w.heap.size + 1, 1, none⟩ = false := by simp [go_sem, hf2, hf1, hf0, x0, x1, x2]
      have f2 : w2.frozen? ⟨w.heap.size + 1, 2, none⟩ = false := by simp [go_sem, hf2, hf1, hf0, x0, x1, x2]
      clear hc0 hf0 hc1 hf1 hc2 hf2 y1 x1 H1 y0 x0 H0
      replace hd0 := Aside0.mk hd0
      clear hf
      go_cut [6] (fun s6 wx => ∃ g A L c A' L' c', s6 = .pointer (some ⟨g, 0, none⟩) ∧ w.heap.size + 1 < g ∧ Aside0 (wx.heap[g]? = some (.cells #[.bool b0, .slice A L c, .slice A' L' c'] 82 (0, 0)) ∧ Nf 1000000000 w2.heap.size wx (.slice A L c) n ∧ Nf 1000000000 w2.heap.size wx (.slice A' L' c') d ∧ Below w2.heap.size w2 wx))
      case first =>
        have yD : w.heap.size < w2.heap.size := y2
        go_region_held3 (fun w' => Below w2.heap.size w2 w' ∧ ∀ b o, b < w2.heap.size → w'.cell? ⟨b, o, none⟩ = w2.cell? ⟨b, o, none⟩) (exact keepS (by (repeat first | (with_reducible exact Below.refl _ _) | (with_reducible exact Ba) | (with_reducible exact Bb) | (with_reducible refine below_drew ?_) | (with_reducible refine below_alloc ?_ _) | ((with_reducible refine below_set ?_ ?hh); (case hh => omega))); done))
          (first
            | (go_at_call_of 109 (Value.string D); refine afterO (W := w2) (by (repeat first | (with_reducible exact Below.refl _ _) | (with_reducible exact Ba) | (with_reducible refine below_drew ?_) | (with_reducible refine below_alloc ?_ _) | ((with_reducible refine below_set ?_ ?hh); (case hh => omega))); done) (pD.out _) ?_; intro A' L' c' wb hp Bb bb zb; have hcb := (bcell bb).1; have hfb := (bcell bb).2; have xb := bb.size; (try simp at xb); (try have vb := Nat.lt_of_succ_le xb); have Bab : Below wa.heap.size wa wb := below_trans (by (repeat first | (with_reducible exact Below.refl _ _) | (with_reducible refine below_drew ?_) | (with_reducible refine below_alloc ?_ _) | ((with_reducible refine below_set ?_ ?hh); (case hh => omega))); done) bb)
            | (go_at_call 109; refine afterO (W := w2) (by (repeat first | (with_reducible exact Below.refl _ _) | (with_reducible refine below_drew ?_) | (with_reducible refine below_alloc ?_ _) | ((with_reducible refine below_set ?_ ?hh); (case hh => omega))); done) (pA.out _) ?_; intro A L c wa hn Ba ba za; have hca := (bcell ba).1; have hfa := (bcell ba).2; have xa := ba.size; (try simp at xa); (try have va := Nat.lt_of_succ_le xa)))
        all_goals
          go_wp2_with fail
          go_meet
          refine ⟨_, A, L, c, A', L', c', rfl, by omega, ⟨?_, ?_, ?_, ?_⟩⟩
          · rw [hb0.out]
            repeat first | (with_reducible exact blk_new _ _) | ((with_reducible refine blk_put (cs := #[.bool true, .slice A L c, .slice none 0 0]) ?_ 2 _ ?hh); (case hh => rfl)) | ((with_reducible refine blk_put (cs := #[.bool false, .slice A L c, .slice none 0 0]) ?_ 2 _ ?hh); (case hh => rfl)) | ((with_reducible refine blk_put (cs := #[.bool true, .slice none 0 0, .slice none 0 0]) ?_ 1 _ ?hh); (case hh => rfl)) | ((with_reducible refine blk_put (cs := #[.bool false, .slice none 0 0, .slice none 0 0]) ?_ 1 _ ?hh); (case hh => rfl)) | ((with_reducible refine blk_put (cs := #[.bool false, .slice none 0 0, .slice none 0 0]) ?_ 0 _ ?hh); (case hh => rfl)) | (with_reducible refine blk_below ?_ bb) | (with_reducible refine blk_below ?_ ba) | (with_reducible refine blk_drew ?_)
          · first
              | ((with_reducible refine Nf.low (Nf.below hn ?hh) ?_); (case hh => ((repeat first | (with_reducible exact Below.refl _ _) | (with_reducible exact Bab) | (with_reducible refine below_drew ?_) | (with_reducible refine below_alloc ?_ _) | ((with_reducible refine below_set ?_ ?hh); (case hh => omega))); done)); first | exact Nat.le_refl _ | simp)
              | ((with_reducible refine Nf.low (Nf.set (Nf.set (Nf.set (Nf.below hn Bab) ?_ _) ?_ _) ?_ _) ?_) <;> simp)
          · first
              | ((with_reducible refine Nf.low (Nf.below hp ?hh) ?_); (case hh => ((repeat first | (with_reducible exact Below.refl _ _) | (with_reducible refine below_drew ?_) | (with_reducible refine below_alloc ?_ _) | ((with_reducible refine below_set ?_ ?hh); (case hh => omega))); done)); first | exact za | exact Nat.le_refl _ | (simp; done) | (simp; omega))
              | ((with_reducible refine Nf.low (Nf.set (Nf.set (Nf.set hp ?_ _) ?_ _) ?_ _) ?_) <;> (first | (simp; done) | (simp; omega) | omega))
          · exact (by (repeat first | (with_reducible exact Below.refl _ _) | (with_reducible exact Bb) | (with_reducible refine below_drew ?_) | (with_reducible refine below_alloc ?_ _) | ((with_reducible refine below_set ?_ ?hh); (case hh => omega))); done)
      case rest =>
        obtain ⟨g, A, L, c, A', L', c', rfl, hg, hx⟩ := hcut
        obtain ⟨hB, hn, hp, hW⟩ := hx.out
        have c0 := (blk_cell hB 0).trans (rfl : _ = some (Value.bool b0))
        have c1 := (blk_cell hB 1).trans (rfl : _ = some (Value.slice A L c))
        have c2 := (blk_cell hB 2).trans (rfl : _ = some (Value.slice A' L' c'))
        have r0' := pw_cell_below hW r0
        have r1' := pw_cell_below hW r1
        have r2' := pw_cell_below hW r2
        have f0' := (hW.frozen (p := ⟨w.heap.size + 1, 0, none⟩) x2).trans f0
        have f1' := (hW.frozen (p := ⟨w.heap.size + 1, 1, none⟩) x2).trans f1
        have f2' := (hW.frozen (p := ⟨w.heap.size + 1, 2, none⟩) x2).trans f2
        have y3 := Nat.lt_of_lt_of_le x2 hW.size
        have H3 := Aside0.mk (below_trans H2.out hW)
        replace hn := Aside0.mk hn
        replace hp := Aside0.mk hp
        have yg := blk_lt hB
        clear r0 r1 r2 f0 f1 f2 hW hx k2 hB
        have sg : Sm (Nat.gcd d n) := sd.le (Nat.gcd_le_left _ (Nat.pos_of_ne_zero hd0.out))
        go_wp2_with fail
        have gne : g ≠ w.heap.size + 1 := by omega
        go_region_held3 (fun w' => ∀ b o, b < wc.heap.size → b ≠ w.heap.size + 1 → w'.cell? ⟨b, o, none⟩ = wc.cell? ⟨b, o, none⟩) (repeat first | refine keepS2_set ?_ | exact keepS2 (by (repeat first | (with_reducible exact Below.refl _ _) | (with_reducible exact Ba) | (with_reducible exact Bb) | (with_reducible refine below_drew ?_) | (with_reducible refine below_alloc ?_ _) | ((with_reducible refine below_set ?_ ?hh); (case hh => omega))); done))
          (first
            | (go_at_call 110; refine afterO (W := wc) (by (repeat first | (with_reducible exact Below.refl _ _) | (with_reducible refine below_drew ?_) | (with_reducible refine below_alloc ?_ _) | ((with_reducible refine below_set ?_ ?hh); (case hh => omega))); done) (gcd_c _ (hp.out.below (by (repeat first | (with_reducible exact Below.refl _ _) | (with_reducible refine below_drew ?_) | (with_reducible refine below_alloc ?_ _) | ((with_reducible refine below_set ?_ ?hh); (case hh => omega))); done)) (hn.out.below (by (repeat first | (with_reducible exact Below.refl _ _) | (with_reducible refine below_drew ?_) | (with_reducible refine below_alloc ?_ _) | ((with_reducible refine below_set ?_ ?hh); (case hh => omega))); done)) sd sn) ?_; intro A5 L5 c5 wa hgc Ba ba za; have hca := (bcell Ba).1; have hfa := (bcell Ba).2; have ya := Nat.lt_of_lt_of_le y3 za)
            | (go_at_call 64; refine afterOQ (W := wc) (by (repeat first | (with_reducible exact Below.refl _ _) | (with_reducible exact Ba) | (with_reducible refine below_drew ?_) | (with_reducible refine below_alloc ?_ _) | ((with_reducible refine below_set ?_ ?hh); (case hh => omega))); done) (cmp_c _ (hgc.below (by (repeat first | (with_reducible exact Below.refl _ _) | (with_reducible refine below_drew ?_) | (with_reducible refine below_alloc ?_ _) | ((with_reducible refine below_set ?_ ?hh); (case hh => omega))); done)) (Nf.one (e := 90) (by decide) (by repeat first | (with_reducible exact blk_new _ _) | (with_reducible refine blk_below ?_ ba) | (with_reducible refine blk_drew ?_))) sg Sm.one) ?_; intro wb Bb bb zb; have hcb := (bcell Bb).1; have hfb := (bcell Bb).2; have yb := Nat.lt_of_lt_of_le y3 zb))
        all_goals
          go_wp2
          refine bodyPost_ret (v := .tuple #[.agg #[.bool b0, .slice A L c, .slice A' L' c'], .bool (cmpN (Nat.gcd d n) 1 == 0)]) (by simp [results, Tryd.results59, go_sem, hcb, hfb, c0, c1, c2, y3, yg, r0', r1', r2', f0', f1', f2']) rfl ⟨b0, A, L, c, A', L', c', ?_, ?_, ?_⟩
          · rw [hrd.out, cmpN_one]; by_cases hg : Nat.gcd d n = 1 <;> simp [hg]
          · have B5 := below_then H3.out H3.out.size Bb
            repeat first | exact B5 | refine below_set ?_ (by omega) | refine below_alloc ?_ _
          · intro q hq
            rw [hrd.out] at hq
            by_cases hg : Nat.gcd d n = 1
            · rw [if_pos hg] at hq
              injection hq with hq
              obtain ⟨p1, p2, p3⟩ := hpt.out hg
              rw [← hq, p2, p3]
              refine ⟨p1, ?_, ?_⟩
              · refine Nf.low (lo := w2.heap.size) ?_ (Nat.le_of_lt y2)
                have h6 := hn.out.below Bb
                repeat first | (with_reducible exact h6) | (with_reducible refine Nf.set ?_ x2 _)
              · refine Nf.low (lo := w2.heap.size) ?_ (Nat.le_of_lt y2)
                have h6 := hp.out.below Bb
                repeat first | (with_reducible exact h6) | (with_reducible refine Nf.set ?_ x2 _)
            · rw [if_neg hg] at hq; cases hq
  all_goals
    refine bodyPost_ret (v := .tuple #[.agg #[.bool false, .slice none 0 0, .slice none 0 0], .bool false]) (by simp [results, Tryd.results59, go_sem, hc1, hc0, y0, x0, y1, x1]) rfl (RetR.no (rdQ_no (by rw [form_iff]; simp_all)) rfl ?_)
    repeat first | exact H1.out | refine below_set ?_ (by omega) | refine below_alloc ?_ _
end Go.Proofs.YtplpmndchdockaaDoor.M
