import Derived.Test.YtplpmndchdockaaDoorRatS
/-! The program's fractions: sum. -/
namespace Go.Proofs.YtplpmndchdockaaDoor.M
open Go Go.RowKit Go.Proofs.YtplpmndchdockaaDoorV.PrintWords
set_option autoImplicit false
set_option linter.unusedVariables false
set_option linter.unusedSimpArgs false

/-- A call that hands back a fraction of the program, in parts. -/
def RetP (b : Bool) (n d : Nat) (w : World) (e : Ending) (w' : World) : Prop := ∃ A L c A' L' c', e = .returned (.agg #[.bool b, .slice A L c, .slice A' L' c']) ∧ Nf 1000000000 w.heap.size w' (.slice A L c) n ∧ Nf 1000000000 w.heap.size w' (.slice A' L' c') d ∧ Below w.heap.size w w'
theorem RetP.of {b b' : Bool} {n d : Nat} {w w' : World} {e : Ending} {A A' : Option Addr} {L c L' c' : Nat} (hb : b = b') (he : e = .returned (.agg #[.bool b', .slice A L c, .slice A' L' c'])) (hn : Nf 1000000000 w.heap.size w' (.slice A L c) n) (hd : Nf 1000000000 w.heap.size w' (.slice A' L' c') d) (hB : Below w.heap.size w w') : RetP b n d w e w' := by
  subst hb
  exact ⟨A, L, c, A', L', c', he, hn, hd, hB⟩
theorem afterP {P : Program} {f : FuncId} {args : Array Value} {W : World} {b : Bool} {n d : Nat} {Q : Ending → World → Prop} (h : Calls P f args W (RetP b n d W))
    (k : ∀ A L c A' L' c' w1, Nf 1000000000 W.heap.size w1 (.slice A L c) n → Nf 1000000000 W.heap.size w1 (.slice A' L' c') d → Below W.heap.size W w1 → W.heap.size ≤ w1.heap.size → (∀ b o, b < W.heap.size → w1.cell? ⟨b, o, none⟩ = W.cell? ⟨b, o, none⟩) → (∀ b o, b < W.heap.size → w1.frozen? ⟨b, o, none⟩ = W.frozen? ⟨b, o, none⟩) → Q (.returned (.agg #[.bool b, .slice A L c, .slice A' L' c'])) w1) : Calls P f args W Q :=
  h.mono fun e w1 ⟨A, L, c, A', L', c', he, hN, hM, hb⟩ => by subst he; exact k A L c A' L' c' w1 hN hM hb hb.size (bcell hb).1 (bcell hb).2
theorem cmpN_ge (a b : Nat) : (0 ≤ cmpN a b ↔ b ≤ a) ∧ (cmpN a b < 0 ↔ ¬ b ≤ a) := by
  unfold cmpN cmpI
  constructor <;> (repeat' split) <;> omega
set_option maxHeartbeats 4000000 in
theorem sum_c (w : World) (bp bq : Bool) {A A1 A2 A3 : Option Addr} {L c L1 c1 L2 c2 L3 c3 lo lo1 lo2 lo3 n d n2 d2 : Nat} (hn : Nf 1000000000 lo w (.slice A L c) n) (hd : Nf 1000000000 lo1 w (.slice A1 L1 c1) d)
    (hn2 : Nf 1000000000 lo2 w (.slice A2 L2 c2) n2) (hd2 : Nf 1000000000 lo3 w (.slice A3 L3 c3) d2) (t1 : Sm n) (t2 : Sm d) (t3 : Sm n2) (t4 : Sm d2) (s1 : Sm (n * d2)) (s2 : Sm (n2 * d)) (s3 : Sm (d * d2)) :
    Calls Tryd.prog 77 #[.agg #[.bool bp, .slice A L c, .slice A1 L1 c1], .agg #[.bool bq, .slice A2 L2 c2, .slice A3 L3 c3]] w (RetP (sumN bp bq (n * d2) (n2 * d)).1 (sumN bp bq (n * d2) (n2 * d)).2 (d * d2) w) := by
  have HB := Aside0.mk (below_alloc (below_alloc (below_alloc (Below.refl w.heap.size w) (Obj.cells #[Value.bool bp, Value.slice A L c, Value.slice A1 L1 c1] 82)) (Obj.cells #[Value.bool bq, Value.slice A2 L2 c2, Value.slice A3 L3 c3] 82)) (Obj.cells #[Value.bool false, Value.slice none 0 0, Value.slice none 0 0] 82))
  obtain ⟨tb, htb⟩ : ∃ t, t = (sumN bp bq (n * d2) (n2 * d)).1 := ⟨_, rfl⟩
  obtain ⟨tn, htn⟩ : ∃ t, t = (sumN bp bq (n * d2) (n2 * d)).2 := ⟨_, rfl⟩
  rw [← htb, ← htn]
  replace htb := Aside0.mk htb
  replace htn := Aside0.mk htn
  go_enter Tryd.func77, Tryd.ntmps77
  go_upto_region 1 with fail
  refine region_letter ?_; intro W hW
  have k0 : W.cell? ⟨w.heap.size, 0, none⟩ = some (.bool bp) := by rw [hW]; simp [go_sem]
  have k1 : W.cell? ⟨w.heap.size, 1, none⟩ = some (.slice A L c) := by rw [hW]; simp [go_sem]
  have k2 : W.cell? ⟨w.heap.size, 2, none⟩ = some (.slice A1 L1 c1) := by rw [hW]; simp [go_sem]
  have k3 : W.cell? ⟨w.heap.size + 1, 0, none⟩ = some (.bool bq) := by rw [hW]; simp [go_sem]
  have k4 : W.cell? ⟨w.heap.size + 1, 1, none⟩ = some (.slice A2 L2 c2) := by rw [hW]; simp [go_sem]
  have k5 : W.cell? ⟨w.heap.size + 1, 2, none⟩ = some (.slice A3 L3 c3) := by rw [hW]; simp [go_sem]
  have r0 : W.cell? ⟨w.heap.size + 2, 0, none⟩ = some (.bool false) := by rw [hW]; simp [go_sem]
  have r1 : W.cell? ⟨w.heap.size + 2, 1, none⟩ = some (.slice none 0 0) := by rw [hW]; simp [go_sem]
  have r2 : W.cell? ⟨w.heap.size + 2, 2, none⟩ = some (.slice none 0 0) := by rw [hW]; simp [go_sem]
  have f0 : W.frozen? ⟨w.heap.size + 2, 0, none⟩ = false := by rw [hW]; simp [go_sem]
  have f1 : W.frozen? ⟨w.heap.size + 2, 1, none⟩ = false := by rw [hW]; simp [go_sem]
  have f2 : W.frozen? ⟨w.heap.size + 2, 2, none⟩ = false := by rw [hW]; simp [go_sem]
  have yW : w.heap.size + 2 < W.heap.size := by rw [hW]; simp
  have xW : w.heap.size + 1 < W.heap.size := by omega
  have vW : w.heap.size < W.heap.size := by omega
  have BW : Below w.heap.size w W := by rw [hW]; exact HB.out
  replace hn := hn.below BW
  replace hd := hd.below BW
  replace hn2 := hn2.below BW
  replace hd2 := hd2.below BW
  replace BW := Aside0.mk BW
  clear hW HB
  go_region_held3 (fun w' => Below W.heap.size W w' ∧ ∀ b o, b < W.heap.size → w'.cell? ⟨b, o, none⟩ = W.cell? ⟨b, o, none⟩) (exact keepS (by (repeat first | (with_reducible exact Below.refl _ _) | (with_reducible exact Ba) | (with_reducible exact Bb) | (with_reducible refine below_drew ?_) | (with_reducible refine below_alloc ?_ _) | ((with_reducible refine below_set ?_ ?hh); (case hh => omega))); done))
    (first
      | (go_at_call_of 61 (Value.slice A L c); refine afterO (W := W) (by (repeat first | (with_reducible exact Below.refl _ _) | (with_reducible refine below_drew ?_) | (with_reducible refine below_alloc ?_ _) | ((with_reducible refine below_set ?_ ?hh); (case hh => omega))); done) (mul_c _ (hn.below (by (repeat first | (with_reducible exact Below.refl _ _) | (with_reducible refine below_drew ?_) | (with_reducible refine below_alloc ?_ _) | ((with_reducible refine below_set ?_ ?hh); (case hh => omega))); done)) (hd2.below (by (repeat first | (with_reducible exact Below.refl _ _) | (with_reducible refine below_drew ?_) | (with_reducible refine below_alloc ?_ _) | ((with_reducible refine below_set ?_ ?hh); (case hh => omega))); done)) t1 t4) ?_; intro A5 L5 c5 wa hx Ba ba za)
      | (go_at_call_of 61 (Value.slice A2 L2 c2); refine afterO (W := W) (by (repeat first | (with_reducible exact Below.refl _ _) | (with_reducible exact Ba) | (with_reducible refine below_drew ?_) | (with_reducible refine below_alloc ?_ _) | ((with_reducible refine below_set ?_ ?hh); (case hh => omega))); done) (mul_c _ (hn2.below (by (repeat first | (with_reducible exact Below.refl _ _) | (with_reducible exact Ba) | (with_reducible refine below_drew ?_) | (with_reducible refine below_alloc ?_ _) | ((with_reducible refine below_set ?_ ?hh); (case hh => omega))); done)) (hd.below (by (repeat first | (with_reducible exact Below.refl _ _) | (with_reducible exact Ba) | (with_reducible refine below_drew ?_) | (with_reducible refine below_alloc ?_ _) | ((with_reducible refine below_set ?_ ?hh); (case hh => omega))); done)) t3 t2) ?_; intro A6 L6 c6 wb hy Bb bb zb; replace hx := hx.below (below_trans (by (repeat first | (with_reducible exact Below.refl _ _) | (with_reducible refine below_drew ?_) | (with_reducible refine below_alloc ?_ _) | ((with_reducible refine below_set ?_ ?hh); (case hh => omega))); done) bb)))
  all_goals
    (rename Below _ _ _ ∧ _ => hh0; clear hh0)
    replace hd := hd.below Bb
    replace hd2 := hd2.below Bb
    replace hx := hx.low (lo' := W.heap.size) (by simp)
    replace hy := hy.low (lo' := W.heap.size) (by first | exact za | simp)
    replace k0 := pw_cell_below Bb k0
    replace k3 := pw_cell_below Bb k3
    replace r0 := pw_cell_below Bb r0
    replace r1 := pw_cell_below Bb r1
    replace r2 := pw_cell_below Bb r2
    replace f0 := (Bb.frozen (p := ⟨w.heap.size + 2, 0, none⟩) yW).trans f0
    replace f1 := (Bb.frozen (p := ⟨w.heap.size + 2, 1, none⟩) yW).trans f1
    replace f2 := (Bb.frozen (p := ⟨w.heap.size + 2, 2, none⟩) yW).trans f2
    replace k2 := pw_cell_below Bb k2
    replace k5 := pw_cell_below Bb k5
    have yb := Nat.lt_of_lt_of_le yW zb
    have xb : w.heap.size + 1 < wb.heap.size := by omega
    have vb : w.heap.size < wb.heap.size := by omega
    have H1 := Aside0.mk (below_trans BW.out Bb)
    clear ba bb Ba Bb za k1 k4 hn hn2 yW xW vW
    go_upto_region 2 with fail
    go_cut [7] (fun s7 wx => ∃ g A L c, s7 = .pointer (some ⟨g, 0, none⟩) ∧ wb.heap.size ≤ g ∧ Aside0 (wx.heap[g]? = some (.cells #[.bool bp, .slice none 0 0, .slice A L c] 82 (0, 0)) ∧ Ng 1000000000 wb.heap.size g wx (.slice A L c) (d * d2) ∧ Below wb.heap.size wb wx))
    case first =>
      go_region_held3 (fun w' => Below wb.heap.size wb w' ∧ ∀ b o, b < wb.heap.size → w'.cell? ⟨b, o, none⟩ = wb.cell? ⟨b, o, none⟩) (exact keepS (by (repeat first | (with_reducible exact Below.refl _ _) | (with_reducible exact Bc) | (with_reducible refine below_drew ?_) | (with_reducible refine below_alloc ?_ _) | ((with_reducible refine below_set ?_ ?hh); (case hh => omega))); done))
        (first
          | (go_at_call 61; refine afterO (W := wb) (by (repeat first | (with_reducible exact Below.refl _ _) | (with_reducible refine below_drew ?_) | (with_reducible refine below_alloc ?_ _) | ((with_reducible refine below_set ?_ ?hh); (case hh => omega))); done) (mul_c _ (hd.below (by (repeat first | (with_reducible exact Below.refl _ _) | (with_reducible refine below_drew ?_) | (with_reducible refine below_alloc ?_ _) | ((with_reducible refine below_set ?_ ?hh); (case hh => omega))); done)) (hd2.below (by (repeat first | (with_reducible exact Below.refl _ _) | (with_reducible refine below_drew ?_) | (with_reducible refine below_alloc ?_ _) | ((with_reducible refine below_set ?_ ?hh); (case hh => omega))); done)) t2 t4) ?_; intro A7 L7 c7 wc hm Bc bc zc; have hcc := (bcell bc).1; have hfc := (bcell bc).2; have xc := bc.size; (try simp at xc); (try have vc := Nat.lt_of_succ_le xc)))
      all_goals
        go_wp2_with fail
        go_meet
        refine ⟨_, A7, L7, c7, rfl, by first | exact Nat.le_refl _ | exact zc | omega, ⟨?_, ?_, ?_⟩⟩
        · repeat first | (with_reducible exact blk_new _ _) | ((with_reducible refine blk_put (cs := #[.bool bp, .slice none 0 0, .slice none 0 0]) ?_ 2 _ ?hh); (case hh => rfl)) | ((with_reducible refine blk_put (cs := #[.bool bp, .slice none 0 0, .slice none 0 0]) ?_ 1 _ ?hh); (case hh => rfl)) | ((with_reducible refine blk_put (cs := #[.bool false, .slice none 0 0, .slice none 0 0]) ?_ 0 _ ?hh); (case hh => rfl)) | (with_reducible refine blk_below ?_ bc) | (with_reducible refine blk_drew ?_)
        · first
            | ((with_reducible refine Ng.alloc (Ng.low (Nf.apart hm (.inr ?hh)) ?_) _); (case hh => exact Nat.le_refl _); first | exact Nat.le_refl _ | simp)
            | ((with_reducible refine Ng.set (Ng.set (Ng.set (Ng.low (Nf.apart hm (.inl ?hh)) ?_) _ _) _ _) _ _); (case hh => first | (simp; done) | (simp; omega)); first | exact Nat.le_refl _ | (simp; done))
        · exact (by (repeat first | (with_reducible exact Below.refl _ _) | (with_reducible exact Bc) | (with_reducible refine below_drew ?_) | (with_reducible refine below_alloc ?_ _) | ((with_reducible refine below_set ?_ ?hh); (case hh => omega))); done)
    case rest =>
      obtain ⟨g, A7, L7, c7, rfl, hg, hx1⟩ := hcut
      obtain ⟨hB, hm, hW⟩ := hx1.out
      have g0 := (blk_cell hB 0).trans (rfl : _ = some (Value.bool bp))
      have g1 := (blk_cell hB 1).trans (rfl : _ = some (Value.slice none 0 0))
      have g2 := (blk_cell hB 2).trans (rfl : _ = some (Value.slice A7 L7 c7))
      have e0 := blk_frozen hB 0
      have e1 := blk_frozen hB 1
      replace k0 := pw_cell_below hW k0
      replace k3 := pw_cell_below hW k3
      replace r0 := pw_cell_below hW r0
      replace r1 := pw_cell_below hW r1
      replace r2 := pw_cell_below hW r2
      replace f0 := (hW.frozen (p := ⟨w.heap.size + 2, 0, none⟩) yb).trans f0
      replace f1 := (hW.frozen (p := ⟨w.heap.size + 2, 1, none⟩) yb).trans f1
      replace f2 := (hW.frozen (p := ⟨w.heap.size + 2, 2, none⟩) yb).trans f2
      have yc := Nat.lt_of_lt_of_le yb hW.size
      have xc : w.heap.size + 1 < wc.heap.size := by omega
      have vc : w.heap.size < wc.heap.size := by omega
      have yg := blk_lt hB
      have n1 : g ≠ w.heap.size + 2 := by omega
      have n2' : w.heap.size + 2 ≠ g := by omega
      have n3 : w.heap.size ≠ g := by omega
      have n4 : w.heap.size + 1 ≠ g := by omega
      have H2 := Aside0.mk (below_trans H1.out hW)
      replace hx := hx.below hW
      replace hy := hy.below hW
      clear hW hx1 hB k2 k5 hd hd2
      by_cases hb : bp = bq
      · subst hb
        go_wp2_with fail
        refine after (add_c _ hx hy s1 s2) ?_; intro A8 L8 c8 we hs be ze hce hfe; have ye := Nat.lt_of_lt_of_le yc ze; have xe : g < we.heap.size := Nat.lt_of_lt_of_le yg ze
        have et : tb = bp := htb.out.trans (by unfold sumN; rw [if_pos rfl])
        have en : tn = n * d2 + n2 * d := htn.out.trans (by unfold sumN; rw [if_pos rfl])
        have H3 := Aside0.mk (below_trans H2.out be)
        have hm2 := hm.below be
        replace hx := Aside0.mk hx
        have et' := Aside0.mk et
        have en' := Aside0.mk en
        clear et en
        go_wp2
        refine bodyPost_ret (v := .agg #[.bool bp, .slice A8 L8 c8, .slice A7 L7 c7]) (by simp [results, Tryd.results77, go_sem, hce, hfe, ye, xe, yc, yg, g0, g1, g2, e0, e1, r0, r1, r2, f0, f1, f2, n1, n2', n3, n4]) rfl (RetP.of et'.out rfl ?_ ?_ ?_)
        · rw [en'.out]
          refine Nf.low (lo := wc.heap.size) ?_ (by omega)
          repeat first | (with_reducible exact hs) | (with_reducible refine Nf.set ?_ yc _) | (with_reducible refine Nf.set ?_ yg _) | exact hs | (with_reducible refine Nf.set ?_ yg _)
        · refine Nf.low (lo := wb.heap.size) (Ng.toNf (g := g) ?_) (by omega)
          repeat first | (with_reducible exact hm2) | (with_reducible refine Ng.setLow ?_ yb _) | (with_reducible refine Ng.set ?_ _ _)
        · repeat first | (with_reducible exact H3.out) | refine below_set ?_ (by omega)
      · have hb' : (bp == bq) = false := by cases bp <;> cases bq <;> simp_all
        by_cases hle : n2 * d ≤ n * d2
        · have hge := (cmpN_ge (n * d2) (n2 * d)).1.mpr hle
          have et : tb = bp := htb.out.trans (by unfold sumN; rw [if_neg hb, if_pos hle])
          have en : tn = n * d2 - n2 * d := htn.out.trans (by unfold sumN; rw [if_neg hb, if_pos hle])
          replace et := Aside0.mk et
          replace en := Aside0.mk en
          replace hle := Aside0.mk hle
          clear hb
          go_wp2_with fail
          refine afterQ (cmp_c _ hx hy s1 s2) ?_; intro wd bd zd hcd hfd
          replace k0 := pw_cell_below bd k0
          replace k3 := pw_cell_below bd k3
          replace r0 := pw_cell_below bd r0
          replace r1 := pw_cell_below bd r1
          replace r2 := pw_cell_below bd r2
          replace f0 := (bd.frozen (p := ⟨w.heap.size + 2, 0, none⟩) yc).trans f0
          replace f1 := (bd.frozen (p := ⟨w.heap.size + 2, 1, none⟩) yc).trans f1
          replace f2 := (bd.frozen (p := ⟨w.heap.size + 2, 2, none⟩) yc).trans f2
          replace g0 := pw_cell_below bd g0
          replace g1 := pw_cell_below bd g1
          replace g2 := pw_cell_below bd g2
          replace e0 := (bd.frozen (p := ⟨g, 0, none⟩) yg).trans e0
          replace e1 := (bd.frozen (p := ⟨g, 1, none⟩) yg).trans e1
          replace yc := Nat.lt_of_lt_of_le yc zd
          replace xc := Nat.lt_of_lt_of_le xc zd
          replace vc := Nat.lt_of_lt_of_le vc zd
          replace yg := Nat.lt_of_lt_of_le yg zd
          replace H2 := Aside0.mk (below_trans H2.out bd)
          replace hx := hx.below bd
          replace hy := hy.below bd
          replace hm := hm.below bd
          clear bd hcd hfd zd
          generalize hcc : cmpN (n * d2) (n2 * d) = cc at *
          clear hcc
          go_wp2_with fail
          refine after (sub_c _ hx hy s1 hle.out) ?_; intro A8 L8 c8 we hs be ze hce hfe; have ye := Nat.lt_of_lt_of_le yc ze; have xe : g < we.heap.size := Nat.lt_of_lt_of_le yg ze
          replace et := et.out
          replace en := en.out
          have H3 := Aside0.mk (below_trans H2.out be)
          have hm2 := hm.below be
          replace hx := Aside0.mk hx
          have et' := Aside0.mk et
          have en' := Aside0.mk en
          clear et en
          go_wp2
          refine bodyPost_ret (v := .agg #[.bool bp, .slice A8 L8 c8, .slice A7 L7 c7]) (by simp [results, Tryd.results77, go_sem, hce, hfe, ye, xe, yc, yg, g0, g1, g2, e0, e1, r0, r1, r2, f0, f1, f2, n1, n2', n3, n4]) rfl (RetP.of et'.out rfl ?_ ?_ ?_)
          · rw [en'.out]
            refine Nf.low (lo := wd.heap.size) ?_ (by omega)
            repeat first | (with_reducible exact hs) | (with_reducible refine Nf.set ?_ yc _) | (with_reducible refine Nf.set ?_ yg _) | exact hs | (with_reducible refine Nf.set ?_ yg _)
          · refine Nf.low (lo := wb.heap.size) (Ng.toNf (g := g) ?_) (by omega)
            repeat first | (with_reducible exact hm2) | (with_reducible refine Ng.setLow ?_ yb _) | (with_reducible refine Ng.set ?_ _ _)
          · repeat first | (with_reducible exact H3.out) | refine below_set ?_ (by omega)
        · have hge := (cmpN_ge (n * d2) (n2 * d)).2.mpr hle
          have et : tb = bq := htb.out.trans (by unfold sumN; rw [if_neg hb, if_neg hle])
          have en : tn = n2 * d - n * d2 := htn.out.trans (by unfold sumN; rw [if_neg hb, if_neg hle])
          replace et := Aside0.mk et
          replace en := Aside0.mk en
          replace hle := Aside0.mk hle
          clear hb
          go_wp2_with fail
          refine afterQ (cmp_c _ hx hy s1 s2) ?_; intro wd bd zd hcd hfd
          replace k0 := pw_cell_below bd k0
          replace k3 := pw_cell_below bd k3
          replace r0 := pw_cell_below bd r0
          replace r1 := pw_cell_below bd r1
          replace r2 := pw_cell_below bd r2
          replace f0 := (bd.frozen (p := ⟨w.heap.size + 2, 0, none⟩) yc).trans f0
          replace f1 := (bd.frozen (p := ⟨w.heap.size + 2, 1, none⟩) yc).trans f1
          replace f2 := (bd.frozen (p := ⟨w.heap.size + 2, 2, none⟩) yc).trans f2
          replace g0 := pw_cell_below bd g0
          replace g1 := pw_cell_below bd g1
          replace g2 := pw_cell_below bd g2
          replace e0 := (bd.frozen (p := ⟨g, 0, none⟩) yg).trans e0
          replace e1 := (bd.frozen (p := ⟨g, 1, none⟩) yg).trans e1
          replace yc := Nat.lt_of_lt_of_le yc zd
          replace xc := Nat.lt_of_lt_of_le xc zd
          replace vc := Nat.lt_of_lt_of_le vc zd
          replace yg := Nat.lt_of_lt_of_le yg zd
          replace H2 := Aside0.mk (below_trans H2.out bd)
          replace hx := hx.below bd
          replace hy := hy.below bd
          replace hm := hm.below bd
          clear bd hcd hfd zd
          generalize hcc : cmpN (n * d2) (n2 * d) = cc at *
          clear hcc
          go_upto_region 3 with fail
          go_region_held3 (fun w' => ∀ b o, b < wd.heap.size → b ≠ g → w'.cell? ⟨b, o, none⟩ = wd.cell? ⟨b, o, none⟩) (repeat first | refine keepS2_set ?_ | exact keepS2 (by (repeat first | (with_reducible exact Below.refl _ _) | (with_reducible exact Be) | (with_reducible refine below_drew ?_) | (with_reducible refine below_alloc ?_ _) | ((with_reducible refine below_set ?_ ?hh); (case hh => omega))); done))
            (first
              | (go_at_call 128; refine afterO (W := wd) (by (repeat first | (with_reducible exact Below.refl _ _) | (with_reducible refine below_drew ?_) | (with_reducible refine below_alloc ?_ _) | ((with_reducible refine below_set ?_ ?hh); (case hh => omega))); done) (sub_c _ (hy.below (by (repeat first | (with_reducible exact Below.refl _ _) | (with_reducible refine below_drew ?_) | (with_reducible refine below_alloc ?_ _) | ((with_reducible refine below_set ?_ ?hh); (case hh => omega))); done)) (hx.below (by (repeat first | (with_reducible exact Below.refl _ _) | (with_reducible refine below_drew ?_) | (with_reducible refine below_alloc ?_ _) | ((with_reducible refine below_set ?_ ?hh); (case hh => omega))); done)) s2 (by have := hle.out; omega)) ?_; intro A8 L8 c8 we hs Be be ze; have hce := (bcell Be).1; have hfe := (bcell Be).2; have ye := Nat.lt_of_lt_of_le yc ze; have xe : g < we.heap.size := Nat.lt_of_lt_of_le yg ze))
          all_goals
            replace et := et.out
            replace en := en.out
            have H3 := Aside0.mk (below_trans H2.out Be)
            have hm2 := hm.below Be
            replace hx := Aside0.mk hx
            have et' := Aside0.mk et
            have en' := Aside0.mk en
            clear et en
            go_wp2
            refine bodyPost_ret (v := .agg #[.bool bq, .slice A8 L8 c8, .slice A7 L7 c7]) (by simp [results, Tryd.results77, go_sem, hce, hfe, ye, xe, yc, yg, g0, g1, g2, e0, e1, r0, r1, r2, f0, f1, f2, n1, n2', n3, n4]) rfl (RetP.of et'.out rfl ?_ ?_ ?_)
            · rw [en'.out]
              refine Nf.low (lo := wd.heap.size) ?_ (by omega)
              repeat first | (with_reducible exact hs) | (with_reducible refine Nf.set ?_ yc _) | (with_reducible refine Nf.set ?_ yg _) | exact hs | (with_reducible refine Nf.set ?_ yg _)
            · refine Nf.low (lo := wb.heap.size) (Ng.toNf (g := g) ?_) (by omega)
              repeat first | (with_reducible exact hm2) | (with_reducible refine Ng.setLow ?_ yb _) | (with_reducible refine Ng.set ?_ _ _)
            · repeat first | (with_reducible exact H3.out) | refine below_set ?_ (by omega)

/-- What an operation on two fractions hands back: parts of a fraction, where there is one. -/
def RetW (o : Option (Bool × Nat × Nat)) (w : World) (e : Ending) (w' : World) : Prop := ∃ b A L c A' L' c', e = .returned (.tuple #[.agg #[.bool b, .slice A L c, .slice A' L' c'], .bool o.isSome]) ∧ Below w.heap.size w w' ∧
  ∀ t, o = some t → b = t.1 ∧ Nf 1000000000 0 w' (.slice A L c) t.2.1 ∧ Nf 1000000000 0 w' (.slice A' L' c') t.2.2
theorem afterOp {P : Program} {f : FuncId} {args : Array Value} {W : World} {o : Option (Bool × Nat × Nat)} {Q : Ending → World → Prop} (h : Calls P f args W (RetW o W))
    (k : ∀ b A L c A' L' c' w1, Aside0 (∀ t, o = some t → b = t.1 ∧ Nf 1000000000 0 w1 (.slice A L c) t.2.1 ∧ Nf 1000000000 0 w1 (.slice A' L' c') t.2.2) → Below W.heap.size W w1 → W.heap.size ≤ w1.heap.size → (∀ b o, b < W.heap.size → w1.cell? ⟨b, o, none⟩ = W.cell? ⟨b, o, none⟩) → (∀ b o, b < W.heap.size → w1.frozen? ⟨b, o, none⟩ = W.frozen? ⟨b, o, none⟩) → Q (.returned (.tuple #[.agg #[.bool b, .slice A L c, .slice A' L' c'], .bool o.isSome])) w1) : Calls P f args W Q :=
  h.mono fun e w1 ⟨b, A, L, c, A', L', c', he, hb, hN⟩ => by subst he; exact k b A L c A' L' c' w1 ⟨hN⟩ hb hb.size (bcell hb).1 (bcell hb).2
/-- The contract of an operation. -/
def OpC (f : FuncId) (g : Rat → Rat → Option (Bool × Nat × Nat)) : Prop := ∀ (X : World) (p q : Rat) (A : Option Addr) (L c : Nat) (A1 : Option Addr) (L1 c1 : Nat) (A2 : Option Addr) (L2 c2 : Nat) (A3 : Option Addr) (L3 c3 lo lo1 lo2 lo3 : Nat),
  Nf 1000000000 lo X (.slice A L c) p.num.natAbs → Nf 1000000000 lo1 X (.slice A1 L1 c1) p.den → Nf 1000000000 lo2 X (.slice A2 L2 c2) q.num.natAbs → Nf 1000000000 lo3 X (.slice A3 L3 c3) q.den → Fits p → Fits q →
  Calls Tryd.prog f #[.agg #[.bool (decide (p.num < 0)), .slice A L c, .slice A1 L1 c1], .agg #[.bool (decide (q.num < 0)), .slice A2 L2 c2, .slice A3 L3 c3]] X (RetW (g p q) X)
/-- Its answers are small. -/
def OpS (g : Rat → Rat → Option (Bool × Nat × Nat)) : Prop := ∀ p q t, Fits p → Fits q → g p q = some t → t.2.2 ≠ 0 ∧ Sm t.2.1 ∧ Sm t.2.2
def withQ (g : Rat → Rat → Option (Bool × Nat × Nat)) (a b : Option Rat) : Option Rat := match a, b with
  | some p, some q => (g p q).map fun t => fr t.1 t.2.1 t.2.2
  | _, _ => none
theorem withQ_none1 (g : Rat → Rat → Option (Bool × Nat × Nat)) (b : Option Rat) : withQ g none b = none := rfl
theorem withQ_none2 (g : Rat → Rat → Option (Bool × Nat × Nat)) (a : Option Rat) : withQ g a none = none := by cases a <;> rfl
theorem wV_none : wV none = .tuple #[.agg #[.string ⟨#[]⟩, .string ⟨#[]⟩], .bool false] := rfl
set_option maxHeartbeats 4000000 in
theorem with_c (w : World) (N D N2 D2 : ByteArray) (f : FuncId) (g : Rat → Rat → Option (Bool × Nat × Nat)) (hcl : ∀ args W, (callFunc f args).run Tryd.prog W = .ok (.enter f args) W) (hf : OpC f g) (hs : OpS g) (hN : N.size ≤ 140737488355328) (hN2 : N2.size ≤ 140737488355328) :
    Calls Tryd.prog 73 #[.agg #[.string N, .string D], .agg #[.string N2, .string D2], .func (.func f) #[] #[]] w fun e w' => e = .returned (wV (withQ g (rdQ N D) (rdQ N2 D2))) ∧ Below w.heap.size w w' := by
  have HB := Aside0.mk (below_alloc (below_alloc (below_alloc (Below.refl w.heap.size w) (Obj.cells #[Value.string N, Value.string D] 23)) (Obj.cells #[Value.string N2, Value.string D2] 23)) (Obj.cells #[Value.string ⟨#[]⟩, Value.string ⟨#[]⟩] 23))
  obtain ⟨o, ho⟩ : ∃ o, o = rdQ N D := ⟨_, rfl⟩
  obtain ⟨o2, ho2⟩ : ∃ o, o = rdQ N2 D2 := ⟨_, rfl⟩
  have F := fun W => read_c W N D hN
  have F2 := fun W => read_c W N2 D2 hN2
  rw [← ho] at F
  rw [← ho2] at F2
  rw [← ho, ← ho2]
  replace F := Aside0.mk F
  replace F2 := Aside0.mk F2
  cases o with
  | none =>
    clear ho ho2
    rw [withQ_none1]
    go_enter Tryd.func73, Tryd.ntmps73
    go_wp2_with fail
    refine afterR (F.out _) ?_; intro b A L c A' L' c' w1 hq b1 z1 hc1 hf1; have y1 : w.heap.size + 2 < w1.heap.size := (by simp at z1; omega); have x1 : w.heap.size + 1 < w1.heap.size := (by omega); have H1 := Aside0.mk (below_trans HB.out b1); clear b1 z1 hq
    go_wp2_with fail
    refine afterR (F2.out _) ?_; intro b' A2 L2 c2 A3 L3 c3 w2 hq b2 z2 hc2 hf2; have v2 : w1.heap.size < w2.heap.size := (by simp at z2; omega); have y2 : w.heap.size + 2 < w2.heap.size := (by omega); have x2 : w.heap.size + 1 < w2.heap.size := (by omega); have H2 := Aside0.mk (below_trans (below_alloc H1.out _) b2); clear b2 z2 hq
    go_wp2
    refine bodyPost_ret (v := wV none) (by rw [wV_none]; simp [results, Tryd.results73, go_sem, hc2, hc1, y1, y2, x1, x2, v2]) rfl ⟨rfl, ?_⟩
    repeat first | exact H2.out | refine below_set ?_ (by omega) | refine below_alloc ?_ _
  | some p =>
    have p1 := rdQ_fits ho.symm
    cases o2 with
    | none =>
      clear ho ho2
      rw [withQ_none2]
      go_enter Tryd.func73, Tryd.ntmps73
      go_wp2_with fail
      refine afterR (F.out _) ?_; intro b A L c A' L' c' w1 hq b1 z1 hc1 hf1; have y1 : w.heap.size + 2 < w1.heap.size := (by simp at z1; omega); have x1 : w.heap.size + 1 < w1.heap.size := (by omega); have H1 := Aside0.mk (below_trans HB.out b1); clear b1 z1 hq
      go_wp2_with fail
      refine afterR (F2.out _) ?_; intro b' A2 L2 c2 A3 L3 c3 w2 hq b2 z2 hc2 hf2; have v2 : w1.heap.size < w2.heap.size := (by simp at z2; omega); have y2 : w.heap.size + 2 < w2.heap.size := (by omega); have x2 : w.heap.size + 1 < w2.heap.size := (by omega); have H2 := Aside0.mk (below_trans (below_alloc H1.out _) b2); clear b2 z2 hq
      go_wp2
      refine bodyPost_ret (v := wV none) (by rw [wV_none]; simp [results, Tryd.results73, go_sem, hc2, hc1, y1, y2, x1, x2, v2]) rfl ⟨rfl, ?_⟩
      repeat first | exact H2.out | refine below_set ?_ (by omega) | refine below_alloc ?_ _
    | some q =>
      have q1 := rdQ_fits ho2.symm
      clear ho ho2
      obtain ⟨o3, ho3⟩ : ∃ o, o = g p q := ⟨_, rfl⟩
      have eq : withQ g (some p) (some q) = o3.map fun t => fr t.1 t.2.1 t.2.2 := by rw [ho3]; rfl
      rw [eq]
      clear eq
      have G : ∀ (X : World) (A : Option Addr) (L c : Nat) (A1 : Option Addr) (L1 c1 : Nat) (A2 : Option Addr) (L2 c2 : Nat) (A3 : Option Addr) (L3 c3 lo lo1 lo2 lo3 : Nat), Nf 1000000000 lo X (.slice A L c) p.num.natAbs → Nf 1000000000 lo1 X (.slice A1 L1 c1) p.den → Nf 1000000000 lo2 X (.slice A2 L2 c2) q.num.natAbs → Nf 1000000000 lo3 X (.slice A3 L3 c3) q.den →
          Calls Tryd.prog f #[.agg #[.bool (decide (p.num < 0)), .slice A L c, .slice A1 L1 c1], .agg #[.bool (decide (q.num < 0)), .slice A2 L2 c2, .slice A3 L3 c3]] X (RetW o3 X) := by
        intro X A L c A1 L1 c1 A2 L2 c2 A3 L3 c3 l0 l1 l2 l3 h0 h1 h2 h3
        rw [ho3]
        exact hf X p q A L c A1 L1 c1 A2 L2 c2 A3 L3 c3 l0 l1 l2 l3 h0 h1 h2 h3 p1 q1
      have S := fun t => hs p q t p1 q1
      rw [← ho3] at S
      replace G := Aside0.mk G
      replace S := Aside0.mk S
      clear ho3 hf hs
      go_enter Tryd.func73, Tryd.ntmps73
      go_wp2_with fail
      refine afterR (F.out _) ?_; intro b A L c A' L' c' w1 hq b1 z1 hc1 hf1; have y1 : w.heap.size + 2 < w1.heap.size := (by simp at z1; omega); have x1 : w.heap.size + 1 < w1.heap.size := (by omega); have H1 := Aside0.mk (below_trans HB.out b1); clear b1 z1
      obtain ⟨rfl, hn, hd⟩ := hq.out p rfl
      clear hq
      go_wp2_with fail
      refine afterR (F2.out _) ?_; intro b' A2 L2 c2 A3 L3 c3 w2 hq b2 z2 hc2 hf2; have v2 : w1.heap.size < w2.heap.size := (by simp at z2; omega); have y2 : w.heap.size + 2 < w2.heap.size := (by omega); have x2 : w.heap.size + 1 < w2.heap.size := (by omega); have H2 := Aside0.mk (below_trans (below_alloc H1.out _) b2)
      obtain ⟨rfl, hn2, hd2⟩ := hq.out q rfl
      replace hn := (hn.alloc _).below b2
      replace hd := (hd.alloc _).below b2
      clear hq b2 z2
      go_wp2_with fail
      refine afterOp (G.out _ _ _ _ _ _ _ _ _ _ _ _ _ _ _ _ _ (hn.alloc _) (hd.alloc _) (hn2.alloc _) (hd2.alloc _)) ?_; intro bb A5 L5 c5 A6 L6 c6 w3 hq b3 z3 hc3 hf3; have v3 : w2.heap.size < w3.heap.size := (by simp at z3; omega); have u3 : w1.heap.size < w3.heap.size := (by omega); have y3 : w.heap.size + 2 < w3.heap.size := (by omega); have x3 : w.heap.size + 1 < w3.heap.size := (by omega); have H3 := Aside0.mk (below_trans (below_alloc H2.out _) b3)
      clear b3 z3
      cases o3 with
      | none =>
        go_wp2
        refine bodyPost_ret (v := wV none) (by rw [wV_none]; simp [results, Tryd.results73, go_sem, hc3, hc2, hc1, y1, y2, y3, x1, x2, x3, v2, v3, u3]) rfl ⟨rfl, ?_⟩
        repeat first | exact H3.out | refine below_set ?_ (by omega) | refine below_alloc ?_ _
      | some t =>
        obtain ⟨rfl, h1, h2⟩ := hq.out t rfl
        obtain ⟨s1, s2, s3⟩ := S.out t rfl
        clear hq
        go_wp2_with fail
        refine afterW (write_c _ _ (h1.alloc _) (h2.alloc _) s1 s2 s3) ?_; intro w4 b4 z4 hc4 hf4; have v4 : w3.heap.size < w4.heap.size := (by simp at z4; omega); have u4 : w2.heap.size < w4.heap.size := (by omega); have y4 : w.heap.size + 2 < w4.heap.size := (by omega); have H4 := Aside0.mk (below_trans (below_alloc H3.out _) b4); clear b4 z4
        go_wp2
        refine bodyPost_ret (v := wV (some (fr t.1 t.2.1 t.2.2))) (by simp [results, Tryd.results73, go_sem, wV, hc4, hc3, hc2, hc1, y1, y2, y3, y4, x1, x2, x3, v2, v3, u3, v4, u4]) rfl ⟨rfl, ?_⟩
        repeat first | exact H4.out | refine below_set ?_ (by omega) | refine below_alloc ?_ _
end Go.Proofs.YtplpmndchdockaaDoor.M
