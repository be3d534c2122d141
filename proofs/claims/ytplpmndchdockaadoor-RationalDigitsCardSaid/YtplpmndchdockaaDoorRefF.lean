import Derived.Test.YtplpmndchdockaaDoorRefD
import Derived.Test.YtplpmndchdockaaDoorOvr
import Derived.Test.YtplpmndchdockaaDoorPQ
/-! The reference's fractions: Times, Scale. -/
namespace Go.Proofs.YtplpmndchdockaaDoor.M
open Go Go.RowKit Go.Proofs.YtplpmndchdockaaDoorV.PrintWords
set_option autoImplicit false
set_option linter.unusedVariables false
set_option linter.unusedSimpArgs false

theorem cell_drew1 {w : World} {q : Addr} {v : Value} (h : w.cell? q = some v) : w.drew.cell? q = some v := h
set_option maxHeartbeats 4000000 in
theorem times_c (w : World) (b b2 : Bool) {A A1 A2 A3 : Option Addr} {L c L1 c1 L2 c2 L3 c3 n d n2 d2 lo lo1 lo2 lo3 : Nat} (hn : Nf 4294967296 lo w (.slice A L c) n) (hd : Nf 4294967296 lo1 w (.slice A1 L1 c1) d)
    (hn2 : Nf 4294967296 lo2 w (.slice A2 L2 c2) n2) (hd2 : Nf 4294967296 lo3 w (.slice A3 L3 c3) d2) (sn : Rm n) (sd : Rm d) (sn2 : Rm n2) (sd2 : Rm d2) (sp : Rm (n * n2)) (sq : Rm (d * d2)) (h0 : d * d2 ≠ 0) :
    Calls Tryd.prog 68 #[.agg #[.bool b, .slice A L c, .slice A1 L1 c1], .agg #[.bool b2, .slice A2 L2 c2, .slice A3 L3 c3]] w (RetF (fr (b != b2) (n * n2) (d * d2)) w) := by
  have HB := Aside0.mk (below_alloc (below_alloc (below_alloc (Below.refl w.heap.size w) (Obj.cells #[Value.bool b, Value.slice A L c, Value.slice A1 L1 c1] 94)) (Obj.cells #[Value.bool b2, Value.slice A2 L2 c2, Value.slice A3 L3 c3] 94)) (Obj.cells #[Value.bool false, Value.slice none 0 0, Value.slice none 0 0] 94))
  go_enter Tryd.func68, Tryd.ntmps68
  go_upto_region 1 with fail
  obtain ⟨W, hW⟩ : ∃ W, W = (((w.alloc (Obj.cells #[Value.bool b, Value.slice A L c, Value.slice A1 L1 c1] 94)).alloc (Obj.cells #[Value.bool b2, Value.slice A2 L2 c2, Value.slice A3 L3 c3] 94)).alloc (Obj.cells #[Value.bool false, Value.slice none 0 0, Value.slice none 0 0] 94)) := ⟨_, rfl⟩
  have k0 : W.cell? ⟨w.heap.size, 0, none⟩ = some (.bool b) := by rw [hW]; simp [go_sem]
  have k1 : W.cell? ⟨w.heap.size, 1, none⟩ = some (.slice A L c) := by rw [hW]; simp [go_sem]
  have k2 : W.cell? ⟨w.heap.size, 2, none⟩ = some (.slice A1 L1 c1) := by rw [hW]; simp [go_sem]
  have k3 : W.cell? ⟨w.heap.size + 1, 0, none⟩ = some (.bool b2) := by rw [hW]; simp [go_sem]
  have k4 : W.cell? ⟨w.heap.size + 1, 1, none⟩ = some (.slice A2 L2 c2) := by rw [hW]; simp [go_sem]
  have k5 : W.cell? ⟨w.heap.size + 1, 2, none⟩ = some (.slice A3 L3 c3) := by rw [hW]; simp [go_sem]
  have r0 : W.cell? ⟨w.heap.size + 2, 0, none⟩ = some (.bool false) := by rw [hW]; simp [go_sem]
  have fz0 : W.frozen? ⟨w.heap.size + 2, 0, none⟩ = false := by rw [hW]; simp [go_sem]
  have r1 : W.cell? ⟨w.heap.size + 2, 1, none⟩ = some (.slice none 0 0) := by rw [hW]; simp [go_sem]
  have fz1 : W.frozen? ⟨w.heap.size + 2, 1, none⟩ = false := by rw [hW]; simp [go_sem]
  have r2 : W.cell? ⟨w.heap.size + 2, 2, none⟩ = some (.slice none 0 0) := by rw [hW]; simp [go_sem]
  have fz2 : W.frozen? ⟨w.heap.size + 2, 2, none⟩ = false := by rw [hW]; simp [go_sem]
  have yW : w.heap.size + 2 < W.heap.size := by rw [hW]; simp
  have hs : W.heap.size = w.heap.size + 3 := by rw [hW]; simp
  replace hn := hn.below HB.out
  replace hd := hd.below HB.out
  replace hn2 := hn2.below HB.out
  replace hd2 := hd2.below HB.out
  rw [← hW] at hn hd hn2 hd2 HB
  rw [← hW]
  replace hs := Aside0.mk hs
  clear hW
  go_region_held3 (fun w' => w'.cell? ⟨w.heap.size, 0, none⟩ = some (.bool b) ∧ w'.cell? ⟨w.heap.size, 1, none⟩ = some (.slice A L c) ∧ w'.cell? ⟨w.heap.size, 2, none⟩ = some (.slice A1 L1 c1) ∧ w'.cell? ⟨w.heap.size + 1, 0, none⟩ = some (.bool b2) ∧ w'.cell? ⟨w.heap.size + 1, 1, none⟩ = some (.slice A2 L2 c2) ∧ w'.cell? ⟨w.heap.size + 1, 2, none⟩ = some (.slice A3 L3 c3)) (refine ⟨?_, ?_, ?_, ?_, ?_, ?_⟩ <;> (repeat' first | (with_reducible assumption) | refine cell_drew1 ?_ | refine cell_far ?_ (by have := hs.out; dsimp only; omega) | refine cell_alloc ?_ _))
    (first
      | (go_at_call_of 124 (Value.slice A L c); refine after (rtimes_c _ (hn.below (by repeat first | exact Below.refl _ _ | refine below_drew ?_ | refine below_alloc ?_ _)) (hn2.below (by repeat first | exact Below.refl _ _ | refine below_drew ?_ | refine below_alloc ?_ _)) sn sn2) ?_; intro C K f wa hp ba za hca hfa; have ka0 : wa.cell? ⟨w.heap.size, 0, none⟩ = some (.bool b) := pw_cell_below ba (by repeat' first | (with_reducible exact k0) | refine cell_drew1 ?_ | refine cell_alloc ?_ _); have ka1 : wa.cell? ⟨w.heap.size, 1, none⟩ = some (.slice A L c) := pw_cell_below ba (by repeat' first | (with_reducible exact k1) | refine cell_drew1 ?_ | refine cell_alloc ?_ _); have ka2 : wa.cell? ⟨w.heap.size, 2, none⟩ = some (.slice A1 L1 c1) := pw_cell_below ba (by repeat' first | (with_reducible exact k2) | refine cell_drew1 ?_ | refine cell_alloc ?_ _); have ka3 : wa.cell? ⟨w.heap.size + 1, 0, none⟩ = some (.bool b2) := pw_cell_below ba (by repeat' first | (with_reducible exact k3) | refine cell_drew1 ?_ | refine cell_alloc ?_ _); have ka4 : wa.cell? ⟨w.heap.size + 1, 1, none⟩ = some (.slice A2 L2 c2) := pw_cell_below ba (by repeat' first | (with_reducible exact k4) | refine cell_drew1 ?_ | refine cell_alloc ?_ _); have ka5 : wa.cell? ⟨w.heap.size + 1, 2, none⟩ = some (.slice A3 L3 c3) := pw_cell_below ba (by repeat' first | (with_reducible exact k5) | refine cell_drew1 ?_ | refine cell_alloc ?_ _); have Ba : Below W.heap.size W wa := below_then (by repeat first | exact Below.refl _ _ | refine below_drew ?_ | refine below_alloc ?_ _) (by simp) ba; have hda := Nf.below hd Ba; have hda2 := Nf.below hd2 Ba; have hpa := hp.low (lo' := W.heap.size) (by simp); replace Ba := Aside0.mk Ba; clear hca hfa hp)
      | (go_at_call_of 124 (Value.slice A1 L1 c1); refine after (rtimes_c _ (hda.below (by repeat first | exact Below.refl _ _ | refine below_drew ?_ | refine below_alloc ?_ _)) (hda2.below (by repeat first | exact Below.refl _ _ | refine below_drew ?_ | refine below_alloc ?_ _)) sd sd2) ?_; intro C2 K2 f2 wb hq bb zb hcb hfb; have kb0 : wb.cell? ⟨w.heap.size, 0, none⟩ = some (.bool b) := pw_cell_below bb (by repeat' first | (with_reducible exact ka0) | refine cell_drew1 ?_ | refine cell_alloc ?_ _); have kb1 : wb.cell? ⟨w.heap.size, 1, none⟩ = some (.slice A L c) := pw_cell_below bb (by repeat' first | (with_reducible exact ka1) | refine cell_drew1 ?_ | refine cell_alloc ?_ _); have kb2 : wb.cell? ⟨w.heap.size, 2, none⟩ = some (.slice A1 L1 c1) := pw_cell_below bb (by repeat' first | (with_reducible exact ka2) | refine cell_drew1 ?_ | refine cell_alloc ?_ _); have kb3 : wb.cell? ⟨w.heap.size + 1, 0, none⟩ = some (.bool b2) := pw_cell_below bb (by repeat' first | (with_reducible exact ka3) | refine cell_drew1 ?_ | refine cell_alloc ?_ _); have kb4 : wb.cell? ⟨w.heap.size + 1, 1, none⟩ = some (.slice A2 L2 c2) := pw_cell_below bb (by repeat' first | (with_reducible exact ka4) | refine cell_drew1 ?_ | refine cell_alloc ?_ _); have kb5 : wb.cell? ⟨w.heap.size + 1, 2, none⟩ = some (.slice A3 L3 c3) := pw_cell_below bb (by repeat' first | (with_reducible exact ka5) | refine cell_drew1 ?_ | refine cell_alloc ?_ _); have Bb : Below W.heap.size W wb := below_then (by repeat first | exact Ba.out | refine below_drew ?_ | refine below_alloc ?_ _) (Nat.le_trans Ba.out.size (by simp)) bb; have hpb := hpa.below (below_then (by repeat first | exact Below.refl _ _ | refine below_drew ?_ | refine below_alloc ?_ _) (by simp) bb); replace Bb := Aside0.mk Bb; clear hcb hfb)
      | (go_at_call 118; (try rw [bne_beq]); refine afterF (lowest_c _ _ (hpb.below (by repeat first | exact Below.refl _ _ | refine below_drew ?_ | refine below_alloc ?_ _)) (hq.below (by repeat first | exact Below.refl _ _ | refine below_drew ?_ | refine below_alloc ?_ _)) h0 sp sq) ?_; intro C3 K3 f3 C4 K4 f4 wc hp3 hq3 bc zc hcc hfc; have kc0 : wc.cell? ⟨w.heap.size, 0, none⟩ = some (.bool b) := pw_cell_below bc (by repeat' first | (with_reducible exact kb0) | refine cell_drew1 ?_ | refine cell_alloc ?_ _); have kc1 : wc.cell? ⟨w.heap.size, 1, none⟩ = some (.slice A L c) := pw_cell_below bc (by repeat' first | (with_reducible exact kb1) | refine cell_drew1 ?_ | refine cell_alloc ?_ _); have kc2 : wc.cell? ⟨w.heap.size, 2, none⟩ = some (.slice A1 L1 c1) := pw_cell_below bc (by repeat' first | (with_reducible exact kb2) | refine cell_drew1 ?_ | refine cell_alloc ?_ _); have kc3 : wc.cell? ⟨w.heap.size + 1, 0, none⟩ = some (.bool b2) := pw_cell_below bc (by repeat' first | (with_reducible exact kb3) | refine cell_drew1 ?_ | refine cell_alloc ?_ _); have kc4 : wc.cell? ⟨w.heap.size + 1, 1, none⟩ = some (.slice A2 L2 c2) := pw_cell_below bc (by repeat' first | (with_reducible exact kb4) | refine cell_drew1 ?_ | refine cell_alloc ?_ _); have kc5 : wc.cell? ⟨w.heap.size + 1, 2, none⟩ = some (.slice A3 L3 c3) := pw_cell_below bc (by repeat' first | (with_reducible exact kb5) | refine cell_drew1 ?_ | refine cell_alloc ?_ _); have Bc : Below W.heap.size W wc := below_then (by repeat first | exact Bb.out | refine below_drew ?_ | refine below_alloc ?_ _) (Nat.le_trans Bb.out.size (by simp)) bc; have sc0 := pw_cell_below Bc r0; have tc0 := (Bc.frozen (p := ⟨w.heap.size + 2, 0, none⟩) yW).trans fz0; have sc1 := pw_cell_below Bc r1; have tc1 := (Bc.frozen (p := ⟨w.heap.size + 2, 1, none⟩) yW).trans fz1; have sc2 := pw_cell_below Bc r2; have tc2 := (Bc.frozen (p := ⟨w.heap.size + 2, 2, none⟩) yW).trans fz2; have yc := Nat.lt_of_lt_of_le yW Bc.size; replace Bc := Aside0.mk Bc; clear hcc hfc))
  all_goals
    have yb : w.heap.size + 1 + 1 < wb.heap.size := Nat.lt_of_lt_of_le yW Bb.out.size
    have yd : w.heap.size + 1 + 1 < wc.heap.size := yc
    have Hw := below_trans HB.out Bc.out
    clear k0 k1 k2 k3 k4 k5 ka0 ka1 ka2 ka3 ka4 ka5 kb0 kb1 kb2 kb3 kb4 kb5 kc0 kc1 kc2 kc3 kc4 kc5
    go_wp2
    refine bodyPost_ret (v := .agg #[.bool (decide ((fr (b != b2) (n * n2) (d * d2)).num < 0)), .slice C3 K3 f3, .slice C4 K4 f4]) (by simp [results, Tryd.results68, go_sem, yc, sc0, sc1, sc2, tc0, tc1, tc2]) rfl (RetF.of rfl rfl ?_ ?_ ?_)
    · refine Nf.low (lo := wb.heap.size) ?_ (by omega)
      repeat first | exact hp3 | refine Nf.set ?_ yb _
    · refine Nf.low (lo := wb.heap.size) ?_ (by omega)
      repeat first | exact hq3 | refine Nf.set ?_ yb _
    · repeat first | exact Hw | refine below_set ?_ (by omega)
theorem afterFO {P : Program} {f : FuncId} {args : Array Value} {W X : World} {q : Rat} {Q : Ending → World → Prop} (hX : Below W.heap.size W X) (h : Calls P f args X (RetF q X))
    (k : ∀ A L c A' L' c' w1, Nf 4294967296 W.heap.size w1 (.slice A L c) q.num.natAbs → Nf 4294967296 W.heap.size w1 (.slice A' L' c') q.den → Below W.heap.size W w1 → Below X.heap.size X w1 → W.heap.size ≤ w1.heap.size → Q (.returned (.agg #[.bool (decide (q.num < 0)), .slice A L c, .slice A' L' c'])) w1) : Calls P f args X Q :=
  h.mono fun e w1 ⟨A, L, c, A', L', c', he, hN, hM, hb⟩ => by subst he; exact k A L c A' L' c' w1 (hN.low hX.size) (hM.low hX.size) (below_trans hX hb) hb (below_trans hX hb).size
end Go.Proofs.YtplpmndchdockaaDoor.M
