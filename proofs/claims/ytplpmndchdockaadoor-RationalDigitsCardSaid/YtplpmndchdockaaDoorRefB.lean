import Derived.Test.YtplpmndchdockaaDoorRefA
/-! The reference's fractions: Write. -/
namespace Go.Proofs.YtplpmndchdockaaDoor.M
open Go Go.RowKit Go.Proofs.YtplpmndchdockaaDoorV.PrintWords
set_option autoImplicit false
set_option linter.unusedVariables false
set_option linter.unusedSimpArgs false

theorem wq_no {q : Rat} (h : 400 < (bs (tx q.num.natAbs)).size ∨ 400 < (bs (tx q.den)).size) : wV (some q) = .tuple #[.agg #[.string ⟨#[]⟩, .string ⟨#[]⟩], .bool false] := by
  have h1 := txl_le q.num.natAbs
  have h2 := txl_le q.den
  have hk : okQ q = false := by
    unfold okQ
    rw [Bool.and_eq_false_iff]
    rcases h with h | h
    · exact .inl (decide_eq_false (by omega))
    · exact .inr (decide_eq_false (by omega))
  simp [wV, wN, wD, wO, hk]
theorem wq_yes {q : Rat} (h1 : (bs (tx q.num.natAbs)).size ≤ 400) (h2 : (bs (tx q.den)).size ≤ 400) :
    wV (some q) = .tuple #[.agg #[.string (if q.num < 0 then ⟨#[45]⟩ ++ bs (tx q.num.natAbs) else bs (tx q.num.natAbs)), .string (bs (tx q.den))], .bool true] := by
  have hk : okQ q = true := by
    unfold okQ
    rw [decide_eq_true ((txl_le _).mp h1), decide_eq_true ((txl_le _).mp h2)]; rfl
  have hN : bN q = if q.num < 0 then ⟨#[45]⟩ ++ bs (tx q.num.natAbs) else bs (tx q.num.natAbs) := by
    unfold bN numTx
    by_cases h : q.num < 0
    · rw [if_pos h, if_pos h]; exact (bs_append [45] _).symm
    · rw [if_neg h, if_neg h]
  have hD : bD q = bs (tx q.den) := rfl
  simp [wV, wN, wD, wO, hk, hN, hD]
set_option maxHeartbeats 2000000 in
theorem rwrite_c (w : World) (q : Rat) (nb : Bool) (hnb : decide (q.num < 0) = nb) {A A' : Option Addr} {L c L' c' lo lo' : Nat} (ha : Nf 4294967296 lo w (.slice A L c) q.num.natAbs) (hb : Nf 4294967296 lo' w (.slice A' L' c') q.den) (sn : Rm q.num.natAbs) (sd : Rm q.den) :
    Calls Tryd.prog 72 #[.agg #[.bool nb, .slice A L c, .slice A' L' c']] w fun e w' => e = .returned (wV (some q)) ∧ Below w.heap.size w w' := by
  have HB := Aside0.mk (below_alloc (below_alloc (Below.refl w.heap.size w) (Obj.cells #[Value.bool nb, Value.slice A L c, Value.slice A' L' c'] 94)) (Obj.cells #[Value.string { data := #[] }, Value.string { data := #[] }] 23))
  go_enter Tryd.func72, Tryd.ntmps72
  go_upto_region 1 with fail
  obtain ⟨W, hW⟩ : ∃ W, W = ((w.alloc (Obj.cells #[Value.bool nb, Value.slice A L c, Value.slice A' L' c'] 94)).alloc (Obj.cells #[Value.string { data := #[] }, Value.string { data := #[] }] 23)) := ⟨_, rfl⟩
  have k0 : W.cell? ⟨w.heap.size, 0, none⟩ = some (.bool nb) := by rw [hW]; simp [go_sem]
  have k1 : W.cell? ⟨w.heap.size, 1, none⟩ = some (.slice A L c) := by rw [hW]; simp [go_sem]
  have k2 : W.cell? ⟨w.heap.size, 2, none⟩ = some (.slice A' L' c') := by rw [hW]; simp [go_sem]
  have r0 : W.cell? ⟨w.heap.size + 1, 0, none⟩ = some (.string ⟨#[]⟩) := by rw [hW]; simp [go_sem]
  have r1 : W.cell? ⟨w.heap.size + 1, 1, none⟩ = some (.string ⟨#[]⟩) := by rw [hW]; simp [go_sem]
  have f0 : W.frozen? ⟨w.heap.size + 1, 0, none⟩ = false := by rw [hW]; simp [go_sem]
  have f1 : W.frozen? ⟨w.heap.size + 1, 1, none⟩ = false := by rw [hW]; simp [go_sem]
  have hs : W.heap.size = w.heap.size + 2 := by rw [hW]; simp
  have haW : Nf 4294967296 lo W (.slice A L c) q.num.natAbs := by rw [hW]; exact ha.below HB.out
  have hbW : Nf 4294967296 lo' W (.slice A' L' c') q.den := by rw [hW]; exact hb.below HB.out
  replace HB : Aside0 (Below w.heap.size w W) := by rw [hW]; exact HB
  rw [← hW]
  replace hs := Aside0.mk hs
  clear hW
  go_cut [4] (fun s4 wx => ∃ g, s4 = .pointer (some ⟨g, 0, none⟩) ∧ w.heap.size + 1 < g ∧ Aside0 (wx.heap[g]? = some (.cells #[.string (bs (tx q.num.natAbs)), .string (bs (tx q.den))] 23 (0, 0)) ∧ Below W.heap.size W wx))
  case first =>
    go_region_held3 (fun w' => w'.cell? ⟨w.heap.size, 1, none⟩ = some (.slice A L c) ∧ w'.cell? ⟨w.heap.size, 2, none⟩ = some (.slice A' L' c')) (constructor <;> (repeat' first | exact k1 | exact k2 | assumption | refine cell_far ?_ (by have := hs.out; dsimp only; omega) | refine cell_alloc ?_ _))
      (first
        | (go_at_call_of 127 (Value.slice A L c); refine afterV (rshow_c _ (haW.below (by repeat first | exact Below.refl _ _ | refine below_drew ?_ | refine below_alloc ?_ _)) sn) ?_; intro wa ba za hca hfa; have ka1 : wa.cell? ⟨w.heap.size, 1, none⟩ = some (.slice A L c) := pw_cell_below ba (by repeat' first | exact k1 | refine cell_alloc ?_ _); have ka2 : wa.cell? ⟨w.heap.size, 2, none⟩ = some (.slice A' L' c') := pw_cell_below ba (by repeat' first | exact k2 | refine cell_alloc ?_ _); have Ba : Below W.heap.size W wa := below_then (by repeat first | exact Below.refl _ _ | refine below_drew ?_ | refine below_alloc ?_ _) (by simp) ba; have hba := Aside0.mk (Nf.below hbW Ba); replace Ba := Aside0.mk Ba; (try simp at za); (try have va := Nat.lt_of_succ_le za); have hsa := hs.out; have ya : w.heap.size + 1 < wa.heap.size := (by omega); clear hsa)
        | (go_at_call_of 127 (Value.slice A' L' c'); refine afterV (rshow_c _ (hba.out.below (by repeat first | exact Below.refl _ _ | refine below_drew ?_ | refine below_alloc ?_ _)) sd) ?_; intro wb bb zb hcb hfb; have kb1 : wb.cell? ⟨w.heap.size, 1, none⟩ = some (.slice A L c) := pw_cell_below bb (by repeat' first | exact ka1 | refine cell_alloc ?_ _); have kb2 : wb.cell? ⟨w.heap.size, 2, none⟩ = some (.slice A' L' c') := pw_cell_below bb (by repeat' first | exact ka2 | refine cell_alloc ?_ _); have Bb : Below W.heap.size W wb := below_then (by repeat first | exact Ba.out | refine below_drew ?_ | refine below_alloc ?_ _) (Nat.le_trans Ba.out.size (by simp)) bb; replace Bb := Aside0.mk Bb; (try simp at zb); (try have vb := Nat.lt_of_succ_le zb); have yb : w.heap.size + 1 < wb.heap.size := Nat.lt_of_lt_of_le ya (by first | exact zb | exact Nat.le_of_succ_le zb)))
    all_goals
      go_wp2_with fail
      go_meet
      refine ⟨_, rfl, by first | exact yb | exact ya | (have := hs.out; omega), ⟨?_, ?_⟩⟩
      · repeat first | exact blk_new _ _ | refine blk_put (cs := #[.string (bs (tx q.num.natAbs)), .string ⟨#[]⟩]) ?_ 1 _ rfl | refine blk_put (cs := #[.string ⟨#[]⟩, .string ⟨#[]⟩]) ?_ 0 _ rfl | refine blk_below ?_ bb | refine blk_below ?_ ba | refine blk_drew ?_ | refine blk_alloc ?_ _
      · repeat first | exact Bb.out | refine below_set ?_ (by first | exact Nat.le_refl _ | exact Ba.out.size) | refine below_alloc ?_ _
  case rest =>
    obtain ⟨g, rfl, hg, hc⟩ := hcut
    obtain ⟨hB, hW⟩ := hc.out
    have hsz := hs.out
    have c0 := (blk_cell hB 0).trans (rfl : _ = some (Value.string (bs (tx q.num.natAbs))))
    have c1 := (blk_cell hB 1).trans (rfl : _ = some (Value.string (bs (tx q.den))))
    have e0 := blk_frozen hB 0
    have e1 := blk_frozen hB 1
    have k0' := pw_cell_below hW k0
    have r0' := pw_cell_below hW r0
    have r1' := pw_cell_below hW r1
    have f0' := (hW.frozen (p := ⟨w.heap.size + 1, 0, none⟩) (by dsimp only; omega)).trans f0
    have f1' := (hW.frozen (p := ⟨w.heap.size + 1, 1, none⟩) (by dsimp only; omega)).trans f1
    have H1 := Aside0.mk (below_trans HB.out hW)
    have g1 : w.heap.size + 1 ≠ g := by omega
    have g2 : g ≠ w.heap.size + 1 := by omega
    have g3 : g ≠ w.heap.size := by omega
    clear k0 k1 k2 r0 r1 f0 f1 hsz hs hc hW hB haW hbW HB
    go_wp2
    · have h : 400 < ((bs (tx q.num.natAbs)).size : Int) ∨ 400 < ((bs (tx q.den)).size : Int) := by assumption
      refine bodyPost_ret (v := wV (some q)) (by rw [wq_no (by omega)]; simp [results, Tryd.results72, go_sem, c0, c1, r0', r1', k0', g1, g2, g3]) rfl ⟨rfl, ?_⟩
      repeat first | exact H1.out | refine below_set ?_ (by omega) | refine below_alloc ?_ _
    · have h : ((bs (tx q.num.natAbs)).size : Int) ≤ 400 ∧ ((bs (tx q.den)).size : Int) ≤ 400 := by assumption
      have hn : nb = true := by assumption
      refine bodyPost_ret (v := wV (some q)) (by rw [wq_yes (by omega) (by omega), if_pos (of_decide_eq_true (hnb.trans hn))]; simp [results, Tryd.results72, go_sem, c0, c1, r0', r1', k0', g1, g2, g3]) rfl ⟨rfl, ?_⟩
      repeat first | exact H1.out | refine below_set ?_ (by omega) | refine below_alloc ?_ _
    · have h : ((bs (tx q.num.natAbs)).size : Int) ≤ 400 ∧ ((bs (tx q.den)).size : Int) ≤ 400 := by assumption
      have hn : nb = false := by assumption
      refine bodyPost_ret (v := wV (some q)) (by rw [wq_yes (by omega) (by omega), if_neg (of_decide_eq_false (hnb.trans hn))]; simp [results, Tryd.results72, go_sem, c0, c1, r0', r1', k0', g1, g2, g3]) rfl ⟨rfl, ?_⟩
      repeat first | exact H1.out | refine below_set ?_ (by omega) | refine below_alloc ?_ _
    · have h : 400 < ((bs (tx q.num.natAbs)).size : Int) := by assumption
      refine bodyPost_ret (v := wV (some q)) (by rw [wq_no (by omega)]; simp [results, Tryd.results72, go_sem, c0, c1, r0', r1', k0', g1, g2, g3]) rfl ⟨rfl, ?_⟩
      repeat first | exact H1.out | refine below_set ?_ (by omega) | refine below_alloc ?_ _
end Go.Proofs.YtplpmndchdockaaDoor.M
