-- Written by a program of this session over the kit's print of the translation. Not trusted: Lean checks it.
import Derived.Test.YtplpmndchdockaaPr0
import Derived.Test.YtplpmndchdockaaPr8
import Derived.Test.YtplpmndchdockaaPr10
namespace Go.Proofs.Ytplpmndchdockaa.Pr
open Go.RowKit Go.Proofs.YtplpmndchdockaaV.PrintWords Go.Proofs.YtplpmndchdockaaV.PrintLast Go.Proofs.YtplpmndchdockaaV.PrintMore
attribute [local go_sem] max2_int min2_int max_two min_two max_three min_three max_four min_four   -- for this text's walks alone
set_option linter.unusedVariables false
set_option linter.unusedSimpArgs false
/-! ### flagstoneref37_Div: function 28 -/
mutual
def flagstoneref37_Div.j0 : Nat → Bool → Int → Int → Int → Int → Option (Int × Int × Bool)
 | 0, _, _, _, _, _ => none
 | k + 1, x29, x261000, x261001, x262000, x262001 => if x29 = true then (some (0, 0, false)) else (flagstoneref37_Div.l0 k 2305843009213693952 (-2305843009213693952) 0 x261000 x261001 x262000 x262001)
def flagstoneref37_Div.l0 : Nat → Int → Int → Int → Int → Int → Int → Int → Option (Int × Int × Bool)
 | 0, _, _, _, _, _, _, _ => none
 | k + 1, x6, x7, x8, x261000, x261001, x262000, x262001 => if x8 < 4 then ((some (([x261000, x261001] : List Int) : List Int)).bind fun y265 => (if 0 ≤ (wrap64 (Int.tdiv x8 2)) then (if (wrap64 (Int.tdiv x8 2)) < (y265.length : Int) then ((some (([x262000, x262001] : List Int) : List Int)).bind fun y269 => (if 0 ≤ (Int.tmod x8 2) then (if (Int.tmod x8 2) < (y269.length : Int) then ((flagstoneref37_quotient.f k (rd y265 (wrap64 (Int.tdiv x8 2))) (rd y269 (Int.tmod x8 2))).bind fun bt273 => (if bt273.2.2 = true then (flagstoneref37_Div.l0 k (mn x6 bt273.1) (mx x7 bt273.2.1) (wrap64 (x8 + 1)) x261000 x261001 x262000 x262001) else (some (0, 0, false)))) else (none)) else (none))) else (none)) else (none))) else (some (x6, x7, true))
end
def flagstoneref37_Div.f (k : Nat) (a0_0 : Int) (a0_1 : Int) (a1_0 : Int) (a1_1 : Int) : Option (Int × Int × Bool) := (flagstoneref37_Valid.f a0_0 a0_1).bind fun t263 => (if t263 = true then ((flagstoneref37_Valid.f a1_0 a1_1).bind fun t264 => (if t264 = true then (if a1_0 ≤ 0 then (flagstoneref37_Div.j0 k (decide (a1_1 ≥ 0)) a0_0 a0_1 a1_0 a1_1) else (flagstoneref37_Div.j0 k false a0_0 a0_1 a1_0 a1_1)) else (flagstoneref37_Div.j0 k true a0_0 a0_1 a1_0 a1_1))) else (flagstoneref37_Div.j0 k true a0_0 a0_1 a1_0 a1_1))
theorem flagstoneref37_Div.mono_l : ∀ k, (∀ y0 y1 y2 y3 y4, LeO (flagstoneref37_Div.j0 k y0 y1 y2 y3 y4) (flagstoneref37_Div.j0 (k + 1) y0 y1 y2 y3 y4)) ∧ (∀ y0 y1 y2 y3 y4 y5 y6, LeO (flagstoneref37_Div.l0 k y0 y1 y2 y3 y4 y5 y6) (flagstoneref37_Div.l0 (k + 1) y0 y1 y2 y3 y4 y5 y6))
 | 0 => ⟨fun _ _ _ _ _ r h => by simp [flagstoneref37_Div.j0] at h, fun _ _ _ _ _ _ _ r h => by simp [flagstoneref37_Div.l0] at h⟩
 | k + 1 => by
  obtain ⟨ih0, ih1⟩ := flagstoneref37_Div.mono_l k
  refine ⟨?_, ?_⟩
  ·intro y0 y1 y2 y3 y4
   unfold flagstoneref37_Div.j0
   repeat' first
   | (with_reducible exact ih0 _ _ _ _ _)
   | (with_reducible exact ih1 _ _ _ _ _ _ _)
   | (with_reducible exact flagstoneref37_quotient.mono _ _ _)
   | (with_reducible exact LeO.refl _)
   | (with_reducible exact LeO.none _)
   | (with_reducible refine LeO.ite ?_ ?_)
   | (with_reducible refine LeO.bind ?_ (fun _ => ?_))
   | exact ih0 _ _ _ _ _
   | exact ih1 _ _ _ _ _ _ _
   | exact flagstoneref37_quotient.mono _ _ _
   | exact LeO.none _
   | refine LeO.ite ?_ ?_
   | refine LeO.bind ?_ (fun _ => ?_)
  ·intro y0 y1 y2 y3 y4 y5 y6
   unfold flagstoneref37_Div.l0
   repeat' first
   | (with_reducible exact ih0 _ _ _ _ _)
   | (with_reducible exact ih1 _ _ _ _ _ _ _)
   | (with_reducible exact flagstoneref37_quotient.mono _ _ _)
   | (with_reducible exact LeO.refl _)
   | (with_reducible exact LeO.none _)
   | (with_reducible refine LeO.ite ?_ ?_)
   | (with_reducible refine LeO.bind ?_ (fun _ => ?_))
   | exact ih0 _ _ _ _ _
   | exact ih1 _ _ _ _ _ _ _
   | exact flagstoneref37_quotient.mono _ _ _
   | exact LeO.none _
   | refine LeO.ite ?_ ?_
   | refine LeO.bind ?_ (fun _ => ?_)
theorem flagstoneref37_Div.mono : ∀ a0 a1 a2 a3 k, LeO (flagstoneref37_Div.f k a0 a1 a2 a3) (flagstoneref37_Div.f (k + 1) a0 a1 a2 a3) := by
 intro a0 a1 a2 a3 k
 obtain ⟨ih0, ih1⟩ := flagstoneref37_Div.mono_l k
 unfold flagstoneref37_Div.f
 repeat' first
   | (with_reducible exact ih0 _ _ _ _ _)
   | (with_reducible exact ih1 _ _ _ _ _ _ _)
   | (with_reducible exact flagstoneref37_quotient.mono _ _ _)
   | (with_reducible exact LeO.refl _)
   | (with_reducible exact LeO.none _)
   | (with_reducible refine LeO.ite ?_ ?_)
   | (with_reducible refine LeO.bind ?_ (fun _ => ?_))
   | exact ih0 _ _ _ _ _
   | exact ih1 _ _ _ _ _ _ _
   | exact flagstoneref37_quotient.mono _ _ _
   | exact LeO.none _
   | refine LeO.ite ?_ ?_
   | refine LeO.bind ?_ (fun _ => ?_)
def flagstoneref37_Div.T7 : Bool × List (List Nat × List Nat) := (true, [([], []), ([0], [0]), ([], []), ([2], [2]), ([1, 3], [1, 3]), ([], []), ([5], [5]), ([4, 6], [4, 6]), ([7], [7]), ([], []), ([9], [9]), ([], []), ([11], [11]), ([10, 12], [10, 12]), ([], []), ([14], [14]), ([13, 15], [13, 15]), ([16], [16]), ([8, 17], [8, 17]), ([18], [18]), ([19], [19]), ([19], [19]), ([19], [19]), ([20, 18, 0, 1, 2, 3, 4, 5, 6, 7, 8, 9, 10, 11, 12, 13, 14, 15, 16, 17, 18, 19, 20], [20]), ([21, 23, 0, 1, 2, 3, 4, 5, 6, 7, 8, 9, 10, 11, 12, 13, 14, 15, 16, 17, 18, 19, 20, 21, 23], [21]), ([22, 24, 0, 1, 2, 3, 4, 5, 6, 7, 8, 9, 10, 11, 12, 13, 14, 15, 16, 17, 18, 19, 20, 21, 22, 23, 24], [22])])
def flagstoneref37_Div.B7 : List Nat := [0, 1, 0, 4, 15, 0, 32, 127, 255, 0, 512, 0, 2048, 7680, 0, 16384, 65024, 130560, 262143, 524287, 1048575, 1048575, 1048575, 2097151, 12582911, 33554431]
theorem flagstoneref37_Div.tab7 : rtab .any (opsOf Try.f28 7) = flagstoneref37_Div.T7 := by kernel_rfl
theorem flagstoneref37_Div.bits7 : waitsOk flagstoneref37_Div.T7.2 flagstoneref37_Div.B7 = true := by kernel_rfl
set_option maxHeartbeats 8000000 in
set_option maxRecDepth 100000 in
theorem flagstoneref37_Div.calls (k : Nat) (a0_0 : Int) (a0_1 : Int) (a1_0 : Int) (a1_1 : Int) (r1 : Int) (r2 : Int) (r3 : Bool) (w : World) (h : flagstoneref37_Div.f k a0_0 a0_1 a1_0 a1_1 = some (r1, r2, r3)) :
  Calls Try.prog 28 #[.agg #[.int .i64 a0_0, .int .i64 a0_1], .agg #[.int .i64 a1_0, .int .i64 a1_1]] w fun e w' => e = .returned (.tuple #[.agg #[.int .i64 r1, .int .i64 r2], .bool r3]) ∧ Below w.heap.size w w' := by
 have hu23 := Try.underlying23
 have HB := Aside0.mk (Below.refl w.heap.size w)
 have H : ((flagstoneref37_Valid.f a0_0 a0_1).bind fun t263 => (if t263 = true then ((flagstoneref37_Valid.f a1_0 a1_1).bind fun t264 => (if t264 = true then (if a1_0 ≤ 0 then (flagstoneref37_Div.j0 k (decide (a1_1 ≥ 0)) a0_0 a0_1 a1_0 a1_1) else (flagstoneref37_Div.j0 k false a0_0 a0_1 a1_0 a1_1)) else (flagstoneref37_Div.j0 k true a0_0 a0_1 a1_0 a1_1))) else (flagstoneref37_Div.j0 k true a0_0 a0_1 a1_0 a1_1))) = some (r1, r2, r3) := h
 clear h
 have HC3 := Aside0.mk H
 clear H
 go_enter Try.func28, Try.ntmps28
 go_upto_region 1 with (first | ((with_reducible refine gate_dst (N := 2) rfl ?_); refine box_event ?hg (N := 2) ?hd (cs := #[.int .i64 a0_0, .int .i64 a0_1]) (t := 23) ?hr ?_; (case hd => rfl); (case hg => rfl); (case hr => go_simp); intro gb260 hg w4 hbox hb; have n0_ := Aside0.mk (below_step HB.out hb); have n1_ := Aside0.mk (hbox); have n2_ := Aside0.mk ((by rw [hg]; exact (below_size HB.out) : w.heap.size ≤ gb260)); have n3_ := Aside0.mk ((by rw [hg]; exact (below_size HB.out) : w.heap.size ≤ gb260)); clear HB; have HB := n0_; have BK260 := n1_; have GW260 := n2_; have GE260 := n3_; clear n0_ n1_ n2_ n3_; clear hb hbox hg) | ((with_reducible refine gate_dst (N := 3) rfl ?_); refine box_event ?hg (N := 3) ?hd (cs := #[.int .i64 a1_0, .int .i64 a1_1]) (t := 23) ?hr ?_; (case hd => rfl); (case hg => rfl); (case hr => go_simp); intro gb261 hg w5 hbox hb; have n0_ := Aside0.mk (blk_below (g := gb260) (o := .cells #[.int .i64 a0_0, .int .i64 a0_1] 23 (0, 0)) BK260.out hb); have n1_ := Aside0.mk (below_step (by repeat first | exact HB.out | refine below_set ?_ GE260.out) hb); have n2_ := Aside0.mk (hbox); have n3_ := Aside0.mk ((by rw [hg]; exact (below_size (by repeat first | exact HB.out | refine below_set ?_ GE260.out)) : w.heap.size ≤ gb261)); have n4_ := Aside0.mk ((by rw [hg]; exact (below_size (by repeat first | exact HB.out | refine below_set ?_ GE260.out)) : w.heap.size ≤ gb261)); have n5_ := Aside0.mk ((by rw [hg]; exact Nat.ne_of_lt (blk_lt (g := gb260) (o := .cells #[.int .i64 a0_0, .int .i64 a0_1] 23 (0, 0)) BK260.out) : gb260 ≠ gb261)); have n6_ := Aside0.mk ((by rw [hg]; exact Nat.ne_of_gt (blk_lt (g := gb260) (o := .cells #[.int .i64 a0_0, .int .i64 a0_1] 23 (0, 0)) BK260.out) : gb261 ≠ gb260)); clear BK260; clear HB; have BK260 := n0_; have HB := n1_; have BK261 := n2_; have GW261 := n3_; have GE261 := n4_; have NB260_261 := n5_; have NB261_260 := n6_; clear n0_ n1_ n2_ n3_ n4_ n5_ n6_; clear hb hbox hg) | ((with_reducible refine gate_dst (N := 4) rfl ?_); refine box_event ?hg (N := 4) ?hd (cs := #[.int .i64 0, .int .i64 0]) (t := 23) ?hr ?_; (case hd => rfl); (case hg => rfl); (case hr => go_simp); intro gb262 hg w6 hbox hb; have n0_ := Aside0.mk (blk_below (g := gb260) (o := .cells #[.int .i64 a0_0, .int .i64 a0_1] 23 (0, 0)) BK260.out hb); have n1_ := Aside0.mk (blk_below (g := gb261) (o := .cells #[.int .i64 a1_0, .int .i64 a1_1] 23 (0, 0)) BK261.out hb); have n2_ := Aside0.mk (below_step (by repeat first | exact HB.out | refine below_set ?_ GE260.out | refine below_set ?_ GE261.out) hb); have n3_ := Aside0.mk (hbox); have n4_ := Aside0.mk ((by rw [hg]; exact (below_size (by repeat first | exact HB.out | refine below_set ?_ GE260.out | refine below_set ?_ GE261.out)) : w.heap.size ≤ gb262)); have n5_ := Aside0.mk ((by rw [hg]; exact (below_size (by repeat first | exact HB.out | refine below_set ?_ GE260.out | refine below_set ?_ GE261.out)) : w.heap.size ≤ gb262)); have n6_ := Aside0.mk ((by rw [hg]; exact Nat.ne_of_lt (blk_lt (g := gb260) (o := .cells #[.int .i64 a0_0, .int .i64 a0_1] 23 (0, 0)) BK260.out) : gb260 ≠ gb262)); have n7_ := Aside0.mk ((by rw [hg]; exact Nat.ne_of_gt (blk_lt (g := gb260) (o := .cells #[.int .i64 a0_0, .int .i64 a0_1] 23 (0, 0)) BK260.out) : gb262 ≠ gb260)); have n8_ := Aside0.mk ((by rw [hg]; exact Nat.ne_of_lt (blk_lt (g := gb261) (o := .cells #[.int .i64 a1_0, .int .i64 a1_1] 23 (0, 0)) BK261.out) : gb261 ≠ gb262)); have n9_ := Aside0.mk ((by rw [hg]; exact Nat.ne_of_gt (blk_lt (g := gb261) (o := .cells #[.int .i64 a1_0, .int .i64 a1_1] 23 (0, 0)) BK261.out) : gb262 ≠ gb261)); clear BK260; clear BK261; clear HB; have BK260 := n0_; have BK261 := n1_; have HB := n2_; have BK262 := n3_; have GW262 := n4_; have GE262 := n5_; have NB260_262 := n6_; have NB262_260 := n7_; have NB261_262 := n8_; have NB262_261 := n9_; clear n0_ n1_ n2_ n3_ n4_ n5_ n6_ n7_ n8_ n9_; clear hb hbox hg))
 (try simp only [Act.put, List.setIfInBounds_toArray, List.set_cons_zero, List.set_cons_succ])
 go_cut [29] (fun v29 wc => ∃ (kq : Nat) (x29_2 : Bool), v29 = .bool x29_2 ∧ Aside0 (flagstoneref37_Div.j0 kq x29_2 a0_0 a0_1 a1_0 a1_1 = some (r1, r2, r3)) ∧ Aside0 (kq ≤ k) ∧ Aside0 (wc.heap[gb260]? = some (.cells #[.int .i64 a0_0, .int .i64 a0_1] 23 (0, 0))) ∧ Aside0 (wc.heap[gb261]? = some (.cells #[.int .i64 a1_0, .int .i64 a1_1] 23 (0, 0))) ∧ Aside0 (wc.heap[gb262]? = some (.cells #[.int .i64 0, .int .i64 0] 23 (0, 0))) ∧ Aside0 (Below w.heap.size w wc))
 case first =>
  have H := HC3.out
  clear HC3
  replace H := Option.bind_eq_some_iff.mp H
  obtain ⟨t263, A70, H⟩ := H
  (try dsimp only at H)
  have A7 := Aside0.mk A70
  clear A70
  by_cases c8 : t263 = true
  ·subst c8
   rw [if_pos rfl] at H
   replace H := Option.bind_eq_some_iff.mp H
   obtain ⟨t264, A90, H⟩ := H
   (try dsimp only at H)
   have A9 := Aside0.mk A90
   clear A90
   by_cases c10 : t264 = true
   ·subst c10
    rw [if_pos rfl] at H
    by_cases c11 : a1_0 ≤ 0
    ·rw [if_pos c11] at H
     have c11b0 : decide (a1_0 ≤ 0) = true := decide_eq_true c11
     clear c11
     (first | rw [c11b0] | (simp only [i64_w, i32_w]; rw [c11b0]) | skip)
     have H' := Aside0.mk H
     clear H
     have hnb12 := NB260_261.out
     have hnc12 := NB261_260.out
     have hnb13 := NB260_262.out
     have hnc13 := NB262_260.out
     have hcz14_0 : w6.cell? ⟨gb260, 0, none⟩ = some (.int .i64 a0_0) := (blk_cell BK260.out 0).trans rfl
     have hcz14_1 : w6.cell? ⟨gb260, 1, none⟩ = some (.int .i64 a0_1) := (blk_cell BK260.out 1).trans rfl
     have hfz14_0 := blk_frozen BK260.out 0
     have hfz14_1 := blk_frozen BK260.out 1
     go_wp2_with (first | ((with_reducible refine gate_callee (f := 16) rfl ?_); refine goesL_ (some 13) rfl rfl Try.func16 (by kernel_rfl) rfl #[.agg #[.int .i64 a0_0, .int .i64 a0_1]] rfl (by (try simp only [List.map_toArray, List.map_cons, List.map_nil]); first | done | rfl) ?_; (with_reducible refine (flagstoneref37_Valid.calls a0_0 a0_1 true _ A7.out).mono ?_); rintro e w15 ⟨rfl, hb⟩; refine ⟨_, rfl, ?_⟩; have n0_ := Aside0.mk (blk_below (g := gb260) (o := .cells #[.int .i64 a0_0, .int .i64 a0_1] 23 (0, 0)) BK260.out hb); have n1_ := Aside0.mk (blk_below (g := gb261) (o := .cells #[.int .i64 a1_0, .int .i64 a1_1] 23 (0, 0)) BK261.out hb); have n2_ := Aside0.mk (blk_below (g := gb262) (o := .cells #[.int .i64 0, .int .i64 0] 23 (0, 0)) BK262.out hb); have n3_ := Aside0.mk (below_step (by repeat first | exact HB.out | refine below_set ?_ GE260.out | refine below_set ?_ GE261.out | refine below_set ?_ GE262.out) hb); clear BK260; clear BK261; clear BK262; clear HB; have BK260 := n0_; have BK261 := n1_; have BK262 := n2_; have HB := n3_; clear n0_ n1_ n2_ n3_; (try clear hb); (try clear hb2); (try clear hk); (try clear hi); have hnb16 := NB261_262.out; have hnc16 := NB262_261.out; have hcz17_0 : w15.cell? ⟨gb261, 0, none⟩ = some (.int .i64 a1_0) := (blk_cell BK261.out 0).trans rfl; have hcz17_1 : w15.cell? ⟨gb261, 1, none⟩ = some (.int .i64 a1_1) := (blk_cell BK261.out 1).trans rfl; have hfz17_0 := blk_frozen BK261.out 0; have hfz17_1 := blk_frozen BK261.out 1) | (go_at_call 16; (with_reducible refine (flagstoneref37_Valid.calls a1_0 a1_1 true _ A9.out).mono ?_); rintro e w18 ⟨rfl, hb⟩; have n0_ := Aside0.mk (blk_below (g := gb260) (o := .cells #[.int .i64 a0_0, .int .i64 a0_1] 23 (0, 0)) BK260.out hb); have n1_ := Aside0.mk (blk_below (g := gb261) (o := .cells #[.int .i64 a1_0, .int .i64 a1_1] 23 (0, 0)) BK261.out hb); have n2_ := Aside0.mk (blk_below (g := gb262) (o := .cells #[.int .i64 0, .int .i64 0] 23 (0, 0)) BK262.out hb); have n3_ := Aside0.mk (below_step (by repeat first | exact HB.out | refine below_set ?_ GE260.out | refine below_set ?_ GE261.out | refine below_set ?_ GE262.out) hb); clear BK260; clear BK261; clear BK262; clear HB; have BK260 := n0_; have BK261 := n1_; have BK262 := n2_; have HB := n3_; clear n0_ n1_ n2_ n3_; (try clear hb); (try clear hb2); (try clear hk); (try clear hi); have hcz19_0 : w18.cell? ⟨gb261, 0, none⟩ = some (.int .i64 a1_0) := (blk_cell BK261.out 0).trans rfl; have hcz19_1 : w18.cell? ⟨gb261, 1, none⟩ = some (.int .i64 a1_1) := (blk_cell BK261.out 1).trans rfl; have hfz19_0 := blk_frozen BK261.out 0; have hfz19_1 := blk_frozen BK261.out 1))
     go_meet
     case rel => exact ⟨_, (decide (a1_1 ≥ 0)), rfl, H', ⟨by first | omega | exact Nat.le_refl _⟩, ⟨by (with_reducible repeat (first | refine blk_drewN ?_ _ | refine blk_drew ?_ | refine blk_alloc ?_ _)); exact BK260.out⟩, ⟨by (with_reducible repeat (first | refine blk_drewN ?_ _ | refine blk_drew ?_ | refine blk_alloc ?_ _)); exact BK261.out⟩, ⟨by (with_reducible repeat (first | refine blk_drewN ?_ _ | refine blk_drew ?_ | refine blk_alloc ?_ _)); exact BK262.out⟩, ⟨by repeat first | exact HB.out | refine below_set ?_ GE260.out | refine below_set ?_ GE261.out | refine below_set ?_ GE262.out⟩⟩
    ·rw [if_neg c11] at H
     have c11b0 : decide (a1_0 ≤ 0) = false := decide_eq_false c11
     clear c11
     (first | rw [c11b0] | (simp only [i64_w, i32_w]; rw [c11b0]) | skip)
     have H' := Aside0.mk H
     clear H
     have hnb20 := NB260_261.out
     have hnc20 := NB261_260.out
     have hnb21 := NB260_262.out
     have hnc21 := NB262_260.out
     have hcz22_0 : w6.cell? ⟨gb260, 0, none⟩ = some (.int .i64 a0_0) := (blk_cell BK260.out 0).trans rfl
     have hcz22_1 : w6.cell? ⟨gb260, 1, none⟩ = some (.int .i64 a0_1) := (blk_cell BK260.out 1).trans rfl
     have hfz22_0 := blk_frozen BK260.out 0
     have hfz22_1 := blk_frozen BK260.out 1
     go_wp2_with (first | ((with_reducible refine gate_callee (f := 16) rfl ?_); refine goesL_ (some 13) rfl rfl Try.func16 (by kernel_rfl) rfl #[.agg #[.int .i64 a0_0, .int .i64 a0_1]] rfl (by (try simp only [List.map_toArray, List.map_cons, List.map_nil]); first | done | rfl) ?_; (with_reducible refine (flagstoneref37_Valid.calls a0_0 a0_1 true _ A7.out).mono ?_); rintro e w23 ⟨rfl, hb⟩; refine ⟨_, rfl, ?_⟩; have n0_ := Aside0.mk (blk_below (g := gb260) (o := .cells #[.int .i64 a0_0, .int .i64 a0_1] 23 (0, 0)) BK260.out hb); have n1_ := Aside0.mk (blk_below (g := gb261) (o := .cells #[.int .i64 a1_0, .int .i64 a1_1] 23 (0, 0)) BK261.out hb); have n2_ := Aside0.mk (blk_below (g := gb262) (o := .cells #[.int .i64 0, .int .i64 0] 23 (0, 0)) BK262.out hb); have n3_ := Aside0.mk (below_step (by repeat first | exact HB.out | refine below_set ?_ GE260.out | refine below_set ?_ GE261.out | refine below_set ?_ GE262.out) hb); clear BK260; clear BK261; clear BK262; clear HB; have BK260 := n0_; have BK261 := n1_; have BK262 := n2_; have HB := n3_; clear n0_ n1_ n2_ n3_; (try clear hb); (try clear hb2); (try clear hk); (try clear hi); have hnb24 := NB261_262.out; have hnc24 := NB262_261.out; have hcz25_0 : w23.cell? ⟨gb261, 0, none⟩ = some (.int .i64 a1_0) := (blk_cell BK261.out 0).trans rfl; have hcz25_1 : w23.cell? ⟨gb261, 1, none⟩ = some (.int .i64 a1_1) := (blk_cell BK261.out 1).trans rfl; have hfz25_0 := blk_frozen BK261.out 0; have hfz25_1 := blk_frozen BK261.out 1) | (go_at_call 16; (with_reducible refine (flagstoneref37_Valid.calls a1_0 a1_1 true _ A9.out).mono ?_); rintro e w26 ⟨rfl, hb⟩; have n0_ := Aside0.mk (blk_below (g := gb260) (o := .cells #[.int .i64 a0_0, .int .i64 a0_1] 23 (0, 0)) BK260.out hb); have n1_ := Aside0.mk (blk_below (g := gb261) (o := .cells #[.int .i64 a1_0, .int .i64 a1_1] 23 (0, 0)) BK261.out hb); have n2_ := Aside0.mk (blk_below (g := gb262) (o := .cells #[.int .i64 0, .int .i64 0] 23 (0, 0)) BK262.out hb); have n3_ := Aside0.mk (below_step (by repeat first | exact HB.out | refine below_set ?_ GE260.out | refine below_set ?_ GE261.out | refine below_set ?_ GE262.out) hb); clear BK260; clear BK261; clear BK262; clear HB; have BK260 := n0_; have BK261 := n1_; have BK262 := n2_; have HB := n3_; clear n0_ n1_ n2_ n3_; (try clear hb); (try clear hb2); (try clear hk); (try clear hi); have hcz27_0 : w26.cell? ⟨gb261, 0, none⟩ = some (.int .i64 a1_0) := (blk_cell BK261.out 0).trans rfl; have hcz27_1 : w26.cell? ⟨gb261, 1, none⟩ = some (.int .i64 a1_1) := (blk_cell BK261.out 1).trans rfl; have hfz27_0 := blk_frozen BK261.out 0; have hfz27_1 := blk_frozen BK261.out 1))
     go_meet
     case rel => exact ⟨_, (false), rfl, H', ⟨by first | omega | exact Nat.le_refl _⟩, ⟨by (with_reducible repeat (first | refine blk_drewN ?_ _ | refine blk_drew ?_ | refine blk_alloc ?_ _)); exact BK260.out⟩, ⟨by (with_reducible repeat (first | refine blk_drewN ?_ _ | refine blk_drew ?_ | refine blk_alloc ?_ _)); exact BK261.out⟩, ⟨by (with_reducible repeat (first | refine blk_drewN ?_ _ | refine blk_drew ?_ | refine blk_alloc ?_ _)); exact BK262.out⟩, ⟨by repeat first | exact HB.out | refine below_set ?_ GE260.out | refine below_set ?_ GE261.out | refine below_set ?_ GE262.out⟩⟩
   ·replace c10 := Bool.eq_false_iff.mpr c10
    subst c10
    rw [if_neg (show ¬ (false = true) by decide)] at H
    have H' := Aside0.mk H
    clear H
    have hnb28 := NB260_261.out
    have hnc28 := NB261_260.out
    have hnb29 := NB260_262.out
    have hnc29 := NB262_260.out
    have hcz30_0 : w6.cell? ⟨gb260, 0, none⟩ = some (.int .i64 a0_0) := (blk_cell BK260.out 0).trans rfl
    have hcz30_1 : w6.cell? ⟨gb260, 1, none⟩ = some (.int .i64 a0_1) := (blk_cell BK260.out 1).trans rfl
    have hfz30_0 := blk_frozen BK260.out 0
    have hfz30_1 := blk_frozen BK260.out 1
    go_wp2_with (first | ((with_reducible refine gate_callee (f := 16) rfl ?_); refine goesL_ (some 13) rfl rfl Try.func16 (by kernel_rfl) rfl #[.agg #[.int .i64 a0_0, .int .i64 a0_1]] rfl (by (try simp only [List.map_toArray, List.map_cons, List.map_nil]); first | done | rfl) ?_; (with_reducible refine (flagstoneref37_Valid.calls a0_0 a0_1 true _ A7.out).mono ?_); rintro e w31 ⟨rfl, hb⟩; refine ⟨_, rfl, ?_⟩; have n0_ := Aside0.mk (blk_below (g := gb260) (o := .cells #[.int .i64 a0_0, .int .i64 a0_1] 23 (0, 0)) BK260.out hb); have n1_ := Aside0.mk (blk_below (g := gb261) (o := .cells #[.int .i64 a1_0, .int .i64 a1_1] 23 (0, 0)) BK261.out hb); have n2_ := Aside0.mk (blk_below (g := gb262) (o := .cells #[.int .i64 0, .int .i64 0] 23 (0, 0)) BK262.out hb); have n3_ := Aside0.mk (below_step (by repeat first | exact HB.out | refine below_set ?_ GE260.out | refine below_set ?_ GE261.out | refine below_set ?_ GE262.out) hb); clear BK260; clear BK261; clear BK262; clear HB; have BK260 := n0_; have BK261 := n1_; have BK262 := n2_; have HB := n3_; clear n0_ n1_ n2_ n3_; (try clear hb); (try clear hb2); (try clear hk); (try clear hi); have hnb32 := NB261_262.out; have hnc32 := NB262_261.out; have hcz33_0 : w31.cell? ⟨gb261, 0, none⟩ = some (.int .i64 a1_0) := (blk_cell BK261.out 0).trans rfl; have hcz33_1 : w31.cell? ⟨gb261, 1, none⟩ = some (.int .i64 a1_1) := (blk_cell BK261.out 1).trans rfl; have hfz33_0 := blk_frozen BK261.out 0; have hfz33_1 := blk_frozen BK261.out 1) | (go_at_call 16; (with_reducible refine (flagstoneref37_Valid.calls a1_0 a1_1 false _ A9.out).mono ?_); rintro e w34 ⟨rfl, hb⟩; have n0_ := Aside0.mk (blk_below (g := gb260) (o := .cells #[.int .i64 a0_0, .int .i64 a0_1] 23 (0, 0)) BK260.out hb); have n1_ := Aside0.mk (blk_below (g := gb261) (o := .cells #[.int .i64 a1_0, .int .i64 a1_1] 23 (0, 0)) BK261.out hb); have n2_ := Aside0.mk (blk_below (g := gb262) (o := .cells #[.int .i64 0, .int .i64 0] 23 (0, 0)) BK262.out hb); have n3_ := Aside0.mk (below_step (by repeat first | exact HB.out | refine below_set ?_ GE260.out | refine below_set ?_ GE261.out | refine below_set ?_ GE262.out) hb); clear BK260; clear BK261; clear BK262; clear HB; have BK260 := n0_; have BK261 := n1_; have BK262 := n2_; have HB := n3_; clear n0_ n1_ n2_ n3_; (try clear hb); (try clear hb2); (try clear hk); (try clear hi)))
    go_meet
    case rel => exact ⟨_, (true), rfl, H', ⟨by first | omega | exact Nat.le_refl _⟩, ⟨by (with_reducible repeat (first | refine blk_drewN ?_ _ | refine blk_drew ?_ | refine blk_alloc ?_ _)); exact BK260.out⟩, ⟨by (with_reducible repeat (first | refine blk_drewN ?_ _ | refine blk_drew ?_ | refine blk_alloc ?_ _)); exact BK261.out⟩, ⟨by (with_reducible repeat (first | refine blk_drewN ?_ _ | refine blk_drew ?_ | refine blk_alloc ?_ _)); exact BK262.out⟩, ⟨by repeat first | exact HB.out | refine below_set ?_ GE260.out | refine below_set ?_ GE261.out | refine below_set ?_ GE262.out⟩⟩
  ·replace c8 := Bool.eq_false_iff.mpr c8
   subst c8
   rw [if_neg (show ¬ (false = true) by decide)] at H
   have H' := Aside0.mk H
   clear H
   have hnb35 := NB260_261.out
   have hnc35 := NB261_260.out
   have hnb36 := NB260_262.out
   have hnc36 := NB262_260.out
   have hcz37_0 : w6.cell? ⟨gb260, 0, none⟩ = some (.int .i64 a0_0) := (blk_cell BK260.out 0).trans rfl
   have hcz37_1 : w6.cell? ⟨gb260, 1, none⟩ = some (.int .i64 a0_1) := (blk_cell BK260.out 1).trans rfl
   have hfz37_0 := blk_frozen BK260.out 0
   have hfz37_1 := blk_frozen BK260.out 1
   go_wp2_with (first | ((with_reducible refine gate_callee (f := 16) rfl ?_); refine goesL_ (some 13) rfl rfl Try.func16 (by kernel_rfl) rfl #[.agg #[.int .i64 a0_0, .int .i64 a0_1]] rfl (by (try simp only [List.map_toArray, List.map_cons, List.map_nil]); first | done | rfl) ?_; (with_reducible refine (flagstoneref37_Valid.calls a0_0 a0_1 false _ A7.out).mono ?_); rintro e w38 ⟨rfl, hb⟩; refine ⟨_, rfl, ?_⟩; have n0_ := Aside0.mk (blk_below (g := gb260) (o := .cells #[.int .i64 a0_0, .int .i64 a0_1] 23 (0, 0)) BK260.out hb); have n1_ := Aside0.mk (blk_below (g := gb261) (o := .cells #[.int .i64 a1_0, .int .i64 a1_1] 23 (0, 0)) BK261.out hb); have n2_ := Aside0.mk (blk_below (g := gb262) (o := .cells #[.int .i64 0, .int .i64 0] 23 (0, 0)) BK262.out hb); have n3_ := Aside0.mk (below_step (by repeat first | exact HB.out | refine below_set ?_ GE260.out | refine below_set ?_ GE261.out | refine below_set ?_ GE262.out) hb); clear BK260; clear BK261; clear BK262; clear HB; have BK260 := n0_; have BK261 := n1_; have BK262 := n2_; have HB := n3_; clear n0_ n1_ n2_ n3_; (try clear hb); (try clear hb2); (try clear hk); (try clear hi)))
   go_meet
   case rel => exact ⟨_, (true), rfl, H', ⟨by first | omega | exact Nat.le_refl _⟩, ⟨by (with_reducible repeat (first | refine blk_drewN ?_ _ | refine blk_drew ?_ | refine blk_alloc ?_ _)); exact BK260.out⟩, ⟨by (with_reducible repeat (first | refine blk_drewN ?_ _ | refine blk_drew ?_ | refine blk_alloc ?_ _)); exact BK261.out⟩, ⟨by (with_reducible repeat (first | refine blk_drewN ?_ _ | refine blk_drew ?_ | refine blk_alloc ?_ _)); exact BK262.out⟩, ⟨by repeat first | exact HB.out | refine below_set ?_ GE260.out | refine below_set ?_ GE261.out | refine below_set ?_ GE262.out⟩⟩
 case rest =>
  clear HC3
  try clear c1
  try clear c2
  try clear p2
  try clear c3
  try clear c8
  try clear c10
  try clear c11
  try clear c11b0
  try clear c12
  try clear c13
  try clear c16
  try clear c20
  try clear c21
  try clear c24
  try clear c28
  try clear c29
  try clear c32
  try clear c35
  try clear c36
  try clear hcz14_0
  try clear hcz14_1
  try clear hcz17_0
  try clear hcz17_1
  try clear hcz19_0
  try clear hcz19_1
  try clear hcz22_0
  try clear hcz22_1
  try clear hcz25_0
  try clear hcz25_1
  try clear hcz27_0
  try clear hcz27_1
  try clear hcz30_0
  try clear hcz30_1
  try clear hcz33_0
  try clear hcz33_1
  try clear hcz37_0
  try clear hcz37_1
  try clear hfz14_0
  try clear hfz14_1
  try clear hfz17_0
  try clear hfz17_1
  try clear hfz19_0
  try clear hfz19_1
  try clear hfz22_0
  try clear hfz22_1
  try clear hfz25_0
  try clear hfz25_1
  try clear hfz27_0
  try clear hfz27_1
  try clear hfz30_0
  try clear hfz30_1
  try clear hfz33_0
  try clear hfz33_1
  try clear hfz37_0
  try clear hfz37_1
  obtain ⟨kq, x29_2, rfl, HA, HJ2, BK260, BK261, BK262, HB⟩ := hcut
  cases kq with
  | zero => exact absurd HA.out (by simp [flagstoneref37_Div.j0])
  | succ kj2 =>
   have H := HA.out
   clear HA
   simp only [flagstoneref37_Div.j0] at H
   by_cases c39 : x29_2 = true
   ·subst c39
    rw [if_pos rfl] at H
    simp only [Option.some.injEq, Prod.mk.injEq] at H
    obtain ⟨rfl, rfl, rfl⟩ := H
    have hnb40 := NB262_260.out
    have hnc40 := NB260_262.out
    have hnb41 := NB262_261.out
    have hnc41 := NB261_262.out
    have hcz42_0 : wc.cell? ⟨gb262, 0, none⟩ = some (.int .i64 0) := (blk_cell BK262.out 0).trans rfl
    have hcz42_1 : wc.cell? ⟨gb262, 1, none⟩ = some (.int .i64 0) := (blk_cell BK262.out 1).trans rfl
    have hfz42_0 := blk_frozen BK262.out 0
    have hfz42_1 := blk_frozen BK262.out 1
    go_wp2
    refine bodyPost_ret (results_ct rfl _ _ gb262 23 #[.int .i64 0, .int .i64 0] (0, 0) _ rfl (by (with_reducible repeat (first | refine blk_drewN ?_ _ | refine blk_drew ?_ | refine blk_alloc ?_ _)); refine blk_put (cs := #[.int .i64 0, .int .i64 0]) ?_ 1 _ rfl; (with_reducible repeat (first | refine blk_drewN ?_ _ | refine blk_drew ?_ | refine blk_alloc ?_ _)); refine blk_put (cs := #[.int .i64 0, .int .i64 0]) ?_ 0 _ rfl; (with_reducible repeat (first | refine blk_drewN ?_ _ | refine blk_drew ?_ | refine blk_alloc ?_ _)); exact BK262.out) Try.underlying23 rfl (by kernel_rfl)) rfl ?_
    exact ⟨rfl, by repeat first | exact HB.out | refine below_set ?_ GE260.out | refine below_set ?_ GE261.out | refine below_set ?_ GE262.out⟩
   ·replace c39 := Bool.eq_false_iff.mpr c39
    subst c39
    rw [if_neg (show ¬ (false = true) by decide)] at H
    have H' := Aside0.mk H
    clear H
    go_wp2
    go_loopg [6, 7, 8] kj2 (fun kq v6 v7 v8 w' => ∃ (x6_2 : Int) (x7_2 : Int) (x8_2 : Int) (x263000_2 : Int) (x263001_2 : Int), v6 = .int .i64 x6_2 ∧ v7 = .int .i64 x7_2 ∧ v8 = .int .i64 x8_2 ∧ Aside0 (flagstoneref37_Div.l0 kq x6_2 x7_2 x8_2 a0_0 a0_1 a1_0 a1_1 = some (r1, r2, r3)) ∧ Aside0 (kq ≤ kj2) ∧ Aside0 (w'.heap[gb260]? = some (.cells #[.int .i64 a0_0, .int .i64 a0_1] 23 (0, 0))) ∧ Aside0 (w'.heap[gb261]? = some (.cells #[.int .i64 a1_0, .int .i64 a1_1] 23 (0, 0))) ∧ Aside0 (w'.heap[gb262]? = some (.cells #[.int .i64 x263000_2, .int .i64 x263001_2] 23 (0, 0))) ∧ Aside0 (Below w.heap.size w w'))
    case atStart => exact ⟨(2305843009213693952), ((-2305843009213693952)), (0), (0), (0), rfl, rfl, rfl, H', ⟨Nat.le_refl _⟩, ⟨by (with_reducible repeat (first | refine blk_drewN ?_ _ | refine blk_drew ?_ | refine blk_alloc ?_ _)); exact BK260.out⟩, ⟨by (with_reducible repeat (first | refine blk_drewN ?_ _ | refine blk_drew ?_ | refine blk_alloc ?_ _)); exact BK261.out⟩, ⟨by (with_reducible repeat (first | refine blk_drewN ?_ _ | refine blk_drew ?_ | refine blk_alloc ?_ _)); exact BK262.out⟩, ⟨by repeat first | exact HB.out | refine below_set ?_ GE260.out | refine below_set ?_ GE261.out | refine below_set ?_ GE262.out⟩⟩
    case round =>
     clear H'
     try clear c1
     try clear c2
     try clear p2
     try clear c3
     try clear c4
     try clear c8
     try clear c10
     try clear c11
     try clear c11b0
     try clear c12
     try clear c13
     try clear c16
     try clear c20
     try clear c21
     try clear c24
     try clear c28
     try clear c29
     try clear c32
     try clear c35
     try clear c36
     try clear c39
     try clear c40
     try clear c41
     try clear hcz14_0
     try clear hcz14_1
     try clear hcz17_0
     try clear hcz17_1
     try clear hcz19_0
     try clear hcz19_1
     try clear hcz22_0
     try clear hcz22_1
     try clear hcz25_0
     try clear hcz25_1
     try clear hcz27_0
     try clear hcz27_1
     try clear hcz30_0
     try clear hcz30_1
     try clear hcz33_0
     try clear hcz33_1
     try clear hcz37_0
     try clear hcz37_1
     try clear hcz42_0
     try clear hcz42_1
     try clear hfz14_0
     try clear hfz14_1
     try clear hfz17_0
     try clear hfz17_1
     try clear hfz19_0
     try clear hfz19_1
     try clear hfz22_0
     try clear hfz22_1
     try clear hfz25_0
     try clear hfz25_1
     try clear hfz27_0
     try clear hfz27_1
     try clear hfz30_0
     try clear hfz30_1
     try clear hfz33_0
     try clear hfz33_1
     try clear hfz37_0
     try clear hfz37_1
     try clear hfz42_0
     try clear hfz42_1
     try clear p2
     obtain ⟨x6_2, x7_2, x8_2, x263000_2, x263001_2, rfl, rfl, rfl, HA, HK2, BK260, BK261, BK262, HB⟩ := hrel
     cases gk with
     | zero => exact absurd HA.out (by simp [flagstoneref37_Div.l0])
     | succ k2 =>
      have H := HA.out
      clear HA
      simp only [flagstoneref37_Div.l0] at H
      by_cases c43 : x8_2 < 4
      ·rw [if_pos c43] at H
       have c43b0 : decide (x8_2 < 4) = true := decide_eq_true c43
       clear c43
       obtain ⟨y265, hy265⟩ : ∃ y_ : List Int, y_ = (([a0_0, a0_1] : List Int)) := ⟨_, rfl⟩
       replace H : (if 0 ≤ (wrap64 (Int.tdiv x8_2 2)) then (if (wrap64 (Int.tdiv x8_2 2)) < (y265.length : Int) then ((some (([a1_0, a1_1] : List Int) : List Int)).bind fun y269 => (if 0 ≤ (Int.tmod x8_2 2) then (if (Int.tmod x8_2 2) < (y269.length : Int) then ((flagstoneref37_quotient.f k2 (rd y265 (wrap64 (Int.tdiv x8_2 2))) (rd y269 (Int.tmod x8_2 2))).bind fun bt273 => (if bt273.2.2 = true then (flagstoneref37_Div.l0 k2 (mn x6_2 bt273.1) (mx x7_2 bt273.2.1) (wrap64 (x8_2 + 1)) a0_0 a0_1 a1_0 a1_1) else (some (0, 0, false)))) else (none)) else (none))) else (none)) else (none)) = some (r1, r2, r3) := by first | (rw [hy265]; with_reducible exact H) | (have H2_ := (Option.bind_some _ _).symm.trans H; rw [hy265]; with_reducible exact H2_) | (have H2_ := (Option.bind_some _ _).symm.trans H; with_reducible exact H2_) | with_reducible exact H | (rw [hy265]; exact H) | exact H
       have Ny265 := Aside0.mk hy265
       clear hy265
       obtain ⟨ji44, hji44⟩ : ∃ j_ : Int, (wrap64 (Int.tdiv x8_2 2)) = j_ := ⟨_, rfl⟩
       replace H : (if 0 ≤ (ji44) then (if (ji44) < (y265.length : Int) then ((some (([a1_0, a1_1] : List Int) : List Int)).bind fun y269 => (if 0 ≤ (Int.tmod x8_2 2) then (if (Int.tmod x8_2 2) < (y269.length : Int) then ((flagstoneref37_quotient.f k2 (rd y265 (ji44)) (rd y269 (Int.tmod x8_2 2))).bind fun bt273 => (if bt273.2.2 = true then (flagstoneref37_Div.l0 k2 (mn x6_2 bt273.1) (mx x7_2 bt273.2.1) (wrap64 (x8_2 + 1)) a0_0 a0_1 a1_0 a1_1) else (some (0, 0, false)))) else (none)) else (none))) else (none)) else (none)) = some (r1, r2, r3) := by first | (rw [hji44] at H; exact H) | (simp only [hji44] at H ⊢; exact H)
       have hji44w : (IntKind.i64.wrap (Int.tdiv x8_2 2)) = ji44 := (i64_w _).trans hji44
       by_cases c45 : 0 ≤ (ji44)
       ·rw [if_pos c45] at H
        have c45b0 : decide (0 ≤ (ji44)) = true := decide_eq_true c45
        clear c45
        by_cases c46 : (ji44) < (y265.length : Int)
        ·rw [if_pos c46] at H
         have c46b0 : decide ((ji44) < (y265.length : Int)) = true := decide_eq_true c46
         clear c46
         obtain ⟨y269, hy269⟩ : ∃ y_ : List Int, y_ = (([a1_0, a1_1] : List Int)) := ⟨_, rfl⟩
         replace H : (if 0 ≤ (Int.tmod x8_2 2) then (if (Int.tmod x8_2 2) < (y269.length : Int) then ((flagstoneref37_quotient.f k2 (rd y265 (ji44)) (rd y269 (Int.tmod x8_2 2))).bind fun bt273 => (if bt273.2.2 = true then (flagstoneref37_Div.l0 k2 (mn x6_2 bt273.1) (mx x7_2 bt273.2.1) (wrap64 (x8_2 + 1)) a0_0 a0_1 a1_0 a1_1) else (some (0, 0, false)))) else (none)) else (none)) = some (r1, r2, r3) := by first | (rw [hy269]; with_reducible exact H) | (have H2_ := (Option.bind_some _ _).symm.trans H; rw [hy269]; with_reducible exact H2_) | (have H2_ := (Option.bind_some _ _).symm.trans H; with_reducible exact H2_) | with_reducible exact H | (rw [hy269]; exact H) | exact H
         have Ny269 := Aside0.mk hy269
         clear hy269
         obtain ⟨ji47, hji47⟩ : ∃ j_ : Int, (Int.tmod x8_2 2) = j_ := ⟨_, rfl⟩
         replace H : (if 0 ≤ (ji47) then (if (ji47) < (y269.length : Int) then ((flagstoneref37_quotient.f k2 (rd y265 (ji44)) (rd y269 (ji47))).bind fun bt273 => (if bt273.2.2 = true then (flagstoneref37_Div.l0 k2 (mn x6_2 bt273.1) (mx x7_2 bt273.2.1) (wrap64 (x8_2 + 1)) a0_0 a0_1 a1_0 a1_1) else (some (0, 0, false)))) else (none)) else (none)) = some (r1, r2, r3) := by first | (rw [hji47] at H; exact H) | (simp only [hji47] at H ⊢; exact H)
         by_cases c48 : 0 ≤ (ji47)
         ·rw [if_pos c48] at H
          have c48b0 : decide (0 ≤ (ji47)) = true := decide_eq_true c48
          clear c48
          by_cases c49 : (ji47) < (y269.length : Int)
          ·rw [if_pos c49] at H
           have c49b0 : decide ((ji47) < (y269.length : Int)) = true := decide_eq_true c49
           clear c49
           replace H := Option.bind_eq_some_iff.mp H
           obtain ⟨⟨t273, t274, t275⟩, A500, H⟩ := H
           (try dsimp only at H)
           have A50 := Aside0.mk A500
           clear A500
           by_cases c51 : t275 = true
           ·subst c51
            rw [if_pos rfl] at H
            obtain ⟨ji52, hji52⟩ : ∃ j_ : Int, (mn x6_2 t273) = j_ := ⟨_, rfl⟩
            replace H : (flagstoneref37_Div.l0 k2 ji52 (mx x7_2 t274) (wrap64 (x8_2 + 1)) a0_0 a0_1 a1_0 a1_1) = some (r1, r2, r3) := by first | (rw [hji52] at H; exact H) | (simp only [hji52] at H ⊢; exact H)
            (try rw [hji52] at A50)
            have hji52_ : (if t273 < x6_2 then t273 else x6_2) = ji52 := hji52
            obtain ⟨ji53, hji53⟩ : ∃ j_ : Int, (mx x7_2 t274) = j_ := ⟨_, rfl⟩
            replace H : (flagstoneref37_Div.l0 k2 ji52 ji53 (wrap64 (x8_2 + 1)) a0_0 a0_1 a1_0 a1_1) = some (r1, r2, r3) := by first | (rw [hji53] at H; exact H) | (simp only [hji53] at H ⊢; exact H)
            (try rw [hji53] at A50)
            have hji53_ : (if x7_2 < t274 then t274 else x7_2) = ji53 := hji53
            have H' := Aside0.mk H
            clear H
            try go_wp2
            have pi268 : (0 ≤ ((ji44) : Int)) = True := eq_true (of_decide_eq_true (by assumption))
            have qi268 : ((ji44) < (y265.length : Int)) = True := eq_true (of_decide_eq_true (by assumption))
            have pi272 : (0 ≤ ((ji47) : Int)) = True := eq_true (of_decide_eq_true (by assumption))
            have qi272 : ((ji47) < (y269.length : Int)) = True := eq_true (of_decide_eq_true (by assumption))
            have n0_ := Aside0.mk (blk_drew BK260.out)
            have n1_ := Aside0.mk (blk_drew BK261.out)
            have n2_ := Aside0.mk (blk_drew BK262.out)
            have n3_ := Aside0.mk (below_drew1 HB.out)
            clear BK260
            clear BK261
            clear BK262
            clear HB
            have BK260 := n0_
            have BK261 := n1_
            have BK262 := n2_
            have HB := n3_
            clear n0_ n1_ n2_ n3_
            refine start_ (n := 26) (S := fun w' => w'.cell? ⟨gb260, 0, none⟩ = some (.int .i64 a0_0) ∧ w'.cell? ⟨gb260, 1, none⟩ = some (.int .i64 a0_1) ∧ w'.cell? ⟨gb261, 0, none⟩ = some (.int .i64 a1_0) ∧ w'.cell? ⟨gb261, 1, none⟩ = some (.int .i64 a1_1)) (ds := []) #[false, false, false, false, false, false, false, false, false, false, false, false, false, false, false, false, false, false, false, false, false, false, false, false, false, false] (by kernel_rfl) rfl rfl ⟨(blk_cell BK260.out 0).trans rfl, (blk_cell BK260.out 1).trans rfl, (blk_cell BK261.out 0).trans rfl, (blk_cell BK261.out 1).trans rfl⟩ (fun hHeld => ?_); refine with_tabW flagstoneref37_Div.tab7 flagstoneref37_Div.bits7 (fun HT_ HW_ => ?_)
            generalize wr.drew = w54 at BK260 BK261 BK262 HB hHeld ⊢
            refine pure_ (i := 0) (N := some 36) (v := ?_) (a' := ?_) #[true, false, false, false, false, false, false, false, false, false, false, false, false, false, false, false, false, false, false, false, false, false, false, false, false, false] rfl rfl (any_of HT_.out (by kernel_rfl)) (fun _ _ _ h => h) (Or.inl ⟨by rfl, ?_⟩) ?_ ?_
            rotate_left
            ·intro w'
             go_simp
             with_reducible rfl
            rotate_left
            ·simp only [Act.put, List.setIfInBounds_toArray, List.set_cons_zero, List.set_cons_succ, i64_w, i32_w]
             rfl
            refine pure_ (i := 2) (N := some 38) (v := ?_) (a' := ?_) #[true, false, true, false, false, false, false, false, false, false, false, false, false, false, false, false, false, false, false, false, false, false, false, false, false, false] rfl rfl (any_of HT_.out (by kernel_rfl)) (fun _ _ _ h => h) (Or.inl ⟨by rfl, ?_⟩) ?_ ?_
            rotate_left
            ·intro w'
             go_simp
             with_reducible rfl
            rotate_left
            ·simp only [Act.put, List.setIfInBounds_toArray, List.set_cons_zero, List.set_cons_succ, i64_w, i32_w]
             rfl
            refine pure_ (i := 5) (N := some 41) (v := ?_) (a' := ?_) #[true, false, true, false, false, true, false, false, false, false, false, false, false, false, false, false, false, false, false, false, false, false, false, false, false, false] rfl rfl (any_of HT_.out (by kernel_rfl)) (fun _ _ _ h => h) (Or.inl ⟨by rfl, ?_⟩) ?_ ?_
            rotate_left
            ·intro w'
             go_simp
             with_reducible rfl
            rotate_left
            ·simp only [Act.put, List.setIfInBounds_toArray, List.set_cons_zero, List.set_cons_succ, i64_w, i32_w]
             rfl
            refine pure_ (i := 6) (N := some 42) (v := ?_) (a' := ?_) #[true, false, true, false, false, true, true, false, false, false, false, false, false, false, false, false, false, false, false, false, false, false, false, false, false, false] rfl rfl (any_of HT_.out (by kernel_rfl)) (fun _ _ _ h => h) (Or.inl ⟨by rfl, ?_⟩) ?_ ?_
            rotate_left
            ·intro w'
             go_simp
             with_reducible rfl
            rotate_left
            ·simp only [Act.put, List.setIfInBounds_toArray, List.set_cons_zero, List.set_cons_succ, i64_w, i32_w]
             rfl
            refine pure_ (i := 9) (N := some 45) (v := ?_) (a' := ?_) #[true, false, true, false, false, true, true, false, false, true, false, false, false, false, false, false, false, false, false, false, false, false, false, false, false, false] rfl rfl (any_of HT_.out (by kernel_rfl)) (fun _ _ _ h => h) (Or.inl ⟨by rfl, ?_⟩) ?_ ?_
            rotate_left
            ·intro w'
             go_simp
             with_reducible rfl
            rotate_left
            ·simp only [Act.put, List.setIfInBounds_toArray, List.set_cons_zero, List.set_cons_succ, i64_w, i32_w]
             rfl
            refine pure_ (i := 11) (N := some 47) (v := ?_) (a' := ?_) #[true, false, true, false, false, true, true, false, false, true, false, true, false, false, false, false, false, false, false, false, false, false, false, false, false, false] rfl rfl (any_of HT_.out (by kernel_rfl)) (fun _ _ _ h => h) (Or.inl ⟨by rfl, ?_⟩) ?_ ?_
            rotate_left
            ·intro w'
             go_simp
             with_reducible rfl
            rotate_left
            ·simp only [Act.put, List.setIfInBounds_toArray, List.set_cons_zero, List.set_cons_succ, i64_w, i32_w]
             rfl
            refine pure_ (i := 14) (N := some 50) (v := ?_) (a' := ?_) #[true, false, true, false, false, true, true, false, false, true, false, true, false, false, true, false, false, false, false, false, false, false, false, false, false, false] rfl rfl (any_of HT_.out (by kernel_rfl)) (fun _ _ _ h => h) (Or.inl ⟨by rfl, ?_⟩) ?_ ?_
            rotate_left
            ·intro w'
             go_simp
             with_reducible rfl
            rotate_left
            ·simp only [Act.put, List.setIfInBounds_toArray, List.set_cons_zero, List.set_cons_succ, i64_w, i32_w]
             rfl
            refine pure_ (i := 15) (N := some 51) (v := ?_) (a' := ?_) #[true, false, true, false, false, true, true, false, false, true, false, true, false, false, true, true, false, false, false, false, false, false, false, false, false, false] rfl rfl (any_of HT_.out (by kernel_rfl)) (fun _ _ _ h => h) (Or.inl ⟨by rfl, ?_⟩) ?_ ?_
            rotate_left
            ·intro w'
             go_simp
             with_reducible rfl
            rotate_left
            ·simp only [Act.put, List.setIfInBounds_toArray, List.set_cons_zero, List.set_cons_succ, i64_w, i32_w]
             rfl
            refine take_ (i := 1) (N := some 37) (v := ?_) (a' := ?_) #[true, true, true, false, false, true, true, false, false, true, false, true, false, false, true, true, false, false, false, false, false, false, false, false, false, false] rfl rfl (take_ofW HT_.out HW_.out (by kernel_rfl)) (fun _ _ _ h => h) (Or.inl ⟨by rfl, ?_⟩) hHeld ?_ ?_
            rotate_left
            ·rintro w' ⟨s0, s1, s2, s3⟩
             go_simp
             with_reducible rfl
            rotate_left
            ·simp only [Act.put, List.setIfInBounds_toArray, List.set_cons_zero, List.set_cons_succ, i64_w, i32_w]
             rfl
            refine take_ (i := 3) (N := some 39) (v := ?_) (a' := ?_) #[true, true, true, true, false, true, true, false, false, true, false, true, false, false, true, true, false, false, false, false, false, false, false, false, false, false] rfl rfl (take_ofW HT_.out HW_.out (by kernel_rfl)) (fun _ _ _ h => h) (Or.inl ⟨by rfl, ?_⟩) hHeld ?_ ?_
            rotate_left
            ·rintro w' ⟨s0, s1, s2, s3⟩
             go_simp
             with_reducible rfl
            rotate_left
            ·simp only [Act.put, List.setIfInBounds_toArray, List.set_cons_zero, List.set_cons_succ, i64_w, i32_w]
             rfl
            refine take_ (i := 10) (N := some 46) (v := ?_) (a' := ?_) #[true, true, true, true, false, true, true, false, false, true, true, true, false, false, true, true, false, false, false, false, false, false, false, false, false, false] rfl rfl (take_ofW HT_.out HW_.out (by kernel_rfl)) (fun _ _ _ h => h) (Or.inl ⟨by rfl, ?_⟩) hHeld ?_ ?_
            rotate_left
            ·rintro w' ⟨s0, s1, s2, s3⟩
             go_simp
             with_reducible rfl
            rotate_left
            ·simp only [Act.put, List.setIfInBounds_toArray, List.set_cons_zero, List.set_cons_succ, i64_w, i32_w]
             rfl
            refine take_ (i := 12) (N := some 48) (v := ?_) (a' := ?_) #[true, true, true, true, false, true, true, false, false, true, true, true, true, false, true, true, false, false, false, false, false, false, false, false, false, false] rfl rfl (take_ofW HT_.out HW_.out (by kernel_rfl)) (fun _ _ _ h => h) (Or.inl ⟨by rfl, ?_⟩) hHeld ?_ ?_
            rotate_left
            ·rintro w' ⟨s0, s1, s2, s3⟩
             go_simp
             with_reducible rfl
            rotate_left
            ·simp only [Act.put, List.setIfInBounds_toArray, List.set_cons_zero, List.set_cons_succ, i64_w, i32_w]
             rfl
            refine join_ (σ := Value × Addr × Value × Addr) 8 #[true, true, true, true, true, true, true, true, true, true, true, true, true, true, true, true, true, true, false, false, false, false, false, false, false, false] (fun s_ => [(40, s_.1), (44, .int .i64 (rd y265 (ji44))), (49, s_.2.2.1), (53, .int .i64 (rd y269 (ji47))), (43, .pointer (some (s_.2.1.add ((ji44)).toNat))), (52, .pointer (some (s_.2.2.2.add ((ji47)).toNat)))]) (fun s_ w' => (w'.cell? ⟨gb260, 0, none⟩ = some (.int .i64 a0_0) ∧ w'.cell? ⟨gb260, 1, none⟩ = some (.int .i64 a0_1) ∧ w'.cell? ⟨gb261, 0, none⟩ = some (.int .i64 a1_0) ∧ w'.cell? ⟨gb261, 1, none⟩ = some (.int .i64 a1_1)) ∧ (Kd.R (Kd.int .i64) 3 w' w.heap.size (fun k_ => some k_ ≠ (s_.2.2.1 : Value).ownBlock) s_.1 y265) ∧ (Kd.R (Kd.int .i64) 3 w' w.heap.size (fun k_ => some k_ ≠ (s_.1 : Value).ownBlock) s_.2.2.1 y269) ∧ (∃ c_, (s_.1 : Value) = .slice (some s_.2.1) y265.length c_) ∧ (∃ c_, (s_.2.2.1 : Value) = .slice (some s_.2.2.2) y269.length c_) ∧ (w'.heap[gb260]? = some (.cells #[.int .i64 a0_0, .int .i64 a0_1] 23 (0, 0))) ∧ (w'.heap[gb261]? = some (.cells #[.int .i64 a1_0, .int .i64 a1_1] 23 (0, 0))) ∧ (w'.heap[gb262]? = some (.cells #[.int .i64 x263000_2, .int .i64 x263001_2] 23 (0, 0))) ∧ (Below w.heap.size w w')) ?_ ?_
            rotate_left
            ·intro hJ4_8_13_17
             refine join_ (σ := Value × Addr × Value × Addr) 9 #[true, true, true, true, true, true, true, true, true, true, true, true, true, true, true, true, true, false, false, false, false, false, false, false, false, false] (fun s_ => [(40, s_.1), (44, .int .i64 (rd y265 (ji44))), (49, s_.2.2.1), (43, .pointer (some (s_.2.1.add ((ji44)).toNat))), (52, .pointer (some (s_.2.2.2.add ((ji47)).toNat)))]) (fun s_ w' => (w'.cell? ⟨gb260, 0, none⟩ = some (.int .i64 a0_0) ∧ w'.cell? ⟨gb260, 1, none⟩ = some (.int .i64 a0_1) ∧ w'.cell? ⟨gb261, 0, none⟩ = some (.int .i64 a1_0) ∧ w'.cell? ⟨gb261, 1, none⟩ = some (.int .i64 a1_1)) ∧ (Kd.R (Kd.int .i64) 3 w' w.heap.size (fun k_ => some k_ ≠ (s_.2.2.1 : Value).ownBlock) s_.1 y265) ∧ (Kd.R (Kd.int .i64) 3 w' w.heap.size (fun k_ => some k_ ≠ (s_.1 : Value).ownBlock) s_.2.2.1 y269) ∧ (∃ c_, (s_.1 : Value) = .slice (some s_.2.1) y265.length c_) ∧ (∃ c_, (s_.2.2.1 : Value) = .slice (some s_.2.2.2) y269.length c_) ∧ (w'.heap[gb260]? = some (.cells #[.int .i64 a0_0, .int .i64 a0_1] 23 (0, 0))) ∧ (w'.heap[gb261]? = some (.cells #[.int .i64 a1_0, .int .i64 a1_1] 23 (0, 0))) ∧ (w'.heap[gb262]? = some (.cells #[.int .i64 x263000_2, .int .i64 x263001_2] 23 (0, 0))) ∧ (Below w.heap.size w w')) ?_ ?_
             rotate_left
             ·intro hJ4_8_13
              refine join_ (σ := Value × Addr × Value × Addr) 9 #[true, true, true, true, true, true, true, true, false, true, true, true, true, true, true, true, true, true, false, false, false, false, false, false, false, false] (fun s_ => [(40, s_.1), (49, s_.2.2.1), (53, .int .i64 (rd y269 (ji47))), (43, .pointer (some (s_.2.1.add ((ji44)).toNat))), (52, .pointer (some (s_.2.2.2.add ((ji47)).toNat)))]) (fun s_ w' => (w'.cell? ⟨gb260, 0, none⟩ = some (.int .i64 a0_0) ∧ w'.cell? ⟨gb260, 1, none⟩ = some (.int .i64 a0_1) ∧ w'.cell? ⟨gb261, 0, none⟩ = some (.int .i64 a1_0) ∧ w'.cell? ⟨gb261, 1, none⟩ = some (.int .i64 a1_1)) ∧ (Kd.R (Kd.int .i64) 3 w' w.heap.size (fun k_ => some k_ ≠ (s_.2.2.1 : Value).ownBlock) s_.1 y265) ∧ (Kd.R (Kd.int .i64) 3 w' w.heap.size (fun k_ => some k_ ≠ (s_.1 : Value).ownBlock) s_.2.2.1 y269) ∧ (∃ c_, (s_.1 : Value) = .slice (some s_.2.1) y265.length c_) ∧ (∃ c_, (s_.2.2.1 : Value) = .slice (some s_.2.2.2) y269.length c_) ∧ (w'.heap[gb260]? = some (.cells #[.int .i64 a0_0, .int .i64 a0_1] 23 (0, 0))) ∧ (w'.heap[gb261]? = some (.cells #[.int .i64 a1_0, .int .i64 a1_1] 23 (0, 0))) ∧ (w'.heap[gb262]? = some (.cells #[.int .i64 x263000_2, .int .i64 x263001_2] 23 (0, 0))) ∧ (Below w.heap.size w w')) ?_ ?_
              rotate_left
              ·intro hJ4_13_17
               refine join_ (σ := Value × Addr) 11 #[true, true, true, true, true, true, true, true, true, true, true, true, true, false, true, true, false, false, false, false, false, false, false, false, false, false] (fun s_ => [(40, s_.1), (44, .int .i64 (rd y265 (ji44))), (43, .pointer (some (s_.2.add ((ji44)).toNat)))]) (fun s_ w' => (w'.cell? ⟨gb260, 0, none⟩ = some (.int .i64 a0_0) ∧ w'.cell? ⟨gb260, 1, none⟩ = some (.int .i64 a0_1) ∧ w'.cell? ⟨gb261, 0, none⟩ = some (.int .i64 a1_0) ∧ w'.cell? ⟨gb261, 1, none⟩ = some (.int .i64 a1_1)) ∧ (Kd.R (Kd.int .i64) 3 w' w.heap.size (fun _ => True) s_.1 y265) ∧ (∃ c_, (s_.1 : Value) = .slice (some s_.2) y265.length c_) ∧ (w'.heap[gb260]? = some (.cells #[.int .i64 a0_0, .int .i64 a0_1] 23 (0, 0))) ∧ (w'.heap[gb261]? = some (.cells #[.int .i64 a1_0, .int .i64 a1_1] 23 (0, 0))) ∧ (w'.heap[gb262]? = some (.cells #[.int .i64 x263000_2, .int .i64 x263001_2] 23 (0, 0))) ∧ (Below w.heap.size w w')) ?_ ?_
               rotate_left
               ·intro hJ4_8
                refine join_ (σ := Value × Addr × Value × Addr) 10 #[true, true, true, true, true, true, true, true, false, true, true, true, true, true, true, true, true, false, false, false, false, false, false, false, false, false] (fun s_ => [(40, s_.1), (49, s_.2.2.1), (43, .pointer (some (s_.2.1.add ((ji44)).toNat))), (52, .pointer (some (s_.2.2.2.add ((ji47)).toNat)))]) (fun s_ w' => (w'.cell? ⟨gb260, 0, none⟩ = some (.int .i64 a0_0) ∧ w'.cell? ⟨gb260, 1, none⟩ = some (.int .i64 a0_1) ∧ w'.cell? ⟨gb261, 0, none⟩ = some (.int .i64 a1_0) ∧ w'.cell? ⟨gb261, 1, none⟩ = some (.int .i64 a1_1)) ∧ (Kd.R (Kd.int .i64) 3 w' w.heap.size (fun k_ => some k_ ≠ (s_.2.2.1 : Value).ownBlock) s_.1 y265) ∧ (Kd.R (Kd.int .i64) 3 w' w.heap.size (fun k_ => some k_ ≠ (s_.1 : Value).ownBlock) s_.2.2.1 y269) ∧ (∃ c_, (s_.1 : Value) = .slice (some s_.2.1) y265.length c_) ∧ (∃ c_, (s_.2.2.1 : Value) = .slice (some s_.2.2.2) y269.length c_) ∧ (w'.heap[gb260]? = some (.cells #[.int .i64 a0_0, .int .i64 a0_1] 23 (0, 0))) ∧ (w'.heap[gb261]? = some (.cells #[.int .i64 a1_0, .int .i64 a1_1] 23 (0, 0))) ∧ (w'.heap[gb262]? = some (.cells #[.int .i64 x263000_2, .int .i64 x263001_2] 23 (0, 0))) ∧ (Below w.heap.size w w')) ?_ ?_
                rotate_left
                ·intro hJ4_13
                 refine join_ (σ := Value × Addr) 11 #[true, true, true, true, false, true, true, false, false, true, true, true, true, true, true, true, true, true, false, false, false, false, false, false, false, false] (fun s_ => [(49, s_.1), (53, .int .i64 (rd y269 (ji47))), (52, .pointer (some (s_.2.add ((ji47)).toNat)))]) (fun s_ w' => (w'.cell? ⟨gb260, 0, none⟩ = some (.int .i64 a0_0) ∧ w'.cell? ⟨gb260, 1, none⟩ = some (.int .i64 a0_1) ∧ w'.cell? ⟨gb261, 0, none⟩ = some (.int .i64 a1_0) ∧ w'.cell? ⟨gb261, 1, none⟩ = some (.int .i64 a1_1)) ∧ (Kd.R (Kd.int .i64) 3 w' w.heap.size (fun _ => True) s_.1 y269) ∧ (∃ c_, (s_.1 : Value) = .slice (some s_.2) y269.length c_) ∧ (w'.heap[gb260]? = some (.cells #[.int .i64 a0_0, .int .i64 a0_1] 23 (0, 0))) ∧ (w'.heap[gb261]? = some (.cells #[.int .i64 a1_0, .int .i64 a1_1] 23 (0, 0))) ∧ (w'.heap[gb262]? = some (.cells #[.int .i64 x263000_2, .int .i64 x263001_2] 23 (0, 0))) ∧ (Below w.heap.size w w')) ?_ ?_
                 rotate_left
                 ·intro hJ13_17
                  refine join_ (σ := Value × Addr) 12 #[true, true, true, true, true, true, true, true, false, true, true, true, true, false, true, true, false, false, false, false, false, false, false, false, false, false] (fun s_ => [(40, s_.1), (43, .pointer (some (s_.2.add ((ji44)).toNat)))]) (fun s_ w' => (w'.cell? ⟨gb260, 0, none⟩ = some (.int .i64 a0_0) ∧ w'.cell? ⟨gb260, 1, none⟩ = some (.int .i64 a0_1) ∧ w'.cell? ⟨gb261, 0, none⟩ = some (.int .i64 a1_0) ∧ w'.cell? ⟨gb261, 1, none⟩ = some (.int .i64 a1_1)) ∧ (Kd.R (Kd.int .i64) 3 w' w.heap.size (fun _ => True) s_.1 y265) ∧ (∃ c_, (s_.1 : Value) = .slice (some s_.2) y265.length c_) ∧ (w'.heap[gb260]? = some (.cells #[.int .i64 a0_0, .int .i64 a0_1] 23 (0, 0))) ∧ (w'.heap[gb261]? = some (.cells #[.int .i64 a1_0, .int .i64 a1_1] 23 (0, 0))) ∧ (w'.heap[gb262]? = some (.cells #[.int .i64 x263000_2, .int .i64 x263001_2] 23 (0, 0))) ∧ (Below w.heap.size w w')) ?_ ?_
                  rotate_left
                  ·intro hJ4
                   refine join_ (σ := Value × Addr) 12 #[true, true, true, true, false, true, true, false, false, true, true, true, true, true, true, true, true, false, false, false, false, false, false, false, false, false] (fun s_ => [(49, s_.1), (52, .pointer (some (s_.2.add ((ji47)).toNat)))]) (fun s_ w' => (w'.cell? ⟨gb260, 0, none⟩ = some (.int .i64 a0_0) ∧ w'.cell? ⟨gb260, 1, none⟩ = some (.int .i64 a0_1) ∧ w'.cell? ⟨gb261, 0, none⟩ = some (.int .i64 a1_0) ∧ w'.cell? ⟨gb261, 1, none⟩ = some (.int .i64 a1_1)) ∧ (Kd.R (Kd.int .i64) 3 w' w.heap.size (fun _ => True) s_.1 y269) ∧ (∃ c_, (s_.1 : Value) = .slice (some s_.2) y269.length c_) ∧ (w'.heap[gb260]? = some (.cells #[.int .i64 a0_0, .int .i64 a0_1] 23 (0, 0))) ∧ (w'.heap[gb261]? = some (.cells #[.int .i64 a1_0, .int .i64 a1_1] 23 (0, 0))) ∧ (w'.heap[gb262]? = some (.cells #[.int .i64 x263000_2, .int .i64 x263001_2] 23 (0, 0))) ∧ (Below w.heap.size w w')) ?_ ?_
                   rotate_left
                   ·intro hJ13
                    refine two_ (i := 4) (j := 13) (Ni := some 40) (Nj := some 49) #[true, true, true, true, true, true, true, false, false, true, true, true, true, false, true, true, false, false, false, false, false, false, false, false, false, false] #[true, true, true, true, false, true, true, false, false, true, true, true, true, true, true, true, false, false, false, false, false, false, false, false, false, false] rfl rfl rfl rfl (two_of HT_.out (by kernel_rfl)) (by decide) (by decide) (fun K hK => ?_) (fun K hK => ?_)
                    ·skip
                     refine Kd.R_lit_step (Kd.int .i64) _ 3 ?hg (N := 40) ?hd (xs := ([a0_0, a0_1] : List Int)) (inner := [.int .i64 a0_0, .int .i64 a0_1]) (ok := fun _ => True) (okp := fun _ => True) ?hr ?hp (fun _ hk => hk) trivial (Below.refl _ _) (Nat.le_refl _) (by simp) ?_; (case hd => rfl); (case hg => rfl); (case hr => go_simp); (case hp => exact (Reps.one (show Kd.M (Kd.int .i64) _ _ _ a0_0 [.int .i64 a0_0] from rfl) (Reps.one (show Kd.M (Kd.int .i64) _ _ _ a0_1 [.int .i64 a0_1] from rfl) (Reps.none _ _))))
                     intro v266 w55 ho56 hb hg_ hnew_
                     clear hg_ hnew_
                     (first | rw [← Ny265.out] at ho56 | (simp only [Int.reduceToNat] at ho56; rw [← Ny265.out] at ho56))
                     have n0_ := Aside0.mk (Kd.R_lower ho56 (below_size (by repeat first | exact HB.out | refine below_set ?_ GE260.out | refine below_set ?_ GE261.out | refine below_set ?_ GE262.out)))
                     have n1_ := Aside0.mk (blk_below (g := gb260) (o := .cells #[.int .i64 a0_0, .int .i64 a0_1] 23 (0, 0)) BK260.out hb)
                     have n2_ := Aside0.mk (blk_below (g := gb261) (o := .cells #[.int .i64 a1_0, .int .i64 a1_1] 23 (0, 0)) BK261.out hb)
                     have n3_ := Aside0.mk (blk_below (g := gb262) (o := .cells #[.int .i64 x263000_2, .int .i64 x263001_2] 23 (0, 0)) BK262.out hb)
                     have n4_ := Aside0.mk (below_step (by repeat first | exact HB.out | refine below_set ?_ GE260.out | refine below_set ?_ GE261.out | refine below_set ?_ GE262.out) hb)
                     clear BK260
                     clear BK261
                     clear BK262
                     clear HB
                     have HO267 := n0_
                     have BK260 := n1_
                     have BK261 := n2_
                     have BK262 := n3_
                     have HB := n4_
                     clear n0_ n1_ n2_ n3_ n4_
                     clear hb ho56
                     obtain ⟨Ao57, co57, eo57⟩ := Kd.R_slice HO267.out
                     subst eo57
                     obtain ⟨ado57, fo57, _⟩ := Kd.at_int (Kd.R_reads' HO267.out).2.2 0 (by decide) (by rw [Ny265.out]; simp)
                     cases fo57
                     refine hK.out _ _ ⟨(blk_cell BK260.out 0).trans rfl, (blk_cell BK260.out 1).trans rfl, (blk_cell BK261.out 0).trans rfl, (blk_cell BK261.out 1).trans rfl⟩ (fun hHeld => ?_)
                     clear hK K
                     refine norm_ (a' := ?_) ?_ ?_
                     rotate_left
                     ·show Act.put _ (some 40) _ = _
                      simp only [Act.put, List.setIfInBounds_toArray, List.set_cons_zero, List.set_cons_succ, i64_w, i32_w]
                      rfl
                     refine pure_ (i := 7) (N := some 43) (v := ?_) (a' := ?_) #[true, true, true, true, true, true, true, true, false, true, true, true, true, false, true, true, false, false, false, false, false, false, false, false, false, false] rfl rfl (any_of HT_.out (by kernel_rfl)) (fun _ _ _ h => h) (Or.inl ⟨by rfl, ?_⟩) ?_ ?_
                     rotate_left
                     ·intro w'
                      go_simp
                      with_reducible rfl
                     rotate_left
                     ·simp only [Act.put, List.setIfInBounds_toArray, List.set_cons_zero, List.set_cons_succ, i64_w, i32_w]
                      rfl
                     exact norm_ (by first | (simp only [putAll, Act.put, List.setIfInBounds_toArray, List.set_cons_zero, List.set_cons_succ]; done) | (simp only [putAll, Act.put, List.setIfInBounds_toArray, List.set_cons_zero, List.set_cons_succ]; rfl)) (hJ4 (.slice (some ado57) y265.length co57, ado57) _ ⟨hHeld, HO267.out, ⟨_, rfl⟩, BK260.out, BK261.out, BK262.out, (by repeat first | exact HB.out | refine below_set ?_ GE260.out | refine below_set ?_ GE261.out | refine below_set ?_ GE262.out)⟩)
                    ·skip
                     refine Kd.R_lit_step (Kd.int .i64) _ 3 ?hg (N := 49) ?hd (xs := ([a1_0, a1_1] : List Int)) (inner := [.int .i64 a1_0, .int .i64 a1_1]) (ok := fun _ => True) (okp := fun _ => True) ?hr ?hp (fun _ hk => hk) trivial (Below.refl _ _) (Nat.le_refl _) (by simp) ?_; (case hd => rfl); (case hg => rfl); (case hr => go_simp); (case hp => exact (Reps.one (show Kd.M (Kd.int .i64) _ _ _ a1_0 [.int .i64 a1_0] from rfl) (Reps.one (show Kd.M (Kd.int .i64) _ _ _ a1_1 [.int .i64 a1_1] from rfl) (Reps.none _ _))))
                     intro v270 w55 ho56 hb hg_ hnew_
                     clear hg_ hnew_
                     (first | rw [← Ny269.out] at ho56 | (simp only [Int.reduceToNat] at ho56; rw [← Ny269.out] at ho56))
                     have n0_ := Aside0.mk (Kd.R_lower ho56 (below_size (by repeat first | exact HB.out | refine below_set ?_ GE260.out | refine below_set ?_ GE261.out | refine below_set ?_ GE262.out)))
                     have n1_ := Aside0.mk (blk_below (g := gb260) (o := .cells #[.int .i64 a0_0, .int .i64 a0_1] 23 (0, 0)) BK260.out hb)
                     have n2_ := Aside0.mk (blk_below (g := gb261) (o := .cells #[.int .i64 a1_0, .int .i64 a1_1] 23 (0, 0)) BK261.out hb)
                     have n3_ := Aside0.mk (blk_below (g := gb262) (o := .cells #[.int .i64 x263000_2, .int .i64 x263001_2] 23 (0, 0)) BK262.out hb)
                     have n4_ := Aside0.mk (below_step (by repeat first | exact HB.out | refine below_set ?_ GE260.out | refine below_set ?_ GE261.out | refine below_set ?_ GE262.out) hb)
                     clear BK260
                     clear BK261
                     clear BK262
                     clear HB
                     have HO271 := n0_
                     have BK260 := n1_
                     have BK261 := n2_
                     have BK262 := n3_
                     have HB := n4_
                     clear n0_ n1_ n2_ n3_ n4_
                     clear hb ho56
                     obtain ⟨Ao57, co57, eo57⟩ := Kd.R_slice HO271.out
                     subst eo57
                     obtain ⟨ado57, fo57, _⟩ := Kd.at_int (Kd.R_reads' HO271.out).2.2 0 (by decide) (by rw [Ny269.out]; simp)
                     cases fo57
                     refine hK.out _ _ ⟨(blk_cell BK260.out 0).trans rfl, (blk_cell BK260.out 1).trans rfl, (blk_cell BK261.out 0).trans rfl, (blk_cell BK261.out 1).trans rfl⟩ (fun hHeld => ?_)
                     clear hK K
                     refine norm_ (a' := ?_) ?_ ?_
                     rotate_left
                     ·show Act.put _ (some 49) _ = _
                      simp only [Act.put, List.setIfInBounds_toArray, List.set_cons_zero, List.set_cons_succ, i64_w, i32_w]
                      rfl
                     refine pure_ (i := 16) (N := some 52) (v := ?_) (a' := ?_) #[true, true, true, true, false, true, true, false, false, true, true, true, true, true, true, true, true, false, false, false, false, false, false, false, false, false] rfl rfl (any_of HT_.out (by kernel_rfl)) (fun _ _ _ h => h) (Or.inl ⟨by rfl, ?_⟩) ?_ ?_
                     rotate_left
                     ·intro w'
                      go_simp
                      with_reducible rfl
                     rotate_left
                     ·simp only [Act.put, List.setIfInBounds_toArray, List.set_cons_zero, List.set_cons_succ, i64_w, i32_w]
                      rfl
                     exact norm_ (by first | (simp only [putAll, Act.put, List.setIfInBounds_toArray, List.set_cons_zero, List.set_cons_succ]; done) | (simp only [putAll, Act.put, List.setIfInBounds_toArray, List.set_cons_zero, List.set_cons_succ]; rfl)) (hJ13 (.slice (some ado57) y269.length co57, ado57) _ ⟨hHeld, HO271.out, ⟨_, rfl⟩, BK260.out, BK261.out, BK262.out, (by repeat first | exact HB.out | refine below_set ?_ GE260.out | refine below_set ?_ GE261.out | refine below_set ?_ GE262.out)⟩)
                   ·skip
                    rintro ⟨v270, adz_v270⟩ w58 ⟨hS_, h0_, h1_, h2_, h3_, h4_, h5_⟩
                    have n0_ : Aside0 (Kd.R (Kd.int .i64) 3 w58 w.heap.size (fun _ => True) v270 y269) := ⟨h0_⟩
                    have n1_ : Aside0 (∃ c_, (v270 : Value) = .slice (some adz_v270) y269.length c_) := ⟨h1_⟩
                    have n2_ : Aside0 (w58.heap[gb260]? = some (.cells #[.int .i64 a0_0, .int .i64 a0_1] 23 (0, 0))) := ⟨h2_⟩
                    have n3_ : Aside0 (w58.heap[gb261]? = some (.cells #[.int .i64 a1_0, .int .i64 a1_1] 23 (0, 0))) := ⟨h3_⟩
                    have n4_ : Aside0 (w58.heap[gb262]? = some (.cells #[.int .i64 x263000_2, .int .i64 x263001_2] 23 (0, 0))) := ⟨h4_⟩
                    have n5_ : Aside0 (Below w.heap.size w w58) := ⟨h5_⟩
                    clear BK260
                    clear BK261
                    clear BK262
                    clear HB
                    clear h0_ h1_ h2_ h3_ h4_ h5_
                    have HO271 := n0_
                    have HA_HO271 := n1_
                    have BK260 := n2_
                    have BK261 := n3_
                    have BK262 := n4_
                    have HB := n5_
                    clear n0_ n1_ n2_ n3_ n4_ n5_
                    have hHeld : w58.cell? ⟨gb260, 0, none⟩ = some (.int .i64 a0_0) ∧ w58.cell? ⟨gb260, 1, none⟩ = some (.int .i64 a0_1) ∧ w58.cell? ⟨gb261, 0, none⟩ = some (.int .i64 a1_0) ∧ w58.cell? ⟨gb261, 1, none⟩ = some (.int .i64 a1_1) := hS_
                    obtain ⟨co59, eo59⟩ := HA_HO271.out
                    clear HA_HO271
                    subst eo59
                    refine norm_ (a' := ?_) ?_ ?_
                    rotate_left
                    ·simp only [putAll, Act.put, List.setIfInBounds_toArray, List.set_cons_zero, List.set_cons_succ]
                     rfl
                    refine two_ (i := 4) (j := 17) (Ni := some 40) (Nj := some 53) #[true, true, true, true, true, true, true, false, false, true, true, true, true, true, true, true, true, false, false, false, false, false, false, false, false, false] #[true, true, true, true, false, true, true, false, false, true, true, true, true, true, true, true, true, true, false, false, false, false, false, false, false, false] rfl rfl rfl rfl (two_of HT_.out (by kernel_rfl)) (by decide) (by decide) (fun K hK => ?_) (fun K hK => ?_)
                    ·skip
                     refine Kd.R_lit_step (Kd.int .i64) _ 3 ?hg (N := 40) ?hd (xs := ([a0_0, a0_1] : List Int)) (inner := [.int .i64 a0_0, .int .i64 a0_1]) (ok := fun _ => True) (okp := fun _ => True) ?hr ?hp (fun _ hk => hk) trivial (Below.refl _ _) (Nat.le_refl _) (by simp) ?_; (case hd => rfl); (case hg => rfl); (case hr => go_simp); (case hp => exact (Reps.one (show Kd.M (Kd.int .i64) _ _ _ a0_0 [.int .i64 a0_0] from rfl) (Reps.one (show Kd.M (Kd.int .i64) _ _ _ a0_1 [.int .i64 a0_1] from rfl) (Reps.none _ _))))
                     intro v266 w60 ho61 hb hg_ hnew_
                     clear hg_ hnew_
                     (first | rw [← Ny265.out] at ho61 | (simp only [Int.reduceToNat] at ho61; rw [← Ny265.out] at ho61))
                     have n0_ := Aside0.mk (Kd.R_elder' HO271.out (Kd.R_base ho61) hb)
                     have n1_ := Aside0.mk (Kd.R_lower (Kd.R_new' ho61 (Kd.R_lt HO271.out)) (below_size (by repeat first | exact HB.out | refine below_set ?_ GE260.out | refine below_set ?_ GE261.out | refine below_set ?_ GE262.out)))
                     have n2_ := Aside0.mk (blk_below (g := gb260) (o := .cells #[.int .i64 a0_0, .int .i64 a0_1] 23 (0, 0)) BK260.out hb)
                     have n3_ := Aside0.mk (blk_below (g := gb261) (o := .cells #[.int .i64 a1_0, .int .i64 a1_1] 23 (0, 0)) BK261.out hb)
                     have n4_ := Aside0.mk (blk_below (g := gb262) (o := .cells #[.int .i64 x263000_2, .int .i64 x263001_2] 23 (0, 0)) BK262.out hb)
                     have n5_ := Aside0.mk (below_step (by repeat first | exact HB.out | refine below_set ?_ GE260.out | refine below_set ?_ GE261.out | refine below_set ?_ GE262.out) hb)
                     clear HO271
                     clear BK260
                     clear BK261
                     clear BK262
                     clear HB
                     have HO271 := n0_
                     have HO267 := n1_
                     have BK260 := n2_
                     have BK261 := n3_
                     have BK262 := n4_
                     have HB := n5_
                     clear n0_ n1_ n2_ n3_ n4_ n5_
                     clear hb ho61
                     obtain ⟨Ao62, co62, eo62⟩ := Kd.R_slice HO267.out
                     subst eo62
                     obtain ⟨ado62, fo62, _⟩ := Kd.at_int (Kd.R_reads' HO267.out).2.2 0 (by decide) (by rw [Ny265.out]; simp)
                     cases fo62
                     refine hK.out _ _ ⟨(blk_cell BK260.out 0).trans rfl, (blk_cell BK260.out 1).trans rfl, (blk_cell BK261.out 0).trans rfl, (blk_cell BK261.out 1).trans rfl⟩ (fun hHeld => ?_)
                     clear hK K
                     refine norm_ (a' := ?_) ?_ ?_
                     rotate_left
                     ·show Act.put _ (some 40) _ = _
                      simp only [Act.put, List.setIfInBounds_toArray, List.set_cons_zero, List.set_cons_succ, i64_w, i32_w]
                      rfl
                     refine pure_ (i := 7) (N := some 43) (v := ?_) (a' := ?_) #[true, true, true, true, true, true, true, true, false, true, true, true, true, true, true, true, true, false, false, false, false, false, false, false, false, false] rfl rfl (any_of HT_.out (by kernel_rfl)) (fun _ _ _ h => h) (Or.inl ⟨by rfl, ?_⟩) ?_ ?_
                     rotate_left
                     ·intro w'
                      go_simp
                      with_reducible rfl
                     rotate_left
                     ·simp only [Act.put, List.setIfInBounds_toArray, List.set_cons_zero, List.set_cons_succ, i64_w, i32_w]
                      rfl
                     exact norm_ (by first | (simp only [putAll, Act.put, List.setIfInBounds_toArray, List.set_cons_zero, List.set_cons_succ]; done) | (simp only [putAll, Act.put, List.setIfInBounds_toArray, List.set_cons_zero, List.set_cons_succ]; rfl)) (hJ4_13 (.slice (some ado62) y265.length co62, ado62, .slice (some adz_v270) y269.length co59, adz_v270) _ ⟨hHeld, (by (with_reducible repeat (first | apply Kd.R_alloc | apply Kd.R_drewN | apply Kd.R_drew)); exact Kd.R_mono HO267.out (fun _ hk => hk.2)), (by (with_reducible repeat (first | apply Kd.R_alloc | apply Kd.R_drewN | apply Kd.R_drew)); exact Kd.R_mono HO271.out (fun _ hk => hk.2)), ⟨_, rfl⟩, ⟨_, rfl⟩, BK260.out, BK261.out, BK262.out, (by repeat first | exact HB.out | refine below_set ?_ GE260.out | refine below_set ?_ GE261.out | refine below_set ?_ GE262.out)⟩)
                    ·skip
                     (have p272 : 0 ≤ ((ji47) : Int) := of_decide_eq_true (by assumption); have q272 : (ji47) < (y269.length : Int) := of_decide_eq_true (by assumption); obtain ⟨ad272, e272, hx272_0⟩ := Kd.at_int (Kd.R_reads' HO271.out).2.2 (ji47) p272 q272; obtain rfl : adz_v270 = ad272 := (by injection e272))
                     refine value_ (w1 := ?_) (v := ?_) (by rfl) rfl ?_ ?_
                     rotate_left 2
                     ·go_simp
                      constructor
                      ·rfl
                      ·rfl
                     clear hx272_0
                     refine hK.out _ _ ⟨(blk_cell BK260.out 0).trans rfl, (blk_cell BK260.out 1).trans rfl, (blk_cell BK261.out 0).trans rfl, (blk_cell BK261.out 1).trans rfl⟩ (fun hHeld => ?_)
                     clear hK K
                     refine norm_ (a' := ?_) ?_ ?_
                     rotate_left
                     ·show Act.put _ (some 53) _ = _
                      simp only [Act.put, List.setIfInBounds_toArray, List.set_cons_zero, List.set_cons_succ, i64_w, i32_w]
                      rfl
                     exact norm_ (by first | (simp only [putAll, Act.put, List.setIfInBounds_toArray, List.set_cons_zero, List.set_cons_succ]; done) | (simp only [putAll, Act.put, List.setIfInBounds_toArray, List.set_cons_zero, List.set_cons_succ]; rfl)) (hJ13_17 (.slice (some adz_v270) y269.length co59, adz_v270) _ ⟨hHeld, HO271.out, ⟨_, rfl⟩, BK260.out, BK261.out, BK262.out, (by repeat first | exact HB.out | refine below_set ?_ GE260.out | refine below_set ?_ GE261.out | refine below_set ?_ GE262.out)⟩)
                  ·skip
                   rintro ⟨v266, adz_v266⟩ w58 ⟨hS_, h0_, h1_, h2_, h3_, h4_, h5_⟩
                   have n0_ : Aside0 (Kd.R (Kd.int .i64) 3 w58 w.heap.size (fun _ => True) v266 y265) := ⟨h0_⟩
                   have n1_ : Aside0 (∃ c_, (v266 : Value) = .slice (some adz_v266) y265.length c_) := ⟨h1_⟩
                   have n2_ : Aside0 (w58.heap[gb260]? = some (.cells #[.int .i64 a0_0, .int .i64 a0_1] 23 (0, 0))) := ⟨h2_⟩
                   have n3_ : Aside0 (w58.heap[gb261]? = some (.cells #[.int .i64 a1_0, .int .i64 a1_1] 23 (0, 0))) := ⟨h3_⟩
                   have n4_ : Aside0 (w58.heap[gb262]? = some (.cells #[.int .i64 x263000_2, .int .i64 x263001_2] 23 (0, 0))) := ⟨h4_⟩
                   have n5_ : Aside0 (Below w.heap.size w w58) := ⟨h5_⟩
                   clear BK260
                   clear BK261
                   clear BK262
                   clear HB
                   clear h0_ h1_ h2_ h3_ h4_ h5_
                   have HO267 := n0_
                   have HA_HO267 := n1_
                   have BK260 := n2_
                   have BK261 := n3_
                   have BK262 := n4_
                   have HB := n5_
                   clear n0_ n1_ n2_ n3_ n4_ n5_
                   have hHeld : w58.cell? ⟨gb260, 0, none⟩ = some (.int .i64 a0_0) ∧ w58.cell? ⟨gb260, 1, none⟩ = some (.int .i64 a0_1) ∧ w58.cell? ⟨gb261, 0, none⟩ = some (.int .i64 a1_0) ∧ w58.cell? ⟨gb261, 1, none⟩ = some (.int .i64 a1_1) := hS_
                   obtain ⟨co59, eo59⟩ := HA_HO267.out
                   clear HA_HO267
                   subst eo59
                   refine norm_ (a' := ?_) ?_ ?_
                   rotate_left
                   ·simp only [putAll, Act.put, List.setIfInBounds_toArray, List.set_cons_zero, List.set_cons_succ]
                    rfl
                   refine two_ (i := 8) (j := 13) (Ni := some 44) (Nj := some 49) #[true, true, true, true, true, true, true, true, true, true, true, true, true, false, true, true, false, false, false, false, false, false, false, false, false, false] #[true, true, true, true, true, true, true, true, false, true, true, true, true, true, true, true, false, false, false, false, false, false, false, false, false, false] rfl rfl rfl rfl (two_of HT_.out (by kernel_rfl)) (by decide) (by decide) (fun K hK => ?_) (fun K hK => ?_)
                   ·skip
                    (have p268 : 0 ≤ ((ji44) : Int) := of_decide_eq_true (by assumption); have q268 : (ji44) < (y265.length : Int) := of_decide_eq_true (by assumption); obtain ⟨ad268, e268, hx268_0⟩ := Kd.at_int (Kd.R_reads' HO267.out).2.2 (ji44) p268 q268; obtain rfl : adz_v266 = ad268 := (by injection e268))
                    refine value_ (w1 := ?_) (v := ?_) (by rfl) rfl ?_ ?_
                    rotate_left 2
                    ·go_simp
                     constructor
                     ·rfl
                     ·rfl
                    clear hx268_0
                    refine hK.out _ _ ⟨(blk_cell BK260.out 0).trans rfl, (blk_cell BK260.out 1).trans rfl, (blk_cell BK261.out 0).trans rfl, (blk_cell BK261.out 1).trans rfl⟩ (fun hHeld => ?_)
                    clear hK K
                    refine norm_ (a' := ?_) ?_ ?_
                    rotate_left
                    ·show Act.put _ (some 44) _ = _
                     simp only [Act.put, List.setIfInBounds_toArray, List.set_cons_zero, List.set_cons_succ, i64_w, i32_w]
                     rfl
                    exact norm_ (by first | (simp only [putAll, Act.put, List.setIfInBounds_toArray, List.set_cons_zero, List.set_cons_succ]; done) | (simp only [putAll, Act.put, List.setIfInBounds_toArray, List.set_cons_zero, List.set_cons_succ]; rfl)) (hJ4_8 (.slice (some adz_v266) y265.length co59, adz_v266) _ ⟨hHeld, HO267.out, ⟨_, rfl⟩, BK260.out, BK261.out, BK262.out, (by repeat first | exact HB.out | refine below_set ?_ GE260.out | refine below_set ?_ GE261.out | refine below_set ?_ GE262.out)⟩)
                   ·skip
                    refine Kd.R_lit_step (Kd.int .i64) _ 3 ?hg (N := 49) ?hd (xs := ([a1_0, a1_1] : List Int)) (inner := [.int .i64 a1_0, .int .i64 a1_1]) (ok := fun _ => True) (okp := fun _ => True) ?hr ?hp (fun _ hk => hk) trivial (Below.refl _ _) (Nat.le_refl _) (by simp) ?_; (case hd => rfl); (case hg => rfl); (case hr => go_simp); (case hp => exact (Reps.one (show Kd.M (Kd.int .i64) _ _ _ a1_0 [.int .i64 a1_0] from rfl) (Reps.one (show Kd.M (Kd.int .i64) _ _ _ a1_1 [.int .i64 a1_1] from rfl) (Reps.none _ _))))
                    intro v270 w60 ho61 hb hg_ hnew_
                    clear hg_ hnew_
                    (first | rw [← Ny269.out] at ho61 | (simp only [Int.reduceToNat] at ho61; rw [← Ny269.out] at ho61))
                    have n0_ := Aside0.mk (Kd.R_elder' HO267.out (Kd.R_base ho61) hb)
                    have n1_ := Aside0.mk (Kd.R_lower (Kd.R_new' ho61 (Kd.R_lt HO267.out)) (below_size (by repeat first | exact HB.out | refine below_set ?_ GE260.out | refine below_set ?_ GE261.out | refine below_set ?_ GE262.out)))
                    have n2_ := Aside0.mk (blk_below (g := gb260) (o := .cells #[.int .i64 a0_0, .int .i64 a0_1] 23 (0, 0)) BK260.out hb)
                    have n3_ := Aside0.mk (blk_below (g := gb261) (o := .cells #[.int .i64 a1_0, .int .i64 a1_1] 23 (0, 0)) BK261.out hb)
                    have n4_ := Aside0.mk (blk_below (g := gb262) (o := .cells #[.int .i64 x263000_2, .int .i64 x263001_2] 23 (0, 0)) BK262.out hb)
                    have n5_ := Aside0.mk (below_step (by repeat first | exact HB.out | refine below_set ?_ GE260.out | refine below_set ?_ GE261.out | refine below_set ?_ GE262.out) hb)
                    clear HO267
                    clear BK260
                    clear BK261
                    clear BK262
                    clear HB
                    have HO267 := n0_
                    have HO271 := n1_
                    have BK260 := n2_
                    have BK261 := n3_
                    have BK262 := n4_
                    have HB := n5_
                    clear n0_ n1_ n2_ n3_ n4_ n5_
                    clear hb ho61
                    obtain ⟨Ao62, co62, eo62⟩ := Kd.R_slice HO271.out
                    subst eo62
                    obtain ⟨ado62, fo62, _⟩ := Kd.at_int (Kd.R_reads' HO271.out).2.2 0 (by decide) (by rw [Ny269.out]; simp)
                    cases fo62
                    refine hK.out _ _ ⟨(blk_cell BK260.out 0).trans rfl, (blk_cell BK260.out 1).trans rfl, (blk_cell BK261.out 0).trans rfl, (blk_cell BK261.out 1).trans rfl⟩ (fun hHeld => ?_)
                    clear hK K
                    refine norm_ (a' := ?_) ?_ ?_
                    rotate_left
                    ·show Act.put _ (some 49) _ = _
                     simp only [Act.put, List.setIfInBounds_toArray, List.set_cons_zero, List.set_cons_succ, i64_w, i32_w]
                     rfl
                    refine pure_ (i := 16) (N := some 52) (v := ?_) (a' := ?_) #[true, true, true, true, true, true, true, true, false, true, true, true, true, true, true, true, true, false, false, false, false, false, false, false, false, false] rfl rfl (any_of HT_.out (by kernel_rfl)) (fun _ _ _ h => h) (Or.inl ⟨by rfl, ?_⟩) ?_ ?_
                    rotate_left
                    ·intro w'
                     go_simp
                     with_reducible rfl
                    rotate_left
                    ·simp only [Act.put, List.setIfInBounds_toArray, List.set_cons_zero, List.set_cons_succ, i64_w, i32_w]
                     rfl
                    exact norm_ (by first | (simp only [putAll, Act.put, List.setIfInBounds_toArray, List.set_cons_zero, List.set_cons_succ]; done) | (simp only [putAll, Act.put, List.setIfInBounds_toArray, List.set_cons_zero, List.set_cons_succ]; rfl)) (hJ4_13 (.slice (some adz_v266) y265.length co59, adz_v266, .slice (some ado62) y269.length co62, ado62) _ ⟨hHeld, (by (with_reducible repeat (first | apply Kd.R_alloc | apply Kd.R_drewN | apply Kd.R_drew)); exact Kd.R_mono HO267.out (fun _ hk => hk.2)), (by (with_reducible repeat (first | apply Kd.R_alloc | apply Kd.R_drewN | apply Kd.R_drew)); exact Kd.R_mono HO271.out (fun _ hk => hk.2)), ⟨_, rfl⟩, ⟨_, rfl⟩, BK260.out, BK261.out, BK262.out, (by repeat first | exact HB.out | refine below_set ?_ GE260.out | refine below_set ?_ GE261.out | refine below_set ?_ GE262.out)⟩)
                 ·skip
                  rintro ⟨v270, adz_v270⟩ w58 ⟨hS_, h0_, h1_, h2_, h3_, h4_, h5_⟩
                  have n0_ : Aside0 (Kd.R (Kd.int .i64) 3 w58 w.heap.size (fun _ => True) v270 y269) := ⟨h0_⟩
                  have n1_ : Aside0 (∃ c_, (v270 : Value) = .slice (some adz_v270) y269.length c_) := ⟨h1_⟩
                  have n2_ : Aside0 (w58.heap[gb260]? = some (.cells #[.int .i64 a0_0, .int .i64 a0_1] 23 (0, 0))) := ⟨h2_⟩
                  have n3_ : Aside0 (w58.heap[gb261]? = some (.cells #[.int .i64 a1_0, .int .i64 a1_1] 23 (0, 0))) := ⟨h3_⟩
                  have n4_ : Aside0 (w58.heap[gb262]? = some (.cells #[.int .i64 x263000_2, .int .i64 x263001_2] 23 (0, 0))) := ⟨h4_⟩
                  have n5_ : Aside0 (Below w.heap.size w w58) := ⟨h5_⟩
                  clear BK260
                  clear BK261
                  clear BK262
                  clear HB
                  clear h0_ h1_ h2_ h3_ h4_ h5_
                  have HO271 := n0_
                  have HA_HO271 := n1_
                  have BK260 := n2_
                  have BK261 := n3_
                  have BK262 := n4_
                  have HB := n5_
                  clear n0_ n1_ n2_ n3_ n4_ n5_
                  have hHeld : w58.cell? ⟨gb260, 0, none⟩ = some (.int .i64 a0_0) ∧ w58.cell? ⟨gb260, 1, none⟩ = some (.int .i64 a0_1) ∧ w58.cell? ⟨gb261, 0, none⟩ = some (.int .i64 a1_0) ∧ w58.cell? ⟨gb261, 1, none⟩ = some (.int .i64 a1_1) := hS_
                  obtain ⟨co59, eo59⟩ := HA_HO271.out
                  clear HA_HO271
                  subst eo59
                  refine norm_ (a' := ?_) ?_ ?_
                  rotate_left
                  ·simp only [putAll, Act.put, List.setIfInBounds_toArray, List.set_cons_zero, List.set_cons_succ]
                   rfl
                  refine one_ (i := 4) (N := some 40) #[true, true, true, true, true, true, true, false, false, true, true, true, true, true, true, true, true, true, false, false, false, false, false, false, false, false] rfl rfl (one_of HT_.out (by kernel_rfl)) (by decide) (fun K hK => ?_)
                  refine Kd.R_lit_step (Kd.int .i64) _ 3 ?hg (N := 40) ?hd (xs := ([a0_0, a0_1] : List Int)) (inner := [.int .i64 a0_0, .int .i64 a0_1]) (ok := fun _ => True) (okp := fun _ => True) ?hr ?hp (fun _ hk => hk) trivial (Below.refl _ _) (Nat.le_refl _) (by simp) ?_; (case hd => rfl); (case hg => rfl); (case hr => go_simp); (case hp => exact (Reps.one (show Kd.M (Kd.int .i64) _ _ _ a0_0 [.int .i64 a0_0] from rfl) (Reps.one (show Kd.M (Kd.int .i64) _ _ _ a0_1 [.int .i64 a0_1] from rfl) (Reps.none _ _))))
                  intro v266 w60 ho61 hb hg_ hnew_
                  clear hg_ hnew_
                  (first | rw [← Ny265.out] at ho61 | (simp only [Int.reduceToNat] at ho61; rw [← Ny265.out] at ho61))
                  have n0_ := Aside0.mk (Kd.R_elder' HO271.out (Kd.R_base ho61) hb)
                  have n1_ := Aside0.mk (Kd.R_lower (Kd.R_new' ho61 (Kd.R_lt HO271.out)) (below_size (by repeat first | exact HB.out | refine below_set ?_ GE260.out | refine below_set ?_ GE261.out | refine below_set ?_ GE262.out)))
                  have n2_ := Aside0.mk (blk_below (g := gb260) (o := .cells #[.int .i64 a0_0, .int .i64 a0_1] 23 (0, 0)) BK260.out hb)
                  have n3_ := Aside0.mk (blk_below (g := gb261) (o := .cells #[.int .i64 a1_0, .int .i64 a1_1] 23 (0, 0)) BK261.out hb)
                  have n4_ := Aside0.mk (blk_below (g := gb262) (o := .cells #[.int .i64 x263000_2, .int .i64 x263001_2] 23 (0, 0)) BK262.out hb)
                  have n5_ := Aside0.mk (below_step (by repeat first | exact HB.out | refine below_set ?_ GE260.out | refine below_set ?_ GE261.out | refine below_set ?_ GE262.out) hb)
                  clear HO271
                  clear BK260
                  clear BK261
                  clear BK262
                  clear HB
                  have HO271 := n0_
                  have HO267 := n1_
                  have BK260 := n2_
                  have BK261 := n3_
                  have BK262 := n4_
                  have HB := n5_
                  clear n0_ n1_ n2_ n3_ n4_ n5_
                  clear hb ho61
                  obtain ⟨Ao62, co62, eo62⟩ := Kd.R_slice HO267.out
                  subst eo62
                  obtain ⟨ado62, fo62, _⟩ := Kd.at_int (Kd.R_reads' HO267.out).2.2 0 (by decide) (by rw [Ny265.out]; simp)
                  cases fo62
                  refine hK.out _ _ ⟨(blk_cell BK260.out 0).trans rfl, (blk_cell BK260.out 1).trans rfl, (blk_cell BK261.out 0).trans rfl, (blk_cell BK261.out 1).trans rfl⟩ (fun hHeld => ?_)
                  clear hK K
                  refine norm_ (a' := ?_) ?_ ?_
                  rotate_left
                  ·show Act.put _ (some 40) _ = _
                   simp only [Act.put, List.setIfInBounds_toArray, List.set_cons_zero, List.set_cons_succ, i64_w, i32_w]
                   rfl
                  refine pure_ (i := 7) (N := some 43) (v := ?_) (a' := ?_) #[true, true, true, true, true, true, true, true, false, true, true, true, true, true, true, true, true, true, false, false, false, false, false, false, false, false] rfl rfl (any_of HT_.out (by kernel_rfl)) (fun _ _ _ h => h) (Or.inl ⟨by rfl, ?_⟩) ?_ ?_
                  rotate_left
                  ·intro w'
                   go_simp
                   with_reducible rfl
                  rotate_left
                  ·simp only [Act.put, List.setIfInBounds_toArray, List.set_cons_zero, List.set_cons_succ, i64_w, i32_w]
                   rfl
                  exact norm_ (by first | (simp only [putAll, Act.put, List.setIfInBounds_toArray, List.set_cons_zero, List.set_cons_succ]; done) | (simp only [putAll, Act.put, List.setIfInBounds_toArray, List.set_cons_zero, List.set_cons_succ]; rfl)) (hJ4_13_17 (.slice (some ado62) y265.length co62, ado62, .slice (some adz_v270) y269.length co59, adz_v270) _ ⟨hHeld, (by (with_reducible repeat (first | apply Kd.R_alloc | apply Kd.R_drewN | apply Kd.R_drew)); exact Kd.R_mono HO267.out (fun _ hk => hk.2)), (by (with_reducible repeat (first | apply Kd.R_alloc | apply Kd.R_drewN | apply Kd.R_drew)); exact Kd.R_mono HO271.out (fun _ hk => hk.2)), ⟨_, rfl⟩, ⟨_, rfl⟩, BK260.out, BK261.out, BK262.out, (by repeat first | exact HB.out | refine below_set ?_ GE260.out | refine below_set ?_ GE261.out | refine below_set ?_ GE262.out)⟩)
                ·skip
                 rintro ⟨v266, adz_v266, v270, adz_v270⟩ w61 ⟨hS_, h0_, h1_, h2_, h3_, h4_, h5_, h6_, h7_⟩
                 have n0_ : Aside0 (Kd.R (Kd.int .i64) 3 w61 w.heap.size (fun k_ => some k_ ≠ (v270 : Value).ownBlock) v266 y265) := ⟨h0_⟩
                 have n1_ : Aside0 (Kd.R (Kd.int .i64) 3 w61 w.heap.size (fun k_ => some k_ ≠ (v266 : Value).ownBlock) v270 y269) := ⟨h1_⟩
                 have n2_ : Aside0 (∃ c_, (v266 : Value) = .slice (some adz_v266) y265.length c_) := ⟨h2_⟩
                 have n3_ : Aside0 (∃ c_, (v270 : Value) = .slice (some adz_v270) y269.length c_) := ⟨h3_⟩
                 have n4_ : Aside0 (w61.heap[gb260]? = some (.cells #[.int .i64 a0_0, .int .i64 a0_1] 23 (0, 0))) := ⟨h4_⟩
                 have n5_ : Aside0 (w61.heap[gb261]? = some (.cells #[.int .i64 a1_0, .int .i64 a1_1] 23 (0, 0))) := ⟨h5_⟩
                 have n6_ : Aside0 (w61.heap[gb262]? = some (.cells #[.int .i64 x263000_2, .int .i64 x263001_2] 23 (0, 0))) := ⟨h6_⟩
                 have n7_ : Aside0 (Below w.heap.size w w61) := ⟨h7_⟩
                 clear BK260
                 clear BK261
                 clear BK262
                 clear HB
                 clear h0_ h1_ h2_ h3_ h4_ h5_ h6_ h7_
                 have HO267 := n0_
                 have HO271 := n1_
                 have HA_HO267 := n2_
                 have HA_HO271 := n3_
                 have BK260 := n4_
                 have BK261 := n5_
                 have BK262 := n6_
                 have HB := n7_
                 clear n0_ n1_ n2_ n3_ n4_ n5_ n6_ n7_
                 have hHeld : w61.cell? ⟨gb260, 0, none⟩ = some (.int .i64 a0_0) ∧ w61.cell? ⟨gb260, 1, none⟩ = some (.int .i64 a0_1) ∧ w61.cell? ⟨gb261, 0, none⟩ = some (.int .i64 a1_0) ∧ w61.cell? ⟨gb261, 1, none⟩ = some (.int .i64 a1_1) := hS_
                 obtain ⟨co62, eo62⟩ := HA_HO267.out
                 clear HA_HO267
                 subst eo62
                 obtain ⟨co63, eo63⟩ := HA_HO271.out
                 clear HA_HO271
                 subst eo63
                 refine norm_ (a' := ?_) ?_ ?_
                 rotate_left
                 ·simp only [putAll, Act.put, List.setIfInBounds_toArray, List.set_cons_zero, List.set_cons_succ]
                  rfl
                 refine two_ (i := 8) (j := 17) (Ni := some 44) (Nj := some 53) #[true, true, true, true, true, true, true, true, true, true, true, true, true, true, true, true, true, false, false, false, false, false, false, false, false, false] #[true, true, true, true, true, true, true, true, false, true, true, true, true, true, true, true, true, true, false, false, false, false, false, false, false, false] rfl rfl rfl rfl (two_of HT_.out (by kernel_rfl)) (by decide) (by decide) (fun K hK => ?_) (fun K hK => ?_)
                 ·skip
                  (have p268 : 0 ≤ ((ji44) : Int) := of_decide_eq_true (by assumption); have q268 : (ji44) < (y265.length : Int) := of_decide_eq_true (by assumption); obtain ⟨ad268, e268, hx268_0⟩ := Kd.at_int (Kd.R_reads' HO267.out).2.2 (ji44) p268 q268; obtain rfl : adz_v266 = ad268 := (by injection e268))
                  refine value_ (w1 := ?_) (v := ?_) (by rfl) rfl ?_ ?_
                  rotate_left 2
                  ·go_simp
                   constructor
                   ·rfl
                   ·rfl
                  clear hx268_0
                  refine hK.out _ _ ⟨(blk_cell BK260.out 0).trans rfl, (blk_cell BK260.out 1).trans rfl, (blk_cell BK261.out 0).trans rfl, (blk_cell BK261.out 1).trans rfl⟩ (fun hHeld => ?_)
                  clear hK K
                  refine norm_ (a' := ?_) ?_ ?_
                  rotate_left
                  ·show Act.put _ (some 44) _ = _
                   simp only [Act.put, List.setIfInBounds_toArray, List.set_cons_zero, List.set_cons_succ, i64_w, i32_w]
                   rfl
                  exact norm_ (by first | (simp only [putAll, Act.put, List.setIfInBounds_toArray, List.set_cons_zero, List.set_cons_succ]; done) | (simp only [putAll, Act.put, List.setIfInBounds_toArray, List.set_cons_zero, List.set_cons_succ]; rfl)) (hJ4_8_13 (.slice (some adz_v266) y265.length co62, adz_v266, .slice (some adz_v270) y269.length co63, adz_v270) _ ⟨hHeld, HO267.out, HO271.out, ⟨_, rfl⟩, ⟨_, rfl⟩, BK260.out, BK261.out, BK262.out, (by repeat first | exact HB.out | refine below_set ?_ GE260.out | refine below_set ?_ GE261.out | refine below_set ?_ GE262.out)⟩)
                 ·skip
                  (have p272 : 0 ≤ ((ji47) : Int) := of_decide_eq_true (by assumption); have q272 : (ji47) < (y269.length : Int) := of_decide_eq_true (by assumption); obtain ⟨ad272, e272, hx272_0⟩ := Kd.at_int (Kd.R_reads' HO271.out).2.2 (ji47) p272 q272; obtain rfl : adz_v270 = ad272 := (by injection e272))
                  refine value_ (w1 := ?_) (v := ?_) (by rfl) rfl ?_ ?_
                  rotate_left 2
                  ·go_simp
                   constructor
                   ·rfl
                   ·rfl
                  clear hx272_0
                  refine hK.out _ _ ⟨(blk_cell BK260.out 0).trans rfl, (blk_cell BK260.out 1).trans rfl, (blk_cell BK261.out 0).trans rfl, (blk_cell BK261.out 1).trans rfl⟩ (fun hHeld => ?_)
                  clear hK K
                  refine norm_ (a' := ?_) ?_ ?_
                  rotate_left
                  ·show Act.put _ (some 53) _ = _
                   simp only [Act.put, List.setIfInBounds_toArray, List.set_cons_zero, List.set_cons_succ, i64_w, i32_w]
                   rfl
                  exact norm_ (by first | (simp only [putAll, Act.put, List.setIfInBounds_toArray, List.set_cons_zero, List.set_cons_succ]; done) | (simp only [putAll, Act.put, List.setIfInBounds_toArray, List.set_cons_zero, List.set_cons_succ]; rfl)) (hJ4_13_17 (.slice (some adz_v266) y265.length co62, adz_v266, .slice (some adz_v270) y269.length co63, adz_v270) _ ⟨hHeld, HO267.out, HO271.out, ⟨_, rfl⟩, ⟨_, rfl⟩, BK260.out, BK261.out, BK262.out, (by repeat first | exact HB.out | refine below_set ?_ GE260.out | refine below_set ?_ GE261.out | refine below_set ?_ GE262.out)⟩)
               ·skip
                rintro ⟨v266, adz_v266⟩ w58 ⟨hS_, h0_, h1_, h2_, h3_, h4_, h5_⟩
                have n0_ : Aside0 (Kd.R (Kd.int .i64) 3 w58 w.heap.size (fun _ => True) v266 y265) := ⟨h0_⟩
                have n1_ : Aside0 (∃ c_, (v266 : Value) = .slice (some adz_v266) y265.length c_) := ⟨h1_⟩
                have n2_ : Aside0 (w58.heap[gb260]? = some (.cells #[.int .i64 a0_0, .int .i64 a0_1] 23 (0, 0))) := ⟨h2_⟩
                have n3_ : Aside0 (w58.heap[gb261]? = some (.cells #[.int .i64 a1_0, .int .i64 a1_1] 23 (0, 0))) := ⟨h3_⟩
                have n4_ : Aside0 (w58.heap[gb262]? = some (.cells #[.int .i64 x263000_2, .int .i64 x263001_2] 23 (0, 0))) := ⟨h4_⟩
                have n5_ : Aside0 (Below w.heap.size w w58) := ⟨h5_⟩
                clear BK260
                clear BK261
                clear BK262
                clear HB
                clear h0_ h1_ h2_ h3_ h4_ h5_
                have HO267 := n0_
                have HA_HO267 := n1_
                have BK260 := n2_
                have BK261 := n3_
                have BK262 := n4_
                have HB := n5_
                clear n0_ n1_ n2_ n3_ n4_ n5_
                have hHeld : w58.cell? ⟨gb260, 0, none⟩ = some (.int .i64 a0_0) ∧ w58.cell? ⟨gb260, 1, none⟩ = some (.int .i64 a0_1) ∧ w58.cell? ⟨gb261, 0, none⟩ = some (.int .i64 a1_0) ∧ w58.cell? ⟨gb261, 1, none⟩ = some (.int .i64 a1_1) := hS_
                obtain ⟨co59, eo59⟩ := HA_HO267.out
                clear HA_HO267
                subst eo59
                refine norm_ (a' := ?_) ?_ ?_
                rotate_left
                ·simp only [putAll, Act.put, List.setIfInBounds_toArray, List.set_cons_zero, List.set_cons_succ]
                 rfl
                refine one_ (i := 13) (N := some 49) #[true, true, true, true, true, true, true, true, true, true, true, true, true, true, true, true, false, false, false, false, false, false, false, false, false, false] rfl rfl (one_of HT_.out (by kernel_rfl)) (by decide) (fun K hK => ?_)
                refine Kd.R_lit_step (Kd.int .i64) _ 3 ?hg (N := 49) ?hd (xs := ([a1_0, a1_1] : List Int)) (inner := [.int .i64 a1_0, .int .i64 a1_1]) (ok := fun _ => True) (okp := fun _ => True) ?hr ?hp (fun _ hk => hk) trivial (Below.refl _ _) (Nat.le_refl _) (by simp) ?_; (case hd => rfl); (case hg => rfl); (case hr => go_simp); (case hp => exact (Reps.one (show Kd.M (Kd.int .i64) _ _ _ a1_0 [.int .i64 a1_0] from rfl) (Reps.one (show Kd.M (Kd.int .i64) _ _ _ a1_1 [.int .i64 a1_1] from rfl) (Reps.none _ _))))
                intro v270 w60 ho61 hb hg_ hnew_
                clear hg_ hnew_
                (first | rw [← Ny269.out] at ho61 | (simp only [Int.reduceToNat] at ho61; rw [← Ny269.out] at ho61))
                have n0_ := Aside0.mk (Kd.R_elder' HO267.out (Kd.R_base ho61) hb)
                have n1_ := Aside0.mk (Kd.R_lower (Kd.R_new' ho61 (Kd.R_lt HO267.out)) (below_size (by repeat first | exact HB.out | refine below_set ?_ GE260.out | refine below_set ?_ GE261.out | refine below_set ?_ GE262.out)))
                have n2_ := Aside0.mk (blk_below (g := gb260) (o := .cells #[.int .i64 a0_0, .int .i64 a0_1] 23 (0, 0)) BK260.out hb)
                have n3_ := Aside0.mk (blk_below (g := gb261) (o := .cells #[.int .i64 a1_0, .int .i64 a1_1] 23 (0, 0)) BK261.out hb)
                have n4_ := Aside0.mk (blk_below (g := gb262) (o := .cells #[.int .i64 x263000_2, .int .i64 x263001_2] 23 (0, 0)) BK262.out hb)
                have n5_ := Aside0.mk (below_step (by repeat first | exact HB.out | refine below_set ?_ GE260.out | refine below_set ?_ GE261.out | refine below_set ?_ GE262.out) hb)
                clear HO267
                clear BK260
                clear BK261
                clear BK262
                clear HB
                have HO267 := n0_
                have HO271 := n1_
                have BK260 := n2_
                have BK261 := n3_
                have BK262 := n4_
                have HB := n5_
                clear n0_ n1_ n2_ n3_ n4_ n5_
                clear hb ho61
                obtain ⟨Ao62, co62, eo62⟩ := Kd.R_slice HO271.out
                subst eo62
                obtain ⟨ado62, fo62, _⟩ := Kd.at_int (Kd.R_reads' HO271.out).2.2 0 (by decide) (by rw [Ny269.out]; simp)
                cases fo62
                refine hK.out _ _ ⟨(blk_cell BK260.out 0).trans rfl, (blk_cell BK260.out 1).trans rfl, (blk_cell BK261.out 0).trans rfl, (blk_cell BK261.out 1).trans rfl⟩ (fun hHeld => ?_)
                clear hK K
                refine norm_ (a' := ?_) ?_ ?_
                rotate_left
                ·show Act.put _ (some 49) _ = _
                 simp only [Act.put, List.setIfInBounds_toArray, List.set_cons_zero, List.set_cons_succ, i64_w, i32_w]
                 rfl
                refine pure_ (i := 16) (N := some 52) (v := ?_) (a' := ?_) #[true, true, true, true, true, true, true, true, true, true, true, true, true, true, true, true, true, false, false, false, false, false, false, false, false, false] rfl rfl (any_of HT_.out (by kernel_rfl)) (fun _ _ _ h => h) (Or.inl ⟨by rfl, ?_⟩) ?_ ?_
                rotate_left
                ·intro w'
                 go_simp
                 with_reducible rfl
                rotate_left
                ·simp only [Act.put, List.setIfInBounds_toArray, List.set_cons_zero, List.set_cons_succ, i64_w, i32_w]
                 rfl
                exact norm_ (by first | (simp only [putAll, Act.put, List.setIfInBounds_toArray, List.set_cons_zero, List.set_cons_succ]; done) | (simp only [putAll, Act.put, List.setIfInBounds_toArray, List.set_cons_zero, List.set_cons_succ]; rfl)) (hJ4_8_13 (.slice (some adz_v266) y265.length co59, adz_v266, .slice (some ado62) y269.length co62, ado62) _ ⟨hHeld, (by (with_reducible repeat (first | apply Kd.R_alloc | apply Kd.R_drewN | apply Kd.R_drew)); exact Kd.R_mono HO267.out (fun _ hk => hk.2)), (by (with_reducible repeat (first | apply Kd.R_alloc | apply Kd.R_drewN | apply Kd.R_drew)); exact Kd.R_mono HO271.out (fun _ hk => hk.2)), ⟨_, rfl⟩, ⟨_, rfl⟩, BK260.out, BK261.out, BK262.out, (by repeat first | exact HB.out | refine below_set ?_ GE260.out | refine below_set ?_ GE261.out | refine below_set ?_ GE262.out)⟩)
              ·skip
               rintro ⟨v266, adz_v266, v270, adz_v270⟩ w61 ⟨hS_, h0_, h1_, h2_, h3_, h4_, h5_, h6_, h7_⟩
               have n0_ : Aside0 (Kd.R (Kd.int .i64) 3 w61 w.heap.size (fun k_ => some k_ ≠ (v270 : Value).ownBlock) v266 y265) := ⟨h0_⟩
               have n1_ : Aside0 (Kd.R (Kd.int .i64) 3 w61 w.heap.size (fun k_ => some k_ ≠ (v266 : Value).ownBlock) v270 y269) := ⟨h1_⟩
               have n2_ : Aside0 (∃ c_, (v266 : Value) = .slice (some adz_v266) y265.length c_) := ⟨h2_⟩
               have n3_ : Aside0 (∃ c_, (v270 : Value) = .slice (some adz_v270) y269.length c_) := ⟨h3_⟩
               have n4_ : Aside0 (w61.heap[gb260]? = some (.cells #[.int .i64 a0_0, .int .i64 a0_1] 23 (0, 0))) := ⟨h4_⟩
               have n5_ : Aside0 (w61.heap[gb261]? = some (.cells #[.int .i64 a1_0, .int .i64 a1_1] 23 (0, 0))) := ⟨h5_⟩
               have n6_ : Aside0 (w61.heap[gb262]? = some (.cells #[.int .i64 x263000_2, .int .i64 x263001_2] 23 (0, 0))) := ⟨h6_⟩
               have n7_ : Aside0 (Below w.heap.size w w61) := ⟨h7_⟩
               clear BK260
               clear BK261
               clear BK262
               clear HB
               clear h0_ h1_ h2_ h3_ h4_ h5_ h6_ h7_
               have HO267 := n0_
               have HO271 := n1_
               have HA_HO267 := n2_
               have HA_HO271 := n3_
               have BK260 := n4_
               have BK261 := n5_
               have BK262 := n6_
               have HB := n7_
               clear n0_ n1_ n2_ n3_ n4_ n5_ n6_ n7_
               have hHeld : w61.cell? ⟨gb260, 0, none⟩ = some (.int .i64 a0_0) ∧ w61.cell? ⟨gb260, 1, none⟩ = some (.int .i64 a0_1) ∧ w61.cell? ⟨gb261, 0, none⟩ = some (.int .i64 a1_0) ∧ w61.cell? ⟨gb261, 1, none⟩ = some (.int .i64 a1_1) := hS_
               obtain ⟨co62, eo62⟩ := HA_HO267.out
               clear HA_HO267
               subst eo62
               obtain ⟨co63, eo63⟩ := HA_HO271.out
               clear HA_HO271
               subst eo63
               refine norm_ (a' := ?_) ?_ ?_
               rotate_left
               ·simp only [putAll, Act.put, List.setIfInBounds_toArray, List.set_cons_zero, List.set_cons_succ]
                rfl
               refine one_ (i := 8) (N := some 44) #[true, true, true, true, true, true, true, true, true, true, true, true, true, true, true, true, true, true, false, false, false, false, false, false, false, false] rfl rfl (one_of HT_.out (by kernel_rfl)) (by decide) (fun K hK => ?_)
               (have p268 : 0 ≤ ((ji44) : Int) := of_decide_eq_true (by assumption); have q268 : (ji44) < (y265.length : Int) := of_decide_eq_true (by assumption); obtain ⟨ad268, e268, hx268_0⟩ := Kd.at_int (Kd.R_reads' HO267.out).2.2 (ji44) p268 q268; obtain rfl : adz_v266 = ad268 := (by injection e268))
               refine value_ (w1 := ?_) (v := ?_) (by rfl) rfl ?_ ?_
               rotate_left 2
               ·go_simp
                constructor
                ·rfl
                ·rfl
               clear hx268_0
               refine hK.out _ _ ⟨(blk_cell BK260.out 0).trans rfl, (blk_cell BK260.out 1).trans rfl, (blk_cell BK261.out 0).trans rfl, (blk_cell BK261.out 1).trans rfl⟩ (fun hHeld => ?_)
               clear hK K
               refine norm_ (a' := ?_) ?_ ?_
               rotate_left
               ·show Act.put _ (some 44) _ = _
                simp only [Act.put, List.setIfInBounds_toArray, List.set_cons_zero, List.set_cons_succ, i64_w, i32_w]
                rfl
               exact norm_ (by first | (simp only [putAll, Act.put, List.setIfInBounds_toArray, List.set_cons_zero, List.set_cons_succ]; done) | (simp only [putAll, Act.put, List.setIfInBounds_toArray, List.set_cons_zero, List.set_cons_succ]; rfl)) (hJ4_8_13_17 (.slice (some adz_v266) y265.length co62, adz_v266, .slice (some adz_v270) y269.length co63, adz_v270) _ ⟨hHeld, HO267.out, HO271.out, ⟨_, rfl⟩, ⟨_, rfl⟩, BK260.out, BK261.out, BK262.out, (by repeat first | exact HB.out | refine below_set ?_ GE260.out | refine below_set ?_ GE261.out | refine below_set ?_ GE262.out)⟩)
             ·skip
              rintro ⟨v266, adz_v266, v270, adz_v270⟩ w61 ⟨hS_, h0_, h1_, h2_, h3_, h4_, h5_, h6_, h7_⟩
              have n0_ : Aside0 (Kd.R (Kd.int .i64) 3 w61 w.heap.size (fun k_ => some k_ ≠ (v270 : Value).ownBlock) v266 y265) := ⟨h0_⟩
              have n1_ : Aside0 (Kd.R (Kd.int .i64) 3 w61 w.heap.size (fun k_ => some k_ ≠ (v266 : Value).ownBlock) v270 y269) := ⟨h1_⟩
              have n2_ : Aside0 (∃ c_, (v266 : Value) = .slice (some adz_v266) y265.length c_) := ⟨h2_⟩
              have n3_ : Aside0 (∃ c_, (v270 : Value) = .slice (some adz_v270) y269.length c_) := ⟨h3_⟩
              have n4_ : Aside0 (w61.heap[gb260]? = some (.cells #[.int .i64 a0_0, .int .i64 a0_1] 23 (0, 0))) := ⟨h4_⟩
              have n5_ : Aside0 (w61.heap[gb261]? = some (.cells #[.int .i64 a1_0, .int .i64 a1_1] 23 (0, 0))) := ⟨h5_⟩
              have n6_ : Aside0 (w61.heap[gb262]? = some (.cells #[.int .i64 x263000_2, .int .i64 x263001_2] 23 (0, 0))) := ⟨h6_⟩
              have n7_ : Aside0 (Below w.heap.size w w61) := ⟨h7_⟩
              clear BK260
              clear BK261
              clear BK262
              clear HB
              clear h0_ h1_ h2_ h3_ h4_ h5_ h6_ h7_
              have HO267 := n0_
              have HO271 := n1_
              have HA_HO267 := n2_
              have HA_HO271 := n3_
              have BK260 := n4_
              have BK261 := n5_
              have BK262 := n6_
              have HB := n7_
              clear n0_ n1_ n2_ n3_ n4_ n5_ n6_ n7_
              have hHeld : w61.cell? ⟨gb260, 0, none⟩ = some (.int .i64 a0_0) ∧ w61.cell? ⟨gb260, 1, none⟩ = some (.int .i64 a0_1) ∧ w61.cell? ⟨gb261, 0, none⟩ = some (.int .i64 a1_0) ∧ w61.cell? ⟨gb261, 1, none⟩ = some (.int .i64 a1_1) := hS_
              obtain ⟨co62, eo62⟩ := HA_HO267.out
              clear HA_HO267
              subst eo62
              obtain ⟨co63, eo63⟩ := HA_HO271.out
              clear HA_HO271
              subst eo63
              refine norm_ (a' := ?_) ?_ ?_
              rotate_left
              ·simp only [putAll, Act.put, List.setIfInBounds_toArray, List.set_cons_zero, List.set_cons_succ]
               rfl
              refine one_ (i := 17) (N := some 53) #[true, true, true, true, true, true, true, true, true, true, true, true, true, true, true, true, true, true, false, false, false, false, false, false, false, false] rfl rfl (one_of HT_.out (by kernel_rfl)) (by decide) (fun K hK => ?_)
              (have p272 : 0 ≤ ((ji47) : Int) := of_decide_eq_true (by assumption); have q272 : (ji47) < (y269.length : Int) := of_decide_eq_true (by assumption); obtain ⟨ad272, e272, hx272_0⟩ := Kd.at_int (Kd.R_reads' HO271.out).2.2 (ji47) p272 q272; obtain rfl : adz_v270 = ad272 := (by injection e272))
              refine value_ (w1 := ?_) (v := ?_) (by rfl) rfl ?_ ?_
              rotate_left 2
              ·go_simp
               constructor
               ·rfl
               ·rfl
              clear hx272_0
              refine hK.out _ _ ⟨(blk_cell BK260.out 0).trans rfl, (blk_cell BK260.out 1).trans rfl, (blk_cell BK261.out 0).trans rfl, (blk_cell BK261.out 1).trans rfl⟩ (fun hHeld => ?_)
              clear hK K
              refine norm_ (a' := ?_) ?_ ?_
              rotate_left
              ·show Act.put _ (some 53) _ = _
               simp only [Act.put, List.setIfInBounds_toArray, List.set_cons_zero, List.set_cons_succ, i64_w, i32_w]
               rfl
              exact norm_ (by first | (simp only [putAll, Act.put, List.setIfInBounds_toArray, List.set_cons_zero, List.set_cons_succ]; done) | (simp only [putAll, Act.put, List.setIfInBounds_toArray, List.set_cons_zero, List.set_cons_succ]; rfl)) (hJ4_8_13_17 (.slice (some adz_v266) y265.length co62, adz_v266, .slice (some adz_v270) y269.length co63, adz_v270) _ ⟨hHeld, HO267.out, HO271.out, ⟨_, rfl⟩, ⟨_, rfl⟩, BK260.out, BK261.out, BK262.out, (by repeat first | exact HB.out | refine below_set ?_ GE260.out | refine below_set ?_ GE261.out | refine below_set ?_ GE262.out)⟩)
            rintro ⟨v266, adz_v266, v270, adz_v270⟩ w61 ⟨hS_, h0_, h1_, h2_, h3_, h4_, h5_, h6_, h7_⟩
            have n0_ : Aside0 (Kd.R (Kd.int .i64) 3 w61 w.heap.size (fun k_ => some k_ ≠ (v270 : Value).ownBlock) v266 y265) := ⟨h0_⟩
            have n1_ : Aside0 (Kd.R (Kd.int .i64) 3 w61 w.heap.size (fun k_ => some k_ ≠ (v266 : Value).ownBlock) v270 y269) := ⟨h1_⟩
            have n2_ : Aside0 (∃ c_, (v266 : Value) = .slice (some adz_v266) y265.length c_) := ⟨h2_⟩
            have n3_ : Aside0 (∃ c_, (v270 : Value) = .slice (some adz_v270) y269.length c_) := ⟨h3_⟩
            have n4_ : Aside0 (w61.heap[gb260]? = some (.cells #[.int .i64 a0_0, .int .i64 a0_1] 23 (0, 0))) := ⟨h4_⟩
            have n5_ : Aside0 (w61.heap[gb261]? = some (.cells #[.int .i64 a1_0, .int .i64 a1_1] 23 (0, 0))) := ⟨h5_⟩
            have n6_ : Aside0 (w61.heap[gb262]? = some (.cells #[.int .i64 x263000_2, .int .i64 x263001_2] 23 (0, 0))) := ⟨h6_⟩
            have n7_ : Aside0 (Below w.heap.size w w61) := ⟨h7_⟩
            clear BK260
            clear BK261
            clear BK262
            clear HB
            clear h0_ h1_ h2_ h3_ h4_ h5_ h6_ h7_
            have HO267 := n0_
            have HO271 := n1_
            have HA_HO267 := n2_
            have HA_HO271 := n3_
            have BK260 := n4_
            have BK261 := n5_
            have BK262 := n6_
            have HB := n7_
            clear n0_ n1_ n2_ n3_ n4_ n5_ n6_ n7_
            have hHeld : w61.cell? ⟨gb260, 0, none⟩ = some (.int .i64 a0_0) ∧ w61.cell? ⟨gb260, 1, none⟩ = some (.int .i64 a0_1) ∧ w61.cell? ⟨gb261, 0, none⟩ = some (.int .i64 a1_0) ∧ w61.cell? ⟨gb261, 1, none⟩ = some (.int .i64 a1_1) := hS_
            obtain ⟨co62, eo62⟩ := HA_HO267.out
            clear HA_HO267
            subst eo62
            obtain ⟨co63, eo63⟩ := HA_HO271.out
            clear HA_HO271
            subst eo63
            refine norm_ (a' := ?_) ?_ ?_
            rotate_left
            ·simp only [putAll, Act.put, List.setIfInBounds_toArray, List.set_cons_zero, List.set_cons_succ]
             rfl
            refine one_ (i := 18) (N := some 54) #[true, true, true, true, true, true, true, true, true, true, true, true, true, true, true, true, true, true, true, false, false, false, false, false, false, false] rfl rfl (one_of HT_.out (by kernel_rfl)) (by decide) (fun K hK => ?_)
            refine goes_ Try.func38 (by kernel_rfl) rfl #[.int .i64 (rd y265 (ji44)), .int .i64 (rd y269 (ji47))] (by rfl) rfl rfl (by (try simp only [List.map_toArray, List.map_cons, List.map_nil]); first | done | (simp only [hji44, hji47]; rfl) | rfl | (simp only [List.length_drop, List.length_take]; rfl)) ?_
            with_reducible refine (flagstoneref37_quotient.calls k2 (rd y265 (ji44)) (rd y269 (ji47)) t273 t274 true _ A50.out).mono ?_
            rintro e w' ⟨rfl, ⟨nd, rfl⟩⟩
            refine ⟨_, rfl, ?_⟩
            refine hK.out _ _ ⟨(blk_cell BK260.out 0).trans rfl, (blk_cell BK260.out 1).trans rfl, (blk_cell BK261.out 0).trans rfl, (blk_cell BK261.out 1).trans rfl⟩ (fun hHeld => ?_)
            clear hK K
            refine norm_ (a' := ?_) ?_ ?_
            rotate_left
            ·show Act.put _ (some 54) _ = _
             simp only [Act.put, List.setIfInBounds_toArray, List.set_cons_zero, List.set_cons_succ, i64_w, i32_w]
             rfl
            refine pure_ (i := 19) (N := some 35) (v := ?_) (a' := ?_) #[true, true, true, true, true, true, true, true, true, true, true, true, true, true, true, true, true, true, true, true, false, false, false, false, false, false] rfl rfl (any_of HT_.out (by kernel_rfl)) (fun _ _ _ h => h) (Or.inl ⟨by rfl, ?_⟩) ?_ ?_
            rotate_left
            ·intro w'
             go_simp
             with_reducible rfl
            rotate_left
            ·simp only [Act.put, List.setIfInBounds_toArray, List.set_cons_zero, List.set_cons_succ, i64_w, i32_w]
             rfl
            refine pure_ (i := 20) (N := some 55) (v := ?_) (a' := ?_) #[true, true, true, true, true, true, true, true, true, true, true, true, true, true, true, true, true, true, true, true, true, false, false, false, false, false] rfl rfl (any_of HT_.out (by kernel_rfl)) (fun _ _ _ h => h) (Or.inl ⟨by rfl, ?_⟩) ?_ ?_
            rotate_left
            ·intro w'
             go_simp
             with_reducible rfl
            rotate_left
            ·simp only [Act.put, List.setIfInBounds_toArray, List.set_cons_zero, List.set_cons_succ, i64_w, i32_w]
             rfl
            refine pure_ (i := 21) (N := some 56) (v := ?_) (a' := ?_) #[true, true, true, true, true, true, true, true, true, true, true, true, true, true, true, true, true, true, true, true, true, true, false, false, false, false] rfl rfl (any_of HT_.out (by kernel_rfl)) (fun _ _ _ h => h) (Or.inl ⟨by rfl, ?_⟩) ?_ ?_
            rotate_left
            ·intro w'
             go_simp
             with_reducible rfl
            rotate_left
            ·simp only [Act.put, List.setIfInBounds_toArray, List.set_cons_zero, List.set_cons_succ, i64_w, i32_w]
             rfl
            refine pure_ (i := 22) (N := some 57) (v := ?_) (a' := ?_) #[true, true, true, true, true, true, true, true, true, true, true, true, true, true, true, true, true, true, true, true, true, true, true, false, false, false] rfl rfl (any_of HT_.out (by kernel_rfl)) (fun _ _ _ h => h) (Or.inl ⟨by rfl, ?_⟩) ?_ ?_
            rotate_left
            ·intro w'
             go_simp
             with_reducible rfl
            rotate_left
            ·simp only [Act.put, List.setIfInBounds_toArray, List.set_cons_zero, List.set_cons_succ, i64_w, i32_w]
             rfl
            refine pure_ (i := 23) (N := some 9) (v := ?_) (a' := ?_) #[true, true, true, true, true, true, true, true, true, true, true, true, true, true, true, true, true, true, true, true, true, true, true, true, false, false] rfl rfl (any_of HT_.out (by kernel_rfl)) (fun _ _ _ h => h) (Or.inl ⟨by rfl, ?_⟩) ?_ ?_
            rotate_left
            ·intro w'
             go_simp
             with_reducible rfl
            rotate_left
            ·simp only [Act.put, List.setIfInBounds_toArray, List.set_cons_zero, List.set_cons_succ, i64_w, i32_w]
             rfl
            refine pure_ (i := 24) (N := some 10) (v := ?_) (a' := ?_) #[true, true, true, true, true, true, true, true, true, true, true, true, true, true, true, true, true, true, true, true, true, true, true, true, true, false] rfl rfl (any_of HT_.out (by kernel_rfl)) (fun _ _ _ h => h) (Or.inl ⟨by rfl, ?_⟩) ?_ ?_
            rotate_left
            ·intro w'
             go_simp
             with_reducible rfl
            rotate_left
            ·simp only [Act.put, List.setIfInBounds_toArray, List.set_cons_zero, List.set_cons_succ, i64_w, i32_w]
             rfl
            refine pure_ (i := 25) (N := some 11) (v := ?_) (a' := ?_) #[true, true, true, true, true, true, true, true, true, true, true, true, true, true, true, true, true, true, true, true, true, true, true, true, true, true] rfl rfl (any_of HT_.out (by kernel_rfl)) (fun _ _ _ h => h) (Or.inl ⟨by rfl, ?_⟩) ?_ ?_
            rotate_left
            ·intro w'
             go_simp
             with_reducible rfl
            rotate_left
            ·simp only [Act.put, List.setIfInBounds_toArray, List.set_cons_zero, List.set_cons_succ, i64_w, i32_w]
             rfl
            refine done_ (done_of HT_.out (by kernel_rfl)) ?_
            try go_wp2
            go_roundg k2
            case measure => have := HJ2.out; have := HK2.out; omega
            case rel => exact ⟨(ji52), (ji53), (wrap64 (x8_2 + 1)), (x263000_2), (x263001_2), (by first | rfl | (simp; done) | (simp only [← hji52] <;> (first | rfl | simp)) | (simp [*]; done)), (by first | rfl | (simp; done) | (simp only [← hji53] <;> (first | rfl | simp)) | (simp [*]; done)), (by first | rfl | (simp; done) | (simp [*]; done)), H', ⟨by have := HJ2.out; have := HK2.out; omega⟩, ⟨by (with_reducible repeat (first | refine blk_drewN ?_ _ | refine blk_drew ?_ | refine blk_alloc ?_ _)); exact BK260.out⟩, ⟨by (with_reducible repeat (first | refine blk_drewN ?_ _ | refine blk_drew ?_ | refine blk_alloc ?_ _)); exact BK261.out⟩, ⟨by (with_reducible repeat (first | refine blk_drewN ?_ _ | refine blk_drew ?_ | refine blk_alloc ?_ _)); exact BK262.out⟩, ⟨by repeat (first | (with_reducible first | exact HB.out | apply below_alloc | apply pw_below_drewN | apply below_drew1 | refine below_set ?_ GE260.out | refine below_set ?_ GE261.out | refine below_set ?_ GE262.out) | exact HB.out)⟩⟩
           ·replace c51 := Bool.eq_false_iff.mpr c51
            subst c51
            rw [if_neg (show ¬ (false = true) by decide)] at H
            simp only [Option.some.injEq, Prod.mk.injEq] at H
            obtain ⟨rfl, rfl, rfl⟩ := H
            try go_wp2
            have pi268 : (0 ≤ ((ji44) : Int)) = True := eq_true (of_decide_eq_true (by assumption))
            have qi268 : ((ji44) < (y265.length : Int)) = True := eq_true (of_decide_eq_true (by assumption))
            have pi272 : (0 ≤ ((ji47) : Int)) = True := eq_true (of_decide_eq_true (by assumption))
            have qi272 : ((ji47) < (y269.length : Int)) = True := eq_true (of_decide_eq_true (by assumption))
            have n0_ := Aside0.mk (blk_drew BK260.out)
            have n1_ := Aside0.mk (blk_drew BK261.out)
            have n2_ := Aside0.mk (blk_drew BK262.out)
            have n3_ := Aside0.mk (below_drew1 HB.out)
            clear BK260
            clear BK261
            clear BK262
            clear HB
            have BK260 := n0_
            have BK261 := n1_
            have BK262 := n2_
            have HB := n3_
            clear n0_ n1_ n2_ n3_
            refine start_ (n := 26) (S := fun w' => w'.cell? ⟨gb260, 0, none⟩ = some (.int .i64 a0_0) ∧ w'.cell? ⟨gb260, 1, none⟩ = some (.int .i64 a0_1) ∧ w'.cell? ⟨gb261, 0, none⟩ = some (.int .i64 a1_0) ∧ w'.cell? ⟨gb261, 1, none⟩ = some (.int .i64 a1_1)) (ds := []) #[false, false, false, false, false, false, false, false, false, false, false, false, false, false, false, false, false, false, false, false, false, false, false, false, false, false] (by kernel_rfl) rfl rfl ⟨(blk_cell BK260.out 0).trans rfl, (blk_cell BK260.out 1).trans rfl, (blk_cell BK261.out 0).trans rfl, (blk_cell BK261.out 1).trans rfl⟩ (fun hHeld => ?_); refine with_tabW flagstoneref37_Div.tab7 flagstoneref37_Div.bits7 (fun HT_ HW_ => ?_)
            generalize wr.drew = w64 at BK260 BK261 BK262 HB hHeld ⊢
            refine pure_ (i := 0) (N := some 36) (v := ?_) (a' := ?_) #[true, false, false, false, false, false, false, false, false, false, false, false, false, false, false, false, false, false, false, false, false, false, false, false, false, false] rfl rfl (any_of HT_.out (by kernel_rfl)) (fun _ _ _ h => h) (Or.inl ⟨by rfl, ?_⟩) ?_ ?_
            rotate_left
            ·intro w'
             go_simp
             with_reducible rfl
            rotate_left
            ·simp only [Act.put, List.setIfInBounds_toArray, List.set_cons_zero, List.set_cons_succ, i64_w, i32_w]
             rfl
            refine pure_ (i := 2) (N := some 38) (v := ?_) (a' := ?_) #[true, false, true, false, false, false, false, false, false, false, false, false, false, false, false, false, false, false, false, false, false, false, false, false, false, false] rfl rfl (any_of HT_.out (by kernel_rfl)) (fun _ _ _ h => h) (Or.inl ⟨by rfl, ?_⟩) ?_ ?_
            rotate_left
            ·intro w'
             go_simp
             with_reducible rfl
            rotate_left
            ·simp only [Act.put, List.setIfInBounds_toArray, List.set_cons_zero, List.set_cons_succ, i64_w, i32_w]
             rfl
            refine pure_ (i := 5) (N := some 41) (v := ?_) (a' := ?_) #[true, false, true, false, false, true, false, false, false, false, false, false, false, false, false, false, false, false, false, false, false, false, false, false, false, false] rfl rfl (any_of HT_.out (by kernel_rfl)) (fun _ _ _ h => h) (Or.inl ⟨by rfl, ?_⟩) ?_ ?_
            rotate_left
            ·intro w'
             go_simp
             with_reducible rfl
            rotate_left
            ·simp only [Act.put, List.setIfInBounds_toArray, List.set_cons_zero, List.set_cons_succ, i64_w, i32_w]
             rfl
            refine pure_ (i := 6) (N := some 42) (v := ?_) (a' := ?_) #[true, false, true, false, false, true, true, false, false, false, false, false, false, false, false, false, false, false, false, false, false, false, false, false, false, false] rfl rfl (any_of HT_.out (by kernel_rfl)) (fun _ _ _ h => h) (Or.inl ⟨by rfl, ?_⟩) ?_ ?_
            rotate_left
            ·intro w'
             go_simp
             with_reducible rfl
            rotate_left
            ·simp only [Act.put, List.setIfInBounds_toArray, List.set_cons_zero, List.set_cons_succ, i64_w, i32_w]
             rfl
            refine pure_ (i := 9) (N := some 45) (v := ?_) (a' := ?_) #[true, false, true, false, false, true, true, false, false, true, false, false, false, false, false, false, false, false, false, false, false, false, false, false, false, false] rfl rfl (any_of HT_.out (by kernel_rfl)) (fun _ _ _ h => h) (Or.inl ⟨by rfl, ?_⟩) ?_ ?_
            rotate_left
            ·intro w'
             go_simp
             with_reducible rfl
            rotate_left
            ·simp only [Act.put, List.setIfInBounds_toArray, List.set_cons_zero, List.set_cons_succ, i64_w, i32_w]
             rfl
            refine pure_ (i := 11) (N := some 47) (v := ?_) (a' := ?_) #[true, false, true, false, false, true, true, false, false, true, false, true, false, false, false, false, false, false, false, false, false, false, false, false, false, false] rfl rfl (any_of HT_.out (by kernel_rfl)) (fun _ _ _ h => h) (Or.inl ⟨by rfl, ?_⟩) ?_ ?_
            rotate_left
            ·intro w'
             go_simp
             with_reducible rfl
            rotate_left
            ·simp only [Act.put, List.setIfInBounds_toArray, List.set_cons_zero, List.set_cons_succ, i64_w, i32_w]
             rfl
            refine pure_ (i := 14) (N := some 50) (v := ?_) (a' := ?_) #[true, false, true, false, false, true, true, false, false, true, false, true, false, false, true, false, false, false, false, false, false, false, false, false, false, false] rfl rfl (any_of HT_.out (by kernel_rfl)) (fun _ _ _ h => h) (Or.inl ⟨by rfl, ?_⟩) ?_ ?_
            rotate_left
            ·intro w'
             go_simp
             with_reducible rfl
            rotate_left
            ·simp only [Act.put, List.setIfInBounds_toArray, List.set_cons_zero, List.set_cons_succ, i64_w, i32_w]
             rfl
            refine pure_ (i := 15) (N := some 51) (v := ?_) (a' := ?_) #[true, false, true, false, false, true, true, false, false, true, false, true, false, false, true, true, false, false, false, false, false, false, false, false, false, false] rfl rfl (any_of HT_.out (by kernel_rfl)) (fun _ _ _ h => h) (Or.inl ⟨by rfl, ?_⟩) ?_ ?_
            rotate_left
            ·intro w'
             go_simp
             with_reducible rfl
            rotate_left
            ·simp only [Act.put, List.setIfInBounds_toArray, List.set_cons_zero, List.set_cons_succ, i64_w, i32_w]
             rfl
            refine take_ (i := 1) (N := some 37) (v := ?_) (a' := ?_) #[true, true, true, false, false, true, true, false, false, true, false, true, false, false, true, true, false, false, false, false, false, false, false, false, false, false] rfl rfl (take_ofW HT_.out HW_.out (by kernel_rfl)) (fun _ _ _ h => h) (Or.inl ⟨by rfl, ?_⟩) hHeld ?_ ?_
            rotate_left
            ·rintro w' ⟨s0, s1, s2, s3⟩
             go_simp
             with_reducible rfl
            rotate_left
            ·simp only [Act.put, List.setIfInBounds_toArray, List.set_cons_zero, List.set_cons_succ, i64_w, i32_w]
             rfl
            refine take_ (i := 3) (N := some 39) (v := ?_) (a' := ?_) #[true, true, true, true, false, true, true, false, false, true, false, true, false, false, true, true, false, false, false, false, false, false, false, false, false, false] rfl rfl (take_ofW HT_.out HW_.out (by kernel_rfl)) (fun _ _ _ h => h) (Or.inl ⟨by rfl, ?_⟩) hHeld ?_ ?_
            rotate_left
            ·rintro w' ⟨s0, s1, s2, s3⟩
             go_simp
             with_reducible rfl
            rotate_left
            ·simp only [Act.put, List.setIfInBounds_toArray, List.set_cons_zero, List.set_cons_succ, i64_w, i32_w]
             rfl
            refine take_ (i := 10) (N := some 46) (v := ?_) (a' := ?_) #[true, true, true, true, false, true, true, false, false, true, true, true, false, false, true, true, false, false, false, false, false, false, false, false, false, false] rfl rfl (take_ofW HT_.out HW_.out (by kernel_rfl)) (fun _ _ _ h => h) (Or.inl ⟨by rfl, ?_⟩) hHeld ?_ ?_
            rotate_left
            ·rintro w' ⟨s0, s1, s2, s3⟩
             go_simp
             with_reducible rfl
            rotate_left
            ·simp only [Act.put, List.setIfInBounds_toArray, List.set_cons_zero, List.set_cons_succ, i64_w, i32_w]
             rfl
            refine take_ (i := 12) (N := some 48) (v := ?_) (a' := ?_) #[true, true, true, true, false, true, true, false, false, true, true, true, true, false, true, true, false, false, false, false, false, false, false, false, false, false] rfl rfl (take_ofW HT_.out HW_.out (by kernel_rfl)) (fun _ _ _ h => h) (Or.inl ⟨by rfl, ?_⟩) hHeld ?_ ?_
            rotate_left
            ·rintro w' ⟨s0, s1, s2, s3⟩
             go_simp
             with_reducible rfl
            rotate_left
            ·simp only [Act.put, List.setIfInBounds_toArray, List.set_cons_zero, List.set_cons_succ, i64_w, i32_w]
             rfl
            refine join_ (σ := Value × Addr × Value × Addr) 8 #[true, true, true, true, true, true, true, true, true, true, true, true, true, true, true, true, true, true, false, false, false, false, false, false, false, false] (fun s_ => [(40, s_.1), (44, .int .i64 (rd y265 (ji44))), (49, s_.2.2.1), (53, .int .i64 (rd y269 (ji47))), (43, .pointer (some (s_.2.1.add ((ji44)).toNat))), (52, .pointer (some (s_.2.2.2.add ((ji47)).toNat)))]) (fun s_ w' => (w'.cell? ⟨gb260, 0, none⟩ = some (.int .i64 a0_0) ∧ w'.cell? ⟨gb260, 1, none⟩ = some (.int .i64 a0_1) ∧ w'.cell? ⟨gb261, 0, none⟩ = some (.int .i64 a1_0) ∧ w'.cell? ⟨gb261, 1, none⟩ = some (.int .i64 a1_1)) ∧ (Kd.R (Kd.int .i64) 3 w' w.heap.size (fun k_ => some k_ ≠ (s_.2.2.1 : Value).ownBlock) s_.1 y265) ∧ (Kd.R (Kd.int .i64) 3 w' w.heap.size (fun k_ => some k_ ≠ (s_.1 : Value).ownBlock) s_.2.2.1 y269) ∧ (∃ c_, (s_.1 : Value) = .slice (some s_.2.1) y265.length c_) ∧ (∃ c_, (s_.2.2.1 : Value) = .slice (some s_.2.2.2) y269.length c_) ∧ (w'.heap[gb260]? = some (.cells #[.int .i64 a0_0, .int .i64 a0_1] 23 (0, 0))) ∧ (w'.heap[gb261]? = some (.cells #[.int .i64 a1_0, .int .i64 a1_1] 23 (0, 0))) ∧ (w'.heap[gb262]? = some (.cells #[.int .i64 x263000_2, .int .i64 x263001_2] 23 (0, 0))) ∧ (Below w.heap.size w w')) ?_ ?_
            rotate_left
            ·intro hJ4_8_13_17
             refine join_ (σ := Value × Addr × Value × Addr) 9 #[true, true, true, true, true, true, true, true, true, true, true, true, true, true, true, true, true, false, false, false, false, false, false, false, false, false] (fun s_ => [(40, s_.1), (44, .int .i64 (rd y265 (ji44))), (49, s_.2.2.1), (43, .pointer (some (s_.2.1.add ((ji44)).toNat))), (52, .pointer (some (s_.2.2.2.add ((ji47)).toNat)))]) (fun s_ w' => (w'.cell? ⟨gb260, 0, none⟩ = some (.int .i64 a0_0) ∧ w'.cell? ⟨gb260, 1, none⟩ = some (.int .i64 a0_1) ∧ w'.cell? ⟨gb261, 0, none⟩ = some (.int .i64 a1_0) ∧ w'.cell? ⟨gb261, 1, none⟩ = some (.int .i64 a1_1)) ∧ (Kd.R (Kd.int .i64) 3 w' w.heap.size (fun k_ => some k_ ≠ (s_.2.2.1 : Value).ownBlock) s_.1 y265) ∧ (Kd.R (Kd.int .i64) 3 w' w.heap.size (fun k_ => some k_ ≠ (s_.1 : Value).ownBlock) s_.2.2.1 y269) ∧ (∃ c_, (s_.1 : Value) = .slice (some s_.2.1) y265.length c_) ∧ (∃ c_, (s_.2.2.1 : Value) = .slice (some s_.2.2.2) y269.length c_) ∧ (w'.heap[gb260]? = some (.cells #[.int .i64 a0_0, .int .i64 a0_1] 23 (0, 0))) ∧ (w'.heap[gb261]? = some (.cells #[.int .i64 a1_0, .int .i64 a1_1] 23 (0, 0))) ∧ (w'.heap[gb262]? = some (.cells #[.int .i64 x263000_2, .int .i64 x263001_2] 23 (0, 0))) ∧ (Below w.heap.size w w')) ?_ ?_
             rotate_left
             ·intro hJ4_8_13
              refine join_ (σ := Value × Addr × Value × Addr) 9 #[true, true, true, true, true, true, true, true, false, true, true, true, true, true, true, true, true, true, false, false, false, false, false, false, false, false] (fun s_ => [(40, s_.1), (49, s_.2.2.1), (53, .int .i64 (rd y269 (ji47))), (43, .pointer (some (s_.2.1.add ((ji44)).toNat))), (52, .pointer (some (s_.2.2.2.add ((ji47)).toNat)))]) (fun s_ w' => (w'.cell? ⟨gb260, 0, none⟩ = some (.int .i64 a0_0) ∧ w'.cell? ⟨gb260, 1, none⟩ = some (.int .i64 a0_1) ∧ w'.cell? ⟨gb261, 0, none⟩ = some (.int .i64 a1_0) ∧ w'.cell? ⟨gb261, 1, none⟩ = some (.int .i64 a1_1)) ∧ (Kd.R (Kd.int .i64) 3 w' w.heap.size (fun k_ => some k_ ≠ (s_.2.2.1 : Value).ownBlock) s_.1 y265) ∧ (Kd.R (Kd.int .i64) 3 w' w.heap.size (fun k_ => some k_ ≠ (s_.1 : Value).ownBlock) s_.2.2.1 y269) ∧ (∃ c_, (s_.1 : Value) = .slice (some s_.2.1) y265.length c_) ∧ (∃ c_, (s_.2.2.1 : Value) = .slice (some s_.2.2.2) y269.length c_) ∧ (w'.heap[gb260]? = some (.cells #[.int .i64 a0_0, .int .i64 a0_1] 23 (0, 0))) ∧ (w'.heap[gb261]? = some (.cells #[.int .i64 a1_0, .int .i64 a1_1] 23 (0, 0))) ∧ (w'.heap[gb262]? = some (.cells #[.int .i64 x263000_2, .int .i64 x263001_2] 23 (0, 0))) ∧ (Below w.heap.size w w')) ?_ ?_
              rotate_left
              ·intro hJ4_13_17
               refine join_ (σ := Value × Addr) 11 #[true, true, true, true, true, true, true, true, true, true, true, true, true, false, true, true, false, false, false, false, false, false, false, false, false, false] (fun s_ => [(40, s_.1), (44, .int .i64 (rd y265 (ji44))), (43, .pointer (some (s_.2.add ((ji44)).toNat)))]) (fun s_ w' => (w'.cell? ⟨gb260, 0, none⟩ = some (.int .i64 a0_0) ∧ w'.cell? ⟨gb260, 1, none⟩ = some (.int .i64 a0_1) ∧ w'.cell? ⟨gb261, 0, none⟩ = some (.int .i64 a1_0) ∧ w'.cell? ⟨gb261, 1, none⟩ = some (.int .i64 a1_1)) ∧ (Kd.R (Kd.int .i64) 3 w' w.heap.size (fun _ => True) s_.1 y265) ∧ (∃ c_, (s_.1 : Value) = .slice (some s_.2) y265.length c_) ∧ (w'.heap[gb260]? = some (.cells #[.int .i64 a0_0, .int .i64 a0_1] 23 (0, 0))) ∧ (w'.heap[gb261]? = some (.cells #[.int .i64 a1_0, .int .i64 a1_1] 23 (0, 0))) ∧ (w'.heap[gb262]? = some (.cells #[.int .i64 x263000_2, .int .i64 x263001_2] 23 (0, 0))) ∧ (Below w.heap.size w w')) ?_ ?_
               rotate_left
               ·intro hJ4_8
                refine join_ (σ := Value × Addr × Value × Addr) 10 #[true, true, true, true, true, true, true, true, false, true, true, true, true, true, true, true, true, false, false, false, false, false, false, false, false, false] (fun s_ => [(40, s_.1), (49, s_.2.2.1), (43, .pointer (some (s_.2.1.add ((ji44)).toNat))), (52, .pointer (some (s_.2.2.2.add ((ji47)).toNat)))]) (fun s_ w' => (w'.cell? ⟨gb260, 0, none⟩ = some (.int .i64 a0_0) ∧ w'.cell? ⟨gb260, 1, none⟩ = some (.int .i64 a0_1) ∧ w'.cell? ⟨gb261, 0, none⟩ = some (.int .i64 a1_0) ∧ w'.cell? ⟨gb261, 1, none⟩ = some (.int .i64 a1_1)) ∧ (Kd.R (Kd.int .i64) 3 w' w.heap.size (fun k_ => some k_ ≠ (s_.2.2.1 : Value).ownBlock) s_.1 y265) ∧ (Kd.R (Kd.int .i64) 3 w' w.heap.size (fun k_ => some k_ ≠ (s_.1 : Value).ownBlock) s_.2.2.1 y269) ∧ (∃ c_, (s_.1 : Value) = .slice (some s_.2.1) y265.length c_) ∧ (∃ c_, (s_.2.2.1 : Value) = .slice (some s_.2.2.2) y269.length c_) ∧ (w'.heap[gb260]? = some (.cells #[.int .i64 a0_0, .int .i64 a0_1] 23 (0, 0))) ∧ (w'.heap[gb261]? = some (.cells #[.int .i64 a1_0, .int .i64 a1_1] 23 (0, 0))) ∧ (w'.heap[gb262]? = some (.cells #[.int .i64 x263000_2, .int .i64 x263001_2] 23 (0, 0))) ∧ (Below w.heap.size w w')) ?_ ?_
                rotate_left
                ·intro hJ4_13
                 refine join_ (σ := Value × Addr) 11 #[true, true, true, true, false, true, true, false, false, true, true, true, true, true, true, true, true, true, false, false, false, false, false, false, false, false] (fun s_ => [(49, s_.1), (53, .int .i64 (rd y269 (ji47))), (52, .pointer (some (s_.2.add ((ji47)).toNat)))]) (fun s_ w' => (w'.cell? ⟨gb260, 0, none⟩ = some (.int .i64 a0_0) ∧ w'.cell? ⟨gb260, 1, none⟩ = some (.int .i64 a0_1) ∧ w'.cell? ⟨gb261, 0, none⟩ = some (.int .i64 a1_0) ∧ w'.cell? ⟨gb261, 1, none⟩ = some (.int .i64 a1_1)) ∧ (Kd.R (Kd.int .i64) 3 w' w.heap.size (fun _ => True) s_.1 y269) ∧ (∃ c_, (s_.1 : Value) = .slice (some s_.2) y269.length c_) ∧ (w'.heap[gb260]? = some (.cells #[.int .i64 a0_0, .int .i64 a0_1] 23 (0, 0))) ∧ (w'.heap[gb261]? = some (.cells #[.int .i64 a1_0, .int .i64 a1_1] 23 (0, 0))) ∧ (w'.heap[gb262]? = some (.cells #[.int .i64 x263000_2, .int .i64 x263001_2] 23 (0, 0))) ∧ (Below w.heap.size w w')) ?_ ?_
                 rotate_left
                 ·intro hJ13_17
                  refine join_ (σ := Value × Addr) 12 #[true, true, true, true, true, true, true, true, false, true, true, true, true, false, true, true, false, false, false, false, false, false, false, false, false, false] (fun s_ => [(40, s_.1), (43, .pointer (some (s_.2.add ((ji44)).toNat)))]) (fun s_ w' => (w'.cell? ⟨gb260, 0, none⟩ = some (.int .i64 a0_0) ∧ w'.cell? ⟨gb260, 1, none⟩ = some (.int .i64 a0_1) ∧ w'.cell? ⟨gb261, 0, none⟩ = some (.int .i64 a1_0) ∧ w'.cell? ⟨gb261, 1, none⟩ = some (.int .i64 a1_1)) ∧ (Kd.R (Kd.int .i64) 3 w' w.heap.size (fun _ => True) s_.1 y265) ∧ (∃ c_, (s_.1 : Value) = .slice (some s_.2) y265.length c_) ∧ (w'.heap[gb260]? = some (.cells #[.int .i64 a0_0, .int .i64 a0_1] 23 (0, 0))) ∧ (w'.heap[gb261]? = some (.cells #[.int .i64 a1_0, .int .i64 a1_1] 23 (0, 0))) ∧ (w'.heap[gb262]? = some (.cells #[.int .i64 x263000_2, .int .i64 x263001_2] 23 (0, 0))) ∧ (Below w.heap.size w w')) ?_ ?_
                  rotate_left
                  ·intro hJ4
                   refine join_ (σ := Value × Addr) 12 #[true, true, true, true, false, true, true, false, false, true, true, true, true, true, true, true, true, false, false, false, false, false, false, false, false, false] (fun s_ => [(49, s_.1), (52, .pointer (some (s_.2.add ((ji47)).toNat)))]) (fun s_ w' => (w'.cell? ⟨gb260, 0, none⟩ = some (.int .i64 a0_0) ∧ w'.cell? ⟨gb260, 1, none⟩ = some (.int .i64 a0_1) ∧ w'.cell? ⟨gb261, 0, none⟩ = some (.int .i64 a1_0) ∧ w'.cell? ⟨gb261, 1, none⟩ = some (.int .i64 a1_1)) ∧ (Kd.R (Kd.int .i64) 3 w' w.heap.size (fun _ => True) s_.1 y269) ∧ (∃ c_, (s_.1 : Value) = .slice (some s_.2) y269.length c_) ∧ (w'.heap[gb260]? = some (.cells #[.int .i64 a0_0, .int .i64 a0_1] 23 (0, 0))) ∧ (w'.heap[gb261]? = some (.cells #[.int .i64 a1_0, .int .i64 a1_1] 23 (0, 0))) ∧ (w'.heap[gb262]? = some (.cells #[.int .i64 x263000_2, .int .i64 x263001_2] 23 (0, 0))) ∧ (Below w.heap.size w w')) ?_ ?_
                   rotate_left
                   ·intro hJ13
                    refine two_ (i := 4) (j := 13) (Ni := some 40) (Nj := some 49) #[true, true, true, true, true, true, true, false, false, true, true, true, true, false, true, true, false, false, false, false, false, false, false, false, false, false] #[true, true, true, true, false, true, true, false, false, true, true, true, true, true, true, true, false, false, false, false, false, false, false, false, false, false] rfl rfl rfl rfl (two_of HT_.out (by kernel_rfl)) (by decide) (by decide) (fun K hK => ?_) (fun K hK => ?_)
                    ·skip
                     refine Kd.R_lit_step (Kd.int .i64) _ 3 ?hg (N := 40) ?hd (xs := ([a0_0, a0_1] : List Int)) (inner := [.int .i64 a0_0, .int .i64 a0_1]) (ok := fun _ => True) (okp := fun _ => True) ?hr ?hp (fun _ hk => hk) trivial (Below.refl _ _) (Nat.le_refl _) (by simp) ?_; (case hd => rfl); (case hg => rfl); (case hr => go_simp); (case hp => exact (Reps.one (show Kd.M (Kd.int .i64) _ _ _ a0_0 [.int .i64 a0_0] from rfl) (Reps.one (show Kd.M (Kd.int .i64) _ _ _ a0_1 [.int .i64 a0_1] from rfl) (Reps.none _ _))))
                     intro v266 w65 ho66 hb hg_ hnew_
                     clear hg_ hnew_
                     (first | rw [← Ny265.out] at ho66 | (simp only [Int.reduceToNat] at ho66; rw [← Ny265.out] at ho66))
                     have n0_ := Aside0.mk (Kd.R_lower ho66 (below_size (by repeat first | exact HB.out | refine below_set ?_ GE260.out | refine below_set ?_ GE261.out | refine below_set ?_ GE262.out)))
                     have n1_ := Aside0.mk (blk_below (g := gb260) (o := .cells #[.int .i64 a0_0, .int .i64 a0_1] 23 (0, 0)) BK260.out hb)
                     have n2_ := Aside0.mk (blk_below (g := gb261) (o := .cells #[.int .i64 a1_0, .int .i64 a1_1] 23 (0, 0)) BK261.out hb)
                     have n3_ := Aside0.mk (blk_below (g := gb262) (o := .cells #[.int .i64 x263000_2, .int .i64 x263001_2] 23 (0, 0)) BK262.out hb)
                     have n4_ := Aside0.mk (below_step (by repeat first | exact HB.out | refine below_set ?_ GE260.out | refine below_set ?_ GE261.out | refine below_set ?_ GE262.out) hb)
                     clear BK260
                     clear BK261
                     clear BK262
                     clear HB
                     have HO267 := n0_
                     have BK260 := n1_
                     have BK261 := n2_
                     have BK262 := n3_
                     have HB := n4_
                     clear n0_ n1_ n2_ n3_ n4_
                     clear hb ho66
                     obtain ⟨Ao67, co67, eo67⟩ := Kd.R_slice HO267.out
                     subst eo67
                     obtain ⟨ado67, fo67, _⟩ := Kd.at_int (Kd.R_reads' HO267.out).2.2 0 (by decide) (by rw [Ny265.out]; simp)
                     cases fo67
                     refine hK.out _ _ ⟨(blk_cell BK260.out 0).trans rfl, (blk_cell BK260.out 1).trans rfl, (blk_cell BK261.out 0).trans rfl, (blk_cell BK261.out 1).trans rfl⟩ (fun hHeld => ?_)
                     clear hK K
                     refine norm_ (a' := ?_) ?_ ?_
                     rotate_left
                     ·show Act.put _ (some 40) _ = _
                      simp only [Act.put, List.setIfInBounds_toArray, List.set_cons_zero, List.set_cons_succ, i64_w, i32_w]
                      rfl
                     refine pure_ (i := 7) (N := some 43) (v := ?_) (a' := ?_) #[true, true, true, true, true, true, true, true, false, true, true, true, true, false, true, true, false, false, false, false, false, false, false, false, false, false] rfl rfl (any_of HT_.out (by kernel_rfl)) (fun _ _ _ h => h) (Or.inl ⟨by rfl, ?_⟩) ?_ ?_
                     rotate_left
                     ·intro w'
                      go_simp
                      with_reducible rfl
                     rotate_left
                     ·simp only [Act.put, List.setIfInBounds_toArray, List.set_cons_zero, List.set_cons_succ, i64_w, i32_w]
                      rfl
                     exact norm_ (by first | (simp only [putAll, Act.put, List.setIfInBounds_toArray, List.set_cons_zero, List.set_cons_succ]; done) | (simp only [putAll, Act.put, List.setIfInBounds_toArray, List.set_cons_zero, List.set_cons_succ]; rfl)) (hJ4 (.slice (some ado67) y265.length co67, ado67) _ ⟨hHeld, HO267.out, ⟨_, rfl⟩, BK260.out, BK261.out, BK262.out, (by repeat first | exact HB.out | refine below_set ?_ GE260.out | refine below_set ?_ GE261.out | refine below_set ?_ GE262.out)⟩)
                    ·skip
                     refine Kd.R_lit_step (Kd.int .i64) _ 3 ?hg (N := 49) ?hd (xs := ([a1_0, a1_1] : List Int)) (inner := [.int .i64 a1_0, .int .i64 a1_1]) (ok := fun _ => True) (okp := fun _ => True) ?hr ?hp (fun _ hk => hk) trivial (Below.refl _ _) (Nat.le_refl _) (by simp) ?_; (case hd => rfl); (case hg => rfl); (case hr => go_simp); (case hp => exact (Reps.one (show Kd.M (Kd.int .i64) _ _ _ a1_0 [.int .i64 a1_0] from rfl) (Reps.one (show Kd.M (Kd.int .i64) _ _ _ a1_1 [.int .i64 a1_1] from rfl) (Reps.none _ _))))
                     intro v270 w65 ho66 hb hg_ hnew_
                     clear hg_ hnew_
                     (first | rw [← Ny269.out] at ho66 | (simp only [Int.reduceToNat] at ho66; rw [← Ny269.out] at ho66))
                     have n0_ := Aside0.mk (Kd.R_lower ho66 (below_size (by repeat first | exact HB.out | refine below_set ?_ GE260.out | refine below_set ?_ GE261.out | refine below_set ?_ GE262.out)))
                     have n1_ := Aside0.mk (blk_below (g := gb260) (o := .cells #[.int .i64 a0_0, .int .i64 a0_1] 23 (0, 0)) BK260.out hb)
                     have n2_ := Aside0.mk (blk_below (g := gb261) (o := .cells #[.int .i64 a1_0, .int .i64 a1_1] 23 (0, 0)) BK261.out hb)
                     have n3_ := Aside0.mk (blk_below (g := gb262) (o := .cells #[.int .i64 x263000_2, .int .i64 x263001_2] 23 (0, 0)) BK262.out hb)
                     have n4_ := Aside0.mk (below_step (by repeat first | exact HB.out | refine below_set ?_ GE260.out | refine below_set ?_ GE261.out | refine below_set ?_ GE262.out) hb)
                     clear BK260
                     clear BK261
                     clear BK262
                     clear HB
                     have HO271 := n0_
                     have BK260 := n1_
                     have BK261 := n2_
                     have BK262 := n3_
                     have HB := n4_
                     clear n0_ n1_ n2_ n3_ n4_
                     clear hb ho66
                     obtain ⟨Ao67, co67, eo67⟩ := Kd.R_slice HO271.out
                     subst eo67
                     obtain ⟨ado67, fo67, _⟩ := Kd.at_int (Kd.R_reads' HO271.out).2.2 0 (by decide) (by rw [Ny269.out]; simp)
                     cases fo67
                     refine hK.out _ _ ⟨(blk_cell BK260.out 0).trans rfl, (blk_cell BK260.out 1).trans rfl, (blk_cell BK261.out 0).trans rfl, (blk_cell BK261.out 1).trans rfl⟩ (fun hHeld => ?_)
                     clear hK K
                     refine norm_ (a' := ?_) ?_ ?_
                     rotate_left
                     ·show Act.put _ (some 49) _ = _
                      simp only [Act.put, List.setIfInBounds_toArray, List.set_cons_zero, List.set_cons_succ, i64_w, i32_w]
                      rfl
                     refine pure_ (i := 16) (N := some 52) (v := ?_) (a' := ?_) #[true, true, true, true, false, true, true, false, false, true, true, true, true, true, true, true, true, false, false, false, false, false, false, false, false, false] rfl rfl (any_of HT_.out (by kernel_rfl)) (fun _ _ _ h => h) (Or.inl ⟨by rfl, ?_⟩) ?_ ?_
                     rotate_left
                     ·intro w'
                      go_simp
                      with_reducible rfl
                     rotate_left
                     ·simp only [Act.put, List.setIfInBounds_toArray, List.set_cons_zero, List.set_cons_succ, i64_w, i32_w]
                      rfl
                     exact norm_ (by first | (simp only [putAll, Act.put, List.setIfInBounds_toArray, List.set_cons_zero, List.set_cons_succ]; done) | (simp only [putAll, Act.put, List.setIfInBounds_toArray, List.set_cons_zero, List.set_cons_succ]; rfl)) (hJ13 (.slice (some ado67) y269.length co67, ado67) _ ⟨hHeld, HO271.out, ⟨_, rfl⟩, BK260.out, BK261.out, BK262.out, (by repeat first | exact HB.out | refine below_set ?_ GE260.out | refine below_set ?_ GE261.out | refine below_set ?_ GE262.out)⟩)
                   ·skip
                    rintro ⟨v270, adz_v270⟩ w68 ⟨hS_, h0_, h1_, h2_, h3_, h4_, h5_⟩
                    have n0_ : Aside0 (Kd.R (Kd.int .i64) 3 w68 w.heap.size (fun _ => True) v270 y269) := ⟨h0_⟩
                    have n1_ : Aside0 (∃ c_, (v270 : Value) = .slice (some adz_v270) y269.length c_) := ⟨h1_⟩
                    have n2_ : Aside0 (w68.heap[gb260]? = some (.cells #[.int .i64 a0_0, .int .i64 a0_1] 23 (0, 0))) := ⟨h2_⟩
                    have n3_ : Aside0 (w68.heap[gb261]? = some (.cells #[.int .i64 a1_0, .int .i64 a1_1] 23 (0, 0))) := ⟨h3_⟩
                    have n4_ : Aside0 (w68.heap[gb262]? = some (.cells #[.int .i64 x263000_2, .int .i64 x263001_2] 23 (0, 0))) := ⟨h4_⟩
                    have n5_ : Aside0 (Below w.heap.size w w68) := ⟨h5_⟩
                    clear BK260
                    clear BK261
                    clear BK262
                    clear HB
                    clear h0_ h1_ h2_ h3_ h4_ h5_
                    have HO271 := n0_
                    have HA_HO271 := n1_
                    have BK260 := n2_
                    have BK261 := n3_
                    have BK262 := n4_
                    have HB := n5_
                    clear n0_ n1_ n2_ n3_ n4_ n5_
                    have hHeld : w68.cell? ⟨gb260, 0, none⟩ = some (.int .i64 a0_0) ∧ w68.cell? ⟨gb260, 1, none⟩ = some (.int .i64 a0_1) ∧ w68.cell? ⟨gb261, 0, none⟩ = some (.int .i64 a1_0) ∧ w68.cell? ⟨gb261, 1, none⟩ = some (.int .i64 a1_1) := hS_
                    obtain ⟨co69, eo69⟩ := HA_HO271.out
                    clear HA_HO271
                    subst eo69
                    refine norm_ (a' := ?_) ?_ ?_
                    rotate_left
                    ·simp only [putAll, Act.put, List.setIfInBounds_toArray, List.set_cons_zero, List.set_cons_succ]
                     rfl
                    refine two_ (i := 4) (j := 17) (Ni := some 40) (Nj := some 53) #[true, true, true, true, true, true, true, false, false, true, true, true, true, true, true, true, true, false, false, false, false, false, false, false, false, false] #[true, true, true, true, false, true, true, false, false, true, true, true, true, true, true, true, true, true, false, false, false, false, false, false, false, false] rfl rfl rfl rfl (two_of HT_.out (by kernel_rfl)) (by decide) (by decide) (fun K hK => ?_) (fun K hK => ?_)
                    ·skip
                     refine Kd.R_lit_step (Kd.int .i64) _ 3 ?hg (N := 40) ?hd (xs := ([a0_0, a0_1] : List Int)) (inner := [.int .i64 a0_0, .int .i64 a0_1]) (ok := fun _ => True) (okp := fun _ => True) ?hr ?hp (fun _ hk => hk) trivial (Below.refl _ _) (Nat.le_refl _) (by simp) ?_; (case hd => rfl); (case hg => rfl); (case hr => go_simp); (case hp => exact (Reps.one (show Kd.M (Kd.int .i64) _ _ _ a0_0 [.int .i64 a0_0] from rfl) (Reps.one (show Kd.M (Kd.int .i64) _ _ _ a0_1 [.int .i64 a0_1] from rfl) (Reps.none _ _))))
                     intro v266 w70 ho71 hb hg_ hnew_
                     clear hg_ hnew_
                     (first | rw [← Ny265.out] at ho71 | (simp only [Int.reduceToNat] at ho71; rw [← Ny265.out] at ho71))
                     have n0_ := Aside0.mk (Kd.R_elder' HO271.out (Kd.R_base ho71) hb)
                     have n1_ := Aside0.mk (Kd.R_lower (Kd.R_new' ho71 (Kd.R_lt HO271.out)) (below_size (by repeat first | exact HB.out | refine below_set ?_ GE260.out | refine below_set ?_ GE261.out | refine below_set ?_ GE262.out)))
                     have n2_ := Aside0.mk (blk_below (g := gb260) (o := .cells #[.int .i64 a0_0, .int .i64 a0_1] 23 (0, 0)) BK260.out hb)
                     have n3_ := Aside0.mk (blk_below (g := gb261) (o := .cells #[.int .i64 a1_0, .int .i64 a1_1] 23 (0, 0)) BK261.out hb)
                     have n4_ := Aside0.mk (blk_below (g := gb262) (o := .cells #[.int .i64 x263000_2, .int .i64 x263001_2] 23 (0, 0)) BK262.out hb)
                     have n5_ := Aside0.mk (below_step (by repeat first | exact HB.out | refine below_set ?_ GE260.out | refine below_set ?_ GE261.out | refine below_set ?_ GE262.out) hb)
                     clear HO271
                     clear BK260
                     clear BK261
                     clear BK262
                     clear HB
                     have HO271 := n0_
                     have HO267 := n1_
                     have BK260 := n2_
                     have BK261 := n3_
                     have BK262 := n4_
                     have HB := n5_
                     clear n0_ n1_ n2_ n3_ n4_ n5_
                     clear hb ho71
                     obtain ⟨Ao72, co72, eo72⟩ := Kd.R_slice HO267.out
                     subst eo72
                     obtain ⟨ado72, fo72, _⟩ := Kd.at_int (Kd.R_reads' HO267.out).2.2 0 (by decide) (by rw [Ny265.out]; simp)
                     cases fo72
                     refine hK.out _ _ ⟨(blk_cell BK260.out 0).trans rfl, (blk_cell BK260.out 1).trans rfl, (blk_cell BK261.out 0).trans rfl, (blk_cell BK261.out 1).trans rfl⟩ (fun hHeld => ?_)
                     clear hK K
                     refine norm_ (a' := ?_) ?_ ?_
                     rotate_left
                     ·show Act.put _ (some 40) _ = _
                      simp only [Act.put, List.setIfInBounds_toArray, List.set_cons_zero, List.set_cons_succ, i64_w, i32_w]
                      rfl
                     refine pure_ (i := 7) (N := some 43) (v := ?_) (a' := ?_) #[true, true, true, true, true, true, true, true, false, true, true, true, true, true, true, true, true, false, false, false, false, false, false, false, false, false] rfl rfl (any_of HT_.out (by kernel_rfl)) (fun _ _ _ h => h) (Or.inl ⟨by rfl, ?_⟩) ?_ ?_
                     rotate_left
                     ·intro w'
                      go_simp
                      with_reducible rfl
                     rotate_left
                     ·simp only [Act.put, List.setIfInBounds_toArray, List.set_cons_zero, List.set_cons_succ, i64_w, i32_w]
                      rfl
                     exact norm_ (by first | (simp only [putAll, Act.put, List.setIfInBounds_toArray, List.set_cons_zero, List.set_cons_succ]; done) | (simp only [putAll, Act.put, List.setIfInBounds_toArray, List.set_cons_zero, List.set_cons_succ]; rfl)) (hJ4_13 (.slice (some ado72) y265.length co72, ado72, .slice (some adz_v270) y269.length co69, adz_v270) _ ⟨hHeld, (by (with_reducible repeat (first | apply Kd.R_alloc | apply Kd.R_drewN | apply Kd.R_drew)); exact Kd.R_mono HO267.out (fun _ hk => hk.2)), (by (with_reducible repeat (first | apply Kd.R_alloc | apply Kd.R_drewN | apply Kd.R_drew)); exact Kd.R_mono HO271.out (fun _ hk => hk.2)), ⟨_, rfl⟩, ⟨_, rfl⟩, BK260.out, BK261.out, BK262.out, (by repeat first | exact HB.out | refine below_set ?_ GE260.out | refine below_set ?_ GE261.out | refine below_set ?_ GE262.out)⟩)
                    ·skip
                     (have p272 : 0 ≤ ((ji47) : Int) := of_decide_eq_true (by assumption); have q272 : (ji47) < (y269.length : Int) := of_decide_eq_true (by assumption); obtain ⟨ad272, e272, hx272_0⟩ := Kd.at_int (Kd.R_reads' HO271.out).2.2 (ji47) p272 q272; obtain rfl : adz_v270 = ad272 := (by injection e272))
                     refine value_ (w1 := ?_) (v := ?_) (by rfl) rfl ?_ ?_
                     rotate_left 2
                     ·go_simp
                      constructor
                      ·rfl
                      ·rfl
                     clear hx272_0
                     refine hK.out _ _ ⟨(blk_cell BK260.out 0).trans rfl, (blk_cell BK260.out 1).trans rfl, (blk_cell BK261.out 0).trans rfl, (blk_cell BK261.out 1).trans rfl⟩ (fun hHeld => ?_)
                     clear hK K
                     refine norm_ (a' := ?_) ?_ ?_
                     rotate_left
                     ·show Act.put _ (some 53) _ = _
                      simp only [Act.put, List.setIfInBounds_toArray, List.set_cons_zero, List.set_cons_succ, i64_w, i32_w]
                      rfl
                     exact norm_ (by first | (simp only [putAll, Act.put, List.setIfInBounds_toArray, List.set_cons_zero, List.set_cons_succ]; done) | (simp only [putAll, Act.put, List.setIfInBounds_toArray, List.set_cons_zero, List.set_cons_succ]; rfl)) (hJ13_17 (.slice (some adz_v270) y269.length co69, adz_v270) _ ⟨hHeld, HO271.out, ⟨_, rfl⟩, BK260.out, BK261.out, BK262.out, (by repeat first | exact HB.out | refine below_set ?_ GE260.out | refine below_set ?_ GE261.out | refine below_set ?_ GE262.out)⟩)
                  ·skip
                   rintro ⟨v266, adz_v266⟩ w68 ⟨hS_, h0_, h1_, h2_, h3_, h4_, h5_⟩
                   have n0_ : Aside0 (Kd.R (Kd.int .i64) 3 w68 w.heap.size (fun _ => True) v266 y265) := ⟨h0_⟩
                   have n1_ : Aside0 (∃ c_, (v266 : Value) = .slice (some adz_v266) y265.length c_) := ⟨h1_⟩
                   have n2_ : Aside0 (w68.heap[gb260]? = some (.cells #[.int .i64 a0_0, .int .i64 a0_1] 23 (0, 0))) := ⟨h2_⟩
                   have n3_ : Aside0 (w68.heap[gb261]? = some (.cells #[.int .i64 a1_0, .int .i64 a1_1] 23 (0, 0))) := ⟨h3_⟩
                   have n4_ : Aside0 (w68.heap[gb262]? = some (.cells #[.int .i64 x263000_2, .int .i64 x263001_2] 23 (0, 0))) := ⟨h4_⟩
                   have n5_ : Aside0 (Below w.heap.size w w68) := ⟨h5_⟩
                   clear BK260
                   clear BK261
                   clear BK262
                   clear HB
                   clear h0_ h1_ h2_ h3_ h4_ h5_
                   have HO267 := n0_
                   have HA_HO267 := n1_
                   have BK260 := n2_
                   have BK261 := n3_
                   have BK262 := n4_
                   have HB := n5_
                   clear n0_ n1_ n2_ n3_ n4_ n5_
                   have hHeld : w68.cell? ⟨gb260, 0, none⟩ = some (.int .i64 a0_0) ∧ w68.cell? ⟨gb260, 1, none⟩ = some (.int .i64 a0_1) ∧ w68.cell? ⟨gb261, 0, none⟩ = some (.int .i64 a1_0) ∧ w68.cell? ⟨gb261, 1, none⟩ = some (.int .i64 a1_1) := hS_
                   obtain ⟨co69, eo69⟩ := HA_HO267.out
                   clear HA_HO267
                   subst eo69
                   refine norm_ (a' := ?_) ?_ ?_
                   rotate_left
                   ·simp only [putAll, Act.put, List.setIfInBounds_toArray, List.set_cons_zero, List.set_cons_succ]
                    rfl
                   refine two_ (i := 8) (j := 13) (Ni := some 44) (Nj := some 49) #[true, true, true, true, true, true, true, true, true, true, true, true, true, false, true, true, false, false, false, false, false, false, false, false, false, false] #[true, true, true, true, true, true, true, true, false, true, true, true, true, true, true, true, false, false, false, false, false, false, false, false, false, false] rfl rfl rfl rfl (two_of HT_.out (by kernel_rfl)) (by decide) (by decide) (fun K hK => ?_) (fun K hK => ?_)
                   ·skip
                    (have p268 : 0 ≤ ((ji44) : Int) := of_decide_eq_true (by assumption); have q268 : (ji44) < (y265.length : Int) := of_decide_eq_true (by assumption); obtain ⟨ad268, e268, hx268_0⟩ := Kd.at_int (Kd.R_reads' HO267.out).2.2 (ji44) p268 q268; obtain rfl : adz_v266 = ad268 := (by injection e268))
                    refine value_ (w1 := ?_) (v := ?_) (by rfl) rfl ?_ ?_
                    rotate_left 2
                    ·go_simp
                     constructor
                     ·rfl
                     ·rfl
                    clear hx268_0
                    refine hK.out _ _ ⟨(blk_cell BK260.out 0).trans rfl, (blk_cell BK260.out 1).trans rfl, (blk_cell BK261.out 0).trans rfl, (blk_cell BK261.out 1).trans rfl⟩ (fun hHeld => ?_)
                    clear hK K
                    refine norm_ (a' := ?_) ?_ ?_
                    rotate_left
                    ·show Act.put _ (some 44) _ = _
                     simp only [Act.put, List.setIfInBounds_toArray, List.set_cons_zero, List.set_cons_succ, i64_w, i32_w]
                     rfl
                    exact norm_ (by first | (simp only [putAll, Act.put, List.setIfInBounds_toArray, List.set_cons_zero, List.set_cons_succ]; done) | (simp only [putAll, Act.put, List.setIfInBounds_toArray, List.set_cons_zero, List.set_cons_succ]; rfl)) (hJ4_8 (.slice (some adz_v266) y265.length co69, adz_v266) _ ⟨hHeld, HO267.out, ⟨_, rfl⟩, BK260.out, BK261.out, BK262.out, (by repeat first | exact HB.out | refine below_set ?_ GE260.out | refine below_set ?_ GE261.out | refine below_set ?_ GE262.out)⟩)
                   ·skip
                    refine Kd.R_lit_step (Kd.int .i64) _ 3 ?hg (N := 49) ?hd (xs := ([a1_0, a1_1] : List Int)) (inner := [.int .i64 a1_0, .int .i64 a1_1]) (ok := fun _ => True) (okp := fun _ => True) ?hr ?hp (fun _ hk => hk) trivial (Below.refl _ _) (Nat.le_refl _) (by simp) ?_; (case hd => rfl); (case hg => rfl); (case hr => go_simp); (case hp => exact (Reps.one (show Kd.M (Kd.int .i64) _ _ _ a1_0 [.int .i64 a1_0] from rfl) (Reps.one (show Kd.M (Kd.int .i64) _ _ _ a1_1 [.int .i64 a1_1] from rfl) (Reps.none _ _))))
                    intro v270 w70 ho71 hb hg_ hnew_
                    clear hg_ hnew_
                    (first | rw [← Ny269.out] at ho71 | (simp only [Int.reduceToNat] at ho71; rw [← Ny269.out] at ho71))
                    have n0_ := Aside0.mk (Kd.R_elder' HO267.out (Kd.R_base ho71) hb)
                    have n1_ := Aside0.mk (Kd.R_lower (Kd.R_new' ho71 (Kd.R_lt HO267.out)) (below_size (by repeat first | exact HB.out | refine below_set ?_ GE260.out | refine below_set ?_ GE261.out | refine below_set ?_ GE262.out)))
                    have n2_ := Aside0.mk (blk_below (g := gb260) (o := .cells #[.int .i64 a0_0, .int .i64 a0_1] 23 (0, 0)) BK260.out hb)
                    have n3_ := Aside0.mk (blk_below (g := gb261) (o := .cells #[.int .i64 a1_0, .int .i64 a1_1] 23 (0, 0)) BK261.out hb)
                    have n4_ := Aside0.mk (blk_below (g := gb262) (o := .cells #[.int .i64 x263000_2, .int .i64 x263001_2] 23 (0, 0)) BK262.out hb)
                    have n5_ := Aside0.mk (below_step (by repeat first | exact HB.out | refine below_set ?_ GE260.out | refine below_set ?_ GE261.out | refine below_set ?_ GE262.out) hb)
                    clear HO267
                    clear BK260
                    clear BK261
                    clear BK262
                    clear HB
                    have HO267 := n0_
                    have HO271 := n1_
                    have BK260 := n2_
                    have BK261 := n3_
                    have BK262 := n4_
                    have HB := n5_
                    clear n0_ n1_ n2_ n3_ n4_ n5_
                    clear hb ho71
                    obtain ⟨Ao72, co72, eo72⟩ := Kd.R_slice HO271.out
                    subst eo72
                    obtain ⟨ado72, fo72, _⟩ := Kd.at_int (Kd.R_reads' HO271.out).2.2 0 (by decide) (by rw [Ny269.out]; simp)
                    cases fo72
                    refine hK.out _ _ ⟨(blk_cell BK260.out 0).trans rfl, (blk_cell BK260.out 1).trans rfl, (blk_cell BK261.out 0).trans rfl, (blk_cell BK261.out 1).trans rfl⟩ (fun hHeld => ?_)
                    clear hK K
                    refine norm_ (a' := ?_) ?_ ?_
                    rotate_left
                    ·show Act.put _ (some 49) _ = _
                     simp only [Act.put, List.setIfInBounds_toArray, List.set_cons_zero, List.set_cons_succ, i64_w, i32_w]
                     rfl
                    refine pure_ (i := 16) (N := some 52) (v := ?_) (a' := ?_) #[true, true, true, true, true, true, true, true, false, true, true, true, true, true, true, true, true, false, false, false, false, false, false, false, false, false] rfl rfl (any_of HT_.out (by kernel_rfl)) (fun _ _ _ h => h) (Or.inl ⟨by rfl, ?_⟩) ?_ ?_
                    rotate_left
                    ·intro w'
                     go_simp
                     with_reducible rfl
                    rotate_left
                    ·simp only [Act.put, List.setIfInBounds_toArray, List.set_cons_zero, List.set_cons_succ, i64_w, i32_w]
                     rfl
                    exact norm_ (by first | (simp only [putAll, Act.put, List.setIfInBounds_toArray, List.set_cons_zero, List.set_cons_succ]; done) | (simp only [putAll, Act.put, List.setIfInBounds_toArray, List.set_cons_zero, List.set_cons_succ]; rfl)) (hJ4_13 (.slice (some adz_v266) y265.length co69, adz_v266, .slice (some ado72) y269.length co72, ado72) _ ⟨hHeld, (by (with_reducible repeat (first | apply Kd.R_alloc | apply Kd.R_drewN | apply Kd.R_drew)); exact Kd.R_mono HO267.out (fun _ hk => hk.2)), (by (with_reducible repeat (first | apply Kd.R_alloc | apply Kd.R_drewN | apply Kd.R_drew)); exact Kd.R_mono HO271.out (fun _ hk => hk.2)), ⟨_, rfl⟩, ⟨_, rfl⟩, BK260.out, BK261.out, BK262.out, (by repeat first | exact HB.out | refine below_set ?_ GE260.out | refine below_set ?_ GE261.out | refine below_set ?_ GE262.out)⟩)
                 ·skip
                  rintro ⟨v270, adz_v270⟩ w68 ⟨hS_, h0_, h1_, h2_, h3_, h4_, h5_⟩
                  have n0_ : Aside0 (Kd.R (Kd.int .i64) 3 w68 w.heap.size (fun _ => True) v270 y269) := ⟨h0_⟩
                  have n1_ : Aside0 (∃ c_, (v270 : Value) = .slice (some adz_v270) y269.length c_) := ⟨h1_⟩
                  have n2_ : Aside0 (w68.heap[gb260]? = some (.cells #[.int .i64 a0_0, .int .i64 a0_1] 23 (0, 0))) := ⟨h2_⟩
                  have n3_ : Aside0 (w68.heap[gb261]? = some (.cells #[.int .i64 a1_0, .int .i64 a1_1] 23 (0, 0))) := ⟨h3_⟩
                  have n4_ : Aside0 (w68.heap[gb262]? = some (.cells #[.int .i64 x263000_2, .int .i64 x263001_2] 23 (0, 0))) := ⟨h4_⟩
                  have n5_ : Aside0 (Below w.heap.size w w68) := ⟨h5_⟩
                  clear BK260
                  clear BK261
                  clear BK262
                  clear HB
                  clear h0_ h1_ h2_ h3_ h4_ h5_
                  have HO271 := n0_
                  have HA_HO271 := n1_
                  have BK260 := n2_
                  have BK261 := n3_
                  have BK262 := n4_
                  have HB := n5_
                  clear n0_ n1_ n2_ n3_ n4_ n5_
                  have hHeld : w68.cell? ⟨gb260, 0, none⟩ = some (.int .i64 a0_0) ∧ w68.cell? ⟨gb260, 1, none⟩ = some (.int .i64 a0_1) ∧ w68.cell? ⟨gb261, 0, none⟩ = some (.int .i64 a1_0) ∧ w68.cell? ⟨gb261, 1, none⟩ = some (.int .i64 a1_1) := hS_
                  obtain ⟨co69, eo69⟩ := HA_HO271.out
                  clear HA_HO271
                  subst eo69
                  refine norm_ (a' := ?_) ?_ ?_
                  rotate_left
                  ·simp only [putAll, Act.put, List.setIfInBounds_toArray, List.set_cons_zero, List.set_cons_succ]
                   rfl
                  refine one_ (i := 4) (N := some 40) #[true, true, true, true, true, true, true, false, false, true, true, true, true, true, true, true, true, true, false, false, false, false, false, false, false, false] rfl rfl (one_of HT_.out (by kernel_rfl)) (by decide) (fun K hK => ?_)
                  refine Kd.R_lit_step (Kd.int .i64) _ 3 ?hg (N := 40) ?hd (xs := ([a0_0, a0_1] : List Int)) (inner := [.int .i64 a0_0, .int .i64 a0_1]) (ok := fun _ => True) (okp := fun _ => True) ?hr ?hp (fun _ hk => hk) trivial (Below.refl _ _) (Nat.le_refl _) (by simp) ?_; (case hd => rfl); (case hg => rfl); (case hr => go_simp); (case hp => exact (Reps.one (show Kd.M (Kd.int .i64) _ _ _ a0_0 [.int .i64 a0_0] from rfl) (Reps.one (show Kd.M (Kd.int .i64) _ _ _ a0_1 [.int .i64 a0_1] from rfl) (Reps.none _ _))))
                  intro v266 w70 ho71 hb hg_ hnew_
                  clear hg_ hnew_
                  (first | rw [← Ny265.out] at ho71 | (simp only [Int.reduceToNat] at ho71; rw [← Ny265.out] at ho71))
                  have n0_ := Aside0.mk (Kd.R_elder' HO271.out (Kd.R_base ho71) hb)
                  have n1_ := Aside0.mk (Kd.R_lower (Kd.R_new' ho71 (Kd.R_lt HO271.out)) (below_size (by repeat first | exact HB.out | refine below_set ?_ GE260.out | refine below_set ?_ GE261.out | refine below_set ?_ GE262.out)))
                  have n2_ := Aside0.mk (blk_below (g := gb260) (o := .cells #[.int .i64 a0_0, .int .i64 a0_1] 23 (0, 0)) BK260.out hb)
                  have n3_ := Aside0.mk (blk_below (g := gb261) (o := .cells #[.int .i64 a1_0, .int .i64 a1_1] 23 (0, 0)) BK261.out hb)
                  have n4_ := Aside0.mk (blk_below (g := gb262) (o := .cells #[.int .i64 x263000_2, .int .i64 x263001_2] 23 (0, 0)) BK262.out hb)
                  have n5_ := Aside0.mk (below_step (by repeat first | exact HB.out | refine below_set ?_ GE260.out | refine below_set ?_ GE261.out | refine below_set ?_ GE262.out) hb)
                  clear HO271
                  clear BK260
                  clear BK261
                  clear BK262
                  clear HB
                  have HO271 := n0_
                  have HO267 := n1_
                  have BK260 := n2_
                  have BK261 := n3_
                  have BK262 := n4_
                  have HB := n5_
                  clear n0_ n1_ n2_ n3_ n4_ n5_
                  clear hb ho71
                  obtain ⟨Ao72, co72, eo72⟩ := Kd.R_slice HO267.out
                  subst eo72
                  obtain ⟨ado72, fo72, _⟩ := Kd.at_int (Kd.R_reads' HO267.out).2.2 0 (by decide) (by rw [Ny265.out]; simp)
                  cases fo72
                  refine hK.out _ _ ⟨(blk_cell BK260.out 0).trans rfl, (blk_cell BK260.out 1).trans rfl, (blk_cell BK261.out 0).trans rfl, (blk_cell BK261.out 1).trans rfl⟩ (fun hHeld => ?_)
                  clear hK K
                  refine norm_ (a' := ?_) ?_ ?_
                  rotate_left
                  ·show Act.put _ (some 40) _ = _
                   simp only [Act.put, List.setIfInBounds_toArray, List.set_cons_zero, List.set_cons_succ, i64_w, i32_w]
                   rfl
                  refine pure_ (i := 7) (N := some 43) (v := ?_) (a' := ?_) #[true, true, true, true, true, true, true, true, false, true, true, true, true, true, true, true, true, true, false, false, false, false, false, false, false, false] rfl rfl (any_of HT_.out (by kernel_rfl)) (fun _ _ _ h => h) (Or.inl ⟨by rfl, ?_⟩) ?_ ?_
                  rotate_left
                  ·intro w'
                   go_simp
                   with_reducible rfl
                  rotate_left
                  ·simp only [Act.put, List.setIfInBounds_toArray, List.set_cons_zero, List.set_cons_succ, i64_w, i32_w]
                   rfl
                  exact norm_ (by first | (simp only [putAll, Act.put, List.setIfInBounds_toArray, List.set_cons_zero, List.set_cons_succ]; done) | (simp only [putAll, Act.put, List.setIfInBounds_toArray, List.set_cons_zero, List.set_cons_succ]; rfl)) (hJ4_13_17 (.slice (some ado72) y265.length co72, ado72, .slice (some adz_v270) y269.length co69, adz_v270) _ ⟨hHeld, (by (with_reducible repeat (first | apply Kd.R_alloc | apply Kd.R_drewN | apply Kd.R_drew)); exact Kd.R_mono HO267.out (fun _ hk => hk.2)), (by (with_reducible repeat (first | apply Kd.R_alloc | apply Kd.R_drewN | apply Kd.R_drew)); exact Kd.R_mono HO271.out (fun _ hk => hk.2)), ⟨_, rfl⟩, ⟨_, rfl⟩, BK260.out, BK261.out, BK262.out, (by repeat first | exact HB.out | refine below_set ?_ GE260.out | refine below_set ?_ GE261.out | refine below_set ?_ GE262.out)⟩)
                ·skip
                 rintro ⟨v266, adz_v266, v270, adz_v270⟩ w71 ⟨hS_, h0_, h1_, h2_, h3_, h4_, h5_, h6_, h7_⟩
                 have n0_ : Aside0 (Kd.R (Kd.int .i64) 3 w71 w.heap.size (fun k_ => some k_ ≠ (v270 : Value).ownBlock) v266 y265) := ⟨h0_⟩
                 have n1_ : Aside0 (Kd.R (Kd.int .i64) 3 w71 w.heap.size (fun k_ => some k_ ≠ (v266 : Value).ownBlock) v270 y269) := ⟨h1_⟩
                 have n2_ : Aside0 (∃ c_, (v266 : Value) = .slice (some adz_v266) y265.length c_) := ⟨h2_⟩
                 have n3_ : Aside0 (∃ c_, (v270 : Value) = .slice (some adz_v270) y269.length c_) := ⟨h3_⟩
                 have n4_ : Aside0 (w71.heap[gb260]? = some (.cells #[.int .i64 a0_0, .int .i64 a0_1] 23 (0, 0))) := ⟨h4_⟩
                 have n5_ : Aside0 (w71.heap[gb261]? = some (.cells #[.int .i64 a1_0, .int .i64 a1_1] 23 (0, 0))) := ⟨h5_⟩
                 have n6_ : Aside0 (w71.heap[gb262]? = some (.cells #[.int .i64 x263000_2, .int .i64 x263001_2] 23 (0, 0))) := ⟨h6_⟩
                 have n7_ : Aside0 (Below w.heap.size w w71) := ⟨h7_⟩
                 clear BK260
                 clear BK261
                 clear BK262
                 clear HB
                 clear h0_ h1_ h2_ h3_ h4_ h5_ h6_ h7_
                 have HO267 := n0_
                 have HO271 := n1_
                 have HA_HO267 := n2_
                 have HA_HO271 := n3_
                 have BK260 := n4_
                 have BK261 := n5_
                 have BK262 := n6_
                 have HB := n7_
                 clear n0_ n1_ n2_ n3_ n4_ n5_ n6_ n7_
                 have hHeld : w71.cell? ⟨gb260, 0, none⟩ = some (.int .i64 a0_0) ∧ w71.cell? ⟨gb260, 1, none⟩ = some (.int .i64 a0_1) ∧ w71.cell? ⟨gb261, 0, none⟩ = some (.int .i64 a1_0) ∧ w71.cell? ⟨gb261, 1, none⟩ = some (.int .i64 a1_1) := hS_
                 obtain ⟨co72, eo72⟩ := HA_HO267.out
                 clear HA_HO267
                 subst eo72
                 obtain ⟨co73, eo73⟩ := HA_HO271.out
                 clear HA_HO271
                 subst eo73
                 refine norm_ (a' := ?_) ?_ ?_
                 rotate_left
                 ·simp only [putAll, Act.put, List.setIfInBounds_toArray, List.set_cons_zero, List.set_cons_succ]
                  rfl
                 refine two_ (i := 8) (j := 17) (Ni := some 44) (Nj := some 53) #[true, true, true, true, true, true, true, true, true, true, true, true, true, true, true, true, true, false, false, false, false, false, false, false, false, false] #[true, true, true, true, true, true, true, true, false, true, true, true, true, true, true, true, true, true, false, false, false, false, false, false, false, false] rfl rfl rfl rfl (two_of HT_.out (by kernel_rfl)) (by decide) (by decide) (fun K hK => ?_) (fun K hK => ?_)
                 ·skip
                  (have p268 : 0 ≤ ((ji44) : Int) := of_decide_eq_true (by assumption); have q268 : (ji44) < (y265.length : Int) := of_decide_eq_true (by assumption); obtain ⟨ad268, e268, hx268_0⟩ := Kd.at_int (Kd.R_reads' HO267.out).2.2 (ji44) p268 q268; obtain rfl : adz_v266 = ad268 := (by injection e268))
                  refine value_ (w1 := ?_) (v := ?_) (by rfl) rfl ?_ ?_
                  rotate_left 2
                  ·go_simp
                   constructor
                   ·rfl
                   ·rfl
                  clear hx268_0
                  refine hK.out _ _ ⟨(blk_cell BK260.out 0).trans rfl, (blk_cell BK260.out 1).trans rfl, (blk_cell BK261.out 0).trans rfl, (blk_cell BK261.out 1).trans rfl⟩ (fun hHeld => ?_)
                  clear hK K
                  refine norm_ (a' := ?_) ?_ ?_
                  rotate_left
                  ·show Act.put _ (some 44) _ = _
                   simp only [Act.put, List.setIfInBounds_toArray, List.set_cons_zero, List.set_cons_succ, i64_w, i32_w]
                   rfl
                  exact norm_ (by first | (simp only [putAll, Act.put, List.setIfInBounds_toArray, List.set_cons_zero, List.set_cons_succ]; done) | (simp only [putAll, Act.put, List.setIfInBounds_toArray, List.set_cons_zero, List.set_cons_succ]; rfl)) (hJ4_8_13 (.slice (some adz_v266) y265.length co72, adz_v266, .slice (some adz_v270) y269.length co73, adz_v270) _ ⟨hHeld, HO267.out, HO271.out, ⟨_, rfl⟩, ⟨_, rfl⟩, BK260.out, BK261.out, BK262.out, (by repeat first | exact HB.out | refine below_set ?_ GE260.out | refine below_set ?_ GE261.out | refine below_set ?_ GE262.out)⟩)
                 ·skip
                  (have p272 : 0 ≤ ((ji47) : Int) := of_decide_eq_true (by assumption); have q272 : (ji47) < (y269.length : Int) := of_decide_eq_true (by assumption); obtain ⟨ad272, e272, hx272_0⟩ := Kd.at_int (Kd.R_reads' HO271.out).2.2 (ji47) p272 q272; obtain rfl : adz_v270 = ad272 := (by injection e272))
                  refine value_ (w1 := ?_) (v := ?_) (by rfl) rfl ?_ ?_
                  rotate_left 2
                  ·go_simp
                   constructor
                   ·rfl
                   ·rfl
                  clear hx272_0
                  refine hK.out _ _ ⟨(blk_cell BK260.out 0).trans rfl, (blk_cell BK260.out 1).trans rfl, (blk_cell BK261.out 0).trans rfl, (blk_cell BK261.out 1).trans rfl⟩ (fun hHeld => ?_)
                  clear hK K
                  refine norm_ (a' := ?_) ?_ ?_
                  rotate_left
                  ·show Act.put _ (some 53) _ = _
                   simp only [Act.put, List.setIfInBounds_toArray, List.set_cons_zero, List.set_cons_succ, i64_w, i32_w]
                   rfl
                  exact norm_ (by first | (simp only [putAll, Act.put, List.setIfInBounds_toArray, List.set_cons_zero, List.set_cons_succ]; done) | (simp only [putAll, Act.put, List.setIfInBounds_toArray, List.set_cons_zero, List.set_cons_succ]; rfl)) (hJ4_13_17 (.slice (some adz_v266) y265.length co72, adz_v266, .slice (some adz_v270) y269.length co73, adz_v270) _ ⟨hHeld, HO267.out, HO271.out, ⟨_, rfl⟩, ⟨_, rfl⟩, BK260.out, BK261.out, BK262.out, (by repeat first | exact HB.out | refine below_set ?_ GE260.out | refine below_set ?_ GE261.out | refine below_set ?_ GE262.out)⟩)
               ·skip
                rintro ⟨v266, adz_v266⟩ w68 ⟨hS_, h0_, h1_, h2_, h3_, h4_, h5_⟩
                have n0_ : Aside0 (Kd.R (Kd.int .i64) 3 w68 w.heap.size (fun _ => True) v266 y265) := ⟨h0_⟩
                have n1_ : Aside0 (∃ c_, (v266 : Value) = .slice (some adz_v266) y265.length c_) := ⟨h1_⟩
                have n2_ : Aside0 (w68.heap[gb260]? = some (.cells #[.int .i64 a0_0, .int .i64 a0_1] 23 (0, 0))) := ⟨h2_⟩
                have n3_ : Aside0 (w68.heap[gb261]? = some (.cells #[.int .i64 a1_0, .int .i64 a1_1] 23 (0, 0))) := ⟨h3_⟩
                have n4_ : Aside0 (w68.heap[gb262]? = some (.cells #[.int .i64 x263000_2, .int .i64 x263001_2] 23 (0, 0))) := ⟨h4_⟩
                have n5_ : Aside0 (Below w.heap.size w w68) := ⟨h5_⟩
                clear BK260
                clear BK261
                clear BK262
                clear HB
                clear h0_ h1_ h2_ h3_ h4_ h5_
                have HO267 := n0_
                have HA_HO267 := n1_
                have BK260 := n2_
                have BK261 := n3_
                have BK262 := n4_
                have HB := n5_
                clear n0_ n1_ n2_ n3_ n4_ n5_
                have hHeld : w68.cell? ⟨gb260, 0, none⟩ = some (.int .i64 a0_0) ∧ w68.cell? ⟨gb260, 1, none⟩ = some (.int .i64 a0_1) ∧ w68.cell? ⟨gb261, 0, none⟩ = some (.int .i64 a1_0) ∧ w68.cell? ⟨gb261, 1, none⟩ = some (.int .i64 a1_1) := hS_
                obtain ⟨co69, eo69⟩ := HA_HO267.out
                clear HA_HO267
                subst eo69
                refine norm_ (a' := ?_) ?_ ?_
                rotate_left
                ·simp only [putAll, Act.put, List.setIfInBounds_toArray, List.set_cons_zero, List.set_cons_succ]
                 rfl
                refine one_ (i := 13) (N := some 49) #[true, true, true, true, true, true, true, true, true, true, true, true, true, true, true, true, false, false, false, false, false, false, false, false, false, false] rfl rfl (one_of HT_.out (by kernel_rfl)) (by decide) (fun K hK => ?_)
                refine Kd.R_lit_step (Kd.int .i64) _ 3 ?hg (N := 49) ?hd (xs := ([a1_0, a1_1] : List Int)) (inner := [.int .i64 a1_0, .int .i64 a1_1]) (ok := fun _ => True) (okp := fun _ => True) ?hr ?hp (fun _ hk => hk) trivial (Below.refl _ _) (Nat.le_refl _) (by simp) ?_; (case hd => rfl); (case hg => rfl); (case hr => go_simp); (case hp => exact (Reps.one (show Kd.M (Kd.int .i64) _ _ _ a1_0 [.int .i64 a1_0] from rfl) (Reps.one (show Kd.M (Kd.int .i64) _ _ _ a1_1 [.int .i64 a1_1] from rfl) (Reps.none _ _))))
                intro v270 w70 ho71 hb hg_ hnew_
                clear hg_ hnew_
                (first | rw [← Ny269.out] at ho71 | (simp only [Int.reduceToNat] at ho71; rw [← Ny269.out] at ho71))
                have n0_ := Aside0.mk (Kd.R_elder' HO267.out (Kd.R_base ho71) hb)
                have n1_ := Aside0.mk (Kd.R_lower (Kd.R_new' ho71 (Kd.R_lt HO267.out)) (below_size (by repeat first | exact HB.out | refine below_set ?_ GE260.out | refine below_set ?_ GE261.out | refine below_set ?_ GE262.out)))
                have n2_ := Aside0.mk (blk_below (g := gb260) (o := .cells #[.int .i64 a0_0, .int .i64 a0_1] 23 (0, 0)) BK260.out hb)
                have n3_ := Aside0.mk (blk_below (g := gb261) (o := .cells #[.int .i64 a1_0, .int .i64 a1_1] 23 (0, 0)) BK261.out hb)
                have n4_ := Aside0.mk (blk_below (g := gb262) (o := .cells #[.int .i64 x263000_2, .int .i64 x263001_2] 23 (0, 0)) BK262.out hb)
                have n5_ := Aside0.mk (below_step (by repeat first | exact HB.out | refine below_set ?_ GE260.out | refine below_set ?_ GE261.out | refine below_set ?_ GE262.out) hb)
                clear HO267
                clear BK260
                clear BK261
                clear BK262
                clear HB
                have HO267 := n0_
                have HO271 := n1_
                have BK260 := n2_
                have BK261 := n3_
                have BK262 := n4_
                have HB := n5_
                clear n0_ n1_ n2_ n3_ n4_ n5_
                clear hb ho71
                obtain ⟨Ao72, co72, eo72⟩ := Kd.R_slice HO271.out
                subst eo72
                obtain ⟨ado72, fo72, _⟩ := Kd.at_int (Kd.R_reads' HO271.out).2.2 0 (by decide) (by rw [Ny269.out]; simp)
                cases fo72
                refine hK.out _ _ ⟨(blk_cell BK260.out 0).trans rfl, (blk_cell BK260.out 1).trans rfl, (blk_cell BK261.out 0).trans rfl, (blk_cell BK261.out 1).trans rfl⟩ (fun hHeld => ?_)
                clear hK K
                refine norm_ (a' := ?_) ?_ ?_
                rotate_left
                ·show Act.put _ (some 49) _ = _
                 simp only [Act.put, List.setIfInBounds_toArray, List.set_cons_zero, List.set_cons_succ, i64_w, i32_w]
                 rfl
                refine pure_ (i := 16) (N := some 52) (v := ?_) (a' := ?_) #[true, true, true, true, true, true, true, true, true, true, true, true, true, true, true, true, true, false, false, false, false, false, false, false, false, false] rfl rfl (any_of HT_.out (by kernel_rfl)) (fun _ _ _ h => h) (Or.inl ⟨by rfl, ?_⟩) ?_ ?_
                rotate_left
                ·intro w'
                 go_simp
                 with_reducible rfl
                rotate_left
                ·simp only [Act.put, List.setIfInBounds_toArray, List.set_cons_zero, List.set_cons_succ, i64_w, i32_w]
                 rfl
                exact norm_ (by first | (simp only [putAll, Act.put, List.setIfInBounds_toArray, List.set_cons_zero, List.set_cons_succ]; done) | (simp only [putAll, Act.put, List.setIfInBounds_toArray, List.set_cons_zero, List.set_cons_succ]; rfl)) (hJ4_8_13 (.slice (some adz_v266) y265.length co69, adz_v266, .slice (some ado72) y269.length co72, ado72) _ ⟨hHeld, (by (with_reducible repeat (first | apply Kd.R_alloc | apply Kd.R_drewN | apply Kd.R_drew)); exact Kd.R_mono HO267.out (fun _ hk => hk.2)), (by (with_reducible repeat (first | apply Kd.R_alloc | apply Kd.R_drewN | apply Kd.R_drew)); exact Kd.R_mono HO271.out (fun _ hk => hk.2)), ⟨_, rfl⟩, ⟨_, rfl⟩, BK260.out, BK261.out, BK262.out, (by repeat first | exact HB.out | refine below_set ?_ GE260.out | refine below_set ?_ GE261.out | refine below_set ?_ GE262.out)⟩)
              ·skip
               rintro ⟨v266, adz_v266, v270, adz_v270⟩ w71 ⟨hS_, h0_, h1_, h2_, h3_, h4_, h5_, h6_, h7_⟩
               have n0_ : Aside0 (Kd.R (Kd.int .i64) 3 w71 w.heap.size (fun k_ => some k_ ≠ (v270 : Value).ownBlock) v266 y265) := ⟨h0_⟩
               have n1_ : Aside0 (Kd.R (Kd.int .i64) 3 w71 w.heap.size (fun k_ => some k_ ≠ (v266 : Value).ownBlock) v270 y269) := ⟨h1_⟩
               have n2_ : Aside0 (∃ c_, (v266 : Value) = .slice (some adz_v266) y265.length c_) := ⟨h2_⟩
               have n3_ : Aside0 (∃ c_, (v270 : Value) = .slice (some adz_v270) y269.length c_) := ⟨h3_⟩
               have n4_ : Aside0 (w71.heap[gb260]? = some (.cells #[.int .i64 a0_0, .int .i64 a0_1] 23 (0, 0))) := ⟨h4_⟩
               have n5_ : Aside0 (w71.heap[gb261]? = some (.cells #[.int .i64 a1_0, .int .i64 a1_1] 23 (0, 0))) := ⟨h5_⟩
               have n6_ : Aside0 (w71.heap[gb262]? = some (.cells #[.int .i64 x263000_2, .int .i64 x263001_2] 23 (0, 0))) := ⟨h6_⟩
               have n7_ : Aside0 (Below w.heap.size w w71) := ⟨h7_⟩
               clear BK260
               clear BK261
               clear BK262
               clear HB
               clear h0_ h1_ h2_ h3_ h4_ h5_ h6_ h7_
               have HO267 := n0_
               have HO271 := n1_
               have HA_HO267 := n2_
               have HA_HO271 := n3_
               have BK260 := n4_
               have BK261 := n5_
               have BK262 := n6_
               have HB := n7_
               clear n0_ n1_ n2_ n3_ n4_ n5_ n6_ n7_
               have hHeld : w71.cell? ⟨gb260, 0, none⟩ = some (.int .i64 a0_0) ∧ w71.cell? ⟨gb260, 1, none⟩ = some (.int .i64 a0_1) ∧ w71.cell? ⟨gb261, 0, none⟩ = some (.int .i64 a1_0) ∧ w71.cell? ⟨gb261, 1, none⟩ = some (.int .i64 a1_1) := hS_
               obtain ⟨co72, eo72⟩ := HA_HO267.out
               clear HA_HO267
               subst eo72
               obtain ⟨co73, eo73⟩ := HA_HO271.out
               clear HA_HO271
               subst eo73
               refine norm_ (a' := ?_) ?_ ?_
               rotate_left
               ·simp only [putAll, Act.put, List.setIfInBounds_toArray, List.set_cons_zero, List.set_cons_succ]
                rfl
               refine one_ (i := 8) (N := some 44) #[true, true, true, true, true, true, true, true, true, true, true, true, true, true, true, true, true, true, false, false, false, false, false, false, false, false] rfl rfl (one_of HT_.out (by kernel_rfl)) (by decide) (fun K hK => ?_)
               (have p268 : 0 ≤ ((ji44) : Int) := of_decide_eq_true (by assumption); have q268 : (ji44) < (y265.length : Int) := of_decide_eq_true (by assumption); obtain ⟨ad268, e268, hx268_0⟩ := Kd.at_int (Kd.R_reads' HO267.out).2.2 (ji44) p268 q268; obtain rfl : adz_v266 = ad268 := (by injection e268))
               refine value_ (w1 := ?_) (v := ?_) (by rfl) rfl ?_ ?_
               rotate_left 2
               ·go_simp
                constructor
                ·rfl
                ·rfl
               clear hx268_0
               refine hK.out _ _ ⟨(blk_cell BK260.out 0).trans rfl, (blk_cell BK260.out 1).trans rfl, (blk_cell BK261.out 0).trans rfl, (blk_cell BK261.out 1).trans rfl⟩ (fun hHeld => ?_)
               clear hK K
               refine norm_ (a' := ?_) ?_ ?_
               rotate_left
               ·show Act.put _ (some 44) _ = _
                simp only [Act.put, List.setIfInBounds_toArray, List.set_cons_zero, List.set_cons_succ, i64_w, i32_w]
                rfl
               exact norm_ (by first | (simp only [putAll, Act.put, List.setIfInBounds_toArray, List.set_cons_zero, List.set_cons_succ]; done) | (simp only [putAll, Act.put, List.setIfInBounds_toArray, List.set_cons_zero, List.set_cons_succ]; rfl)) (hJ4_8_13_17 (.slice (some adz_v266) y265.length co72, adz_v266, .slice (some adz_v270) y269.length co73, adz_v270) _ ⟨hHeld, HO267.out, HO271.out, ⟨_, rfl⟩, ⟨_, rfl⟩, BK260.out, BK261.out, BK262.out, (by repeat first | exact HB.out | refine below_set ?_ GE260.out | refine below_set ?_ GE261.out | refine below_set ?_ GE262.out)⟩)
             ·skip
              rintro ⟨v266, adz_v266, v270, adz_v270⟩ w71 ⟨hS_, h0_, h1_, h2_, h3_, h4_, h5_, h6_, h7_⟩
              have n0_ : Aside0 (Kd.R (Kd.int .i64) 3 w71 w.heap.size (fun k_ => some k_ ≠ (v270 : Value).ownBlock) v266 y265) := ⟨h0_⟩
              have n1_ : Aside0 (Kd.R (Kd.int .i64) 3 w71 w.heap.size (fun k_ => some k_ ≠ (v266 : Value).ownBlock) v270 y269) := ⟨h1_⟩
              have n2_ : Aside0 (∃ c_, (v266 : Value) = .slice (some adz_v266) y265.length c_) := ⟨h2_⟩
              have n3_ : Aside0 (∃ c_, (v270 : Value) = .slice (some adz_v270) y269.length c_) := ⟨h3_⟩
              have n4_ : Aside0 (w71.heap[gb260]? = some (.cells #[.int .i64 a0_0, .int .i64 a0_1] 23 (0, 0))) := ⟨h4_⟩
              have n5_ : Aside0 (w71.heap[gb261]? = some (.cells #[.int .i64 a1_0, .int .i64 a1_1] 23 (0, 0))) := ⟨h5_⟩
              have n6_ : Aside0 (w71.heap[gb262]? = some (.cells #[.int .i64 x263000_2, .int .i64 x263001_2] 23 (0, 0))) := ⟨h6_⟩
              have n7_ : Aside0 (Below w.heap.size w w71) := ⟨h7_⟩
              clear BK260
              clear BK261
              clear BK262
              clear HB
              clear h0_ h1_ h2_ h3_ h4_ h5_ h6_ h7_
              have HO267 := n0_
              have HO271 := n1_
              have HA_HO267 := n2_
              have HA_HO271 := n3_
              have BK260 := n4_
              have BK261 := n5_
              have BK262 := n6_
              have HB := n7_
              clear n0_ n1_ n2_ n3_ n4_ n5_ n6_ n7_
              have hHeld : w71.cell? ⟨gb260, 0, none⟩ = some (.int .i64 a0_0) ∧ w71.cell? ⟨gb260, 1, none⟩ = some (.int .i64 a0_1) ∧ w71.cell? ⟨gb261, 0, none⟩ = some (.int .i64 a1_0) ∧ w71.cell? ⟨gb261, 1, none⟩ = some (.int .i64 a1_1) := hS_
              obtain ⟨co72, eo72⟩ := HA_HO267.out
              clear HA_HO267
              subst eo72
              obtain ⟨co73, eo73⟩ := HA_HO271.out
              clear HA_HO271
              subst eo73
              refine norm_ (a' := ?_) ?_ ?_
              rotate_left
              ·simp only [putAll, Act.put, List.setIfInBounds_toArray, List.set_cons_zero, List.set_cons_succ]
               rfl
              refine one_ (i := 17) (N := some 53) #[true, true, true, true, true, true, true, true, true, true, true, true, true, true, true, true, true, true, false, false, false, false, false, false, false, false] rfl rfl (one_of HT_.out (by kernel_rfl)) (by decide) (fun K hK => ?_)
              (have p272 : 0 ≤ ((ji47) : Int) := of_decide_eq_true (by assumption); have q272 : (ji47) < (y269.length : Int) := of_decide_eq_true (by assumption); obtain ⟨ad272, e272, hx272_0⟩ := Kd.at_int (Kd.R_reads' HO271.out).2.2 (ji47) p272 q272; obtain rfl : adz_v270 = ad272 := (by injection e272))
              refine value_ (w1 := ?_) (v := ?_) (by rfl) rfl ?_ ?_
              rotate_left 2
              ·go_simp
               constructor
               ·rfl
               ·rfl
              clear hx272_0
              refine hK.out _ _ ⟨(blk_cell BK260.out 0).trans rfl, (blk_cell BK260.out 1).trans rfl, (blk_cell BK261.out 0).trans rfl, (blk_cell BK261.out 1).trans rfl⟩ (fun hHeld => ?_)
              clear hK K
              refine norm_ (a' := ?_) ?_ ?_
              rotate_left
              ·show Act.put _ (some 53) _ = _
               simp only [Act.put, List.setIfInBounds_toArray, List.set_cons_zero, List.set_cons_succ, i64_w, i32_w]
               rfl
              exact norm_ (by first | (simp only [putAll, Act.put, List.setIfInBounds_toArray, List.set_cons_zero, List.set_cons_succ]; done) | (simp only [putAll, Act.put, List.setIfInBounds_toArray, List.set_cons_zero, List.set_cons_succ]; rfl)) (hJ4_8_13_17 (.slice (some adz_v266) y265.length co72, adz_v266, .slice (some adz_v270) y269.length co73, adz_v270) _ ⟨hHeld, HO267.out, HO271.out, ⟨_, rfl⟩, ⟨_, rfl⟩, BK260.out, BK261.out, BK262.out, (by repeat first | exact HB.out | refine below_set ?_ GE260.out | refine below_set ?_ GE261.out | refine below_set ?_ GE262.out)⟩)
            rintro ⟨v266, adz_v266, v270, adz_v270⟩ w71 ⟨hS_, h0_, h1_, h2_, h3_, h4_, h5_, h6_, h7_⟩
            have n0_ : Aside0 (Kd.R (Kd.int .i64) 3 w71 w.heap.size (fun k_ => some k_ ≠ (v270 : Value).ownBlock) v266 y265) := ⟨h0_⟩
            have n1_ : Aside0 (Kd.R (Kd.int .i64) 3 w71 w.heap.size (fun k_ => some k_ ≠ (v266 : Value).ownBlock) v270 y269) := ⟨h1_⟩
            have n2_ : Aside0 (∃ c_, (v266 : Value) = .slice (some adz_v266) y265.length c_) := ⟨h2_⟩
            have n3_ : Aside0 (∃ c_, (v270 : Value) = .slice (some adz_v270) y269.length c_) := ⟨h3_⟩
            have n4_ : Aside0 (w71.heap[gb260]? = some (.cells #[.int .i64 a0_0, .int .i64 a0_1] 23 (0, 0))) := ⟨h4_⟩
            have n5_ : Aside0 (w71.heap[gb261]? = some (.cells #[.int .i64 a1_0, .int .i64 a1_1] 23 (0, 0))) := ⟨h5_⟩
            have n6_ : Aside0 (w71.heap[gb262]? = some (.cells #[.int .i64 x263000_2, .int .i64 x263001_2] 23 (0, 0))) := ⟨h6_⟩
            have n7_ : Aside0 (Below w.heap.size w w71) := ⟨h7_⟩
            clear BK260
            clear BK261
            clear BK262
            clear HB
            clear h0_ h1_ h2_ h3_ h4_ h5_ h6_ h7_
            have HO267 := n0_
            have HO271 := n1_
            have HA_HO267 := n2_
            have HA_HO271 := n3_
            have BK260 := n4_
            have BK261 := n5_
            have BK262 := n6_
            have HB := n7_
            clear n0_ n1_ n2_ n3_ n4_ n5_ n6_ n7_
            have hHeld : w71.cell? ⟨gb260, 0, none⟩ = some (.int .i64 a0_0) ∧ w71.cell? ⟨gb260, 1, none⟩ = some (.int .i64 a0_1) ∧ w71.cell? ⟨gb261, 0, none⟩ = some (.int .i64 a1_0) ∧ w71.cell? ⟨gb261, 1, none⟩ = some (.int .i64 a1_1) := hS_
            obtain ⟨co72, eo72⟩ := HA_HO267.out
            clear HA_HO267
            subst eo72
            obtain ⟨co73, eo73⟩ := HA_HO271.out
            clear HA_HO271
            subst eo73
            refine norm_ (a' := ?_) ?_ ?_
            rotate_left
            ·simp only [putAll, Act.put, List.setIfInBounds_toArray, List.set_cons_zero, List.set_cons_succ]
             rfl
            refine one_ (i := 18) (N := some 54) #[true, true, true, true, true, true, true, true, true, true, true, true, true, true, true, true, true, true, true, false, false, false, false, false, false, false] rfl rfl (one_of HT_.out (by kernel_rfl)) (by decide) (fun K hK => ?_)
            refine goes_ Try.func38 (by kernel_rfl) rfl #[.int .i64 (rd y265 (ji44)), .int .i64 (rd y269 (ji47))] (by rfl) rfl rfl (by (try simp only [List.map_toArray, List.map_cons, List.map_nil]); first | done | (simp only [hji44, hji47]; rfl) | rfl | (simp only [List.length_drop, List.length_take]; rfl)) ?_
            with_reducible refine (flagstoneref37_quotient.calls k2 (rd y265 (ji44)) (rd y269 (ji47)) t273 t274 false _ A50.out).mono ?_
            rintro e w' ⟨rfl, ⟨nd, rfl⟩⟩
            refine ⟨_, rfl, ?_⟩
            refine hK.out _ _ ⟨(blk_cell BK260.out 0).trans rfl, (blk_cell BK260.out 1).trans rfl, (blk_cell BK261.out 0).trans rfl, (blk_cell BK261.out 1).trans rfl⟩ (fun hHeld => ?_)
            clear hK K
            refine norm_ (a' := ?_) ?_ ?_
            rotate_left
            ·show Act.put _ (some 54) _ = _
             simp only [Act.put, List.setIfInBounds_toArray, List.set_cons_zero, List.set_cons_succ, i64_w, i32_w]
             rfl
            refine pure_ (i := 19) (N := some 35) (v := ?_) (a' := ?_) #[true, true, true, true, true, true, true, true, true, true, true, true, true, true, true, true, true, true, true, true, false, false, false, false, false, false] rfl rfl (any_of HT_.out (by kernel_rfl)) (fun _ _ _ h => h) (Or.inl ⟨by rfl, ?_⟩) ?_ ?_
            rotate_left
            ·intro w'
             go_simp
             with_reducible rfl
            rotate_left
            ·simp only [Act.put, List.setIfInBounds_toArray, List.set_cons_zero, List.set_cons_succ, i64_w, i32_w]
             rfl
            refine pure_ (i := 20) (N := some 55) (v := ?_) (a' := ?_) #[true, true, true, true, true, true, true, true, true, true, true, true, true, true, true, true, true, true, true, true, true, false, false, false, false, false] rfl rfl (any_of HT_.out (by kernel_rfl)) (fun _ _ _ h => h) (Or.inl ⟨by rfl, ?_⟩) ?_ ?_
            rotate_left
            ·intro w'
             go_simp
             with_reducible rfl
            rotate_left
            ·simp only [Act.put, List.setIfInBounds_toArray, List.set_cons_zero, List.set_cons_succ, i64_w, i32_w]
             rfl
            refine pure_ (i := 21) (N := some 56) (v := ?_) (a' := ?_) #[true, true, true, true, true, true, true, true, true, true, true, true, true, true, true, true, true, true, true, true, true, true, false, false, false, false] rfl rfl (any_of HT_.out (by kernel_rfl)) (fun _ _ _ h => h) (Or.inl ⟨by rfl, ?_⟩) ?_ ?_
            rotate_left
            ·intro w'
             go_simp
             with_reducible rfl
            rotate_left
            ·simp only [Act.put, List.setIfInBounds_toArray, List.set_cons_zero, List.set_cons_succ, i64_w, i32_w]
             rfl
            refine pure_ (i := 22) (N := some 57) (v := ?_) (a' := ?_) #[true, true, true, true, true, true, true, true, true, true, true, true, true, true, true, true, true, true, true, true, true, true, true, false, false, false] rfl rfl (any_of HT_.out (by kernel_rfl)) (fun _ _ _ h => h) (Or.inl ⟨by rfl, ?_⟩) ?_ ?_
            rotate_left
            ·intro w'
             go_simp
             with_reducible rfl
            rotate_left
            ·simp only [Act.put, List.setIfInBounds_toArray, List.set_cons_zero, List.set_cons_succ, i64_w, i32_w]
             rfl
            refine pure_ (i := 23) (N := some 9) (v := ?_) (a' := ?_) #[true, true, true, true, true, true, true, true, true, true, true, true, true, true, true, true, true, true, true, true, true, true, true, true, false, false] rfl rfl (any_of HT_.out (by kernel_rfl)) (fun _ _ _ h => h) (Or.inl ⟨by rfl, ?_⟩) ?_ ?_
            rotate_left
            ·intro w'
             go_simp
             with_reducible rfl
            rotate_left
            ·simp only [Act.put, List.setIfInBounds_toArray, List.set_cons_zero, List.set_cons_succ, i64_w, i32_w]
             rfl
            refine pure_ (i := 24) (N := some 10) (v := ?_) (a' := ?_) #[true, true, true, true, true, true, true, true, true, true, true, true, true, true, true, true, true, true, true, true, true, true, true, true, true, false] rfl rfl (any_of HT_.out (by kernel_rfl)) (fun _ _ _ h => h) (Or.inl ⟨by rfl, ?_⟩) ?_ ?_
            rotate_left
            ·intro w'
             go_simp
             with_reducible rfl
            rotate_left
            ·simp only [Act.put, List.setIfInBounds_toArray, List.set_cons_zero, List.set_cons_succ, i64_w, i32_w]
             rfl
            refine pure_ (i := 25) (N := some 11) (v := ?_) (a' := ?_) #[true, true, true, true, true, true, true, true, true, true, true, true, true, true, true, true, true, true, true, true, true, true, true, true, true, true] rfl rfl (any_of HT_.out (by kernel_rfl)) (fun _ _ _ h => h) (Or.inl ⟨by rfl, ?_⟩) ?_ ?_
            rotate_left
            ·intro w'
             go_simp
             with_reducible rfl
            rotate_left
            ·simp only [Act.put, List.setIfInBounds_toArray, List.set_cons_zero, List.set_cons_succ, i64_w, i32_w]
             rfl
            refine done_ (done_of HT_.out (by kernel_rfl)) ?_
            have hnb74 := NB262_260.out
            have hnc74 := NB260_262.out
            have hnb75 := NB262_261.out
            have hnc75 := NB261_262.out
            have hcz76_0 : w71.cell? ⟨gb262, 0, none⟩ = some (.int .i64 x263000_2) := (blk_cell BK262.out 0).trans rfl
            have hcz76_1 : w71.cell? ⟨gb262, 1, none⟩ = some (.int .i64 x263001_2) := (blk_cell BK262.out 1).trans rfl
            have hfz76_0 := blk_frozen BK262.out 0
            have hfz76_1 := blk_frozen BK262.out 1
            try go_wp2
            refine bodyPost_ret (results_ct rfl _ _ gb262 23 #[.int .i64 0, .int .i64 0] (0, 0) _ rfl (by (with_reducible repeat (first | refine blk_drewN ?_ _ | refine blk_drew ?_ | refine blk_alloc ?_ _)); refine blk_put (cs := #[.int .i64 0, .int .i64 x263001_2]) ?_ 1 _ rfl; (with_reducible repeat (first | refine blk_drewN ?_ _ | refine blk_drew ?_ | refine blk_alloc ?_ _)); refine blk_put (cs := #[.int .i64 x263000_2, .int .i64 x263001_2]) ?_ 0 _ rfl; (with_reducible repeat (first | refine blk_drewN ?_ _ | refine blk_drew ?_ | refine blk_alloc ?_ _)); exact BK262.out) Try.underlying23 rfl (by kernel_rfl)) rfl ?_
            exact ⟨by first | rfl | (simp [errW_none, errW_some] <;> rfl) | (simp only [← hji44, ← hji47]; first | rfl | (simp [errW_none, errW_some] <;> rfl)) | (simp [*, errW_none, errW_some] <;> rfl), by repeat (first | (with_reducible first | exact HB.out | apply below_alloc | apply pw_below_drewN | apply below_drew1 | refine below_set ?_ GE260.out | refine below_set ?_ GE261.out | refine below_set ?_ GE262.out) | exact HB.out)⟩
          ·rw [if_neg c49] at H
           exact absurd H (by simp)
         ·rw [if_neg c48] at H
          exact absurd H (by simp)
        ·rw [if_neg c46] at H
         exact absurd H (by simp)
       ·rw [if_neg c45] at H
        exact absurd H (by simp)
      ·rw [if_neg c43] at H
       have c43b0 : decide (x8_2 < 4) = false := decide_eq_false c43
       clear c43
       simp only [Option.some.injEq, Prod.mk.injEq] at H
       obtain ⟨rfl, rfl, rfl⟩ := H
       have hnb77 := NB262_260.out
       have hnc77 := NB260_262.out
       have hnb78 := NB262_261.out
       have hnc78 := NB261_262.out
       have hcz79_0 : wr.cell? ⟨gb262, 0, none⟩ = some (.int .i64 x263000_2) := (blk_cell BK262.out 0).trans rfl
       have hcz79_1 : wr.cell? ⟨gb262, 1, none⟩ = some (.int .i64 x263001_2) := (blk_cell BK262.out 1).trans rfl
       have hfz79_0 := blk_frozen BK262.out 0
       have hfz79_1 := blk_frozen BK262.out 1
       go_wp2
       refine bodyPost_ret (results_ct rfl _ _ gb262 23 #[.int .i64 x6_2, .int .i64 x7_2] (0, 0) _ rfl (by (with_reducible repeat (first | refine blk_drewN ?_ _ | refine blk_drew ?_ | refine blk_alloc ?_ _)); refine blk_put (cs := #[.int .i64 x6_2, .int .i64 x263001_2]) ?_ 1 _ rfl; (with_reducible repeat (first | refine blk_drewN ?_ _ | refine blk_drew ?_ | refine blk_alloc ?_ _)); refine blk_put (cs := #[.int .i64 x263000_2, .int .i64 x263001_2]) ?_ 0 _ rfl; (with_reducible repeat (first | refine blk_drewN ?_ _ | refine blk_drew ?_ | refine blk_alloc ?_ _)); exact BK262.out) Try.underlying23 rfl (by kernel_rfl)) rfl ?_
       exact ⟨rfl, by repeat first | exact HB.out | refine below_set ?_ GE260.out | refine below_set ?_ GE261.out | refine below_set ?_ GE262.out⟩
end Go.Proofs.Ytplpmndchdockaa.Pr
