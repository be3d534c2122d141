-- Written by a program of this session over the kit's print of the translation. Not trusted: Lean checks it.
import Derived.Test.YtplpmndchdockaaPr0
import Derived.Test.YtplpmndchdockaaPr8
namespace Go.Proofs.Ytplpmndchdockaa.Pr
open Go.RowKit Go.Proofs.YtplpmndchdockaaV.PrintWords Go.Proofs.YtplpmndchdockaaV.PrintLast Go.Proofs.YtplpmndchdockaaV.PrintMore
attribute [local go_sem] max2_int min2_int max_two min_two max_three min_three max_four min_four   -- for this text's walks alone
set_option linter.unusedVariables false
set_option linter.unusedSimpArgs false
/-! ### flagstoneref37_Mul: function 27 -/
mutual
def flagstoneref37_Mul.j0 : Nat → Bool → Int → Int → Int → Int → Option (Int × Int × Bool)
 | 0, _, _, _, _, _ => none
 | k + 1, x19, x236000, x236001, x237000, x237001 => if x19 = true then (some (0, 0, false)) else (flagstoneref37_Mul.l0 k 2305843009213693952 (-2305843009213693952) 0 x236000 x236001 x237000 x237001)
def flagstoneref37_Mul.l0 : Nat → Int → Int → Int → Int → Int → Int → Int → Option (Int × Int × Bool)
 | 0, _, _, _, _, _, _, _ => none
 | k + 1, x6, x7, x8, x236000, x236001, x237000, x237001 => if x8 < 4 then ((some (([x236000, x236001] : List Int) : List Int)).bind fun y240 => (if 0 ≤ (wrap64 (Int.tdiv x8 2)) then (if (wrap64 (Int.tdiv x8 2)) < (y240.length : Int) then ((some (([x237000, x237001] : List Int) : List Int)).bind fun y244 => (if 0 ≤ (Int.tmod x8 2) then (if (Int.tmod x8 2) < (y244.length : Int) then ((flagstoneref37_product.f k (rd y240 (wrap64 (Int.tdiv x8 2))) (rd y244 (Int.tmod x8 2))).bind fun bt248 => (if bt248.2.2 = true then (flagstoneref37_Mul.l0 k (mn x6 bt248.1) (mx x7 bt248.2.1) (wrap64 (x8 + 1)) x236000 x236001 x237000 x237001) else (some (0, 0, false)))) else (none)) else (none))) else (none)) else (none))) else (some (x6, x7, true))
end
def flagstoneref37_Mul.f (k : Nat) (a0_0 : Int) (a0_1 : Int) (a1_0 : Int) (a1_1 : Int) : Option (Int × Int × Bool) := (flagstoneref37_Valid.f a0_0 a0_1).bind fun t238 => (if t238 = true then ((flagstoneref37_Valid.f a1_0 a1_1).bind fun t239 => (flagstoneref37_Mul.j0 k (!t239) a0_0 a0_1 a1_0 a1_1)) else (flagstoneref37_Mul.j0 k true a0_0 a0_1 a1_0 a1_1))
theorem flagstoneref37_Mul.mono_l : ∀ k, (∀ y0 y1 y2 y3 y4, LeO (flagstoneref37_Mul.j0 k y0 y1 y2 y3 y4) (flagstoneref37_Mul.j0 (k + 1) y0 y1 y2 y3 y4)) ∧ (∀ y0 y1 y2 y3 y4 y5 y6, LeO (flagstoneref37_Mul.l0 k y0 y1 y2 y3 y4 y5 y6) (flagstoneref37_Mul.l0 (k + 1) y0 y1 y2 y3 y4 y5 y6))
 | 0 => ⟨fun _ _ _ _ _ r h => by simp [flagstoneref37_Mul.j0] at h, fun _ _ _ _ _ _ _ r h => by simp [flagstoneref37_Mul.l0] at h⟩
 | k + 1 => by
  obtain ⟨ih0, ih1⟩ := flagstoneref37_Mul.mono_l k
  refine ⟨?_, ?_⟩
  ·intro y0 y1 y2 y3 y4
   unfold flagstoneref37_Mul.j0
   repeat' first
   | (with_reducible exact ih0 _ _ _ _ _)
   | (with_reducible exact ih1 _ _ _ _ _ _ _)
   | (with_reducible exact flagstoneref37_product.mono _ _ _)
   | (with_reducible exact LeO.refl _)
   | (with_reducible exact LeO.none _)
   | (with_reducible refine LeO.ite ?_ ?_)
   | (with_reducible refine LeO.bind ?_ (fun _ => ?_))
   | exact ih0 _ _ _ _ _
   | exact ih1 _ _ _ _ _ _ _
   | exact flagstoneref37_product.mono _ _ _
   | exact LeO.none _
   | refine LeO.ite ?_ ?_
   | refine LeO.bind ?_ (fun _ => ?_)
  ·intro y0 y1 y2 y3 y4 y5 y6
   unfold flagstoneref37_Mul.l0
   repeat' first
   | (with_reducible exact ih0 _ _ _ _ _)
   | (with_reducible exact ih1 _ _ _ _ _ _ _)
   | (with_reducible exact flagstoneref37_product.mono _ _ _)
   | (with_reducible exact LeO.refl _)
   | (with_reducible exact LeO.none _)
   | (with_reducible refine LeO.ite ?_ ?_)
   | (with_reducible refine LeO.bind ?_ (fun _ => ?_))
   | exact ih0 _ _ _ _ _
   | exact ih1 _ _ _ _ _ _ _
   | exact flagstoneref37_product.mono _ _ _
   | exact LeO.none _
   | refine LeO.ite ?_ ?_
   | refine LeO.bind ?_ (fun _ => ?_)
theorem flagstoneref37_Mul.mono : ∀ a0 a1 a2 a3 k, LeO (flagstoneref37_Mul.f k a0 a1 a2 a3) (flagstoneref37_Mul.f (k + 1) a0 a1 a2 a3) := by
 intro a0 a1 a2 a3 k
 obtain ⟨ih0, ih1⟩ := flagstoneref37_Mul.mono_l k
 unfold flagstoneref37_Mul.f
 repeat' first
   | (with_reducible exact ih0 _ _ _ _ _)
   | (with_reducible exact ih1 _ _ _ _ _ _ _)
   | (with_reducible exact flagstoneref37_product.mono _ _ _)
   | (with_reducible exact LeO.refl _)
   | (with_reducible exact LeO.none _)
   | (with_reducible refine LeO.ite ?_ ?_)
   | (with_reducible refine LeO.bind ?_ (fun _ => ?_))
   | exact ih0 _ _ _ _ _
   | exact ih1 _ _ _ _ _ _ _
   | exact flagstoneref37_product.mono _ _ _
   | exact LeO.none _
   | refine LeO.ite ?_ ?_
   | refine LeO.bind ?_ (fun _ => ?_)
def flagstoneref37_Mul.T7 : Bool × List (List Nat × List Nat) := (true, [([], []), ([0], [0]), ([], []), ([2], [2]), ([1, 3], [1, 3]), ([], []), ([5], [5]), ([4, 6], [4, 6]), ([7], [7]), ([], []), ([9], [9]), ([], []), ([11], [11]), ([10, 12], [10, 12]), ([], []), ([14], [14]), ([13, 15], [13, 15]), ([16], [16]), ([8, 17], [8, 17]), ([18], [18]), ([19], [19]), ([19], [19]), ([19], [19]), ([20, 18, 0, 1, 2, 3, 4, 5, 6, 7, 8, 9, 10, 11, 12, 13, 14, 15, 16, 17, 18, 19, 20], [20]), ([21, 23, 0, 1, 2, 3, 4, 5, 6, 7, 8, 9, 10, 11, 12, 13, 14, 15, 16, 17, 18, 19, 20, 21, 23], [21]), ([22, 24, 0, 1, 2, 3, 4, 5, 6, 7, 8, 9, 10, 11, 12, 13, 14, 15, 16, 17, 18, 19, 20, 21, 22, 23, 24], [22])])
def flagstoneref37_Mul.B7 : List Nat := [0, 1, 0, 4, 15, 0, 32, 127, 255, 0, 512, 0, 2048, 7680, 0, 16384, 65024, 130560, 262143, 524287, 1048575, 1048575, 1048575, 2097151, 12582911, 33554431]
theorem flagstoneref37_Mul.tab7 : rtab .any (opsOf Try.f27 7) = flagstoneref37_Mul.T7 := by kernel_rfl
theorem flagstoneref37_Mul.bits7 : waitsOk flagstoneref37_Mul.T7.2 flagstoneref37_Mul.B7 = true := by kernel_rfl
set_option maxHeartbeats 8000000 in
set_option maxRecDepth 100000 in
theorem flagstoneref37_Mul.calls (k : Nat) (a0_0 : Int) (a0_1 : Int) (a1_0 : Int) (a1_1 : Int) (r1 : Int) (r2 : Int) (r3 : Bool) (w : World) (h : flagstoneref37_Mul.f k a0_0 a0_1 a1_0 a1_1 = some (r1, r2, r3)) :
  Calls Try.prog 27 #[.agg #[.int .i64 a0_0, .int .i64 a0_1], .agg #[.int .i64 a1_0, .int .i64 a1_1]] w fun e w' => e = .returned (.tuple #[.agg #[.int .i64 r1, .int .i64 r2], .bool r3]) ∧ Below w.heap.size w w' := by
 have hu23 := Try.underlying23
 have HB := Aside0.mk (Below.refl w.heap.size w)
 have H : ((flagstoneref37_Valid.f a0_0 a0_1).bind fun t238 => (if t238 = true then ((flagstoneref37_Valid.f a1_0 a1_1).bind fun t239 => (flagstoneref37_Mul.j0 k (!t239) a0_0 a0_1 a1_0 a1_1)) else (flagstoneref37_Mul.j0 k true a0_0 a0_1 a1_0 a1_1))) = some (r1, r2, r3) := h
 clear h
 have HC3 := Aside0.mk H
 clear H
 go_enter Try.func27, Try.ntmps27
 go_upto_region 1 with (first | ((with_reducible refine gate_dst (N := 2) rfl ?_); refine box_event ?hg (N := 2) ?hd (cs := #[.int .i64 a0_0, .int .i64 a0_1]) (t := 23) ?hr ?_; (case hd => rfl); (case hg => rfl); (case hr => go_simp); intro gb235 hg w4 hbox hb; have n0_ := Aside0.mk (below_step HB.out hb); have n1_ := Aside0.mk (hbox); have n2_ := Aside0.mk ((by rw [hg]; exact (below_size HB.out) : w.heap.size ≤ gb235)); have n3_ := Aside0.mk ((by rw [hg]; exact (below_size HB.out) : w.heap.size ≤ gb235)); clear HB; have HB := n0_; have BK235 := n1_; have GW235 := n2_; have GE235 := n3_; clear n0_ n1_ n2_ n3_; clear hb hbox hg) | ((with_reducible refine gate_dst (N := 3) rfl ?_); refine box_event ?hg (N := 3) ?hd (cs := #[.int .i64 a1_0, .int .i64 a1_1]) (t := 23) ?hr ?_; (case hd => rfl); (case hg => rfl); (case hr => go_simp); intro gb236 hg w5 hbox hb; have n0_ := Aside0.mk (blk_below (g := gb235) (o := .cells #[.int .i64 a0_0, .int .i64 a0_1] 23 (0, 0)) BK235.out hb); have n1_ := Aside0.mk (below_step (by repeat first | exact HB.out | refine below_set ?_ GE235.out) hb); have n2_ := Aside0.mk (hbox); have n3_ := Aside0.mk ((by rw [hg]; exact (below_size (by repeat first | exact HB.out | refine below_set ?_ GE235.out)) : w.heap.size ≤ gb236)); have n4_ := Aside0.mk ((by rw [hg]; exact (below_size (by repeat first | exact HB.out | refine below_set ?_ GE235.out)) : w.heap.size ≤ gb236)); have n5_ := Aside0.mk ((by rw [hg]; exact Nat.ne_of_lt (blk_lt (g := gb235) (o := .cells #[.int .i64 a0_0, .int .i64 a0_1] 23 (0, 0)) BK235.out) : gb235 ≠ gb236)); have n6_ := Aside0.mk ((by rw [hg]; exact Nat.ne_of_gt (blk_lt (g := gb235) (o := .cells #[.int .i64 a0_0, .int .i64 a0_1] 23 (0, 0)) BK235.out) : gb236 ≠ gb235)); clear BK235; clear HB; have BK235 := n0_; have HB := n1_; have BK236 := n2_; have GW236 := n3_; have GE236 := n4_; have NB235_236 := n5_; have NB236_235 := n6_; clear n0_ n1_ n2_ n3_ n4_ n5_ n6_; clear hb hbox hg) | ((with_reducible refine gate_dst (N := 4) rfl ?_); refine box_event ?hg (N := 4) ?hd (cs := #[.int .i64 0, .int .i64 0]) (t := 23) ?hr ?_; (case hd => rfl); (case hg => rfl); (case hr => go_simp); intro gb237 hg w6 hbox hb; have n0_ := Aside0.mk (blk_below (g := gb235) (o := .cells #[.int .i64 a0_0, .int .i64 a0_1] 23 (0, 0)) BK235.out hb); have n1_ := Aside0.mk (blk_below (g := gb236) (o := .cells #[.int .i64 a1_0, .int .i64 a1_1] 23 (0, 0)) BK236.out hb); have n2_ := Aside0.mk (below_step (by repeat first | exact HB.out | refine below_set ?_ GE235.out | refine below_set ?_ GE236.out) hb); have n3_ := Aside0.mk (hbox); have n4_ := Aside0.mk ((by rw [hg]; exact (below_size (by repeat first | exact HB.out | refine below_set ?_ GE235.out | refine below_set ?_ GE236.out)) : w.heap.size ≤ gb237)); have n5_ := Aside0.mk ((by rw [hg]; exact (below_size (by repeat first | exact HB.out | refine below_set ?_ GE235.out | refine below_set ?_ GE236.out)) : w.heap.size ≤ gb237)); have n6_ := Aside0.mk ((by rw [hg]; exact Nat.ne_of_lt (blk_lt (g := gb235) (o := .cells #[.int .i64 a0_0, .int .i64 a0_1] 23 (0, 0)) BK235.out) : gb235 ≠ gb237)); have n7_ := Aside0.mk ((by rw [hg]; exact Nat.ne_of_gt (blk_lt (g := gb235) (o := .cells #[.int .i64 a0_0, .int .i64 a0_1] 23 (0, 0)) BK235.out) : gb237 ≠ gb235)); have n8_ := Aside0.mk ((by rw [hg]; exact Nat.ne_of_lt (blk_lt (g := gb236) (o := .cells #[.int .i64 a1_0, .int .i64 a1_1] 23 (0, 0)) BK236.out) : gb236 ≠ gb237)); have n9_ := Aside0.mk ((by rw [hg]; exact Nat.ne_of_gt (blk_lt (g := gb236) (o := .cells #[.int .i64 a1_0, .int .i64 a1_1] 23 (0, 0)) BK236.out) : gb237 ≠ gb236)); clear BK235; clear BK236; clear HB; have BK235 := n0_; have BK236 := n1_; have HB := n2_; have BK237 := n3_; have GW237 := n4_; have GE237 := n5_; have NB235_237 := n6_; have NB237_235 := n7_; have NB236_237 := n8_; have NB237_236 := n9_; clear n0_ n1_ n2_ n3_ n4_ n5_ n6_ n7_ n8_ n9_; clear hb hbox hg))
 (try simp only [Act.put, List.setIfInBounds_toArray, List.set_cons_zero, List.set_cons_succ])
 go_cut [19] (fun v19 wc => ∃ (kq : Nat) (x19_2 : Bool), v19 = .bool x19_2 ∧ Aside0 (flagstoneref37_Mul.j0 kq x19_2 a0_0 a0_1 a1_0 a1_1 = some (r1, r2, r3)) ∧ Aside0 (kq ≤ k) ∧ Aside0 (wc.heap[gb235]? = some (.cells #[.int .i64 a0_0, .int .i64 a0_1] 23 (0, 0))) ∧ Aside0 (wc.heap[gb236]? = some (.cells #[.int .i64 a1_0, .int .i64 a1_1] 23 (0, 0))) ∧ Aside0 (wc.heap[gb237]? = some (.cells #[.int .i64 0, .int .i64 0] 23 (0, 0))) ∧ Aside0 (Below w.heap.size w wc))
 case first =>
  have H := HC3.out
  clear HC3
  replace H := Option.bind_eq_some_iff.mp H
  obtain ⟨t238, A70, H⟩ := H
  (try dsimp only at H)
  have A7 := Aside0.mk A70
  clear A70
  by_cases c8 : t238 = true
  ·subst c8
   rw [if_pos rfl] at H
   replace H := Option.bind_eq_some_iff.mp H
   obtain ⟨t239, A90, H⟩ := H
   (try dsimp only at H)
   have A9 := Aside0.mk A90
   clear A90
   have H' := Aside0.mk H
   clear H
   have hnb10 := NB235_236.out
   have hnc10 := NB236_235.out
   have hnb11 := NB235_237.out
   have hnc11 := NB237_235.out
   have hcz12_0 : w6.cell? ⟨gb235, 0, none⟩ = some (.int .i64 a0_0) := (blk_cell BK235.out 0).trans rfl
   have hcz12_1 : w6.cell? ⟨gb235, 1, none⟩ = some (.int .i64 a0_1) := (blk_cell BK235.out 1).trans rfl
   have hfz12_0 := blk_frozen BK235.out 0
   have hfz12_1 := blk_frozen BK235.out 1
   go_wp2_with (first | ((with_reducible refine gate_callee (f := 16) rfl ?_); refine goesL_ (some 13) rfl rfl Try.func16 (by kernel_rfl) rfl #[.agg #[.int .i64 a0_0, .int .i64 a0_1]] rfl (by (try simp only [List.map_toArray, List.map_cons, List.map_nil]); first | done | rfl) ?_; (with_reducible refine (flagstoneref37_Valid.calls a0_0 a0_1 true _ A7.out).mono ?_); rintro e w13 ⟨rfl, hb⟩; refine ⟨_, rfl, ?_⟩; have n0_ := Aside0.mk (blk_below (g := gb235) (o := .cells #[.int .i64 a0_0, .int .i64 a0_1] 23 (0, 0)) BK235.out hb); have n1_ := Aside0.mk (blk_below (g := gb236) (o := .cells #[.int .i64 a1_0, .int .i64 a1_1] 23 (0, 0)) BK236.out hb); have n2_ := Aside0.mk (blk_below (g := gb237) (o := .cells #[.int .i64 0, .int .i64 0] 23 (0, 0)) BK237.out hb); have n3_ := Aside0.mk (below_step (by repeat first | exact HB.out | refine below_set ?_ GE235.out | refine below_set ?_ GE236.out | refine below_set ?_ GE237.out) hb); clear BK235; clear BK236; clear BK237; clear HB; have BK235 := n0_; have BK236 := n1_; have BK237 := n2_; have HB := n3_; clear n0_ n1_ n2_ n3_; (try clear hb); (try clear hb2); (try clear hk); (try clear hi); have hnb14 := NB236_237.out; have hnc14 := NB237_236.out; have hcz15_0 : w13.cell? ⟨gb236, 0, none⟩ = some (.int .i64 a1_0) := (blk_cell BK236.out 0).trans rfl; have hcz15_1 : w13.cell? ⟨gb236, 1, none⟩ = some (.int .i64 a1_1) := (blk_cell BK236.out 1).trans rfl; have hfz15_0 := blk_frozen BK236.out 0; have hfz15_1 := blk_frozen BK236.out 1) | (go_at_call 16; (with_reducible refine (flagstoneref37_Valid.calls a1_0 a1_1 t239 _ A9.out).mono ?_); rintro e w16 ⟨rfl, hb⟩; have n0_ := Aside0.mk (blk_below (g := gb235) (o := .cells #[.int .i64 a0_0, .int .i64 a0_1] 23 (0, 0)) BK235.out hb); have n1_ := Aside0.mk (blk_below (g := gb236) (o := .cells #[.int .i64 a1_0, .int .i64 a1_1] 23 (0, 0)) BK236.out hb); have n2_ := Aside0.mk (blk_below (g := gb237) (o := .cells #[.int .i64 0, .int .i64 0] 23 (0, 0)) BK237.out hb); have n3_ := Aside0.mk (below_step (by repeat first | exact HB.out | refine below_set ?_ GE235.out | refine below_set ?_ GE236.out | refine below_set ?_ GE237.out) hb); clear BK235; clear BK236; clear BK237; clear HB; have BK235 := n0_; have BK236 := n1_; have BK237 := n2_; have HB := n3_; clear n0_ n1_ n2_ n3_; (try clear hb); (try clear hb2); (try clear hk); (try clear hi)))
   go_meet
   case rel => exact ⟨_, (!t239), rfl, H', ⟨by first | omega | exact Nat.le_refl _⟩, ⟨by (with_reducible repeat (first | refine blk_drewN ?_ _ | refine blk_drew ?_ | refine blk_alloc ?_ _)); exact BK235.out⟩, ⟨by (with_reducible repeat (first | refine blk_drewN ?_ _ | refine blk_drew ?_ | refine blk_alloc ?_ _)); exact BK236.out⟩, ⟨by (with_reducible repeat (first | refine blk_drewN ?_ _ | refine blk_drew ?_ | refine blk_alloc ?_ _)); exact BK237.out⟩, ⟨by repeat first | exact HB.out | refine below_set ?_ GE235.out | refine below_set ?_ GE236.out | refine below_set ?_ GE237.out⟩⟩
  ·replace c8 := Bool.eq_false_iff.mpr c8
   subst c8
   rw [if_neg (show ¬ (false = true) by decide)] at H
   have H' := Aside0.mk H
   clear H
   have hnb17 := NB235_236.out
   have hnc17 := NB236_235.out
   have hnb18 := NB235_237.out
   have hnc18 := NB237_235.out
   have hcz19_0 : w6.cell? ⟨gb235, 0, none⟩ = some (.int .i64 a0_0) := (blk_cell BK235.out 0).trans rfl
   have hcz19_1 : w6.cell? ⟨gb235, 1, none⟩ = some (.int .i64 a0_1) := (blk_cell BK235.out 1).trans rfl
   have hfz19_0 := blk_frozen BK235.out 0
   have hfz19_1 := blk_frozen BK235.out 1
   go_wp2_with (first | ((with_reducible refine gate_callee (f := 16) rfl ?_); refine goesL_ (some 13) rfl rfl Try.func16 (by kernel_rfl) rfl #[.agg #[.int .i64 a0_0, .int .i64 a0_1]] rfl (by (try simp only [List.map_toArray, List.map_cons, List.map_nil]); first | done | rfl) ?_; (with_reducible refine (flagstoneref37_Valid.calls a0_0 a0_1 false _ A7.out).mono ?_); rintro e w20 ⟨rfl, hb⟩; refine ⟨_, rfl, ?_⟩; have n0_ := Aside0.mk (blk_below (g := gb235) (o := .cells #[.int .i64 a0_0, .int .i64 a0_1] 23 (0, 0)) BK235.out hb); have n1_ := Aside0.mk (blk_below (g := gb236) (o := .cells #[.int .i64 a1_0, .int .i64 a1_1] 23 (0, 0)) BK236.out hb); have n2_ := Aside0.mk (blk_below (g := gb237) (o := .cells #[.int .i64 0, .int .i64 0] 23 (0, 0)) BK237.out hb); have n3_ := Aside0.mk (below_step (by repeat first | exact HB.out | refine below_set ?_ GE235.out | refine below_set ?_ GE236.out | refine below_set ?_ GE237.out) hb); clear BK235; clear BK236; clear BK237; clear HB; have BK235 := n0_; have BK236 := n1_; have BK237 := n2_; have HB := n3_; clear n0_ n1_ n2_ n3_; (try clear hb); (try clear hb2); (try clear hk); (try clear hi)))
   go_meet
   case rel => exact ⟨_, (true), rfl, H', ⟨by first | omega | exact Nat.le_refl _⟩, ⟨by (with_reducible repeat (first | refine blk_drewN ?_ _ | refine blk_drew ?_ | refine blk_alloc ?_ _)); exact BK235.out⟩, ⟨by (with_reducible repeat (first | refine blk_drewN ?_ _ | refine blk_drew ?_ | refine blk_alloc ?_ _)); exact BK236.out⟩, ⟨by (with_reducible repeat (first | refine blk_drewN ?_ _ | refine blk_drew ?_ | refine blk_alloc ?_ _)); exact BK237.out⟩, ⟨by repeat first | exact HB.out | refine below_set ?_ GE235.out | refine below_set ?_ GE236.out | refine below_set ?_ GE237.out⟩⟩
 case rest =>
  clear HC3
  try clear c1
  try clear c2
  try clear p2
  try clear c8
  try clear c10
  try clear c11
  try clear c14
  try clear c16
  try clear c17
  try clear c18
  try clear hcz12_0
  try clear hcz12_1
  try clear hcz15_0
  try clear hcz15_1
  try clear hcz19_0
  try clear hcz19_1
  try clear hfz12_0
  try clear hfz12_1
  try clear hfz15_0
  try clear hfz15_1
  try clear hfz19_0
  try clear hfz19_1
  obtain ⟨kq, x19_2, rfl, HA, HJ2, BK235, BK236, BK237, HB⟩ := hcut
  cases kq with
  | zero => exact absurd HA.out (by simp [flagstoneref37_Mul.j0])
  | succ kj2 =>
   have H := HA.out
   clear HA
   simp only [flagstoneref37_Mul.j0] at H
   by_cases c21 : x19_2 = true
   ·subst c21
    rw [if_pos rfl] at H
    simp only [Option.some.injEq, Prod.mk.injEq] at H
    obtain ⟨rfl, rfl, rfl⟩ := H
    have hnb22 := NB237_235.out
    have hnc22 := NB235_237.out
    have hnb23 := NB237_236.out
    have hnc23 := NB236_237.out
    have hcz24_0 : wc.cell? ⟨gb237, 0, none⟩ = some (.int .i64 0) := (blk_cell BK237.out 0).trans rfl
    have hcz24_1 : wc.cell? ⟨gb237, 1, none⟩ = some (.int .i64 0) := (blk_cell BK237.out 1).trans rfl
    have hfz24_0 := blk_frozen BK237.out 0
    have hfz24_1 := blk_frozen BK237.out 1
    go_wp2
    refine bodyPost_ret (results_ct rfl _ _ gb237 23 #[.int .i64 0, .int .i64 0] (0, 0) _ rfl (by (with_reducible repeat (first | refine blk_drewN ?_ _ | refine blk_drew ?_ | refine blk_alloc ?_ _)); refine blk_put (cs := #[.int .i64 0, .int .i64 0]) ?_ 1 _ rfl; (with_reducible repeat (first | refine blk_drewN ?_ _ | refine blk_drew ?_ | refine blk_alloc ?_ _)); refine blk_put (cs := #[.int .i64 0, .int .i64 0]) ?_ 0 _ rfl; (with_reducible repeat (first | refine blk_drewN ?_ _ | refine blk_drew ?_ | refine blk_alloc ?_ _)); exact BK237.out) Try.underlying23 rfl (by kernel_rfl)) rfl ?_
    exact ⟨rfl, by repeat first | exact HB.out | refine below_set ?_ GE235.out | refine below_set ?_ GE236.out | refine below_set ?_ GE237.out⟩
   ·replace c21 := Bool.eq_false_iff.mpr c21
    subst c21
    rw [if_neg (show ¬ (false = true) by decide)] at H
    have H' := Aside0.mk H
    clear H
    go_wp2
    go_loopg [6, 7, 8] kj2 (fun kq v6 v7 v8 w' => ∃ (x6_2 : Int) (x7_2 : Int) (x8_2 : Int) (x238000_2 : Int) (x238001_2 : Int), v6 = .int .i64 x6_2 ∧ v7 = .int .i64 x7_2 ∧ v8 = .int .i64 x8_2 ∧ Aside0 (flagstoneref37_Mul.l0 kq x6_2 x7_2 x8_2 a0_0 a0_1 a1_0 a1_1 = some (r1, r2, r3)) ∧ Aside0 (kq ≤ kj2) ∧ Aside0 (w'.heap[gb235]? = some (.cells #[.int .i64 a0_0, .int .i64 a0_1] 23 (0, 0))) ∧ Aside0 (w'.heap[gb236]? = some (.cells #[.int .i64 a1_0, .int .i64 a1_1] 23 (0, 0))) ∧ Aside0 (w'.heap[gb237]? = some (.cells #[.int .i64 x238000_2, .int .i64 x238001_2] 23 (0, 0))) ∧ Aside0 (Below w.heap.size w w'))
    case atStart => exact ⟨(2305843009213693952), ((-2305843009213693952)), (0), (0), (0), rfl, rfl, rfl, H', ⟨Nat.le_refl _⟩, ⟨by (with_reducible repeat (first | refine blk_drewN ?_ _ | refine blk_drew ?_ | refine blk_alloc ?_ _)); exact BK235.out⟩, ⟨by (with_reducible repeat (first | refine blk_drewN ?_ _ | refine blk_drew ?_ | refine blk_alloc ?_ _)); exact BK236.out⟩, ⟨by (with_reducible repeat (first | refine blk_drewN ?_ _ | refine blk_drew ?_ | refine blk_alloc ?_ _)); exact BK237.out⟩, ⟨by repeat first | exact HB.out | refine below_set ?_ GE235.out | refine below_set ?_ GE236.out | refine below_set ?_ GE237.out⟩⟩
    case round =>
     clear H'
     try clear c1
     try clear c2
     try clear p2
     try clear c8
     try clear c10
     try clear c11
     try clear c14
     try clear c16
     try clear c17
     try clear c18
     try clear c21
     try clear c22
     try clear c23
     try clear hcz12_0
     try clear hcz12_1
     try clear hcz15_0
     try clear hcz15_1
     try clear hcz19_0
     try clear hcz19_1
     try clear hcz24_0
     try clear hcz24_1
     try clear hfz12_0
     try clear hfz12_1
     try clear hfz15_0
     try clear hfz15_1
     try clear hfz19_0
     try clear hfz19_1
     try clear hfz24_0
     try clear hfz24_1
     try clear p2
     obtain ⟨x6_2, x7_2, x8_2, x238000_2, x238001_2, rfl, rfl, rfl, HA, HK2, BK235, BK236, BK237, HB⟩ := hrel
     cases gk with
     | zero => exact absurd HA.out (by simp [flagstoneref37_Mul.l0])
     | succ k2 =>
      have H := HA.out
      clear HA
      simp only [flagstoneref37_Mul.l0] at H
      by_cases c25 : x8_2 < 4
      ·rw [if_pos c25] at H
       have c25b0 : decide (x8_2 < 4) = true := decide_eq_true c25
       clear c25
       obtain ⟨y240, hy240⟩ : ∃ y_ : List Int, y_ = (([a0_0, a0_1] : List Int)) := ⟨_, rfl⟩
       replace H : (if 0 ≤ (wrap64 (Int.tdiv x8_2 2)) then (if (wrap64 (Int.tdiv x8_2 2)) < (y240.length : Int) then ((some (([a1_0, a1_1] : List Int) : List Int)).bind fun y244 => (if 0 ≤ (Int.tmod x8_2 2) then (if (Int.tmod x8_2 2) < (y244.length : Int) then ((flagstoneref37_product.f k2 (rd y240 (wrap64 (Int.tdiv x8_2 2))) (rd y244 (Int.tmod x8_2 2))).bind fun bt248 => (if bt248.2.2 = true then (flagstoneref37_Mul.l0 k2 (mn x6_2 bt248.1) (mx x7_2 bt248.2.1) (wrap64 (x8_2 + 1)) a0_0 a0_1 a1_0 a1_1) else (some (0, 0, false)))) else (none)) else (none))) else (none)) else (none)) = some (r1, r2, r3) := by first | (rw [hy240]; with_reducible exact H) | (have H2_ := (Option.bind_some _ _).symm.trans H; rw [hy240]; with_reducible exact H2_) | (have H2_ := (Option.bind_some _ _).symm.trans H; with_reducible exact H2_) | with_reducible exact H | (rw [hy240]; exact H) | exact H
       have Ny240 := Aside0.mk hy240
       clear hy240
       obtain ⟨ji26, hji26⟩ : ∃ j_ : Int, (wrap64 (Int.tdiv x8_2 2)) = j_ := ⟨_, rfl⟩
       replace H : (if 0 ≤ (ji26) then (if (ji26) < (y240.length : Int) then ((some (([a1_0, a1_1] : List Int) : List Int)).bind fun y244 => (if 0 ≤ (Int.tmod x8_2 2) then (if (Int.tmod x8_2 2) < (y244.length : Int) then ((flagstoneref37_product.f k2 (rd y240 (ji26)) (rd y244 (Int.tmod x8_2 2))).bind fun bt248 => (if bt248.2.2 = true then (flagstoneref37_Mul.l0 k2 (mn x6_2 bt248.1) (mx x7_2 bt248.2.1) (wrap64 (x8_2 + 1)) a0_0 a0_1 a1_0 a1_1) else (some (0, 0, false)))) else (none)) else (none))) else (none)) else (none)) = some (r1, r2, r3) := by first | (rw [hji26] at H; exact H) | (simp only [hji26] at H ⊢; exact H)
       have hji26w : (IntKind.i64.wrap (Int.tdiv x8_2 2)) = ji26 := (i64_w _).trans hji26
       by_cases c27 : 0 ≤ (ji26)
       ·rw [if_pos c27] at H
        have c27b0 : decide (0 ≤ (ji26)) = true := decide_eq_true c27
        clear c27
        by_cases c28 : (ji26) < (y240.length : Int)
        ·rw [if_pos c28] at H
         have c28b0 : decide ((ji26) < (y240.length : Int)) = true := decide_eq_true c28
         clear c28
         obtain ⟨y244, hy244⟩ : ∃ y_ : List Int, y_ = (([a1_0, a1_1] : List Int)) := ⟨_, rfl⟩
         replace H : (if 0 ≤ (Int.tmod x8_2 2) then (if (Int.tmod x8_2 2) < (y244.length : Int) then ((flagstoneref37_product.f k2 (rd y240 (ji26)) (rd y244 (Int.tmod x8_2 2))).bind fun bt248 => (if bt248.2.2 = true then (flagstoneref37_Mul.l0 k2 (mn x6_2 bt248.1) (mx x7_2 bt248.2.1) (wrap64 (x8_2 + 1)) a0_0 a0_1 a1_0 a1_1) else (some (0, 0, false)))) else (none)) else (none)) = some (r1, r2, r3) := by first | (rw [hy244]; with_reducible exact H) | (have H2_ := (Option.bind_some _ _).symm.trans H; rw [hy244]; with_reducible exact H2_) | (have H2_ := (Option.bind_some _ _).symm.trans H; with_reducible exact H2_) | with_reducible exact H | (rw [hy244]; exact H) | exact H
         have Ny244 := Aside0.mk hy244
         clear hy244
         obtain ⟨ji29, hji29⟩ : ∃ j_ : Int, (Int.tmod x8_2 2) = j_ := ⟨_, rfl⟩
         replace H : (if 0 ≤ (ji29) then (if (ji29) < (y244.length : Int) then ((flagstoneref37_product.f k2 (rd y240 (ji26)) (rd y244 (ji29))).bind fun bt248 => (if bt248.2.2 = true then (flagstoneref37_Mul.l0 k2 (mn x6_2 bt248.1) (mx x7_2 bt248.2.1) (wrap64 (x8_2 + 1)) a0_0 a0_1 a1_0 a1_1) else (some (0, 0, false)))) else (none)) else (none)) = some (r1, r2, r3) := by first | (rw [hji29] at H; exact H) | (simp only [hji29] at H ⊢; exact H)
         by_cases c30 : 0 ≤ (ji29)
         ·rw [if_pos c30] at H
          have c30b0 : decide (0 ≤ (ji29)) = true := decide_eq_true c30
          clear c30
          by_cases c31 : (ji29) < (y244.length : Int)
          ·rw [if_pos c31] at H
           have c31b0 : decide ((ji29) < (y244.length : Int)) = true := decide_eq_true c31
           clear c31
           replace H := Option.bind_eq_some_iff.mp H
           obtain ⟨⟨t248, t249, t250⟩, A320, H⟩ := H
           (try dsimp only at H)
           have A32 := Aside0.mk A320
           clear A320
           by_cases c33 : t250 = true
           ·subst c33
            rw [if_pos rfl] at H
            obtain ⟨ji34, hji34⟩ : ∃ j_ : Int, (mn x6_2 t248) = j_ := ⟨_, rfl⟩
            replace H : (flagstoneref37_Mul.l0 k2 ji34 (mx x7_2 t249) (wrap64 (x8_2 + 1)) a0_0 a0_1 a1_0 a1_1) = some (r1, r2, r3) := by first | (rw [hji34] at H; exact H) | (simp only [hji34] at H ⊢; exact H)
            (try rw [hji34] at A32)
            have hji34_ : (if t248 < x6_2 then t248 else x6_2) = ji34 := hji34
            obtain ⟨ji35, hji35⟩ : ∃ j_ : Int, (mx x7_2 t249) = j_ := ⟨_, rfl⟩
            replace H : (flagstoneref37_Mul.l0 k2 ji34 ji35 (wrap64 (x8_2 + 1)) a0_0 a0_1 a1_0 a1_1) = some (r1, r2, r3) := by first | (rw [hji35] at H; exact H) | (simp only [hji35] at H ⊢; exact H)
            (try rw [hji35] at A32)
            have hji35_ : (if x7_2 < t249 then t249 else x7_2) = ji35 := hji35
            have H' := Aside0.mk H
            clear H
            try go_wp2
            have pi243 : (0 ≤ ((ji26) : Int)) = True := eq_true (of_decide_eq_true (by assumption))
            have qi243 : ((ji26) < (y240.length : Int)) = True := eq_true (of_decide_eq_true (by assumption))
            have pi247 : (0 ≤ ((ji29) : Int)) = True := eq_true (of_decide_eq_true (by assumption))
            have qi247 : ((ji29) < (y244.length : Int)) = True := eq_true (of_decide_eq_true (by assumption))
            have n0_ := Aside0.mk (blk_drew BK235.out)
            have n1_ := Aside0.mk (blk_drew BK236.out)
            have n2_ := Aside0.mk (blk_drew BK237.out)
            have n3_ := Aside0.mk (below_drew1 HB.out)
            clear BK235
            clear BK236
            clear BK237
            clear HB
            have BK235 := n0_
            have BK236 := n1_
            have BK237 := n2_
            have HB := n3_
            clear n0_ n1_ n2_ n3_
            refine start_ (n := 26) (S := fun w' => w'.cell? ⟨gb235, 0, none⟩ = some (.int .i64 a0_0) ∧ w'.cell? ⟨gb235, 1, none⟩ = some (.int .i64 a0_1) ∧ w'.cell? ⟨gb236, 0, none⟩ = some (.int .i64 a1_0) ∧ w'.cell? ⟨gb236, 1, none⟩ = some (.int .i64 a1_1)) (ds := []) #[false, false, false, false, false, false, false, false, false, false, false, false, false, false, false, false, false, false, false, false, false, false, false, false, false, false] (by kernel_rfl) rfl rfl ⟨(blk_cell BK235.out 0).trans rfl, (blk_cell BK235.out 1).trans rfl, (blk_cell BK236.out 0).trans rfl, (blk_cell BK236.out 1).trans rfl⟩ (fun hHeld => ?_); refine with_tabW flagstoneref37_Mul.tab7 flagstoneref37_Mul.bits7 (fun HT_ HW_ => ?_)
            generalize wr.drew = w36 at BK235 BK236 BK237 HB hHeld ⊢
            refine pure_ (i := 0) (N := some 26) (v := ?_) (a' := ?_) #[true, false, false, false, false, false, false, false, false, false, false, false, false, false, false, false, false, false, false, false, false, false, false, false, false, false] rfl rfl (any_of HT_.out (by kernel_rfl)) (fun _ _ _ h => h) (Or.inl ⟨by rfl, ?_⟩) ?_ ?_
            rotate_left
            ·intro w'
             go_simp
             with_reducible rfl
            rotate_left
            ·simp only [Act.put, List.setIfInBounds_toArray, List.set_cons_zero, List.set_cons_succ, i64_w, i32_w]
             rfl
            refine pure_ (i := 2) (N := some 28) (v := ?_) (a' := ?_) #[true, false, true, false, false, false, false, false, false, false, false, false, false, false, false, false, false, false, false, false, false, false, false, false, false, false] rfl rfl (any_of HT_.out (by kernel_rfl)) (fun _ _ _ h => h) (Or.inl ⟨by rfl, ?_⟩) ?_ ?_
            rotate_left
            ·intro w'
             go_simp
             with_reducible rfl
            rotate_left
            ·simp only [Act.put, List.setIfInBounds_toArray, List.set_cons_zero, List.set_cons_succ, i64_w, i32_w]
             rfl
            refine pure_ (i := 5) (N := some 31) (v := ?_) (a' := ?_) #[true, false, true, false, false, true, false, false, false, false, false, false, false, false, false, false, false, false, false, false, false, false, false, false, false, false] rfl rfl (any_of HT_.out (by kernel_rfl)) (fun _ _ _ h => h) (Or.inl ⟨by rfl, ?_⟩) ?_ ?_
            rotate_left
            ·intro w'
             go_simp
             with_reducible rfl
            rotate_left
            ·simp only [Act.put, List.setIfInBounds_toArray, List.set_cons_zero, List.set_cons_succ, i64_w, i32_w]
             rfl
            refine pure_ (i := 6) (N := some 32) (v := ?_) (a' := ?_) #[true, false, true, false, false, true, true, false, false, false, false, false, false, false, false, false, false, false, false, false, false, false, false, false, false, false] rfl rfl (any_of HT_.out (by kernel_rfl)) (fun _ _ _ h => h) (Or.inl ⟨by rfl, ?_⟩) ?_ ?_
            rotate_left
            ·intro w'
             go_simp
             with_reducible rfl
            rotate_left
            ·simp only [Act.put, List.setIfInBounds_toArray, List.set_cons_zero, List.set_cons_succ, i64_w, i32_w]
             rfl
            refine pure_ (i := 9) (N := some 35) (v := ?_) (a' := ?_) #[true, false, true, false, false, true, true, false, false, true, false, false, false, false, false, false, false, false, false, false, false, false, false, false, false, false] rfl rfl (any_of HT_.out (by kernel_rfl)) (fun _ _ _ h => h) (Or.inl ⟨by rfl, ?_⟩) ?_ ?_
            rotate_left
            ·intro w'
             go_simp
             with_reducible rfl
            rotate_left
            ·simp only [Act.put, List.setIfInBounds_toArray, List.set_cons_zero, List.set_cons_succ, i64_w, i32_w]
             rfl
            refine pure_ (i := 11) (N := some 37) (v := ?_) (a' := ?_) #[true, false, true, false, false, true, true, false, false, true, false, true, false, false, false, false, false, false, false, false, false, false, false, false, false, false] rfl rfl (any_of HT_.out (by kernel_rfl)) (fun _ _ _ h => h) (Or.inl ⟨by rfl, ?_⟩) ?_ ?_
            rotate_left
            ·intro w'
             go_simp
             with_reducible rfl
            rotate_left
            ·simp only [Act.put, List.setIfInBounds_toArray, List.set_cons_zero, List.set_cons_succ, i64_w, i32_w]
             rfl
            refine pure_ (i := 14) (N := some 40) (v := ?_) (a' := ?_) #[true, false, true, false, false, true, true, false, false, true, false, true, false, false, true, false, false, false, false, false, false, false, false, false, false, false] rfl rfl (any_of HT_.out (by kernel_rfl)) (fun _ _ _ h => h) (Or.inl ⟨by rfl, ?_⟩) ?_ ?_
            rotate_left
            ·intro w'
             go_simp
             with_reducible rfl
            rotate_left
            ·simp only [Act.put, List.setIfInBounds_toArray, List.set_cons_zero, List.set_cons_succ, i64_w, i32_w]
             rfl
            refine pure_ (i := 15) (N := some 41) (v := ?_) (a' := ?_) #[true, false, true, false, false, true, true, false, false, true, false, true, false, false, true, true, false, false, false, false, false, false, false, false, false, false] rfl rfl (any_of HT_.out (by kernel_rfl)) (fun _ _ _ h => h) (Or.inl ⟨by rfl, ?_⟩) ?_ ?_
            rotate_left
            ·intro w'
             go_simp
             with_reducible rfl
            rotate_left
            ·simp only [Act.put, List.setIfInBounds_toArray, List.set_cons_zero, List.set_cons_succ, i64_w, i32_w]
             rfl
            refine take_ (i := 1) (N := some 27) (v := ?_) (a' := ?_) #[true, true, true, false, false, true, true, false, false, true, false, true, false, false, true, true, false, false, false, false, false, false, false, false, false, false] rfl rfl (take_ofW HT_.out HW_.out (by kernel_rfl)) (fun _ _ _ h => h) (Or.inl ⟨by rfl, ?_⟩) hHeld ?_ ?_
            rotate_left
            ·rintro w' ⟨s0, s1, s2, s3⟩
             go_simp
             with_reducible rfl
            rotate_left
            ·simp only [Act.put, List.setIfInBounds_toArray, List.set_cons_zero, List.set_cons_succ, i64_w, i32_w]
             rfl
            refine take_ (i := 3) (N := some 29) (v := ?_) (a' := ?_) #[true, true, true, true, false, true, true, false, false, true, false, true, false, false, true, true, false, false, false, false, false, false, false, false, false, false] rfl rfl (take_ofW HT_.out HW_.out (by kernel_rfl)) (fun _ _ _ h => h) (Or.inl ⟨by rfl, ?_⟩) hHeld ?_ ?_
            rotate_left
            ·rintro w' ⟨s0, s1, s2, s3⟩
             go_simp
             with_reducible rfl
            rotate_left
            ·simp only [Act.put, List.setIfInBounds_toArray, List.set_cons_zero, List.set_cons_succ, i64_w, i32_w]
             rfl
            refine take_ (i := 10) (N := some 36) (v := ?_) (a' := ?_) #[true, true, true, true, false, true, true, false, false, true, true, true, false, false, true, true, false, false, false, false, false, false, false, false, false, false] rfl rfl (take_ofW HT_.out HW_.out (by kernel_rfl)) (fun _ _ _ h => h) (Or.inl ⟨by rfl, ?_⟩) hHeld ?_ ?_
            rotate_left
            ·rintro w' ⟨s0, s1, s2, s3⟩
             go_simp
             with_reducible rfl
            rotate_left
            ·simp only [Act.put, List.setIfInBounds_toArray, List.set_cons_zero, List.set_cons_succ, i64_w, i32_w]
             rfl
            refine take_ (i := 12) (N := some 38) (v := ?_) (a' := ?_) #[true, true, true, true, false, true, true, false, false, true, true, true, true, false, true, true, false, false, false, false, false, false, false, false, false, false] rfl rfl (take_ofW HT_.out HW_.out (by kernel_rfl)) (fun _ _ _ h => h) (Or.inl ⟨by rfl, ?_⟩) hHeld ?_ ?_
            rotate_left
            ·rintro w' ⟨s0, s1, s2, s3⟩
             go_simp
             with_reducible rfl
            rotate_left
            ·simp only [Act.put, List.setIfInBounds_toArray, List.set_cons_zero, List.set_cons_succ, i64_w, i32_w]
             rfl
            refine join_ (σ := Value × Addr × Value × Addr) 8 #[true, true, true, true, true, true, true, true, true, true, true, true, true, true, true, true, true, true, false, false, false, false, false, false, false, false] (fun s_ => [(30, s_.1), (34, .int .i64 (rd y240 (ji26))), (39, s_.2.2.1), (43, .int .i64 (rd y244 (ji29))), (33, .pointer (some (s_.2.1.add ((ji26)).toNat))), (42, .pointer (some (s_.2.2.2.add ((ji29)).toNat)))]) (fun s_ w' => (w'.cell? ⟨gb235, 0, none⟩ = some (.int .i64 a0_0) ∧ w'.cell? ⟨gb235, 1, none⟩ = some (.int .i64 a0_1) ∧ w'.cell? ⟨gb236, 0, none⟩ = some (.int .i64 a1_0) ∧ w'.cell? ⟨gb236, 1, none⟩ = some (.int .i64 a1_1)) ∧ (Kd.R (Kd.int .i64) 3 w' w.heap.size (fun k_ => some k_ ≠ (s_.2.2.1 : Value).ownBlock) s_.1 y240) ∧ (Kd.R (Kd.int .i64) 3 w' w.heap.size (fun k_ => some k_ ≠ (s_.1 : Value).ownBlock) s_.2.2.1 y244) ∧ (∃ c_, (s_.1 : Value) = .slice (some s_.2.1) y240.length c_) ∧ (∃ c_, (s_.2.2.1 : Value) = .slice (some s_.2.2.2) y244.length c_) ∧ (w'.heap[gb235]? = some (.cells #[.int .i64 a0_0, .int .i64 a0_1] 23 (0, 0))) ∧ (w'.heap[gb236]? = some (.cells #[.int .i64 a1_0, .int .i64 a1_1] 23 (0, 0))) ∧ (w'.heap[gb237]? = some (.cells #[.int .i64 x238000_2, .int .i64 x238001_2] 23 (0, 0))) ∧ (Below w.heap.size w w')) ?_ ?_
            rotate_left
            ·intro hJ4_8_13_17
             refine join_ (σ := Value × Addr × Value × Addr) 9 #[true, true, true, true, true, true, true, true, true, true, true, true, true, true, true, true, true, false, false, false, false, false, false, false, false, false] (fun s_ => [(30, s_.1), (34, .int .i64 (rd y240 (ji26))), (39, s_.2.2.1), (33, .pointer (some (s_.2.1.add ((ji26)).toNat))), (42, .pointer (some (s_.2.2.2.add ((ji29)).toNat)))]) (fun s_ w' => (w'.cell? ⟨gb235, 0, none⟩ = some (.int .i64 a0_0) ∧ w'.cell? ⟨gb235, 1, none⟩ = some (.int .i64 a0_1) ∧ w'.cell? ⟨gb236, 0, none⟩ = some (.int .i64 a1_0) ∧ w'.cell? ⟨gb236, 1, none⟩ = some (.int .i64 a1_1)) ∧ (Kd.R (Kd.int .i64) 3 w' w.heap.size (fun k_ => some k_ ≠ (s_.2.2.1 : Value).ownBlock) s_.1 y240) ∧ (Kd.R (Kd.int .i64) 3 w' w.heap.size (fun k_ => some k_ ≠ (s_.1 : Value).ownBlock) s_.2.2.1 y244) ∧ (∃ c_, (s_.1 : Value) = .slice (some s_.2.1) y240.length c_) ∧ (∃ c_, (s_.2.2.1 : Value) = .slice (some s_.2.2.2) y244.length c_) ∧ (w'.heap[gb235]? = some (.cells #[.int .i64 a0_0, .int .i64 a0_1] 23 (0, 0))) ∧ (w'.heap[gb236]? = some (.cells #[.int .i64 a1_0, .int .i64 a1_1] 23 (0, 0))) ∧ (w'.heap[gb237]? = some (.cells #[.int .i64 x238000_2, .int .i64 x238001_2] 23 (0, 0))) ∧ (Below w.heap.size w w')) ?_ ?_
             rotate_left
             ·intro hJ4_8_13
              refine join_ (σ := Value × Addr × Value × Addr) 9 #[true, true, true, true, true, true, true, true, false, true, true, true, true, true, true, true, true, true, false, false, false, false, false, false, false, false] (fun s_ => [(30, s_.1), (39, s_.2.2.1), (43, .int .i64 (rd y244 (ji29))), (33, .pointer (some (s_.2.1.add ((ji26)).toNat))), (42, .pointer (some (s_.2.2.2.add ((ji29)).toNat)))]) (fun s_ w' => (w'.cell? ⟨gb235, 0, none⟩ = some (.int .i64 a0_0) ∧ w'.cell? ⟨gb235, 1, none⟩ = some (.int .i64 a0_1) ∧ w'.cell? ⟨gb236, 0, none⟩ = some (.int .i64 a1_0) ∧ w'.cell? ⟨gb236, 1, none⟩ = some (.int .i64 a1_1)) ∧ (Kd.R (Kd.int .i64) 3 w' w.heap.size (fun k_ => some k_ ≠ (s_.2.2.1 : Value).ownBlock) s_.1 y240) ∧ (Kd.R (Kd.int .i64) 3 w' w.heap.size (fun k_ => some k_ ≠ (s_.1 : Value).ownBlock) s_.2.2.1 y244) ∧ (∃ c_, (s_.1 : Value) = .slice (some s_.2.1) y240.length c_) ∧ (∃ c_, (s_.2.2.1 : Value) = .slice (some s_.2.2.2) y244.length c_) ∧ (w'.heap[gb235]? = some (.cells #[.int .i64 a0_0, .int .i64 a0_1] 23 (0, 0))) ∧ (w'.heap[gb236]? = some (.cells #[.int .i64 a1_0, .int .i64 a1_1] 23 (0, 0))) ∧ (w'.heap[gb237]? = some (.cells #[.int .i64 x238000_2, .int .i64 x238001_2] 23 (0, 0))) ∧ (Below w.heap.size w w')) ?_ ?_
              rotate_left
              ·intro hJ4_13_17
               refine join_ (σ := Value × Addr) 11 #[true, true, true, true, true, true, true, true, true, true, true, true, true, false, true, true, false, false, false, false, false, false, false, false, false, false] (fun s_ => [(30, s_.1), (34, .int .i64 (rd y240 (ji26))), (33, .pointer (some (s_.2.add ((ji26)).toNat)))]) (fun s_ w' => (w'.cell? ⟨gb235, 0, none⟩ = some (.int .i64 a0_0) ∧ w'.cell? ⟨gb235, 1, none⟩ = some (.int .i64 a0_1) ∧ w'.cell? ⟨gb236, 0, none⟩ = some (.int .i64 a1_0) ∧ w'.cell? ⟨gb236, 1, none⟩ = some (.int .i64 a1_1)) ∧ (Kd.R (Kd.int .i64) 3 w' w.heap.size (fun _ => True) s_.1 y240) ∧ (∃ c_, (s_.1 : Value) = .slice (some s_.2) y240.length c_) ∧ (w'.heap[gb235]? = some (.cells #[.int .i64 a0_0, .int .i64 a0_1] 23 (0, 0))) ∧ (w'.heap[gb236]? = some (.cells #[.int .i64 a1_0, .int .i64 a1_1] 23 (0, 0))) ∧ (w'.heap[gb237]? = some (.cells #[.int .i64 x238000_2, .int .i64 x238001_2] 23 (0, 0))) ∧ (Below w.heap.size w w')) ?_ ?_
               rotate_left
               ·intro hJ4_8
                refine join_ (σ := Value × Addr × Value × Addr) 10 #[true, true, true, true, true, true, true, true, false, true, true, true, true, true, true, true, true, false, false, false, false, false, false, false, false, false] (fun s_ => [(30, s_.1), (39, s_.2.2.1), (33, .pointer (some (s_.2.1.add ((ji26)).toNat))), (42, .pointer (some (s_.2.2.2.add ((ji29)).toNat)))]) (fun s_ w' => (w'.cell? ⟨gb235, 0, none⟩ = some (.int .i64 a0_0) ∧ w'.cell? ⟨gb235, 1, none⟩ = some (.int .i64 a0_1) ∧ w'.cell? ⟨gb236, 0, none⟩ = some (.int .i64 a1_0) ∧ w'.cell? ⟨gb236, 1, none⟩ = some (.int .i64 a1_1)) ∧ (Kd.R (Kd.int .i64) 3 w' w.heap.size (fun k_ => some k_ ≠ (s_.2.2.1 : Value).ownBlock) s_.1 y240) ∧ (Kd.R (Kd.int .i64) 3 w' w.heap.size (fun k_ => some k_ ≠ (s_.1 : Value).ownBlock) s_.2.2.1 y244) ∧ (∃ c_, (s_.1 : Value) = .slice (some s_.2.1) y240.length c_) ∧ (∃ c_, (s_.2.2.1 : Value) = .slice (some s_.2.2.2) y244.length c_) ∧ (w'.heap[gb235]? = some (.cells #[.int .i64 a0_0, .int .i64 a0_1] 23 (0, 0))) ∧ (w'.heap[gb236]? = some (.cells #[.int .i64 a1_0, .int .i64 a1_1] 23 (0, 0))) ∧ (w'.heap[gb237]? = some (.cells #[.int .i64 x238000_2, .int .i64 x238001_2] 23 (0, 0))) ∧ (Below w.heap.size w w')) ?_ ?_
                rotate_left
                ·intro hJ4_13
                 refine join_ (σ := Value × Addr) 11 #[true, true, true, true, false, true, true, false, false, true, true, true, true, true, true, true, true, true, false, false, false, false, false, false, false, false] (fun s_ => [(39, s_.1), (43, .int .i64 (rd y244 (ji29))), (42, .pointer (some (s_.2.add ((ji29)).toNat)))]) (fun s_ w' => (w'.cell? ⟨gb235, 0, none⟩ = some (.int .i64 a0_0) ∧ w'.cell? ⟨gb235, 1, none⟩ = some (.int .i64 a0_1) ∧ w'.cell? ⟨gb236, 0, none⟩ = some (.int .i64 a1_0) ∧ w'.cell? ⟨gb236, 1, none⟩ = some (.int .i64 a1_1)) ∧ (Kd.R (Kd.int .i64) 3 w' w.heap.size (fun _ => True) s_.1 y244) ∧ (∃ c_, (s_.1 : Value) = .slice (some s_.2) y244.length c_) ∧ (w'.heap[gb235]? = some (.cells #[.int .i64 a0_0, .int .i64 a0_1] 23 (0, 0))) ∧ (w'.heap[gb236]? = some (.cells #[.int .i64 a1_0, .int .i64 a1_1] 23 (0, 0))) ∧ (w'.heap[gb237]? = some (.cells #[.int .i64 x238000_2, .int .i64 x238001_2] 23 (0, 0))) ∧ (Below w.heap.size w w')) ?_ ?_
                 rotate_left
                 ·intro hJ13_17
                  refine join_ (σ := Value × Addr) 12 #[true, true, true, true, true, true, true, true, false, true, true, true, true, false, true, true, false, false, false, false, false, false, false, false, false, false] (fun s_ => [(30, s_.1), (33, .pointer (some (s_.2.add ((ji26)).toNat)))]) (fun s_ w' => (w'.cell? ⟨gb235, 0, none⟩ = some (.int .i64 a0_0) ∧ w'.cell? ⟨gb235, 1, none⟩ = some (.int .i64 a0_1) ∧ w'.cell? ⟨gb236, 0, none⟩ = some (.int .i64 a1_0) ∧ w'.cell? ⟨gb236, 1, none⟩ = some (.int .i64 a1_1)) ∧ (Kd.R (Kd.int .i64) 3 w' w.heap.size (fun _ => True) s_.1 y240) ∧ (∃ c_, (s_.1 : Value) = .slice (some s_.2) y240.length c_) ∧ (w'.heap[gb235]? = some (.cells #[.int .i64 a0_0, .int .i64 a0_1] 23 (0, 0))) ∧ (w'.heap[gb236]? = some (.cells #[.int .i64 a1_0, .int .i64 a1_1] 23 (0, 0))) ∧ (w'.heap[gb237]? = some (.cells #[.int .i64 x238000_2, .int .i64 x238001_2] 23 (0, 0))) ∧ (Below w.heap.size w w')) ?_ ?_
                  rotate_left
                  ·intro hJ4
                   refine join_ (σ := Value × Addr) 12 #[true, true, true, true, false, true, true, false, false, true, true, true, true, true, true, true, true, false, false, false, false, false, false, false, false, false] (fun s_ => [(39, s_.1), (42, .pointer (some (s_.2.add ((ji29)).toNat)))]) (fun s_ w' => (w'.cell? ⟨gb235, 0, none⟩ = some (.int .i64 a0_0) ∧ w'.cell? ⟨gb235, 1, none⟩ = some (.int .i64 a0_1) ∧ w'.cell? ⟨gb236, 0, none⟩ = some (.int .i64 a1_0) ∧ w'.cell? ⟨gb236, 1, none⟩ = some (.int .i64 a1_1)) ∧ (Kd.R (Kd.int .i64) 3 w' w.heap.size (fun _ => True) s_.1 y244) ∧ (∃ c_, (s_.1 : Value) = .slice (some s_.2) y244.length c_) ∧ (w'.heap[gb235]? = some (.cells #[.int .i64 a0_0, .int .i64 a0_1] 23 (0, 0))) ∧ (w'.heap[gb236]? = some (.cells #[.int .i64 a1_0, .int .i64 a1_1] 23 (0, 0))) ∧ (w'.heap[gb237]? = some (.cells #[.int .i64 x238000_2, .int .i64 x238001_2] 23 (0, 0))) ∧ (Below w.heap.size w w')) ?_ ?_
                   rotate_left
                   ·intro hJ13
                    refine two_ (i := 4) (j := 13) (Ni := some 30) (Nj := some 39) #[true, true, true, true, true, true, true, false, false, true, true, true, true, false, true, true, false, false, false, false, false, false, false, false, false, false] #[true, true, true, true, false, true, true, false, false, true, true, true, true, true, true, true, false, false, false, false, false, false, false, false, false, false] rfl rfl rfl rfl (two_of HT_.out (by kernel_rfl)) (by decide) (by decide) (fun K hK => ?_) (fun K hK => ?_)
                    ·skip
                     refine Kd.R_lit_step (Kd.int .i64) _ 3 ?hg (N := 30) ?hd (xs := ([a0_0, a0_1] : List Int)) (inner := [.int .i64 a0_0, .int .i64 a0_1]) (ok := fun _ => True) (okp := fun _ => True) ?hr ?hp (fun _ hk => hk) trivial (Below.refl _ _) (Nat.le_refl _) (by simp) ?_; (case hd => rfl); (case hg => rfl); (case hr => go_simp); (case hp => exact (Reps.one (show Kd.M (Kd.int .i64) _ _ _ a0_0 [.int .i64 a0_0] from rfl) (Reps.one (show Kd.M (Kd.int .i64) _ _ _ a0_1 [.int .i64 a0_1] from rfl) (Reps.none _ _))))
                     intro v241 w37 ho38 hb hg_ hnew_
                     clear hg_ hnew_
                     (first | rw [← Ny240.out] at ho38 | (simp only [Int.reduceToNat] at ho38; rw [← Ny240.out] at ho38))
                     have n0_ := Aside0.mk (Kd.R_lower ho38 (below_size (by repeat first | exact HB.out | refine below_set ?_ GE235.out | refine below_set ?_ GE236.out | refine below_set ?_ GE237.out)))
                     have n1_ := Aside0.mk (blk_below (g := gb235) (o := .cells #[.int .i64 a0_0, .int .i64 a0_1] 23 (0, 0)) BK235.out hb)
                     have n2_ := Aside0.mk (blk_below (g := gb236) (o := .cells #[.int .i64 a1_0, .int .i64 a1_1] 23 (0, 0)) BK236.out hb)
                     have n3_ := Aside0.mk (blk_below (g := gb237) (o := .cells #[.int .i64 x238000_2, .int .i64 x238001_2] 23 (0, 0)) BK237.out hb)
                     have n4_ := Aside0.mk (below_step (by repeat first | exact HB.out | refine below_set ?_ GE235.out | refine below_set ?_ GE236.out | refine below_set ?_ GE237.out) hb)
                     clear BK235
                     clear BK236
                     clear BK237
                     clear HB
                     have HO242 := n0_
                     have BK235 := n1_
                     have BK236 := n2_
                     have BK237 := n3_
                     have HB := n4_
                     clear n0_ n1_ n2_ n3_ n4_
                     clear hb ho38
                     obtain ⟨Ao39, co39, eo39⟩ := Kd.R_slice HO242.out
                     subst eo39
                     obtain ⟨ado39, fo39, _⟩ := Kd.at_int (Kd.R_reads' HO242.out).2.2 0 (by decide) (by rw [Ny240.out]; simp)
                     cases fo39
                     refine hK.out _ _ ⟨(blk_cell BK235.out 0).trans rfl, (blk_cell BK235.out 1).trans rfl, (blk_cell BK236.out 0).trans rfl, (blk_cell BK236.out 1).trans rfl⟩ (fun hHeld => ?_)
                     clear hK K
                     refine norm_ (a' := ?_) ?_ ?_
                     rotate_left
                     ·show Act.put _ (some 30) _ = _
                      simp only [Act.put, List.setIfInBounds_toArray, List.set_cons_zero, List.set_cons_succ, i64_w, i32_w]
                      rfl
                     refine pure_ (i := 7) (N := some 33) (v := ?_) (a' := ?_) #[true, true, true, true, true, true, true, true, false, true, true, true, true, false, true, true, false, false, false, false, false, false, false, false, false, false] rfl rfl (any_of HT_.out (by kernel_rfl)) (fun _ _ _ h => h) (Or.inl ⟨by rfl, ?_⟩) ?_ ?_
                     rotate_left
                     ·intro w'
                      go_simp
                      with_reducible rfl
                     rotate_left
                     ·simp only [Act.put, List.setIfInBounds_toArray, List.set_cons_zero, List.set_cons_succ, i64_w, i32_w]
                      rfl
                     exact norm_ (by first | (simp only [putAll, Act.put, List.setIfInBounds_toArray, List.set_cons_zero, List.set_cons_succ]; done) | (simp only [putAll, Act.put, List.setIfInBounds_toArray, List.set_cons_zero, List.set_cons_succ]; rfl)) (hJ4 (.slice (some ado39) y240.length co39, ado39) _ ⟨hHeld, HO242.out, ⟨_, rfl⟩, BK235.out, BK236.out, BK237.out, (by repeat first | exact HB.out | refine below_set ?_ GE235.out | refine below_set ?_ GE236.out | refine below_set ?_ GE237.out)⟩)
                    ·skip
                     refine Kd.R_lit_step (Kd.int .i64) _ 3 ?hg (N := 39) ?hd (xs := ([a1_0, a1_1] : List Int)) (inner := [.int .i64 a1_0, .int .i64 a1_1]) (ok := fun _ => True) (okp := fun _ => True) ?hr ?hp (fun _ hk => hk) trivial (Below.refl _ _) (Nat.le_refl _) (by simp) ?_; (case hd => rfl); (case hg => rfl); (case hr => go_simp); (case hp => exact (Reps.one (show Kd.M (Kd.int .i64) _ _ _ a1_0 [.int .i64 a1_0] from rfl) (Reps.one (show Kd.M (Kd.int .i64) _ _ _ a1_1 [.int .i64 a1_1] from rfl) (Reps.none _ _))))
                     intro v245 w37 ho38 hb hg_ hnew_
                     clear hg_ hnew_
                     (first | rw [← Ny244.out] at ho38 | (simp only [Int.reduceToNat] at ho38; rw [← Ny244.out] at ho38))
                     have n0_ := Aside0.mk (Kd.R_lower ho38 (below_size (by repeat first | exact HB.out | refine below_set ?_ GE235.out | refine below_set ?_ GE236.out | refine below_set ?_ GE237.out)))
                     have n1_ := Aside0.mk (blk_below (g := gb235) (o := .cells #[.int .i64 a0_0, .int .i64 a0_1] 23 (0, 0)) BK235.out hb)
                     have n2_ := Aside0.mk (blk_below (g := gb236) (o := .cells #[.int .i64 a1_0, .int .i64 a1_1] 23 (0, 0)) BK236.out hb)
                     have n3_ := Aside0.mk (blk_below (g := gb237) (o := .cells #[.int .i64 x238000_2, .int .i64 x238001_2] 23 (0, 0)) BK237.out hb)
                     have n4_ := Aside0.mk (below_step (by repeat first | exact HB.out | refine below_set ?_ GE235.out | refine below_set ?_ GE236.out | refine below_set ?_ GE237.out) hb)
                     clear BK235
                     clear BK236
                     clear BK237
                     clear HB
                     have HO246 := n0_
                     have BK235 := n1_
                     have BK236 := n2_
                     have BK237 := n3_
                     have HB := n4_
                     clear n0_ n1_ n2_ n3_ n4_
                     clear hb ho38
                     obtain ⟨Ao39, co39, eo39⟩ := Kd.R_slice HO246.out
                     subst eo39
                     obtain ⟨ado39, fo39, _⟩ := Kd.at_int (Kd.R_reads' HO246.out).2.2 0 (by decide) (by rw [Ny244.out]; simp)
                     cases fo39
                     refine hK.out _ _ ⟨(blk_cell BK235.out 0).trans rfl, (blk_cell BK235.out 1).trans rfl, (blk_cell BK236.out 0).trans rfl, (blk_cell BK236.out 1).trans rfl⟩ (fun hHeld => ?_)
                     clear hK K
                     refine norm_ (a' := ?_) ?_ ?_
                     rotate_left
                     ·show Act.put _ (some 39) _ = _
                      simp only [Act.put, List.setIfInBounds_toArray, List.set_cons_zero, List.set_cons_succ, i64_w, i32_w]
                      rfl
                     refine pure_ (i := 16) (N := some 42) (v := ?_) (a' := ?_) #[true, true, true, true, false, true, true, false, false, true, true, true, true, true, true, true, true, false, false, false, false, false, false, false, false, false] rfl rfl (any_of HT_.out (by kernel_rfl)) (fun _ _ _ h => h) (Or.inl ⟨by rfl, ?_⟩) ?_ ?_
                     rotate_left
                     ·intro w'
                      go_simp
                      with_reducible rfl
                     rotate_left
                     ·simp only [Act.put, List.setIfInBounds_toArray, List.set_cons_zero, List.set_cons_succ, i64_w, i32_w]
                      rfl
                     exact norm_ (by first | (simp only [putAll, Act.put, List.setIfInBounds_toArray, List.set_cons_zero, List.set_cons_succ]; done) | (simp only [putAll, Act.put, List.setIfInBounds_toArray, List.set_cons_zero, List.set_cons_succ]; rfl)) (hJ13 (.slice (some ado39) y244.length co39, ado39) _ ⟨hHeld, HO246.out, ⟨_, rfl⟩, BK235.out, BK236.out, BK237.out, (by repeat first | exact HB.out | refine below_set ?_ GE235.out | refine below_set ?_ GE236.out | refine below_set ?_ GE237.out)⟩)
                   ·skip
                    rintro ⟨v245, adz_v245⟩ w40 ⟨hS_, h0_, h1_, h2_, h3_, h4_, h5_⟩
                    have n0_ : Aside0 (Kd.R (Kd.int .i64) 3 w40 w.heap.size (fun _ => True) v245 y244) := ⟨h0_⟩
                    have n1_ : Aside0 (∃ c_, (v245 : Value) = .slice (some adz_v245) y244.length c_) := ⟨h1_⟩
                    have n2_ : Aside0 (w40.heap[gb235]? = some (.cells #[.int .i64 a0_0, .int .i64 a0_1] 23 (0, 0))) := ⟨h2_⟩
                    have n3_ : Aside0 (w40.heap[gb236]? = some (.cells #[.int .i64 a1_0, .int .i64 a1_1] 23 (0, 0))) := ⟨h3_⟩
                    have n4_ : Aside0 (w40.heap[gb237]? = some (.cells #[.int .i64 x238000_2, .int .i64 x238001_2] 23 (0, 0))) := ⟨h4_⟩
                    have n5_ : Aside0 (Below w.heap.size w w40) := ⟨h5_⟩
                    clear BK235
                    clear BK236
                    clear BK237
                    clear HB
                    clear h0_ h1_ h2_ h3_ h4_ h5_
                    have HO246 := n0_
                    have HA_HO246 := n1_
                    have BK235 := n2_
                    have BK236 := n3_
                    have BK237 := n4_
                    have HB := n5_
                    clear n0_ n1_ n2_ n3_ n4_ n5_
                    have hHeld : w40.cell? ⟨gb235, 0, none⟩ = some (.int .i64 a0_0) ∧ w40.cell? ⟨gb235, 1, none⟩ = some (.int .i64 a0_1) ∧ w40.cell? ⟨gb236, 0, none⟩ = some (.int .i64 a1_0) ∧ w40.cell? ⟨gb236, 1, none⟩ = some (.int .i64 a1_1) := hS_
                    obtain ⟨co41, eo41⟩ := HA_HO246.out
                    clear HA_HO246
                    subst eo41
                    refine norm_ (a' := ?_) ?_ ?_
                    rotate_left
                    ·simp only [putAll, Act.put, List.setIfInBounds_toArray, List.set_cons_zero, List.set_cons_succ]
                     rfl
                    refine two_ (i := 4) (j := 17) (Ni := some 30) (Nj := some 43) #[true, true, true, true, true, true, true, false, false, true, true, true, true, true, true, true, true, false, false, false, false, false, false, false, false, false] #[true, true, true, true, false, true, true, false, false, true, true, true, true, true, true, true, true, true, false, false, false, false, false, false, false, false] rfl rfl rfl rfl (two_of HT_.out (by kernel_rfl)) (by decide) (by decide) (fun K hK => ?_) (fun K hK => ?_)
                    ·skip
                     refine Kd.R_lit_step (Kd.int .i64) _ 3 ?hg (N := 30) ?hd (xs := ([a0_0, a0_1] : List Int)) (inner := [.int .i64 a0_0, .int .i64 a0_1]) (ok := fun _ => True) (okp := fun _ => True) ?hr ?hp (fun _ hk => hk) trivial (Below.refl _ _) (Nat.le_refl _) (by simp) ?_; (case hd => rfl); (case hg => rfl); (case hr => go_simp); (case hp => exact (Reps.one (show Kd.M (Kd.int .i64) _ _ _ a0_0 [.int .i64 a0_0] from rfl) (Reps.one (show Kd.M (Kd.int .i64) _ _ _ a0_1 [.int .i64 a0_1] from rfl) (Reps.none _ _))))
                     intro v241 w42 ho43 hb hg_ hnew_
                     clear hg_ hnew_
                     (first | rw [← Ny240.out] at ho43 | (simp only [Int.reduceToNat] at ho43; rw [← Ny240.out] at ho43))
                     have n0_ := Aside0.mk (Kd.R_elder' HO246.out (Kd.R_base ho43) hb)
                     have n1_ := Aside0.mk (Kd.R_lower (Kd.R_new' ho43 (Kd.R_lt HO246.out)) (below_size (by repeat first | exact HB.out | refine below_set ?_ GE235.out | refine below_set ?_ GE236.out | refine below_set ?_ GE237.out)))
                     have n2_ := Aside0.mk (blk_below (g := gb235) (o := .cells #[.int .i64 a0_0, .int .i64 a0_1] 23 (0, 0)) BK235.out hb)
                     have n3_ := Aside0.mk (blk_below (g := gb236) (o := .cells #[.int .i64 a1_0, .int .i64 a1_1] 23 (0, 0)) BK236.out hb)
                     have n4_ := Aside0.mk (blk_below (g := gb237) (o := .cells #[.int .i64 x238000_2, .int .i64 x238001_2] 23 (0, 0)) BK237.out hb)
                     have n5_ := Aside0.mk (below_step (by repeat first | exact HB.out | refine below_set ?_ GE235.out | refine below_set ?_ GE236.out | refine below_set ?_ GE237.out) hb)
                     clear HO246
                     clear BK235
                     clear BK236
                     clear BK237
                     clear HB
                     have HO246 := n0_
                     have HO242 := n1_
                     have BK235 := n2_
                     have BK236 := n3_
                     have BK237 := n4_
                     have HB := n5_
                     clear n0_ n1_ n2_ n3_ n4_ n5_
                     clear hb ho43
                     obtain ⟨Ao44, co44, eo44⟩ := Kd.R_slice HO242.out
                     subst eo44
                     obtain ⟨ado44, fo44, _⟩ := Kd.at_int (Kd.R_reads' HO242.out).2.2 0 (by decide) (by rw [Ny240.out]; simp)
                     cases fo44
                     refine hK.out _ _ ⟨(blk_cell BK235.out 0).trans rfl, (blk_cell BK235.out 1).trans rfl, (blk_cell BK236.out 0).trans rfl, (blk_cell BK236.out 1).trans rfl⟩ (fun hHeld => ?_)
                     clear hK K
                     refine norm_ (a' := ?_) ?_ ?_
                     rotate_left
                     ·show Act.put _ (some 30) _ = _
                      simp only [Act.put, List.setIfInBounds_toArray, List.set_cons_zero, List.set_cons_succ, i64_w, i32_w]
                      rfl
                     refine pure_ (i := 7) (N := some 33) (v := ?_) (a' := ?_) #[true, true, true, true, true, true, true, true, false, true, true, true, true, true, true, true, true, false, false, false, false, false, false, false, false, false] rfl rfl (any_of HT_.out (by kernel_rfl)) (fun _ _ _ h => h) (Or.inl ⟨by rfl, ?_⟩) ?_ ?_
                     rotate_left
                     ·intro w'
                      go_simp
                      with_reducible rfl
                     rotate_left
                     ·simp only [Act.put, List.setIfInBounds_toArray, List.set_cons_zero, List.set_cons_succ, i64_w, i32_w]
                      rfl
                     exact norm_ (by first | (simp only [putAll, Act.put, List.setIfInBounds_toArray, List.set_cons_zero, List.set_cons_succ]; done) | (simp only [putAll, Act.put, List.setIfInBounds_toArray, List.set_cons_zero, List.set_cons_succ]; rfl)) (hJ4_13 (.slice (some ado44) y240.length co44, ado44, .slice (some adz_v245) y244.length co41, adz_v245) _ ⟨hHeld, (by (with_reducible repeat (first | apply Kd.R_alloc | apply Kd.R_drewN | apply Kd.R_drew)); exact Kd.R_mono HO242.out (fun _ hk => hk.2)), (by (with_reducible repeat (first | apply Kd.R_alloc | apply Kd.R_drewN | apply Kd.R_drew)); exact Kd.R_mono HO246.out (fun _ hk => hk.2)), ⟨_, rfl⟩, ⟨_, rfl⟩, BK235.out, BK236.out, BK237.out, (by repeat first | exact HB.out | refine below_set ?_ GE235.out | refine below_set ?_ GE236.out | refine below_set ?_ GE237.out)⟩)
                    ·skip
                     (have p247 : 0 ≤ ((ji29) : Int) := of_decide_eq_true (by assumption); have q247 : (ji29) < (y244.length : Int) := of_decide_eq_true (by assumption); obtain ⟨ad247, e247, hx247_0⟩ := Kd.at_int (Kd.R_reads' HO246.out).2.2 (ji29) p247 q247; obtain rfl : adz_v245 = ad247 := (by injection e247))
                     refine value_ (w1 := ?_) (v := ?_) (by rfl) rfl ?_ ?_
                     rotate_left 2
                     ·go_simp
                      constructor
                      ·rfl
                      ·rfl
                     clear hx247_0
                     refine hK.out _ _ ⟨(blk_cell BK235.out 0).trans rfl, (blk_cell BK235.out 1).trans rfl, (blk_cell BK236.out 0).trans rfl, (blk_cell BK236.out 1).trans rfl⟩ (fun hHeld => ?_)
                     clear hK K
                     refine norm_ (a' := ?_) ?_ ?_
                     rotate_left
                     ·show Act.put _ (some 43) _ = _
                      simp only [Act.put, List.setIfInBounds_toArray, List.set_cons_zero, List.set_cons_succ, i64_w, i32_w]
                      rfl
                     exact norm_ (by first | (simp only [putAll, Act.put, List.setIfInBounds_toArray, List.set_cons_zero, List.set_cons_succ]; done) | (simp only [putAll, Act.put, List.setIfInBounds_toArray, List.set_cons_zero, List.set_cons_succ]; rfl)) (hJ13_17 (.slice (some adz_v245) y244.length co41, adz_v245) _ ⟨hHeld, HO246.out, ⟨_, rfl⟩, BK235.out, BK236.out, BK237.out, (by repeat first | exact HB.out | refine below_set ?_ GE235.out | refine below_set ?_ GE236.out | refine below_set ?_ GE237.out)⟩)
                  ·skip
                   rintro ⟨v241, adz_v241⟩ w40 ⟨hS_, h0_, h1_, h2_, h3_, h4_, h5_⟩
                   have n0_ : Aside0 (Kd.R (Kd.int .i64) 3 w40 w.heap.size (fun _ => True) v241 y240) := ⟨h0_⟩
                   have n1_ : Aside0 (∃ c_, (v241 : Value) = .slice (some adz_v241) y240.length c_) := ⟨h1_⟩
                   have n2_ : Aside0 (w40.heap[gb235]? = some (.cells #[.int .i64 a0_0, .int .i64 a0_1] 23 (0, 0))) := ⟨h2_⟩
                   have n3_ : Aside0 (w40.heap[gb236]? = some (.cells #[.int .i64 a1_0, .int .i64 a1_1] 23 (0, 0))) := ⟨h3_⟩
                   have n4_ : Aside0 (w40.heap[gb237]? = some (.cells #[.int .i64 x238000_2, .int .i64 x238001_2] 23 (0, 0))) := ⟨h4_⟩
                   have n5_ : Aside0 (Below w.heap.size w w40) := ⟨h5_⟩
                   clear BK235
                   clear BK236
                   clear BK237
                   clear HB
                   clear h0_ h1_ h2_ h3_ h4_ h5_
                   have HO242 := n0_
                   have HA_HO242 := n1_
                   have BK235 := n2_
                   have BK236 := n3_
                   have BK237 := n4_
                   have HB := n5_
                   clear n0_ n1_ n2_ n3_ n4_ n5_
                   have hHeld : w40.cell? ⟨gb235, 0, none⟩ = some (.int .i64 a0_0) ∧ w40.cell? ⟨gb235, 1, none⟩ = some (.int .i64 a0_1) ∧ w40.cell? ⟨gb236, 0, none⟩ = some (.int .i64 a1_0) ∧ w40.cell? ⟨gb236, 1, none⟩ = some (.int .i64 a1_1) := hS_
                   obtain ⟨co41, eo41⟩ := HA_HO242.out
                   clear HA_HO242
                   subst eo41
                   refine norm_ (a' := ?_) ?_ ?_
                   rotate_left
                   ·simp only [putAll, Act.put, List.setIfInBounds_toArray, List.set_cons_zero, List.set_cons_succ]
                    rfl
                   refine two_ (i := 8) (j := 13) (Ni := some 34) (Nj := some 39) #[true, true, true, true, true, true, true, true, true, true, true, true, true, false, true, true, false, false, false, false, false, false, false, false, false, false] #[true, true, true, true, true, true, true, true, false, true, true, true, true, true, true, true, false, false, false, false, false, false, false, false, false, false] rfl rfl rfl rfl (two_of HT_.out (by kernel_rfl)) (by decide) (by decide) (fun K hK => ?_) (fun K hK => ?_)
                   ·skip
                    (have p243 : 0 ≤ ((ji26) : Int) := of_decide_eq_true (by assumption); have q243 : (ji26) < (y240.length : Int) := of_decide_eq_true (by assumption); obtain ⟨ad243, e243, hx243_0⟩ := Kd.at_int (Kd.R_reads' HO242.out).2.2 (ji26) p243 q243; obtain rfl : adz_v241 = ad243 := (by injection e243))
                    refine value_ (w1 := ?_) (v := ?_) (by rfl) rfl ?_ ?_
                    rotate_left 2
                    ·go_simp
                     constructor
                     ·rfl
                     ·rfl
                    clear hx243_0
                    refine hK.out _ _ ⟨(blk_cell BK235.out 0).trans rfl, (blk_cell BK235.out 1).trans rfl, (blk_cell BK236.out 0).trans rfl, (blk_cell BK236.out 1).trans rfl⟩ (fun hHeld => ?_)
                    clear hK K
                    refine norm_ (a' := ?_) ?_ ?_
                    rotate_left
                    ·show Act.put _ (some 34) _ = _
                     simp only [Act.put, List.setIfInBounds_toArray, List.set_cons_zero, List.set_cons_succ, i64_w, i32_w]
                     rfl
                    exact norm_ (by first | (simp only [putAll, Act.put, List.setIfInBounds_toArray, List.set_cons_zero, List.set_cons_succ]; done) | (simp only [putAll, Act.put, List.setIfInBounds_toArray, List.set_cons_zero, List.set_cons_succ]; rfl)) (hJ4_8 (.slice (some adz_v241) y240.length co41, adz_v241) _ ⟨hHeld, HO242.out, ⟨_, rfl⟩, BK235.out, BK236.out, BK237.out, (by repeat first | exact HB.out | refine below_set ?_ GE235.out | refine below_set ?_ GE236.out | refine below_set ?_ GE237.out)⟩)
                   ·skip
                    refine Kd.R_lit_step (Kd.int .i64) _ 3 ?hg (N := 39) ?hd (xs := ([a1_0, a1_1] : List Int)) (inner := [.int .i64 a1_0, .int .i64 a1_1]) (ok := fun _ => True) (okp := fun _ => True) ?hr ?hp (fun _ hk => hk) trivial (Below.refl _ _) (Nat.le_refl _) (by simp) ?_; (case hd => rfl); (case hg => rfl); (case hr => go_simp); (case hp => exact (Reps.one (show Kd.M (Kd.int .i64) _ _ _ a1_0 [.int .i64 a1_0] from rfl) (Reps.one (show Kd.M (Kd.int .i64) _ _ _ a1_1 [.int .i64 a1_1] from rfl) (Reps.none _ _))))
                    intro v245 w42 ho43 hb hg_ hnew_
                    clear hg_ hnew_
                    (first | rw [← Ny244.out] at ho43 | (simp only [Int.reduceToNat] at ho43; rw [← Ny244.out] at ho43))
                    have n0_ := Aside0.mk (Kd.R_elder' HO242.out (Kd.R_base ho43) hb)
                    have n1_ := Aside0.mk (Kd.R_lower (Kd.R_new' ho43 (Kd.R_lt HO242.out)) (below_size (by repeat first | exact HB.out | refine below_set ?_ GE235.out | refine below_set ?_ GE236.out | refine below_set ?_ GE237.out)))
                    have n2_ := Aside0.mk (blk_below (g := gb235) (o := .cells #[.int .i64 a0_0, .int .i64 a0_1] 23 (0, 0)) BK235.out hb)
                    have n3_ := Aside0.mk (blk_below (g := gb236) (o := .cells #[.int .i64 a1_0, .int .i64 a1_1] 23 (0, 0)) BK236.out hb)
                    have n4_ := Aside0.mk (blk_below (g := gb237) (o := .cells #[.int .i64 x238000_2, .int .i64 x238001_2] 23 (0, 0)) BK237.out hb)
                    have n5_ := Aside0.mk (below_step (by repeat first | exact HB.out | refine below_set ?_ GE235.out | refine below_set ?_ GE236.out | refine below_set ?_ GE237.out) hb)
                    clear HO242
                    clear BK235
                    clear BK236
                    clear BK237
                    clear HB
                    have HO242 := n0_
                    have HO246 := n1_
                    have BK235 := n2_
                    have BK236 := n3_
                    have BK237 := n4_
                    have HB := n5_
                    clear n0_ n1_ n2_ n3_ n4_ n5_
                    clear hb ho43
                    obtain ⟨Ao44, co44, eo44⟩ := Kd.R_slice HO246.out
                    subst eo44
                    obtain ⟨ado44, fo44, _⟩ := Kd.at_int (Kd.R_reads' HO246.out).2.2 0 (by decide) (by rw [Ny244.out]; simp)
                    cases fo44
                    refine hK.out _ _ ⟨(blk_cell BK235.out 0).trans rfl, (blk_cell BK235.out 1).trans rfl, (blk_cell BK236.out 0).trans rfl, (blk_cell BK236.out 1).trans rfl⟩ (fun hHeld => ?_)
                    clear hK K
                    refine norm_ (a' := ?_) ?_ ?_
                    rotate_left
                    ·show Act.put _ (some 39) _ = _
                     simp only [Act.put, List.setIfInBounds_toArray, List.set_cons_zero, List.set_cons_succ, i64_w, i32_w]
                     rfl
                    refine pure_ (i := 16) (N := some 42) (v := ?_) (a' := ?_) #[true, true, true, true, true, true, true, true, false, true, true, true, true, true, true, true, true, false, false, false, false, false, false, false, false, false] rfl rfl (any_of HT_.out (by kernel_rfl)) (fun _ _ _ h => h) (Or.inl ⟨by rfl, ?_⟩) ?_ ?_
                    rotate_left
                    ·intro w'
                     go_simp
                     with_reducible rfl
                    rotate_left
                    ·simp only [Act.put, List.setIfInBounds_toArray, List.set_cons_zero, List.set_cons_succ, i64_w, i32_w]
                     rfl
                    exact norm_ (by first | (simp only [putAll, Act.put, List.setIfInBounds_toArray, List.set_cons_zero, List.set_cons_succ]; done) | (simp only [putAll, Act.put, List.setIfInBounds_toArray, List.set_cons_zero, List.set_cons_succ]; rfl)) (hJ4_13 (.slice (some adz_v241) y240.length co41, adz_v241, .slice (some ado44) y244.length co44, ado44) _ ⟨hHeld, (by (with_reducible repeat (first | apply Kd.R_alloc | apply Kd.R_drewN | apply Kd.R_drew)); exact Kd.R_mono HO242.out (fun _ hk => hk.2)), (by (with_reducible repeat (first | apply Kd.R_alloc | apply Kd.R_drewN | apply Kd.R_drew)); exact Kd.R_mono HO246.out (fun _ hk => hk.2)), ⟨_, rfl⟩, ⟨_, rfl⟩, BK235.out, BK236.out, BK237.out, (by repeat first | exact HB.out | refine below_set ?_ GE235.out | refine below_set ?_ GE236.out | refine below_set ?_ GE237.out)⟩)
                 ·skip
                  rintro ⟨v245, adz_v245⟩ w40 ⟨hS_, h0_, h1_, h2_, h3_, h4_, h5_⟩
                  have n0_ : Aside0 (Kd.R (Kd.int .i64) 3 w40 w.heap.size (fun _ => True) v245 y244) := ⟨h0_⟩
                  have n1_ : Aside0 (∃ c_, (v245 : Value) = .slice (some adz_v245) y244.length c_) := ⟨h1_⟩
                  have n2_ : Aside0 (w40.heap[gb235]? = some (.cells #[.int .i64 a0_0, .int .i64 a0_1] 23 (0, 0))) := ⟨h2_⟩
                  have n3_ : Aside0 (w40.heap[gb236]? = some (.cells #[.int .i64 a1_0, .int .i64 a1_1] 23 (0, 0))) := ⟨h3_⟩
                  have n4_ : Aside0 (w40.heap[gb237]? = some (.cells #[.int .i64 x238000_2, .int .i64 x238001_2] 23 (0, 0))) := ⟨h4_⟩
                  have n5_ : Aside0 (Below w.heap.size w w40) := ⟨h5_⟩
                  clear BK235
                  clear BK236
                  clear BK237
                  clear HB
                  clear h0_ h1_ h2_ h3_ h4_ h5_
                  have HO246 := n0_
                  have HA_HO246 := n1_
                  have BK235 := n2_
                  have BK236 := n3_
                  have BK237 := n4_
                  have HB := n5_
                  clear n0_ n1_ n2_ n3_ n4_ n5_
                  have hHeld : w40.cell? ⟨gb235, 0, none⟩ = some (.int .i64 a0_0) ∧ w40.cell? ⟨gb235, 1, none⟩ = some (.int .i64 a0_1) ∧ w40.cell? ⟨gb236, 0, none⟩ = some (.int .i64 a1_0) ∧ w40.cell? ⟨gb236, 1, none⟩ = some (.int .i64 a1_1) := hS_
                  obtain ⟨co41, eo41⟩ := HA_HO246.out
                  clear HA_HO246
                  subst eo41
                  refine norm_ (a' := ?_) ?_ ?_
                  rotate_left
                  ·simp only [putAll, Act.put, List.setIfInBounds_toArray, List.set_cons_zero, List.set_cons_succ]
                   rfl
                  refine one_ (i := 4) (N := some 30) #[true, true, true, true, true, true, true, false, false, true, true, true, true, true, true, true, true, true, false, false, false, false, false, false, false, false] rfl rfl (one_of HT_.out (by kernel_rfl)) (by decide) (fun K hK => ?_)
                  refine Kd.R_lit_step (Kd.int .i64) _ 3 ?hg (N := 30) ?hd (xs := ([a0_0, a0_1] : List Int)) (inner := [.int .i64 a0_0, .int .i64 a0_1]) (ok := fun _ => True) (okp := fun _ => True) ?hr ?hp (fun _ hk => hk) trivial (Below.refl _ _) (Nat.le_refl _) (by simp) ?_; (case hd => rfl); (case hg => rfl); (case hr => go_simp); (case hp => exact (Reps.one (show Kd.M (Kd.int .i64) _ _ _ a0_0 [.int .i64 a0_0] from rfl) (Reps.one (show Kd.M (Kd.int .i64) _ _ _ a0_1 [.int .i64 a0_1] from rfl) (Reps.none _ _))))
                  intro v241 w42 ho43 hb hg_ hnew_
                  clear hg_ hnew_
                  (first | rw [← Ny240.out] at ho43 | (simp only [Int.reduceToNat] at ho43; rw [← Ny240.out] at ho43))
                  have n0_ := Aside0.mk (Kd.R_elder' HO246.out (Kd.R_base ho43) hb)
                  have n1_ := Aside0.mk (Kd.R_lower (Kd.R_new' ho43 (Kd.R_lt HO246.out)) (below_size (by repeat first | exact HB.out | refine below_set ?_ GE235.out | refine below_set ?_ GE236.out | refine below_set ?_ GE237.out)))
                  have n2_ := Aside0.mk (blk_below (g := gb235) (o := .cells #[.int .i64 a0_0, .int .i64 a0_1] 23 (0, 0)) BK235.out hb)
                  have n3_ := Aside0.mk (blk_below (g := gb236) (o := .cells #[.int .i64 a1_0, .int .i64 a1_1] 23 (0, 0)) BK236.out hb)
                  have n4_ := Aside0.mk (blk_below (g := gb237) (o := .cells #[.int .i64 x238000_2, .int .i64 x238001_2] 23 (0, 0)) BK237.out hb)
                  have n5_ := Aside0.mk (below_step (by repeat first | exact HB.out | refine below_set ?_ GE235.out | refine below_set ?_ GE236.out | refine below_set ?_ GE237.out) hb)
                  clear HO246
                  clear BK235
                  clear BK236
                  clear BK237
                  clear HB
                  have HO246 := n0_
                  have HO242 := n1_
                  have BK235 := n2_
                  have BK236 := n3_
                  have BK237 := n4_
                  have HB := n5_
                  clear n0_ n1_ n2_ n3_ n4_ n5_
                  clear hb ho43
                  obtain ⟨Ao44, co44, eo44⟩ := Kd.R_slice HO242.out
                  subst eo44
                  obtain ⟨ado44, fo44, _⟩ := Kd.at_int (Kd.R_reads' HO242.out).2.2 0 (by decide) (by rw [Ny240.out]; simp)
                  cases fo44
                  refine hK.out _ _ ⟨(blk_cell BK235.out 0).trans rfl, (blk_cell BK235.out 1).trans rfl, (blk_cell BK236.out 0).trans rfl, (blk_cell BK236.out 1).trans rfl⟩ (fun hHeld => ?_)
                  clear hK K
                  refine norm_ (a' := ?_) ?_ ?_
                  rotate_left
                  ·show Act.put _ (some 30) _ = _
                   simp only [Act.put, List.setIfInBounds_toArray, List.set_cons_zero, List.set_cons_succ, i64_w, i32_w]
                   rfl
                  refine pure_ (i := 7) (N := some 33) (v := ?_) (a' := ?_) #[true, true, true, true, true, true, true, true, false, true, true, true, true, true, true, true, true, true, false, false, false, false, false, false, false, false] rfl rfl (any_of HT_.out (by kernel_rfl)) (fun _ _ _ h => h) (Or.inl ⟨by rfl, ?_⟩) ?_ ?_
                  rotate_left
                  ·intro w'
                   go_simp
                   with_reducible rfl
                  rotate_left
                  ·simp only [Act.put, List.setIfInBounds_toArray, List.set_cons_zero, List.set_cons_succ, i64_w, i32_w]
                   rfl
                  exact norm_ (by first | (simp only [putAll, Act.put, List.setIfInBounds_toArray, List.set_cons_zero, List.set_cons_succ]; done) | (simp only [putAll, Act.put, List.setIfInBounds_toArray, List.set_cons_zero, List.set_cons_succ]; rfl)) (hJ4_13_17 (.slice (some ado44) y240.length co44, ado44, .slice (some adz_v245) y244.length co41, adz_v245) _ ⟨hHeld, (by (with_reducible repeat (first | apply Kd.R_alloc | apply Kd.R_drewN | apply Kd.R_drew)); exact Kd.R_mono HO242.out (fun _ hk => hk.2)), (by (with_reducible repeat (first | apply Kd.R_alloc | apply Kd.R_drewN | apply Kd.R_drew)); exact Kd.R_mono HO246.out (fun _ hk => hk.2)), ⟨_, rfl⟩, ⟨_, rfl⟩, BK235.out, BK236.out, BK237.out, (by repeat first | exact HB.out | refine below_set ?_ GE235.out | refine below_set ?_ GE236.out | refine below_set ?_ GE237.out)⟩)
                ·skip
                 rintro ⟨v241, adz_v241, v245, adz_v245⟩ w43 ⟨hS_, h0_, h1_, h2_, h3_, h4_, h5_, h6_, h7_⟩
                 have n0_ : Aside0 (Kd.R (Kd.int .i64) 3 w43 w.heap.size (fun k_ => some k_ ≠ (v245 : Value).ownBlock) v241 y240) := ⟨h0_⟩
                 have n1_ : Aside0 (Kd.R (Kd.int .i64) 3 w43 w.heap.size (fun k_ => some k_ ≠ (v241 : Value).ownBlock) v245 y244) := ⟨h1_⟩
                 have n2_ : Aside0 (∃ c_, (v241 : Value) = .slice (some adz_v241) y240.length c_) := ⟨h2_⟩
                 have n3_ : Aside0 (∃ c_, (v245 : Value) = .slice (some adz_v245) y244.length c_) := ⟨h3_⟩
                 have n4_ : Aside0 (w43.heap[gb235]? = some (.cells #[.int .i64 a0_0, .int .i64 a0_1] 23 (0, 0))) := ⟨h4_⟩
                 have n5_ : Aside0 (w43.heap[gb236]? = some (.cells #[.int .i64 a1_0, .int .i64 a1_1] 23 (0, 0))) := ⟨h5_⟩
                 have n6_ : Aside0 (w43.heap[gb237]? = some (.cells #[.int .i64 x238000_2, .int .i64 x238001_2] 23 (0, 0))) := ⟨h6_⟩
                 have n7_ : Aside0 (Below w.heap.size w w43) := ⟨h7_⟩
                 clear BK235
                 clear BK236
                 clear BK237
                 clear HB
                 clear h0_ h1_ h2_ h3_ h4_ h5_ h6_ h7_
                 have HO242 := n0_
                 have HO246 := n1_
                 have HA_HO242 := n2_
                 have HA_HO246 := n3_
                 have BK235 := n4_
                 have BK236 := n5_
                 have BK237 := n6_
                 have HB := n7_
                 clear n0_ n1_ n2_ n3_ n4_ n5_ n6_ n7_
                 have hHeld : w43.cell? ⟨gb235, 0, none⟩ = some (.int .i64 a0_0) ∧ w43.cell? ⟨gb235, 1, none⟩ = some (.int .i64 a0_1) ∧ w43.cell? ⟨gb236, 0, none⟩ = some (.int .i64 a1_0) ∧ w43.cell? ⟨gb236, 1, none⟩ = some (.int .i64 a1_1) := hS_
                 obtain ⟨co44, eo44⟩ := HA_HO242.out
                 clear HA_HO242
                 subst eo44
                 obtain ⟨co45, eo45⟩ := HA_HO246.out
                 clear HA_HO246
                 subst eo45
                 refine norm_ (a' := ?_) ?_ ?_
                 rotate_left
                 ·simp only [putAll, Act.put, List.setIfInBounds_toArray, List.set_cons_zero, List.set_cons_succ]
                  rfl
                 refine two_ (i := 8) (j := 17) (Ni := some 34) (Nj := some 43) #[true, true, true, true, true, true, true, true, true, true, true, true, true, true, true, true, true, false, false, false, false, false, false, false, false, false] #[true, true, true, true, true, true, true, true, false, true, true, true, true, true, true, true, true, true, false, false, false, false, false, false, false, false] rfl rfl rfl rfl (two_of HT_.out (by kernel_rfl)) (by decide) (by decide) (fun K hK => ?_) (fun K hK => ?_)
                 ·skip
                  (have p243 : 0 ≤ ((ji26) : Int) := of_decide_eq_true (by assumption); have q243 : (ji26) < (y240.length : Int) := of_decide_eq_true (by assumption); obtain ⟨ad243, e243, hx243_0⟩ := Kd.at_int (Kd.R_reads' HO242.out).2.2 (ji26) p243 q243; obtain rfl : adz_v241 = ad243 := (by injection e243))
                  refine value_ (w1 := ?_) (v := ?_) (by rfl) rfl ?_ ?_
                  rotate_left 2
                  ·go_simp
                   constructor
                   ·rfl
                   ·rfl
                  clear hx243_0
                  refine hK.out _ _ ⟨(blk_cell BK235.out 0).trans rfl, (blk_cell BK235.out 1).trans rfl, (blk_cell BK236.out 0).trans rfl, (blk_cell BK236.out 1).trans rfl⟩ (fun hHeld => ?_)
                  clear hK K
                  refine norm_ (a' := ?_) ?_ ?_
                  rotate_left
                  ·show Act.put _ (some 34) _ = _
                   simp only [Act.put, List.setIfInBounds_toArray, List.set_cons_zero, List.set_cons_succ, i64_w, i32_w]
                   rfl
                  exact norm_ (by first | (simp only [putAll, Act.put, List.setIfInBounds_toArray, List.set_cons_zero, List.set_cons_succ]; done) | (simp only [putAll, Act.put, List.setIfInBounds_toArray, List.set_cons_zero, List.set_cons_succ]; rfl)) (hJ4_8_13 (.slice (some adz_v241) y240.length co44, adz_v241, .slice (some adz_v245) y244.length co45, adz_v245) _ ⟨hHeld, HO242.out, HO246.out, ⟨_, rfl⟩, ⟨_, rfl⟩, BK235.out, BK236.out, BK237.out, (by repeat first | exact HB.out | refine below_set ?_ GE235.out | refine below_set ?_ GE236.out | refine below_set ?_ GE237.out)⟩)
                 ·skip
                  (have p247 : 0 ≤ ((ji29) : Int) := of_decide_eq_true (by assumption); have q247 : (ji29) < (y244.length : Int) := of_decide_eq_true (by assumption); obtain ⟨ad247, e247, hx247_0⟩ := Kd.at_int (Kd.R_reads' HO246.out).2.2 (ji29) p247 q247; obtain rfl : adz_v245 = ad247 := (by injection e247))
                  refine value_ (w1 := ?_) (v := ?_) (by rfl) rfl ?_ ?_
                  rotate_left 2
                  ·go_simp
                   constructor
                   ·rfl
                   ·rfl
                  clear hx247_0
                  refine hK.out _ _ ⟨(blk_cell BK235.out 0).trans rfl, (blk_cell BK235.out 1).trans rfl, (blk_cell BK236.out 0).trans rfl, (blk_cell BK236.out 1).trans rfl⟩ (fun hHeld => ?_)
                  clear hK K
                  refine norm_ (a' := ?_) ?_ ?_
                  rotate_left
                  ·show Act.put _ (some 43) _ = _
                   simp only [Act.put, List.setIfInBounds_toArray, List.set_cons_zero, List.set_cons_succ, i64_w, i32_w]
                   rfl
                  exact norm_ (by first | (simp only [putAll, Act.put, List.setIfInBounds_toArray, List.set_cons_zero, List.set_cons_succ]; done) | (simp only [putAll, Act.put, List.setIfInBounds_toArray, List.set_cons_zero, List.set_cons_succ]; rfl)) (hJ4_13_17 (.slice (some adz_v241) y240.length co44, adz_v241, .slice (some adz_v245) y244.length co45, adz_v245) _ ⟨hHeld, HO242.out, HO246.out, ⟨_, rfl⟩, ⟨_, rfl⟩, BK235.out, BK236.out, BK237.out, (by repeat first | exact HB.out | refine below_set ?_ GE235.out | refine below_set ?_ GE236.out | refine below_set ?_ GE237.out)⟩)
               ·skip
                rintro ⟨v241, adz_v241⟩ w40 ⟨hS_, h0_, h1_, h2_, h3_, h4_, h5_⟩
                have n0_ : Aside0 (Kd.R (Kd.int .i64) 3 w40 w.heap.size (fun _ => True) v241 y240) := ⟨h0_⟩
                have n1_ : Aside0 (∃ c_, (v241 : Value) = .slice (some adz_v241) y240.length c_) := ⟨h1_⟩
                have n2_ : Aside0 (w40.heap[gb235]? = some (.cells #[.int .i64 a0_0, .int .i64 a0_1] 23 (0, 0))) := ⟨h2_⟩
                have n3_ : Aside0 (w40.heap[gb236]? = some (.cells #[.int .i64 a1_0, .int .i64 a1_1] 23 (0, 0))) := ⟨h3_⟩
                have n4_ : Aside0 (w40.heap[gb237]? = some (.cells #[.int .i64 x238000_2, .int .i64 x238001_2] 23 (0, 0))) := ⟨h4_⟩
                have n5_ : Aside0 (Below w.heap.size w w40) := ⟨h5_⟩
                clear BK235
                clear BK236
                clear BK237
                clear HB
                clear h0_ h1_ h2_ h3_ h4_ h5_
                have HO242 := n0_
                have HA_HO242 := n1_
                have BK235 := n2_
                have BK236 := n3_
                have BK237 := n4_
                have HB := n5_
                clear n0_ n1_ n2_ n3_ n4_ n5_
                have hHeld : w40.cell? ⟨gb235, 0, none⟩ = some (.int .i64 a0_0) ∧ w40.cell? ⟨gb235, 1, none⟩ = some (.int .i64 a0_1) ∧ w40.cell? ⟨gb236, 0, none⟩ = some (.int .i64 a1_0) ∧ w40.cell? ⟨gb236, 1, none⟩ = some (.int .i64 a1_1) := hS_
                obtain ⟨co41, eo41⟩ := HA_HO242.out
                clear HA_HO242
                subst eo41
                refine norm_ (a' := ?_) ?_ ?_
                rotate_left
                ·simp only [putAll, Act.put, List.setIfInBounds_toArray, List.set_cons_zero, List.set_cons_succ]
                 rfl
                refine one_ (i := 13) (N := some 39) #[true, true, true, true, true, true, true, true, true, true, true, true, true, true, true, true, false, false, false, false, false, false, false, false, false, false] rfl rfl (one_of HT_.out (by kernel_rfl)) (by decide) (fun K hK => ?_)
                refine Kd.R_lit_step (Kd.int .i64) _ 3 ?hg (N := 39) ?hd (xs := ([a1_0, a1_1] : List Int)) (inner := [.int .i64 a1_0, .int .i64 a1_1]) (ok := fun _ => True) (okp := fun _ => True) ?hr ?hp (fun _ hk => hk) trivial (Below.refl _ _) (Nat.le_refl _) (by simp) ?_; (case hd => rfl); (case hg => rfl); (case hr => go_simp); (case hp => exact (Reps.one (show Kd.M (Kd.int .i64) _ _ _ a1_0 [.int .i64 a1_0] from rfl) (Reps.one (show Kd.M (Kd.int .i64) _ _ _ a1_1 [.int .i64 a1_1] from rfl) (Reps.none _ _))))
                intro v245 w42 ho43 hb hg_ hnew_
                clear hg_ hnew_
                (first | rw [← Ny244.out] at ho43 | (simp only [Int.reduceToNat] at ho43; rw [← Ny244.out] at ho43))
                have n0_ := Aside0.mk (Kd.R_elder' HO242.out (Kd.R_base ho43) hb)
                have n1_ := Aside0.mk (Kd.R_lower (Kd.R_new' ho43 (Kd.R_lt HO242.out)) (below_size (by repeat first | exact HB.out | refine below_set ?_ GE235.out | refine below_set ?_ GE236.out | refine below_set ?_ GE237.out)))
                have n2_ := Aside0.mk (blk_below (g := gb235) (o := .cells #[.int .i64 a0_0, .int .i64 a0_1] 23 (0, 0)) BK235.out hb)
                have n3_ := Aside0.mk (blk_below (g := gb236) (o := .cells #[.int .i64 a1_0, .int .i64 a1_1] 23 (0, 0)) BK236.out hb)
                have n4_ := Aside0.mk (blk_below (g := gb237) (o := .cells #[.int .i64 x238000_2, .int .i64 x238001_2] 23 (0, 0)) BK237.out hb)
                have n5_ := Aside0.mk (below_step (by repeat first | exact HB.out | refine below_set ?_ GE235.out | refine below_set ?_ GE236.out | refine below_set ?_ GE237.out) hb)
                clear HO242
                clear BK235
                clear BK236
                clear BK237
                clear HB
                have HO242 := n0_
                have HO246 := n1_
                have BK235 := n2_
                have BK236 := n3_
                have BK237 := n4_
                have HB := n5_
                clear n0_ n1_ n2_ n3_ n4_ n5_
                clear hb ho43
                obtain ⟨Ao44, co44, eo44⟩ := Kd.R_slice HO246.out
                subst eo44
                obtain ⟨ado44, fo44, _⟩ := Kd.at_int (Kd.R_reads' HO246.out).2.2 0 (by decide) (by rw [Ny244.out]; simp)
                cases fo44
                refine hK.out _ _ ⟨(blk_cell BK235.out 0).trans rfl, (blk_cell BK235.out 1).trans rfl, (blk_cell BK236.out 0).trans rfl, (blk_cell BK236.out 1).trans rfl⟩ (fun hHeld => ?_)
                clear hK K
                refine norm_ (a' := ?_) ?_ ?_
                rotate_left
                ·show Act.put _ (some 39) _ = _
                 simp only [Act.put, List.setIfInBounds_toArray, List.set_cons_zero, List.set_cons_succ, i64_w, i32_w]
                 rfl
                refine pure_ (i := 16) (N := some 42) (v := ?_) (a' := ?_) #[true, true, true, true, true, true, true, true, true, true, true, true, true, true, true, true, true, false, false, false, false, false, false, false, false, false] rfl rfl (any_of HT_.out (by kernel_rfl)) (fun _ _ _ h => h) (Or.inl ⟨by rfl, ?_⟩) ?_ ?_
                rotate_left
                ·intro w'
                 go_simp
                 with_reducible rfl
                rotate_left
                ·simp only [Act.put, List.setIfInBounds_toArray, List.set_cons_zero, List.set_cons_succ, i64_w, i32_w]
                 rfl
                exact norm_ (by first | (simp only [putAll, Act.put, List.setIfInBounds_toArray, List.set_cons_zero, List.set_cons_succ]; done) | (simp only [putAll, Act.put, List.setIfInBounds_toArray, List.set_cons_zero, List.set_cons_succ]; rfl)) (hJ4_8_13 (.slice (some adz_v241) y240.length co41, adz_v241, .slice (some ado44) y244.length co44, ado44) _ ⟨hHeld, (by (with_reducible repeat (first | apply Kd.R_alloc | apply Kd.R_drewN | apply Kd.R_drew)); exact Kd.R_mono HO242.out (fun _ hk => hk.2)), (by (with_reducible repeat (first | apply Kd.R_alloc | apply Kd.R_drewN | apply Kd.R_drew)); exact Kd.R_mono HO246.out (fun _ hk => hk.2)), ⟨_, rfl⟩, ⟨_, rfl⟩, BK235.out, BK236.out, BK237.out, (by repeat first | exact HB.out | refine below_set ?_ GE235.out | refine below_set ?_ GE236.out | refine below_set ?_ GE237.out)⟩)
              ·skip
               rintro ⟨v241, adz_v241, v245, adz_v245⟩ w43 ⟨hS_, h0_, h1_, h2_, h3_, h4_, h5_, h6_, h7_⟩
               have n0_ : Aside0 (Kd.R (Kd.int .i64) 3 w43 w.heap.size (fun k_ => some k_ ≠ (v245 : Value).ownBlock) v241 y240) := ⟨h0_⟩
               have n1_ : Aside0 (Kd.R (Kd.int .i64) 3 w43 w.heap.size (fun k_ => some k_ ≠ (v241 : Value).ownBlock) v245 y244) := ⟨h1_⟩
               have n2_ : Aside0 (∃ c_, (v241 : Value) = .slice (some adz_v241) y240.length c_) := ⟨h2_⟩
               have n3_ : Aside0 (∃ c_, (v245 : Value) = .slice (some adz_v245) y244.length c_) := ⟨h3_⟩
               have n4_ : Aside0 (w43.heap[gb235]? = some (.cells #[.int .i64 a0_0, .int .i64 a0_1] 23 (0, 0))) := ⟨h4_⟩
               have n5_ : Aside0 (w43.heap[gb236]? = some (.cells #[.int .i64 a1_0, .int .i64 a1_1] 23 (0, 0))) := ⟨h5_⟩
               have n6_ : Aside0 (w43.heap[gb237]? = some (.cells #[.int .i64 x238000_2, .int .i64 x238001_2] 23 (0, 0))) := ⟨h6_⟩
               have n7_ : Aside0 (Below w.heap.size w w43) := ⟨h7_⟩
               clear BK235
               clear BK236
               clear BK237
               clear HB
               clear h0_ h1_ h2_ h3_ h4_ h5_ h6_ h7_
               have HO242 := n0_
               have HO246 := n1_
               have HA_HO242 := n2_
               have HA_HO246 := n3_
               have BK235 := n4_
               have BK236 := n5_
               have BK237 := n6_
               have HB := n7_
               clear n0_ n1_ n2_ n3_ n4_ n5_ n6_ n7_
               have hHeld : w43.cell? ⟨gb235, 0, none⟩ = some (.int .i64 a0_0) ∧ w43.cell? ⟨gb235, 1, none⟩ = some (.int .i64 a0_1) ∧ w43.cell? ⟨gb236, 0, none⟩ = some (.int .i64 a1_0) ∧ w43.cell? ⟨gb236, 1, none⟩ = some (.int .i64 a1_1) := hS_
               obtain ⟨co44, eo44⟩ := HA_HO242.out
               clear HA_HO242
               subst eo44
               obtain ⟨co45, eo45⟩ := HA_HO246.out
               clear HA_HO246
               subst eo45
               refine norm_ (a' := ?_) ?_ ?_
               rotate_left
               ·simp only [putAll, Act.put, List.setIfInBounds_toArray, List.set_cons_zero, List.set_cons_succ]
                rfl
               refine one_ (i := 8) (N := some 34) #[true, true, true, true, true, true, true, true, true, true, true, true, true, true, true, true, true, true, false, false, false, false, false, false, false, false] rfl rfl (one_of HT_.out (by kernel_rfl)) (by decide) (fun K hK => ?_)
               (have p243 : 0 ≤ ((ji26) : Int) := of_decide_eq_true (by assumption); have q243 : (ji26) < (y240.length : Int) := of_decide_eq_true (by assumption); obtain ⟨ad243, e243, hx243_0⟩ := Kd.at_int (Kd.R_reads' HO242.out).2.2 (ji26) p243 q243; obtain rfl : adz_v241 = ad243 := (by injection e243))
               refine value_ (w1 := ?_) (v := ?_) (by rfl) rfl ?_ ?_
               rotate_left 2
               ·go_simp
                constructor
                ·rfl
                ·rfl
               clear hx243_0
               refine hK.out _ _ ⟨(blk_cell BK235.out 0).trans rfl, (blk_cell BK235.out 1).trans rfl, (blk_cell BK236.out 0).trans rfl, (blk_cell BK236.out 1).trans rfl⟩ (fun hHeld => ?_)
               clear hK K
               refine norm_ (a' := ?_) ?_ ?_
               rotate_left
               ·show Act.put _ (some 34) _ = _
                simp only [Act.put, List.setIfInBounds_toArray, List.set_cons_zero, List.set_cons_succ, i64_w, i32_w]
                rfl
               exact norm_ (by first | (simp only [putAll, Act.put, List.setIfInBounds_toArray, List.set_cons_zero, List.set_cons_succ]; done) | (simp only [putAll, Act.put, List.setIfInBounds_toArray, List.set_cons_zero, List.set_cons_succ]; rfl)) (hJ4_8_13_17 (.slice (some adz_v241) y240.length co44, adz_v241, .slice (some adz_v245) y244.length co45, adz_v245) _ ⟨hHeld, HO242.out, HO246.out, ⟨_, rfl⟩, ⟨_, rfl⟩, BK235.out, BK236.out, BK237.out, (by repeat first | exact HB.out | refine below_set ?_ GE235.out | refine below_set ?_ GE236.out | refine below_set ?_ GE237.out)⟩)
             ·skip
              rintro ⟨v241, adz_v241, v245, adz_v245⟩ w43 ⟨hS_, h0_, h1_, h2_, h3_, h4_, h5_, h6_, h7_⟩
              have n0_ : Aside0 (Kd.R (Kd.int .i64) 3 w43 w.heap.size (fun k_ => some k_ ≠ (v245 : Value).ownBlock) v241 y240) := ⟨h0_⟩
              have n1_ : Aside0 (Kd.R (Kd.int .i64) 3 w43 w.heap.size (fun k_ => some k_ ≠ (v241 : Value).ownBlock) v245 y244) := ⟨h1_⟩
              have n2_ : Aside0 (∃ c_, (v241 : Value) = .slice (some adz_v241) y240.length c_) := ⟨h2_⟩
              have n3_ : Aside0 (∃ c_, (v245 : Value) = .slice (some adz_v245) y244.length c_) := ⟨h3_⟩
              have n4_ : Aside0 (w43.heap[gb235]? = some (.cells #[.int .i64 a0_0, .int .i64 a0_1] 23 (0, 0))) := ⟨h4_⟩
              have n5_ : Aside0 (w43.heap[gb236]? = some (.cells #[.int .i64 a1_0, .int .i64 a1_1] 23 (0, 0))) := ⟨h5_⟩
              have n6_ : Aside0 (w43.heap[gb237]? = some (.cells #[.int .i64 x238000_2, .int .i64 x238001_2] 23 (0, 0))) := ⟨h6_⟩
              have n7_ : Aside0 (Below w.heap.size w w43) := ⟨h7_⟩
              clear BK235
              clear BK236
              clear BK237
              clear HB
              clear h0_ h1_ h2_ h3_ h4_ h5_ h6_ h7_
              have HO242 := n0_
              have HO246 := n1_
              have HA_HO242 := n2_
              have HA_HO246 := n3_
              have BK235 := n4_
              have BK236 := n5_
              have BK237 := n6_
              have HB := n7_
              clear n0_ n1_ n2_ n3_ n4_ n5_ n6_ n7_
              have hHeld : w43.cell? ⟨gb235, 0, none⟩ = some (.int .i64 a0_0) ∧ w43.cell? ⟨gb235, 1, none⟩ = some (.int .i64 a0_1) ∧ w43.cell? ⟨gb236, 0, none⟩ = some (.int .i64 a1_0) ∧ w43.cell? ⟨gb236, 1, none⟩ = some (.int .i64 a1_1) := hS_
              obtain ⟨co44, eo44⟩ := HA_HO242.out
              clear HA_HO242
              subst eo44
              obtain ⟨co45, eo45⟩ := HA_HO246.out
              clear HA_HO246
              subst eo45
              refine norm_ (a' := ?_) ?_ ?_
              rotate_left
              ·simp only [putAll, Act.put, List.setIfInBounds_toArray, List.set_cons_zero, List.set_cons_succ]
               rfl
              refine one_ (i := 17) (N := some 43) #[true, true, true, true, true, true, true, true, true, true, true, true, true, true, true, true, true, true, false, false, false, false, false, false, false, false] rfl rfl (one_of HT_.out (by kernel_rfl)) (by decide) (fun K hK => ?_)
              (have p247 : 0 ≤ ((ji29) : Int) := of_decide_eq_true (by assumption); have q247 : (ji29) < (y244.length : Int) := of_decide_eq_true (by assumption); obtain ⟨ad247, e247, hx247_0⟩ := Kd.at_int (Kd.R_reads' HO246.out).2.2 (ji29) p247 q247; obtain rfl : adz_v245 = ad247 := (by injection e247))
              refine value_ (w1 := ?_) (v := ?_) (by rfl) rfl ?_ ?_
              rotate_left 2
              ·go_simp
               constructor
               ·rfl
               ·rfl
              clear hx247_0
              refine hK.out _ _ ⟨(blk_cell BK235.out 0).trans rfl, (blk_cell BK235.out 1).trans rfl, (blk_cell BK236.out 0).trans rfl, (blk_cell BK236.out 1).trans rfl⟩ (fun hHeld => ?_)
              clear hK K
              refine norm_ (a' := ?_) ?_ ?_
              rotate_left
              ·show Act.put _ (some 43) _ = _
               simp only [Act.put, List.setIfInBounds_toArray, List.set_cons_zero, List.set_cons_succ, i64_w, i32_w]
               rfl
              exact norm_ (by first | (simp only [putAll, Act.put, List.setIfInBounds_toArray, List.set_cons_zero, List.set_cons_succ]; done) | (simp only [putAll, Act.put, List.setIfInBounds_toArray, List.set_cons_zero, List.set_cons_succ]; rfl)) (hJ4_8_13_17 (.slice (some adz_v241) y240.length co44, adz_v241, .slice (some adz_v245) y244.length co45, adz_v245) _ ⟨hHeld, HO242.out, HO246.out, ⟨_, rfl⟩, ⟨_, rfl⟩, BK235.out, BK236.out, BK237.out, (by repeat first | exact HB.out | refine below_set ?_ GE235.out | refine below_set ?_ GE236.out | refine below_set ?_ GE237.out)⟩)
            rintro ⟨v241, adz_v241, v245, adz_v245⟩ w43 ⟨hS_, h0_, h1_, h2_, h3_, h4_, h5_, h6_, h7_⟩
            have n0_ : Aside0 (Kd.R (Kd.int .i64) 3 w43 w.heap.size (fun k_ => some k_ ≠ (v245 : Value).ownBlock) v241 y240) := ⟨h0_⟩
            have n1_ : Aside0 (Kd.R (Kd.int .i64) 3 w43 w.heap.size (fun k_ => some k_ ≠ (v241 : Value).ownBlock) v245 y244) := ⟨h1_⟩
            have n2_ : Aside0 (∃ c_, (v241 : Value) = .slice (some adz_v241) y240.length c_) := ⟨h2_⟩
            have n3_ : Aside0 (∃ c_, (v245 : Value) = .slice (some adz_v245) y244.length c_) := ⟨h3_⟩
            have n4_ : Aside0 (w43.heap[gb235]? = some (.cells #[.int .i64 a0_0, .int .i64 a0_1] 23 (0, 0))) := ⟨h4_⟩
            have n5_ : Aside0 (w43.heap[gb236]? = some (.cells #[.int .i64 a1_0, .int .i64 a1_1] 23 (0, 0))) := ⟨h5_⟩
            have n6_ : Aside0 (w43.heap[gb237]? = some (.cells #[.int .i64 x238000_2, .int .i64 x238001_2] 23 (0, 0))) := ⟨h6_⟩
            have n7_ : Aside0 (Below w.heap.size w w43) := ⟨h7_⟩
            clear BK235
            clear BK236
            clear BK237
            clear HB
            clear h0_ h1_ h2_ h3_ h4_ h5_ h6_ h7_
            have HO242 := n0_
            have HO246 := n1_
            have HA_HO242 := n2_
            have HA_HO246 := n3_
            have BK235 := n4_
            have BK236 := n5_
            have BK237 := n6_
            have HB := n7_
            clear n0_ n1_ n2_ n3_ n4_ n5_ n6_ n7_
            have hHeld : w43.cell? ⟨gb235, 0, none⟩ = some (.int .i64 a0_0) ∧ w43.cell? ⟨gb235, 1, none⟩ = some (.int .i64 a0_1) ∧ w43.cell? ⟨gb236, 0, none⟩ = some (.int .i64 a1_0) ∧ w43.cell? ⟨gb236, 1, none⟩ = some (.int .i64 a1_1) := hS_
            obtain ⟨co44, eo44⟩ := HA_HO242.out
            clear HA_HO242
            subst eo44
            obtain ⟨co45, eo45⟩ := HA_HO246.out
            clear HA_HO246
            subst eo45
            refine norm_ (a' := ?_) ?_ ?_
            rotate_left
            ·simp only [putAll, Act.put, List.setIfInBounds_toArray, List.set_cons_zero, List.set_cons_succ]
             rfl
            refine one_ (i := 18) (N := some 44) #[true, true, true, true, true, true, true, true, true, true, true, true, true, true, true, true, true, true, true, false, false, false, false, false, false, false] rfl rfl (one_of HT_.out (by kernel_rfl)) (by decide) (fun K hK => ?_)
            refine goes_ Try.func37 (by kernel_rfl) rfl #[.int .i64 (rd y240 (ji26)), .int .i64 (rd y244 (ji29))] (by rfl) rfl rfl (by (try simp only [List.map_toArray, List.map_cons, List.map_nil]); first | done | (simp only [hji26, hji29]; rfl) | rfl | (simp only [List.length_drop, List.length_take]; rfl)) ?_
            with_reducible refine (flagstoneref37_product.calls k2 (rd y240 (ji26)) (rd y244 (ji29)) t248 t249 true _ A32.out).mono ?_
            rintro e w' ⟨rfl, ⟨nd, rfl⟩⟩
            refine ⟨_, rfl, ?_⟩
            refine hK.out _ _ ⟨(blk_cell BK235.out 0).trans rfl, (blk_cell BK235.out 1).trans rfl, (blk_cell BK236.out 0).trans rfl, (blk_cell BK236.out 1).trans rfl⟩ (fun hHeld => ?_)
            clear hK K
            refine norm_ (a' := ?_) ?_ ?_
            rotate_left
            ·show Act.put _ (some 44) _ = _
             simp only [Act.put, List.setIfInBounds_toArray, List.set_cons_zero, List.set_cons_succ, i64_w, i32_w]
             rfl
            refine pure_ (i := 19) (N := some 25) (v := ?_) (a' := ?_) #[true, true, true, true, true, true, true, true, true, true, true, true, true, true, true, true, true, true, true, true, false, false, false, false, false, false] rfl rfl (any_of HT_.out (by kernel_rfl)) (fun _ _ _ h => h) (Or.inl ⟨by rfl, ?_⟩) ?_ ?_
            rotate_left
            ·intro w'
             go_simp
             with_reducible rfl
            rotate_left
            ·simp only [Act.put, List.setIfInBounds_toArray, List.set_cons_zero, List.set_cons_succ, i64_w, i32_w]
             rfl
            refine pure_ (i := 20) (N := some 45) (v := ?_) (a' := ?_) #[true, true, true, true, true, true, true, true, true, true, true, true, true, true, true, true, true, true, true, true, true, false, false, false, false, false] rfl rfl (any_of HT_.out (by kernel_rfl)) (fun _ _ _ h => h) (Or.inl ⟨by rfl, ?_⟩) ?_ ?_
            rotate_left
            ·intro w'
             go_simp
             with_reducible rfl
            rotate_left
            ·simp only [Act.put, List.setIfInBounds_toArray, List.set_cons_zero, List.set_cons_succ, i64_w, i32_w]
             rfl
            refine pure_ (i := 21) (N := some 46) (v := ?_) (a' := ?_) #[true, true, true, true, true, true, true, true, true, true, true, true, true, true, true, true, true, true, true, true, true, true, false, false, false, false] rfl rfl (any_of HT_.out (by kernel_rfl)) (fun _ _ _ h => h) (Or.inl ⟨by rfl, ?_⟩) ?_ ?_
            rotate_left
            ·intro w'
             go_simp
             with_reducible rfl
            rotate_left
            ·simp only [Act.put, List.setIfInBounds_toArray, List.set_cons_zero, List.set_cons_succ, i64_w, i32_w]
             rfl
            refine pure_ (i := 22) (N := some 47) (v := ?_) (a' := ?_) #[true, true, true, true, true, true, true, true, true, true, true, true, true, true, true, true, true, true, true, true, true, true, true, false, false, false] rfl rfl (any_of HT_.out (by kernel_rfl)) (fun _ _ _ h => h) (Or.inl ⟨by rfl, ?_⟩) ?_ ?_
            rotate_left
            ·intro w'
             go_simp
             with_reducible rfl
            rotate_left
            ·simp only [Act.put, List.setIfInBounds_toArray, List.set_cons_zero, List.set_cons_succ, i64_w, i32_w]
             rfl
            refine pure_ (i := 23) (N := some 9) (v := ?_) (a' := ?_) #[true, true, true, true, true, true, true, true, true, true, true, true, true, true, true, true, true, true, true, true, true, true, true, true, false, false] rfl rfl (any_of HT_.out (by kernel_rfl)) (fun _ _ _ h => h) (Or.inl ⟨by rfl, ?_⟩) ?_ ?_
            rotate_left
            ·intro w'
             go_simp
             with_reducible rfl
            rotate_left
            ·simp only [Act.put, List.setIfInBounds_toArray, List.set_cons_zero, List.set_cons_succ, i64_w, i32_w]
             rfl
            refine pure_ (i := 24) (N := some 10) (v := ?_) (a' := ?_) #[true, true, true, true, true, true, true, true, true, true, true, true, true, true, true, true, true, true, true, true, true, true, true, true, true, false] rfl rfl (any_of HT_.out (by kernel_rfl)) (fun _ _ _ h => h) (Or.inl ⟨by rfl, ?_⟩) ?_ ?_
            rotate_left
            ·intro w'
             go_simp
             with_reducible rfl
            rotate_left
            ·simp only [Act.put, List.setIfInBounds_toArray, List.set_cons_zero, List.set_cons_succ, i64_w, i32_w]
             rfl
            refine pure_ (i := 25) (N := some 11) (v := ?_) (a' := ?_) #[true, true, true, true, true, true, true, true, true, true, true, true, true, true, true, true, true, true, true, true, true, true, true, true, true, true] rfl rfl (any_of HT_.out (by kernel_rfl)) (fun _ _ _ h => h) (Or.inl ⟨by rfl, ?_⟩) ?_ ?_
            rotate_left
            ·intro w'
             go_simp
             with_reducible rfl
            rotate_left
            ·simp only [Act.put, List.setIfInBounds_toArray, List.set_cons_zero, List.set_cons_succ, i64_w, i32_w]
             rfl
            refine done_ (done_of HT_.out (by kernel_rfl)) ?_
            try go_wp2
            go_roundg k2
            case measure => have := HJ2.out; have := HK2.out; omega
            case rel => exact ⟨(ji34), (ji35), (wrap64 (x8_2 + 1)), (x238000_2), (x238001_2), (by first | rfl | (simp; done) | (simp only [← hji34] <;> (first | rfl | simp)) | (simp [*]; done)), (by first | rfl | (simp; done) | (simp only [← hji35] <;> (first | rfl | simp)) | (simp [*]; done)), (by first | rfl | (simp; done) | (simp [*]; done)), H', ⟨by have := HJ2.out; have := HK2.out; omega⟩, ⟨by (with_reducible repeat (first | refine blk_drewN ?_ _ | refine blk_drew ?_ | refine blk_alloc ?_ _)); exact BK235.out⟩, ⟨by (with_reducible repeat (first | refine blk_drewN ?_ _ | refine blk_drew ?_ | refine blk_alloc ?_ _)); exact BK236.out⟩, ⟨by (with_reducible repeat (first | refine blk_drewN ?_ _ | refine blk_drew ?_ | refine blk_alloc ?_ _)); exact BK237.out⟩, ⟨by repeat (first | (with_reducible first | exact HB.out | apply below_alloc | apply pw_below_drewN | apply below_drew1 | refine below_set ?_ GE235.out | refine below_set ?_ GE236.out | refine below_set ?_ GE237.out) | exact HB.out)⟩⟩
           ·replace c33 := Bool.eq_false_iff.mpr c33
            subst c33
            rw [if_neg (show ¬ (false = true) by decide)] at H
            simp only [Option.some.injEq, Prod.mk.injEq] at H
            obtain ⟨rfl, rfl, rfl⟩ := H
            try go_wp2
            have pi243 : (0 ≤ ((ji26) : Int)) = True := eq_true (of_decide_eq_true (by assumption))
            have qi243 : ((ji26) < (y240.length : Int)) = True := eq_true (of_decide_eq_true (by assumption))
            have pi247 : (0 ≤ ((ji29) : Int)) = True := eq_true (of_decide_eq_true (by assumption))
            have qi247 : ((ji29) < (y244.length : Int)) = True := eq_true (of_decide_eq_true (by assumption))
            have n0_ := Aside0.mk (blk_drew BK235.out)
            have n1_ := Aside0.mk (blk_drew BK236.out)
            have n2_ := Aside0.mk (blk_drew BK237.out)
            have n3_ := Aside0.mk (below_drew1 HB.out)
            clear BK235
            clear BK236
            clear BK237
            clear HB
            have BK235 := n0_
            have BK236 := n1_
            have BK237 := n2_
            have HB := n3_
            clear n0_ n1_ n2_ n3_
            refine start_ (n := 26) (S := fun w' => w'.cell? ⟨gb235, 0, none⟩ = some (.int .i64 a0_0) ∧ w'.cell? ⟨gb235, 1, none⟩ = some (.int .i64 a0_1) ∧ w'.cell? ⟨gb236, 0, none⟩ = some (.int .i64 a1_0) ∧ w'.cell? ⟨gb236, 1, none⟩ = some (.int .i64 a1_1)) (ds := []) #[false, false, false, false, false, false, false, false, false, false, false, false, false, false, false, false, false, false, false, false, false, false, false, false, false, false] (by kernel_rfl) rfl rfl ⟨(blk_cell BK235.out 0).trans rfl, (blk_cell BK235.out 1).trans rfl, (blk_cell BK236.out 0).trans rfl, (blk_cell BK236.out 1).trans rfl⟩ (fun hHeld => ?_); refine with_tabW flagstoneref37_Mul.tab7 flagstoneref37_Mul.bits7 (fun HT_ HW_ => ?_)
            generalize wr.drew = w46 at BK235 BK236 BK237 HB hHeld ⊢
            refine pure_ (i := 0) (N := some 26) (v := ?_) (a' := ?_) #[true, false, false, false, false, false, false, false, false, false, false, false, false, false, false, false, false, false, false, false, false, false, false, false, false, false] rfl rfl (any_of HT_.out (by kernel_rfl)) (fun _ _ _ h => h) (Or.inl ⟨by rfl, ?_⟩) ?_ ?_
            rotate_left
            ·intro w'
             go_simp
             with_reducible rfl
            rotate_left
            ·simp only [Act.put, List.setIfInBounds_toArray, List.set_cons_zero, List.set_cons_succ, i64_w, i32_w]
             rfl
            refine pure_ (i := 2) (N := some 28) (v := ?_) (a' := ?_) #[true, false, true, false, false, false, false, false, false, false, false, false, false, false, false, false, false, false, false, false, false, false, false, false, false, false] rfl rfl (any_of HT_.out (by kernel_rfl)) (fun _ _ _ h => h) (Or.inl ⟨by rfl, ?_⟩) ?_ ?_
            rotate_left
            ·intro w'
             go_simp
             with_reducible rfl
            rotate_left
            ·simp only [Act.put, List.setIfInBounds_toArray, List.set_cons_zero, List.set_cons_succ, i64_w, i32_w]
             rfl
            refine pure_ (i := 5) (N := some 31) (v := ?_) (a' := ?_) #[true, false, true, false, false, true, false, false, false, false, false, false, false, false, false, false, false, false, false, false, false, false, false, false, false, false] rfl rfl (any_of HT_.out (by kernel_rfl)) (fun _ _ _ h => h) (Or.inl ⟨by rfl, ?_⟩) ?_ ?_
            rotate_left
            ·intro w'
             go_simp
             with_reducible rfl
            rotate_left
            ·simp only [Act.put, List.setIfInBounds_toArray, List.set_cons_zero, List.set_cons_succ, i64_w, i32_w]
             rfl
            refine pure_ (i := 6) (N := some 32) (v := ?_) (a' := ?_) #[true, false, true, false, false, true, true, false, false, false, false, false, false, false, false, false, false, false, false, false, false, false, false, false, false, false] rfl rfl (any_of HT_.out (by kernel_rfl)) (fun _ _ _ h => h) (Or.inl ⟨by rfl, ?_⟩) ?_ ?_
            rotate_left
            ·intro w'
             go_simp
             with_reducible rfl
            rotate_left
            ·simp only [Act.put, List.setIfInBounds_toArray, List.set_cons_zero, List.set_cons_succ, i64_w, i32_w]
             rfl
            refine pure_ (i := 9) (N := some 35) (v := ?_) (a' := ?_) #[true, false, true, false, false, true, true, false, false, true, false, false, false, false, false, false, false, false, false, false, false, false, false, false, false, false] rfl rfl (any_of HT_.out (by kernel_rfl)) (fun _ _ _ h => h) (Or.inl ⟨by rfl, ?_⟩) ?_ ?_
            rotate_left
            ·intro w'
             go_simp
             with_reducible rfl
            rotate_left
            ·simp only [Act.put, List.setIfInBounds_toArray, List.set_cons_zero, List.set_cons_succ, i64_w, i32_w]
             rfl
            refine pure_ (i := 11) (N := some 37) (v := ?_) (a' := ?_) #[true, false, true, false, false, true, true, false, false, true, false, true, false, false, false, false, false, false, false, false, false, false, false, false, false, false] rfl rfl (any_of HT_.out (by kernel_rfl)) (fun _ _ _ h => h) (Or.inl ⟨by rfl, ?_⟩) ?_ ?_
            rotate_left
            ·intro w'
             go_simp
             with_reducible rfl
            rotate_left
            ·simp only [Act.put, List.setIfInBounds_toArray, List.set_cons_zero, List.set_cons_succ, i64_w, i32_w]
             rfl
            refine pure_ (i := 14) (N := some 40) (v := ?_) (a' := ?_) #[true, false, true, false, false, true, true, false, false, true, false, true, false, false, true, false, false, false, false, false, false, false, false, false, false, false] rfl rfl (any_of HT_.out (by kernel_rfl)) (fun _ _ _ h => h) (Or.inl ⟨by rfl, ?_⟩) ?_ ?_
            rotate_left
            ·intro w'
             go_simp
             with_reducible rfl
            rotate_left
            ·simp only [Act.put, List.setIfInBounds_toArray, List.set_cons_zero, List.set_cons_succ, i64_w, i32_w]
             rfl
            refine pure_ (i := 15) (N := some 41) (v := ?_) (a' := ?_) #[true, false, true, false, false, true, true, false, false, true, false, true, false, false, true, true, false, false, false, false, false, false, false, false, false, false] rfl rfl (any_of HT_.out (by kernel_rfl)) (fun _ _ _ h => h) (Or.inl ⟨by rfl, ?_⟩) ?_ ?_
            rotate_left
            ·intro w'
             go_simp
             with_reducible rfl
            rotate_left
            ·simp only [Act.put, List.setIfInBounds_toArray, List.set_cons_zero, List.set_cons_succ, i64_w, i32_w]
             rfl
            refine take_ (i := 1) (N := some 27) (v := ?_) (a' := ?_) #[true, true, true, false, false, true, true, false, false, true, false, true, false, false, true, true, false, false, false, false, false, false, false, false, false, false] rfl rfl (take_ofW HT_.out HW_.out (by kernel_rfl)) (fun _ _ _ h => h) (Or.inl ⟨by rfl, ?_⟩) hHeld ?_ ?_
            rotate_left
            ·rintro w' ⟨s0, s1, s2, s3⟩
             go_simp
             with_reducible rfl
            rotate_left
            ·simp only [Act.put, List.setIfInBounds_toArray, List.set_cons_zero, List.set_cons_succ, i64_w, i32_w]
             rfl
            refine take_ (i := 3) (N := some 29) (v := ?_) (a' := ?_) #[true, true, true, true, false, true, true, false, false, true, false, true, false, false, true, true, false, false, false, false, false, false, false, false, false, false] rfl rfl (take_ofW HT_.out HW_.out (by kernel_rfl)) (fun _ _ _ h => h) (Or.inl ⟨by rfl, ?_⟩) hHeld ?_ ?_
            rotate_left
            ·rintro w' ⟨s0, s1, s2, s3⟩
             go_simp
             with_reducible rfl
            rotate_left
            ·simp only [Act.put, List.setIfInBounds_toArray, List.set_cons_zero, List.set_cons_succ, i64_w, i32_w]
             rfl
            refine take_ (i := 10) (N := some 36) (v := ?_) (a' := ?_) #[true, true, true, true, false, true, true, false, false, true, true, true, false, false, true, true, false, false, false, false, false, false, false, false, false, false] rfl rfl (take_ofW HT_.out HW_.out (by kernel_rfl)) (fun _ _ _ h => h) (Or.inl ⟨by rfl, ?_⟩) hHeld ?_ ?_
            rotate_left
            ·rintro w' ⟨s0, s1, s2, s3⟩
             go_simp
             with_reducible rfl
            rotate_left
            ·simp only [Act.put, List.setIfInBounds_toArray, List.set_cons_zero, List.set_cons_succ, i64_w, i32_w]
             rfl
            refine take_ (i := 12) (N := some 38) (v := ?_) (a' := ?_) #[true, true, true, true, false, true, true, false, false, true, true, true, true, false, true, true, false, false, false, false, false, false, false, false, false, false] rfl rfl (take_ofW HT_.out HW_.out (by kernel_rfl)) (fun _ _ _ h => h) (Or.inl ⟨by rfl, ?_⟩) hHeld ?_ ?_
            rotate_left
            ·rintro w' ⟨s0, s1, s2, s3⟩
             go_simp
             with_reducible rfl
            rotate_left
            ·simp only [Act.put, List.setIfInBounds_toArray, List.set_cons_zero, List.set_cons_succ, i64_w, i32_w]
             rfl
            refine join_ (σ := Value × Addr × Value × Addr) 8 #[true, true, true, true, true, true, true, true, true, true, true, true, true, true, true, true, true, true, false, false, false, false, false, false, false, false] (fun s_ => [(30, s_.1), (34, .int .i64 (rd y240 (ji26))), (39, s_.2.2.1), (43, .int .i64 (rd y244 (ji29))), (33, .pointer (some (s_.2.1.add ((ji26)).toNat))), (42, .pointer (some (s_.2.2.2.add ((ji29)).toNat)))]) (fun s_ w' => (w'.cell? ⟨gb235, 0, none⟩ = some (.int .i64 a0_0) ∧ w'.cell? ⟨gb235, 1, none⟩ = some (.int .i64 a0_1) ∧ w'.cell? ⟨gb236, 0, none⟩ = some (.int .i64 a1_0) ∧ w'.cell? ⟨gb236, 1, none⟩ = some (.int .i64 a1_1)) ∧ (Kd.R (Kd.int .i64) 3 w' w.heap.size (fun k_ => some k_ ≠ (s_.2.2.1 : Value).ownBlock) s_.1 y240) ∧ (Kd.R (Kd.int .i64) 3 w' w.heap.size (fun k_ => some k_ ≠ (s_.1 : Value).ownBlock) s_.2.2.1 y244) ∧ (∃ c_, (s_.1 : Value) = .slice (some s_.2.1) y240.length c_) ∧ (∃ c_, (s_.2.2.1 : Value) = .slice (some s_.2.2.2) y244.length c_) ∧ (w'.heap[gb235]? = some (.cells #[.int .i64 a0_0, .int .i64 a0_1] 23 (0, 0))) ∧ (w'.heap[gb236]? = some (.cells #[.int .i64 a1_0, .int .i64 a1_1] 23 (0, 0))) ∧ (w'.heap[gb237]? = some (.cells #[.int .i64 x238000_2, .int .i64 x238001_2] 23 (0, 0))) ∧ (Below w.heap.size w w')) ?_ ?_
            rotate_left
            ·intro hJ4_8_13_17
             refine join_ (σ := Value × Addr × Value × Addr) 9 #[true, true, true, true, true, true, true, true, true, true, true, true, true, true, true, true, true, false, false, false, false, false, false, false, false, false] (fun s_ => [(30, s_.1), (34, .int .i64 (rd y240 (ji26))), (39, s_.2.2.1), (33, .pointer (some (s_.2.1.add ((ji26)).toNat))), (42, .pointer (some (s_.2.2.2.add ((ji29)).toNat)))]) (fun s_ w' => (w'.cell? ⟨gb235, 0, none⟩ = some (.int .i64 a0_0) ∧ w'.cell? ⟨gb235, 1, none⟩ = some (.int .i64 a0_1) ∧ w'.cell? ⟨gb236, 0, none⟩ = some (.int .i64 a1_0) ∧ w'.cell? ⟨gb236, 1, none⟩ = some (.int .i64 a1_1)) ∧ (Kd.R (Kd.int .i64) 3 w' w.heap.size (fun k_ => some k_ ≠ (s_.2.2.1 : Value).ownBlock) s_.1 y240) ∧ (Kd.R (Kd.int .i64) 3 w' w.heap.size (fun k_ => some k_ ≠ (s_.1 : Value).ownBlock) s_.2.2.1 y244) ∧ (∃ c_, (s_.1 : Value) = .slice (some s_.2.1) y240.length c_) ∧ (∃ c_, (s_.2.2.1 : Value) = .slice (some s_.2.2.2) y244.length c_) ∧ (w'.heap[gb235]? = some (.cells #[.int .i64 a0_0, .int .i64 a0_1] 23 (0, 0))) ∧ (w'.heap[gb236]? = some (.cells #[.int .i64 a1_0, .int .i64 a1_1] 23 (0, 0))) ∧ (w'.heap[gb237]? = some (.cells #[.int .i64 x238000_2, .int .i64 x238001_2] 23 (0, 0))) ∧ (Below w.heap.size w w')) ?_ ?_
             rotate_left
             ·intro hJ4_8_13
              refine join_ (σ := Value × Addr × Value × Addr) 9 #[true, true, true, true, true, true, true, true, false, true, true, true, true, true, true, true, true, true, false, false, false, false, false, false, false, false] (fun s_ => [(30, s_.1), (39, s_.2.2.1), (43, .int .i64 (rd y244 (ji29))), (33, .pointer (some (s_.2.1.add ((ji26)).toNat))), (42, .pointer (some (s_.2.2.2.add ((ji29)).toNat)))]) (fun s_ w' => (w'.cell? ⟨gb235, 0, none⟩ = some (.int .i64 a0_0) ∧ w'.cell? ⟨gb235, 1, none⟩ = some (.int .i64 a0_1) ∧ w'.cell? ⟨gb236, 0, none⟩ = some (.int .i64 a1_0) ∧ w'.cell? ⟨gb236, 1, none⟩ = some (.int .i64 a1_1)) ∧ (Kd.R (Kd.int .i64) 3 w' w.heap.size (fun k_ => some k_ ≠ (s_.2.2.1 : Value).ownBlock) s_.1 y240) ∧ (Kd.R (Kd.int .i64) 3 w' w.heap.size (fun k_ => some k_ ≠ (s_.1 : Value).ownBlock) s_.2.2.1 y244) ∧ (∃ c_, (s_.1 : Value) = .slice (some s_.2.1) y240.length c_) ∧ (∃ c_, (s_.2.2.1 : Value) = .slice (some s_.2.2.2) y244.length c_) ∧ (w'.heap[gb235]? = some (.cells #[.int .i64 a0_0, .int .i64 a0_1] 23 (0, 0))) ∧ (w'.heap[gb236]? = some (.cells #[.int .i64 a1_0, .int .i64 a1_1] 23 (0, 0))) ∧ (w'.heap[gb237]? = some (.cells #[.int .i64 x238000_2, .int .i64 x238001_2] 23 (0, 0))) ∧ (Below w.heap.size w w')) ?_ ?_
              rotate_left
              ·intro hJ4_13_17
               refine join_ (σ := Value × Addr) 11 #[true, true, true, true, true, true, true, true, true, true, true, true, true, false, true, true, false, false, false, false, false, false, false, false, false, false] (fun s_ => [(30, s_.1), (34, .int .i64 (rd y240 (ji26))), (33, .pointer (some (s_.2.add ((ji26)).toNat)))]) (fun s_ w' => (w'.cell? ⟨gb235, 0, none⟩ = some (.int .i64 a0_0) ∧ w'.cell? ⟨gb235, 1, none⟩ = some (.int .i64 a0_1) ∧ w'.cell? ⟨gb236, 0, none⟩ = some (.int .i64 a1_0) ∧ w'.cell? ⟨gb236, 1, none⟩ = some (.int .i64 a1_1)) ∧ (Kd.R (Kd.int .i64) 3 w' w.heap.size (fun _ => True) s_.1 y240) ∧ (∃ c_, (s_.1 : Value) = .slice (some s_.2) y240.length c_) ∧ (w'.heap[gb235]? = some (.cells #[.int .i64 a0_0, .int .i64 a0_1] 23 (0, 0))) ∧ (w'.heap[gb236]? = some (.cells #[.int .i64 a1_0, .int .i64 a1_1] 23 (0, 0))) ∧ (w'.heap[gb237]? = some (.cells #[.int .i64 x238000_2, .int .i64 x238001_2] 23 (0, 0))) ∧ (Below w.heap.size w w')) ?_ ?_
               rotate_left
               ·intro hJ4_8
                refine join_ (σ := Value × Addr × Value × Addr) 10 #[true, true, true, true, true, true, true, true, false, true, true, true, true, true, true, true, true, false, false, false, false, false, false, false, false, false] (fun s_ => [(30, s_.1), (39, s_.2.2.1), (33, .pointer (some (s_.2.1.add ((ji26)).toNat))), (42, .pointer (some (s_.2.2.2.add ((ji29)).toNat)))]) (fun s_ w' => (w'.cell? ⟨gb235, 0, none⟩ = some (.int .i64 a0_0) ∧ w'.cell? ⟨gb235, 1, none⟩ = some (.int .i64 a0_1) ∧ w'.cell? ⟨gb236, 0, none⟩ = some (.int .i64 a1_0) ∧ w'.cell? ⟨gb236, 1, none⟩ = some (.int .i64 a1_1)) ∧ (Kd.R (Kd.int .i64) 3 w' w.heap.size (fun k_ => some k_ ≠ (s_.2.2.1 : Value).ownBlock) s_.1 y240) ∧ (Kd.R (Kd.int .i64) 3 w' w.heap.size (fun k_ => some k_ ≠ (s_.1 : Value).ownBlock) s_.2.2.1 y244) ∧ (∃ c_, (s_.1 : Value) = .slice (some s_.2.1) y240.length c_) ∧ (∃ c_, (s_.2.2.1 : Value) = .slice (some s_.2.2.2) y244.length c_) ∧ (w'.heap[gb235]? = some (.cells #[.int .i64 a0_0, .int .i64 a0_1] 23 (0, 0))) ∧ (w'.heap[gb236]? = some (.cells #[.int .i64 a1_0, .int .i64 a1_1] 23 (0, 0))) ∧ (w'.heap[gb237]? = some (.cells #[.int .i64 x238000_2, .int .i64 x238001_2] 23 (0, 0))) ∧ (Below w.heap.size w w')) ?_ ?_
                rotate_left
                ·intro hJ4_13
                 refine join_ (σ := Value × Addr) 11 #[true, true, true, true, false, true, true, false, false, true, true, true, true, true, true, true, true, true, false, false, false, false, false, false, false, false] (fun s_ => [(39, s_.1), (43, .int .i64 (rd y244 (ji29))), (42, .pointer (some (s_.2.add ((ji29)).toNat)))]) (fun s_ w' => (w'.cell? ⟨gb235, 0, none⟩ = some (.int .i64 a0_0) ∧ w'.cell? ⟨gb235, 1, none⟩ = some (.int .i64 a0_1) ∧ w'.cell? ⟨gb236, 0, none⟩ = some (.int .i64 a1_0) ∧ w'.cell? ⟨gb236, 1, none⟩ = some (.int .i64 a1_1)) ∧ (Kd.R (Kd.int .i64) 3 w' w.heap.size (fun _ => True) s_.1 y244) ∧ (∃ c_, (s_.1 : Value) = .slice (some s_.2) y244.length c_) ∧ (w'.heap[gb235]? = some (.cells #[.int .i64 a0_0, .int .i64 a0_1] 23 (0, 0))) ∧ (w'.heap[gb236]? = some (.cells #[.int .i64 a1_0, .int .i64 a1_1] 23 (0, 0))) ∧ (w'.heap[gb237]? = some (.cells #[.int .i64 x238000_2, .int .i64 x238001_2] 23 (0, 0))) ∧ (Below w.heap.size w w')) ?_ ?_
                 rotate_left
                 ·intro hJ13_17
                  refine join_ (σ := Value × Addr) 12 #[true, true, true, true, true, true, true, true, false, true, true, true, true, false, true, true, false, false, false, false, false, false, false, false, false, false] (fun s_ => [(30, s_.1), (33, .pointer (some (s_.2.add ((ji26)).toNat)))]) (fun s_ w' => (w'.cell? ⟨gb235, 0, none⟩ = some (.int .i64 a0_0) ∧ w'.cell? ⟨gb235, 1, none⟩ = some (.int .i64 a0_1) ∧ w'.cell? ⟨gb236, 0, none⟩ = some (.int .i64 a1_0) ∧ w'.cell? ⟨gb236, 1, none⟩ = some (.int .i64 a1_1)) ∧ (Kd.R (Kd.int .i64) 3 w' w.heap.size (fun _ => True) s_.1 y240) ∧ (∃ c_, (s_.1 : Value) = .slice (some s_.2) y240.length c_) ∧ (w'.heap[gb235]? = some (.cells #[.int .i64 a0_0, .int .i64 a0_1] 23 (0, 0))) ∧ (w'.heap[gb236]? = some (.cells #[.int .i64 a1_0, .int .i64 a1_1] 23 (0, 0))) ∧ (w'.heap[gb237]? = some (.cells #[.int .i64 x238000_2, .int .i64 x238001_2] 23 (0, 0))) ∧ (Below w.heap.size w w')) ?_ ?_
                  rotate_left
                  ·intro hJ4
                   refine join_ (σ := Value × Addr) 12 #[true, true, true, true, false, true, true, false, false, true, true, true, true, true, true, true, true, false, false, false, false, false, false, false, false, false] (fun s_ => [(39, s_.1), (42, .pointer (some (s_.2.add ((ji29)).toNat)))]) (fun s_ w' => (w'.cell? ⟨gb235, 0, none⟩ = some (.int .i64 a0_0) ∧ w'.cell? ⟨gb235, 1, none⟩ = some (.int .i64 a0_1) ∧ w'.cell? ⟨gb236, 0, none⟩ = some (.int .i64 a1_0) ∧ w'.cell? ⟨gb236, 1, none⟩ = some (.int .i64 a1_1)) ∧ (Kd.R (Kd.int .i64) 3 w' w.heap.size (fun _ => True) s_.1 y244) ∧ (∃ c_, (s_.1 : Value) = .slice (some s_.2) y244.length c_) ∧ (w'.heap[gb235]? = some (.cells #[.int .i64 a0_0, .int .i64 a0_1] 23 (0, 0))) ∧ (w'.heap[gb236]? = some (.cells #[.int .i64 a1_0, .int .i64 a1_1] 23 (0, 0))) ∧ (w'.heap[gb237]? = some (.cells #[.int .i64 x238000_2, .int .i64 x238001_2] 23 (0, 0))) ∧ (Below w.heap.size w w')) ?_ ?_
                   rotate_left
                   ·intro hJ13
                    refine two_ (i := 4) (j := 13) (Ni := some 30) (Nj := some 39) #[true, true, true, true, true, true, true, false, false, true, true, true, true, false, true, true, false, false, false, false, false, false, false, false, false, false] #[true, true, true, true, false, true, true, false, false, true, true, true, true, true, true, true, false, false, false, false, false, false, false, false, false, false] rfl rfl rfl rfl (two_of HT_.out (by kernel_rfl)) (by decide) (by decide) (fun K hK => ?_) (fun K hK => ?_)
                    ·skip
                     refine Kd.R_lit_step (Kd.int .i64) _ 3 ?hg (N := 30) ?hd (xs := ([a0_0, a0_1] : List Int)) (inner := [.int .i64 a0_0, .int .i64 a0_1]) (ok := fun _ => True) (okp := fun _ => True) ?hr ?hp (fun _ hk => hk) trivial (Below.refl _ _) (Nat.le_refl _) (by simp) ?_; (case hd => rfl); (case hg => rfl); (case hr => go_simp); (case hp => exact (Reps.one (show Kd.M (Kd.int .i64) _ _ _ a0_0 [.int .i64 a0_0] from rfl) (Reps.one (show Kd.M (Kd.int .i64) _ _ _ a0_1 [.int .i64 a0_1] from rfl) (Reps.none _ _))))
                     intro v241 w47 ho48 hb hg_ hnew_
                     clear hg_ hnew_
                     (first | rw [← Ny240.out] at ho48 | (simp only [Int.reduceToNat] at ho48; rw [← Ny240.out] at ho48))
                     have n0_ := Aside0.mk (Kd.R_lower ho48 (below_size (by repeat first | exact HB.out | refine below_set ?_ GE235.out | refine below_set ?_ GE236.out | refine below_set ?_ GE237.out)))
                     have n1_ := Aside0.mk (blk_below (g := gb235) (o := .cells #[.int .i64 a0_0, .int .i64 a0_1] 23 (0, 0)) BK235.out hb)
                     have n2_ := Aside0.mk (blk_below (g := gb236) (o := .cells #[.int .i64 a1_0, .int .i64 a1_1] 23 (0, 0)) BK236.out hb)
                     have n3_ := Aside0.mk (blk_below (g := gb237) (o := .cells #[.int .i64 x238000_2, .int .i64 x238001_2] 23 (0, 0)) BK237.out hb)
                     have n4_ := Aside0.mk (below_step (by repeat first | exact HB.out | refine below_set ?_ GE235.out | refine below_set ?_ GE236.out | refine below_set ?_ GE237.out) hb)
                     clear BK235
                     clear BK236
                     clear BK237
                     clear HB
                     have HO242 := n0_
                     have BK235 := n1_
                     have BK236 := n2_
                     have BK237 := n3_
                     have HB := n4_
                     clear n0_ n1_ n2_ n3_ n4_
                     clear hb ho48
                     obtain ⟨Ao49, co49, eo49⟩ := Kd.R_slice HO242.out
                     subst eo49
                     obtain ⟨ado49, fo49, _⟩ := Kd.at_int (Kd.R_reads' HO242.out).2.2 0 (by decide) (by rw [Ny240.out]; simp)
                     cases fo49
                     refine hK.out _ _ ⟨(blk_cell BK235.out 0).trans rfl, (blk_cell BK235.out 1).trans rfl, (blk_cell BK236.out 0).trans rfl, (blk_cell BK236.out 1).trans rfl⟩ (fun hHeld => ?_)
                     clear hK K
                     refine norm_ (a' := ?_) ?_ ?_
                     rotate_left
                     ·show Act.put _ (some 30) _ = _
                      simp only [Act.put, List.setIfInBounds_toArray, List.set_cons_zero, List.set_cons_succ, i64_w, i32_w]
                      rfl
                     refine pure_ (i := 7) (N := some 33) (v := ?_) (a' := ?_) #[true, true, true, true, true, true, true, true, false, true, true, true, true, false, true, true, false, false, false, false, false, false, false, false, false, false] rfl rfl (any_of HT_.out (by kernel_rfl)) (fun _ _ _ h => h) (Or.inl ⟨by rfl, ?_⟩) ?_ ?_
                     rotate_left
                     ·intro w'
                      go_simp
                      with_reducible rfl
                     rotate_left
                     ·simp only [Act.put, List.setIfInBounds_toArray, List.set_cons_zero, List.set_cons_succ, i64_w, i32_w]
                      rfl
                     exact norm_ (by first | (simp only [putAll, Act.put, List.setIfInBounds_toArray, List.set_cons_zero, List.set_cons_succ]; done) | (simp only [putAll, Act.put, List.setIfInBounds_toArray, List.set_cons_zero, List.set_cons_succ]; rfl)) (hJ4 (.slice (some ado49) y240.length co49, ado49) _ ⟨hHeld, HO242.out, ⟨_, rfl⟩, BK235.out, BK236.out, BK237.out, (by repeat first | exact HB.out | refine below_set ?_ GE235.out | refine below_set ?_ GE236.out | refine below_set ?_ GE237.out)⟩)
                    ·skip
                     refine Kd.R_lit_step (Kd.int .i64) _ 3 ?hg (N := 39) ?hd (xs := ([a1_0, a1_1] : List Int)) (inner := [.int .i64 a1_0, .int .i64 a1_1]) (ok := fun _ => True) (okp := fun _ => True) ?hr ?hp (fun _ hk => hk) trivial (Below.refl _ _) (Nat.le_refl _) (by simp) ?_; (case hd => rfl); (case hg => rfl); (case hr => go_simp); (case hp => exact (Reps.one (show Kd.M (Kd.int .i64) _ _ _ a1_0 [.int .i64 a1_0] from rfl) (Reps.one (show Kd.M (Kd.int .i64) _ _ _ a1_1 [.int .i64 a1_1] from rfl) (Reps.none _ _))))
                     intro v245 w47 ho48 hb hg_ hnew_
                     clear hg_ hnew_
                     (first | rw [← Ny244.out] at ho48 | (simp only [Int.reduceToNat] at ho48; rw [← Ny244.out] at ho48))
                     have n0_ := Aside0.mk (Kd.R_lower ho48 (below_size (by repeat first | exact HB.out | refine below_set ?_ GE235.out | refine below_set ?_ GE236.out | refine below_set ?_ GE237.out)))
                     have n1_ := Aside0.mk (blk_below (g := gb235) (o := .cells #[.int .i64 a0_0, .int .i64 a0_1] 23 (0, 0)) BK235.out hb)
                     have n2_ := Aside0.mk (blk_below (g := gb236) (o := .cells #[.int .i64 a1_0, .int .i64 a1_1] 23 (0, 0)) BK236.out hb)
                     have n3_ := Aside0.mk (blk_below (g := gb237) (o := .cells #[.int .i64 x238000_2, .int .i64 x238001_2] 23 (0, 0)) BK237.out hb)
                     have n4_ := Aside0.mk (below_step (by repeat first | exact HB.out | refine below_set ?_ GE235.out | refine below_set ?_ GE236.out | refine below_set ?_ GE237.out) hb)
                     clear BK235
                     clear BK236
                     clear BK237
                     clear HB
                     have HO246 := n0_
                     have BK235 := n1_
                     have BK236 := n2_
                     have BK237 := n3_
                     have HB := n4_
                     clear n0_ n1_ n2_ n3_ n4_
                     clear hb ho48
                     obtain ⟨Ao49, co49, eo49⟩ := Kd.R_slice HO246.out
                     subst eo49
                     obtain ⟨ado49, fo49, _⟩ := Kd.at_int (Kd.R_reads' HO246.out).2.2 0 (by decide) (by rw [Ny244.out]; simp)
                     cases fo49
                     refine hK.out _ _ ⟨(blk_cell BK235.out 0).trans rfl, (blk_cell BK235.out 1).trans rfl, (blk_cell BK236.out 0).trans rfl, (blk_cell BK236.out 1).trans rfl⟩ (fun hHeld => ?_)
                     clear hK K
                     refine norm_ (a' := ?_) ?_ ?_
                     rotate_left
                     ·show Act.put _ (some 39) _ = _
                      simp only [Act.put, List.setIfInBounds_toArray, List.set_cons_zero, List.set_cons_succ, i64_w, i32_w]
                      rfl
                     refine pure_ (i := 16) (N := some 42) (v := ?_) (a' := ?_) #[true, true, true, true, false, true, true, false, false, true, true, true, true, true, true, true, true, false, false, false, false, false, false, false, false, false] rfl rfl (any_of HT_.out (by kernel_rfl)) (fun _ _ _ h => h) (Or.inl ⟨by rfl, ?_⟩) ?_ ?_
                     rotate_left
                     ·intro w'
                      go_simp
                      with_reducible rfl
                     rotate_left
                     ·simp only [Act.put, List.setIfInBounds_toArray, List.set_cons_zero, List.set_cons_succ, i64_w, i32_w]
                      rfl
                     exact norm_ (by first | (simp only [putAll, Act.put, List.setIfInBounds_toArray, List.set_cons_zero, List.set_cons_succ]; done) | (simp only [putAll, Act.put, List.setIfInBounds_toArray, List.set_cons_zero, List.set_cons_succ]; rfl)) (hJ13 (.slice (some ado49) y244.length co49, ado49) _ ⟨hHeld, HO246.out, ⟨_, rfl⟩, BK235.out, BK236.out, BK237.out, (by repeat first | exact HB.out | refine below_set ?_ GE235.out | refine below_set ?_ GE236.out | refine below_set ?_ GE237.out)⟩)
                   ·skip
                    rintro ⟨v245, adz_v245⟩ w50 ⟨hS_, h0_, h1_, h2_, h3_, h4_, h5_⟩
                    have n0_ : Aside0 (Kd.R (Kd.int .i64) 3 w50 w.heap.size (fun _ => True) v245 y244) := ⟨h0_⟩
                    have n1_ : Aside0 (∃ c_, (v245 : Value) = .slice (some adz_v245) y244.length c_) := ⟨h1_⟩
                    have n2_ : Aside0 (w50.heap[gb235]? = some (.cells #[.int .i64 a0_0, .int .i64 a0_1] 23 (0, 0))) := ⟨h2_⟩
                    have n3_ : Aside0 (w50.heap[gb236]? = some (.cells #[.int .i64 a1_0, .int .i64 a1_1] 23 (0, 0))) := ⟨h3_⟩
                    have n4_ : Aside0 (w50.heap[gb237]? = some (.cells #[.int .i64 x238000_2, .int .i64 x238001_2] 23 (0, 0))) := ⟨h4_⟩
                    have n5_ : Aside0 (Below w.heap.size w w50) := ⟨h5_⟩
                    clear BK235
                    clear BK236
                    clear BK237
                    clear HB
                    clear h0_ h1_ h2_ h3_ h4_ h5_
                    have HO246 := n0_
                    have HA_HO246 := n1_
                    have BK235 := n2_
                    have BK236 := n3_
                    have BK237 := n4_
                    have HB := n5_
                    clear n0_ n1_ n2_ n3_ n4_ n5_
                    have hHeld : w50.cell? ⟨gb235, 0, none⟩ = some (.int .i64 a0_0) ∧ w50.cell? ⟨gb235, 1, none⟩ = some (.int .i64 a0_1) ∧ w50.cell? ⟨gb236, 0, none⟩ = some (.int .i64 a1_0) ∧ w50.cell? ⟨gb236, 1, none⟩ = some (.int .i64 a1_1) := hS_
                    obtain ⟨co51, eo51⟩ := HA_HO246.out
                    clear HA_HO246
                    subst eo51
                    refine norm_ (a' := ?_) ?_ ?_
                    rotate_left
                    ·simp only [putAll, Act.put, List.setIfInBounds_toArray, List.set_cons_zero, List.set_cons_succ]
                     rfl
                    refine two_ (i := 4) (j := 17) (Ni := some 30) (Nj := some 43) #[true, true, true, true, true, true, true, false, false, true, true, true, true, true, true, true, true, false, false, false, false, false, false, false, false, false] #[true, true, true, true, false, true, true, false, false, true, true, true, true, true, true, true, true, true, false, false, false, false, false, false, false, false] rfl rfl rfl rfl (two_of HT_.out (by kernel_rfl)) (by decide) (by decide) (fun K hK => ?_) (fun K hK => ?_)
                    ·skip
                     refine Kd.R_lit_step (Kd.int .i64) _ 3 ?hg (N := 30) ?hd (xs := ([a0_0, a0_1] : List Int)) (inner := [.int .i64 a0_0, .int .i64 a0_1]) (ok := fun _ => True) (okp := fun _ => True) ?hr ?hp (fun _ hk => hk) trivial (Below.refl _ _) (Nat.le_refl _) (by simp) ?_; (case hd => rfl); (case hg => rfl); (case hr => go_simp); (case hp => exact (Reps.one (show Kd.M (Kd.int .i64) _ _ _ a0_0 [.int .i64 a0_0] from rfl) (Reps.one (show Kd.M (Kd.int .i64) _ _ _ a0_1 [.int .i64 a0_1] from rfl) (Reps.none _ _))))
                     intro v241 w52 ho53 hb hg_ hnew_
                     clear hg_ hnew_
                     (first | rw [← Ny240.out] at ho53 | (simp only [Int.reduceToNat] at ho53; rw [← Ny240.out] at ho53))
                     have n0_ := Aside0.mk (Kd.R_elder' HO246.out (Kd.R_base ho53) hb)
                     have n1_ := Aside0.mk (Kd.R_lower (Kd.R_new' ho53 (Kd.R_lt HO246.out)) (below_size (by repeat first | exact HB.out | refine below_set ?_ GE235.out | refine below_set ?_ GE236.out | refine below_set ?_ GE237.out)))
                     have n2_ := Aside0.mk (blk_below (g := gb235) (o := .cells #[.int .i64 a0_0, .int .i64 a0_1] 23 (0, 0)) BK235.out hb)
                     have n3_ := Aside0.mk (blk_below (g := gb236) (o := .cells #[.int .i64 a1_0, .int .i64 a1_1] 23 (0, 0)) BK236.out hb)
                     have n4_ := Aside0.mk (blk_below (g := gb237) (o := .cells #[.int .i64 x238000_2, .int .i64 x238001_2] 23 (0, 0)) BK237.out hb)
                     have n5_ := Aside0.mk (below_step (by repeat first | exact HB.out | refine below_set ?_ GE235.out | refine below_set ?_ GE236.out | refine below_set ?_ GE237.out) hb)
                     clear HO246
                     clear BK235
                     clear BK236
                     clear BK237
                     clear HB
                     have HO246 := n0_
                     have HO242 := n1_
                     have BK235 := n2_
                     have BK236 := n3_
                     have BK237 := n4_
                     have HB := n5_
                     clear n0_ n1_ n2_ n3_ n4_ n5_
                     clear hb ho53
                     obtain ⟨Ao54, co54, eo54⟩ := Kd.R_slice HO242.out
                     subst eo54
                     obtain ⟨ado54, fo54, _⟩ := Kd.at_int (Kd.R_reads' HO242.out).2.2 0 (by decide) (by rw [Ny240.out]; simp)
                     cases fo54
                     refine hK.out _ _ ⟨(blk_cell BK235.out 0).trans rfl, (blk_cell BK235.out 1).trans rfl, (blk_cell BK236.out 0).trans rfl, (blk_cell BK236.out 1).trans rfl⟩ (fun hHeld => ?_)
                     clear hK K
                     refine norm_ (a' := ?_) ?_ ?_
                     rotate_left
                     ·show Act.put _ (some 30) _ = _
                      simp only [Act.put, List.setIfInBounds_toArray, List.set_cons_zero, List.set_cons_succ, i64_w, i32_w]
                      rfl
                     refine pure_ (i := 7) (N := some 33) (v := ?_) (a' := ?_) #[true, true, true, true, true, true, true, true, false, true, true, true, true, true, true, true, true, false, false, false, false, false, false, false, false, false] rfl rfl (any_of HT_.out (by kernel_rfl)) (fun _ _ _ h => h) (Or.inl ⟨by rfl, ?_⟩) ?_ ?_
                     rotate_left
                     ·intro w'
                      go_simp
                      with_reducible rfl
                     rotate_left
                     ·simp only [Act.put, List.setIfInBounds_toArray, List.set_cons_zero, List.set_cons_succ, i64_w, i32_w]
                      rfl
                     exact norm_ (by first | (simp only [putAll, Act.put, List.setIfInBounds_toArray, List.set_cons_zero, List.set_cons_succ]; done) | (simp only [putAll, Act.put, List.setIfInBounds_toArray, List.set_cons_zero, List.set_cons_succ]; rfl)) (hJ4_13 (.slice (some ado54) y240.length co54, ado54, .slice (some adz_v245) y244.length co51, adz_v245) _ ⟨hHeld, (by (with_reducible repeat (first | apply Kd.R_alloc | apply Kd.R_drewN | apply Kd.R_drew)); exact Kd.R_mono HO242.out (fun _ hk => hk.2)), (by (with_reducible repeat (first | apply Kd.R_alloc | apply Kd.R_drewN | apply Kd.R_drew)); exact Kd.R_mono HO246.out (fun _ hk => hk.2)), ⟨_, rfl⟩, ⟨_, rfl⟩, BK235.out, BK236.out, BK237.out, (by repeat first | exact HB.out | refine below_set ?_ GE235.out | refine below_set ?_ GE236.out | refine below_set ?_ GE237.out)⟩)
                    ·skip
                     (have p247 : 0 ≤ ((ji29) : Int) := of_decide_eq_true (by assumption); have q247 : (ji29) < (y244.length : Int) := of_decide_eq_true (by assumption); obtain ⟨ad247, e247, hx247_0⟩ := Kd.at_int (Kd.R_reads' HO246.out).2.2 (ji29) p247 q247; obtain rfl : adz_v245 = ad247 := (by injection e247))
                     refine value_ (w1 := ?_) (v := ?_) (by rfl) rfl ?_ ?_
                     rotate_left 2
                     ·go_simp
                      constructor
                      ·rfl
                      ·rfl
                     clear hx247_0
                     refine hK.out _ _ ⟨(blk_cell BK235.out 0).trans rfl, (blk_cell BK235.out 1).trans rfl, (blk_cell BK236.out 0).trans rfl, (blk_cell BK236.out 1).trans rfl⟩ (fun hHeld => ?_)
                     clear hK K
                     refine norm_ (a' := ?_) ?_ ?_
                     rotate_left
                     ·show Act.put _ (some 43) _ = _
                      simp only [Act.put, List.setIfInBounds_toArray, List.set_cons_zero, List.set_cons_succ, i64_w, i32_w]
                      rfl
                     exact norm_ (by first | (simp only [putAll, Act.put, List.setIfInBounds_toArray, List.set_cons_zero, List.set_cons_succ]; done) | (simp only [putAll, Act.put, List.setIfInBounds_toArray, List.set_cons_zero, List.set_cons_succ]; rfl)) (hJ13_17 (.slice (some adz_v245) y244.length co51, adz_v245) _ ⟨hHeld, HO246.out, ⟨_, rfl⟩, BK235.out, BK236.out, BK237.out, (by repeat first | exact HB.out | refine below_set ?_ GE235.out | refine below_set ?_ GE236.out | refine below_set ?_ GE237.out)⟩)
                  ·skip
                   rintro ⟨v241, adz_v241⟩ w50 ⟨hS_, h0_, h1_, h2_, h3_, h4_, h5_⟩
                   have n0_ : Aside0 (Kd.R (Kd.int .i64) 3 w50 w.heap.size (fun _ => True) v241 y240) := ⟨h0_⟩
                   have n1_ : Aside0 (∃ c_, (v241 : Value) = .slice (some adz_v241) y240.length c_) := ⟨h1_⟩
                   have n2_ : Aside0 (w50.heap[gb235]? = some (.cells #[.int .i64 a0_0, .int .i64 a0_1] 23 (0, 0))) := ⟨h2_⟩
                   have n3_ : Aside0 (w50.heap[gb236]? = some (.cells #[.int .i64 a1_0, .int .i64 a1_1] 23 (0, 0))) := ⟨h3_⟩
                   have n4_ : Aside0 (w50.heap[gb237]? = some (.cells #[.int .i64 x238000_2, .int .i64 x238001_2] 23 (0, 0))) := ⟨h4_⟩
                   have n5_ : Aside0 (Below w.heap.size w w50) := ⟨h5_⟩
                   clear BK235
                   clear BK236
                   clear BK237
                   clear HB
                   clear h0_ h1_ h2_ h3_ h4_ h5_
                   have HO242 := n0_
                   have HA_HO242 := n1_
                   have BK235 := n2_
                   have BK236 := n3_
                   have BK237 := n4_
                   have HB := n5_
                   clear n0_ n1_ n2_ n3_ n4_ n5_
                   have hHeld : w50.cell? ⟨gb235, 0, none⟩ = some (.int .i64 a0_0) ∧ w50.cell? ⟨gb235, 1, none⟩ = some (.int .i64 a0_1) ∧ w50.cell? ⟨gb236, 0, none⟩ = some (.int .i64 a1_0) ∧ w50.cell? ⟨gb236, 1, none⟩ = some (.int .i64 a1_1) := hS_
                   obtain ⟨co51, eo51⟩ := HA_HO242.out
                   clear HA_HO242
                   subst eo51
                   refine norm_ (a' := ?_) ?_ ?_
                   rotate_left
                   ·simp only [putAll, Act.put, List.setIfInBounds_toArray, List.set_cons_zero, List.set_cons_succ]
                    rfl
                   refine two_ (i := 8) (j := 13) (Ni := some 34) (Nj := some 39) #[true, true, true, true, true, true, true, true, true, true, true, true, true, false, true, true, false, false, false, false, false, false, false, false, false, false] #[true, true, true, true, true, true, true, true, false, true, true, true, true, true, true, true, false, false, false, false, false, false, false, false, false, false] rfl rfl rfl rfl (two_of HT_.out (by kernel_rfl)) (by decide) (by decide) (fun K hK => ?_) (fun K hK => ?_)
                   ·skip
                    (have p243 : 0 ≤ ((ji26) : Int) := of_decide_eq_true (by assumption); have q243 : (ji26) < (y240.length : Int) := of_decide_eq_true (by assumption); obtain ⟨ad243, e243, hx243_0⟩ := Kd.at_int (Kd.R_reads' HO242.out).2.2 (ji26) p243 q243; obtain rfl : adz_v241 = ad243 := (by injection e243))
                    refine value_ (w1 := ?_) (v := ?_) (by rfl) rfl ?_ ?_
                    rotate_left 2
                    ·go_simp
                     constructor
                     ·rfl
                     ·rfl
                    clear hx243_0
                    refine hK.out _ _ ⟨(blk_cell BK235.out 0).trans rfl, (blk_cell BK235.out 1).trans rfl, (blk_cell BK236.out 0).trans rfl, (blk_cell BK236.out 1).trans rfl⟩ (fun hHeld => ?_)
                    clear hK K
                    refine norm_ (a' := ?_) ?_ ?_
                    rotate_left
                    ·show Act.put _ (some 34) _ = _
                     simp only [Act.put, List.setIfInBounds_toArray, List.set_cons_zero, List.set_cons_succ, i64_w, i32_w]
                     rfl
                    exact norm_ (by first | (simp only [putAll, Act.put, List.setIfInBounds_toArray, List.set_cons_zero, List.set_cons_succ]; done) | (simp only [putAll, Act.put, List.setIfInBounds_toArray, List.set_cons_zero, List.set_cons_succ]; rfl)) (hJ4_8 (.slice (some adz_v241) y240.length co51, adz_v241) _ ⟨hHeld, HO242.out, ⟨_, rfl⟩, BK235.out, BK236.out, BK237.out, (by repeat first | exact HB.out | refine below_set ?_ GE235.out | refine below_set ?_ GE236.out | refine below_set ?_ GE237.out)⟩)
                   ·skip
                    refine Kd.R_lit_step (Kd.int .i64) _ 3 ?hg (N := 39) ?hd (xs := ([a1_0, a1_1] : List Int)) (inner := [.int .i64 a1_0, .int .i64 a1_1]) (ok := fun _ => True) (okp := fun _ => True) ?hr ?hp (fun _ hk => hk) trivial (Below.refl _ _) (Nat.le_refl _) (by simp) ?_; (case hd => rfl); (case hg => rfl); (case hr => go_simp); (case hp => exact (Reps.one (show Kd.M (Kd.int .i64) _ _ _ a1_0 [.int .i64 a1_0] from rfl) (Reps.one (show Kd.M (Kd.int .i64) _ _ _ a1_1 [.int .i64 a1_1] from rfl) (Reps.none _ _))))
                    intro v245 w52 ho53 hb hg_ hnew_
                    clear hg_ hnew_
                    (first | rw [← Ny244.out] at ho53 | (simp only [Int.reduceToNat] at ho53; rw [← Ny244.out] at ho53))
                    have n0_ := Aside0.mk (Kd.R_elder' HO242.out (Kd.R_base ho53) hb)
                    have n1_ := Aside0.mk (Kd.R_lower (Kd.R_new' ho53 (Kd.R_lt HO242.out)) (below_size (by repeat first | exact HB.out | refine below_set ?_ GE235.out | refine below_set ?_ GE236.out | refine below_set ?_ GE237.out)))
                    have n2_ := Aside0.mk (blk_below (g := gb235) (o := .cells #[.int .i64 a0_0, .int .i64 a0_1] 23 (0, 0)) BK235.out hb)
                    have n3_ := Aside0.mk (blk_below (g := gb236) (o := .cells #[.int .i64 a1_0, .int .i64 a1_1] 23 (0, 0)) BK236.out hb)
                    have n4_ := Aside0.mk (blk_below (g := gb237) (o := .cells #[.int .i64 x238000_2, .int .i64 x238001_2] 23 (0, 0)) BK237.out hb)
                    have n5_ := Aside0.mk (below_step (by repeat first | exact HB.out | refine below_set ?_ GE235.out | refine below_set ?_ GE236.out | refine below_set ?_ GE237.out) hb)
                    clear HO242
                    clear BK235
                    clear BK236
                    clear BK237
                    clear HB
                    have HO242 := n0_
                    have HO246 := n1_
                    have BK235 := n2_
                    have BK236 := n3_
                    have BK237 := n4_
                    have HB := n5_
                    clear n0_ n1_ n2_ n3_ n4_ n5_
                    clear hb ho53
                    obtain ⟨Ao54, co54, eo54⟩ := Kd.R_slice HO246.out
                    subst eo54
                    obtain ⟨ado54, fo54, _⟩ := Kd.at_int (Kd.R_reads' HO246.out).2.2 0 (by decide) (by rw [Ny244.out]; simp)
                    cases fo54
                    refine hK.out _ _ ⟨(blk_cell BK235.out 0).trans rfl, (blk_cell BK235.out 1).trans rfl, (blk_cell BK236.out 0).trans rfl, (blk_cell BK236.out 1).trans rfl⟩ (fun hHeld => ?_)
                    clear hK K
                    refine norm_ (a' := ?_) ?_ ?_
                    rotate_left
                    ·show Act.put _ (some 39) _ = _
                     simp only [Act.put, List.setIfInBounds_toArray, List.set_cons_zero, List.set_cons_succ, i64_w, i32_w]
                     rfl
                    refine pure_ (i := 16) (N := some 42) (v := ?_) (a' := ?_) #[true, true, true, true, true, true, true, true, false, true, true, true, true, true, true, true, true, false, false, false, false, false, false, false, false, false] rfl rfl (any_of HT_.out (by kernel_rfl)) (fun _ _ _ h => h) (Or.inl ⟨by rfl, ?_⟩) ?_ ?_
                    rotate_left
                    ·intro w'
                     go_simp
                     with_reducible rfl
                    rotate_left
                    ·simp only [Act.put, List.setIfInBounds_toArray, List.set_cons_zero, List.set_cons_succ, i64_w, i32_w]
                     rfl
                    exact norm_ (by first | (simp only [putAll, Act.put, List.setIfInBounds_toArray, List.set_cons_zero, List.set_cons_succ]; done) | (simp only [putAll, Act.put, List.setIfInBounds_toArray, List.set_cons_zero, List.set_cons_succ]; rfl)) (hJ4_13 (.slice (some adz_v241) y240.length co51, adz_v241, .slice (some ado54) y244.length co54, ado54) _ ⟨hHeld, (by (with_reducible repeat (first | apply Kd.R_alloc | apply Kd.R_drewN | apply Kd.R_drew)); exact Kd.R_mono HO242.out (fun _ hk => hk.2)), (by (with_reducible repeat (first | apply Kd.R_alloc | apply Kd.R_drewN | apply Kd.R_drew)); exact Kd.R_mono HO246.out (fun _ hk => hk.2)), ⟨_, rfl⟩, ⟨_, rfl⟩, BK235.out, BK236.out, BK237.out, (by repeat first | exact HB.out | refine below_set ?_ GE235.out | refine below_set ?_ GE236.out | refine below_set ?_ GE237.out)⟩)
                 ·skip
                  rintro ⟨v245, adz_v245⟩ w50 ⟨hS_, h0_, h1_, h2_, h3_, h4_, h5_⟩
                  have n0_ : Aside0 (Kd.R (Kd.int .i64) 3 w50 w.heap.size (fun _ => True) v245 y244) := ⟨h0_⟩
                  have n1_ : Aside0 (∃ c_, (v245 : Value) = .slice (some adz_v245) y244.length c_) := ⟨h1_⟩
                  have n2_ : Aside0 (w50.heap[gb235]? = some (.cells #[.int .i64 a0_0, .int .i64 a0_1] 23 (0, 0))) := ⟨h2_⟩
                  have n3_ : Aside0 (w50.heap[gb236]? = some (.cells #[.int .i64 a1_0, .int .i64 a1_1] 23 (0, 0))) := ⟨h3_⟩
                  have n4_ : Aside0 (w50.heap[gb237]? = some (.cells #[.int .i64 x238000_2, .int .i64 x238001_2] 23 (0, 0))) := ⟨h4_⟩
                  have n5_ : Aside0 (Below w.heap.size w w50) := ⟨h5_⟩
                  clear BK235
                  clear BK236
                  clear BK237
                  clear HB
                  clear h0_ h1_ h2_ h3_ h4_ h5_
                  have HO246 := n0_
                  have HA_HO246 := n1_
                  have BK235 := n2_
                  have BK236 := n3_
                  have BK237 := n4_
                  have HB := n5_
                  clear n0_ n1_ n2_ n3_ n4_ n5_
                  have hHeld : w50.cell? ⟨gb235, 0, none⟩ = some (.int .i64 a0_0) ∧ w50.cell? ⟨gb235, 1, none⟩ = some (.int .i64 a0_1) ∧ w50.cell? ⟨gb236, 0, none⟩ = some (.int .i64 a1_0) ∧ w50.cell? ⟨gb236, 1, none⟩ = some (.int .i64 a1_1) := hS_
                  obtain ⟨co51, eo51⟩ := HA_HO246.out
                  clear HA_HO246
                  subst eo51
                  refine norm_ (a' := ?_) ?_ ?_
                  rotate_left
                  ·simp only [putAll, Act.put, List.setIfInBounds_toArray, List.set_cons_zero, List.set_cons_succ]
                   rfl
                  refine one_ (i := 4) (N := some 30) #[true, true, true, true, true, true, true, false, false, true, true, true, true, true, true, true, true, true, false, false, false, false, false, false, false, false] rfl rfl (one_of HT_.out (by kernel_rfl)) (by decide) (fun K hK => ?_)
                  refine Kd.R_lit_step (Kd.int .i64) _ 3 ?hg (N := 30) ?hd (xs := ([a0_0, a0_1] : List Int)) (inner := [.int .i64 a0_0, .int .i64 a0_1]) (ok := fun _ => True) (okp := fun _ => True) ?hr ?hp (fun _ hk => hk) trivial (Below.refl _ _) (Nat.le_refl _) (by simp) ?_; (case hd => rfl); (case hg => rfl); (case hr => go_simp); (case hp => exact (Reps.one (show Kd.M (Kd.int .i64) _ _ _ a0_0 [.int .i64 a0_0] from rfl) (Reps.one (show Kd.M (Kd.int .i64) _ _ _ a0_1 [.int .i64 a0_1] from rfl) (Reps.none _ _))))
                  intro v241 w52 ho53 hb hg_ hnew_
                  clear hg_ hnew_
                  (first | rw [← Ny240.out] at ho53 | (simp only [Int.reduceToNat] at ho53; rw [← Ny240.out] at ho53))
                  have n0_ := Aside0.mk (Kd.R_elder' HO246.out (Kd.R_base ho53) hb)
                  have n1_ := Aside0.mk (Kd.R_lower (Kd.R_new' ho53 (Kd.R_lt HO246.out)) (below_size (by repeat first | exact HB.out | refine below_set ?_ GE235.out | refine below_set ?_ GE236.out | refine below_set ?_ GE237.out)))
                  have n2_ := Aside0.mk (blk_below (g := gb235) (o := .cells #[.int .i64 a0_0, .int .i64 a0_1] 23 (0, 0)) BK235.out hb)
                  have n3_ := Aside0.mk (blk_below (g := gb236) (o := .cells #[.int .i64 a1_0, .int .i64 a1_1] 23 (0, 0)) BK236.out hb)
                  have n4_ := Aside0.mk (blk_below (g := gb237) (o := .cells #[.int .i64 x238000_2, .int .i64 x238001_2] 23 (0, 0)) BK237.out hb)
                  have n5_ := Aside0.mk (below_step (by repeat first | exact HB.out | refine below_set ?_ GE235.out | refine below_set ?_ GE236.out | refine below_set ?_ GE237.out) hb)
                  clear HO246
                  clear BK235
                  clear BK236
                  clear BK237
                  clear HB
                  have HO246 := n0_
                  have HO242 := n1_
                  have BK235 := n2_
                  have BK236 := n3_
                  have BK237 := n4_
                  have HB := n5_
                  clear n0_ n1_ n2_ n3_ n4_ n5_
                  clear hb ho53
                  obtain ⟨Ao54, co54, eo54⟩ := Kd.R_slice HO242.out
                  subst eo54
                  obtain ⟨ado54, fo54, _⟩ := Kd.at_int (Kd.R_reads' HO242.out).2.2 0 (by decide) (by rw [Ny240.out]; simp)
                  cases fo54
                  refine hK.out _ _ ⟨(blk_cell BK235.out 0).trans rfl, (blk_cell BK235.out 1).trans rfl, (blk_cell BK236.out 0).trans rfl, (blk_cell BK236.out 1).trans rfl⟩ (fun hHeld => ?_)
                  clear hK K
                  refine norm_ (a' := ?_) ?_ ?_
                  rotate_left
                  ·show Act.put _ (some 30) _ = _
                   simp only [Act.put, List.setIfInBounds_toArray, List.set_cons_zero, List.set_cons_succ, i64_w, i32_w]
                   rfl
                  refine pure_ (i := 7) (N := some 33) (v := ?_) (a' := ?_) #[true, true, true, true, true, true, true, true, false, true, true, true, true, true, true, true, true, true, false, false, false, false, false, false, false, false] rfl rfl (any_of HT_.out (by kernel_rfl)) (fun _ _ _ h => h) (Or.inl ⟨by rfl, ?_⟩) ?_ ?_
                  rotate_left
                  ·intro w'
                   go_simp
                   with_reducible rfl
                  rotate_left
                  ·simp only [Act.put, List.setIfInBounds_toArray, List.set_cons_zero, List.set_cons_succ, i64_w, i32_w]
                   rfl
                  exact norm_ (by first | (simp only [putAll, Act.put, List.setIfInBounds_toArray, List.set_cons_zero, List.set_cons_succ]; done) | (simp only [putAll, Act.put, List.setIfInBounds_toArray, List.set_cons_zero, List.set_cons_succ]; rfl)) (hJ4_13_17 (.slice (some ado54) y240.length co54, ado54, .slice (some adz_v245) y244.length co51, adz_v245) _ ⟨hHeld, (by (with_reducible repeat (first | apply Kd.R_alloc | apply Kd.R_drewN | apply Kd.R_drew)); exact Kd.R_mono HO242.out (fun _ hk => hk.2)), (by (with_reducible repeat (first | apply Kd.R_alloc | apply Kd.R_drewN | apply Kd.R_drew)); exact Kd.R_mono HO246.out (fun _ hk => hk.2)), ⟨_, rfl⟩, ⟨_, rfl⟩, BK235.out, BK236.out, BK237.out, (by repeat first | exact HB.out | refine below_set ?_ GE235.out | refine below_set ?_ GE236.out | refine below_set ?_ GE237.out)⟩)
                ·skip
                 rintro ⟨v241, adz_v241, v245, adz_v245⟩ w53 ⟨hS_, h0_, h1_, h2_, h3_, h4_, h5_, h6_, h7_⟩
                 have n0_ : Aside0 (Kd.R (Kd.int .i64) 3 w53 w.heap.size (fun k_ => some k_ ≠ (v245 : Value).ownBlock) v241 y240) := ⟨h0_⟩
                 have n1_ : Aside0 (Kd.R (Kd.int .i64) 3 w53 w.heap.size (fun k_ => some k_ ≠ (v241 : Value).ownBlock) v245 y244) := ⟨h1_⟩
                 have n2_ : Aside0 (∃ c_, (v241 : Value) = .slice (some adz_v241) y240.length c_) := ⟨h2_⟩
                 have n3_ : Aside0 (∃ c_, (v245 : Value) = .slice (some adz_v245) y244.length c_) := ⟨h3_⟩
                 have n4_ : Aside0 (w53.heap[gb235]? = some (.cells #[.int .i64 a0_0, .int .i64 a0_1] 23 (0, 0))) := ⟨h4_⟩
                 have n5_ : Aside0 (w53.heap[gb236]? = some (.cells #[.int .i64 a1_0, .int .i64 a1_1] 23 (0, 0))) := ⟨h5_⟩
                 have n6_ : Aside0 (w53.heap[gb237]? = some (.cells #[.int .i64 x238000_2, .int .i64 x238001_2] 23 (0, 0))) := ⟨h6_⟩
                 have n7_ : Aside0 (Below w.heap.size w w53) := ⟨h7_⟩
                 clear BK235
                 clear BK236
                 clear BK237
                 clear HB
                 clear h0_ h1_ h2_ h3_ h4_ h5_ h6_ h7_
                 have HO242 := n0_
                 have HO246 := n1_
                 have HA_HO242 := n2_
                 have HA_HO246 := n3_
                 have BK235 := n4_
                 have BK236 := n5_
                 have BK237 := n6_
                 have HB := n7_
                 clear n0_ n1_ n2_ n3_ n4_ n5_ n6_ n7_
                 have hHeld : w53.cell? ⟨gb235, 0, none⟩ = some (.int .i64 a0_0) ∧ w53.cell? ⟨gb235, 1, none⟩ = some (.int .i64 a0_1) ∧ w53.cell? ⟨gb236, 0, none⟩ = some (.int .i64 a1_0) ∧ w53.cell? ⟨gb236, 1, none⟩ = some (.int .i64 a1_1) := hS_
                 obtain ⟨co54, eo54⟩ := HA_HO242.out
                 clear HA_HO242
                 subst eo54
                 obtain ⟨co55, eo55⟩ := HA_HO246.out
                 clear HA_HO246
                 subst eo55
                 refine norm_ (a' := ?_) ?_ ?_
                 rotate_left
                 ·simp only [putAll, Act.put, List.setIfInBounds_toArray, List.set_cons_zero, List.set_cons_succ]
                  rfl
                 refine two_ (i := 8) (j := 17) (Ni := some 34) (Nj := some 43) #[true, true, true, true, true, true, true, true, true, true, true, true, true, true, true, true, true, false, false, false, false, false, false, false, false, false] #[true, true, true, true, true, true, true, true, false, true, true, true, true, true, true, true, true, true, false, false, false, false, false, false, false, false] rfl rfl rfl rfl (two_of HT_.out (by kernel_rfl)) (by decide) (by decide) (fun K hK => ?_) (fun K hK => ?_)
                 ·skip
                  (have p243 : 0 ≤ ((ji26) : Int) := of_decide_eq_true (by assumption); have q243 : (ji26) < (y240.length : Int) := of_decide_eq_true (by assumption); obtain ⟨ad243, e243, hx243_0⟩ := Kd.at_int (Kd.R_reads' HO242.out).2.2 (ji26) p243 q243; obtain rfl : adz_v241 = ad243 := (by injection e243))
                  refine value_ (w1 := ?_) (v := ?_) (by rfl) rfl ?_ ?_
                  rotate_left 2
                  ·go_simp
                   constructor
                   ·rfl
                   ·rfl
                  clear hx243_0
                  refine hK.out _ _ ⟨(blk_cell BK235.out 0).trans rfl, (blk_cell BK235.out 1).trans rfl, (blk_cell BK236.out 0).trans rfl, (blk_cell BK236.out 1).trans rfl⟩ (fun hHeld => ?_)
                  clear hK K
                  refine norm_ (a' := ?_) ?_ ?_
                  rotate_left
                  ·show Act.put _ (some 34) _ = _
                   simp only [Act.put, List.setIfInBounds_toArray, List.set_cons_zero, List.set_cons_succ, i64_w, i32_w]
                   rfl
                  exact norm_ (by first | (simp only [putAll, Act.put, List.setIfInBounds_toArray, List.set_cons_zero, List.set_cons_succ]; done) | (simp only [putAll, Act.put, List.setIfInBounds_toArray, List.set_cons_zero, List.set_cons_succ]; rfl)) (hJ4_8_13 (.slice (some adz_v241) y240.length co54, adz_v241, .slice (some adz_v245) y244.length co55, adz_v245) _ ⟨hHeld, HO242.out, HO246.out, ⟨_, rfl⟩, ⟨_, rfl⟩, BK235.out, BK236.out, BK237.out, (by repeat first | exact HB.out | refine below_set ?_ GE235.out | refine below_set ?_ GE236.out | refine below_set ?_ GE237.out)⟩)
                 ·skip
                  (have p247 : 0 ≤ ((ji29) : Int) := of_decide_eq_true (by assumption); have q247 : (ji29) < (y244.length : Int) := of_decide_eq_true (by assumption); obtain ⟨ad247, e247, hx247_0⟩ := Kd.at_int (Kd.R_reads' HO246.out).2.2 (ji29) p247 q247; obtain rfl : adz_v245 = ad247 := (by injection e247))
                  refine value_ (w1 := ?_) (v := ?_) (by rfl) rfl ?_ ?_
                  rotate_left 2
                  ·go_simp
                   constructor
                   ·rfl
                   ·rfl
                  clear hx247_0
                  refine hK.out _ _ ⟨(blk_cell BK235.out 0).trans rfl, (blk_cell BK235.out 1).trans rfl, (blk_cell BK236.out 0).trans rfl, (blk_cell BK236.out 1).trans rfl⟩ (fun hHeld => ?_)
                  clear hK K
                  refine norm_ (a' := ?_) ?_ ?_
                  rotate_left
                  ·show Act.put _ (some 43) _ = _
                   simp only [Act.put, List.setIfInBounds_toArray, List.set_cons_zero, List.set_cons_succ, i64_w, i32_w]
                   rfl
                  exact norm_ (by first | (simp only [putAll, Act.put, List.setIfInBounds_toArray, List.set_cons_zero, List.set_cons_succ]; done) | (simp only [putAll, Act.put, List.setIfInBounds_toArray, List.set_cons_zero, List.set_cons_succ]; rfl)) (hJ4_13_17 (.slice (some adz_v241) y240.length co54, adz_v241, .slice (some adz_v245) y244.length co55, adz_v245) _ ⟨hHeld, HO242.out, HO246.out, ⟨_, rfl⟩, ⟨_, rfl⟩, BK235.out, BK236.out, BK237.out, (by repeat first | exact HB.out | refine below_set ?_ GE235.out | refine below_set ?_ GE236.out | refine below_set ?_ GE237.out)⟩)
               ·skip
                rintro ⟨v241, adz_v241⟩ w50 ⟨hS_, h0_, h1_, h2_, h3_, h4_, h5_⟩
                have n0_ : Aside0 (Kd.R (Kd.int .i64) 3 w50 w.heap.size (fun _ => True) v241 y240) := ⟨h0_⟩
                have n1_ : Aside0 (∃ c_, (v241 : Value) = .slice (some adz_v241) y240.length c_) := ⟨h1_⟩
                have n2_ : Aside0 (w50.heap[gb235]? = some (.cells #[.int .i64 a0_0, .int .i64 a0_1] 23 (0, 0))) := ⟨h2_⟩
                have n3_ : Aside0 (w50.heap[gb236]? = some (.cells #[.int .i64 a1_0, .int .i64 a1_1] 23 (0, 0))) := ⟨h3_⟩
                have n4_ : Aside0 (w50.heap[gb237]? = some (.cells #[.int .i64 x238000_2, .int .i64 x238001_2] 23 (0, 0))) := ⟨h4_⟩
                have n5_ : Aside0 (Below w.heap.size w w50) := ⟨h5_⟩
                clear BK235
                clear BK236
                clear BK237
                clear HB
                clear h0_ h1_ h2_ h3_ h4_ h5_
                have HO242 := n0_
                have HA_HO242 := n1_
                have BK235 := n2_
                have BK236 := n3_
                have BK237 := n4_
                have HB := n5_
                clear n0_ n1_ n2_ n3_ n4_ n5_
                have hHeld : w50.cell? ⟨gb235, 0, none⟩ = some (.int .i64 a0_0) ∧ w50.cell? ⟨gb235, 1, none⟩ = some (.int .i64 a0_1) ∧ w50.cell? ⟨gb236, 0, none⟩ = some (.int .i64 a1_0) ∧ w50.cell? ⟨gb236, 1, none⟩ = some (.int .i64 a1_1) := hS_
                obtain ⟨co51, eo51⟩ := HA_HO242.out
                clear HA_HO242
                subst eo51
                refine norm_ (a' := ?_) ?_ ?_
                rotate_left
                ·simp only [putAll, Act.put, List.setIfInBounds_toArray, List.set_cons_zero, List.set_cons_succ]
                 rfl
                refine one_ (i := 13) (N := some 39) #[true, true, true, true, true, true, true, true, true, true, true, true, true, true, true, true, false, false, false, false, false, false, false, false, false, false] rfl rfl (one_of HT_.out (by kernel_rfl)) (by decide) (fun K hK => ?_)
                refine Kd.R_lit_step (Kd.int .i64) _ 3 ?hg (N := 39) ?hd (xs := ([a1_0, a1_1] : List Int)) (inner := [.int .i64 a1_0, .int .i64 a1_1]) (ok := fun _ => True) (okp := fun _ => True) ?hr ?hp (fun _ hk => hk) trivial (Below.refl _ _) (Nat.le_refl _) (by simp) ?_; (case hd => rfl); (case hg => rfl); (case hr => go_simp); (case hp => exact (Reps.one (show Kd.M (Kd.int .i64) _ _ _ a1_0 [.int .i64 a1_0] from rfl) (Reps.one (show Kd.M (Kd.int .i64) _ _ _ a1_1 [.int .i64 a1_1] from rfl) (Reps.none _ _))))
                intro v245 w52 ho53 hb hg_ hnew_
                clear hg_ hnew_
                (first | rw [← Ny244.out] at ho53 | (simp only [Int.reduceToNat] at ho53; rw [← Ny244.out] at ho53))
                have n0_ := Aside0.mk (Kd.R_elder' HO242.out (Kd.R_base ho53) hb)
                have n1_ := Aside0.mk (Kd.R_lower (Kd.R_new' ho53 (Kd.R_lt HO242.out)) (below_size (by repeat first | exact HB.out | refine below_set ?_ GE235.out | refine below_set ?_ GE236.out | refine below_set ?_ GE237.out)))
                have n2_ := Aside0.mk (blk_below (g := gb235) (o := .cells #[.int .i64 a0_0, .int .i64 a0_1] 23 (0, 0)) BK235.out hb)
                have n3_ := Aside0.mk (blk_below (g := gb236) (o := .cells #[.int .i64 a1_0, .int .i64 a1_1] 23 (0, 0)) BK236.out hb)
                have n4_ := Aside0.mk (blk_below (g := gb237) (o := .cells #[.int .i64 x238000_2, .int .i64 x238001_2] 23 (0, 0)) BK237.out hb)
                have n5_ := Aside0.mk (below_step (by repeat first | exact HB.out | refine below_set ?_ GE235.out | refine below_set ?_ GE236.out | refine below_set ?_ GE237.out) hb)
                clear HO242
                clear BK235
                clear BK236
                clear BK237
                clear HB
                have HO242 := n0_
                have HO246 := n1_
                have BK235 := n2_
                have BK236 := n3_
                have BK237 := n4_
                have HB := n5_
                clear n0_ n1_ n2_ n3_ n4_ n5_
                clear hb ho53
                obtain ⟨Ao54, co54, eo54⟩ := Kd.R_slice HO246.out
                subst eo54
                obtain ⟨ado54, fo54, _⟩ := Kd.at_int (Kd.R_reads' HO246.out).2.2 0 (by decide) (by rw [Ny244.out]; simp)
                cases fo54
                refine hK.out _ _ ⟨(blk_cell BK235.out 0).trans rfl, (blk_cell BK235.out 1).trans rfl, (blk_cell BK236.out 0).trans rfl, (blk_cell BK236.out 1).trans rfl⟩ (fun hHeld => ?_)
                clear hK K
                refine norm_ (a' := ?_) ?_ ?_
                rotate_left
                ·show Act.put _ (some 39) _ = _
                 simp only [Act.put, List.setIfInBounds_toArray, List.set_cons_zero, List.set_cons_succ, i64_w, i32_w]
                 rfl
                refine pure_ (i := 16) (N := some 42) (v := ?_) (a' := ?_) #[true, true, true, true, true, true, true, true, true, true, true, true, true, true, true, true, true, false, false, false, false, false, false, false, false, false] rfl rfl (any_of HT_.out (by kernel_rfl)) (fun _ _ _ h => h) (Or.inl ⟨by rfl, ?_⟩) ?_ ?_
                rotate_left
                ·intro w'
                 go_simp
                 with_reducible rfl
                rotate_left
                ·simp only [Act.put, List.setIfInBounds_toArray, List.set_cons_zero, List.set_cons_succ, i64_w, i32_w]
                 rfl
                exact norm_ (by first | (simp only [putAll, Act.put, List.setIfInBounds_toArray, List.set_cons_zero, List.set_cons_succ]; done) | (simp only [putAll, Act.put, List.setIfInBounds_toArray, List.set_cons_zero, List.set_cons_succ]; rfl)) (hJ4_8_13 (.slice (some adz_v241) y240.length co51, adz_v241, .slice (some ado54) y244.length co54, ado54) _ ⟨hHeld, (by (with_reducible repeat (first | apply Kd.R_alloc | apply Kd.R_drewN | apply Kd.R_drew)); exact Kd.R_mono HO242.out (fun _ hk => hk.2)), (by (with_reducible repeat (first | apply Kd.R_alloc | apply Kd.R_drewN | apply Kd.R_drew)); exact Kd.R_mono HO246.out (fun _ hk => hk.2)), ⟨_, rfl⟩, ⟨_, rfl⟩, BK235.out, BK236.out, BK237.out, (by repeat first | exact HB.out | refine below_set ?_ GE235.out | refine below_set ?_ GE236.out | refine below_set ?_ GE237.out)⟩)
              ·skip
               rintro ⟨v241, adz_v241, v245, adz_v245⟩ w53 ⟨hS_, h0_, h1_, h2_, h3_, h4_, h5_, h6_, h7_⟩
               have n0_ : Aside0 (Kd.R (Kd.int .i64) 3 w53 w.heap.size (fun k_ => some k_ ≠ (v245 : Value).ownBlock) v241 y240) := ⟨h0_⟩
               have n1_ : Aside0 (Kd.R (Kd.int .i64) 3 w53 w.heap.size (fun k_ => some k_ ≠ (v241 : Value).ownBlock) v245 y244) := ⟨h1_⟩
               have n2_ : Aside0 (∃ c_, (v241 : Value) = .slice (some adz_v241) y240.length c_) := ⟨h2_⟩
               have n3_ : Aside0 (∃ c_, (v245 : Value) = .slice (some adz_v245) y244.length c_) := ⟨h3_⟩
               have n4_ : Aside0 (w53.heap[gb235]? = some (.cells #[.int .i64 a0_0, .int .i64 a0_1] 23 (0, 0))) := ⟨h4_⟩
               have n5_ : Aside0 (w53.heap[gb236]? = some (.cells #[.int .i64 a1_0, .int .i64 a1_1] 23 (0, 0))) := ⟨h5_⟩
               have n6_ : Aside0 (w53.heap[gb237]? = some (.cells #[.int .i64 x238000_2, .int .i64 x238001_2] 23 (0, 0))) := ⟨h6_⟩
               have n7_ : Aside0 (Below w.heap.size w w53) := ⟨h7_⟩
               clear BK235
               clear BK236
               clear BK237
               clear HB
               clear h0_ h1_ h2_ h3_ h4_ h5_ h6_ h7_
               have HO242 := n0_
               have HO246 := n1_
               have HA_HO242 := n2_
               have HA_HO246 := n3_
               have BK235 := n4_
               have BK236 := n5_
               have BK237 := n6_
               have HB := n7_
               clear n0_ n1_ n2_ n3_ n4_ n5_ n6_ n7_
               have hHeld : w53.cell? ⟨gb235, 0, none⟩ = some (.int .i64 a0_0) ∧ w53.cell? ⟨gb235, 1, none⟩ = some (.int .i64 a0_1) ∧ w53.cell? ⟨gb236, 0, none⟩ = some (.int .i64 a1_0) ∧ w53.cell? ⟨gb236, 1, none⟩ = some (.int .i64 a1_1) := hS_
               obtain ⟨co54, eo54⟩ := HA_HO242.out
               clear HA_HO242
               subst eo54
               obtain ⟨co55, eo55⟩ := HA_HO246.out
               clear HA_HO246
               subst eo55
               refine norm_ (a' := ?_) ?_ ?_
               rotate_left
               ·simp only [putAll, Act.put, List.setIfInBounds_toArray, List.set_cons_zero, List.set_cons_succ]
                rfl
               refine one_ (i := 8) (N := some 34) #[true, true, true, true, true, true, true, true, true, true, true, true, true, true, true, true, true, true, false, false, false, false, false, false, false, false] rfl rfl (one_of HT_.out (by kernel_rfl)) (by decide) (fun K hK => ?_)
               (have p243 : 0 ≤ ((ji26) : Int) := of_decide_eq_true (by assumption); have q243 : (ji26) < (y240.length : Int) := of_decide_eq_true (by assumption); obtain ⟨ad243, e243, hx243_0⟩ := Kd.at_int (Kd.R_reads' HO242.out).2.2 (ji26) p243 q243; obtain rfl : adz_v241 = ad243 := (by injection e243))
               refine value_ (w1 := ?_) (v := ?_) (by rfl) rfl ?_ ?_
               rotate_left 2
               ·go_simp
                constructor
                ·rfl
                ·rfl
               clear hx243_0
               refine hK.out _ _ ⟨(blk_cell BK235.out 0).trans rfl, (blk_cell BK235.out 1).trans rfl, (blk_cell BK236.out 0).trans rfl, (blk_cell BK236.out 1).trans rfl⟩ (fun hHeld => ?_)
               clear hK K
               refine norm_ (a' := ?_) ?_ ?_
               rotate_left
               ·show Act.put _ (some 34) _ = _
                simp only [Act.put, List.setIfInBounds_toArray, List.set_cons_zero, List.set_cons_succ, i64_w, i32_w]
                rfl
               exact norm_ (by first | (simp only [putAll, Act.put, List.setIfInBounds_toArray, List.set_cons_zero, List.set_cons_succ]; done) | (simp only [putAll, Act.put, List.setIfInBounds_toArray, List.set_cons_zero, List.set_cons_succ]; rfl)) (hJ4_8_13_17 (.slice (some adz_v241) y240.length co54, adz_v241, .slice (some adz_v245) y244.length co55, adz_v245) _ ⟨hHeld, HO242.out, HO246.out, ⟨_, rfl⟩, ⟨_, rfl⟩, BK235.out, BK236.out, BK237.out, (by repeat first | exact HB.out | refine below_set ?_ GE235.out | refine below_set ?_ GE236.out | refine below_set ?_ GE237.out)⟩)
             ·skip
              rintro ⟨v241, adz_v241, v245, adz_v245⟩ w53 ⟨hS_, h0_, h1_, h2_, h3_, h4_, h5_, h6_, h7_⟩
              have n0_ : Aside0 (Kd.R (Kd.int .i64) 3 w53 w.heap.size (fun k_ => some k_ ≠ (v245 : Value).ownBlock) v241 y240) := ⟨h0_⟩
              have n1_ : Aside0 (Kd.R (Kd.int .i64) 3 w53 w.heap.size (fun k_ => some k_ ≠ (v241 : Value).ownBlock) v245 y244) := ⟨h1_⟩
              have n2_ : Aside0 (∃ c_, (v241 : Value) = .slice (some adz_v241) y240.length c_) := ⟨h2_⟩
              have n3_ : Aside0 (∃ c_, (v245 : Value) = .slice (some adz_v245) y244.length c_) := ⟨h3_⟩
              have n4_ : Aside0 (w53.heap[gb235]? = some (.cells #[.int .i64 a0_0, .int .i64 a0_1] 23 (0, 0))) := ⟨h4_⟩
              have n5_ : Aside0 (w53.heap[gb236]? = some (.cells #[.int .i64 a1_0, .int .i64 a1_1] 23 (0, 0))) := ⟨h5_⟩
              have n6_ : Aside0 (w53.heap[gb237]? = some (.cells #[.int .i64 x238000_2, .int .i64 x238001_2] 23 (0, 0))) := ⟨h6_⟩
              have n7_ : Aside0 (Below w.heap.size w w53) := ⟨h7_⟩
              clear BK235
              clear BK236
              clear BK237
              clear HB
              clear h0_ h1_ h2_ h3_ h4_ h5_ h6_ h7_
              have HO242 := n0_
              have HO246 := n1_
              have HA_HO242 := n2_
              have HA_HO246 := n3_
              have BK235 := n4_
              have BK236 := n5_
              have BK237 := n6_
              have HB := n7_
              clear n0_ n1_ n2_ n3_ n4_ n5_ n6_ n7_
              have hHeld : w53.cell? ⟨gb235, 0, none⟩ = some (.int .i64 a0_0) ∧ w53.cell? ⟨gb235, 1, none⟩ = some (.int .i64 a0_1) ∧ w53.cell? ⟨gb236, 0, none⟩ = some (.int .i64 a1_0) ∧ w53.cell? ⟨gb236, 1, none⟩ = some (.int .i64 a1_1) := hS_
              obtain ⟨co54, eo54⟩ := HA_HO242.out
              clear HA_HO242
              subst eo54
              obtain ⟨co55, eo55⟩ := HA_HO246.out
              clear HA_HO246
              subst eo55
              refine norm_ (a' := ?_) ?_ ?_
              rotate_left
              ·simp only [putAll, Act.put, List.setIfInBounds_toArray, List.set_cons_zero, List.set_cons_succ]
               rfl
              refine one_ (i := 17) (N := some 43) #[true, true, true, true, true, true, true, true, true, true, true, true, true, true, true, true, true, true, false, false, false, false, false, false, false, false] rfl rfl (one_of HT_.out (by kernel_rfl)) (by decide) (fun K hK => ?_)
              (have p247 : 0 ≤ ((ji29) : Int) := of_decide_eq_true (by assumption); have q247 : (ji29) < (y244.length : Int) := of_decide_eq_true (by assumption); obtain ⟨ad247, e247, hx247_0⟩ := Kd.at_int (Kd.R_reads' HO246.out).2.2 (ji29) p247 q247; obtain rfl : adz_v245 = ad247 := (by injection e247))
              refine value_ (w1 := ?_) (v := ?_) (by rfl) rfl ?_ ?_
              rotate_left 2
              ·go_simp
               constructor
               ·rfl
               ·rfl
              clear hx247_0
              refine hK.out _ _ ⟨(blk_cell BK235.out 0).trans rfl, (blk_cell BK235.out 1).trans rfl, (blk_cell BK236.out 0).trans rfl, (blk_cell BK236.out 1).trans rfl⟩ (fun hHeld => ?_)
              clear hK K
              refine norm_ (a' := ?_) ?_ ?_
              rotate_left
              ·show Act.put _ (some 43) _ = _
               simp only [Act.put, List.setIfInBounds_toArray, List.set_cons_zero, List.set_cons_succ, i64_w, i32_w]
               rfl
              exact norm_ (by first | (simp only [putAll, Act.put, List.setIfInBounds_toArray, List.set_cons_zero, List.set_cons_succ]; done) | (simp only [putAll, Act.put, List.setIfInBounds_toArray, List.set_cons_zero, List.set_cons_succ]; rfl)) (hJ4_8_13_17 (.slice (some adz_v241) y240.length co54, adz_v241, .slice (some adz_v245) y244.length co55, adz_v245) _ ⟨hHeld, HO242.out, HO246.out, ⟨_, rfl⟩, ⟨_, rfl⟩, BK235.out, BK236.out, BK237.out, (by repeat first | exact HB.out | refine below_set ?_ GE235.out | refine below_set ?_ GE236.out | refine below_set ?_ GE237.out)⟩)
            rintro ⟨v241, adz_v241, v245, adz_v245⟩ w53 ⟨hS_, h0_, h1_, h2_, h3_, h4_, h5_, h6_, h7_⟩
            have n0_ : Aside0 (Kd.R (Kd.int .i64) 3 w53 w.heap.size (fun k_ => some k_ ≠ (v245 : Value).ownBlock) v241 y240) := ⟨h0_⟩
            have n1_ : Aside0 (Kd.R (Kd.int .i64) 3 w53 w.heap.size (fun k_ => some k_ ≠ (v241 : Value).ownBlock) v245 y244) := ⟨h1_⟩
            have n2_ : Aside0 (∃ c_, (v241 : Value) = .slice (some adz_v241) y240.length c_) := ⟨h2_⟩
            have n3_ : Aside0 (∃ c_, (v245 : Value) = .slice (some adz_v245) y244.length c_) := ⟨h3_⟩
            have n4_ : Aside0 (w53.heap[gb235]? = some (.cells #[.int .i64 a0_0, .int .i64 a0_1] 23 (0, 0))) := ⟨h4_⟩
            have n5_ : Aside0 (w53.heap[gb236]? = some (.cells #[.int .i64 a1_0, .int .i64 a1_1] 23 (0, 0))) := ⟨h5_⟩
            have n6_ : Aside0 (w53.heap[gb237]? = some (.cells #[.int .i64 x238000_2, .int .i64 x238001_2] 23 (0, 0))) := ⟨h6_⟩
            have n7_ : Aside0 (Below w.heap.size w w53) := ⟨h7_⟩
            clear BK235
            clear BK236
            clear BK237
            clear HB
            clear h0_ h1_ h2_ h3_ h4_ h5_ h6_ h7_
            have HO242 := n0_
            have HO246 := n1_
            have HA_HO242 := n2_
            have HA_HO246 := n3_
            have BK235 := n4_
            have BK236 := n5_
            have BK237 := n6_
            have HB := n7_
            clear n0_ n1_ n2_ n3_ n4_ n5_ n6_ n7_
            have hHeld : w53.cell? ⟨gb235, 0, none⟩ = some (.int .i64 a0_0) ∧ w53.cell? ⟨gb235, 1, none⟩ = some (.int .i64 a0_1) ∧ w53.cell? ⟨gb236, 0, none⟩ = some (.int .i64 a1_0) ∧ w53.cell? ⟨gb236, 1, none⟩ = some (.int .i64 a1_1) := hS_
            obtain ⟨co54, eo54⟩ := HA_HO242.out
            clear HA_HO242
            subst eo54
            obtain ⟨co55, eo55⟩ := HA_HO246.out
            clear HA_HO246
            subst eo55
            refine norm_ (a' := ?_) ?_ ?_
            rotate_left
            ·simp only [putAll, Act.put, List.setIfInBounds_toArray, List.set_cons_zero, List.set_cons_succ]
             rfl
            refine one_ (i := 18) (N := some 44) #[true, true, true, true, true, true, true, true, true, true, true, true, true, true, true, true, true, true, true, false, false, false, false, false, false, false] rfl rfl (one_of HT_.out (by kernel_rfl)) (by decide) (fun K hK => ?_)
            refine goes_ Try.func37 (by kernel_rfl) rfl #[.int .i64 (rd y240 (ji26)), .int .i64 (rd y244 (ji29))] (by rfl) rfl rfl (by (try simp only [List.map_toArray, List.map_cons, List.map_nil]); first | done | (simp only [hji26, hji29]; rfl) | rfl | (simp only [List.length_drop, List.length_take]; rfl)) ?_
            with_reducible refine (flagstoneref37_product.calls k2 (rd y240 (ji26)) (rd y244 (ji29)) t248 t249 false _ A32.out).mono ?_
            rintro e w' ⟨rfl, ⟨nd, rfl⟩⟩
            refine ⟨_, rfl, ?_⟩
            refine hK.out _ _ ⟨(blk_cell BK235.out 0).trans rfl, (blk_cell BK235.out 1).trans rfl, (blk_cell BK236.out 0).trans rfl, (blk_cell BK236.out 1).trans rfl⟩ (fun hHeld => ?_)
            clear hK K
            refine norm_ (a' := ?_) ?_ ?_
            rotate_left
            ·show Act.put _ (some 44) _ = _
             simp only [Act.put, List.setIfInBounds_toArray, List.set_cons_zero, List.set_cons_succ, i64_w, i32_w]
             rfl
            refine pure_ (i := 19) (N := some 25) (v := ?_) (a' := ?_) #[true, true, true, true, true, true, true, true, true, true, true, true, true, true, true, true, true, true, true, true, false, false, false, false, false, false] rfl rfl (any_of HT_.out (by kernel_rfl)) (fun _ _ _ h => h) (Or.inl ⟨by rfl, ?_⟩) ?_ ?_
            rotate_left
            ·intro w'
             go_simp
             with_reducible rfl
            rotate_left
            ·simp only [Act.put, List.setIfInBounds_toArray, List.set_cons_zero, List.set_cons_succ, i64_w, i32_w]
             rfl
            refine pure_ (i := 20) (N := some 45) (v := ?_) (a' := ?_) #[true, true, true, true, true, true, true, true, true, true, true, true, true, true, true, true, true, true, true, true, true, false, false, false, false, false] rfl rfl (any_of HT_.out (by kernel_rfl)) (fun _ _ _ h => h) (Or.inl ⟨by rfl, ?_⟩) ?_ ?_
            rotate_left
            ·intro w'
             go_simp
             with_reducible rfl
            rotate_left
            ·simp only [Act.put, List.setIfInBounds_toArray, List.set_cons_zero, List.set_cons_succ, i64_w, i32_w]
             rfl
            refine pure_ (i := 21) (N := some 46) (v := ?_) (a' := ?_) #[true, true, true, true, true, true, true, true, true, true, true, true, true, true, true, true, true, true, true, true, true, true, false, false, false, false] rfl rfl (any_of HT_.out (by kernel_rfl)) (fun _ _ _ h => h) (Or.inl ⟨by rfl, ?_⟩) ?_ ?_
            rotate_left
            ·intro w'
             go_simp
             with_reducible rfl
            rotate_left
            ·simp only [Act.put, List.setIfInBounds_toArray, List.set_cons_zero, List.set_cons_succ, i64_w, i32_w]
             rfl
            refine pure_ (i := 22) (N := some 47) (v := ?_) (a' := ?_) #[true, true, true, true, true, true, true, true, true, true, true, true, true, true, true, true, true, true, true, true, true, true, true, false, false, false] rfl rfl (any_of HT_.out (by kernel_rfl)) (fun _ _ _ h => h) (Or.inl ⟨by rfl, ?_⟩) ?_ ?_
            rotate_left
            ·intro w'
             go_simp
             with_reducible rfl
            rotate_left
            ·simp only [Act.put, List.setIfInBounds_toArray, List.set_cons_zero, List.set_cons_succ, i64_w, i32_w]
             rfl
            refine pure_ (i := 23) (N := some 9) (v := ?_) (a' := ?_) #[true, true, true, true, true, true, true, true, true, true, true, true, true, true, true, true, true, true, true, true, true, true, true, true, false, false] rfl rfl (any_of HT_.out (by kernel_rfl)) (fun _ _ _ h => h) (Or.inl ⟨by rfl, ?_⟩) ?_ ?_
            rotate_left
            ·intro w'
             go_simp
             with_reducible rfl
            rotate_left
            ·simp only [Act.put, List.setIfInBounds_toArray, List.set_cons_zero, List.set_cons_succ, i64_w, i32_w]
             rfl
            refine pure_ (i := 24) (N := some 10) (v := ?_) (a' := ?_) #[true, true, true, true, true, true, true, true, true, true, true, true, true, true, true, true, true, true, true, true, true, true, true, true, true, false] rfl rfl (any_of HT_.out (by kernel_rfl)) (fun _ _ _ h => h) (Or.inl ⟨by rfl, ?_⟩) ?_ ?_
            rotate_left
            ·intro w'
             go_simp
             with_reducible rfl
            rotate_left
            ·simp only [Act.put, List.setIfInBounds_toArray, List.set_cons_zero, List.set_cons_succ, i64_w, i32_w]
             rfl
            refine pure_ (i := 25) (N := some 11) (v := ?_) (a' := ?_) #[true, true, true, true, true, true, true, true, true, true, true, true, true, true, true, true, true, true, true, true, true, true, true, true, true, true] rfl rfl (any_of HT_.out (by kernel_rfl)) (fun _ _ _ h => h) (Or.inl ⟨by rfl, ?_⟩) ?_ ?_
            rotate_left
            ·intro w'
             go_simp
             with_reducible rfl
            rotate_left
            ·simp only [Act.put, List.setIfInBounds_toArray, List.set_cons_zero, List.set_cons_succ, i64_w, i32_w]
             rfl
            refine done_ (done_of HT_.out (by kernel_rfl)) ?_
            have hnb56 := NB237_235.out
            have hnc56 := NB235_237.out
            have hnb57 := NB237_236.out
            have hnc57 := NB236_237.out
            have hcz58_0 : w53.cell? ⟨gb237, 0, none⟩ = some (.int .i64 x238000_2) := (blk_cell BK237.out 0).trans rfl
            have hcz58_1 : w53.cell? ⟨gb237, 1, none⟩ = some (.int .i64 x238001_2) := (blk_cell BK237.out 1).trans rfl
            have hfz58_0 := blk_frozen BK237.out 0
            have hfz58_1 := blk_frozen BK237.out 1
            try go_wp2
            refine bodyPost_ret (results_ct rfl _ _ gb237 23 #[.int .i64 0, .int .i64 0] (0, 0) _ rfl (by (with_reducible repeat (first | refine blk_drewN ?_ _ | refine blk_drew ?_ | refine blk_alloc ?_ _)); refine blk_put (cs := #[.int .i64 0, .int .i64 x238001_2]) ?_ 1 _ rfl; (with_reducible repeat (first | refine blk_drewN ?_ _ | refine blk_drew ?_ | refine blk_alloc ?_ _)); refine blk_put (cs := #[.int .i64 x238000_2, .int .i64 x238001_2]) ?_ 0 _ rfl; (with_reducible repeat (first | refine blk_drewN ?_ _ | refine blk_drew ?_ | refine blk_alloc ?_ _)); exact BK237.out) Try.underlying23 rfl (by kernel_rfl)) rfl ?_
            exact ⟨by first | rfl | (simp [errW_none, errW_some] <;> rfl) | (simp only [← hji26, ← hji29]; first | rfl | (simp [errW_none, errW_some] <;> rfl)) | (simp [*, errW_none, errW_some] <;> rfl), by repeat (first | (with_reducible first | exact HB.out | apply below_alloc | apply pw_below_drewN | apply below_drew1 | refine below_set ?_ GE235.out | refine below_set ?_ GE236.out | refine below_set ?_ GE237.out) | exact HB.out)⟩
          ·rw [if_neg c31] at H
           exact absurd H (by simp)
         ·rw [if_neg c30] at H
          exact absurd H (by simp)
        ·rw [if_neg c28] at H
         exact absurd H (by simp)
       ·rw [if_neg c27] at H
        exact absurd H (by simp)
      ·rw [if_neg c25] at H
       have c25b0 : decide (x8_2 < 4) = false := decide_eq_false c25
       clear c25
       simp only [Option.some.injEq, Prod.mk.injEq] at H
       obtain ⟨rfl, rfl, rfl⟩ := H
       have hnb59 := NB237_235.out
       have hnc59 := NB235_237.out
       have hnb60 := NB237_236.out
       have hnc60 := NB236_237.out
       have hcz61_0 : wr.cell? ⟨gb237, 0, none⟩ = some (.int .i64 x238000_2) := (blk_cell BK237.out 0).trans rfl
       have hcz61_1 : wr.cell? ⟨gb237, 1, none⟩ = some (.int .i64 x238001_2) := (blk_cell BK237.out 1).trans rfl
       have hfz61_0 := blk_frozen BK237.out 0
       have hfz61_1 := blk_frozen BK237.out 1
       go_wp2
       refine bodyPost_ret (results_ct rfl _ _ gb237 23 #[.int .i64 x6_2, .int .i64 x7_2] (0, 0) _ rfl (by (with_reducible repeat (first | refine blk_drewN ?_ _ | refine blk_drew ?_ | refine blk_alloc ?_ _)); refine blk_put (cs := #[.int .i64 x6_2, .int .i64 x238001_2]) ?_ 1 _ rfl; (with_reducible repeat (first | refine blk_drewN ?_ _ | refine blk_drew ?_ | refine blk_alloc ?_ _)); refine blk_put (cs := #[.int .i64 x238000_2, .int .i64 x238001_2]) ?_ 0 _ rfl; (with_reducible repeat (first | refine blk_drewN ?_ _ | refine blk_drew ?_ | refine blk_alloc ?_ _)); exact BK237.out) Try.underlying23 rfl (by kernel_rfl)) rfl ?_
       exact ⟨rfl, by repeat first | exact HB.out | refine below_set ?_ GE235.out | refine below_set ?_ GE236.out | refine below_set ?_ GE237.out⟩
end Go.Proofs.Ytplpmndchdockaa.Pr
