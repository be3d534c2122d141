-- Written by a program of this session over the kit's print of the translation. Not trusted: Lean checks it.
import Derived.Test.YtplpmndchdockaaPr0
import Derived.Test.YtplpmndchdockaaPr3
import Derived.Test.YtplpmndchdockaaPr5
import Derived.Test.YtplpmndchdockaaPr6
namespace Go.Proofs.Ytplpmndchdockaa.Pr
open Go.RowKit Go.Proofs.YtplpmndchdockaaV.PrintWords Go.Proofs.YtplpmndchdockaaV.PrintLast Go.Proofs.YtplpmndchdockaaV.PrintMore
attribute [local go_sem] max2_int min2_int max_two min_two max_three min_three max_four min_four   -- for this text's walks alone
set_option linter.unusedVariables false
set_option linter.unusedSimpArgs false

/-! ### flagstonelaw37_IntervalNests: function 4 -/
mutual
def flagstonelaw37_IntervalNests.l0 : Nat → Int → Int → Int → Int → Int → Int → Int → Option (Bool)
 | 0, _, _, _, _, _, _, _ => none
 | k + 1, x21, x359000, x359001, x360000, x360001, x361000, x361001 => if x21 < 4 then ((flagstonelaw37_operate.f k x21 x359000 x359001 x360000 x360001).bind fun bt361 => ((flagstonelaw37_operate.f k x21 x361000 x361001 x360000 x360001).bind fun bt365 => (if bt361.2.2 = true then (if bt365.2.2 = true then ((flagstonelaw37_inside.f bt365.1 bt365.2.1 bt361.1 bt361.2.1).bind fun t369 => (if t369 = true then (flagstonelaw37_IntervalNests.l0 k (wrap64 (x21 + 1)) x359000 x359001 x360000 x360001 x361000 x361001) else (some false))) else (some false)) else (flagstonelaw37_IntervalNests.l0 k (wrap64 (x21 + 1)) x359000 x359001 x360000 x360001 x361000 x361001)))) else ((interval_Hull.f x359000 x359001 x360000 x360001).bind fun bt370 => ((interval_Meet.f x359000 x359001 x360000 x360001).bind fun bt374 => (if bt370.2.2 = true then ((flagstonelaw37_inside.f x359000 x359001 bt370.1 bt370.2.1).bind fun t378 => (if t378 = true then ((flagstonelaw37_inside.f x360000 x360001 bt370.1 bt370.2.1).bind fun t379 => (if t379 = true then (if bt370.1 = x359000 then (if bt370.2.1 = x359001 then (flagstonelaw37_IntervalNests.j1 k bt374.2.2 false x359000 x359001 x360000 x360001 bt374.1 bt374.2.1) else (flagstonelaw37_IntervalNests.j1 k bt374.2.2 (bt370.2.1 != x360001) x359000 x359001 x360000 x360001 bt374.1 bt374.2.1)) else (if bt370.1 = x360000 then (if bt370.2.1 = x359001 then (flagstonelaw37_IntervalNests.j1 k bt374.2.2 false x359000 x359001 x360000 x360001 bt374.1 bt374.2.1) else (flagstonelaw37_IntervalNests.j1 k bt374.2.2 (bt370.2.1 != x360001) x359000 x359001 x360000 x360001 bt374.1 bt374.2.1)) else (flagstonelaw37_IntervalNests.j1 k bt374.2.2 true x359000 x359001 x360000 x360001 bt374.1 bt374.2.1))) else (flagstonelaw37_IntervalNests.j1 k bt374.2.2 true x359000 x359001 x360000 x360001 bt374.1 bt374.2.1))) else (flagstonelaw37_IntervalNests.j1 k bt374.2.2 true x359000 x359001 x360000 x360001 bt374.1 bt374.2.1))) else (flagstonelaw37_IntervalNests.j1 k bt374.2.2 true x359000 x359001 x360000 x360001 bt374.1 bt374.2.1))))
def flagstonelaw37_IntervalNests.j1 : Nat → Bool → Bool → Int → Int → Int → Int → Int → Int → Option (Bool)
 | 0, _, _, _, _, _, _, _, _ => none
 | k + 1, x29, x144, x359000, x359001, x360000, x360001, x378000, x378001 => if x144 = true then (some false) else (if x29 = true then ((flagstonelaw37_inside.f x378000 x378001 x359000 x359001).bind fun t380 => (if t380 = true then ((flagstonelaw37_inside.f x378000 x378001 x360000 x360001).bind fun t381 => (if t381 = true then (if x378000 = (mx x359000 x360000) then (some (x378001 == (mn x359001 x360001))) else (some false)) else (some false))) else (some false))) else (if x359001 < x360000 then (some true) else (some (decide (x360001 < x359000)))))
end
def flagstonelaw37_IntervalNests.f (k : Nat) (a0 : Int) (a1 : Int) (a2 : Int) (a3 : Int) (a4 : Int) (a5 : Int) (a6 : Int) (a7 : Int) : Option (Bool) := (flagstonelaw37_awake.f k).bind fun t353 => (if t353 = true then ((flagstonelaw37_made.f a0 a1 a4).bind fun bt354 => ((flagstonelaw37_made.f a2 a3 a5).bind fun bt356 => (flagstonelaw37_IntervalNests.l0 k 0 bt354.1 bt354.2 bt356.1 bt356.2 (wrap64 (bt354.1 + (wrap64 ((wrap64 (Int.tdiv (wrap64 (bt354.2 - bt354.1)) 600)) * (wrap64 (a6)))))) (wrap64 (bt354.2 - (wrap64 ((wrap64 (Int.tdiv (wrap64 (bt354.2 - bt354.1)) 600)) * (wrap64 (a7))))))))) else (some false))
theorem flagstonelaw37_IntervalNests.mono_l : ∀ k, (∀ y0 y1 y2 y3 y4 y5 y6, LeO (flagstonelaw37_IntervalNests.l0 k y0 y1 y2 y3 y4 y5 y6) (flagstonelaw37_IntervalNests.l0 (k + 1) y0 y1 y2 y3 y4 y5 y6)) ∧ (∀ y0 y1 y2 y3 y4 y5 y6 y7, LeO (flagstonelaw37_IntervalNests.j1 k y0 y1 y2 y3 y4 y5 y6 y7) (flagstonelaw37_IntervalNests.j1 (k + 1) y0 y1 y2 y3 y4 y5 y6 y7))
 | 0 => ⟨fun _ _ _ _ _ _ _ r h => by simp [flagstonelaw37_IntervalNests.l0] at h, fun _ _ _ _ _ _ _ _ r h => by simp [flagstonelaw37_IntervalNests.j1] at h⟩
 | k + 1 => by
  obtain ⟨ih0, ih1⟩ := flagstonelaw37_IntervalNests.mono_l k
  refine ⟨?_, ?_⟩
  ·intro y0 y1 y2 y3 y4 y5 y6
   unfold flagstonelaw37_IntervalNests.l0
   repeat' first
   | (with_reducible exact ih0 _ _ _ _ _ _ _)
   | (with_reducible exact ih1 _ _ _ _ _ _ _ _)
   | (with_reducible exact flagstonelaw37_awake.mono _)
   | (with_reducible exact flagstonelaw37_operate.mono _ _ _ _ _ _)
   | (with_reducible exact LeO.refl _)
   | (with_reducible exact LeO.none _)
   | (with_reducible refine LeO.ite ?_ ?_)
   | (with_reducible refine LeO.bind ?_ (fun _ => ?_))
   | exact ih0 _ _ _ _ _ _ _
   | exact ih1 _ _ _ _ _ _ _ _
   | exact flagstonelaw37_awake.mono _
   | exact flagstonelaw37_operate.mono _ _ _ _ _ _
   | exact LeO.none _
   | refine LeO.ite ?_ ?_
   | refine LeO.bind ?_ (fun _ => ?_)
  ·intro y0 y1 y2 y3 y4 y5 y6 y7
   unfold flagstonelaw37_IntervalNests.j1
   repeat' first
   | (with_reducible exact ih0 _ _ _ _ _ _ _)
   | (with_reducible exact ih1 _ _ _ _ _ _ _ _)
   | (with_reducible exact flagstonelaw37_awake.mono _)
   | (with_reducible exact flagstonelaw37_operate.mono _ _ _ _ _ _)
   | (with_reducible exact LeO.refl _)
   | (with_reducible exact LeO.none _)
   | (with_reducible refine LeO.ite ?_ ?_)
   | (with_reducible refine LeO.bind ?_ (fun _ => ?_))
   | exact ih0 _ _ _ _ _ _ _
   | exact ih1 _ _ _ _ _ _ _ _
   | exact flagstonelaw37_awake.mono _
   | exact flagstonelaw37_operate.mono _ _ _ _ _ _
   | exact LeO.none _
   | refine LeO.ite ?_ ?_
   | refine LeO.bind ?_ (fun _ => ?_)
theorem flagstonelaw37_IntervalNests.mono : ∀ a0 a1 a2 a3 a4 a5 a6 a7 k, LeO (flagstonelaw37_IntervalNests.f k a0 a1 a2 a3 a4 a5 a6 a7) (flagstonelaw37_IntervalNests.f (k + 1) a0 a1 a2 a3 a4 a5 a6 a7) := by
 intro a0 a1 a2 a3 a4 a5 a6 a7 k
 obtain ⟨ih0, ih1⟩ := flagstonelaw37_IntervalNests.mono_l k
 unfold flagstonelaw37_IntervalNests.f
 repeat' first
   | (with_reducible exact ih0 _ _ _ _ _ _ _)
   | (with_reducible exact ih1 _ _ _ _ _ _ _ _)
   | (with_reducible exact flagstonelaw37_awake.mono _)
   | (with_reducible exact flagstonelaw37_operate.mono _ _ _ _ _ _)
   | (with_reducible exact LeO.refl _)
   | (with_reducible exact LeO.none _)
   | (with_reducible refine LeO.ite ?_ ?_)
   | (with_reducible refine LeO.bind ?_ (fun _ => ?_))
   | exact ih0 _ _ _ _ _ _ _
   | exact ih1 _ _ _ _ _ _ _ _
   | exact flagstonelaw37_awake.mono _
   | exact flagstonelaw37_operate.mono _ _ _ _ _ _
   | exact LeO.none _
   | refine LeO.ite ?_ ?_
   | refine LeO.bind ?_ (fun _ => ?_)
set_option maxHeartbeats 8000000 in
set_option maxRecDepth 100000 in
theorem flagstonelaw37_IntervalNests.calls (k : Nat) (a0 : Int) (a1 : Int) (a2 : Int) (a3 : Int) (a4 : Int) (a5 : Int) (a6 : Int) (a7 : Int) (r : Bool) (w : World) (h : flagstonelaw37_IntervalNests.f k a0 a1 a2 a3 a4 a5 a6 a7 = some r) :
  Calls Try.prog 4 #[.int .i64 a0, .int .i64 a1, .int .i64 a2, .int .i64 a3, .int .u8 a4, .int .u8 a5, .int .u8 a6, .int .u8 a7] w fun e w' => e = .returned (.bool r) ∧ Below w.heap.size w w' := by
 have hu23 := Try.underlying23
 have HB := Aside0.mk (Below.refl w.heap.size w)
 have H : ((flagstonelaw37_awake.f k).bind fun t353 => (if t353 = true then ((flagstonelaw37_made.f a0 a1 a4).bind fun bt354 => ((flagstonelaw37_made.f a2 a3 a5).bind fun bt356 => (flagstonelaw37_IntervalNests.l0 k 0 bt354.1 bt354.2 bt356.1 bt356.2 (wrap64 (bt354.1 + (wrap64 ((wrap64 (Int.tdiv (wrap64 (bt354.2 - bt354.1)) 600)) * (wrap64 (a6)))))) (wrap64 (bt354.2 - (wrap64 ((wrap64 (Int.tdiv (wrap64 (bt354.2 - bt354.1)) 600)) * (wrap64 (a7))))))))) else (some false))) = some r := h
 clear h
 replace H := Option.bind_eq_some_iff.mp H
 obtain ⟨t353, A90, H⟩ := H
 replace H : (if t353 = true then ((flagstonelaw37_made.f a0 a1 a4).bind fun bt354 => ((flagstonelaw37_made.f a2 a3 a5).bind fun bt356 => (flagstonelaw37_IntervalNests.l0 k 0 bt354.1 bt354.2 bt356.1 bt356.2 (wrap64 (bt354.1 + (wrap64 ((wrap64 (Int.tdiv (wrap64 (bt354.2 - bt354.1)) 600)) * (wrap64 (a6)))))) (wrap64 (bt354.2 - (wrap64 ((wrap64 (Int.tdiv (wrap64 (bt354.2 - bt354.1)) 600)) * (wrap64 (a7))))))))) else (some false)) = some r := H
 have A9 := Aside0.mk A90
 clear A90
 by_cases c10 : t353 = true
 ·subst c10
  have H1 : ((flagstonelaw37_made.f a0 a1 a4).bind fun bt354 => ((flagstonelaw37_made.f a2 a3 a5).bind fun bt356 => (flagstonelaw37_IntervalNests.l0 k 0 bt354.1 bt354.2 bt356.1 bt356.2 (wrap64 (bt354.1 + (wrap64 ((wrap64 (Int.tdiv (wrap64 (bt354.2 - bt354.1)) 600)) * (wrap64 (a6)))))) (wrap64 (bt354.2 - (wrap64 ((wrap64 (Int.tdiv (wrap64 (bt354.2 - bt354.1)) 600)) * (wrap64 (a7))))))))) = some r := by rw [if_pos rfl] at H; exact H
  clear H
  have H := H1
  clear H1
  replace H := Option.bind_eq_some_iff.mp H
  obtain ⟨⟨t354, t355⟩, A110, H⟩ := H
  replace H : ((flagstonelaw37_made.f a2 a3 a5).bind fun bt356 => (flagstonelaw37_IntervalNests.l0 k 0 t354 t355 bt356.1 bt356.2 (wrap64 (t354 + (wrap64 ((wrap64 (Int.tdiv (wrap64 (t355 - t354)) 600)) * (wrap64 (a6)))))) (wrap64 (t355 - (wrap64 ((wrap64 (Int.tdiv (wrap64 (t355 - t354)) 600)) * (wrap64 (a7)))))))) = some r := H
  have A11 := Aside0.mk A110
  clear A110
  replace H := Option.bind_eq_some_iff.mp H
  obtain ⟨⟨t356, t357⟩, A120, H⟩ := H
  replace H : (flagstonelaw37_IntervalNests.l0 k 0 t354 t355 t356 t357 (wrap64 (t354 + (wrap64 ((wrap64 (Int.tdiv (wrap64 (t355 - t354)) 600)) * (wrap64 (a6)))))) (wrap64 (t355 - (wrap64 ((wrap64 (Int.tdiv (wrap64 (t355 - t354)) 600)) * (wrap64 (a7))))))) = some r := H
  have A12 := Aside0.mk A120
  clear A120
  have H' := Aside0.mk H
  clear H
  go_enter Try.func4, Try.ntmps4
  go_wp2_with (first | ((with_reducible refine gate_callee (f := 5) rfl ?_); refine goesL_ (some 30) rfl rfl Try.func5 (by kernel_rfl) rfl #[] rfl (by (try simp only [List.map_toArray, List.map_cons, List.map_nil]); first | done | rfl | (simp only [List.length_drop, List.length_take]; rfl)) ?_; (with_reducible refine (flagstonelaw37_awake.calls k  true _ A9.out).mono ?_); rintro e w13 ⟨rfl, hb⟩; refine ⟨_, rfl, ?_⟩; have n0_ := Aside0.mk (below_step (by repeat (first | (with_reducible first | exact HB.out | apply below_alloc | apply pw_below_drewN | apply below_drew1) | exact HB.out)) hb); clear HB; have HB := n0_; clear n0_; (try clear hb); (try clear hb2); (try clear hk); (try clear hi)) | ((with_reducible refine gate_callee (f := 6) rfl ?_); refine goesL_ (some 35) rfl rfl Try.func6 (by kernel_rfl) rfl #[.int .i64 a0, .int .i64 a1, .int .u8 a4] rfl (by (try simp only [List.map_toArray, List.map_cons, List.map_nil]); first | done | rfl | (simp only [List.length_drop, List.length_take]; rfl)) ?_; (with_reducible refine (flagstonelaw37_made.calls a0 a1 a4 t354 t355 _ A11.out).mono ?_); rintro e w14 ⟨rfl, hb⟩; refine ⟨_, rfl, ?_⟩; have n0_ := Aside0.mk (below_step (by repeat (first | (with_reducible first | exact HB.out | apply below_alloc | apply pw_below_drewN | apply below_drew1) | exact HB.out)) hb); clear HB; have HB := n0_; clear n0_; (try clear hb); (try clear hb2); (try clear hk); (try clear hi)) | ((with_reducible refine gate_callee (f := 6) rfl ?_); refine goesL_ (some 39) rfl rfl Try.func6 (by kernel_rfl) rfl #[.int .i64 a2, .int .i64 a3, .int .u8 a5] rfl (by (try simp only [List.map_toArray, List.map_cons, List.map_nil]); first | done | rfl | (simp only [List.length_drop, List.length_take]; rfl)) ?_; (with_reducible refine (flagstonelaw37_made.calls a2 a3 a5 t356 t357 _ A12.out).mono ?_); rintro e w15 ⟨rfl, hb⟩; refine ⟨_, rfl, ?_⟩; have n0_ := Aside0.mk (below_step (by repeat (first | (with_reducible first | exact HB.out | apply below_alloc | apply pw_below_drewN | apply below_drew1) | exact HB.out)) hb); clear HB; have HB := n0_; clear n0_; (try clear hb); (try clear hb2); (try clear hk); (try clear hi)) | ((with_reducible refine gate_dst (N := 17) rfl ?_); refine box_event ?hg (N := 17) ?hd (cs := #[.int .i64 0, .int .i64 0]) (t := 23) ?hr ?_; (case hd => rfl); (case hg => rfl); (case hr => first | (go_simp; done) | (go_simp; rfl)); intro gb358 hg w16 hbox hb; have n0_ := Aside0.mk (below_step (by repeat (first | (with_reducible first | exact HB.out | apply below_alloc | apply pw_below_drewN | apply below_drew1) | exact HB.out)) hb); have n1_ := Aside0.mk (hbox); have n2_ := Aside0.mk ((by rw [hg]; exact (below_size (by repeat (first | (with_reducible first | exact HB.out | apply below_alloc | apply pw_below_drewN | apply below_drew1) | exact HB.out))) : w.heap.size ≤ gb358)); have n3_ := Aside0.mk ((by rw [hg]; exact (below_size (by repeat (first | (with_reducible first | exact HB.out | apply below_alloc | apply pw_below_drewN | apply below_drew1) | exact HB.out))) : w.heap.size ≤ gb358)); clear HB; have HB := n0_; have BK358 := n1_; have GW358 := n2_; have GE358 := n3_; clear n0_ n1_ n2_ n3_; clear hb hbox hg) | ((with_reducible refine gate_dst (N := 18) rfl ?_); refine box_event ?hg (N := 18) ?hd (cs := #[.int .i64 0, .int .i64 0]) (t := 23) ?hr ?_; (case hd => rfl); (case hg => rfl); (case hr => first | (go_simp; done) | (go_simp; rfl)); intro gb359 hg w17 hbox hb; have n0_ := Aside0.mk (blk_below (g := gb358) (o := .cells #[.int .i64 0, .int .i64 0] 23 (0, 0)) (by (with_reducible repeat (first | refine blk_drewN ?_ _ | refine blk_drew ?_ | refine blk_alloc ?_ _)); exact BK358.out) hb); have n1_ := Aside0.mk (below_step (by repeat (first | (with_reducible first | exact HB.out | apply below_alloc | apply pw_below_drewN | apply below_drew1 | refine below_set ?_ GE358.out) | exact HB.out)) hb); have n2_ := Aside0.mk (hbox); have n3_ := Aside0.mk ((by rw [hg]; exact (below_size (by repeat (first | (with_reducible first | exact HB.out | apply below_alloc | apply pw_below_drewN | apply below_drew1 | refine below_set ?_ GE358.out) | exact HB.out))) : w.heap.size ≤ gb359)); have n4_ := Aside0.mk ((by rw [hg]; exact (below_size (by repeat (first | (with_reducible first | exact HB.out | apply below_alloc | apply pw_below_drewN | apply below_drew1 | refine below_set ?_ GE358.out) | exact HB.out))) : w.heap.size ≤ gb359)); have n5_ := Aside0.mk ((by rw [hg]; exact Nat.ne_of_lt (blk_lt (g := gb358) (o := .cells #[.int .i64 0, .int .i64 0] 23 (0, 0)) (by (with_reducible repeat (first | refine blk_drewN ?_ _ | refine blk_drew ?_ | refine blk_alloc ?_ _)); exact BK358.out)) : gb358 ≠ gb359)); have n6_ := Aside0.mk ((by rw [hg]; exact Nat.ne_of_gt (blk_lt (g := gb358) (o := .cells #[.int .i64 0, .int .i64 0] 23 (0, 0)) (by (with_reducible repeat (first | refine blk_drewN ?_ _ | refine blk_drew ?_ | refine blk_alloc ?_ _)); exact BK358.out)) : gb359 ≠ gb358)); clear BK358; clear HB; have BK358 := n0_; have HB := n1_; have BK359 := n2_; have GW359 := n3_; have GE359 := n4_; have NB358_359 := n5_; have NB359_358 := n6_; clear n0_ n1_ n2_ n3_ n4_ n5_ n6_; clear hb hbox hg; have hnb18 := NB358_359.out; have hnc18 := NB359_358.out; have hcz19_0 : w17.cell? ⟨gb358, 0, none⟩ = some (.int .i64 0) := (blk_cell BK358.out 0).trans rfl; have hcz19_1 : w17.cell? ⟨gb358, 1, none⟩ = some (.int .i64 0) := (blk_cell BK358.out 1).trans rfl; have hfz19_0 := blk_frozen BK358.out 0; have hfz19_1 := blk_frozen BK358.out 1; have hcz20_0 : w17.cell? ⟨gb359, 0, none⟩ = some (.int .i64 0) := (blk_cell BK359.out 0).trans rfl; have hcz20_1 : w17.cell? ⟨gb359, 1, none⟩ = some (.int .i64 0) := (blk_cell BK359.out 1).trans rfl; have hfz20_0 := blk_frozen BK359.out 0; have hfz20_1 := blk_frozen BK359.out 1) | ((with_reducible refine gate_dst (N := 20) rfl ?_); refine box_event ?hg (N := 20) ?hd (cs := #[.int .i64 0, .int .i64 0]) (t := 23) ?hr ?_; (case hd => rfl); (case hg => rfl); (case hr => first | (go_simp; done) | (go_simp; rfl)); intro gb360 hg w21 hbox hb; have n0_ := Aside0.mk (blk_below (g := gb358) (o := .cells #[.int .i64 t354, .int .i64 t355] 23 (0, 0)) (by (with_reducible repeat (first | refine blk_drewN ?_ _ | refine blk_drew ?_ | refine blk_alloc ?_ _)); refine blk_far ?_ NB358_359.out _; (with_reducible repeat (first | refine blk_drewN ?_ _ | refine blk_drew ?_ | refine blk_alloc ?_ _)); refine blk_far ?_ NB358_359.out _; (with_reducible repeat (first | refine blk_drewN ?_ _ | refine blk_drew ?_ | refine blk_alloc ?_ _)); refine blk_put (cs := #[.int .i64 t354, .int .i64 0]) ?_ 1 _ rfl; (with_reducible repeat (first | refine blk_drewN ?_ _ | refine blk_drew ?_ | refine blk_alloc ?_ _)); refine blk_put (cs := #[.int .i64 0, .int .i64 0]) ?_ 0 _ rfl; (with_reducible repeat (first | refine blk_drewN ?_ _ | refine blk_drew ?_ | refine blk_alloc ?_ _)); exact BK358.out) hb); have n1_ := Aside0.mk (blk_below (g := gb359) (o := .cells #[.int .i64 t356, .int .i64 t357] 23 (0, 0)) (by (with_reducible repeat (first | refine blk_drewN ?_ _ | refine blk_drew ?_ | refine blk_alloc ?_ _)); refine blk_put (cs := #[.int .i64 t356, .int .i64 0]) ?_ 1 _ rfl; (with_reducible repeat (first | refine blk_drewN ?_ _ | refine blk_drew ?_ | refine blk_alloc ?_ _)); refine blk_put (cs := #[.int .i64 0, .int .i64 0]) ?_ 0 _ rfl; (with_reducible repeat (first | refine blk_drewN ?_ _ | refine blk_drew ?_ | refine blk_alloc ?_ _)); refine blk_far ?_ NB359_358.out _; (with_reducible repeat (first | refine blk_drewN ?_ _ | refine blk_drew ?_ | refine blk_alloc ?_ _)); refine blk_far ?_ NB359_358.out _; (with_reducible repeat (first | refine blk_drewN ?_ _ | refine blk_drew ?_ | refine blk_alloc ?_ _)); exact BK359.out) hb); have n2_ := Aside0.mk (below_step (by repeat (first | (with_reducible first | exact HB.out | apply below_alloc | apply pw_below_drewN | apply below_drew1 | refine below_set ?_ GE358.out | refine below_set ?_ GE359.out) | exact HB.out)) hb); have n3_ := Aside0.mk (hbox); have n4_ := Aside0.mk ((by rw [hg]; exact (below_size (by repeat (first | (with_reducible first | exact HB.out | apply below_alloc | apply pw_below_drewN | apply below_drew1 | refine below_set ?_ GE358.out | refine below_set ?_ GE359.out) | exact HB.out))) : w.heap.size ≤ gb360)); have n5_ := Aside0.mk ((by rw [hg]; exact (below_size (by repeat (first | (with_reducible first | exact HB.out | apply below_alloc | apply pw_below_drewN | apply below_drew1 | refine below_set ?_ GE358.out | refine below_set ?_ GE359.out) | exact HB.out))) : w.heap.size ≤ gb360)); have n6_ := Aside0.mk ((by rw [hg]; exact Nat.ne_of_lt (blk_lt (g := gb358) (o := .cells #[.int .i64 t354, .int .i64 t355] 23 (0, 0)) (by (with_reducible repeat (first | refine blk_drewN ?_ _ | refine blk_drew ?_ | refine blk_alloc ?_ _)); refine blk_far ?_ NB358_359.out _; (with_reducible repeat (first | refine blk_drewN ?_ _ | refine blk_drew ?_ | refine blk_alloc ?_ _)); refine blk_far ?_ NB358_359.out _; (with_reducible repeat (first | refine blk_drewN ?_ _ | refine blk_drew ?_ | refine blk_alloc ?_ _)); refine blk_put (cs := #[.int .i64 t354, .int .i64 0]) ?_ 1 _ rfl; (with_reducible repeat (first | refine blk_drewN ?_ _ | refine blk_drew ?_ | refine blk_alloc ?_ _)); refine blk_put (cs := #[.int .i64 0, .int .i64 0]) ?_ 0 _ rfl; (with_reducible repeat (first | refine blk_drewN ?_ _ | refine blk_drew ?_ | refine blk_alloc ?_ _)); exact BK358.out)) : gb358 ≠ gb360)); have n7_ := Aside0.mk ((by rw [hg]; exact Nat.ne_of_gt (blk_lt (g := gb358) (o := .cells #[.int .i64 t354, .int .i64 t355] 23 (0, 0)) (by (with_reducible repeat (first | refine blk_drewN ?_ _ | refine blk_drew ?_ | refine blk_alloc ?_ _)); refine blk_far ?_ NB358_359.out _; (with_reducible repeat (first | refine blk_drewN ?_ _ | refine blk_drew ?_ | refine blk_alloc ?_ _)); refine blk_far ?_ NB358_359.out _; (with_reducible repeat (first | refine blk_drewN ?_ _ | refine blk_drew ?_ | refine blk_alloc ?_ _)); refine blk_put (cs := #[.int .i64 t354, .int .i64 0]) ?_ 1 _ rfl; (with_reducible repeat (first | refine blk_drewN ?_ _ | refine blk_drew ?_ | refine blk_alloc ?_ _)); refine blk_put (cs := #[.int .i64 0, .int .i64 0]) ?_ 0 _ rfl; (with_reducible repeat (first | refine blk_drewN ?_ _ | refine blk_drew ?_ | refine blk_alloc ?_ _)); exact BK358.out)) : gb360 ≠ gb358)); have n8_ := Aside0.mk ((by rw [hg]; exact Nat.ne_of_lt (blk_lt (g := gb359) (o := .cells #[.int .i64 t356, .int .i64 t357] 23 (0, 0)) (by (with_reducible repeat (first | refine blk_drewN ?_ _ | refine blk_drew ?_ | refine blk_alloc ?_ _)); refine blk_put (cs := #[.int .i64 t356, .int .i64 0]) ?_ 1 _ rfl; (with_reducible repeat (first | refine blk_drewN ?_ _ | refine blk_drew ?_ | refine blk_alloc ?_ _)); refine blk_put (cs := #[.int .i64 0, .int .i64 0]) ?_ 0 _ rfl; (with_reducible repeat (first | refine blk_drewN ?_ _ | refine blk_drew ?_ | refine blk_alloc ?_ _)); refine blk_far ?_ NB359_358.out _; (with_reducible repeat (first | refine blk_drewN ?_ _ | refine blk_drew ?_ | refine blk_alloc ?_ _)); refine blk_far ?_ NB359_358.out _; (with_reducible repeat (first | refine blk_drewN ?_ _ | refine blk_drew ?_ | refine blk_alloc ?_ _)); exact BK359.out)) : gb359 ≠ gb360)); have n9_ := Aside0.mk ((by rw [hg]; exact Nat.ne_of_gt (blk_lt (g := gb359) (o := .cells #[.int .i64 t356, .int .i64 t357] 23 (0, 0)) (by (with_reducible repeat (first | refine blk_drewN ?_ _ | refine blk_drew ?_ | refine blk_alloc ?_ _)); refine blk_put (cs := #[.int .i64 t356, .int .i64 0]) ?_ 1 _ rfl; (with_reducible repeat (first | refine blk_drewN ?_ _ | refine blk_drew ?_ | refine blk_alloc ?_ _)); refine blk_put (cs := #[.int .i64 0, .int .i64 0]) ?_ 0 _ rfl; (with_reducible repeat (first | refine blk_drewN ?_ _ | refine blk_drew ?_ | refine blk_alloc ?_ _)); refine blk_far ?_ NB359_358.out _; (with_reducible repeat (first | refine blk_drewN ?_ _ | refine blk_drew ?_ | refine blk_alloc ?_ _)); refine blk_far ?_ NB359_358.out _; (with_reducible repeat (first | refine blk_drewN ?_ _ | refine blk_drew ?_ | refine blk_alloc ?_ _)); exact BK359.out)) : gb360 ≠ gb359)); clear BK358; clear BK359; clear HB; have BK358 := n0_; have BK359 := n1_; have HB := n2_; have BK360 := n3_; have GW360 := n4_; have GE360 := n5_; have NB358_360 := n6_; have NB360_358 := n7_; have NB359_360 := n8_; have NB360_359 := n9_; clear n0_ n1_ n2_ n3_ n4_ n5_ n6_ n7_ n8_ n9_; clear hb hbox hg; have hnb22 := NB360_358.out; have hnc22 := NB358_360.out; have hnb23 := NB360_359.out; have hnc23 := NB359_360.out; have hcz24_0 : w21.cell? ⟨gb360, 0, none⟩ = some (.int .i64 0) := (blk_cell BK360.out 0).trans rfl; have hcz24_1 : w21.cell? ⟨gb360, 1, none⟩ = some (.int .i64 0) := (blk_cell BK360.out 1).trans rfl; have hfz24_0 := blk_frozen BK360.out 0; have hfz24_1 := blk_frozen BK360.out 1))
  go_loopg [21] k (fun kq v21 w' => ∃ (x21_1 : Int), v21 = .int .i64 x21_1 ∧ Aside0 (flagstonelaw37_IntervalNests.l0 kq x21_1 t354 t355 t356 t357 (wrap64 (t354 + (wrap64 ((wrap64 (Int.tdiv (wrap64 (t355 - t354)) 600)) * (wrap64 (a6)))))) (wrap64 (t355 - (wrap64 ((wrap64 (Int.tdiv (wrap64 (t355 - t354)) 600)) * (wrap64 (a7)))))) = some r) ∧ Aside0 (kq ≤ k) ∧ Aside0 (w'.heap[gb358]? = some (.cells #[.int .i64 t354, .int .i64 t355] 23 (0, 0))) ∧ Aside0 (w'.heap[gb359]? = some (.cells #[.int .i64 t356, .int .i64 t357] 23 (0, 0))) ∧ Aside0 (w'.heap[gb360]? = some (.cells #[.int .i64 (wrap64 (t354 + (wrap64 ((wrap64 (Int.tdiv (wrap64 (t355 - t354)) 600)) * (wrap64 (a6)))))), .int .i64 (wrap64 (t355 - (wrap64 ((wrap64 (Int.tdiv (wrap64 (t355 - t354)) 600)) * (wrap64 (a7))))))] 23 (0, 0))) ∧ Aside0 (Below w.heap.size w w'))
  case atStart => exact ⟨(0), (by first | rfl | (simp; done) | (simp [*]; done)), H', ⟨Nat.le_refl _⟩, ⟨by (with_reducible repeat (first | refine blk_drewN ?_ _ | refine blk_drew ?_ | refine blk_alloc ?_ _)); refine blk_far ?_ NB358_360.out _; (with_reducible repeat (first | refine blk_drewN ?_ _ | refine blk_drew ?_ | refine blk_alloc ?_ _)); refine blk_far ?_ NB358_360.out _; (with_reducible repeat (first | refine blk_drewN ?_ _ | refine blk_drew ?_ | refine blk_alloc ?_ _)); exact BK358.out⟩, ⟨by (with_reducible repeat (first | refine blk_drewN ?_ _ | refine blk_drew ?_ | refine blk_alloc ?_ _)); refine blk_far ?_ NB359_360.out _; (with_reducible repeat (first | refine blk_drewN ?_ _ | refine blk_drew ?_ | refine blk_alloc ?_ _)); refine blk_far ?_ NB359_360.out _; (with_reducible repeat (first | refine blk_drewN ?_ _ | refine blk_drew ?_ | refine blk_alloc ?_ _)); exact BK359.out⟩, ⟨by (with_reducible repeat (first | refine blk_drewN ?_ _ | refine blk_drew ?_ | refine blk_alloc ?_ _)); refine blk_put (cs := #[.int .i64 (wrap64 (t354 + (wrap64 ((wrap64 (Int.tdiv (wrap64 (t355 - t354)) 600)) * (wrap64 (a6)))))), .int .i64 0]) ?_ 1 _ rfl; (with_reducible repeat (first | refine blk_drewN ?_ _ | refine blk_drew ?_ | refine blk_alloc ?_ _)); refine blk_put (cs := #[.int .i64 0, .int .i64 0]) ?_ 0 _ rfl; (with_reducible repeat (first | refine blk_drewN ?_ _ | refine blk_drew ?_ | refine blk_alloc ?_ _)); exact BK360.out⟩, ⟨by repeat (first | (with_reducible first | exact HB.out | apply below_alloc | apply pw_below_drewN | apply below_drew1 | refine below_set ?_ GE358.out | refine below_set ?_ GE359.out | refine below_set ?_ GE360.out) | exact HB.out)⟩⟩
  case round =>
   clear H'
   try clear c1
   try clear c2
   try clear p2
   try clear c4
   try clear c5
   try clear c6
   try clear p6
   try clear c10
   try clear c18
   try clear c22
   try clear c23
   try clear hcz19_0
   try clear hcz19_1
   try clear hcz20_0
   try clear hcz20_1
   try clear hcz24_0
   try clear hcz24_1
   try clear hfz19_0
   try clear hfz19_1
   try clear hfz20_0
   try clear hfz20_1
   try clear hfz24_0
   try clear hfz24_1
   obtain ⟨x21_1, rfl, HA, HK1, BK358, BK359, BK360, HB⟩ := hrel
   cases gk with
   | zero => exact absurd HA.out (by simp [flagstonelaw37_IntervalNests.l0])
   | succ k1 =>
    have H := HA.out
    clear HA
    simp only [flagstonelaw37_IntervalNests.l0] at H
    by_cases c25 : x21_1 < 4
    ·rw [if_pos c25] at H
     have c25b0 : decide (x21_1 < 4) = true := decide_eq_true c25
     clear c25
     replace H := Option.bind_eq_some_iff.mp H
     obtain ⟨⟨t361, t362, t363⟩, A260, H⟩ := H
     replace H : ((flagstonelaw37_operate.f k1 x21_1 (wrap64 (t354 + (wrap64 ((wrap64 (Int.tdiv (wrap64 (t355 - t354)) 600)) * (wrap64 (a6)))))) (wrap64 (t355 - (wrap64 ((wrap64 (Int.tdiv (wrap64 (t355 - t354)) 600)) * (wrap64 (a7)))))) t356 t357).bind fun bt365 => (if t363 = true then (if bt365.2.2 = true then ((flagstonelaw37_inside.f bt365.1 bt365.2.1 t361 t362).bind fun t369 => (if t369 = true then (flagstonelaw37_IntervalNests.l0 k1 (wrap64 (x21_1 + 1)) t354 t355 t356 t357 (wrap64 (t354 + (wrap64 ((wrap64 (Int.tdiv (wrap64 (t355 - t354)) 600)) * (wrap64 (a6)))))) (wrap64 (t355 - (wrap64 ((wrap64 (Int.tdiv (wrap64 (t355 - t354)) 600)) * (wrap64 (a7))))))) else (some false))) else (some false)) else (flagstonelaw37_IntervalNests.l0 k1 (wrap64 (x21_1 + 1)) t354 t355 t356 t357 (wrap64 (t354 + (wrap64 ((wrap64 (Int.tdiv (wrap64 (t355 - t354)) 600)) * (wrap64 (a6)))))) (wrap64 (t355 - (wrap64 ((wrap64 (Int.tdiv (wrap64 (t355 - t354)) 600)) * (wrap64 (a7))))))))) = some r := H
     have A26 := Aside0.mk A260
     clear A260
     replace H := Option.bind_eq_some_iff.mp H
     obtain ⟨⟨t365, t366, t367⟩, A270, H⟩ := H
     replace H : (if t363 = true then (if t367 = true then ((flagstonelaw37_inside.f t365 t366 t361 t362).bind fun t369 => (if t369 = true then (flagstonelaw37_IntervalNests.l0 k1 (wrap64 (x21_1 + 1)) t354 t355 t356 t357 (wrap64 (t354 + (wrap64 ((wrap64 (Int.tdiv (wrap64 (t355 - t354)) 600)) * (wrap64 (a6)))))) (wrap64 (t355 - (wrap64 ((wrap64 (Int.tdiv (wrap64 (t355 - t354)) 600)) * (wrap64 (a7))))))) else (some false))) else (some false)) else (flagstonelaw37_IntervalNests.l0 k1 (wrap64 (x21_1 + 1)) t354 t355 t356 t357 (wrap64 (t354 + (wrap64 ((wrap64 (Int.tdiv (wrap64 (t355 - t354)) 600)) * (wrap64 (a6)))))) (wrap64 (t355 - (wrap64 ((wrap64 (Int.tdiv (wrap64 (t355 - t354)) 600)) * (wrap64 (a7)))))))) = some r := H
     have A27 := Aside0.mk A270
     clear A270
     by_cases c28 : t363 = true
     ·subst c28
      have H1 : (if t367 = true then ((flagstonelaw37_inside.f t365 t366 t361 t362).bind fun t369 => (if t369 = true then (flagstonelaw37_IntervalNests.l0 k1 (wrap64 (x21_1 + 1)) t354 t355 t356 t357 (wrap64 (t354 + (wrap64 ((wrap64 (Int.tdiv (wrap64 (t355 - t354)) 600)) * (wrap64 (a6)))))) (wrap64 (t355 - (wrap64 ((wrap64 (Int.tdiv (wrap64 (t355 - t354)) 600)) * (wrap64 (a7))))))) else (some false))) else (some false)) = some r := by rw [if_pos rfl] at H; exact H
      clear H
      have H := H1
      clear H1
      by_cases c29 : t367 = true
      ·subst c29
       have H1 : ((flagstonelaw37_inside.f t365 t366 t361 t362).bind fun t369 => (if t369 = true then (flagstonelaw37_IntervalNests.l0 k1 (wrap64 (x21_1 + 1)) t354 t355 t356 t357 (wrap64 (t354 + (wrap64 ((wrap64 (Int.tdiv (wrap64 (t355 - t354)) 600)) * (wrap64 (a6)))))) (wrap64 (t355 - (wrap64 ((wrap64 (Int.tdiv (wrap64 (t355 - t354)) 600)) * (wrap64 (a7))))))) else (some false))) = some r := by rw [if_pos rfl] at H; exact H
       clear H
       have H := H1
       clear H1
       replace H := Option.bind_eq_some_iff.mp H
       obtain ⟨t369, A300, H⟩ := H
       replace H : (if t369 = true then (flagstonelaw37_IntervalNests.l0 k1 (wrap64 (x21_1 + 1)) t354 t355 t356 t357 (wrap64 (t354 + (wrap64 ((wrap64 (Int.tdiv (wrap64 (t355 - t354)) 600)) * (wrap64 (a6)))))) (wrap64 (t355 - (wrap64 ((wrap64 (Int.tdiv (wrap64 (t355 - t354)) 600)) * (wrap64 (a7))))))) else (some false)) = some r := H
       have A30 := Aside0.mk A300
       clear A300
       by_cases c31 : t369 = true
       ·subst c31
        have H1 : (flagstonelaw37_IntervalNests.l0 k1 (wrap64 (x21_1 + 1)) t354 t355 t356 t357 (wrap64 (t354 + (wrap64 ((wrap64 (Int.tdiv (wrap64 (t355 - t354)) 600)) * (wrap64 (a6)))))) (wrap64 (t355 - (wrap64 ((wrap64 (Int.tdiv (wrap64 (t355 - t354)) 600)) * (wrap64 (a7))))))) = some r := by rw [if_pos rfl] at H; exact H
        clear H
        have H := H1
        clear H1
        have H' := Aside0.mk H
        clear H
        have hnb32 := NB358_359.out
        have hnc32 := NB359_358.out
        have hnb33 := NB358_360.out
        have hnc33 := NB360_358.out
        have hcz34_0 : wr.cell? ⟨gb358, 0, none⟩ = some (.int .i64 t354) := (blk_cell BK358.out 0).trans rfl
        have hcz34_1 : wr.cell? ⟨gb358, 1, none⟩ = some (.int .i64 t355) := (blk_cell BK358.out 1).trans rfl
        have hfz34_0 := blk_frozen BK358.out 0
        have hfz34_1 := blk_frozen BK358.out 1
        have hnb35 := NB359_360.out
        have hnc35 := NB360_359.out
        have hcz36_0 : wr.cell? ⟨gb359, 0, none⟩ = some (.int .i64 t356) := (blk_cell BK359.out 0).trans rfl
        have hcz36_1 : wr.cell? ⟨gb359, 1, none⟩ = some (.int .i64 t357) := (blk_cell BK359.out 1).trans rfl
        have hfz36_0 := blk_frozen BK359.out 0
        have hfz36_1 := blk_frozen BK359.out 1
        go_wp2_with (first | ((with_reducible refine gate_callee (f := 8) rfl ?_); refine goesL_ (some 70) rfl rfl Try.func8 (by kernel_rfl) rfl #[.int .i64 x21_1, .agg #[.int .i64 t354, .int .i64 t355], .agg #[.int .i64 t356, .int .i64 t357]] rfl (by (try simp only [List.map_toArray, List.map_cons, List.map_nil]); first | done | rfl | (simp only [List.length_drop, List.length_take]; rfl)) ?_; (with_reducible refine (flagstonelaw37_operate.calls k1 x21_1 t354 t355 t356 t357 t361 t362 true _ A26.out).mono ?_); rintro e w37 ⟨rfl, hb⟩; refine ⟨_, rfl, ?_⟩; have n0_ := Aside0.mk (blk_below (g := gb358) (o := .cells #[.int .i64 t354, .int .i64 t355] 23 (0, 0)) (by (with_reducible repeat (first | refine blk_drewN ?_ _ | refine blk_drew ?_ | refine blk_alloc ?_ _)); exact BK358.out) hb); have n1_ := Aside0.mk (blk_below (g := gb359) (o := .cells #[.int .i64 t356, .int .i64 t357] 23 (0, 0)) (by (with_reducible repeat (first | refine blk_drewN ?_ _ | refine blk_drew ?_ | refine blk_alloc ?_ _)); exact BK359.out) hb); have n2_ := Aside0.mk (blk_below (g := gb360) (o := .cells #[.int .i64 (wrap64 (t354 + (wrap64 ((wrap64 (Int.tdiv (wrap64 (t355 - t354)) 600)) * (wrap64 (a6)))))), .int .i64 (wrap64 (t355 - (wrap64 ((wrap64 (Int.tdiv (wrap64 (t355 - t354)) 600)) * (wrap64 (a7))))))] 23 (0, 0)) (by (with_reducible repeat (first | refine blk_drewN ?_ _ | refine blk_drew ?_ | refine blk_alloc ?_ _)); exact BK360.out) hb); have n3_ := Aside0.mk (below_step (by repeat (first | (with_reducible first | exact HB.out | apply below_alloc | apply pw_below_drewN | apply below_drew1 | refine below_set ?_ GE358.out | refine below_set ?_ GE359.out | refine below_set ?_ GE360.out) | exact HB.out)) hb); clear BK358; clear BK359; clear BK360; clear HB; have BK358 := n0_; have BK359 := n1_; have BK360 := n2_; have HB := n3_; clear n0_ n1_ n2_ n3_; (try clear hb); (try clear hb2); (try clear hk); (try clear hi)) | ((with_reducible refine gate_dst (N := 22) rfl ?_); refine box_event ?hg (N := 22) ?hd (cs := #[.int .i64 0, .int .i64 0]) (t := 23) ?hr ?_; (case hd => rfl); (case hg => rfl); (case hr => first | (go_simp; done) | (go_simp; rfl)); intro gb364 hg w38 hbox hb; have n0_ := Aside0.mk (blk_below (g := gb358) (o := .cells #[.int .i64 t354, .int .i64 t355] 23 (0, 0)) (by (with_reducible repeat (first | refine blk_drewN ?_ _ | refine blk_drew ?_ | refine blk_alloc ?_ _)); exact BK358.out) hb); have n1_ := Aside0.mk (blk_below (g := gb359) (o := .cells #[.int .i64 t356, .int .i64 t357] 23 (0, 0)) (by (with_reducible repeat (first | refine blk_drewN ?_ _ | refine blk_drew ?_ | refine blk_alloc ?_ _)); exact BK359.out) hb); have n2_ := Aside0.mk (blk_below (g := gb360) (o := .cells #[.int .i64 (wrap64 (t354 + (wrap64 ((wrap64 (Int.tdiv (wrap64 (t355 - t354)) 600)) * (wrap64 (a6)))))), .int .i64 (wrap64 (t355 - (wrap64 ((wrap64 (Int.tdiv (wrap64 (t355 - t354)) 600)) * (wrap64 (a7))))))] 23 (0, 0)) (by (with_reducible repeat (first | refine blk_drewN ?_ _ | refine blk_drew ?_ | refine blk_alloc ?_ _)); exact BK360.out) hb); have n3_ := Aside0.mk (below_step (by repeat (first | (with_reducible first | exact HB.out | apply below_alloc | apply pw_below_drewN | apply below_drew1 | refine below_set ?_ GE358.out | refine below_set ?_ GE359.out | refine below_set ?_ GE360.out) | exact HB.out)) hb); have n4_ := Aside0.mk (hbox); have n5_ := Aside0.mk ((by rw [hg]; exact (below_size (by repeat (first | (with_reducible first | exact HB.out | apply below_alloc | apply pw_below_drewN | apply below_drew1 | refine below_set ?_ GE358.out | refine below_set ?_ GE359.out | refine below_set ?_ GE360.out) | exact HB.out))) : w.heap.size ≤ gb364)); have n6_ := Aside0.mk ((by rw [hg]; exact (below_size (by repeat (first | (with_reducible first | exact HB.out | apply below_alloc | apply pw_below_drewN | apply below_drew1 | refine below_set ?_ GE358.out | refine below_set ?_ GE359.out | refine below_set ?_ GE360.out) | exact HB.out))) : w.heap.size ≤ gb364)); have n7_ := Aside0.mk ((by rw [hg]; exact Nat.ne_of_lt (blk_lt (g := gb358) (o := .cells #[.int .i64 t354, .int .i64 t355] 23 (0, 0)) (by (with_reducible repeat (first | refine blk_drewN ?_ _ | refine blk_drew ?_ | refine blk_alloc ?_ _)); exact BK358.out)) : gb358 ≠ gb364)); have n8_ := Aside0.mk ((by rw [hg]; exact Nat.ne_of_gt (blk_lt (g := gb358) (o := .cells #[.int .i64 t354, .int .i64 t355] 23 (0, 0)) (by (with_reducible repeat (first | refine blk_drewN ?_ _ | refine blk_drew ?_ | refine blk_alloc ?_ _)); exact BK358.out)) : gb364 ≠ gb358)); have n9_ := Aside0.mk ((by rw [hg]; exact Nat.ne_of_lt (blk_lt (g := gb359) (o := .cells #[.int .i64 t356, .int .i64 t357] 23 (0, 0)) (by (with_reducible repeat (first | refine blk_drewN ?_ _ | refine blk_drew ?_ | refine blk_alloc ?_ _)); exact BK359.out)) : gb359 ≠ gb364)); have n10_ := Aside0.mk ((by rw [hg]; exact Nat.ne_of_gt (blk_lt (g := gb359) (o := .cells #[.int .i64 t356, .int .i64 t357] 23 (0, 0)) (by (with_reducible repeat (first | refine blk_drewN ?_ _ | refine blk_drew ?_ | refine blk_alloc ?_ _)); exact BK359.out)) : gb364 ≠ gb359)); have n11_ := Aside0.mk ((by rw [hg]; exact Nat.ne_of_lt (blk_lt (g := gb360) (o := .cells #[.int .i64 (wrap64 (t354 + (wrap64 ((wrap64 (Int.tdiv (wrap64 (t355 - t354)) 600)) * (wrap64 (a6)))))), .int .i64 (wrap64 (t355 - (wrap64 ((wrap64 (Int.tdiv (wrap64 (t355 - t354)) 600)) * (wrap64 (a7))))))] 23 (0, 0)) (by (with_reducible repeat (first | refine blk_drewN ?_ _ | refine blk_drew ?_ | refine blk_alloc ?_ _)); exact BK360.out)) : gb360 ≠ gb364)); have n12_ := Aside0.mk ((by rw [hg]; exact Nat.ne_of_gt (blk_lt (g := gb360) (o := .cells #[.int .i64 (wrap64 (t354 + (wrap64 ((wrap64 (Int.tdiv (wrap64 (t355 - t354)) 600)) * (wrap64 (a6)))))), .int .i64 (wrap64 (t355 - (wrap64 ((wrap64 (Int.tdiv (wrap64 (t355 - t354)) 600)) * (wrap64 (a7))))))] 23 (0, 0)) (by (with_reducible repeat (first | refine blk_drewN ?_ _ | refine blk_drew ?_ | refine blk_alloc ?_ _)); exact BK360.out)) : gb364 ≠ gb360)); clear BK358; clear BK359; clear BK360; clear HB; have BK358 := n0_; have BK359 := n1_; have BK360 := n2_; have HB := n3_; have BK364 := n4_; have GW364 := n5_; have GE364 := n6_; have NB358_364 := n7_; have NB364_358 := n8_; have NB359_364 := n9_; have NB364_359 := n10_; have NB360_364 := n11_; have NB364_360 := n12_; clear n0_ n1_ n2_ n3_ n4_ n5_ n6_ n7_ n8_ n9_ n10_ n11_ n12_; clear hb hbox hg; have hnb39 := NB364_358.out; have hnc39 := NB358_364.out; have hnb40 := NB364_359.out; have hnc40 := NB359_364.out; have hnb41 := NB364_360.out; have hnc41 := NB360_364.out; have hcz42_0 : w38.cell? ⟨gb364, 0, none⟩ = some (.int .i64 0) := (blk_cell BK364.out 0).trans rfl; have hcz42_1 : w38.cell? ⟨gb364, 1, none⟩ = some (.int .i64 0) := (blk_cell BK364.out 1).trans rfl; have hfz42_0 := blk_frozen BK364.out 0; have hfz42_1 := blk_frozen BK364.out 1; have hcz43_0 : w38.cell? ⟨gb360, 0, none⟩ = some (.int .i64 (wrap64 (t354 + (wrap64 ((wrap64 (Int.tdiv (wrap64 (t355 - t354)) 600)) * (wrap64 (a6))))))) := (blk_cell BK360.out 0).trans rfl; have hcz43_1 : w38.cell? ⟨gb360, 1, none⟩ = some (.int .i64 (wrap64 (t355 - (wrap64 ((wrap64 (Int.tdiv (wrap64 (t355 - t354)) 600)) * (wrap64 (a7))))))) := (blk_cell BK360.out 1).trans rfl; have hfz43_0 := blk_frozen BK360.out 0; have hfz43_1 := blk_frozen BK360.out 1; have hcz44_0 : w38.cell? ⟨gb359, 0, none⟩ = some (.int .i64 t356) := (blk_cell BK359.out 0).trans rfl; have hcz44_1 : w38.cell? ⟨gb359, 1, none⟩ = some (.int .i64 t357) := (blk_cell BK359.out 1).trans rfl; have hfz44_0 := blk_frozen BK359.out 0; have hfz44_1 := blk_frozen BK359.out 1) | ((with_reducible refine gate_callee (f := 8) rfl ?_); refine goesL_ (some 77) rfl rfl Try.func8 (by kernel_rfl) rfl #[.int .i64 x21_1, .agg #[.int .i64 (wrap64 (t354 + (wrap64 ((wrap64 (Int.tdiv (wrap64 (t355 - t354)) 600)) * (wrap64 (a6)))))), .int .i64 (wrap64 (t355 - (wrap64 ((wrap64 (Int.tdiv (wrap64 (t355 - t354)) 600)) * (wrap64 (a7))))))], .agg #[.int .i64 t356, .int .i64 t357]] rfl (by (try simp only [List.map_toArray, List.map_cons, List.map_nil]); first | done | rfl | (simp only [List.length_drop, List.length_take]; rfl)) ?_; (with_reducible refine (flagstonelaw37_operate.calls k1 x21_1 (wrap64 (t354 + (wrap64 ((wrap64 (Int.tdiv (wrap64 (t355 - t354)) 600)) * (wrap64 (a6)))))) (wrap64 (t355 - (wrap64 ((wrap64 (Int.tdiv (wrap64 (t355 - t354)) 600)) * (wrap64 (a7)))))) t356 t357 t365 t366 true _ A27.out).mono ?_); rintro e w45 ⟨rfl, hb⟩; refine ⟨_, rfl, ?_⟩; have n0_ := Aside0.mk (blk_below (g := gb358) (o := .cells #[.int .i64 t354, .int .i64 t355] 23 (0, 0)) (by (with_reducible repeat (first | refine blk_drewN ?_ _ | refine blk_drew ?_ | refine blk_alloc ?_ _)); refine blk_far ?_ NB358_364.out _; (with_reducible repeat (first | refine blk_drewN ?_ _ | refine blk_drew ?_ | refine blk_alloc ?_ _)); refine blk_far ?_ NB358_364.out _; (with_reducible repeat (first | refine blk_drewN ?_ _ | refine blk_drew ?_ | refine blk_alloc ?_ _)); exact BK358.out) hb); have n1_ := Aside0.mk (blk_below (g := gb359) (o := .cells #[.int .i64 t356, .int .i64 t357] 23 (0, 0)) (by (with_reducible repeat (first | refine blk_drewN ?_ _ | refine blk_drew ?_ | refine blk_alloc ?_ _)); refine blk_far ?_ NB359_364.out _; (with_reducible repeat (first | refine blk_drewN ?_ _ | refine blk_drew ?_ | refine blk_alloc ?_ _)); refine blk_far ?_ NB359_364.out _; (with_reducible repeat (first | refine blk_drewN ?_ _ | refine blk_drew ?_ | refine blk_alloc ?_ _)); exact BK359.out) hb); have n2_ := Aside0.mk (blk_below (g := gb360) (o := .cells #[.int .i64 (wrap64 (t354 + (wrap64 ((wrap64 (Int.tdiv (wrap64 (t355 - t354)) 600)) * (wrap64 (a6)))))), .int .i64 (wrap64 (t355 - (wrap64 ((wrap64 (Int.tdiv (wrap64 (t355 - t354)) 600)) * (wrap64 (a7))))))] 23 (0, 0)) (by (with_reducible repeat (first | refine blk_drewN ?_ _ | refine blk_drew ?_ | refine blk_alloc ?_ _)); refine blk_far ?_ NB360_364.out _; (with_reducible repeat (first | refine blk_drewN ?_ _ | refine blk_drew ?_ | refine blk_alloc ?_ _)); refine blk_far ?_ NB360_364.out _; (with_reducible repeat (first | refine blk_drewN ?_ _ | refine blk_drew ?_ | refine blk_alloc ?_ _)); exact BK360.out) hb); have n3_ := Aside0.mk (blk_below (g := gb364) (o := .cells #[.int .i64 t361, .int .i64 t362] 23 (0, 0)) (by (with_reducible repeat (first | refine blk_drewN ?_ _ | refine blk_drew ?_ | refine blk_alloc ?_ _)); refine blk_put (cs := #[.int .i64 t361, .int .i64 0]) ?_ 1 _ rfl; (with_reducible repeat (first | refine blk_drewN ?_ _ | refine blk_drew ?_ | refine blk_alloc ?_ _)); refine blk_put (cs := #[.int .i64 0, .int .i64 0]) ?_ 0 _ rfl; (with_reducible repeat (first | refine blk_drewN ?_ _ | refine blk_drew ?_ | refine blk_alloc ?_ _)); exact BK364.out) hb); have n4_ := Aside0.mk (below_step (by repeat (first | (with_reducible first | exact HB.out | apply below_alloc | apply pw_below_drewN | apply below_drew1 | refine below_set ?_ GE358.out | refine below_set ?_ GE359.out | refine below_set ?_ GE360.out | refine below_set ?_ GE364.out) | exact HB.out)) hb); clear BK358; clear BK359; clear BK360; clear BK364; clear HB; have BK358 := n0_; have BK359 := n1_; have BK360 := n2_; have BK364 := n3_; have HB := n4_; clear n0_ n1_ n2_ n3_ n4_; (try clear hb); (try clear hb2); (try clear hk); (try clear hi)) | ((with_reducible refine gate_dst (N := 24) rfl ?_); refine box_event ?hg (N := 24) ?hd (cs := #[.int .i64 0, .int .i64 0]) (t := 23) ?hr ?_; (case hd => rfl); (case hg => rfl); (case hr => first | (go_simp; done) | (go_simp; rfl)); intro gb368 hg w46 hbox hb; have n0_ := Aside0.mk (blk_below (g := gb358) (o := .cells #[.int .i64 t354, .int .i64 t355] 23 (0, 0)) (by (with_reducible repeat (first | refine blk_drewN ?_ _ | refine blk_drew ?_ | refine blk_alloc ?_ _)); exact BK358.out) hb); have n1_ := Aside0.mk (blk_below (g := gb359) (o := .cells #[.int .i64 t356, .int .i64 t357] 23 (0, 0)) (by (with_reducible repeat (first | refine blk_drewN ?_ _ | refine blk_drew ?_ | refine blk_alloc ?_ _)); exact BK359.out) hb); have n2_ := Aside0.mk (blk_below (g := gb360) (o := .cells #[.int .i64 (wrap64 (t354 + (wrap64 ((wrap64 (Int.tdiv (wrap64 (t355 - t354)) 600)) * (wrap64 (a6)))))), .int .i64 (wrap64 (t355 - (wrap64 ((wrap64 (Int.tdiv (wrap64 (t355 - t354)) 600)) * (wrap64 (a7))))))] 23 (0, 0)) (by (with_reducible repeat (first | refine blk_drewN ?_ _ | refine blk_drew ?_ | refine blk_alloc ?_ _)); exact BK360.out) hb); have n3_ := Aside0.mk (blk_below (g := gb364) (o := .cells #[.int .i64 t361, .int .i64 t362] 23 (0, 0)) (by (with_reducible repeat (first | refine blk_drewN ?_ _ | refine blk_drew ?_ | refine blk_alloc ?_ _)); exact BK364.out) hb); have n4_ := Aside0.mk (below_step (by repeat (first | (with_reducible first | exact HB.out | apply below_alloc | apply pw_below_drewN | apply below_drew1 | refine below_set ?_ GE358.out | refine below_set ?_ GE359.out | refine below_set ?_ GE360.out | refine below_set ?_ GE364.out) | exact HB.out)) hb); have n5_ := Aside0.mk (hbox); have n6_ := Aside0.mk ((by rw [hg]; exact (below_size (by repeat (first | (with_reducible first | exact HB.out | apply below_alloc | apply pw_below_drewN | apply below_drew1 | refine below_set ?_ GE358.out | refine below_set ?_ GE359.out | refine below_set ?_ GE360.out | refine below_set ?_ GE364.out) | exact HB.out))) : w.heap.size ≤ gb368)); have n7_ := Aside0.mk ((by rw [hg]; exact (below_size (by repeat (first | (with_reducible first | exact HB.out | apply below_alloc | apply pw_below_drewN | apply below_drew1 | refine below_set ?_ GE358.out | refine below_set ?_ GE359.out | refine below_set ?_ GE360.out | refine below_set ?_ GE364.out) | exact HB.out))) : w.heap.size ≤ gb368)); have n8_ := Aside0.mk ((by rw [hg]; exact Nat.ne_of_lt (blk_lt (g := gb358) (o := .cells #[.int .i64 t354, .int .i64 t355] 23 (0, 0)) (by (with_reducible repeat (first | refine blk_drewN ?_ _ | refine blk_drew ?_ | refine blk_alloc ?_ _)); exact BK358.out)) : gb358 ≠ gb368)); have n9_ := Aside0.mk ((by rw [hg]; exact Nat.ne_of_gt (blk_lt (g := gb358) (o := .cells #[.int .i64 t354, .int .i64 t355] 23 (0, 0)) (by (with_reducible repeat (first | refine blk_drewN ?_ _ | refine blk_drew ?_ | refine blk_alloc ?_ _)); exact BK358.out)) : gb368 ≠ gb358)); have n10_ := Aside0.mk ((by rw [hg]; exact Nat.ne_of_lt (blk_lt (g := gb359) (o := .cells #[.int .i64 t356, .int .i64 t357] 23 (0, 0)) (by (with_reducible repeat (first | refine blk_drewN ?_ _ | refine blk_drew ?_ | refine blk_alloc ?_ _)); exact BK359.out)) : gb359 ≠ gb368)); have n11_ := Aside0.mk ((by rw [hg]; exact Nat.ne_of_gt (blk_lt (g := gb359) (o := .cells #[.int .i64 t356, .int .i64 t357] 23 (0, 0)) (by (with_reducible repeat (first | refine blk_drewN ?_ _ | refine blk_drew ?_ | refine blk_alloc ?_ _)); exact BK359.out)) : gb368 ≠ gb359)); have n12_ := Aside0.mk ((by rw [hg]; exact Nat.ne_of_lt (blk_lt (g := gb360) (o := .cells #[.int .i64 (wrap64 (t354 + (wrap64 ((wrap64 (Int.tdiv (wrap64 (t355 - t354)) 600)) * (wrap64 (a6)))))), .int .i64 (wrap64 (t355 - (wrap64 ((wrap64 (Int.tdiv (wrap64 (t355 - t354)) 600)) * (wrap64 (a7))))))] 23 (0, 0)) (by (with_reducible repeat (first | refine blk_drewN ?_ _ | refine blk_drew ?_ | refine blk_alloc ?_ _)); exact BK360.out)) : gb360 ≠ gb368)); have n13_ := Aside0.mk ((by rw [hg]; exact Nat.ne_of_gt (blk_lt (g := gb360) (o := .cells #[.int .i64 (wrap64 (t354 + (wrap64 ((wrap64 (Int.tdiv (wrap64 (t355 - t354)) 600)) * (wrap64 (a6)))))), .int .i64 (wrap64 (t355 - (wrap64 ((wrap64 (Int.tdiv (wrap64 (t355 - t354)) 600)) * (wrap64 (a7))))))] 23 (0, 0)) (by (with_reducible repeat (first | refine blk_drewN ?_ _ | refine blk_drew ?_ | refine blk_alloc ?_ _)); exact BK360.out)) : gb368 ≠ gb360)); have n14_ := Aside0.mk ((by rw [hg]; exact Nat.ne_of_lt (blk_lt (g := gb364) (o := .cells #[.int .i64 t361, .int .i64 t362] 23 (0, 0)) (by (with_reducible repeat (first | refine blk_drewN ?_ _ | refine blk_drew ?_ | refine blk_alloc ?_ _)); exact BK364.out)) : gb364 ≠ gb368)); have n15_ := Aside0.mk ((by rw [hg]; exact Nat.ne_of_gt (blk_lt (g := gb364) (o := .cells #[.int .i64 t361, .int .i64 t362] 23 (0, 0)) (by (with_reducible repeat (first | refine blk_drewN ?_ _ | refine blk_drew ?_ | refine blk_alloc ?_ _)); exact BK364.out)) : gb368 ≠ gb364)); clear BK358; clear BK359; clear BK360; clear BK364; clear HB; have BK358 := n0_; have BK359 := n1_; have BK360 := n2_; have BK364 := n3_; have HB := n4_; have BK368 := n5_; have GW368 := n6_; have GE368 := n7_; have NB358_368 := n8_; have NB368_358 := n9_; have NB359_368 := n10_; have NB368_359 := n11_; have NB360_368 := n12_; have NB368_360 := n13_; have NB364_368 := n14_; have NB368_364 := n15_; clear n0_ n1_ n2_ n3_ n4_ n5_ n6_ n7_ n8_ n9_ n10_ n11_ n12_ n13_ n14_ n15_; clear hb hbox hg; have hnb47 := NB368_358.out; have hnc47 := NB358_368.out; have hnb48 := NB368_359.out; have hnc48 := NB359_368.out; have hnb49 := NB368_360.out; have hnc49 := NB360_368.out; have hnb50 := NB368_364.out; have hnc50 := NB364_368.out; have hcz51_0 : w46.cell? ⟨gb368, 0, none⟩ = some (.int .i64 0) := (blk_cell BK368.out 0).trans rfl; have hcz51_1 : w46.cell? ⟨gb368, 1, none⟩ = some (.int .i64 0) := (blk_cell BK368.out 1).trans rfl; have hfz51_0 := blk_frozen BK368.out 0; have hfz51_1 := blk_frozen BK368.out 1; have hcz52_0 : w46.cell? ⟨gb364, 0, none⟩ = some (.int .i64 t361) := (blk_cell BK364.out 0).trans rfl; have hcz52_1 : w46.cell? ⟨gb364, 1, none⟩ = some (.int .i64 t362) := (blk_cell BK364.out 1).trans rfl; have hfz52_0 := blk_frozen BK364.out 0; have hfz52_1 := blk_frozen BK364.out 1) | (go_at_call 9; (with_reducible refine (flagstonelaw37_inside.calls t365 t366 t361 t362 true _ A30.out).mono ?_); rintro e w53 ⟨rfl, hb⟩; have n0_ := Aside0.mk (blk_below (g := gb358) (o := .cells #[.int .i64 t354, .int .i64 t355] 23 (0, 0)) (by (with_reducible repeat (first | refine blk_drewN ?_ _ | refine blk_drew ?_ | refine blk_alloc ?_ _)); refine blk_far ?_ NB358_368.out _; (with_reducible repeat (first | refine blk_drewN ?_ _ | refine blk_drew ?_ | refine blk_alloc ?_ _)); refine blk_far ?_ NB358_368.out _; (with_reducible repeat (first | refine blk_drewN ?_ _ | refine blk_drew ?_ | refine blk_alloc ?_ _)); exact BK358.out) hb); have n1_ := Aside0.mk (blk_below (g := gb359) (o := .cells #[.int .i64 t356, .int .i64 t357] 23 (0, 0)) (by (with_reducible repeat (first | refine blk_drewN ?_ _ | refine blk_drew ?_ | refine blk_alloc ?_ _)); refine blk_far ?_ NB359_368.out _; (with_reducible repeat (first | refine blk_drewN ?_ _ | refine blk_drew ?_ | refine blk_alloc ?_ _)); refine blk_far ?_ NB359_368.out _; (with_reducible repeat (first | refine blk_drewN ?_ _ | refine blk_drew ?_ | refine blk_alloc ?_ _)); exact BK359.out) hb); have n2_ := Aside0.mk (blk_below (g := gb360) (o := .cells #[.int .i64 (wrap64 (t354 + (wrap64 ((wrap64 (Int.tdiv (wrap64 (t355 - t354)) 600)) * (wrap64 (a6)))))), .int .i64 (wrap64 (t355 - (wrap64 ((wrap64 (Int.tdiv (wrap64 (t355 - t354)) 600)) * (wrap64 (a7))))))] 23 (0, 0)) (by (with_reducible repeat (first | refine blk_drewN ?_ _ | refine blk_drew ?_ | refine blk_alloc ?_ _)); refine blk_far ?_ NB360_368.out _; (with_reducible repeat (first | refine blk_drewN ?_ _ | refine blk_drew ?_ | refine blk_alloc ?_ _)); refine blk_far ?_ NB360_368.out _; (with_reducible repeat (first | refine blk_drewN ?_ _ | refine blk_drew ?_ | refine blk_alloc ?_ _)); exact BK360.out) hb); have n3_ := Aside0.mk (blk_below (g := gb364) (o := .cells #[.int .i64 t361, .int .i64 t362] 23 (0, 0)) (by (with_reducible repeat (first | refine blk_drewN ?_ _ | refine blk_drew ?_ | refine blk_alloc ?_ _)); refine blk_far ?_ NB364_368.out _; (with_reducible repeat (first | refine blk_drewN ?_ _ | refine blk_drew ?_ | refine blk_alloc ?_ _)); refine blk_far ?_ NB364_368.out _; (with_reducible repeat (first | refine blk_drewN ?_ _ | refine blk_drew ?_ | refine blk_alloc ?_ _)); exact BK364.out) hb); have n4_ := Aside0.mk (blk_below (g := gb368) (o := .cells #[.int .i64 t365, .int .i64 t366] 23 (0, 0)) (by (with_reducible repeat (first | refine blk_drewN ?_ _ | refine blk_drew ?_ | refine blk_alloc ?_ _)); refine blk_put (cs := #[.int .i64 t365, .int .i64 0]) ?_ 1 _ rfl; (with_reducible repeat (first | refine blk_drewN ?_ _ | refine blk_drew ?_ | refine blk_alloc ?_ _)); refine blk_put (cs := #[.int .i64 0, .int .i64 0]) ?_ 0 _ rfl; (with_reducible repeat (first | refine blk_drewN ?_ _ | refine blk_drew ?_ | refine blk_alloc ?_ _)); exact BK368.out) hb); have n5_ := Aside0.mk (below_step (by repeat (first | (with_reducible first | exact HB.out | apply below_alloc | apply pw_below_drewN | apply below_drew1 | refine below_set ?_ GE358.out | refine below_set ?_ GE359.out | refine below_set ?_ GE360.out | refine below_set ?_ GE364.out | refine below_set ?_ GE368.out) | exact HB.out)) hb); clear BK358; clear BK359; clear BK360; clear BK364; clear BK368; clear HB; have BK358 := n0_; have BK359 := n1_; have BK360 := n2_; have BK364 := n3_; have BK368 := n4_; have HB := n5_; clear n0_ n1_ n2_ n3_ n4_ n5_; (try clear hb); (try clear hb2); (try clear hk); (try clear hi)))
        go_roundg k1
        case measure => have := HK1.out; omega
        case rel => exact ⟨(wrap64 (x21_1 + 1)), (by first | rfl | (simp; done) | (simp [*]; done)), H', ⟨by have := HK1.out; omega⟩, ⟨by (with_reducible repeat (first | refine blk_drewN ?_ _ | refine blk_drew ?_ | refine blk_alloc ?_ _)); exact BK358.out⟩, ⟨by (with_reducible repeat (first | refine blk_drewN ?_ _ | refine blk_drew ?_ | refine blk_alloc ?_ _)); exact BK359.out⟩, ⟨by (with_reducible repeat (first | refine blk_drewN ?_ _ | refine blk_drew ?_ | refine blk_alloc ?_ _)); exact BK360.out⟩, ⟨by repeat (first | (with_reducible first | exact HB.out | apply below_alloc | apply pw_below_drewN | apply below_drew1 | refine below_set ?_ GE358.out | refine below_set ?_ GE359.out | refine below_set ?_ GE360.out | refine below_set ?_ GE364.out | refine below_set ?_ GE368.out) | exact HB.out)⟩⟩
       ·replace c31 := Bool.eq_false_iff.mpr c31
        subst c31
        have H1 : (some false) = some r := by rw [if_neg (show ¬ (false = true) by decide)] at H; exact H
        clear H
        have H := H1
        clear H1
        obtain rfl := Option.some.inj H
        have hnb54 := NB358_359.out
        have hnc54 := NB359_358.out
        have hnb55 := NB358_360.out
        have hnc55 := NB360_358.out
        have hcz56_0 : wr.cell? ⟨gb358, 0, none⟩ = some (.int .i64 t354) := (blk_cell BK358.out 0).trans rfl
        have hcz56_1 : wr.cell? ⟨gb358, 1, none⟩ = some (.int .i64 t355) := (blk_cell BK358.out 1).trans rfl
        have hfz56_0 := blk_frozen BK358.out 0
        have hfz56_1 := blk_frozen BK358.out 1
        have hnb57 := NB359_360.out
        have hnc57 := NB360_359.out
        have hcz58_0 : wr.cell? ⟨gb359, 0, none⟩ = some (.int .i64 t356) := (blk_cell BK359.out 0).trans rfl
        have hcz58_1 : wr.cell? ⟨gb359, 1, none⟩ = some (.int .i64 t357) := (blk_cell BK359.out 1).trans rfl
        have hfz58_0 := blk_frozen BK359.out 0
        have hfz58_1 := blk_frozen BK359.out 1
        go_wp2_with (first | ((with_reducible refine gate_callee (f := 8) rfl ?_); refine goesL_ (some 70) rfl rfl Try.func8 (by kernel_rfl) rfl #[.int .i64 x21_1, .agg #[.int .i64 t354, .int .i64 t355], .agg #[.int .i64 t356, .int .i64 t357]] rfl (by (try simp only [List.map_toArray, List.map_cons, List.map_nil]); first | done | rfl | (simp only [List.length_drop, List.length_take]; rfl)) ?_; (with_reducible refine (flagstonelaw37_operate.calls k1 x21_1 t354 t355 t356 t357 t361 t362 true _ A26.out).mono ?_); rintro e w59 ⟨rfl, hb⟩; refine ⟨_, rfl, ?_⟩; have n0_ := Aside0.mk (blk_below (g := gb358) (o := .cells #[.int .i64 t354, .int .i64 t355] 23 (0, 0)) (by (with_reducible repeat (first | refine blk_drewN ?_ _ | refine blk_drew ?_ | refine blk_alloc ?_ _)); exact BK358.out) hb); have n1_ := Aside0.mk (blk_below (g := gb359) (o := .cells #[.int .i64 t356, .int .i64 t357] 23 (0, 0)) (by (with_reducible repeat (first | refine blk_drewN ?_ _ | refine blk_drew ?_ | refine blk_alloc ?_ _)); exact BK359.out) hb); have n2_ := Aside0.mk (blk_below (g := gb360) (o := .cells #[.int .i64 (wrap64 (t354 + (wrap64 ((wrap64 (Int.tdiv (wrap64 (t355 - t354)) 600)) * (wrap64 (a6)))))), .int .i64 (wrap64 (t355 - (wrap64 ((wrap64 (Int.tdiv (wrap64 (t355 - t354)) 600)) * (wrap64 (a7))))))] 23 (0, 0)) (by (with_reducible repeat (first | refine blk_drewN ?_ _ | refine blk_drew ?_ | refine blk_alloc ?_ _)); exact BK360.out) hb); have n3_ := Aside0.mk (below_step (by repeat (first | (with_reducible first | exact HB.out | apply below_alloc | apply pw_below_drewN | apply below_drew1 | refine below_set ?_ GE358.out | refine below_set ?_ GE359.out | refine below_set ?_ GE360.out) | exact HB.out)) hb); clear BK358; clear BK359; clear BK360; clear HB; have BK358 := n0_; have BK359 := n1_; have BK360 := n2_; have HB := n3_; clear n0_ n1_ n2_ n3_; (try clear hb); (try clear hb2); (try clear hk); (try clear hi)) | ((with_reducible refine gate_dst (N := 22) rfl ?_); refine box_event ?hg (N := 22) ?hd (cs := #[.int .i64 0, .int .i64 0]) (t := 23) ?hr ?_; (case hd => rfl); (case hg => rfl); (case hr => first | (go_simp; done) | (go_simp; rfl)); intro gb364 hg w60 hbox hb; have n0_ := Aside0.mk (blk_below (g := gb358) (o := .cells #[.int .i64 t354, .int .i64 t355] 23 (0, 0)) (by (with_reducible repeat (first | refine blk_drewN ?_ _ | refine blk_drew ?_ | refine blk_alloc ?_ _)); exact BK358.out) hb); have n1_ := Aside0.mk (blk_below (g := gb359) (o := .cells #[.int .i64 t356, .int .i64 t357] 23 (0, 0)) (by (with_reducible repeat (first | refine blk_drewN ?_ _ | refine blk_drew ?_ | refine blk_alloc ?_ _)); exact BK359.out) hb); have n2_ := Aside0.mk (blk_below (g := gb360) (o := .cells #[.int .i64 (wrap64 (t354 + (wrap64 ((wrap64 (Int.tdiv (wrap64 (t355 - t354)) 600)) * (wrap64 (a6)))))), .int .i64 (wrap64 (t355 - (wrap64 ((wrap64 (Int.tdiv (wrap64 (t355 - t354)) 600)) * (wrap64 (a7))))))] 23 (0, 0)) (by (with_reducible repeat (first | refine blk_drewN ?_ _ | refine blk_drew ?_ | refine blk_alloc ?_ _)); exact BK360.out) hb); have n3_ := Aside0.mk (below_step (by repeat (first | (with_reducible first | exact HB.out | apply below_alloc | apply pw_below_drewN | apply below_drew1 | refine below_set ?_ GE358.out | refine below_set ?_ GE359.out | refine below_set ?_ GE360.out) | exact HB.out)) hb); have n4_ := Aside0.mk (hbox); have n5_ := Aside0.mk ((by rw [hg]; exact (below_size (by repeat (first | (with_reducible first | exact HB.out | apply below_alloc | apply pw_below_drewN | apply below_drew1 | refine below_set ?_ GE358.out | refine below_set ?_ GE359.out | refine below_set ?_ GE360.out) | exact HB.out))) : w.heap.size ≤ gb364)); have n6_ := Aside0.mk ((by rw [hg]; exact (below_size (by repeat (first | (with_reducible first | exact HB.out | apply below_alloc | apply pw_below_drewN | apply below_drew1 | refine below_set ?_ GE358.out | refine below_set ?_ GE359.out | refine below_set ?_ GE360.out) | exact HB.out))) : w.heap.size ≤ gb364)); have n7_ := Aside0.mk ((by rw [hg]; exact Nat.ne_of_lt (blk_lt (g := gb358) (o := .cells #[.int .i64 t354, .int .i64 t355] 23 (0, 0)) (by (with_reducible repeat (first | refine blk_drewN ?_ _ | refine blk_drew ?_ | refine blk_alloc ?_ _)); exact BK358.out)) : gb358 ≠ gb364)); have n8_ := Aside0.mk ((by rw [hg]; exact Nat.ne_of_gt (blk_lt (g := gb358) (o := .cells #[.int .i64 t354, .int .i64 t355] 23 (0, 0)) (by (with_reducible repeat (first | refine blk_drewN ?_ _ | refine blk_drew ?_ | refine blk_alloc ?_ _)); exact BK358.out)) : gb364 ≠ gb358)); have n9_ := Aside0.mk ((by rw [hg]; exact Nat.ne_of_lt (blk_lt (g := gb359) (o := .cells #[.int .i64 t356, .int .i64 t357] 23 (0, 0)) (by (with_reducible repeat (first | refine blk_drewN ?_ _ | refine blk_drew ?_ | refine blk_alloc ?_ _)); exact BK359.out)) : gb359 ≠ gb364)); have n10_ := Aside0.mk ((by rw [hg]; exact Nat.ne_of_gt (blk_lt (g := gb359) (o := .cells #[.int .i64 t356, .int .i64 t357] 23 (0, 0)) (by (with_reducible repeat (first | refine blk_drewN ?_ _ | refine blk_drew ?_ | refine blk_alloc ?_ _)); exact BK359.out)) : gb364 ≠ gb359)); have n11_ := Aside0.mk ((by rw [hg]; exact Nat.ne_of_lt (blk_lt (g := gb360) (o := .cells #[.int .i64 (wrap64 (t354 + (wrap64 ((wrap64 (Int.tdiv (wrap64 (t355 - t354)) 600)) * (wrap64 (a6)))))), .int .i64 (wrap64 (t355 - (wrap64 ((wrap64 (Int.tdiv (wrap64 (t355 - t354)) 600)) * (wrap64 (a7))))))] 23 (0, 0)) (by (with_reducible repeat (first | refine blk_drewN ?_ _ | refine blk_drew ?_ | refine blk_alloc ?_ _)); exact BK360.out)) : gb360 ≠ gb364)); have n12_ := Aside0.mk ((by rw [hg]; exact Nat.ne_of_gt (blk_lt (g := gb360) (o := .cells #[.int .i64 (wrap64 (t354 + (wrap64 ((wrap64 (Int.tdiv (wrap64 (t355 - t354)) 600)) * (wrap64 (a6)))))), .int .i64 (wrap64 (t355 - (wrap64 ((wrap64 (Int.tdiv (wrap64 (t355 - t354)) 600)) * (wrap64 (a7))))))] 23 (0, 0)) (by (with_reducible repeat (first | refine blk_drewN ?_ _ | refine blk_drew ?_ | refine blk_alloc ?_ _)); exact BK360.out)) : gb364 ≠ gb360)); clear BK358; clear BK359; clear BK360; clear HB; have BK358 := n0_; have BK359 := n1_; have BK360 := n2_; have HB := n3_; have BK364 := n4_; have GW364 := n5_; have GE364 := n6_; have NB358_364 := n7_; have NB364_358 := n8_; have NB359_364 := n9_; have NB364_359 := n10_; have NB360_364 := n11_; have NB364_360 := n12_; clear n0_ n1_ n2_ n3_ n4_ n5_ n6_ n7_ n8_ n9_ n10_ n11_ n12_; clear hb hbox hg; have hnb61 := NB364_358.out; have hnc61 := NB358_364.out; have hnb62 := NB364_359.out; have hnc62 := NB359_364.out; have hnb63 := NB364_360.out; have hnc63 := NB360_364.out; have hcz64_0 : w60.cell? ⟨gb364, 0, none⟩ = some (.int .i64 0) := (blk_cell BK364.out 0).trans rfl; have hcz64_1 : w60.cell? ⟨gb364, 1, none⟩ = some (.int .i64 0) := (blk_cell BK364.out 1).trans rfl; have hfz64_0 := blk_frozen BK364.out 0; have hfz64_1 := blk_frozen BK364.out 1; have hcz65_0 : w60.cell? ⟨gb360, 0, none⟩ = some (.int .i64 (wrap64 (t354 + (wrap64 ((wrap64 (Int.tdiv (wrap64 (t355 - t354)) 600)) * (wrap64 (a6))))))) := (blk_cell BK360.out 0).trans rfl; have hcz65_1 : w60.cell? ⟨gb360, 1, none⟩ = some (.int .i64 (wrap64 (t355 - (wrap64 ((wrap64 (Int.tdiv (wrap64 (t355 - t354)) 600)) * (wrap64 (a7))))))) := (blk_cell BK360.out 1).trans rfl; have hfz65_0 := blk_frozen BK360.out 0; have hfz65_1 := blk_frozen BK360.out 1; have hcz66_0 : w60.cell? ⟨gb359, 0, none⟩ = some (.int .i64 t356) := (blk_cell BK359.out 0).trans rfl; have hcz66_1 : w60.cell? ⟨gb359, 1, none⟩ = some (.int .i64 t357) := (blk_cell BK359.out 1).trans rfl; have hfz66_0 := blk_frozen BK359.out 0; have hfz66_1 := blk_frozen BK359.out 1) | ((with_reducible refine gate_callee (f := 8) rfl ?_); refine goesL_ (some 77) rfl rfl Try.func8 (by kernel_rfl) rfl #[.int .i64 x21_1, .agg #[.int .i64 (wrap64 (t354 + (wrap64 ((wrap64 (Int.tdiv (wrap64 (t355 - t354)) 600)) * (wrap64 (a6)))))), .int .i64 (wrap64 (t355 - (wrap64 ((wrap64 (Int.tdiv (wrap64 (t355 - t354)) 600)) * (wrap64 (a7))))))], .agg #[.int .i64 t356, .int .i64 t357]] rfl (by (try simp only [List.map_toArray, List.map_cons, List.map_nil]); first | done | rfl | (simp only [List.length_drop, List.length_take]; rfl)) ?_; (with_reducible refine (flagstonelaw37_operate.calls k1 x21_1 (wrap64 (t354 + (wrap64 ((wrap64 (Int.tdiv (wrap64 (t355 - t354)) 600)) * (wrap64 (a6)))))) (wrap64 (t355 - (wrap64 ((wrap64 (Int.tdiv (wrap64 (t355 - t354)) 600)) * (wrap64 (a7)))))) t356 t357 t365 t366 true _ A27.out).mono ?_); rintro e w67 ⟨rfl, hb⟩; refine ⟨_, rfl, ?_⟩; have n0_ := Aside0.mk (blk_below (g := gb358) (o := .cells #[.int .i64 t354, .int .i64 t355] 23 (0, 0)) (by (with_reducible repeat (first | refine blk_drewN ?_ _ | refine blk_drew ?_ | refine blk_alloc ?_ _)); refine blk_far ?_ NB358_364.out _; (with_reducible repeat (first | refine blk_drewN ?_ _ | refine blk_drew ?_ | refine blk_alloc ?_ _)); refine blk_far ?_ NB358_364.out _; (with_reducible repeat (first | refine blk_drewN ?_ _ | refine blk_drew ?_ | refine blk_alloc ?_ _)); exact BK358.out) hb); have n1_ := Aside0.mk (blk_below (g := gb359) (o := .cells #[.int .i64 t356, .int .i64 t357] 23 (0, 0)) (by (with_reducible repeat (first | refine blk_drewN ?_ _ | refine blk_drew ?_ | refine blk_alloc ?_ _)); refine blk_far ?_ NB359_364.out _; (with_reducible repeat (first | refine blk_drewN ?_ _ | refine blk_drew ?_ | refine blk_alloc ?_ _)); refine blk_far ?_ NB359_364.out _; (with_reducible repeat (first | refine blk_drewN ?_ _ | refine blk_drew ?_ | refine blk_alloc ?_ _)); exact BK359.out) hb); have n2_ := Aside0.mk (blk_below (g := gb360) (o := .cells #[.int .i64 (wrap64 (t354 + (wrap64 ((wrap64 (Int.tdiv (wrap64 (t355 - t354)) 600)) * (wrap64 (a6)))))), .int .i64 (wrap64 (t355 - (wrap64 ((wrap64 (Int.tdiv (wrap64 (t355 - t354)) 600)) * (wrap64 (a7))))))] 23 (0, 0)) (by (with_reducible repeat (first | refine blk_drewN ?_ _ | refine blk_drew ?_ | refine blk_alloc ?_ _)); refine blk_far ?_ NB360_364.out _; (with_reducible repeat (first | refine blk_drewN ?_ _ | refine blk_drew ?_ | refine blk_alloc ?_ _)); refine blk_far ?_ NB360_364.out _; (with_reducible repeat (first | refine blk_drewN ?_ _ | refine blk_drew ?_ | refine blk_alloc ?_ _)); exact BK360.out) hb); have n3_ := Aside0.mk (blk_below (g := gb364) (o := .cells #[.int .i64 t361, .int .i64 t362] 23 (0, 0)) (by (with_reducible repeat (first | refine blk_drewN ?_ _ | refine blk_drew ?_ | refine blk_alloc ?_ _)); refine blk_put (cs := #[.int .i64 t361, .int .i64 0]) ?_ 1 _ rfl; (with_reducible repeat (first | refine blk_drewN ?_ _ | refine blk_drew ?_ | refine blk_alloc ?_ _)); refine blk_put (cs := #[.int .i64 0, .int .i64 0]) ?_ 0 _ rfl; (with_reducible repeat (first | refine blk_drewN ?_ _ | refine blk_drew ?_ | refine blk_alloc ?_ _)); exact BK364.out) hb); have n4_ := Aside0.mk (below_step (by repeat (first | (with_reducible first | exact HB.out | apply below_alloc | apply pw_below_drewN | apply below_drew1 | refine below_set ?_ GE358.out | refine below_set ?_ GE359.out | refine below_set ?_ GE360.out | refine below_set ?_ GE364.out) | exact HB.out)) hb); clear BK358; clear BK359; clear BK360; clear BK364; clear HB; have BK358 := n0_; have BK359 := n1_; have BK360 := n2_; have BK364 := n3_; have HB := n4_; clear n0_ n1_ n2_ n3_ n4_; (try clear hb); (try clear hb2); (try clear hk); (try clear hi)) | ((with_reducible refine gate_dst (N := 24) rfl ?_); refine box_event ?hg (N := 24) ?hd (cs := #[.int .i64 0, .int .i64 0]) (t := 23) ?hr ?_; (case hd => rfl); (case hg => rfl); (case hr => first | (go_simp; done) | (go_simp; rfl)); intro gb368 hg w68 hbox hb; have n0_ := Aside0.mk (blk_below (g := gb358) (o := .cells #[.int .i64 t354, .int .i64 t355] 23 (0, 0)) (by (with_reducible repeat (first | refine blk_drewN ?_ _ | refine blk_drew ?_ | refine blk_alloc ?_ _)); exact BK358.out) hb); have n1_ := Aside0.mk (blk_below (g := gb359) (o := .cells #[.int .i64 t356, .int .i64 t357] 23 (0, 0)) (by (with_reducible repeat (first | refine blk_drewN ?_ _ | refine blk_drew ?_ | refine blk_alloc ?_ _)); exact BK359.out) hb); have n2_ := Aside0.mk (blk_below (g := gb360) (o := .cells #[.int .i64 (wrap64 (t354 + (wrap64 ((wrap64 (Int.tdiv (wrap64 (t355 - t354)) 600)) * (wrap64 (a6)))))), .int .i64 (wrap64 (t355 - (wrap64 ((wrap64 (Int.tdiv (wrap64 (t355 - t354)) 600)) * (wrap64 (a7))))))] 23 (0, 0)) (by (with_reducible repeat (first | refine blk_drewN ?_ _ | refine blk_drew ?_ | refine blk_alloc ?_ _)); exact BK360.out) hb); have n3_ := Aside0.mk (blk_below (g := gb364) (o := .cells #[.int .i64 t361, .int .i64 t362] 23 (0, 0)) (by (with_reducible repeat (first | refine blk_drewN ?_ _ | refine blk_drew ?_ | refine blk_alloc ?_ _)); exact BK364.out) hb); have n4_ := Aside0.mk (below_step (by repeat (first | (with_reducible first | exact HB.out | apply below_alloc | apply pw_below_drewN | apply below_drew1 | refine below_set ?_ GE358.out | refine below_set ?_ GE359.out | refine below_set ?_ GE360.out | refine below_set ?_ GE364.out) | exact HB.out)) hb); have n5_ := Aside0.mk (hbox); have n6_ := Aside0.mk ((by rw [hg]; exact (below_size (by repeat (first | (with_reducible first | exact HB.out | apply below_alloc | apply pw_below_drewN | apply below_drew1 | refine below_set ?_ GE358.out | refine below_set ?_ GE359.out | refine below_set ?_ GE360.out | refine below_set ?_ GE364.out) | exact HB.out))) : w.heap.size ≤ gb368)); have n7_ := Aside0.mk ((by rw [hg]; exact (below_size (by repeat (first | (with_reducible first | exact HB.out | apply below_alloc | apply pw_below_drewN | apply below_drew1 | refine below_set ?_ GE358.out | refine below_set ?_ GE359.out | refine below_set ?_ GE360.out | refine below_set ?_ GE364.out) | exact HB.out))) : w.heap.size ≤ gb368)); have n8_ := Aside0.mk ((by rw [hg]; exact Nat.ne_of_lt (blk_lt (g := gb358) (o := .cells #[.int .i64 t354, .int .i64 t355] 23 (0, 0)) (by (with_reducible repeat (first | refine blk_drewN ?_ _ | refine blk_drew ?_ | refine blk_alloc ?_ _)); exact BK358.out)) : gb358 ≠ gb368)); have n9_ := Aside0.mk ((by rw [hg]; exact Nat.ne_of_gt (blk_lt (g := gb358) (o := .cells #[.int .i64 t354, .int .i64 t355] 23 (0, 0)) (by (with_reducible repeat (first | refine blk_drewN ?_ _ | refine blk_drew ?_ | refine blk_alloc ?_ _)); exact BK358.out)) : gb368 ≠ gb358)); have n10_ := Aside0.mk ((by rw [hg]; exact Nat.ne_of_lt (blk_lt (g := gb359) (o := .cells #[.int .i64 t356, .int .i64 t357] 23 (0, 0)) (by (with_reducible repeat (first | refine blk_drewN ?_ _ | refine blk_drew ?_ | refine blk_alloc ?_ _)); exact BK359.out)) : gb359 ≠ gb368)); have n11_ := Aside0.mk ((by rw [hg]; exact Nat.ne_of_gt (blk_lt (g := gb359) (o := .cells #[.int .i64 t356, .int .i64 t357] 23 (0, 0)) (by (with_reducible repeat (first | refine blk_drewN ?_ _ | refine blk_drew ?_ | refine blk_alloc ?_ _)); exact BK359.out)) : gb368 ≠ gb359)); have n12_ := Aside0.mk ((by rw [hg]; exact Nat.ne_of_lt (blk_lt (g := gb360) (o := .cells #[.int .i64 (wrap64 (t354 + (wrap64 ((wrap64 (Int.tdiv (wrap64 (t355 - t354)) 600)) * (wrap64 (a6)))))), .int .i64 (wrap64 (t355 - (wrap64 ((wrap64 (Int.tdiv (wrap64 (t355 - t354)) 600)) * (wrap64 (a7))))))] 23 (0, 0)) (by (with_reducible repeat (first | refine blk_drewN ?_ _ | refine blk_drew ?_ | refine blk_alloc ?_ _)); exact BK360.out)) : gb360 ≠ gb368)); have n13_ := Aside0.mk ((by rw [hg]; exact Nat.ne_of_gt (blk_lt (g := gb360) (o := .cells #[.int .i64 (wrap64 (t354 + (wrap64 ((wrap64 (Int.tdiv (wrap64 (t355 - t354)) 600)) * (wrap64 (a6)))))), .int .i64 (wrap64 (t355 - (wrap64 ((wrap64 (Int.tdiv (wrap64 (t355 - t354)) 600)) * (wrap64 (a7))))))] 23 (0, 0)) (by (with_reducible repeat (first | refine blk_drewN ?_ _ | refine blk_drew ?_ | refine blk_alloc ?_ _)); exact BK360.out)) : gb368 ≠ gb360)); have n14_ := Aside0.mk ((by rw [hg]; exact Nat.ne_of_lt (blk_lt (g := gb364) (o := .cells #[.int .i64 t361, .int .i64 t362] 23 (0, 0)) (by (with_reducible repeat (first | refine blk_drewN ?_ _ | refine blk_drew ?_ | refine blk_alloc ?_ _)); exact BK364.out)) : gb364 ≠ gb368)); have n15_ := Aside0.mk ((by rw [hg]; exact Nat.ne_of_gt (blk_lt (g := gb364) (o := .cells #[.int .i64 t361, .int .i64 t362] 23 (0, 0)) (by (with_reducible repeat (first | refine blk_drewN ?_ _ | refine blk_drew ?_ | refine blk_alloc ?_ _)); exact BK364.out)) : gb368 ≠ gb364)); clear BK358; clear BK359; clear BK360; clear BK364; clear HB; have BK358 := n0_; have BK359 := n1_; have BK360 := n2_; have BK364 := n3_; have HB := n4_; have BK368 := n5_; have GW368 := n6_; have GE368 := n7_; have NB358_368 := n8_; have NB368_358 := n9_; have NB359_368 := n10_; have NB368_359 := n11_; have NB360_368 := n12_; have NB368_360 := n13_; have NB364_368 := n14_; have NB368_364 := n15_; clear n0_ n1_ n2_ n3_ n4_ n5_ n6_ n7_ n8_ n9_ n10_ n11_ n12_ n13_ n14_ n15_; clear hb hbox hg; have hnb69 := NB368_358.out; have hnc69 := NB358_368.out; have hnb70 := NB368_359.out; have hnc70 := NB359_368.out; have hnb71 := NB368_360.out; have hnc71 := NB360_368.out; have hnb72 := NB368_364.out; have hnc72 := NB364_368.out; have hcz73_0 : w68.cell? ⟨gb368, 0, none⟩ = some (.int .i64 0) := (blk_cell BK368.out 0).trans rfl; have hcz73_1 : w68.cell? ⟨gb368, 1, none⟩ = some (.int .i64 0) := (blk_cell BK368.out 1).trans rfl; have hfz73_0 := blk_frozen BK368.out 0; have hfz73_1 := blk_frozen BK368.out 1; have hcz74_0 : w68.cell? ⟨gb364, 0, none⟩ = some (.int .i64 t361) := (blk_cell BK364.out 0).trans rfl; have hcz74_1 : w68.cell? ⟨gb364, 1, none⟩ = some (.int .i64 t362) := (blk_cell BK364.out 1).trans rfl; have hfz74_0 := blk_frozen BK364.out 0; have hfz74_1 := blk_frozen BK364.out 1) | (go_at_call 9; (with_reducible refine (flagstonelaw37_inside.calls t365 t366 t361 t362 false _ A30.out).mono ?_); rintro e w75 ⟨rfl, hb⟩; have n0_ := Aside0.mk (blk_below (g := gb358) (o := .cells #[.int .i64 t354, .int .i64 t355] 23 (0, 0)) (by (with_reducible repeat (first | refine blk_drewN ?_ _ | refine blk_drew ?_ | refine blk_alloc ?_ _)); refine blk_far ?_ NB358_368.out _; (with_reducible repeat (first | refine blk_drewN ?_ _ | refine blk_drew ?_ | refine blk_alloc ?_ _)); refine blk_far ?_ NB358_368.out _; (with_reducible repeat (first | refine blk_drewN ?_ _ | refine blk_drew ?_ | refine blk_alloc ?_ _)); exact BK358.out) hb); have n1_ := Aside0.mk (blk_below (g := gb359) (o := .cells #[.int .i64 t356, .int .i64 t357] 23 (0, 0)) (by (with_reducible repeat (first | refine blk_drewN ?_ _ | refine blk_drew ?_ | refine blk_alloc ?_ _)); refine blk_far ?_ NB359_368.out _; (with_reducible repeat (first | refine blk_drewN ?_ _ | refine blk_drew ?_ | refine blk_alloc ?_ _)); refine blk_far ?_ NB359_368.out _; (with_reducible repeat (first | refine blk_drewN ?_ _ | refine blk_drew ?_ | refine blk_alloc ?_ _)); exact BK359.out) hb); have n2_ := Aside0.mk (blk_below (g := gb360) (o := .cells #[.int .i64 (wrap64 (t354 + (wrap64 ((wrap64 (Int.tdiv (wrap64 (t355 - t354)) 600)) * (wrap64 (a6)))))), .int .i64 (wrap64 (t355 - (wrap64 ((wrap64 (Int.tdiv (wrap64 (t355 - t354)) 600)) * (wrap64 (a7))))))] 23 (0, 0)) (by (with_reducible repeat (first | refine blk_drewN ?_ _ | refine blk_drew ?_ | refine blk_alloc ?_ _)); refine blk_far ?_ NB360_368.out _; (with_reducible repeat (first | refine blk_drewN ?_ _ | refine blk_drew ?_ | refine blk_alloc ?_ _)); refine blk_far ?_ NB360_368.out _; (with_reducible repeat (first | refine blk_drewN ?_ _ | refine blk_drew ?_ | refine blk_alloc ?_ _)); exact BK360.out) hb); have n3_ := Aside0.mk (blk_below (g := gb364) (o := .cells #[.int .i64 t361, .int .i64 t362] 23 (0, 0)) (by (with_reducible repeat (first | refine blk_drewN ?_ _ | refine blk_drew ?_ | refine blk_alloc ?_ _)); refine blk_far ?_ NB364_368.out _; (with_reducible repeat (first | refine blk_drewN ?_ _ | refine blk_drew ?_ | refine blk_alloc ?_ _)); refine blk_far ?_ NB364_368.out _; (with_reducible repeat (first | refine blk_drewN ?_ _ | refine blk_drew ?_ | refine blk_alloc ?_ _)); exact BK364.out) hb); have n4_ := Aside0.mk (blk_below (g := gb368) (o := .cells #[.int .i64 t365, .int .i64 t366] 23 (0, 0)) (by (with_reducible repeat (first | refine blk_drewN ?_ _ | refine blk_drew ?_ | refine blk_alloc ?_ _)); refine blk_put (cs := #[.int .i64 t365, .int .i64 0]) ?_ 1 _ rfl; (with_reducible repeat (first | refine blk_drewN ?_ _ | refine blk_drew ?_ | refine blk_alloc ?_ _)); refine blk_put (cs := #[.int .i64 0, .int .i64 0]) ?_ 0 _ rfl; (with_reducible repeat (first | refine blk_drewN ?_ _ | refine blk_drew ?_ | refine blk_alloc ?_ _)); exact BK368.out) hb); have n5_ := Aside0.mk (below_step (by repeat (first | (with_reducible first | exact HB.out | apply below_alloc | apply pw_below_drewN | apply below_drew1 | refine below_set ?_ GE358.out | refine below_set ?_ GE359.out | refine below_set ?_ GE360.out | refine below_set ?_ GE364.out | refine below_set ?_ GE368.out) | exact HB.out)) hb); clear BK358; clear BK359; clear BK360; clear BK364; clear BK368; clear HB; have BK358 := n0_; have BK359 := n1_; have BK360 := n2_; have BK364 := n3_; have BK368 := n4_; have HB := n5_; clear n0_ n1_ n2_ n3_ n4_ n5_; (try clear hb); (try clear hb2); (try clear hk); (try clear hi)))
        go_ret
        exact ⟨by first | rfl | (simp [errW_none, errW_some] <;> rfl) | (simp [*, errW_none, errW_some] <;> rfl), by repeat (first | (with_reducible first | exact HB.out | apply below_alloc | apply pw_below_drewN | apply below_drew1 | refine below_set ?_ GE358.out | refine below_set ?_ GE359.out | refine below_set ?_ GE360.out | refine below_set ?_ GE364.out | refine below_set ?_ GE368.out) | exact HB.out)⟩
      ·replace c29 := Bool.eq_false_iff.mpr c29
       subst c29
       have H1 : (some false) = some r := by rw [if_neg (show ¬ (false = true) by decide)] at H; exact H
       clear H
       have H := H1
       clear H1
       obtain rfl := Option.some.inj H
       have hnb76 := NB358_359.out
       have hnc76 := NB359_358.out
       have hnb77 := NB358_360.out
       have hnc77 := NB360_358.out
       have hcz78_0 : wr.cell? ⟨gb358, 0, none⟩ = some (.int .i64 t354) := (blk_cell BK358.out 0).trans rfl
       have hcz78_1 : wr.cell? ⟨gb358, 1, none⟩ = some (.int .i64 t355) := (blk_cell BK358.out 1).trans rfl
       have hfz78_0 := blk_frozen BK358.out 0
       have hfz78_1 := blk_frozen BK358.out 1
       have hnb79 := NB359_360.out
       have hnc79 := NB360_359.out
       have hcz80_0 : wr.cell? ⟨gb359, 0, none⟩ = some (.int .i64 t356) := (blk_cell BK359.out 0).trans rfl
       have hcz80_1 : wr.cell? ⟨gb359, 1, none⟩ = some (.int .i64 t357) := (blk_cell BK359.out 1).trans rfl
       have hfz80_0 := blk_frozen BK359.out 0
       have hfz80_1 := blk_frozen BK359.out 1
       go_wp2_with (first | ((with_reducible refine gate_callee (f := 8) rfl ?_); refine goesL_ (some 70) rfl rfl Try.func8 (by kernel_rfl) rfl #[.int .i64 x21_1, .agg #[.int .i64 t354, .int .i64 t355], .agg #[.int .i64 t356, .int .i64 t357]] rfl (by (try simp only [List.map_toArray, List.map_cons, List.map_nil]); first | done | rfl | (simp only [List.length_drop, List.length_take]; rfl)) ?_; (with_reducible refine (flagstonelaw37_operate.calls k1 x21_1 t354 t355 t356 t357 t361 t362 true _ A26.out).mono ?_); rintro e w81 ⟨rfl, hb⟩; refine ⟨_, rfl, ?_⟩; have n0_ := Aside0.mk (blk_below (g := gb358) (o := .cells #[.int .i64 t354, .int .i64 t355] 23 (0, 0)) (by (with_reducible repeat (first | refine blk_drewN ?_ _ | refine blk_drew ?_ | refine blk_alloc ?_ _)); exact BK358.out) hb); have n1_ := Aside0.mk (blk_below (g := gb359) (o := .cells #[.int .i64 t356, .int .i64 t357] 23 (0, 0)) (by (with_reducible repeat (first | refine blk_drewN ?_ _ | refine blk_drew ?_ | refine blk_alloc ?_ _)); exact BK359.out) hb); have n2_ := Aside0.mk (blk_below (g := gb360) (o := .cells #[.int .i64 (wrap64 (t354 + (wrap64 ((wrap64 (Int.tdiv (wrap64 (t355 - t354)) 600)) * (wrap64 (a6)))))), .int .i64 (wrap64 (t355 - (wrap64 ((wrap64 (Int.tdiv (wrap64 (t355 - t354)) 600)) * (wrap64 (a7))))))] 23 (0, 0)) (by (with_reducible repeat (first | refine blk_drewN ?_ _ | refine blk_drew ?_ | refine blk_alloc ?_ _)); exact BK360.out) hb); have n3_ := Aside0.mk (below_step (by repeat (first | (with_reducible first | exact HB.out | apply below_alloc | apply pw_below_drewN | apply below_drew1 | refine below_set ?_ GE358.out | refine below_set ?_ GE359.out | refine below_set ?_ GE360.out) | exact HB.out)) hb); clear BK358; clear BK359; clear BK360; clear HB; have BK358 := n0_; have BK359 := n1_; have BK360 := n2_; have HB := n3_; clear n0_ n1_ n2_ n3_; (try clear hb); (try clear hb2); (try clear hk); (try clear hi)) | ((with_reducible refine gate_dst (N := 22) rfl ?_); refine box_event ?hg (N := 22) ?hd (cs := #[.int .i64 0, .int .i64 0]) (t := 23) ?hr ?_; (case hd => rfl); (case hg => rfl); (case hr => first | (go_simp; done) | (go_simp; rfl)); intro gb364 hg w82 hbox hb; have n0_ := Aside0.mk (blk_below (g := gb358) (o := .cells #[.int .i64 t354, .int .i64 t355] 23 (0, 0)) (by (with_reducible repeat (first | refine blk_drewN ?_ _ | refine blk_drew ?_ | refine blk_alloc ?_ _)); exact BK358.out) hb); have n1_ := Aside0.mk (blk_below (g := gb359) (o := .cells #[.int .i64 t356, .int .i64 t357] 23 (0, 0)) (by (with_reducible repeat (first | refine blk_drewN ?_ _ | refine blk_drew ?_ | refine blk_alloc ?_ _)); exact BK359.out) hb); have n2_ := Aside0.mk (blk_below (g := gb360) (o := .cells #[.int .i64 (wrap64 (t354 + (wrap64 ((wrap64 (Int.tdiv (wrap64 (t355 - t354)) 600)) * (wrap64 (a6)))))), .int .i64 (wrap64 (t355 - (wrap64 ((wrap64 (Int.tdiv (wrap64 (t355 - t354)) 600)) * (wrap64 (a7))))))] 23 (0, 0)) (by (with_reducible repeat (first | refine blk_drewN ?_ _ | refine blk_drew ?_ | refine blk_alloc ?_ _)); exact BK360.out) hb); have n3_ := Aside0.mk (below_step (by repeat (first | (with_reducible first | exact HB.out | apply below_alloc | apply pw_below_drewN | apply below_drew1 | refine below_set ?_ GE358.out | refine below_set ?_ GE359.out | refine below_set ?_ GE360.out) | exact HB.out)) hb); have n4_ := Aside0.mk (hbox); have n5_ := Aside0.mk ((by rw [hg]; exact (below_size (by repeat (first | (with_reducible first | exact HB.out | apply below_alloc | apply pw_below_drewN | apply below_drew1 | refine below_set ?_ GE358.out | refine below_set ?_ GE359.out | refine below_set ?_ GE360.out) | exact HB.out))) : w.heap.size ≤ gb364)); have n6_ := Aside0.mk ((by rw [hg]; exact (below_size (by repeat (first | (with_reducible first | exact HB.out | apply below_alloc | apply pw_below_drewN | apply below_drew1 | refine below_set ?_ GE358.out | refine below_set ?_ GE359.out | refine below_set ?_ GE360.out) | exact HB.out))) : w.heap.size ≤ gb364)); have n7_ := Aside0.mk ((by rw [hg]; exact Nat.ne_of_lt (blk_lt (g := gb358) (o := .cells #[.int .i64 t354, .int .i64 t355] 23 (0, 0)) (by (with_reducible repeat (first | refine blk_drewN ?_ _ | refine blk_drew ?_ | refine blk_alloc ?_ _)); exact BK358.out)) : gb358 ≠ gb364)); have n8_ := Aside0.mk ((by rw [hg]; exact Nat.ne_of_gt (blk_lt (g := gb358) (o := .cells #[.int .i64 t354, .int .i64 t355] 23 (0, 0)) (by (with_reducible repeat (first | refine blk_drewN ?_ _ | refine blk_drew ?_ | refine blk_alloc ?_ _)); exact BK358.out)) : gb364 ≠ gb358)); have n9_ := Aside0.mk ((by rw [hg]; exact Nat.ne_of_lt (blk_lt (g := gb359) (o := .cells #[.int .i64 t356, .int .i64 t357] 23 (0, 0)) (by (with_reducible repeat (first | refine blk_drewN ?_ _ | refine blk_drew ?_ | refine blk_alloc ?_ _)); exact BK359.out)) : gb359 ≠ gb364)); have n10_ := Aside0.mk ((by rw [hg]; exact Nat.ne_of_gt (blk_lt (g := gb359) (o := .cells #[.int .i64 t356, .int .i64 t357] 23 (0, 0)) (by (with_reducible repeat (first | refine blk_drewN ?_ _ | refine blk_drew ?_ | refine blk_alloc ?_ _)); exact BK359.out)) : gb364 ≠ gb359)); have n11_ := Aside0.mk ((by rw [hg]; exact Nat.ne_of_lt (blk_lt (g := gb360) (o := .cells #[.int .i64 (wrap64 (t354 + (wrap64 ((wrap64 (Int.tdiv (wrap64 (t355 - t354)) 600)) * (wrap64 (a6)))))), .int .i64 (wrap64 (t355 - (wrap64 ((wrap64 (Int.tdiv (wrap64 (t355 - t354)) 600)) * (wrap64 (a7))))))] 23 (0, 0)) (by (with_reducible repeat (first | refine blk_drewN ?_ _ | refine blk_drew ?_ | refine blk_alloc ?_ _)); exact BK360.out)) : gb360 ≠ gb364)); have n12_ := Aside0.mk ((by rw [hg]; exact Nat.ne_of_gt (blk_lt (g := gb360) (o := .cells #[.int .i64 (wrap64 (t354 + (wrap64 ((wrap64 (Int.tdiv (wrap64 (t355 - t354)) 600)) * (wrap64 (a6)))))), .int .i64 (wrap64 (t355 - (wrap64 ((wrap64 (Int.tdiv (wrap64 (t355 - t354)) 600)) * (wrap64 (a7))))))] 23 (0, 0)) (by (with_reducible repeat (first | refine blk_drewN ?_ _ | refine blk_drew ?_ | refine blk_alloc ?_ _)); exact BK360.out)) : gb364 ≠ gb360)); clear BK358; clear BK359; clear BK360; clear HB; have BK358 := n0_; have BK359 := n1_; have BK360 := n2_; have HB := n3_; have BK364 := n4_; have GW364 := n5_; have GE364 := n6_; have NB358_364 := n7_; have NB364_358 := n8_; have NB359_364 := n9_; have NB364_359 := n10_; have NB360_364 := n11_; have NB364_360 := n12_; clear n0_ n1_ n2_ n3_ n4_ n5_ n6_ n7_ n8_ n9_ n10_ n11_ n12_; clear hb hbox hg; have hnb83 := NB364_358.out; have hnc83 := NB358_364.out; have hnb84 := NB364_359.out; have hnc84 := NB359_364.out; have hnb85 := NB364_360.out; have hnc85 := NB360_364.out; have hcz86_0 : w82.cell? ⟨gb364, 0, none⟩ = some (.int .i64 0) := (blk_cell BK364.out 0).trans rfl; have hcz86_1 : w82.cell? ⟨gb364, 1, none⟩ = some (.int .i64 0) := (blk_cell BK364.out 1).trans rfl; have hfz86_0 := blk_frozen BK364.out 0; have hfz86_1 := blk_frozen BK364.out 1; have hcz87_0 : w82.cell? ⟨gb360, 0, none⟩ = some (.int .i64 (wrap64 (t354 + (wrap64 ((wrap64 (Int.tdiv (wrap64 (t355 - t354)) 600)) * (wrap64 (a6))))))) := (blk_cell BK360.out 0).trans rfl; have hcz87_1 : w82.cell? ⟨gb360, 1, none⟩ = some (.int .i64 (wrap64 (t355 - (wrap64 ((wrap64 (Int.tdiv (wrap64 (t355 - t354)) 600)) * (wrap64 (a7))))))) := (blk_cell BK360.out 1).trans rfl; have hfz87_0 := blk_frozen BK360.out 0; have hfz87_1 := blk_frozen BK360.out 1; have hcz88_0 : w82.cell? ⟨gb359, 0, none⟩ = some (.int .i64 t356) := (blk_cell BK359.out 0).trans rfl; have hcz88_1 : w82.cell? ⟨gb359, 1, none⟩ = some (.int .i64 t357) := (blk_cell BK359.out 1).trans rfl; have hfz88_0 := blk_frozen BK359.out 0; have hfz88_1 := blk_frozen BK359.out 1) | ((with_reducible refine gate_callee (f := 8) rfl ?_); refine goesL_ (some 77) rfl rfl Try.func8 (by kernel_rfl) rfl #[.int .i64 x21_1, .agg #[.int .i64 (wrap64 (t354 + (wrap64 ((wrap64 (Int.tdiv (wrap64 (t355 - t354)) 600)) * (wrap64 (a6)))))), .int .i64 (wrap64 (t355 - (wrap64 ((wrap64 (Int.tdiv (wrap64 (t355 - t354)) 600)) * (wrap64 (a7))))))], .agg #[.int .i64 t356, .int .i64 t357]] rfl (by (try simp only [List.map_toArray, List.map_cons, List.map_nil]); first | done | rfl | (simp only [List.length_drop, List.length_take]; rfl)) ?_; (with_reducible refine (flagstonelaw37_operate.calls k1 x21_1 (wrap64 (t354 + (wrap64 ((wrap64 (Int.tdiv (wrap64 (t355 - t354)) 600)) * (wrap64 (a6)))))) (wrap64 (t355 - (wrap64 ((wrap64 (Int.tdiv (wrap64 (t355 - t354)) 600)) * (wrap64 (a7)))))) t356 t357 t365 t366 false _ A27.out).mono ?_); rintro e w89 ⟨rfl, hb⟩; refine ⟨_, rfl, ?_⟩; have n0_ := Aside0.mk (blk_below (g := gb358) (o := .cells #[.int .i64 t354, .int .i64 t355] 23 (0, 0)) (by (with_reducible repeat (first | refine blk_drewN ?_ _ | refine blk_drew ?_ | refine blk_alloc ?_ _)); refine blk_far ?_ NB358_364.out _; (with_reducible repeat (first | refine blk_drewN ?_ _ | refine blk_drew ?_ | refine blk_alloc ?_ _)); refine blk_far ?_ NB358_364.out _; (with_reducible repeat (first | refine blk_drewN ?_ _ | refine blk_drew ?_ | refine blk_alloc ?_ _)); exact BK358.out) hb); have n1_ := Aside0.mk (blk_below (g := gb359) (o := .cells #[.int .i64 t356, .int .i64 t357] 23 (0, 0)) (by (with_reducible repeat (first | refine blk_drewN ?_ _ | refine blk_drew ?_ | refine blk_alloc ?_ _)); refine blk_far ?_ NB359_364.out _; (with_reducible repeat (first | refine blk_drewN ?_ _ | refine blk_drew ?_ | refine blk_alloc ?_ _)); refine blk_far ?_ NB359_364.out _; (with_reducible repeat (first | refine blk_drewN ?_ _ | refine blk_drew ?_ | refine blk_alloc ?_ _)); exact BK359.out) hb); have n2_ := Aside0.mk (blk_below (g := gb360) (o := .cells #[.int .i64 (wrap64 (t354 + (wrap64 ((wrap64 (Int.tdiv (wrap64 (t355 - t354)) 600)) * (wrap64 (a6)))))), .int .i64 (wrap64 (t355 - (wrap64 ((wrap64 (Int.tdiv (wrap64 (t355 - t354)) 600)) * (wrap64 (a7))))))] 23 (0, 0)) (by (with_reducible repeat (first | refine blk_drewN ?_ _ | refine blk_drew ?_ | refine blk_alloc ?_ _)); refine blk_far ?_ NB360_364.out _; (with_reducible repeat (first | refine blk_drewN ?_ _ | refine blk_drew ?_ | refine blk_alloc ?_ _)); refine blk_far ?_ NB360_364.out _; (with_reducible repeat (first | refine blk_drewN ?_ _ | refine blk_drew ?_ | refine blk_alloc ?_ _)); exact BK360.out) hb); have n3_ := Aside0.mk (blk_below (g := gb364) (o := .cells #[.int .i64 t361, .int .i64 t362] 23 (0, 0)) (by (with_reducible repeat (first | refine blk_drewN ?_ _ | refine blk_drew ?_ | refine blk_alloc ?_ _)); refine blk_put (cs := #[.int .i64 t361, .int .i64 0]) ?_ 1 _ rfl; (with_reducible repeat (first | refine blk_drewN ?_ _ | refine blk_drew ?_ | refine blk_alloc ?_ _)); refine blk_put (cs := #[.int .i64 0, .int .i64 0]) ?_ 0 _ rfl; (with_reducible repeat (first | refine blk_drewN ?_ _ | refine blk_drew ?_ | refine blk_alloc ?_ _)); exact BK364.out) hb); have n4_ := Aside0.mk (below_step (by repeat (first | (with_reducible first | exact HB.out | apply below_alloc | apply pw_below_drewN | apply below_drew1 | refine below_set ?_ GE358.out | refine below_set ?_ GE359.out | refine below_set ?_ GE360.out | refine below_set ?_ GE364.out) | exact HB.out)) hb); clear BK358; clear BK359; clear BK360; clear BK364; clear HB; have BK358 := n0_; have BK359 := n1_; have BK360 := n2_; have BK364 := n3_; have HB := n4_; clear n0_ n1_ n2_ n3_ n4_; (try clear hb); (try clear hb2); (try clear hk); (try clear hi)) | ((with_reducible refine gate_dst (N := 24) rfl ?_); refine box_event ?hg (N := 24) ?hd (cs := #[.int .i64 0, .int .i64 0]) (t := 23) ?hr ?_; (case hd => rfl); (case hg => rfl); (case hr => first | (go_simp; done) | (go_simp; rfl)); intro gb368 hg w90 hbox hb; have n0_ := Aside0.mk (blk_below (g := gb358) (o := .cells #[.int .i64 t354, .int .i64 t355] 23 (0, 0)) (by (with_reducible repeat (first | refine blk_drewN ?_ _ | refine blk_drew ?_ | refine blk_alloc ?_ _)); exact BK358.out) hb); have n1_ := Aside0.mk (blk_below (g := gb359) (o := .cells #[.int .i64 t356, .int .i64 t357] 23 (0, 0)) (by (with_reducible repeat (first | refine blk_drewN ?_ _ | refine blk_drew ?_ | refine blk_alloc ?_ _)); exact BK359.out) hb); have n2_ := Aside0.mk (blk_below (g := gb360) (o := .cells #[.int .i64 (wrap64 (t354 + (wrap64 ((wrap64 (Int.tdiv (wrap64 (t355 - t354)) 600)) * (wrap64 (a6)))))), .int .i64 (wrap64 (t355 - (wrap64 ((wrap64 (Int.tdiv (wrap64 (t355 - t354)) 600)) * (wrap64 (a7))))))] 23 (0, 0)) (by (with_reducible repeat (first | refine blk_drewN ?_ _ | refine blk_drew ?_ | refine blk_alloc ?_ _)); exact BK360.out) hb); have n3_ := Aside0.mk (blk_below (g := gb364) (o := .cells #[.int .i64 t361, .int .i64 t362] 23 (0, 0)) (by (with_reducible repeat (first | refine blk_drewN ?_ _ | refine blk_drew ?_ | refine blk_alloc ?_ _)); exact BK364.out) hb); have n4_ := Aside0.mk (below_step (by repeat (first | (with_reducible first | exact HB.out | apply below_alloc | apply pw_below_drewN | apply below_drew1 | refine below_set ?_ GE358.out | refine below_set ?_ GE359.out | refine below_set ?_ GE360.out | refine below_set ?_ GE364.out) | exact HB.out)) hb); have n5_ := Aside0.mk (hbox); have n6_ := Aside0.mk ((by rw [hg]; exact (below_size (by repeat (first | (with_reducible first | exact HB.out | apply below_alloc | apply pw_below_drewN | apply below_drew1 | refine below_set ?_ GE358.out | refine below_set ?_ GE359.out | refine below_set ?_ GE360.out | refine below_set ?_ GE364.out) | exact HB.out))) : w.heap.size ≤ gb368)); have n7_ := Aside0.mk ((by rw [hg]; exact (below_size (by repeat (first | (with_reducible first | exact HB.out | apply below_alloc | apply pw_below_drewN | apply below_drew1 | refine below_set ?_ GE358.out | refine below_set ?_ GE359.out | refine below_set ?_ GE360.out | refine below_set ?_ GE364.out) | exact HB.out))) : w.heap.size ≤ gb368)); have n8_ := Aside0.mk ((by rw [hg]; exact Nat.ne_of_lt (blk_lt (g := gb358) (o := .cells #[.int .i64 t354, .int .i64 t355] 23 (0, 0)) (by (with_reducible repeat (first | refine blk_drewN ?_ _ | refine blk_drew ?_ | refine blk_alloc ?_ _)); exact BK358.out)) : gb358 ≠ gb368)); have n9_ := Aside0.mk ((by rw [hg]; exact Nat.ne_of_gt (blk_lt (g := gb358) (o := .cells #[.int .i64 t354, .int .i64 t355] 23 (0, 0)) (by (with_reducible repeat (first | refine blk_drewN ?_ _ | refine blk_drew ?_ | refine blk_alloc ?_ _)); exact BK358.out)) : gb368 ≠ gb358)); have n10_ := Aside0.mk ((by rw [hg]; exact Nat.ne_of_lt (blk_lt (g := gb359) (o := .cells #[.int .i64 t356, .int .i64 t357] 23 (0, 0)) (by (with_reducible repeat (first | refine blk_drewN ?_ _ | refine blk_drew ?_ | refine blk_alloc ?_ _)); exact BK359.out)) : gb359 ≠ gb368)); have n11_ := Aside0.mk ((by rw [hg]; exact Nat.ne_of_gt (blk_lt (g := gb359) (o := .cells #[.int .i64 t356, .int .i64 t357] 23 (0, 0)) (by (with_reducible repeat (first | refine blk_drewN ?_ _ | refine blk_drew ?_ | refine blk_alloc ?_ _)); exact BK359.out)) : gb368 ≠ gb359)); have n12_ := Aside0.mk ((by rw [hg]; exact Nat.ne_of_lt (blk_lt (g := gb360) (o := .cells #[.int .i64 (wrap64 (t354 + (wrap64 ((wrap64 (Int.tdiv (wrap64 (t355 - t354)) 600)) * (wrap64 (a6)))))), .int .i64 (wrap64 (t355 - (wrap64 ((wrap64 (Int.tdiv (wrap64 (t355 - t354)) 600)) * (wrap64 (a7))))))] 23 (0, 0)) (by (with_reducible repeat (first | refine blk_drewN ?_ _ | refine blk_drew ?_ | refine blk_alloc ?_ _)); exact BK360.out)) : gb360 ≠ gb368)); have n13_ := Aside0.mk ((by rw [hg]; exact Nat.ne_of_gt (blk_lt (g := gb360) (o := .cells #[.int .i64 (wrap64 (t354 + (wrap64 ((wrap64 (Int.tdiv (wrap64 (t355 - t354)) 600)) * (wrap64 (a6)))))), .int .i64 (wrap64 (t355 - (wrap64 ((wrap64 (Int.tdiv (wrap64 (t355 - t354)) 600)) * (wrap64 (a7))))))] 23 (0, 0)) (by (with_reducible repeat (first | refine blk_drewN ?_ _ | refine blk_drew ?_ | refine blk_alloc ?_ _)); exact BK360.out)) : gb368 ≠ gb360)); have n14_ := Aside0.mk ((by rw [hg]; exact Nat.ne_of_lt (blk_lt (g := gb364) (o := .cells #[.int .i64 t361, .int .i64 t362] 23 (0, 0)) (by (with_reducible repeat (first | refine blk_drewN ?_ _ | refine blk_drew ?_ | refine blk_alloc ?_ _)); exact BK364.out)) : gb364 ≠ gb368)); have n15_ := Aside0.mk ((by rw [hg]; exact Nat.ne_of_gt (blk_lt (g := gb364) (o := .cells #[.int .i64 t361, .int .i64 t362] 23 (0, 0)) (by (with_reducible repeat (first | refine blk_drewN ?_ _ | refine blk_drew ?_ | refine blk_alloc ?_ _)); exact BK364.out)) : gb368 ≠ gb364)); clear BK358; clear BK359; clear BK360; clear BK364; clear HB; have BK358 := n0_; have BK359 := n1_; have BK360 := n2_; have BK364 := n3_; have HB := n4_; have BK368 := n5_; have GW368 := n6_; have GE368 := n7_; have NB358_368 := n8_; have NB368_358 := n9_; have NB359_368 := n10_; have NB368_359 := n11_; have NB360_368 := n12_; have NB368_360 := n13_; have NB364_368 := n14_; have NB368_364 := n15_; clear n0_ n1_ n2_ n3_ n4_ n5_ n6_ n7_ n8_ n9_ n10_ n11_ n12_ n13_ n14_ n15_; clear hb hbox hg; have hnb91 := NB368_358.out; have hnc91 := NB358_368.out; have hnb92 := NB368_359.out; have hnc92 := NB359_368.out; have hnb93 := NB368_360.out; have hnc93 := NB360_368.out; have hnb94 := NB368_364.out; have hnc94 := NB364_368.out; have hcz95_0 : w90.cell? ⟨gb368, 0, none⟩ = some (.int .i64 0) := (blk_cell BK368.out 0).trans rfl; have hcz95_1 : w90.cell? ⟨gb368, 1, none⟩ = some (.int .i64 0) := (blk_cell BK368.out 1).trans rfl; have hfz95_0 := blk_frozen BK368.out 0; have hfz95_1 := blk_frozen BK368.out 1))
       go_ret
       exact ⟨by first | rfl | (simp [errW_none, errW_some] <;> rfl) | (simp [*, errW_none, errW_some] <;> rfl), by repeat (first | (with_reducible first | exact HB.out | apply below_alloc | apply pw_below_drewN | apply below_drew1 | refine below_set ?_ GE358.out | refine below_set ?_ GE359.out | refine below_set ?_ GE360.out | refine below_set ?_ GE364.out | refine below_set ?_ GE368.out) | exact HB.out)⟩
     ·replace c28 := Bool.eq_false_iff.mpr c28
      subst c28
      have H1 : (flagstonelaw37_IntervalNests.l0 k1 (wrap64 (x21_1 + 1)) t354 t355 t356 t357 (wrap64 (t354 + (wrap64 ((wrap64 (Int.tdiv (wrap64 (t355 - t354)) 600)) * (wrap64 (a6)))))) (wrap64 (t355 - (wrap64 ((wrap64 (Int.tdiv (wrap64 (t355 - t354)) 600)) * (wrap64 (a7))))))) = some r := by rw [if_neg (show ¬ (false = true) by decide)] at H; exact H
      clear H
      have H := H1
      clear H1
      have H' := Aside0.mk H
      clear H
      have hnb96 := NB358_359.out
      have hnc96 := NB359_358.out
      have hnb97 := NB358_360.out
      have hnc97 := NB360_358.out
      have hcz98_0 : wr.cell? ⟨gb358, 0, none⟩ = some (.int .i64 t354) := (blk_cell BK358.out 0).trans rfl
      have hcz98_1 : wr.cell? ⟨gb358, 1, none⟩ = some (.int .i64 t355) := (blk_cell BK358.out 1).trans rfl
      have hfz98_0 := blk_frozen BK358.out 0
      have hfz98_1 := blk_frozen BK358.out 1
      have hnb99 := NB359_360.out
      have hnc99 := NB360_359.out
      have hcz100_0 : wr.cell? ⟨gb359, 0, none⟩ = some (.int .i64 t356) := (blk_cell BK359.out 0).trans rfl
      have hcz100_1 : wr.cell? ⟨gb359, 1, none⟩ = some (.int .i64 t357) := (blk_cell BK359.out 1).trans rfl
      have hfz100_0 := blk_frozen BK359.out 0
      have hfz100_1 := blk_frozen BK359.out 1
      go_wp2_with (first | ((with_reducible refine gate_callee (f := 8) rfl ?_); refine goesL_ (some 70) rfl rfl Try.func8 (by kernel_rfl) rfl #[.int .i64 x21_1, .agg #[.int .i64 t354, .int .i64 t355], .agg #[.int .i64 t356, .int .i64 t357]] rfl (by (try simp only [List.map_toArray, List.map_cons, List.map_nil]); first | done | rfl | (simp only [List.length_drop, List.length_take]; rfl)) ?_; (with_reducible refine (flagstonelaw37_operate.calls k1 x21_1 t354 t355 t356 t357 t361 t362 false _ A26.out).mono ?_); rintro e w101 ⟨rfl, hb⟩; refine ⟨_, rfl, ?_⟩; have n0_ := Aside0.mk (blk_below (g := gb358) (o := .cells #[.int .i64 t354, .int .i64 t355] 23 (0, 0)) (by (with_reducible repeat (first | refine blk_drewN ?_ _ | refine blk_drew ?_ | refine blk_alloc ?_ _)); exact BK358.out) hb); have n1_ := Aside0.mk (blk_below (g := gb359) (o := .cells #[.int .i64 t356, .int .i64 t357] 23 (0, 0)) (by (with_reducible repeat (first | refine blk_drewN ?_ _ | refine blk_drew ?_ | refine blk_alloc ?_ _)); exact BK359.out) hb); have n2_ := Aside0.mk (blk_below (g := gb360) (o := .cells #[.int .i64 (wrap64 (t354 + (wrap64 ((wrap64 (Int.tdiv (wrap64 (t355 - t354)) 600)) * (wrap64 (a6)))))), .int .i64 (wrap64 (t355 - (wrap64 ((wrap64 (Int.tdiv (wrap64 (t355 - t354)) 600)) * (wrap64 (a7))))))] 23 (0, 0)) (by (with_reducible repeat (first | refine blk_drewN ?_ _ | refine blk_drew ?_ | refine blk_alloc ?_ _)); exact BK360.out) hb); have n3_ := Aside0.mk (below_step (by repeat (first | (with_reducible first | exact HB.out | apply below_alloc | apply pw_below_drewN | apply below_drew1 | refine below_set ?_ GE358.out | refine below_set ?_ GE359.out | refine below_set ?_ GE360.out) | exact HB.out)) hb); clear BK358; clear BK359; clear BK360; clear HB; have BK358 := n0_; have BK359 := n1_; have BK360 := n2_; have HB := n3_; clear n0_ n1_ n2_ n3_; (try clear hb); (try clear hb2); (try clear hk); (try clear hi)) | ((with_reducible refine gate_dst (N := 22) rfl ?_); refine box_event ?hg (N := 22) ?hd (cs := #[.int .i64 0, .int .i64 0]) (t := 23) ?hr ?_; (case hd => rfl); (case hg => rfl); (case hr => first | (go_simp; done) | (go_simp; rfl)); intro gb364 hg w102 hbox hb; have n0_ := Aside0.mk (blk_below (g := gb358) (o := .cells #[.int .i64 t354, .int .i64 t355] 23 (0, 0)) (by (with_reducible repeat (first | refine blk_drewN ?_ _ | refine blk_drew ?_ | refine blk_alloc ?_ _)); exact BK358.out) hb); have n1_ := Aside0.mk (blk_below (g := gb359) (o := .cells #[.int .i64 t356, .int .i64 t357] 23 (0, 0)) (by (with_reducible repeat (first | refine blk_drewN ?_ _ | refine blk_drew ?_ | refine blk_alloc ?_ _)); exact BK359.out) hb); have n2_ := Aside0.mk (blk_below (g := gb360) (o := .cells #[.int .i64 (wrap64 (t354 + (wrap64 ((wrap64 (Int.tdiv (wrap64 (t355 - t354)) 600)) * (wrap64 (a6)))))), .int .i64 (wrap64 (t355 - (wrap64 ((wrap64 (Int.tdiv (wrap64 (t355 - t354)) 600)) * (wrap64 (a7))))))] 23 (0, 0)) (by (with_reducible repeat (first | refine blk_drewN ?_ _ | refine blk_drew ?_ | refine blk_alloc ?_ _)); exact BK360.out) hb); have n3_ := Aside0.mk (below_step (by repeat (first | (with_reducible first | exact HB.out | apply below_alloc | apply pw_below_drewN | apply below_drew1 | refine below_set ?_ GE358.out | refine below_set ?_ GE359.out | refine below_set ?_ GE360.out) | exact HB.out)) hb); have n4_ := Aside0.mk (hbox); have n5_ := Aside0.mk ((by rw [hg]; exact (below_size (by repeat (first | (with_reducible first | exact HB.out | apply below_alloc | apply pw_below_drewN | apply below_drew1 | refine below_set ?_ GE358.out | refine below_set ?_ GE359.out | refine below_set ?_ GE360.out) | exact HB.out))) : w.heap.size ≤ gb364)); have n6_ := Aside0.mk ((by rw [hg]; exact (below_size (by repeat (first | (with_reducible first | exact HB.out | apply below_alloc | apply pw_below_drewN | apply below_drew1 | refine below_set ?_ GE358.out | refine below_set ?_ GE359.out | refine below_set ?_ GE360.out) | exact HB.out))) : w.heap.size ≤ gb364)); have n7_ := Aside0.mk ((by rw [hg]; exact Nat.ne_of_lt (blk_lt (g := gb358) (o := .cells #[.int .i64 t354, .int .i64 t355] 23 (0, 0)) (by (with_reducible repeat (first | refine blk_drewN ?_ _ | refine blk_drew ?_ | refine blk_alloc ?_ _)); exact BK358.out)) : gb358 ≠ gb364)); have n8_ := Aside0.mk ((by rw [hg]; exact Nat.ne_of_gt (blk_lt (g := gb358) (o := .cells #[.int .i64 t354, .int .i64 t355] 23 (0, 0)) (by (with_reducible repeat (first | refine blk_drewN ?_ _ | refine blk_drew ?_ | refine blk_alloc ?_ _)); exact BK358.out)) : gb364 ≠ gb358)); have n9_ := Aside0.mk ((by rw [hg]; exact Nat.ne_of_lt (blk_lt (g := gb359) (o := .cells #[.int .i64 t356, .int .i64 t357] 23 (0, 0)) (by (with_reducible repeat (first | refine blk_drewN ?_ _ | refine blk_drew ?_ | refine blk_alloc ?_ _)); exact BK359.out)) : gb359 ≠ gb364)); have n10_ := Aside0.mk ((by rw [hg]; exact Nat.ne_of_gt (blk_lt (g := gb359) (o := .cells #[.int .i64 t356, .int .i64 t357] 23 (0, 0)) (by (with_reducible repeat (first | refine blk_drewN ?_ _ | refine blk_drew ?_ | refine blk_alloc ?_ _)); exact BK359.out)) : gb364 ≠ gb359)); have n11_ := Aside0.mk ((by rw [hg]; exact Nat.ne_of_lt (blk_lt (g := gb360) (o := .cells #[.int .i64 (wrap64 (t354 + (wrap64 ((wrap64 (Int.tdiv (wrap64 (t355 - t354)) 600)) * (wrap64 (a6)))))), .int .i64 (wrap64 (t355 - (wrap64 ((wrap64 (Int.tdiv (wrap64 (t355 - t354)) 600)) * (wrap64 (a7))))))] 23 (0, 0)) (by (with_reducible repeat (first | refine blk_drewN ?_ _ | refine blk_drew ?_ | refine blk_alloc ?_ _)); exact BK360.out)) : gb360 ≠ gb364)); have n12_ := Aside0.mk ((by rw [hg]; exact Nat.ne_of_gt (blk_lt (g := gb360) (o := .cells #[.int .i64 (wrap64 (t354 + (wrap64 ((wrap64 (Int.tdiv (wrap64 (t355 - t354)) 600)) * (wrap64 (a6)))))), .int .i64 (wrap64 (t355 - (wrap64 ((wrap64 (Int.tdiv (wrap64 (t355 - t354)) 600)) * (wrap64 (a7))))))] 23 (0, 0)) (by (with_reducible repeat (first | refine blk_drewN ?_ _ | refine blk_drew ?_ | refine blk_alloc ?_ _)); exact BK360.out)) : gb364 ≠ gb360)); clear BK358; clear BK359; clear BK360; clear HB; have BK358 := n0_; have BK359 := n1_; have BK360 := n2_; have HB := n3_; have BK364 := n4_; have GW364 := n5_; have GE364 := n6_; have NB358_364 := n7_; have NB364_358 := n8_; have NB359_364 := n9_; have NB364_359 := n10_; have NB360_364 := n11_; have NB364_360 := n12_; clear n0_ n1_ n2_ n3_ n4_ n5_ n6_ n7_ n8_ n9_ n10_ n11_ n12_; clear hb hbox hg; have hnb103 := NB364_358.out; have hnc103 := NB358_364.out; have hnb104 := NB364_359.out; have hnc104 := NB359_364.out; have hnb105 := NB364_360.out; have hnc105 := NB360_364.out; have hcz106_0 : w102.cell? ⟨gb364, 0, none⟩ = some (.int .i64 0) := (blk_cell BK364.out 0).trans rfl; have hcz106_1 : w102.cell? ⟨gb364, 1, none⟩ = some (.int .i64 0) := (blk_cell BK364.out 1).trans rfl; have hfz106_0 := blk_frozen BK364.out 0; have hfz106_1 := blk_frozen BK364.out 1; have hcz107_0 : w102.cell? ⟨gb360, 0, none⟩ = some (.int .i64 (wrap64 (t354 + (wrap64 ((wrap64 (Int.tdiv (wrap64 (t355 - t354)) 600)) * (wrap64 (a6))))))) := (blk_cell BK360.out 0).trans rfl; have hcz107_1 : w102.cell? ⟨gb360, 1, none⟩ = some (.int .i64 (wrap64 (t355 - (wrap64 ((wrap64 (Int.tdiv (wrap64 (t355 - t354)) 600)) * (wrap64 (a7))))))) := (blk_cell BK360.out 1).trans rfl; have hfz107_0 := blk_frozen BK360.out 0; have hfz107_1 := blk_frozen BK360.out 1; have hcz108_0 : w102.cell? ⟨gb359, 0, none⟩ = some (.int .i64 t356) := (blk_cell BK359.out 0).trans rfl; have hcz108_1 : w102.cell? ⟨gb359, 1, none⟩ = some (.int .i64 t357) := (blk_cell BK359.out 1).trans rfl; have hfz108_0 := blk_frozen BK359.out 0; have hfz108_1 := blk_frozen BK359.out 1) | ((with_reducible refine gate_callee (f := 8) rfl ?_); refine goesL_ (some 77) rfl rfl Try.func8 (by kernel_rfl) rfl #[.int .i64 x21_1, .agg #[.int .i64 (wrap64 (t354 + (wrap64 ((wrap64 (Int.tdiv (wrap64 (t355 - t354)) 600)) * (wrap64 (a6)))))), .int .i64 (wrap64 (t355 - (wrap64 ((wrap64 (Int.tdiv (wrap64 (t355 - t354)) 600)) * (wrap64 (a7))))))], .agg #[.int .i64 t356, .int .i64 t357]] rfl (by (try simp only [List.map_toArray, List.map_cons, List.map_nil]); first | done | rfl | (simp only [List.length_drop, List.length_take]; rfl)) ?_; (with_reducible refine (flagstonelaw37_operate.calls k1 x21_1 (wrap64 (t354 + (wrap64 ((wrap64 (Int.tdiv (wrap64 (t355 - t354)) 600)) * (wrap64 (a6)))))) (wrap64 (t355 - (wrap64 ((wrap64 (Int.tdiv (wrap64 (t355 - t354)) 600)) * (wrap64 (a7)))))) t356 t357 t365 t366 t367 _ A27.out).mono ?_); rintro e w109 ⟨rfl, hb⟩; refine ⟨_, rfl, ?_⟩; have n0_ := Aside0.mk (blk_below (g := gb358) (o := .cells #[.int .i64 t354, .int .i64 t355] 23 (0, 0)) (by (with_reducible repeat (first | refine blk_drewN ?_ _ | refine blk_drew ?_ | refine blk_alloc ?_ _)); refine blk_far ?_ NB358_364.out _; (with_reducible repeat (first | refine blk_drewN ?_ _ | refine blk_drew ?_ | refine blk_alloc ?_ _)); refine blk_far ?_ NB358_364.out _; (with_reducible repeat (first | refine blk_drewN ?_ _ | refine blk_drew ?_ | refine blk_alloc ?_ _)); exact BK358.out) hb); have n1_ := Aside0.mk (blk_below (g := gb359) (o := .cells #[.int .i64 t356, .int .i64 t357] 23 (0, 0)) (by (with_reducible repeat (first | refine blk_drewN ?_ _ | refine blk_drew ?_ | refine blk_alloc ?_ _)); refine blk_far ?_ NB359_364.out _; (with_reducible repeat (first | refine blk_drewN ?_ _ | refine blk_drew ?_ | refine blk_alloc ?_ _)); refine blk_far ?_ NB359_364.out _; (with_reducible repeat (first | refine blk_drewN ?_ _ | refine blk_drew ?_ | refine blk_alloc ?_ _)); exact BK359.out) hb); have n2_ := Aside0.mk (blk_below (g := gb360) (o := .cells #[.int .i64 (wrap64 (t354 + (wrap64 ((wrap64 (Int.tdiv (wrap64 (t355 - t354)) 600)) * (wrap64 (a6)))))), .int .i64 (wrap64 (t355 - (wrap64 ((wrap64 (Int.tdiv (wrap64 (t355 - t354)) 600)) * (wrap64 (a7))))))] 23 (0, 0)) (by (with_reducible repeat (first | refine blk_drewN ?_ _ | refine blk_drew ?_ | refine blk_alloc ?_ _)); refine blk_far ?_ NB360_364.out _; (with_reducible repeat (first | refine blk_drewN ?_ _ | refine blk_drew ?_ | refine blk_alloc ?_ _)); refine blk_far ?_ NB360_364.out _; (with_reducible repeat (first | refine blk_drewN ?_ _ | refine blk_drew ?_ | refine blk_alloc ?_ _)); exact BK360.out) hb); have n3_ := Aside0.mk (blk_below (g := gb364) (o := .cells #[.int .i64 t361, .int .i64 t362] 23 (0, 0)) (by (with_reducible repeat (first | refine blk_drewN ?_ _ | refine blk_drew ?_ | refine blk_alloc ?_ _)); refine blk_put (cs := #[.int .i64 t361, .int .i64 0]) ?_ 1 _ rfl; (with_reducible repeat (first | refine blk_drewN ?_ _ | refine blk_drew ?_ | refine blk_alloc ?_ _)); refine blk_put (cs := #[.int .i64 0, .int .i64 0]) ?_ 0 _ rfl; (with_reducible repeat (first | refine blk_drewN ?_ _ | refine blk_drew ?_ | refine blk_alloc ?_ _)); exact BK364.out) hb); have n4_ := Aside0.mk (below_step (by repeat (first | (with_reducible first | exact HB.out | apply below_alloc | apply pw_below_drewN | apply below_drew1 | refine below_set ?_ GE358.out | refine below_set ?_ GE359.out | refine below_set ?_ GE360.out | refine below_set ?_ GE364.out) | exact HB.out)) hb); clear BK358; clear BK359; clear BK360; clear BK364; clear HB; have BK358 := n0_; have BK359 := n1_; have BK360 := n2_; have BK364 := n3_; have HB := n4_; clear n0_ n1_ n2_ n3_ n4_; (try clear hb); (try clear hb2); (try clear hk); (try clear hi)) | ((with_reducible refine gate_dst (N := 24) rfl ?_); refine box_event ?hg (N := 24) ?hd (cs := #[.int .i64 0, .int .i64 0]) (t := 23) ?hr ?_; (case hd => rfl); (case hg => rfl); (case hr => first | (go_simp; done) | (go_simp; rfl)); intro gb368 hg w110 hbox hb; have n0_ := Aside0.mk (blk_below (g := gb358) (o := .cells #[.int .i64 t354, .int .i64 t355] 23 (0, 0)) (by (with_reducible repeat (first | refine blk_drewN ?_ _ | refine blk_drew ?_ | refine blk_alloc ?_ _)); exact BK358.out) hb); have n1_ := Aside0.mk (blk_below (g := gb359) (o := .cells #[.int .i64 t356, .int .i64 t357] 23 (0, 0)) (by (with_reducible repeat (first | refine blk_drewN ?_ _ | refine blk_drew ?_ | refine blk_alloc ?_ _)); exact BK359.out) hb); have n2_ := Aside0.mk (blk_below (g := gb360) (o := .cells #[.int .i64 (wrap64 (t354 + (wrap64 ((wrap64 (Int.tdiv (wrap64 (t355 - t354)) 600)) * (wrap64 (a6)))))), .int .i64 (wrap64 (t355 - (wrap64 ((wrap64 (Int.tdiv (wrap64 (t355 - t354)) 600)) * (wrap64 (a7))))))] 23 (0, 0)) (by (with_reducible repeat (first | refine blk_drewN ?_ _ | refine blk_drew ?_ | refine blk_alloc ?_ _)); exact BK360.out) hb); have n3_ := Aside0.mk (blk_below (g := gb364) (o := .cells #[.int .i64 t361, .int .i64 t362] 23 (0, 0)) (by (with_reducible repeat (first | refine blk_drewN ?_ _ | refine blk_drew ?_ | refine blk_alloc ?_ _)); exact BK364.out) hb); have n4_ := Aside0.mk (below_step (by repeat (first | (with_reducible first | exact HB.out | apply below_alloc | apply pw_below_drewN | apply below_drew1 | refine below_set ?_ GE358.out | refine below_set ?_ GE359.out | refine below_set ?_ GE360.out | refine below_set ?_ GE364.out) | exact HB.out)) hb); have n5_ := Aside0.mk (hbox); have n6_ := Aside0.mk ((by rw [hg]; exact (below_size (by repeat (first | (with_reducible first | exact HB.out | apply below_alloc | apply pw_below_drewN | apply below_drew1 | refine below_set ?_ GE358.out | refine below_set ?_ GE359.out | refine below_set ?_ GE360.out | refine below_set ?_ GE364.out) | exact HB.out))) : w.heap.size ≤ gb368)); have n7_ := Aside0.mk ((by rw [hg]; exact (below_size (by repeat (first | (with_reducible first | exact HB.out | apply below_alloc | apply pw_below_drewN | apply below_drew1 | refine below_set ?_ GE358.out | refine below_set ?_ GE359.out | refine below_set ?_ GE360.out | refine below_set ?_ GE364.out) | exact HB.out))) : w.heap.size ≤ gb368)); have n8_ := Aside0.mk ((by rw [hg]; exact Nat.ne_of_lt (blk_lt (g := gb358) (o := .cells #[.int .i64 t354, .int .i64 t355] 23 (0, 0)) (by (with_reducible repeat (first | refine blk_drewN ?_ _ | refine blk_drew ?_ | refine blk_alloc ?_ _)); exact BK358.out)) : gb358 ≠ gb368)); have n9_ := Aside0.mk ((by rw [hg]; exact Nat.ne_of_gt (blk_lt (g := gb358) (o := .cells #[.int .i64 t354, .int .i64 t355] 23 (0, 0)) (by (with_reducible repeat (first | refine blk_drewN ?_ _ | refine blk_drew ?_ | refine blk_alloc ?_ _)); exact BK358.out)) : gb368 ≠ gb358)); have n10_ := Aside0.mk ((by rw [hg]; exact Nat.ne_of_lt (blk_lt (g := gb359) (o := .cells #[.int .i64 t356, .int .i64 t357] 23 (0, 0)) (by (with_reducible repeat (first | refine blk_drewN ?_ _ | refine blk_drew ?_ | refine blk_alloc ?_ _)); exact BK359.out)) : gb359 ≠ gb368)); have n11_ := Aside0.mk ((by rw [hg]; exact Nat.ne_of_gt (blk_lt (g := gb359) (o := .cells #[.int .i64 t356, .int .i64 t357] 23 (0, 0)) (by (with_reducible repeat (first | refine blk_drewN ?_ _ | refine blk_drew ?_ | refine blk_alloc ?_ _)); exact BK359.out)) : gb368 ≠ gb359)); have n12_ := Aside0.mk ((by rw [hg]; exact Nat.ne_of_lt (blk_lt (g := gb360) (o := .cells #[.int .i64 (wrap64 (t354 + (wrap64 ((wrap64 (Int.tdiv (wrap64 (t355 - t354)) 600)) * (wrap64 (a6)))))), .int .i64 (wrap64 (t355 - (wrap64 ((wrap64 (Int.tdiv (wrap64 (t355 - t354)) 600)) * (wrap64 (a7))))))] 23 (0, 0)) (by (with_reducible repeat (first | refine blk_drewN ?_ _ | refine blk_drew ?_ | refine blk_alloc ?_ _)); exact BK360.out)) : gb360 ≠ gb368)); have n13_ := Aside0.mk ((by rw [hg]; exact Nat.ne_of_gt (blk_lt (g := gb360) (o := .cells #[.int .i64 (wrap64 (t354 + (wrap64 ((wrap64 (Int.tdiv (wrap64 (t355 - t354)) 600)) * (wrap64 (a6)))))), .int .i64 (wrap64 (t355 - (wrap64 ((wrap64 (Int.tdiv (wrap64 (t355 - t354)) 600)) * (wrap64 (a7))))))] 23 (0, 0)) (by (with_reducible repeat (first | refine blk_drewN ?_ _ | refine blk_drew ?_ | refine blk_alloc ?_ _)); exact BK360.out)) : gb368 ≠ gb360)); have n14_ := Aside0.mk ((by rw [hg]; exact Nat.ne_of_lt (blk_lt (g := gb364) (o := .cells #[.int .i64 t361, .int .i64 t362] 23 (0, 0)) (by (with_reducible repeat (first | refine blk_drewN ?_ _ | refine blk_drew ?_ | refine blk_alloc ?_ _)); exact BK364.out)) : gb364 ≠ gb368)); have n15_ := Aside0.mk ((by rw [hg]; exact Nat.ne_of_gt (blk_lt (g := gb364) (o := .cells #[.int .i64 t361, .int .i64 t362] 23 (0, 0)) (by (with_reducible repeat (first | refine blk_drewN ?_ _ | refine blk_drew ?_ | refine blk_alloc ?_ _)); exact BK364.out)) : gb368 ≠ gb364)); clear BK358; clear BK359; clear BK360; clear BK364; clear HB; have BK358 := n0_; have BK359 := n1_; have BK360 := n2_; have BK364 := n3_; have HB := n4_; have BK368 := n5_; have GW368 := n6_; have GE368 := n7_; have NB358_368 := n8_; have NB368_358 := n9_; have NB359_368 := n10_; have NB368_359 := n11_; have NB360_368 := n12_; have NB368_360 := n13_; have NB364_368 := n14_; have NB368_364 := n15_; clear n0_ n1_ n2_ n3_ n4_ n5_ n6_ n7_ n8_ n9_ n10_ n11_ n12_ n13_ n14_ n15_; clear hb hbox hg; have hnb111 := NB368_358.out; have hnc111 := NB358_368.out; have hnb112 := NB368_359.out; have hnc112 := NB359_368.out; have hnb113 := NB368_360.out; have hnc113 := NB360_368.out; have hnb114 := NB368_364.out; have hnc114 := NB364_368.out; have hcz115_0 : w110.cell? ⟨gb368, 0, none⟩ = some (.int .i64 0) := (blk_cell BK368.out 0).trans rfl; have hcz115_1 : w110.cell? ⟨gb368, 1, none⟩ = some (.int .i64 0) := (blk_cell BK368.out 1).trans rfl; have hfz115_0 := blk_frozen BK368.out 0; have hfz115_1 := blk_frozen BK368.out 1))
      go_roundg k1
      case measure => have := HK1.out; omega
      case rel => exact ⟨(wrap64 (x21_1 + 1)), (by first | rfl | (simp; done) | (simp [*]; done)), H', ⟨by have := HK1.out; omega⟩, ⟨by (with_reducible repeat (first | refine blk_drewN ?_ _ | refine blk_drew ?_ | refine blk_alloc ?_ _)); refine blk_far ?_ NB358_368.out _; (with_reducible repeat (first | refine blk_drewN ?_ _ | refine blk_drew ?_ | refine blk_alloc ?_ _)); refine blk_far ?_ NB358_368.out _; (with_reducible repeat (first | refine blk_drewN ?_ _ | refine blk_drew ?_ | refine blk_alloc ?_ _)); exact BK358.out⟩, ⟨by (with_reducible repeat (first | refine blk_drewN ?_ _ | refine blk_drew ?_ | refine blk_alloc ?_ _)); refine blk_far ?_ NB359_368.out _; (with_reducible repeat (first | refine blk_drewN ?_ _ | refine blk_drew ?_ | refine blk_alloc ?_ _)); refine blk_far ?_ NB359_368.out _; (with_reducible repeat (first | refine blk_drewN ?_ _ | refine blk_drew ?_ | refine blk_alloc ?_ _)); exact BK359.out⟩, ⟨by (with_reducible repeat (first | refine blk_drewN ?_ _ | refine blk_drew ?_ | refine blk_alloc ?_ _)); refine blk_far ?_ NB360_368.out _; (with_reducible repeat (first | refine blk_drewN ?_ _ | refine blk_drew ?_ | refine blk_alloc ?_ _)); refine blk_far ?_ NB360_368.out _; (with_reducible repeat (first | refine blk_drewN ?_ _ | refine blk_drew ?_ | refine blk_alloc ?_ _)); exact BK360.out⟩, ⟨by repeat (first | (with_reducible first | exact HB.out | apply below_alloc | apply pw_below_drewN | apply below_drew1 | refine below_set ?_ GE358.out | refine below_set ?_ GE359.out | refine below_set ?_ GE360.out | refine below_set ?_ GE364.out | refine below_set ?_ GE368.out) | exact HB.out)⟩⟩
    ·rw [if_neg c25] at H
     have c25b0 : decide (x21_1 < 4) = false := decide_eq_false c25
     clear c25
     replace H := Option.bind_eq_some_iff.mp H
     obtain ⟨⟨t370, t371, t372⟩, A1160, H⟩ := H
     replace H : ((interval_Meet.f t354 t355 t356 t357).bind fun bt374 => (if t372 = true then ((flagstonelaw37_inside.f t354 t355 t370 t371).bind fun t378 => (if t378 = true then ((flagstonelaw37_inside.f t356 t357 t370 t371).bind fun t379 => (if t379 = true then (if t370 = t354 then (if t371 = t355 then (flagstonelaw37_IntervalNests.j1 k1 bt374.2.2 false t354 t355 t356 t357 bt374.1 bt374.2.1) else (flagstonelaw37_IntervalNests.j1 k1 bt374.2.2 (t371 != t357) t354 t355 t356 t357 bt374.1 bt374.2.1)) else (if t370 = t356 then (if t371 = t355 then (flagstonelaw37_IntervalNests.j1 k1 bt374.2.2 false t354 t355 t356 t357 bt374.1 bt374.2.1) else (flagstonelaw37_IntervalNests.j1 k1 bt374.2.2 (t371 != t357) t354 t355 t356 t357 bt374.1 bt374.2.1)) else (flagstonelaw37_IntervalNests.j1 k1 bt374.2.2 true t354 t355 t356 t357 bt374.1 bt374.2.1))) else (flagstonelaw37_IntervalNests.j1 k1 bt374.2.2 true t354 t355 t356 t357 bt374.1 bt374.2.1))) else (flagstonelaw37_IntervalNests.j1 k1 bt374.2.2 true t354 t355 t356 t357 bt374.1 bt374.2.1))) else (flagstonelaw37_IntervalNests.j1 k1 bt374.2.2 true t354 t355 t356 t357 bt374.1 bt374.2.1))) = some r := H
     have A116 := Aside0.mk A1160
     clear A1160
     replace H := Option.bind_eq_some_iff.mp H
     obtain ⟨⟨t374, t375, t376⟩, A1170, H⟩ := H
     replace H : (if t372 = true then ((flagstonelaw37_inside.f t354 t355 t370 t371).bind fun t378 => (if t378 = true then ((flagstonelaw37_inside.f t356 t357 t370 t371).bind fun t379 => (if t379 = true then (if t370 = t354 then (if t371 = t355 then (flagstonelaw37_IntervalNests.j1 k1 t376 false t354 t355 t356 t357 t374 t375) else (flagstonelaw37_IntervalNests.j1 k1 t376 (t371 != t357) t354 t355 t356 t357 t374 t375)) else (if t370 = t356 then (if t371 = t355 then (flagstonelaw37_IntervalNests.j1 k1 t376 false t354 t355 t356 t357 t374 t375) else (flagstonelaw37_IntervalNests.j1 k1 t376 (t371 != t357) t354 t355 t356 t357 t374 t375)) else (flagstonelaw37_IntervalNests.j1 k1 t376 true t354 t355 t356 t357 t374 t375))) else (flagstonelaw37_IntervalNests.j1 k1 t376 true t354 t355 t356 t357 t374 t375))) else (flagstonelaw37_IntervalNests.j1 k1 t376 true t354 t355 t356 t357 t374 t375))) else (flagstonelaw37_IntervalNests.j1 k1 t376 true t354 t355 t356 t357 t374 t375)) = some r := H
     have A117 := Aside0.mk A1170
     clear A1170
     have HC118 := Aside0.mk H
     clear H
     have hnb119 := NB358_359.out
     have hnc119 := NB359_358.out
     have hnb120 := NB358_360.out
     have hnc120 := NB360_358.out
     have hcz121_0 : wr.cell? ⟨gb358, 0, none⟩ = some (.int .i64 t354) := (blk_cell BK358.out 0).trans rfl
     have hcz121_1 : wr.cell? ⟨gb358, 1, none⟩ = some (.int .i64 t355) := (blk_cell BK358.out 1).trans rfl
     have hfz121_0 := blk_frozen BK358.out 0
     have hfz121_1 := blk_frozen BK358.out 1
     have hnb122 := NB359_360.out
     have hnc122 := NB360_359.out
     have hcz123_0 : wr.cell? ⟨gb359, 0, none⟩ = some (.int .i64 t356) := (blk_cell BK359.out 0).trans rfl
     have hcz123_1 : wr.cell? ⟨gb359, 1, none⟩ = some (.int .i64 t357) := (blk_cell BK359.out 1).trans rfl
     have hfz123_0 := blk_frozen BK359.out 0
     have hfz123_1 := blk_frozen BK359.out 1
     go_upto_region 15 with (first | ((with_reducible refine gate_callee (f := 10) rfl ?_); refine goesL_ (some 94) rfl rfl Try.func10 (by kernel_rfl) rfl #[.agg #[.int .i64 t354, .int .i64 t355], .agg #[.int .i64 t356, .int .i64 t357]] rfl (by (try simp only [List.map_toArray, List.map_cons, List.map_nil]); first | done | rfl | (simp only [List.length_drop, List.length_take]; rfl)) ?_; (with_reducible refine (interval_Hull.calls t354 t355 t356 t357 t370 t371 t372 _ A116.out).mono ?_); rintro e w124 ⟨rfl, hb⟩; refine ⟨_, rfl, ?_⟩; have n0_ := Aside0.mk (blk_below (g := gb358) (o := .cells #[.int .i64 t354, .int .i64 t355] 23 (0, 0)) (by (with_reducible repeat (first | refine blk_drewN ?_ _ | refine blk_drew ?_ | refine blk_alloc ?_ _)); exact BK358.out) hb); have n1_ := Aside0.mk (blk_below (g := gb359) (o := .cells #[.int .i64 t356, .int .i64 t357] 23 (0, 0)) (by (with_reducible repeat (first | refine blk_drewN ?_ _ | refine blk_drew ?_ | refine blk_alloc ?_ _)); exact BK359.out) hb); have n2_ := Aside0.mk (blk_below (g := gb360) (o := .cells #[.int .i64 (wrap64 (t354 + (wrap64 ((wrap64 (Int.tdiv (wrap64 (t355 - t354)) 600)) * (wrap64 (a6)))))), .int .i64 (wrap64 (t355 - (wrap64 ((wrap64 (Int.tdiv (wrap64 (t355 - t354)) 600)) * (wrap64 (a7))))))] 23 (0, 0)) (by (with_reducible repeat (first | refine blk_drewN ?_ _ | refine blk_drew ?_ | refine blk_alloc ?_ _)); exact BK360.out) hb); have n3_ := Aside0.mk (below_step (by repeat (first | (with_reducible first | exact HB.out | apply below_alloc | apply pw_below_drewN | apply below_drew1 | refine below_set ?_ GE358.out | refine below_set ?_ GE359.out | refine below_set ?_ GE360.out) | exact HB.out)) hb); clear BK358; clear BK359; clear BK360; clear HB; have BK358 := n0_; have BK359 := n1_; have BK360 := n2_; have HB := n3_; clear n0_ n1_ n2_ n3_; (try clear hb); (try clear hb2); (try clear hk); (try clear hi)) | ((with_reducible refine gate_dst (N := 26) rfl ?_); refine box_event ?hg (N := 26) ?hd (cs := #[.int .i64 0, .int .i64 0]) (t := 23) ?hr ?_; (case hd => rfl); (case hg => rfl); (case hr => first | (go_simp; done) | (go_simp; rfl)); intro gb373 hg w125 hbox hb; have n0_ := Aside0.mk (blk_below (g := gb358) (o := .cells #[.int .i64 t354, .int .i64 t355] 23 (0, 0)) (by (with_reducible repeat (first | refine blk_drewN ?_ _ | refine blk_drew ?_ | refine blk_alloc ?_ _)); exact BK358.out) hb); have n1_ := Aside0.mk (blk_below (g := gb359) (o := .cells #[.int .i64 t356, .int .i64 t357] 23 (0, 0)) (by (with_reducible repeat (first | refine blk_drewN ?_ _ | refine blk_drew ?_ | refine blk_alloc ?_ _)); exact BK359.out) hb); have n2_ := Aside0.mk (blk_below (g := gb360) (o := .cells #[.int .i64 (wrap64 (t354 + (wrap64 ((wrap64 (Int.tdiv (wrap64 (t355 - t354)) 600)) * (wrap64 (a6)))))), .int .i64 (wrap64 (t355 - (wrap64 ((wrap64 (Int.tdiv (wrap64 (t355 - t354)) 600)) * (wrap64 (a7))))))] 23 (0, 0)) (by (with_reducible repeat (first | refine blk_drewN ?_ _ | refine blk_drew ?_ | refine blk_alloc ?_ _)); exact BK360.out) hb); have n3_ := Aside0.mk (below_step (by repeat (first | (with_reducible first | exact HB.out | apply below_alloc | apply pw_below_drewN | apply below_drew1 | refine below_set ?_ GE358.out | refine below_set ?_ GE359.out | refine below_set ?_ GE360.out) | exact HB.out)) hb); have n4_ := Aside0.mk (hbox); have n5_ := Aside0.mk ((by rw [hg]; exact (below_size (by repeat (first | (with_reducible first | exact HB.out | apply below_alloc | apply pw_below_drewN | apply below_drew1 | refine below_set ?_ GE358.out | refine below_set ?_ GE359.out | refine below_set ?_ GE360.out) | exact HB.out))) : w.heap.size ≤ gb373)); have n6_ := Aside0.mk ((by rw [hg]; exact (below_size (by repeat (first | (with_reducible first | exact HB.out | apply below_alloc | apply pw_below_drewN | apply below_drew1 | refine below_set ?_ GE358.out | refine below_set ?_ GE359.out | refine below_set ?_ GE360.out) | exact HB.out))) : w.heap.size ≤ gb373)); have n7_ := Aside0.mk ((by rw [hg]; exact Nat.ne_of_lt (blk_lt (g := gb358) (o := .cells #[.int .i64 t354, .int .i64 t355] 23 (0, 0)) (by (with_reducible repeat (first | refine blk_drewN ?_ _ | refine blk_drew ?_ | refine blk_alloc ?_ _)); exact BK358.out)) : gb358 ≠ gb373)); have n8_ := Aside0.mk ((by rw [hg]; exact Nat.ne_of_gt (blk_lt (g := gb358) (o := .cells #[.int .i64 t354, .int .i64 t355] 23 (0, 0)) (by (with_reducible repeat (first | refine blk_drewN ?_ _ | refine blk_drew ?_ | refine blk_alloc ?_ _)); exact BK358.out)) : gb373 ≠ gb358)); have n9_ := Aside0.mk ((by rw [hg]; exact Nat.ne_of_lt (blk_lt (g := gb359) (o := .cells #[.int .i64 t356, .int .i64 t357] 23 (0, 0)) (by (with_reducible repeat (first | refine blk_drewN ?_ _ | refine blk_drew ?_ | refine blk_alloc ?_ _)); exact BK359.out)) : gb359 ≠ gb373)); have n10_ := Aside0.mk ((by rw [hg]; exact Nat.ne_of_gt (blk_lt (g := gb359) (o := .cells #[.int .i64 t356, .int .i64 t357] 23 (0, 0)) (by (with_reducible repeat (first | refine blk_drewN ?_ _ | refine blk_drew ?_ | refine blk_alloc ?_ _)); exact BK359.out)) : gb373 ≠ gb359)); have n11_ := Aside0.mk ((by rw [hg]; exact Nat.ne_of_lt (blk_lt (g := gb360) (o := .cells #[.int .i64 (wrap64 (t354 + (wrap64 ((wrap64 (Int.tdiv (wrap64 (t355 - t354)) 600)) * (wrap64 (a6)))))), .int .i64 (wrap64 (t355 - (wrap64 ((wrap64 (Int.tdiv (wrap64 (t355 - t354)) 600)) * (wrap64 (a7))))))] 23 (0, 0)) (by (with_reducible repeat (first | refine blk_drewN ?_ _ | refine blk_drew ?_ | refine blk_alloc ?_ _)); exact BK360.out)) : gb360 ≠ gb373)); have n12_ := Aside0.mk ((by rw [hg]; exact Nat.ne_of_gt (blk_lt (g := gb360) (o := .cells #[.int .i64 (wrap64 (t354 + (wrap64 ((wrap64 (Int.tdiv (wrap64 (t355 - t354)) 600)) * (wrap64 (a6)))))), .int .i64 (wrap64 (t355 - (wrap64 ((wrap64 (Int.tdiv (wrap64 (t355 - t354)) 600)) * (wrap64 (a7))))))] 23 (0, 0)) (by (with_reducible repeat (first | refine blk_drewN ?_ _ | refine blk_drew ?_ | refine blk_alloc ?_ _)); exact BK360.out)) : gb373 ≠ gb360)); clear BK358; clear BK359; clear BK360; clear HB; have BK358 := n0_; have BK359 := n1_; have BK360 := n2_; have HB := n3_; have BK373 := n4_; have GW373 := n5_; have GE373 := n6_; have NB358_373 := n7_; have NB373_358 := n8_; have NB359_373 := n9_; have NB373_359 := n10_; have NB360_373 := n11_; have NB373_360 := n12_; clear n0_ n1_ n2_ n3_ n4_ n5_ n6_ n7_ n8_ n9_ n10_ n11_ n12_; clear hb hbox hg; have hnb126 := NB373_358.out; have hnc126 := NB358_373.out; have hnb127 := NB373_359.out; have hnc127 := NB359_373.out; have hnb128 := NB373_360.out; have hnc128 := NB360_373.out; have hcz129_0 : w125.cell? ⟨gb373, 0, none⟩ = some (.int .i64 0) := (blk_cell BK373.out 0).trans rfl; have hcz129_1 : w125.cell? ⟨gb373, 1, none⟩ = some (.int .i64 0) := (blk_cell BK373.out 1).trans rfl; have hfz129_0 := blk_frozen BK373.out 0; have hfz129_1 := blk_frozen BK373.out 1; have hcz130_0 : w125.cell? ⟨gb358, 0, none⟩ = some (.int .i64 t354) := (blk_cell BK358.out 0).trans rfl; have hcz130_1 : w125.cell? ⟨gb358, 1, none⟩ = some (.int .i64 t355) := (blk_cell BK358.out 1).trans rfl; have hfz130_0 := blk_frozen BK358.out 0; have hfz130_1 := blk_frozen BK358.out 1; have hcz131_0 : w125.cell? ⟨gb359, 0, none⟩ = some (.int .i64 t356) := (blk_cell BK359.out 0).trans rfl; have hcz131_1 : w125.cell? ⟨gb359, 1, none⟩ = some (.int .i64 t357) := (blk_cell BK359.out 1).trans rfl; have hfz131_0 := blk_frozen BK359.out 0; have hfz131_1 := blk_frozen BK359.out 1) | ((with_reducible refine gate_callee (f := 11) rfl ?_); refine goesL_ (some 100) rfl rfl Try.func11 (by kernel_rfl) rfl #[.agg #[.int .i64 t354, .int .i64 t355], .agg #[.int .i64 t356, .int .i64 t357]] rfl (by (try simp only [List.map_toArray, List.map_cons, List.map_nil]); first | done | rfl | (simp only [List.length_drop, List.length_take]; rfl)) ?_; (with_reducible refine (interval_Meet.calls t354 t355 t356 t357 t374 t375 t376 _ A117.out).mono ?_); rintro e w132 ⟨rfl, hb⟩; refine ⟨_, rfl, ?_⟩; have n0_ := Aside0.mk (blk_below (g := gb358) (o := .cells #[.int .i64 t354, .int .i64 t355] 23 (0, 0)) (by (with_reducible repeat (first | refine blk_drewN ?_ _ | refine blk_drew ?_ | refine blk_alloc ?_ _)); refine blk_far ?_ NB358_373.out _; (with_reducible repeat (first | refine blk_drewN ?_ _ | refine blk_drew ?_ | refine blk_alloc ?_ _)); refine blk_far ?_ NB358_373.out _; (with_reducible repeat (first | refine blk_drewN ?_ _ | refine blk_drew ?_ | refine blk_alloc ?_ _)); exact BK358.out) hb); have n1_ := Aside0.mk (blk_below (g := gb359) (o := .cells #[.int .i64 t356, .int .i64 t357] 23 (0, 0)) (by (with_reducible repeat (first | refine blk_drewN ?_ _ | refine blk_drew ?_ | refine blk_alloc ?_ _)); refine blk_far ?_ NB359_373.out _; (with_reducible repeat (first | refine blk_drewN ?_ _ | refine blk_drew ?_ | refine blk_alloc ?_ _)); refine blk_far ?_ NB359_373.out _; (with_reducible repeat (first | refine blk_drewN ?_ _ | refine blk_drew ?_ | refine blk_alloc ?_ _)); exact BK359.out) hb); have n2_ := Aside0.mk (blk_below (g := gb360) (o := .cells #[.int .i64 (wrap64 (t354 + (wrap64 ((wrap64 (Int.tdiv (wrap64 (t355 - t354)) 600)) * (wrap64 (a6)))))), .int .i64 (wrap64 (t355 - (wrap64 ((wrap64 (Int.tdiv (wrap64 (t355 - t354)) 600)) * (wrap64 (a7))))))] 23 (0, 0)) (by (with_reducible repeat (first | refine blk_drewN ?_ _ | refine blk_drew ?_ | refine blk_alloc ?_ _)); refine blk_far ?_ NB360_373.out _; (with_reducible repeat (first | refine blk_drewN ?_ _ | refine blk_drew ?_ | refine blk_alloc ?_ _)); refine blk_far ?_ NB360_373.out _; (with_reducible repeat (first | refine blk_drewN ?_ _ | refine blk_drew ?_ | refine blk_alloc ?_ _)); exact BK360.out) hb); have n3_ := Aside0.mk (blk_below (g := gb373) (o := .cells #[.int .i64 t370, .int .i64 t371] 23 (0, 0)) (by (with_reducible repeat (first | refine blk_drewN ?_ _ | refine blk_drew ?_ | refine blk_alloc ?_ _)); refine blk_put (cs := #[.int .i64 t370, .int .i64 0]) ?_ 1 _ rfl; (with_reducible repeat (first | refine blk_drewN ?_ _ | refine blk_drew ?_ | refine blk_alloc ?_ _)); refine blk_put (cs := #[.int .i64 0, .int .i64 0]) ?_ 0 _ rfl; (with_reducible repeat (first | refine blk_drewN ?_ _ | refine blk_drew ?_ | refine blk_alloc ?_ _)); exact BK373.out) hb); have n4_ := Aside0.mk (below_step (by repeat (first | (with_reducible first | exact HB.out | apply below_alloc | apply pw_below_drewN | apply below_drew1 | refine below_set ?_ GE358.out | refine below_set ?_ GE359.out | refine below_set ?_ GE360.out | refine below_set ?_ GE373.out) | exact HB.out)) hb); clear BK358; clear BK359; clear BK360; clear BK373; clear HB; have BK358 := n0_; have BK359 := n1_; have BK360 := n2_; have BK373 := n3_; have HB := n4_; clear n0_ n1_ n2_ n3_ n4_; (try clear hb); (try clear hb2); (try clear hk); (try clear hi)) | ((with_reducible refine gate_dst (N := 28) rfl ?_); refine box_event ?hg (N := 28) ?hd (cs := #[.int .i64 0, .int .i64 0]) (t := 23) ?hr ?_; (case hd => rfl); (case hg => rfl); (case hr => first | (go_simp; done) | (go_simp; rfl)); intro gb377 hg w133 hbox hb; have n0_ := Aside0.mk (blk_below (g := gb358) (o := .cells #[.int .i64 t354, .int .i64 t355] 23 (0, 0)) (by (with_reducible repeat (first | refine blk_drewN ?_ _ | refine blk_drew ?_ | refine blk_alloc ?_ _)); exact BK358.out) hb); have n1_ := Aside0.mk (blk_below (g := gb359) (o := .cells #[.int .i64 t356, .int .i64 t357] 23 (0, 0)) (by (with_reducible repeat (first | refine blk_drewN ?_ _ | refine blk_drew ?_ | refine blk_alloc ?_ _)); exact BK359.out) hb); have n2_ := Aside0.mk (blk_below (g := gb360) (o := .cells #[.int .i64 (wrap64 (t354 + (wrap64 ((wrap64 (Int.tdiv (wrap64 (t355 - t354)) 600)) * (wrap64 (a6)))))), .int .i64 (wrap64 (t355 - (wrap64 ((wrap64 (Int.tdiv (wrap64 (t355 - t354)) 600)) * (wrap64 (a7))))))] 23 (0, 0)) (by (with_reducible repeat (first | refine blk_drewN ?_ _ | refine blk_drew ?_ | refine blk_alloc ?_ _)); exact BK360.out) hb); have n3_ := Aside0.mk (blk_below (g := gb373) (o := .cells #[.int .i64 t370, .int .i64 t371] 23 (0, 0)) (by (with_reducible repeat (first | refine blk_drewN ?_ _ | refine blk_drew ?_ | refine blk_alloc ?_ _)); exact BK373.out) hb); have n4_ := Aside0.mk (below_step (by repeat (first | (with_reducible first | exact HB.out | apply below_alloc | apply pw_below_drewN | apply below_drew1 | refine below_set ?_ GE358.out | refine below_set ?_ GE359.out | refine below_set ?_ GE360.out | refine below_set ?_ GE373.out) | exact HB.out)) hb); have n5_ := Aside0.mk (hbox); have n6_ := Aside0.mk ((by rw [hg]; exact (below_size (by repeat (first | (with_reducible first | exact HB.out | apply below_alloc | apply pw_below_drewN | apply below_drew1 | refine below_set ?_ GE358.out | refine below_set ?_ GE359.out | refine below_set ?_ GE360.out | refine below_set ?_ GE373.out) | exact HB.out))) : w.heap.size ≤ gb377)); have n7_ := Aside0.mk ((by rw [hg]; exact (below_size (by repeat (first | (with_reducible first | exact HB.out | apply below_alloc | apply pw_below_drewN | apply below_drew1 | refine below_set ?_ GE358.out | refine below_set ?_ GE359.out | refine below_set ?_ GE360.out | refine below_set ?_ GE373.out) | exact HB.out))) : w.heap.size ≤ gb377)); have n8_ := Aside0.mk ((by rw [hg]; exact Nat.ne_of_lt (blk_lt (g := gb358) (o := .cells #[.int .i64 t354, .int .i64 t355] 23 (0, 0)) (by (with_reducible repeat (first | refine blk_drewN ?_ _ | refine blk_drew ?_ | refine blk_alloc ?_ _)); exact BK358.out)) : gb358 ≠ gb377)); have n9_ := Aside0.mk ((by rw [hg]; exact Nat.ne_of_gt (blk_lt (g := gb358) (o := .cells #[.int .i64 t354, .int .i64 t355] 23 (0, 0)) (by (with_reducible repeat (first | refine blk_drewN ?_ _ | refine blk_drew ?_ | refine blk_alloc ?_ _)); exact BK358.out)) : gb377 ≠ gb358)); have n10_ := Aside0.mk ((by rw [hg]; exact Nat.ne_of_lt (blk_lt (g := gb359) (o := .cells #[.int .i64 t356, .int .i64 t357] 23 (0, 0)) (by (with_reducible repeat (first | refine blk_drewN ?_ _ | refine blk_drew ?_ | refine blk_alloc ?_ _)); exact BK359.out)) : gb359 ≠ gb377)); have n11_ := Aside0.mk ((by rw [hg]; exact Nat.ne_of_gt (blk_lt (g := gb359) (o := .cells #[.int .i64 t356, .int .i64 t357] 23 (0, 0)) (by (with_reducible repeat (first | refine blk_drewN ?_ _ | refine blk_drew ?_ | refine blk_alloc ?_ _)); exact BK359.out)) : gb377 ≠ gb359)); have n12_ := Aside0.mk ((by rw [hg]; exact Nat.ne_of_lt (blk_lt (g := gb360) (o := .cells #[.int .i64 (wrap64 (t354 + (wrap64 ((wrap64 (Int.tdiv (wrap64 (t355 - t354)) 600)) * (wrap64 (a6)))))), .int .i64 (wrap64 (t355 - (wrap64 ((wrap64 (Int.tdiv (wrap64 (t355 - t354)) 600)) * (wrap64 (a7))))))] 23 (0, 0)) (by (with_reducible repeat (first | refine blk_drewN ?_ _ | refine blk_drew ?_ | refine blk_alloc ?_ _)); exact BK360.out)) : gb360 ≠ gb377)); have n13_ := Aside0.mk ((by rw [hg]; exact Nat.ne_of_gt (blk_lt (g := gb360) (o := .cells #[.int .i64 (wrap64 (t354 + (wrap64 ((wrap64 (Int.tdiv (wrap64 (t355 - t354)) 600)) * (wrap64 (a6)))))), .int .i64 (wrap64 (t355 - (wrap64 ((wrap64 (Int.tdiv (wrap64 (t355 - t354)) 600)) * (wrap64 (a7))))))] 23 (0, 0)) (by (with_reducible repeat (first | refine blk_drewN ?_ _ | refine blk_drew ?_ | refine blk_alloc ?_ _)); exact BK360.out)) : gb377 ≠ gb360)); have n14_ := Aside0.mk ((by rw [hg]; exact Nat.ne_of_lt (blk_lt (g := gb373) (o := .cells #[.int .i64 t370, .int .i64 t371] 23 (0, 0)) (by (with_reducible repeat (first | refine blk_drewN ?_ _ | refine blk_drew ?_ | refine blk_alloc ?_ _)); exact BK373.out)) : gb373 ≠ gb377)); have n15_ := Aside0.mk ((by rw [hg]; exact Nat.ne_of_gt (blk_lt (g := gb373) (o := .cells #[.int .i64 t370, .int .i64 t371] 23 (0, 0)) (by (with_reducible repeat (first | refine blk_drewN ?_ _ | refine blk_drew ?_ | refine blk_alloc ?_ _)); exact BK373.out)) : gb377 ≠ gb373)); clear BK358; clear BK359; clear BK360; clear BK373; clear HB; have BK358 := n0_; have BK359 := n1_; have BK360 := n2_; have BK373 := n3_; have HB := n4_; have BK377 := n5_; have GW377 := n6_; have GE377 := n7_; have NB358_377 := n8_; have NB377_358 := n9_; have NB359_377 := n10_; have NB377_359 := n11_; have NB360_377 := n12_; have NB377_360 := n13_; have NB373_377 := n14_; have NB377_373 := n15_; clear n0_ n1_ n2_ n3_ n4_ n5_ n6_ n7_ n8_ n9_ n10_ n11_ n12_ n13_ n14_ n15_; clear hb hbox hg; have hnb134 := NB377_358.out; have hnc134 := NB358_377.out; have hnb135 := NB377_359.out; have hnc135 := NB359_377.out; have hnb136 := NB377_360.out; have hnc136 := NB360_377.out; have hnb137 := NB377_373.out; have hnc137 := NB373_377.out; have hcz138_0 : w133.cell? ⟨gb377, 0, none⟩ = some (.int .i64 0) := (blk_cell BK377.out 0).trans rfl; have hcz138_1 : w133.cell? ⟨gb377, 1, none⟩ = some (.int .i64 0) := (blk_cell BK377.out 1).trans rfl; have hfz138_0 := blk_frozen BK377.out 0; have hfz138_1 := blk_frozen BK377.out 1))
     (try simp only [Act.put, List.setIfInBounds_toArray, List.set_cons_zero, List.set_cons_succ])
     go_cut [144] (fun v144 wc => ∃ (kq : Nat) (x144_117 : Bool), v144 = .bool x144_117 ∧ Aside0 (flagstonelaw37_IntervalNests.j1 kq t376 x144_117 t354 t355 t356 t357 t374 t375 = some r) ∧ Aside0 (kq ≤ k1) ∧ Aside0 (wc.heap[gb358]? = some (.cells #[.int .i64 t354, .int .i64 t355] 23 (0, 0))) ∧ Aside0 (wc.heap[gb359]? = some (.cells #[.int .i64 t356, .int .i64 t357] 23 (0, 0))) ∧ Aside0 (wc.heap[gb360]? = some (.cells #[.int .i64 (wrap64 (t354 + (wrap64 ((wrap64 (Int.tdiv (wrap64 (t355 - t354)) 600)) * (wrap64 (a6)))))), .int .i64 (wrap64 (t355 - (wrap64 ((wrap64 (Int.tdiv (wrap64 (t355 - t354)) 600)) * (wrap64 (a7))))))] 23 (0, 0))) ∧ Aside0 (wc.heap[gb373]? = some (.cells #[.int .i64 t370, .int .i64 t371] 23 (0, 0))) ∧ Aside0 (wc.heap[gb377]? = some (.cells #[.int .i64 t374, .int .i64 t375] 23 (0, 0))) ∧ Aside0 (Below w.heap.size w wc))
     case first =>
      have H := HC118.out
      clear HC118
      by_cases c139 : t372 = true
      ·subst c139
       have H1 : ((flagstonelaw37_inside.f t354 t355 t370 t371).bind fun t378 => (if t378 = true then ((flagstonelaw37_inside.f t356 t357 t370 t371).bind fun t379 => (if t379 = true then (if t370 = t354 then (if t371 = t355 then (flagstonelaw37_IntervalNests.j1 k1 t376 false t354 t355 t356 t357 t374 t375) else (flagstonelaw37_IntervalNests.j1 k1 t376 (t371 != t357) t354 t355 t356 t357 t374 t375)) else (if t370 = t356 then (if t371 = t355 then (flagstonelaw37_IntervalNests.j1 k1 t376 false t354 t355 t356 t357 t374 t375) else (flagstonelaw37_IntervalNests.j1 k1 t376 (t371 != t357) t354 t355 t356 t357 t374 t375)) else (flagstonelaw37_IntervalNests.j1 k1 t376 true t354 t355 t356 t357 t374 t375))) else (flagstonelaw37_IntervalNests.j1 k1 t376 true t354 t355 t356 t357 t374 t375))) else (flagstonelaw37_IntervalNests.j1 k1 t376 true t354 t355 t356 t357 t374 t375))) = some r := by rw [if_pos rfl] at H; exact H
       clear H
       have H := H1
       clear H1
       replace H := Option.bind_eq_some_iff.mp H
       obtain ⟨t378, A1400, H⟩ := H
       replace H : (if t378 = true then ((flagstonelaw37_inside.f t356 t357 t370 t371).bind fun t379 => (if t379 = true then (if t370 = t354 then (if t371 = t355 then (flagstonelaw37_IntervalNests.j1 k1 t376 false t354 t355 t356 t357 t374 t375) else (flagstonelaw37_IntervalNests.j1 k1 t376 (t371 != t357) t354 t355 t356 t357 t374 t375)) else (if t370 = t356 then (if t371 = t355 then (flagstonelaw37_IntervalNests.j1 k1 t376 false t354 t355 t356 t357 t374 t375) else (flagstonelaw37_IntervalNests.j1 k1 t376 (t371 != t357) t354 t355 t356 t357 t374 t375)) else (flagstonelaw37_IntervalNests.j1 k1 t376 true t354 t355 t356 t357 t374 t375))) else (flagstonelaw37_IntervalNests.j1 k1 t376 true t354 t355 t356 t357 t374 t375))) else (flagstonelaw37_IntervalNests.j1 k1 t376 true t354 t355 t356 t357 t374 t375)) = some r := H
       have A140 := Aside0.mk A1400
       clear A1400
       by_cases c141 : t378 = true
       ·subst c141
        have H1 : ((flagstonelaw37_inside.f t356 t357 t370 t371).bind fun t379 => (if t379 = true then (if t370 = t354 then (if t371 = t355 then (flagstonelaw37_IntervalNests.j1 k1 t376 false t354 t355 t356 t357 t374 t375) else (flagstonelaw37_IntervalNests.j1 k1 t376 (t371 != t357) t354 t355 t356 t357 t374 t375)) else (if t370 = t356 then (if t371 = t355 then (flagstonelaw37_IntervalNests.j1 k1 t376 false t354 t355 t356 t357 t374 t375) else (flagstonelaw37_IntervalNests.j1 k1 t376 (t371 != t357) t354 t355 t356 t357 t374 t375)) else (flagstonelaw37_IntervalNests.j1 k1 t376 true t354 t355 t356 t357 t374 t375))) else (flagstonelaw37_IntervalNests.j1 k1 t376 true t354 t355 t356 t357 t374 t375))) = some r := by rw [if_pos rfl] at H; exact H
        clear H
        have H := H1
        clear H1
        replace H := Option.bind_eq_some_iff.mp H
        obtain ⟨t379, A1420, H⟩ := H
        replace H : (if t379 = true then (if t370 = t354 then (if t371 = t355 then (flagstonelaw37_IntervalNests.j1 k1 t376 false t354 t355 t356 t357 t374 t375) else (flagstonelaw37_IntervalNests.j1 k1 t376 (t371 != t357) t354 t355 t356 t357 t374 t375)) else (if t370 = t356 then (if t371 = t355 then (flagstonelaw37_IntervalNests.j1 k1 t376 false t354 t355 t356 t357 t374 t375) else (flagstonelaw37_IntervalNests.j1 k1 t376 (t371 != t357) t354 t355 t356 t357 t374 t375)) else (flagstonelaw37_IntervalNests.j1 k1 t376 true t354 t355 t356 t357 t374 t375))) else (flagstonelaw37_IntervalNests.j1 k1 t376 true t354 t355 t356 t357 t374 t375)) = some r := H
        have A142 := Aside0.mk A1420
        clear A1420
        by_cases c143 : t379 = true
        ·subst c143
         have H1 : (if t370 = t354 then (if t371 = t355 then (flagstonelaw37_IntervalNests.j1 k1 t376 false t354 t355 t356 t357 t374 t375) else (flagstonelaw37_IntervalNests.j1 k1 t376 (t371 != t357) t354 t355 t356 t357 t374 t375)) else (if t370 = t356 then (if t371 = t355 then (flagstonelaw37_IntervalNests.j1 k1 t376 false t354 t355 t356 t357 t374 t375) else (flagstonelaw37_IntervalNests.j1 k1 t376 (t371 != t357) t354 t355 t356 t357 t374 t375)) else (flagstonelaw37_IntervalNests.j1 k1 t376 true t354 t355 t356 t357 t374 t375))) = some r := by rw [if_pos rfl] at H; exact H
         clear H
         have H := H1
         clear H1
         by_cases c144 : t370 = t354
         ·rw [if_pos c144] at H
          have c144b0 : (t370 == t354) = true := beq_iff_eq.mpr c144
          have c144b1 : (t370 != t354) = false := bne_eq_false_iff_eq.mpr c144
          clear c144
          (first | rw [c144b0] | (simp only [i64_w, i32_w]; rw [c144b0]) | skip)
          by_cases c145 : t371 = t355
          ·rw [if_pos c145] at H
           have c145b0 : (t371 == t355) = true := beq_iff_eq.mpr c145
           have c145b1 : (t371 != t355) = false := bne_eq_false_iff_eq.mpr c145
           clear c145
           have H' := Aside0.mk H
           clear H
           have hnb146 := NB358_359.out
           have hnc146 := NB359_358.out
           have hnb147 := NB358_360.out
           have hnc147 := NB360_358.out
           have hnb148 := NB358_373.out
           have hnc148 := NB373_358.out
           have hnb149 := NB358_377.out
           have hnc149 := NB377_358.out
           have hcz150_0 : w133.cell? ⟨gb358, 0, none⟩ = some (.int .i64 t354) := (blk_cell BK358.out 0).trans rfl
           have hcz150_1 : w133.cell? ⟨gb358, 1, none⟩ = some (.int .i64 t355) := (blk_cell BK358.out 1).trans rfl
           have hfz150_0 := blk_frozen BK358.out 0
           have hfz150_1 := blk_frozen BK358.out 1
           have hnb151 := NB373_359.out
           have hnc151 := NB359_373.out
           have hnb152 := NB373_360.out
           have hnc152 := NB360_373.out
           have hnb153 := NB373_377.out
           have hnc153 := NB377_373.out
           have hcz154_0 : w133.cell? ⟨gb373, 0, none⟩ = some (.int .i64 t370) := (blk_cell BK373.out 0).trans rfl
           have hcz154_1 : w133.cell? ⟨gb373, 1, none⟩ = some (.int .i64 t371) := (blk_cell BK373.out 1).trans rfl
           have hfz154_0 := blk_frozen BK373.out 0
           have hfz154_1 := blk_frozen BK373.out 1
           go_wp2_with (first | (go_at_call 9; (with_reducible refine (flagstonelaw37_inside.calls t354 t355 t370 t371 true _ A140.out).mono ?_); rintro e w155 ⟨rfl, hb⟩; have n0_ := Aside0.mk (blk_below (g := gb358) (o := .cells #[.int .i64 t354, .int .i64 t355] 23 (0, 0)) (by (with_reducible repeat (first | refine blk_drewN ?_ _ | refine blk_drew ?_ | refine blk_alloc ?_ _)); refine blk_far ?_ NB358_377.out _; (with_reducible repeat (first | refine blk_drewN ?_ _ | refine blk_drew ?_ | refine blk_alloc ?_ _)); refine blk_far ?_ NB358_377.out _; (with_reducible repeat (first | refine blk_drewN ?_ _ | refine blk_drew ?_ | refine blk_alloc ?_ _)); exact BK358.out) hb); have n1_ := Aside0.mk (blk_below (g := gb359) (o := .cells #[.int .i64 t356, .int .i64 t357] 23 (0, 0)) (by (with_reducible repeat (first | refine blk_drewN ?_ _ | refine blk_drew ?_ | refine blk_alloc ?_ _)); refine blk_far ?_ NB359_377.out _; (with_reducible repeat (first | refine blk_drewN ?_ _ | refine blk_drew ?_ | refine blk_alloc ?_ _)); refine blk_far ?_ NB359_377.out _; (with_reducible repeat (first | refine blk_drewN ?_ _ | refine blk_drew ?_ | refine blk_alloc ?_ _)); exact BK359.out) hb); have n2_ := Aside0.mk (blk_below (g := gb360) (o := .cells #[.int .i64 (wrap64 (t354 + (wrap64 ((wrap64 (Int.tdiv (wrap64 (t355 - t354)) 600)) * (wrap64 (a6)))))), .int .i64 (wrap64 (t355 - (wrap64 ((wrap64 (Int.tdiv (wrap64 (t355 - t354)) 600)) * (wrap64 (a7))))))] 23 (0, 0)) (by (with_reducible repeat (first | refine blk_drewN ?_ _ | refine blk_drew ?_ | refine blk_alloc ?_ _)); refine blk_far ?_ NB360_377.out _; (with_reducible repeat (first | refine blk_drewN ?_ _ | refine blk_drew ?_ | refine blk_alloc ?_ _)); refine blk_far ?_ NB360_377.out _; (with_reducible repeat (first | refine blk_drewN ?_ _ | refine blk_drew ?_ | refine blk_alloc ?_ _)); exact BK360.out) hb); have n3_ := Aside0.mk (blk_below (g := gb373) (o := .cells #[.int .i64 t370, .int .i64 t371] 23 (0, 0)) (by (with_reducible repeat (first | refine blk_drewN ?_ _ | refine blk_drew ?_ | refine blk_alloc ?_ _)); refine blk_far ?_ NB373_377.out _; (with_reducible repeat (first | refine blk_drewN ?_ _ | refine blk_drew ?_ | refine blk_alloc ?_ _)); refine blk_far ?_ NB373_377.out _; (with_reducible repeat (first | refine blk_drewN ?_ _ | refine blk_drew ?_ | refine blk_alloc ?_ _)); exact BK373.out) hb); have n4_ := Aside0.mk (blk_below (g := gb377) (o := .cells #[.int .i64 t374, .int .i64 t375] 23 (0, 0)) (by (with_reducible repeat (first | refine blk_drewN ?_ _ | refine blk_drew ?_ | refine blk_alloc ?_ _)); refine blk_put (cs := #[.int .i64 t374, .int .i64 0]) ?_ 1 _ rfl; (with_reducible repeat (first | refine blk_drewN ?_ _ | refine blk_drew ?_ | refine blk_alloc ?_ _)); refine blk_put (cs := #[.int .i64 0, .int .i64 0]) ?_ 0 _ rfl; (with_reducible repeat (first | refine blk_drewN ?_ _ | refine blk_drew ?_ | refine blk_alloc ?_ _)); exact BK377.out) hb); have n5_ := Aside0.mk (below_step (by repeat (first | (with_reducible first | exact HB.out | apply below_alloc | apply pw_below_drewN | apply below_drew1 | refine below_set ?_ GE358.out | refine below_set ?_ GE359.out | refine below_set ?_ GE360.out | refine below_set ?_ GE373.out | refine below_set ?_ GE377.out) | exact HB.out)) hb); clear BK358; clear BK359; clear BK360; clear BK373; clear BK377; clear HB; have BK358 := n0_; have BK359 := n1_; have BK360 := n2_; have BK373 := n3_; have BK377 := n4_; have HB := n5_; clear n0_ n1_ n2_ n3_ n4_ n5_; (try clear hb); (try clear hb2); (try clear hk); (try clear hi); have hnb156 := NB359_360.out; have hnc156 := NB360_359.out; have hnb157 := NB359_377.out; have hnc157 := NB377_359.out; have hcz158_0 : w155.cell? ⟨gb359, 0, none⟩ = some (.int .i64 t356) := (blk_cell BK359.out 0).trans rfl; have hcz158_1 : w155.cell? ⟨gb359, 1, none⟩ = some (.int .i64 t357) := (blk_cell BK359.out 1).trans rfl; have hfz158_0 := blk_frozen BK359.out 0; have hfz158_1 := blk_frozen BK359.out 1; have hcz159_0 : w155.cell? ⟨gb373, 0, none⟩ = some (.int .i64 t370) := (blk_cell BK373.out 0).trans rfl; have hcz159_1 : w155.cell? ⟨gb373, 1, none⟩ = some (.int .i64 t371) := (blk_cell BK373.out 1).trans rfl; have hfz159_0 := blk_frozen BK373.out 0; have hfz159_1 := blk_frozen BK373.out 1) | (go_at_call 9; (with_reducible refine (flagstonelaw37_inside.calls t356 t357 t370 t371 true _ A142.out).mono ?_); rintro e w160 ⟨rfl, hb⟩; have n0_ := Aside0.mk (blk_below (g := gb358) (o := .cells #[.int .i64 t354, .int .i64 t355] 23 (0, 0)) (by (with_reducible repeat (first | refine blk_drewN ?_ _ | refine blk_drew ?_ | refine blk_alloc ?_ _)); exact BK358.out) hb); have n1_ := Aside0.mk (blk_below (g := gb359) (o := .cells #[.int .i64 t356, .int .i64 t357] 23 (0, 0)) (by (with_reducible repeat (first | refine blk_drewN ?_ _ | refine blk_drew ?_ | refine blk_alloc ?_ _)); exact BK359.out) hb); have n2_ := Aside0.mk (blk_below (g := gb360) (o := .cells #[.int .i64 (wrap64 (t354 + (wrap64 ((wrap64 (Int.tdiv (wrap64 (t355 - t354)) 600)) * (wrap64 (a6)))))), .int .i64 (wrap64 (t355 - (wrap64 ((wrap64 (Int.tdiv (wrap64 (t355 - t354)) 600)) * (wrap64 (a7))))))] 23 (0, 0)) (by (with_reducible repeat (first | refine blk_drewN ?_ _ | refine blk_drew ?_ | refine blk_alloc ?_ _)); exact BK360.out) hb); have n3_ := Aside0.mk (blk_below (g := gb373) (o := .cells #[.int .i64 t370, .int .i64 t371] 23 (0, 0)) (by (with_reducible repeat (first | refine blk_drewN ?_ _ | refine blk_drew ?_ | refine blk_alloc ?_ _)); exact BK373.out) hb); have n4_ := Aside0.mk (blk_below (g := gb377) (o := .cells #[.int .i64 t374, .int .i64 t375] 23 (0, 0)) (by (with_reducible repeat (first | refine blk_drewN ?_ _ | refine blk_drew ?_ | refine blk_alloc ?_ _)); exact BK377.out) hb); have n5_ := Aside0.mk (below_step (by repeat (first | (with_reducible first | exact HB.out | apply below_alloc | apply pw_below_drewN | apply below_drew1 | refine below_set ?_ GE358.out | refine below_set ?_ GE359.out | refine below_set ?_ GE360.out | refine below_set ?_ GE373.out | refine below_set ?_ GE377.out) | exact HB.out)) hb); clear BK358; clear BK359; clear BK360; clear BK373; clear BK377; clear HB; have BK358 := n0_; have BK359 := n1_; have BK360 := n2_; have BK373 := n3_; have BK377 := n4_; have HB := n5_; clear n0_ n1_ n2_ n3_ n4_ n5_; (try clear hb); (try clear hb2); (try clear hk); (try clear hi); have hcz161_0 : w160.cell? ⟨gb373, 0, none⟩ = some (.int .i64 t370) := (blk_cell BK373.out 0).trans rfl; have hcz161_1 : w160.cell? ⟨gb373, 1, none⟩ = some (.int .i64 t371) := (blk_cell BK373.out 1).trans rfl; have hfz161_0 := blk_frozen BK373.out 0; have hfz161_1 := blk_frozen BK373.out 1; have hcz162_0 : w160.cell? ⟨gb358, 0, none⟩ = some (.int .i64 t354) := (blk_cell BK358.out 0).trans rfl; have hcz162_1 : w160.cell? ⟨gb358, 1, none⟩ = some (.int .i64 t355) := (blk_cell BK358.out 1).trans rfl; have hfz162_0 := blk_frozen BK358.out 0; have hfz162_1 := blk_frozen BK358.out 1))
           go_meet
           case rel => exact ⟨_, (false), (by first | rfl | (simp; done) | (simp [*]; done)), H', ⟨by have := HK1.out; first | omega | exact Nat.le_refl _⟩, ⟨by (with_reducible repeat (first | refine blk_drewN ?_ _ | refine blk_drew ?_ | refine blk_alloc ?_ _)); exact BK358.out⟩, ⟨by (with_reducible repeat (first | refine blk_drewN ?_ _ | refine blk_drew ?_ | refine blk_alloc ?_ _)); exact BK359.out⟩, ⟨by (with_reducible repeat (first | refine blk_drewN ?_ _ | refine blk_drew ?_ | refine blk_alloc ?_ _)); exact BK360.out⟩, ⟨by (with_reducible repeat (first | refine blk_drewN ?_ _ | refine blk_drew ?_ | refine blk_alloc ?_ _)); exact BK373.out⟩, ⟨by (with_reducible repeat (first | refine blk_drewN ?_ _ | refine blk_drew ?_ | refine blk_alloc ?_ _)); exact BK377.out⟩, ⟨by repeat (first | (with_reducible first | exact HB.out | apply below_alloc | apply pw_below_drewN | apply below_drew1 | refine below_set ?_ GE358.out | refine below_set ?_ GE359.out | refine below_set ?_ GE360.out | refine below_set ?_ GE373.out | refine below_set ?_ GE377.out) | exact HB.out)⟩⟩
          ·rw [if_neg c145] at H
           have c145b0 : (t371 == t355) = false := beq_eq_false_iff_ne.mpr c145
           have c145b1 : (t371 != t355) = true := bne_iff_ne.mpr c145
           have H' := Aside0.mk H
           clear H
           have hnb163 := NB358_359.out
           have hnc163 := NB359_358.out
           have hnb164 := NB358_360.out
           have hnc164 := NB360_358.out
           have hnb165 := NB358_373.out
           have hnc165 := NB373_358.out
           have hnb166 := NB358_377.out
           have hnc166 := NB377_358.out
           have hcz167_0 : w133.cell? ⟨gb358, 0, none⟩ = some (.int .i64 t354) := (blk_cell BK358.out 0).trans rfl
           have hcz167_1 : w133.cell? ⟨gb358, 1, none⟩ = some (.int .i64 t355) := (blk_cell BK358.out 1).trans rfl
           have hfz167_0 := blk_frozen BK358.out 0
           have hfz167_1 := blk_frozen BK358.out 1
           have hnb168 := NB373_359.out
           have hnc168 := NB359_373.out
           have hnb169 := NB373_360.out
           have hnc169 := NB360_373.out
           have hnb170 := NB373_377.out
           have hnc170 := NB377_373.out
           have hcz171_0 : w133.cell? ⟨gb373, 0, none⟩ = some (.int .i64 t370) := (blk_cell BK373.out 0).trans rfl
           have hcz171_1 : w133.cell? ⟨gb373, 1, none⟩ = some (.int .i64 t371) := (blk_cell BK373.out 1).trans rfl
           have hfz171_0 := blk_frozen BK373.out 0
           have hfz171_1 := blk_frozen BK373.out 1
           go_wp2_with (first | (go_at_call 9; (with_reducible refine (flagstonelaw37_inside.calls t354 t355 t370 t371 true _ A140.out).mono ?_); rintro e w172 ⟨rfl, hb⟩; have n0_ := Aside0.mk (blk_below (g := gb358) (o := .cells #[.int .i64 t354, .int .i64 t355] 23 (0, 0)) (by (with_reducible repeat (first | refine blk_drewN ?_ _ | refine blk_drew ?_ | refine blk_alloc ?_ _)); refine blk_far ?_ NB358_377.out _; (with_reducible repeat (first | refine blk_drewN ?_ _ | refine blk_drew ?_ | refine blk_alloc ?_ _)); refine blk_far ?_ NB358_377.out _; (with_reducible repeat (first | refine blk_drewN ?_ _ | refine blk_drew ?_ | refine blk_alloc ?_ _)); exact BK358.out) hb); have n1_ := Aside0.mk (blk_below (g := gb359) (o := .cells #[.int .i64 t356, .int .i64 t357] 23 (0, 0)) (by (with_reducible repeat (first | refine blk_drewN ?_ _ | refine blk_drew ?_ | refine blk_alloc ?_ _)); refine blk_far ?_ NB359_377.out _; (with_reducible repeat (first | refine blk_drewN ?_ _ | refine blk_drew ?_ | refine blk_alloc ?_ _)); refine blk_far ?_ NB359_377.out _; (with_reducible repeat (first | refine blk_drewN ?_ _ | refine blk_drew ?_ | refine blk_alloc ?_ _)); exact BK359.out) hb); have n2_ := Aside0.mk (blk_below (g := gb360) (o := .cells #[.int .i64 (wrap64 (t354 + (wrap64 ((wrap64 (Int.tdiv (wrap64 (t355 - t354)) 600)) * (wrap64 (a6)))))), .int .i64 (wrap64 (t355 - (wrap64 ((wrap64 (Int.tdiv (wrap64 (t355 - t354)) 600)) * (wrap64 (a7))))))] 23 (0, 0)) (by (with_reducible repeat (first | refine blk_drewN ?_ _ | refine blk_drew ?_ | refine blk_alloc ?_ _)); refine blk_far ?_ NB360_377.out _; (with_reducible repeat (first | refine blk_drewN ?_ _ | refine blk_drew ?_ | refine blk_alloc ?_ _)); refine blk_far ?_ NB360_377.out _; (with_reducible repeat (first | refine blk_drewN ?_ _ | refine blk_drew ?_ | refine blk_alloc ?_ _)); exact BK360.out) hb); have n3_ := Aside0.mk (blk_below (g := gb373) (o := .cells #[.int .i64 t370, .int .i64 t371] 23 (0, 0)) (by (with_reducible repeat (first | refine blk_drewN ?_ _ | refine blk_drew ?_ | refine blk_alloc ?_ _)); refine blk_far ?_ NB373_377.out _; (with_reducible repeat (first | refine blk_drewN ?_ _ | refine blk_drew ?_ | refine blk_alloc ?_ _)); refine blk_far ?_ NB373_377.out _; (with_reducible repeat (first | refine blk_drewN ?_ _ | refine blk_drew ?_ | refine blk_alloc ?_ _)); exact BK373.out) hb); have n4_ := Aside0.mk (blk_below (g := gb377) (o := .cells #[.int .i64 t374, .int .i64 t375] 23 (0, 0)) (by (with_reducible repeat (first | refine blk_drewN ?_ _ | refine blk_drew ?_ | refine blk_alloc ?_ _)); refine blk_put (cs := #[.int .i64 t374, .int .i64 0]) ?_ 1 _ rfl; (with_reducible repeat (first | refine blk_drewN ?_ _ | refine blk_drew ?_ | refine blk_alloc ?_ _)); refine blk_put (cs := #[.int .i64 0, .int .i64 0]) ?_ 0 _ rfl; (with_reducible repeat (first | refine blk_drewN ?_ _ | refine blk_drew ?_ | refine blk_alloc ?_ _)); exact BK377.out) hb); have n5_ := Aside0.mk (below_step (by repeat (first | (with_reducible first | exact HB.out | apply below_alloc | apply pw_below_drewN | apply below_drew1 | refine below_set ?_ GE358.out | refine below_set ?_ GE359.out | refine below_set ?_ GE360.out | refine below_set ?_ GE373.out | refine below_set ?_ GE377.out) | exact HB.out)) hb); clear BK358; clear BK359; clear BK360; clear BK373; clear BK377; clear HB; have BK358 := n0_; have BK359 := n1_; have BK360 := n2_; have BK373 := n3_; have BK377 := n4_; have HB := n5_; clear n0_ n1_ n2_ n3_ n4_ n5_; (try clear hb); (try clear hb2); (try clear hk); (try clear hi); have hnb173 := NB359_360.out; have hnc173 := NB360_359.out; have hnb174 := NB359_377.out; have hnc174 := NB377_359.out; have hcz175_0 : w172.cell? ⟨gb359, 0, none⟩ = some (.int .i64 t356) := (blk_cell BK359.out 0).trans rfl; have hcz175_1 : w172.cell? ⟨gb359, 1, none⟩ = some (.int .i64 t357) := (blk_cell BK359.out 1).trans rfl; have hfz175_0 := blk_frozen BK359.out 0; have hfz175_1 := blk_frozen BK359.out 1; have hcz176_0 : w172.cell? ⟨gb373, 0, none⟩ = some (.int .i64 t370) := (blk_cell BK373.out 0).trans rfl; have hcz176_1 : w172.cell? ⟨gb373, 1, none⟩ = some (.int .i64 t371) := (blk_cell BK373.out 1).trans rfl; have hfz176_0 := blk_frozen BK373.out 0; have hfz176_1 := blk_frozen BK373.out 1) | (go_at_call 9; (with_reducible refine (flagstonelaw37_inside.calls t356 t357 t370 t371 true _ A142.out).mono ?_); rintro e w177 ⟨rfl, hb⟩; have n0_ := Aside0.mk (blk_below (g := gb358) (o := .cells #[.int .i64 t354, .int .i64 t355] 23 (0, 0)) (by (with_reducible repeat (first | refine blk_drewN ?_ _ | refine blk_drew ?_ | refine blk_alloc ?_ _)); exact BK358.out) hb); have n1_ := Aside0.mk (blk_below (g := gb359) (o := .cells #[.int .i64 t356, .int .i64 t357] 23 (0, 0)) (by (with_reducible repeat (first | refine blk_drewN ?_ _ | refine blk_drew ?_ | refine blk_alloc ?_ _)); exact BK359.out) hb); have n2_ := Aside0.mk (blk_below (g := gb360) (o := .cells #[.int .i64 (wrap64 (t354 + (wrap64 ((wrap64 (Int.tdiv (wrap64 (t355 - t354)) 600)) * (wrap64 (a6)))))), .int .i64 (wrap64 (t355 - (wrap64 ((wrap64 (Int.tdiv (wrap64 (t355 - t354)) 600)) * (wrap64 (a7))))))] 23 (0, 0)) (by (with_reducible repeat (first | refine blk_drewN ?_ _ | refine blk_drew ?_ | refine blk_alloc ?_ _)); exact BK360.out) hb); have n3_ := Aside0.mk (blk_below (g := gb373) (o := .cells #[.int .i64 t370, .int .i64 t371] 23 (0, 0)) (by (with_reducible repeat (first | refine blk_drewN ?_ _ | refine blk_drew ?_ | refine blk_alloc ?_ _)); exact BK373.out) hb); have n4_ := Aside0.mk (blk_below (g := gb377) (o := .cells #[.int .i64 t374, .int .i64 t375] 23 (0, 0)) (by (with_reducible repeat (first | refine blk_drewN ?_ _ | refine blk_drew ?_ | refine blk_alloc ?_ _)); exact BK377.out) hb); have n5_ := Aside0.mk (below_step (by repeat (first | (with_reducible first | exact HB.out | apply below_alloc | apply pw_below_drewN | apply below_drew1 | refine below_set ?_ GE358.out | refine below_set ?_ GE359.out | refine below_set ?_ GE360.out | refine below_set ?_ GE373.out | refine below_set ?_ GE377.out) | exact HB.out)) hb); clear BK358; clear BK359; clear BK360; clear BK373; clear BK377; clear HB; have BK358 := n0_; have BK359 := n1_; have BK360 := n2_; have BK373 := n3_; have BK377 := n4_; have HB := n5_; clear n0_ n1_ n2_ n3_ n4_ n5_; (try clear hb); (try clear hb2); (try clear hk); (try clear hi); have hcz178_0 : w177.cell? ⟨gb373, 0, none⟩ = some (.int .i64 t370) := (blk_cell BK373.out 0).trans rfl; have hcz178_1 : w177.cell? ⟨gb373, 1, none⟩ = some (.int .i64 t371) := (blk_cell BK373.out 1).trans rfl; have hfz178_0 := blk_frozen BK373.out 0; have hfz178_1 := blk_frozen BK373.out 1; have hcz179_0 : w177.cell? ⟨gb358, 0, none⟩ = some (.int .i64 t354) := (blk_cell BK358.out 0).trans rfl; have hcz179_1 : w177.cell? ⟨gb358, 1, none⟩ = some (.int .i64 t355) := (blk_cell BK358.out 1).trans rfl; have hfz179_0 := blk_frozen BK358.out 0; have hfz179_1 := blk_frozen BK358.out 1; have hcz180_0 : w177.cell? ⟨gb359, 0, none⟩ = some (.int .i64 t356) := (blk_cell BK359.out 0).trans rfl; have hcz180_1 : w177.cell? ⟨gb359, 1, none⟩ = some (.int .i64 t357) := (blk_cell BK359.out 1).trans rfl; have hfz180_0 := blk_frozen BK359.out 0; have hfz180_1 := blk_frozen BK359.out 1))
           go_meet
           case rel => exact ⟨_, ((t371 != t357)), (by first | rfl | (simp; done) | (simp [*]; done)), H', ⟨by have := HK1.out; first | omega | exact Nat.le_refl _⟩, ⟨by (with_reducible repeat (first | refine blk_drewN ?_ _ | refine blk_drew ?_ | refine blk_alloc ?_ _)); exact BK358.out⟩, ⟨by (with_reducible repeat (first | refine blk_drewN ?_ _ | refine blk_drew ?_ | refine blk_alloc ?_ _)); exact BK359.out⟩, ⟨by (with_reducible repeat (first | refine blk_drewN ?_ _ | refine blk_drew ?_ | refine blk_alloc ?_ _)); exact BK360.out⟩, ⟨by (with_reducible repeat (first | refine blk_drewN ?_ _ | refine blk_drew ?_ | refine blk_alloc ?_ _)); exact BK373.out⟩, ⟨by (with_reducible repeat (first | refine blk_drewN ?_ _ | refine blk_drew ?_ | refine blk_alloc ?_ _)); exact BK377.out⟩, ⟨by repeat (first | (with_reducible first | exact HB.out | apply below_alloc | apply pw_below_drewN | apply below_drew1 | refine below_set ?_ GE358.out | refine below_set ?_ GE359.out | refine below_set ?_ GE360.out | refine below_set ?_ GE373.out | refine below_set ?_ GE377.out) | exact HB.out)⟩⟩
         ·rw [if_neg c144] at H
          have c144b0 : (t370 == t354) = false := beq_eq_false_iff_ne.mpr c144
          have c144b1 : (t370 != t354) = true := bne_iff_ne.mpr c144
          (first | rw [c144b0] | (simp only [i64_w, i32_w]; rw [c144b0]) | skip)
          by_cases c181 : t370 = t356
          ·rw [if_pos c181] at H
           have c181b0 : (t370 == t356) = true := beq_iff_eq.mpr c181
           have c181b1 : (t370 != t356) = false := bne_eq_false_iff_eq.mpr c181
           clear c181
           by_cases c182 : t371 = t355
           ·rw [if_pos c182] at H
            have c182b0 : (t371 == t355) = true := beq_iff_eq.mpr c182
            have c182b1 : (t371 != t355) = false := bne_eq_false_iff_eq.mpr c182
            clear c182
            have H' := Aside0.mk H
            clear H
            have hnb183 := NB358_359.out
            have hnc183 := NB359_358.out
            have hnb184 := NB358_360.out
            have hnc184 := NB360_358.out
            have hnb185 := NB358_373.out
            have hnc185 := NB373_358.out
            have hnb186 := NB358_377.out
            have hnc186 := NB377_358.out
            have hcz187_0 : w133.cell? ⟨gb358, 0, none⟩ = some (.int .i64 t354) := (blk_cell BK358.out 0).trans rfl
            have hcz187_1 : w133.cell? ⟨gb358, 1, none⟩ = some (.int .i64 t355) := (blk_cell BK358.out 1).trans rfl
            have hfz187_0 := blk_frozen BK358.out 0
            have hfz187_1 := blk_frozen BK358.out 1
            have hnb188 := NB373_359.out
            have hnc188 := NB359_373.out
            have hnb189 := NB373_360.out
            have hnc189 := NB360_373.out
            have hnb190 := NB373_377.out
            have hnc190 := NB377_373.out
            have hcz191_0 : w133.cell? ⟨gb373, 0, none⟩ = some (.int .i64 t370) := (blk_cell BK373.out 0).trans rfl
            have hcz191_1 : w133.cell? ⟨gb373, 1, none⟩ = some (.int .i64 t371) := (blk_cell BK373.out 1).trans rfl
            have hfz191_0 := blk_frozen BK373.out 0
            have hfz191_1 := blk_frozen BK373.out 1
            go_wp2_with (first | (go_at_call 9; (with_reducible refine (flagstonelaw37_inside.calls t354 t355 t370 t371 true _ A140.out).mono ?_); rintro e w192 ⟨rfl, hb⟩; have n0_ := Aside0.mk (blk_below (g := gb358) (o := .cells #[.int .i64 t354, .int .i64 t355] 23 (0, 0)) (by (with_reducible repeat (first | refine blk_drewN ?_ _ | refine blk_drew ?_ | refine blk_alloc ?_ _)); refine blk_far ?_ NB358_377.out _; (with_reducible repeat (first | refine blk_drewN ?_ _ | refine blk_drew ?_ | refine blk_alloc ?_ _)); refine blk_far ?_ NB358_377.out _; (with_reducible repeat (first | refine blk_drewN ?_ _ | refine blk_drew ?_ | refine blk_alloc ?_ _)); exact BK358.out) hb); have n1_ := Aside0.mk (blk_below (g := gb359) (o := .cells #[.int .i64 t356, .int .i64 t357] 23 (0, 0)) (by (with_reducible repeat (first | refine blk_drewN ?_ _ | refine blk_drew ?_ | refine blk_alloc ?_ _)); refine blk_far ?_ NB359_377.out _; (with_reducible repeat (first | refine blk_drewN ?_ _ | refine blk_drew ?_ | refine blk_alloc ?_ _)); refine blk_far ?_ NB359_377.out _; (with_reducible repeat (first | refine blk_drewN ?_ _ | refine blk_drew ?_ | refine blk_alloc ?_ _)); exact BK359.out) hb); have n2_ := Aside0.mk (blk_below (g := gb360) (o := .cells #[.int .i64 (wrap64 (t354 + (wrap64 ((wrap64 (Int.tdiv (wrap64 (t355 - t354)) 600)) * (wrap64 (a6)))))), .int .i64 (wrap64 (t355 - (wrap64 ((wrap64 (Int.tdiv (wrap64 (t355 - t354)) 600)) * (wrap64 (a7))))))] 23 (0, 0)) (by (with_reducible repeat (first | refine blk_drewN ?_ _ | refine blk_drew ?_ | refine blk_alloc ?_ _)); refine blk_far ?_ NB360_377.out _; (with_reducible repeat (first | refine blk_drewN ?_ _ | refine blk_drew ?_ | refine blk_alloc ?_ _)); refine blk_far ?_ NB360_377.out _; (with_reducible repeat (first | refine blk_drewN ?_ _ | refine blk_drew ?_ | refine blk_alloc ?_ _)); exact BK360.out) hb); have n3_ := Aside0.mk (blk_below (g := gb373) (o := .cells #[.int .i64 t370, .int .i64 t371] 23 (0, 0)) (by (with_reducible repeat (first | refine blk_drewN ?_ _ | refine blk_drew ?_ | refine blk_alloc ?_ _)); refine blk_far ?_ NB373_377.out _; (with_reducible repeat (first | refine blk_drewN ?_ _ | refine blk_drew ?_ | refine blk_alloc ?_ _)); refine blk_far ?_ NB373_377.out _; (with_reducible repeat (first | refine blk_drewN ?_ _ | refine blk_drew ?_ | refine blk_alloc ?_ _)); exact BK373.out) hb); have n4_ := Aside0.mk (blk_below (g := gb377) (o := .cells #[.int .i64 t374, .int .i64 t375] 23 (0, 0)) (by (with_reducible repeat (first | refine blk_drewN ?_ _ | refine blk_drew ?_ | refine blk_alloc ?_ _)); refine blk_put (cs := #[.int .i64 t374, .int .i64 0]) ?_ 1 _ rfl; (with_reducible repeat (first | refine blk_drewN ?_ _ | refine blk_drew ?_ | refine blk_alloc ?_ _)); refine blk_put (cs := #[.int .i64 0, .int .i64 0]) ?_ 0 _ rfl; (with_reducible repeat (first | refine blk_drewN ?_ _ | refine blk_drew ?_ | refine blk_alloc ?_ _)); exact BK377.out) hb); have n5_ := Aside0.mk (below_step (by repeat (first | (with_reducible first | exact HB.out | apply below_alloc | apply pw_below_drewN | apply below_drew1 | refine below_set ?_ GE358.out | refine below_set ?_ GE359.out | refine below_set ?_ GE360.out | refine below_set ?_ GE373.out | refine below_set ?_ GE377.out) | exact HB.out)) hb); clear BK358; clear BK359; clear BK360; clear BK373; clear BK377; clear HB; have BK358 := n0_; have BK359 := n1_; have BK360 := n2_; have BK373 := n3_; have BK377 := n4_; have HB := n5_; clear n0_ n1_ n2_ n3_ n4_ n5_; (try clear hb); (try clear hb2); (try clear hk); (try clear hi); have hnb193 := NB359_360.out; have hnc193 := NB360_359.out; have hnb194 := NB359_377.out; have hnc194 := NB377_359.out; have hcz195_0 : w192.cell? ⟨gb359, 0, none⟩ = some (.int .i64 t356) := (blk_cell BK359.out 0).trans rfl; have hcz195_1 : w192.cell? ⟨gb359, 1, none⟩ = some (.int .i64 t357) := (blk_cell BK359.out 1).trans rfl; have hfz195_0 := blk_frozen BK359.out 0; have hfz195_1 := blk_frozen BK359.out 1; have hcz196_0 : w192.cell? ⟨gb373, 0, none⟩ = some (.int .i64 t370) := (blk_cell BK373.out 0).trans rfl; have hcz196_1 : w192.cell? ⟨gb373, 1, none⟩ = some (.int .i64 t371) := (blk_cell BK373.out 1).trans rfl; have hfz196_0 := blk_frozen BK373.out 0; have hfz196_1 := blk_frozen BK373.out 1) | (go_at_call 9; (with_reducible refine (flagstonelaw37_inside.calls t356 t357 t370 t371 true _ A142.out).mono ?_); rintro e w197 ⟨rfl, hb⟩; have n0_ := Aside0.mk (blk_below (g := gb358) (o := .cells #[.int .i64 t354, .int .i64 t355] 23 (0, 0)) (by (with_reducible repeat (first | refine blk_drewN ?_ _ | refine blk_drew ?_ | refine blk_alloc ?_ _)); exact BK358.out) hb); have n1_ := Aside0.mk (blk_below (g := gb359) (o := .cells #[.int .i64 t356, .int .i64 t357] 23 (0, 0)) (by (with_reducible repeat (first | refine blk_drewN ?_ _ | refine blk_drew ?_ | refine blk_alloc ?_ _)); exact BK359.out) hb); have n2_ := Aside0.mk (blk_below (g := gb360) (o := .cells #[.int .i64 (wrap64 (t354 + (wrap64 ((wrap64 (Int.tdiv (wrap64 (t355 - t354)) 600)) * (wrap64 (a6)))))), .int .i64 (wrap64 (t355 - (wrap64 ((wrap64 (Int.tdiv (wrap64 (t355 - t354)) 600)) * (wrap64 (a7))))))] 23 (0, 0)) (by (with_reducible repeat (first | refine blk_drewN ?_ _ | refine blk_drew ?_ | refine blk_alloc ?_ _)); exact BK360.out) hb); have n3_ := Aside0.mk (blk_below (g := gb373) (o := .cells #[.int .i64 t370, .int .i64 t371] 23 (0, 0)) (by (with_reducible repeat (first | refine blk_drewN ?_ _ | refine blk_drew ?_ | refine blk_alloc ?_ _)); exact BK373.out) hb); have n4_ := Aside0.mk (blk_below (g := gb377) (o := .cells #[.int .i64 t374, .int .i64 t375] 23 (0, 0)) (by (with_reducible repeat (first | refine blk_drewN ?_ _ | refine blk_drew ?_ | refine blk_alloc ?_ _)); exact BK377.out) hb); have n5_ := Aside0.mk (below_step (by repeat (first | (with_reducible first | exact HB.out | apply below_alloc | apply pw_below_drewN | apply below_drew1 | refine below_set ?_ GE358.out | refine below_set ?_ GE359.out | refine below_set ?_ GE360.out | refine below_set ?_ GE373.out | refine below_set ?_ GE377.out) | exact HB.out)) hb); clear BK358; clear BK359; clear BK360; clear BK373; clear BK377; clear HB; have BK358 := n0_; have BK359 := n1_; have BK360 := n2_; have BK373 := n3_; have BK377 := n4_; have HB := n5_; clear n0_ n1_ n2_ n3_ n4_ n5_; (try clear hb); (try clear hb2); (try clear hk); (try clear hi); have hcz198_0 : w197.cell? ⟨gb373, 0, none⟩ = some (.int .i64 t370) := (blk_cell BK373.out 0).trans rfl; have hcz198_1 : w197.cell? ⟨gb373, 1, none⟩ = some (.int .i64 t371) := (blk_cell BK373.out 1).trans rfl; have hfz198_0 := blk_frozen BK373.out 0; have hfz198_1 := blk_frozen BK373.out 1; have hcz199_0 : w197.cell? ⟨gb358, 0, none⟩ = some (.int .i64 t354) := (blk_cell BK358.out 0).trans rfl; have hcz199_1 : w197.cell? ⟨gb358, 1, none⟩ = some (.int .i64 t355) := (blk_cell BK358.out 1).trans rfl; have hfz199_0 := blk_frozen BK358.out 0; have hfz199_1 := blk_frozen BK358.out 1; have hcz200_0 : w197.cell? ⟨gb359, 0, none⟩ = some (.int .i64 t356) := (blk_cell BK359.out 0).trans rfl; have hcz200_1 : w197.cell? ⟨gb359, 1, none⟩ = some (.int .i64 t357) := (blk_cell BK359.out 1).trans rfl; have hfz200_0 := blk_frozen BK359.out 0; have hfz200_1 := blk_frozen BK359.out 1))
            go_meet
            case rel => exact ⟨_, (false), (by first | rfl | (simp; done) | (simp [*]; done)), H', ⟨by have := HK1.out; first | omega | exact Nat.le_refl _⟩, ⟨by (with_reducible repeat (first | refine blk_drewN ?_ _ | refine blk_drew ?_ | refine blk_alloc ?_ _)); exact BK358.out⟩, ⟨by (with_reducible repeat (first | refine blk_drewN ?_ _ | refine blk_drew ?_ | refine blk_alloc ?_ _)); exact BK359.out⟩, ⟨by (with_reducible repeat (first | refine blk_drewN ?_ _ | refine blk_drew ?_ | refine blk_alloc ?_ _)); exact BK360.out⟩, ⟨by (with_reducible repeat (first | refine blk_drewN ?_ _ | refine blk_drew ?_ | refine blk_alloc ?_ _)); exact BK373.out⟩, ⟨by (with_reducible repeat (first | refine blk_drewN ?_ _ | refine blk_drew ?_ | refine blk_alloc ?_ _)); exact BK377.out⟩, ⟨by repeat (first | (with_reducible first | exact HB.out | apply below_alloc | apply pw_below_drewN | apply below_drew1 | refine below_set ?_ GE358.out | refine below_set ?_ GE359.out | refine below_set ?_ GE360.out | refine below_set ?_ GE373.out | refine below_set ?_ GE377.out) | exact HB.out)⟩⟩
           ·rw [if_neg c182] at H
            have c182b0 : (t371 == t355) = false := beq_eq_false_iff_ne.mpr c182
            have c182b1 : (t371 != t355) = true := bne_iff_ne.mpr c182
            have H' := Aside0.mk H
            clear H
            have hnb201 := NB358_359.out
            have hnc201 := NB359_358.out
            have hnb202 := NB358_360.out
            have hnc202 := NB360_358.out
            have hnb203 := NB358_373.out
            have hnc203 := NB373_358.out
            have hnb204 := NB358_377.out
            have hnc204 := NB377_358.out
            have hcz205_0 : w133.cell? ⟨gb358, 0, none⟩ = some (.int .i64 t354) := (blk_cell BK358.out 0).trans rfl
            have hcz205_1 : w133.cell? ⟨gb358, 1, none⟩ = some (.int .i64 t355) := (blk_cell BK358.out 1).trans rfl
            have hfz205_0 := blk_frozen BK358.out 0
            have hfz205_1 := blk_frozen BK358.out 1
            have hnb206 := NB373_359.out
            have hnc206 := NB359_373.out
            have hnb207 := NB373_360.out
            have hnc207 := NB360_373.out
            have hnb208 := NB373_377.out
            have hnc208 := NB377_373.out
            have hcz209_0 : w133.cell? ⟨gb373, 0, none⟩ = some (.int .i64 t370) := (blk_cell BK373.out 0).trans rfl
            have hcz209_1 : w133.cell? ⟨gb373, 1, none⟩ = some (.int .i64 t371) := (blk_cell BK373.out 1).trans rfl
            have hfz209_0 := blk_frozen BK373.out 0
            have hfz209_1 := blk_frozen BK373.out 1
            go_wp2_with (first | (go_at_call 9; (with_reducible refine (flagstonelaw37_inside.calls t354 t355 t370 t371 true _ A140.out).mono ?_); rintro e w210 ⟨rfl, hb⟩; have n0_ := Aside0.mk (blk_below (g := gb358) (o := .cells #[.int .i64 t354, .int .i64 t355] 23 (0, 0)) (by (with_reducible repeat (first | refine blk_drewN ?_ _ | refine blk_drew ?_ | refine blk_alloc ?_ _)); refine blk_far ?_ NB358_377.out _; (with_reducible repeat (first | refine blk_drewN ?_ _ | refine blk_drew ?_ | refine blk_alloc ?_ _)); refine blk_far ?_ NB358_377.out _; (with_reducible repeat (first | refine blk_drewN ?_ _ | refine blk_drew ?_ | refine blk_alloc ?_ _)); exact BK358.out) hb); have n1_ := Aside0.mk (blk_below (g := gb359) (o := .cells #[.int .i64 t356, .int .i64 t357] 23 (0, 0)) (by (with_reducible repeat (first | refine blk_drewN ?_ _ | refine blk_drew ?_ | refine blk_alloc ?_ _)); refine blk_far ?_ NB359_377.out _; (with_reducible repeat (first | refine blk_drewN ?_ _ | refine blk_drew ?_ | refine blk_alloc ?_ _)); refine blk_far ?_ NB359_377.out _; (with_reducible repeat (first | refine blk_drewN ?_ _ | refine blk_drew ?_ | refine blk_alloc ?_ _)); exact BK359.out) hb); have n2_ := Aside0.mk (blk_below (g := gb360) (o := .cells #[.int .i64 (wrap64 (t354 + (wrap64 ((wrap64 (Int.tdiv (wrap64 (t355 - t354)) 600)) * (wrap64 (a6)))))), .int .i64 (wrap64 (t355 - (wrap64 ((wrap64 (Int.tdiv (wrap64 (t355 - t354)) 600)) * (wrap64 (a7))))))] 23 (0, 0)) (by (with_reducible repeat (first | refine blk_drewN ?_ _ | refine blk_drew ?_ | refine blk_alloc ?_ _)); refine blk_far ?_ NB360_377.out _; (with_reducible repeat (first | refine blk_drewN ?_ _ | refine blk_drew ?_ | refine blk_alloc ?_ _)); refine blk_far ?_ NB360_377.out _; (with_reducible repeat (first | refine blk_drewN ?_ _ | refine blk_drew ?_ | refine blk_alloc ?_ _)); exact BK360.out) hb); have n3_ := Aside0.mk (blk_below (g := gb373) (o := .cells #[.int .i64 t370, .int .i64 t371] 23 (0, 0)) (by (with_reducible repeat (first | refine blk_drewN ?_ _ | refine blk_drew ?_ | refine blk_alloc ?_ _)); refine blk_far ?_ NB373_377.out _; (with_reducible repeat (first | refine blk_drewN ?_ _ | refine blk_drew ?_ | refine blk_alloc ?_ _)); refine blk_far ?_ NB373_377.out _; (with_reducible repeat (first | refine blk_drewN ?_ _ | refine blk_drew ?_ | refine blk_alloc ?_ _)); exact BK373.out) hb); have n4_ := Aside0.mk (blk_below (g := gb377) (o := .cells #[.int .i64 t374, .int .i64 t375] 23 (0, 0)) (by (with_reducible repeat (first | refine blk_drewN ?_ _ | refine blk_drew ?_ | refine blk_alloc ?_ _)); refine blk_put (cs := #[.int .i64 t374, .int .i64 0]) ?_ 1 _ rfl; (with_reducible repeat (first | refine blk_drewN ?_ _ | refine blk_drew ?_ | refine blk_alloc ?_ _)); refine blk_put (cs := #[.int .i64 0, .int .i64 0]) ?_ 0 _ rfl; (with_reducible repeat (first | refine blk_drewN ?_ _ | refine blk_drew ?_ | refine blk_alloc ?_ _)); exact BK377.out) hb); have n5_ := Aside0.mk (below_step (by repeat (first | (with_reducible first | exact HB.out | apply below_alloc | apply pw_below_drewN | apply below_drew1 | refine below_set ?_ GE358.out | refine below_set ?_ GE359.out | refine below_set ?_ GE360.out | refine below_set ?_ GE373.out | refine below_set ?_ GE377.out) | exact HB.out)) hb); clear BK358; clear BK359; clear BK360; clear BK373; clear BK377; clear HB; have BK358 := n0_; have BK359 := n1_; have BK360 := n2_; have BK373 := n3_; have BK377 := n4_; have HB := n5_; clear n0_ n1_ n2_ n3_ n4_ n5_; (try clear hb); (try clear hb2); (try clear hk); (try clear hi); have hnb211 := NB359_360.out; have hnc211 := NB360_359.out; have hnb212 := NB359_377.out; have hnc212 := NB377_359.out; have hcz213_0 : w210.cell? ⟨gb359, 0, none⟩ = some (.int .i64 t356) := (blk_cell BK359.out 0).trans rfl; have hcz213_1 : w210.cell? ⟨gb359, 1, none⟩ = some (.int .i64 t357) := (blk_cell BK359.out 1).trans rfl; have hfz213_0 := blk_frozen BK359.out 0; have hfz213_1 := blk_frozen BK359.out 1; have hcz214_0 : w210.cell? ⟨gb373, 0, none⟩ = some (.int .i64 t370) := (blk_cell BK373.out 0).trans rfl; have hcz214_1 : w210.cell? ⟨gb373, 1, none⟩ = some (.int .i64 t371) := (blk_cell BK373.out 1).trans rfl; have hfz214_0 := blk_frozen BK373.out 0; have hfz214_1 := blk_frozen BK373.out 1) | (go_at_call 9; (with_reducible refine (flagstonelaw37_inside.calls t356 t357 t370 t371 true _ A142.out).mono ?_); rintro e w215 ⟨rfl, hb⟩; have n0_ := Aside0.mk (blk_below (g := gb358) (o := .cells #[.int .i64 t354, .int .i64 t355] 23 (0, 0)) (by (with_reducible repeat (first | refine blk_drewN ?_ _ | refine blk_drew ?_ | refine blk_alloc ?_ _)); exact BK358.out) hb); have n1_ := Aside0.mk (blk_below (g := gb359) (o := .cells #[.int .i64 t356, .int .i64 t357] 23 (0, 0)) (by (with_reducible repeat (first | refine blk_drewN ?_ _ | refine blk_drew ?_ | refine blk_alloc ?_ _)); exact BK359.out) hb); have n2_ := Aside0.mk (blk_below (g := gb360) (o := .cells #[.int .i64 (wrap64 (t354 + (wrap64 ((wrap64 (Int.tdiv (wrap64 (t355 - t354)) 600)) * (wrap64 (a6)))))), .int .i64 (wrap64 (t355 - (wrap64 ((wrap64 (Int.tdiv (wrap64 (t355 - t354)) 600)) * (wrap64 (a7))))))] 23 (0, 0)) (by (with_reducible repeat (first | refine blk_drewN ?_ _ | refine blk_drew ?_ | refine blk_alloc ?_ _)); exact BK360.out) hb); have n3_ := Aside0.mk (blk_below (g := gb373) (o := .cells #[.int .i64 t370, .int .i64 t371] 23 (0, 0)) (by (with_reducible repeat (first | refine blk_drewN ?_ _ | refine blk_drew ?_ | refine blk_alloc ?_ _)); exact BK373.out) hb); have n4_ := Aside0.mk (blk_below (g := gb377) (o := .cells #[.int .i64 t374, .int .i64 t375] 23 (0, 0)) (by (with_reducible repeat (first | refine blk_drewN ?_ _ | refine blk_drew ?_ | refine blk_alloc ?_ _)); exact BK377.out) hb); have n5_ := Aside0.mk (below_step (by repeat (first | (with_reducible first | exact HB.out | apply below_alloc | apply pw_below_drewN | apply below_drew1 | refine below_set ?_ GE358.out | refine below_set ?_ GE359.out | refine below_set ?_ GE360.out | refine below_set ?_ GE373.out | refine below_set ?_ GE377.out) | exact HB.out)) hb); clear BK358; clear BK359; clear BK360; clear BK373; clear BK377; clear HB; have BK358 := n0_; have BK359 := n1_; have BK360 := n2_; have BK373 := n3_; have BK377 := n4_; have HB := n5_; clear n0_ n1_ n2_ n3_ n4_ n5_; (try clear hb); (try clear hb2); (try clear hk); (try clear hi); have hcz216_0 : w215.cell? ⟨gb373, 0, none⟩ = some (.int .i64 t370) := (blk_cell BK373.out 0).trans rfl; have hcz216_1 : w215.cell? ⟨gb373, 1, none⟩ = some (.int .i64 t371) := (blk_cell BK373.out 1).trans rfl; have hfz216_0 := blk_frozen BK373.out 0; have hfz216_1 := blk_frozen BK373.out 1; have hcz217_0 : w215.cell? ⟨gb358, 0, none⟩ = some (.int .i64 t354) := (blk_cell BK358.out 0).trans rfl; have hcz217_1 : w215.cell? ⟨gb358, 1, none⟩ = some (.int .i64 t355) := (blk_cell BK358.out 1).trans rfl; have hfz217_0 := blk_frozen BK358.out 0; have hfz217_1 := blk_frozen BK358.out 1; have hcz218_0 : w215.cell? ⟨gb359, 0, none⟩ = some (.int .i64 t356) := (blk_cell BK359.out 0).trans rfl; have hcz218_1 : w215.cell? ⟨gb359, 1, none⟩ = some (.int .i64 t357) := (blk_cell BK359.out 1).trans rfl; have hfz218_0 := blk_frozen BK359.out 0; have hfz218_1 := blk_frozen BK359.out 1))
            go_meet
            case rel => exact ⟨_, ((t371 != t357)), (by first | rfl | (simp; done) | (simp [*]; done)), H', ⟨by have := HK1.out; first | omega | exact Nat.le_refl _⟩, ⟨by (with_reducible repeat (first | refine blk_drewN ?_ _ | refine blk_drew ?_ | refine blk_alloc ?_ _)); exact BK358.out⟩, ⟨by (with_reducible repeat (first | refine blk_drewN ?_ _ | refine blk_drew ?_ | refine blk_alloc ?_ _)); exact BK359.out⟩, ⟨by (with_reducible repeat (first | refine blk_drewN ?_ _ | refine blk_drew ?_ | refine blk_alloc ?_ _)); exact BK360.out⟩, ⟨by (with_reducible repeat (first | refine blk_drewN ?_ _ | refine blk_drew ?_ | refine blk_alloc ?_ _)); exact BK373.out⟩, ⟨by (with_reducible repeat (first | refine blk_drewN ?_ _ | refine blk_drew ?_ | refine blk_alloc ?_ _)); exact BK377.out⟩, ⟨by repeat (first | (with_reducible first | exact HB.out | apply below_alloc | apply pw_below_drewN | apply below_drew1 | refine below_set ?_ GE358.out | refine below_set ?_ GE359.out | refine below_set ?_ GE360.out | refine below_set ?_ GE373.out | refine below_set ?_ GE377.out) | exact HB.out)⟩⟩
          ·rw [if_neg c181] at H
           have c181b0 : (t370 == t356) = false := beq_eq_false_iff_ne.mpr c181
           have c181b1 : (t370 != t356) = true := bne_iff_ne.mpr c181
           have H' := Aside0.mk H
           clear H
           have hnb219 := NB358_359.out
           have hnc219 := NB359_358.out
           have hnb220 := NB358_360.out
           have hnc220 := NB360_358.out
           have hnb221 := NB358_373.out
           have hnc221 := NB373_358.out
           have hnb222 := NB358_377.out
           have hnc222 := NB377_358.out
           have hcz223_0 : w133.cell? ⟨gb358, 0, none⟩ = some (.int .i64 t354) := (blk_cell BK358.out 0).trans rfl
           have hcz223_1 : w133.cell? ⟨gb358, 1, none⟩ = some (.int .i64 t355) := (blk_cell BK358.out 1).trans rfl
           have hfz223_0 := blk_frozen BK358.out 0
           have hfz223_1 := blk_frozen BK358.out 1
           have hnb224 := NB373_359.out
           have hnc224 := NB359_373.out
           have hnb225 := NB373_360.out
           have hnc225 := NB360_373.out
           have hnb226 := NB373_377.out
           have hnc226 := NB377_373.out
           have hcz227_0 : w133.cell? ⟨gb373, 0, none⟩ = some (.int .i64 t370) := (blk_cell BK373.out 0).trans rfl
           have hcz227_1 : w133.cell? ⟨gb373, 1, none⟩ = some (.int .i64 t371) := (blk_cell BK373.out 1).trans rfl
           have hfz227_0 := blk_frozen BK373.out 0
           have hfz227_1 := blk_frozen BK373.out 1
           go_wp2_with (first | (go_at_call 9; (with_reducible refine (flagstonelaw37_inside.calls t354 t355 t370 t371 true _ A140.out).mono ?_); rintro e w228 ⟨rfl, hb⟩; have n0_ := Aside0.mk (blk_below (g := gb358) (o := .cells #[.int .i64 t354, .int .i64 t355] 23 (0, 0)) (by (with_reducible repeat (first | refine blk_drewN ?_ _ | refine blk_drew ?_ | refine blk_alloc ?_ _)); refine blk_far ?_ NB358_377.out _; (with_reducible repeat (first | refine blk_drewN ?_ _ | refine blk_drew ?_ | refine blk_alloc ?_ _)); refine blk_far ?_ NB358_377.out _; (with_reducible repeat (first | refine blk_drewN ?_ _ | refine blk_drew ?_ | refine blk_alloc ?_ _)); exact BK358.out) hb); have n1_ := Aside0.mk (blk_below (g := gb359) (o := .cells #[.int .i64 t356, .int .i64 t357] 23 (0, 0)) (by (with_reducible repeat (first | refine blk_drewN ?_ _ | refine blk_drew ?_ | refine blk_alloc ?_ _)); refine blk_far ?_ NB359_377.out _; (with_reducible repeat (first | refine blk_drewN ?_ _ | refine blk_drew ?_ | refine blk_alloc ?_ _)); refine blk_far ?_ NB359_377.out _; (with_reducible repeat (first | refine blk_drewN ?_ _ | refine blk_drew ?_ | refine blk_alloc ?_ _)); exact BK359.out) hb); have n2_ := Aside0.mk (blk_below (g := gb360) (o := .cells #[.int .i64 (wrap64 (t354 + (wrap64 ((wrap64 (Int.tdiv (wrap64 (t355 - t354)) 600)) * (wrap64 (a6)))))), .int .i64 (wrap64 (t355 - (wrap64 ((wrap64 (Int.tdiv (wrap64 (t355 - t354)) 600)) * (wrap64 (a7))))))] 23 (0, 0)) (by (with_reducible repeat (first | refine blk_drewN ?_ _ | refine blk_drew ?_ | refine blk_alloc ?_ _)); refine blk_far ?_ NB360_377.out _; (with_reducible repeat (first | refine blk_drewN ?_ _ | refine blk_drew ?_ | refine blk_alloc ?_ _)); refine blk_far ?_ NB360_377.out _; (with_reducible repeat (first | refine blk_drewN ?_ _ | refine blk_drew ?_ | refine blk_alloc ?_ _)); exact BK360.out) hb); have n3_ := Aside0.mk (blk_below (g := gb373) (o := .cells #[.int .i64 t370, .int .i64 t371] 23 (0, 0)) (by (with_reducible repeat (first | refine blk_drewN ?_ _ | refine blk_drew ?_ | refine blk_alloc ?_ _)); refine blk_far ?_ NB373_377.out _; (with_reducible repeat (first | refine blk_drewN ?_ _ | refine blk_drew ?_ | refine blk_alloc ?_ _)); refine blk_far ?_ NB373_377.out _; (with_reducible repeat (first | refine blk_drewN ?_ _ | refine blk_drew ?_ | refine blk_alloc ?_ _)); exact BK373.out) hb); have n4_ := Aside0.mk (blk_below (g := gb377) (o := .cells #[.int .i64 t374, .int .i64 t375] 23 (0, 0)) (by (with_reducible repeat (first | refine blk_drewN ?_ _ | refine blk_drew ?_ | refine blk_alloc ?_ _)); refine blk_put (cs := #[.int .i64 t374, .int .i64 0]) ?_ 1 _ rfl; (with_reducible repeat (first | refine blk_drewN ?_ _ | refine blk_drew ?_ | refine blk_alloc ?_ _)); refine blk_put (cs := #[.int .i64 0, .int .i64 0]) ?_ 0 _ rfl; (with_reducible repeat (first | refine blk_drewN ?_ _ | refine blk_drew ?_ | refine blk_alloc ?_ _)); exact BK377.out) hb); have n5_ := Aside0.mk (below_step (by repeat (first | (with_reducible first | exact HB.out | apply below_alloc | apply pw_below_drewN | apply below_drew1 | refine below_set ?_ GE358.out | refine below_set ?_ GE359.out | refine below_set ?_ GE360.out | refine below_set ?_ GE373.out | refine below_set ?_ GE377.out) | exact HB.out)) hb); clear BK358; clear BK359; clear BK360; clear BK373; clear BK377; clear HB; have BK358 := n0_; have BK359 := n1_; have BK360 := n2_; have BK373 := n3_; have BK377 := n4_; have HB := n5_; clear n0_ n1_ n2_ n3_ n4_ n5_; (try clear hb); (try clear hb2); (try clear hk); (try clear hi); have hnb229 := NB359_360.out; have hnc229 := NB360_359.out; have hnb230 := NB359_377.out; have hnc230 := NB377_359.out; have hcz231_0 : w228.cell? ⟨gb359, 0, none⟩ = some (.int .i64 t356) := (blk_cell BK359.out 0).trans rfl; have hcz231_1 : w228.cell? ⟨gb359, 1, none⟩ = some (.int .i64 t357) := (blk_cell BK359.out 1).trans rfl; have hfz231_0 := blk_frozen BK359.out 0; have hfz231_1 := blk_frozen BK359.out 1; have hcz232_0 : w228.cell? ⟨gb373, 0, none⟩ = some (.int .i64 t370) := (blk_cell BK373.out 0).trans rfl; have hcz232_1 : w228.cell? ⟨gb373, 1, none⟩ = some (.int .i64 t371) := (blk_cell BK373.out 1).trans rfl; have hfz232_0 := blk_frozen BK373.out 0; have hfz232_1 := blk_frozen BK373.out 1) | (go_at_call 9; (with_reducible refine (flagstonelaw37_inside.calls t356 t357 t370 t371 true _ A142.out).mono ?_); rintro e w233 ⟨rfl, hb⟩; have n0_ := Aside0.mk (blk_below (g := gb358) (o := .cells #[.int .i64 t354, .int .i64 t355] 23 (0, 0)) (by (with_reducible repeat (first | refine blk_drewN ?_ _ | refine blk_drew ?_ | refine blk_alloc ?_ _)); exact BK358.out) hb); have n1_ := Aside0.mk (blk_below (g := gb359) (o := .cells #[.int .i64 t356, .int .i64 t357] 23 (0, 0)) (by (with_reducible repeat (first | refine blk_drewN ?_ _ | refine blk_drew ?_ | refine blk_alloc ?_ _)); exact BK359.out) hb); have n2_ := Aside0.mk (blk_below (g := gb360) (o := .cells #[.int .i64 (wrap64 (t354 + (wrap64 ((wrap64 (Int.tdiv (wrap64 (t355 - t354)) 600)) * (wrap64 (a6)))))), .int .i64 (wrap64 (t355 - (wrap64 ((wrap64 (Int.tdiv (wrap64 (t355 - t354)) 600)) * (wrap64 (a7))))))] 23 (0, 0)) (by (with_reducible repeat (first | refine blk_drewN ?_ _ | refine blk_drew ?_ | refine blk_alloc ?_ _)); exact BK360.out) hb); have n3_ := Aside0.mk (blk_below (g := gb373) (o := .cells #[.int .i64 t370, .int .i64 t371] 23 (0, 0)) (by (with_reducible repeat (first | refine blk_drewN ?_ _ | refine blk_drew ?_ | refine blk_alloc ?_ _)); exact BK373.out) hb); have n4_ := Aside0.mk (blk_below (g := gb377) (o := .cells #[.int .i64 t374, .int .i64 t375] 23 (0, 0)) (by (with_reducible repeat (first | refine blk_drewN ?_ _ | refine blk_drew ?_ | refine blk_alloc ?_ _)); exact BK377.out) hb); have n5_ := Aside0.mk (below_step (by repeat (first | (with_reducible first | exact HB.out | apply below_alloc | apply pw_below_drewN | apply below_drew1 | refine below_set ?_ GE358.out | refine below_set ?_ GE359.out | refine below_set ?_ GE360.out | refine below_set ?_ GE373.out | refine below_set ?_ GE377.out) | exact HB.out)) hb); clear BK358; clear BK359; clear BK360; clear BK373; clear BK377; clear HB; have BK358 := n0_; have BK359 := n1_; have BK360 := n2_; have BK373 := n3_; have BK377 := n4_; have HB := n5_; clear n0_ n1_ n2_ n3_ n4_ n5_; (try clear hb); (try clear hb2); (try clear hk); (try clear hi); have hcz234_0 : w233.cell? ⟨gb373, 0, none⟩ = some (.int .i64 t370) := (blk_cell BK373.out 0).trans rfl; have hcz234_1 : w233.cell? ⟨gb373, 1, none⟩ = some (.int .i64 t371) := (blk_cell BK373.out 1).trans rfl; have hfz234_0 := blk_frozen BK373.out 0; have hfz234_1 := blk_frozen BK373.out 1; have hcz235_0 : w233.cell? ⟨gb358, 0, none⟩ = some (.int .i64 t354) := (blk_cell BK358.out 0).trans rfl; have hcz235_1 : w233.cell? ⟨gb358, 1, none⟩ = some (.int .i64 t355) := (blk_cell BK358.out 1).trans rfl; have hfz235_0 := blk_frozen BK358.out 0; have hfz235_1 := blk_frozen BK358.out 1; have hcz236_0 : w233.cell? ⟨gb359, 0, none⟩ = some (.int .i64 t356) := (blk_cell BK359.out 0).trans rfl; have hcz236_1 : w233.cell? ⟨gb359, 1, none⟩ = some (.int .i64 t357) := (blk_cell BK359.out 1).trans rfl; have hfz236_0 := blk_frozen BK359.out 0; have hfz236_1 := blk_frozen BK359.out 1))
           go_meet
           case rel => exact ⟨_, (true), (by first | rfl | (simp; done) | (simp [*]; done)), H', ⟨by have := HK1.out; first | omega | exact Nat.le_refl _⟩, ⟨by (with_reducible repeat (first | refine blk_drewN ?_ _ | refine blk_drew ?_ | refine blk_alloc ?_ _)); exact BK358.out⟩, ⟨by (with_reducible repeat (first | refine blk_drewN ?_ _ | refine blk_drew ?_ | refine blk_alloc ?_ _)); exact BK359.out⟩, ⟨by (with_reducible repeat (first | refine blk_drewN ?_ _ | refine blk_drew ?_ | refine blk_alloc ?_ _)); exact BK360.out⟩, ⟨by (with_reducible repeat (first | refine blk_drewN ?_ _ | refine blk_drew ?_ | refine blk_alloc ?_ _)); exact BK373.out⟩, ⟨by (with_reducible repeat (first | refine blk_drewN ?_ _ | refine blk_drew ?_ | refine blk_alloc ?_ _)); exact BK377.out⟩, ⟨by repeat (first | (with_reducible first | exact HB.out | apply below_alloc | apply pw_below_drewN | apply below_drew1 | refine below_set ?_ GE358.out | refine below_set ?_ GE359.out | refine below_set ?_ GE360.out | refine below_set ?_ GE373.out | refine below_set ?_ GE377.out) | exact HB.out)⟩⟩
        ·replace c143 := Bool.eq_false_iff.mpr c143
         subst c143
         have H1 : (flagstonelaw37_IntervalNests.j1 k1 t376 true t354 t355 t356 t357 t374 t375) = some r := by rw [if_neg (show ¬ (false = true) by decide)] at H; exact H
         clear H
         have H := H1
         clear H1
         have H' := Aside0.mk H
         clear H
         have hnb237 := NB358_359.out
         have hnc237 := NB359_358.out
         have hnb238 := NB358_360.out
         have hnc238 := NB360_358.out
         have hnb239 := NB358_373.out
         have hnc239 := NB373_358.out
         have hnb240 := NB358_377.out
         have hnc240 := NB377_358.out
         have hcz241_0 : w133.cell? ⟨gb358, 0, none⟩ = some (.int .i64 t354) := (blk_cell BK358.out 0).trans rfl
         have hcz241_1 : w133.cell? ⟨gb358, 1, none⟩ = some (.int .i64 t355) := (blk_cell BK358.out 1).trans rfl
         have hfz241_0 := blk_frozen BK358.out 0
         have hfz241_1 := blk_frozen BK358.out 1
         have hnb242 := NB373_359.out
         have hnc242 := NB359_373.out
         have hnb243 := NB373_360.out
         have hnc243 := NB360_373.out
         have hnb244 := NB373_377.out
         have hnc244 := NB377_373.out
         have hcz245_0 : w133.cell? ⟨gb373, 0, none⟩ = some (.int .i64 t370) := (blk_cell BK373.out 0).trans rfl
         have hcz245_1 : w133.cell? ⟨gb373, 1, none⟩ = some (.int .i64 t371) := (blk_cell BK373.out 1).trans rfl
         have hfz245_0 := blk_frozen BK373.out 0
         have hfz245_1 := blk_frozen BK373.out 1
         go_wp2_with (first | (go_at_call 9; (with_reducible refine (flagstonelaw37_inside.calls t354 t355 t370 t371 true _ A140.out).mono ?_); rintro e w246 ⟨rfl, hb⟩; have n0_ := Aside0.mk (blk_below (g := gb358) (o := .cells #[.int .i64 t354, .int .i64 t355] 23 (0, 0)) (by (with_reducible repeat (first | refine blk_drewN ?_ _ | refine blk_drew ?_ | refine blk_alloc ?_ _)); refine blk_far ?_ NB358_377.out _; (with_reducible repeat (first | refine blk_drewN ?_ _ | refine blk_drew ?_ | refine blk_alloc ?_ _)); refine blk_far ?_ NB358_377.out _; (with_reducible repeat (first | refine blk_drewN ?_ _ | refine blk_drew ?_ | refine blk_alloc ?_ _)); exact BK358.out) hb); have n1_ := Aside0.mk (blk_below (g := gb359) (o := .cells #[.int .i64 t356, .int .i64 t357] 23 (0, 0)) (by (with_reducible repeat (first | refine blk_drewN ?_ _ | refine blk_drew ?_ | refine blk_alloc ?_ _)); refine blk_far ?_ NB359_377.out _; (with_reducible repeat (first | refine blk_drewN ?_ _ | refine blk_drew ?_ | refine blk_alloc ?_ _)); refine blk_far ?_ NB359_377.out _; (with_reducible repeat (first | refine blk_drewN ?_ _ | refine blk_drew ?_ | refine blk_alloc ?_ _)); exact BK359.out) hb); have n2_ := Aside0.mk (blk_below (g := gb360) (o := .cells #[.int .i64 (wrap64 (t354 + (wrap64 ((wrap64 (Int.tdiv (wrap64 (t355 - t354)) 600)) * (wrap64 (a6)))))), .int .i64 (wrap64 (t355 - (wrap64 ((wrap64 (Int.tdiv (wrap64 (t355 - t354)) 600)) * (wrap64 (a7))))))] 23 (0, 0)) (by (with_reducible repeat (first | refine blk_drewN ?_ _ | refine blk_drew ?_ | refine blk_alloc ?_ _)); refine blk_far ?_ NB360_377.out _; (with_reducible repeat (first | refine blk_drewN ?_ _ | refine blk_drew ?_ | refine blk_alloc ?_ _)); refine blk_far ?_ NB360_377.out _; (with_reducible repeat (first | refine blk_drewN ?_ _ | refine blk_drew ?_ | refine blk_alloc ?_ _)); exact BK360.out) hb); have n3_ := Aside0.mk (blk_below (g := gb373) (o := .cells #[.int .i64 t370, .int .i64 t371] 23 (0, 0)) (by (with_reducible repeat (first | refine blk_drewN ?_ _ | refine blk_drew ?_ | refine blk_alloc ?_ _)); refine blk_far ?_ NB373_377.out _; (with_reducible repeat (first | refine blk_drewN ?_ _ | refine blk_drew ?_ | refine blk_alloc ?_ _)); refine blk_far ?_ NB373_377.out _; (with_reducible repeat (first | refine blk_drewN ?_ _ | refine blk_drew ?_ | refine blk_alloc ?_ _)); exact BK373.out) hb); have n4_ := Aside0.mk (blk_below (g := gb377) (o := .cells #[.int .i64 t374, .int .i64 t375] 23 (0, 0)) (by (with_reducible repeat (first | refine blk_drewN ?_ _ | refine blk_drew ?_ | refine blk_alloc ?_ _)); refine blk_put (cs := #[.int .i64 t374, .int .i64 0]) ?_ 1 _ rfl; (with_reducible repeat (first | refine blk_drewN ?_ _ | refine blk_drew ?_ | refine blk_alloc ?_ _)); refine blk_put (cs := #[.int .i64 0, .int .i64 0]) ?_ 0 _ rfl; (with_reducible repeat (first | refine blk_drewN ?_ _ | refine blk_drew ?_ | refine blk_alloc ?_ _)); exact BK377.out) hb); have n5_ := Aside0.mk (below_step (by repeat (first | (with_reducible first | exact HB.out | apply below_alloc | apply pw_below_drewN | apply below_drew1 | refine below_set ?_ GE358.out | refine below_set ?_ GE359.out | refine below_set ?_ GE360.out | refine below_set ?_ GE373.out | refine below_set ?_ GE377.out) | exact HB.out)) hb); clear BK358; clear BK359; clear BK360; clear BK373; clear BK377; clear HB; have BK358 := n0_; have BK359 := n1_; have BK360 := n2_; have BK373 := n3_; have BK377 := n4_; have HB := n5_; clear n0_ n1_ n2_ n3_ n4_ n5_; (try clear hb); (try clear hb2); (try clear hk); (try clear hi); have hnb247 := NB359_360.out; have hnc247 := NB360_359.out; have hnb248 := NB359_377.out; have hnc248 := NB377_359.out; have hcz249_0 : w246.cell? ⟨gb359, 0, none⟩ = some (.int .i64 t356) := (blk_cell BK359.out 0).trans rfl; have hcz249_1 : w246.cell? ⟨gb359, 1, none⟩ = some (.int .i64 t357) := (blk_cell BK359.out 1).trans rfl; have hfz249_0 := blk_frozen BK359.out 0; have hfz249_1 := blk_frozen BK359.out 1; have hcz250_0 : w246.cell? ⟨gb373, 0, none⟩ = some (.int .i64 t370) := (blk_cell BK373.out 0).trans rfl; have hcz250_1 : w246.cell? ⟨gb373, 1, none⟩ = some (.int .i64 t371) := (blk_cell BK373.out 1).trans rfl; have hfz250_0 := blk_frozen BK373.out 0; have hfz250_1 := blk_frozen BK373.out 1) | (go_at_call 9; (with_reducible refine (flagstonelaw37_inside.calls t356 t357 t370 t371 false _ A142.out).mono ?_); rintro e w251 ⟨rfl, hb⟩; have n0_ := Aside0.mk (blk_below (g := gb358) (o := .cells #[.int .i64 t354, .int .i64 t355] 23 (0, 0)) (by (with_reducible repeat (first | refine blk_drewN ?_ _ | refine blk_drew ?_ | refine blk_alloc ?_ _)); exact BK358.out) hb); have n1_ := Aside0.mk (blk_below (g := gb359) (o := .cells #[.int .i64 t356, .int .i64 t357] 23 (0, 0)) (by (with_reducible repeat (first | refine blk_drewN ?_ _ | refine blk_drew ?_ | refine blk_alloc ?_ _)); exact BK359.out) hb); have n2_ := Aside0.mk (blk_below (g := gb360) (o := .cells #[.int .i64 (wrap64 (t354 + (wrap64 ((wrap64 (Int.tdiv (wrap64 (t355 - t354)) 600)) * (wrap64 (a6)))))), .int .i64 (wrap64 (t355 - (wrap64 ((wrap64 (Int.tdiv (wrap64 (t355 - t354)) 600)) * (wrap64 (a7))))))] 23 (0, 0)) (by (with_reducible repeat (first | refine blk_drewN ?_ _ | refine blk_drew ?_ | refine blk_alloc ?_ _)); exact BK360.out) hb); have n3_ := Aside0.mk (blk_below (g := gb373) (o := .cells #[.int .i64 t370, .int .i64 t371] 23 (0, 0)) (by (with_reducible repeat (first | refine blk_drewN ?_ _ | refine blk_drew ?_ | refine blk_alloc ?_ _)); exact BK373.out) hb); have n4_ := Aside0.mk (blk_below (g := gb377) (o := .cells #[.int .i64 t374, .int .i64 t375] 23 (0, 0)) (by (with_reducible repeat (first | refine blk_drewN ?_ _ | refine blk_drew ?_ | refine blk_alloc ?_ _)); exact BK377.out) hb); have n5_ := Aside0.mk (below_step (by repeat (first | (with_reducible first | exact HB.out | apply below_alloc | apply pw_below_drewN | apply below_drew1 | refine below_set ?_ GE358.out | refine below_set ?_ GE359.out | refine below_set ?_ GE360.out | refine below_set ?_ GE373.out | refine below_set ?_ GE377.out) | exact HB.out)) hb); clear BK358; clear BK359; clear BK360; clear BK373; clear BK377; clear HB; have BK358 := n0_; have BK359 := n1_; have BK360 := n2_; have BK373 := n3_; have BK377 := n4_; have HB := n5_; clear n0_ n1_ n2_ n3_ n4_ n5_; (try clear hb); (try clear hb2); (try clear hk); (try clear hi)))
         go_meet
         case rel => exact ⟨_, (true), (by first | rfl | (simp; done) | (simp [*]; done)), H', ⟨by have := HK1.out; first | omega | exact Nat.le_refl _⟩, ⟨by (with_reducible repeat (first | refine blk_drewN ?_ _ | refine blk_drew ?_ | refine blk_alloc ?_ _)); exact BK358.out⟩, ⟨by (with_reducible repeat (first | refine blk_drewN ?_ _ | refine blk_drew ?_ | refine blk_alloc ?_ _)); exact BK359.out⟩, ⟨by (with_reducible repeat (first | refine blk_drewN ?_ _ | refine blk_drew ?_ | refine blk_alloc ?_ _)); exact BK360.out⟩, ⟨by (with_reducible repeat (first | refine blk_drewN ?_ _ | refine blk_drew ?_ | refine blk_alloc ?_ _)); exact BK373.out⟩, ⟨by (with_reducible repeat (first | refine blk_drewN ?_ _ | refine blk_drew ?_ | refine blk_alloc ?_ _)); exact BK377.out⟩, ⟨by repeat (first | (with_reducible first | exact HB.out | apply below_alloc | apply pw_below_drewN | apply below_drew1 | refine below_set ?_ GE358.out | refine below_set ?_ GE359.out | refine below_set ?_ GE360.out | refine below_set ?_ GE373.out | refine below_set ?_ GE377.out) | exact HB.out)⟩⟩
       ·replace c141 := Bool.eq_false_iff.mpr c141
        subst c141
        have H1 : (flagstonelaw37_IntervalNests.j1 k1 t376 true t354 t355 t356 t357 t374 t375) = some r := by rw [if_neg (show ¬ (false = true) by decide)] at H; exact H
        clear H
        have H := H1
        clear H1
        have H' := Aside0.mk H
        clear H
        have hnb252 := NB358_359.out
        have hnc252 := NB359_358.out
        have hnb253 := NB358_360.out
        have hnc253 := NB360_358.out
        have hnb254 := NB358_373.out
        have hnc254 := NB373_358.out
        have hnb255 := NB358_377.out
        have hnc255 := NB377_358.out
        have hcz256_0 : w133.cell? ⟨gb358, 0, none⟩ = some (.int .i64 t354) := (blk_cell BK358.out 0).trans rfl
        have hcz256_1 : w133.cell? ⟨gb358, 1, none⟩ = some (.int .i64 t355) := (blk_cell BK358.out 1).trans rfl
        have hfz256_0 := blk_frozen BK358.out 0
        have hfz256_1 := blk_frozen BK358.out 1
        have hnb257 := NB373_359.out
        have hnc257 := NB359_373.out
        have hnb258 := NB373_360.out
        have hnc258 := NB360_373.out
        have hnb259 := NB373_377.out
        have hnc259 := NB377_373.out
        have hcz260_0 : w133.cell? ⟨gb373, 0, none⟩ = some (.int .i64 t370) := (blk_cell BK373.out 0).trans rfl
        have hcz260_1 : w133.cell? ⟨gb373, 1, none⟩ = some (.int .i64 t371) := (blk_cell BK373.out 1).trans rfl
        have hfz260_0 := blk_frozen BK373.out 0
        have hfz260_1 := blk_frozen BK373.out 1
        go_wp2_with (first | (go_at_call 9; (with_reducible refine (flagstonelaw37_inside.calls t354 t355 t370 t371 false _ A140.out).mono ?_); rintro e w261 ⟨rfl, hb⟩; have n0_ := Aside0.mk (blk_below (g := gb358) (o := .cells #[.int .i64 t354, .int .i64 t355] 23 (0, 0)) (by (with_reducible repeat (first | refine blk_drewN ?_ _ | refine blk_drew ?_ | refine blk_alloc ?_ _)); refine blk_far ?_ NB358_377.out _; (with_reducible repeat (first | refine blk_drewN ?_ _ | refine blk_drew ?_ | refine blk_alloc ?_ _)); refine blk_far ?_ NB358_377.out _; (with_reducible repeat (first | refine blk_drewN ?_ _ | refine blk_drew ?_ | refine blk_alloc ?_ _)); exact BK358.out) hb); have n1_ := Aside0.mk (blk_below (g := gb359) (o := .cells #[.int .i64 t356, .int .i64 t357] 23 (0, 0)) (by (with_reducible repeat (first | refine blk_drewN ?_ _ | refine blk_drew ?_ | refine blk_alloc ?_ _)); refine blk_far ?_ NB359_377.out _; (with_reducible repeat (first | refine blk_drewN ?_ _ | refine blk_drew ?_ | refine blk_alloc ?_ _)); refine blk_far ?_ NB359_377.out _; (with_reducible repeat (first | refine blk_drewN ?_ _ | refine blk_drew ?_ | refine blk_alloc ?_ _)); exact BK359.out) hb); have n2_ := Aside0.mk (blk_below (g := gb360) (o := .cells #[.int .i64 (wrap64 (t354 + (wrap64 ((wrap64 (Int.tdiv (wrap64 (t355 - t354)) 600)) * (wrap64 (a6)))))), .int .i64 (wrap64 (t355 - (wrap64 ((wrap64 (Int.tdiv (wrap64 (t355 - t354)) 600)) * (wrap64 (a7))))))] 23 (0, 0)) (by (with_reducible repeat (first | refine blk_drewN ?_ _ | refine blk_drew ?_ | refine blk_alloc ?_ _)); refine blk_far ?_ NB360_377.out _; (with_reducible repeat (first | refine blk_drewN ?_ _ | refine blk_drew ?_ | refine blk_alloc ?_ _)); refine blk_far ?_ NB360_377.out _; (with_reducible repeat (first | refine blk_drewN ?_ _ | refine blk_drew ?_ | refine blk_alloc ?_ _)); exact BK360.out) hb); have n3_ := Aside0.mk (blk_below (g := gb373) (o := .cells #[.int .i64 t370, .int .i64 t371] 23 (0, 0)) (by (with_reducible repeat (first | refine blk_drewN ?_ _ | refine blk_drew ?_ | refine blk_alloc ?_ _)); refine blk_far ?_ NB373_377.out _; (with_reducible repeat (first | refine blk_drewN ?_ _ | refine blk_drew ?_ | refine blk_alloc ?_ _)); refine blk_far ?_ NB373_377.out _; (with_reducible repeat (first | refine blk_drewN ?_ _ | refine blk_drew ?_ | refine blk_alloc ?_ _)); exact BK373.out) hb); have n4_ := Aside0.mk (blk_below (g := gb377) (o := .cells #[.int .i64 t374, .int .i64 t375] 23 (0, 0)) (by (with_reducible repeat (first | refine blk_drewN ?_ _ | refine blk_drew ?_ | refine blk_alloc ?_ _)); refine blk_put (cs := #[.int .i64 t374, .int .i64 0]) ?_ 1 _ rfl; (with_reducible repeat (first | refine blk_drewN ?_ _ | refine blk_drew ?_ | refine blk_alloc ?_ _)); refine blk_put (cs := #[.int .i64 0, .int .i64 0]) ?_ 0 _ rfl; (with_reducible repeat (first | refine blk_drewN ?_ _ | refine blk_drew ?_ | refine blk_alloc ?_ _)); exact BK377.out) hb); have n5_ := Aside0.mk (below_step (by repeat (first | (with_reducible first | exact HB.out | apply below_alloc | apply pw_below_drewN | apply below_drew1 | refine below_set ?_ GE358.out | refine below_set ?_ GE359.out | refine below_set ?_ GE360.out | refine below_set ?_ GE373.out | refine below_set ?_ GE377.out) | exact HB.out)) hb); clear BK358; clear BK359; clear BK360; clear BK373; clear BK377; clear HB; have BK358 := n0_; have BK359 := n1_; have BK360 := n2_; have BK373 := n3_; have BK377 := n4_; have HB := n5_; clear n0_ n1_ n2_ n3_ n4_ n5_; (try clear hb); (try clear hb2); (try clear hk); (try clear hi)))
        go_meet
        case rel => exact ⟨_, (true), (by first | rfl | (simp; done) | (simp [*]; done)), H', ⟨by have := HK1.out; first | omega | exact Nat.le_refl _⟩, ⟨by (with_reducible repeat (first | refine blk_drewN ?_ _ | refine blk_drew ?_ | refine blk_alloc ?_ _)); exact BK358.out⟩, ⟨by (with_reducible repeat (first | refine blk_drewN ?_ _ | refine blk_drew ?_ | refine blk_alloc ?_ _)); exact BK359.out⟩, ⟨by (with_reducible repeat (first | refine blk_drewN ?_ _ | refine blk_drew ?_ | refine blk_alloc ?_ _)); exact BK360.out⟩, ⟨by (with_reducible repeat (first | refine blk_drewN ?_ _ | refine blk_drew ?_ | refine blk_alloc ?_ _)); exact BK373.out⟩, ⟨by (with_reducible repeat (first | refine blk_drewN ?_ _ | refine blk_drew ?_ | refine blk_alloc ?_ _)); exact BK377.out⟩, ⟨by repeat (first | (with_reducible first | exact HB.out | apply below_alloc | apply pw_below_drewN | apply below_drew1 | refine below_set ?_ GE358.out | refine below_set ?_ GE359.out | refine below_set ?_ GE360.out | refine below_set ?_ GE373.out | refine below_set ?_ GE377.out) | exact HB.out)⟩⟩
      ·replace c139 := Bool.eq_false_iff.mpr c139
       subst c139
       have H1 : (flagstonelaw37_IntervalNests.j1 k1 t376 true t354 t355 t356 t357 t374 t375) = some r := by rw [if_neg (show ¬ (false = true) by decide)] at H; exact H
       clear H
       have H := H1
       clear H1
       have H' := Aside0.mk H
       clear H
       go_wp2
       go_meet
       case rel => exact ⟨_, (true), (by first | rfl | (simp; done) | (simp [*]; done)), H', ⟨by have := HK1.out; first | omega | exact Nat.le_refl _⟩, ⟨by (with_reducible repeat (first | refine blk_drewN ?_ _ | refine blk_drew ?_ | refine blk_alloc ?_ _)); refine blk_far ?_ NB358_377.out _; (with_reducible repeat (first | refine blk_drewN ?_ _ | refine blk_drew ?_ | refine blk_alloc ?_ _)); refine blk_far ?_ NB358_377.out _; (with_reducible repeat (first | refine blk_drewN ?_ _ | refine blk_drew ?_ | refine blk_alloc ?_ _)); exact BK358.out⟩, ⟨by (with_reducible repeat (first | refine blk_drewN ?_ _ | refine blk_drew ?_ | refine blk_alloc ?_ _)); refine blk_far ?_ NB359_377.out _; (with_reducible repeat (first | refine blk_drewN ?_ _ | refine blk_drew ?_ | refine blk_alloc ?_ _)); refine blk_far ?_ NB359_377.out _; (with_reducible repeat (first | refine blk_drewN ?_ _ | refine blk_drew ?_ | refine blk_alloc ?_ _)); exact BK359.out⟩, ⟨by (with_reducible repeat (first | refine blk_drewN ?_ _ | refine blk_drew ?_ | refine blk_alloc ?_ _)); refine blk_far ?_ NB360_377.out _; (with_reducible repeat (first | refine blk_drewN ?_ _ | refine blk_drew ?_ | refine blk_alloc ?_ _)); refine blk_far ?_ NB360_377.out _; (with_reducible repeat (first | refine blk_drewN ?_ _ | refine blk_drew ?_ | refine blk_alloc ?_ _)); exact BK360.out⟩, ⟨by (with_reducible repeat (first | refine blk_drewN ?_ _ | refine blk_drew ?_ | refine blk_alloc ?_ _)); refine blk_far ?_ NB373_377.out _; (with_reducible repeat (first | refine blk_drewN ?_ _ | refine blk_drew ?_ | refine blk_alloc ?_ _)); refine blk_far ?_ NB373_377.out _; (with_reducible repeat (first | refine blk_drewN ?_ _ | refine blk_drew ?_ | refine blk_alloc ?_ _)); exact BK373.out⟩, ⟨by (with_reducible repeat (first | refine blk_drewN ?_ _ | refine blk_drew ?_ | refine blk_alloc ?_ _)); refine blk_put (cs := #[.int .i64 t374, .int .i64 0]) ?_ 1 _ rfl; (with_reducible repeat (first | refine blk_drewN ?_ _ | refine blk_drew ?_ | refine blk_alloc ?_ _)); refine blk_put (cs := #[.int .i64 0, .int .i64 0]) ?_ 0 _ rfl; (with_reducible repeat (first | refine blk_drewN ?_ _ | refine blk_drew ?_ | refine blk_alloc ?_ _)); exact BK377.out⟩, ⟨by repeat (first | (with_reducible first | exact HB.out | apply below_alloc | apply pw_below_drewN | apply below_drew1 | refine below_set ?_ GE358.out | refine below_set ?_ GE359.out | refine below_set ?_ GE360.out | refine below_set ?_ GE373.out | refine below_set ?_ GE377.out) | exact HB.out)⟩⟩
     case rest =>
      clear HC118
      try clear c1
      try clear c2
      try clear p2
      try clear c3
      try clear c4
      try clear c5
      try clear c6
      try clear p6
      try clear c7
      try clear c8
      try clear c9
      try clear c10
      try clear c11
      try clear c12
      try clear c13
      try clear c14
      try clear c15
      try clear c16
      try clear c17
      try clear c18
      try clear c19
      try clear c20
      try clear c21
      try clear c22
      try clear c23
      try clear c24
      try clear c25
      try clear c25b0
      try clear c28
      try clear c29
      try clear c31
      try clear c32
      try clear c33
      try clear c35
      try clear c39
      try clear c40
      try clear c41
      try clear c47
      try clear c48
      try clear c49
      try clear c50
      try clear c54
      try clear c55
      try clear c57
      try clear c61
      try clear c62
      try clear c63
      try clear p64
      try clear c69
      try clear c70
      try clear c71
      try clear c72
      try clear c76
      try clear c77
      try clear c79
      try clear c83
      try clear c84
      try clear c85
      try clear c91
      try clear c92
      try clear c93
      try clear c94
      try clear c96
      try clear c97
      try clear c99
      try clear c103
      try clear c104
      try clear c105
      try clear c111
      try clear c112
      try clear c113
      try clear c114
      try clear c119
      try clear c120
      try clear c122
      try clear c126
      try clear c127
      try clear c128
      try clear c134
      try clear c135
      try clear c136
      try clear c137
      try clear c139
      try clear c141
      try clear c143
      try clear c144
      try clear c144b0
      try clear c144b1
      try clear c145
      try clear c145b0
      try clear c145b1
      try clear c146
      try clear c147
      try clear c148
      try clear c149
      try clear c151
      try clear c152
      try clear c153
      try clear c156
      try clear c157
      try clear c163
      try clear c164
      try clear c165
      try clear c166
      try clear c168
      try clear c169
      try clear c170
      try clear c173
      try clear c174
      try clear c181
      try clear c181b0
      try clear c181b1
      try clear c182
      try clear c182b0
      try clear c182b1
      try clear c183
      try clear c184
      try clear c185
      try clear c186
      try clear c188
      try clear c189
      try clear c190
      try clear c193
      try clear c194
      try clear c201
      try clear c202
      try clear c203
      try clear c204
      try clear c206
      try clear c207
      try clear c208
      try clear c211
      try clear c212
      try clear c219
      try clear c220
      try clear c221
      try clear c222
      try clear c224
      try clear c225
      try clear c226
      try clear c229
      try clear c230
      try clear c237
      try clear c238
      try clear c239
      try clear c240
      try clear c242
      try clear c243
      try clear c244
      try clear c247
      try clear c248
      try clear c252
      try clear c253
      try clear c254
      try clear c255
      try clear c257
      try clear c258
      try clear c259
      try clear hcz100_0
      try clear hcz100_1
      try clear hcz106_0
      try clear hcz106_1
      try clear hcz107_0
      try clear hcz107_1
      try clear hcz108_0
      try clear hcz108_1
      try clear hcz115_0
      try clear hcz115_1
      try clear hcz121_0
      try clear hcz121_1
      try clear hcz123_0
      try clear hcz123_1
      try clear hcz129_0
      try clear hcz129_1
      try clear hcz130_0
      try clear hcz130_1
      try clear hcz131_0
      try clear hcz131_1
      try clear hcz138_0
      try clear hcz138_1
      try clear hcz150_0
      try clear hcz150_1
      try clear hcz154_0
      try clear hcz154_1
      try clear hcz158_0
      try clear hcz158_1
      try clear hcz159_0
      try clear hcz159_1
      try clear hcz161_0
      try clear hcz161_1
      try clear hcz162_0
      try clear hcz162_1
      try clear hcz167_0
      try clear hcz167_1
      try clear hcz171_0
      try clear hcz171_1
      try clear hcz175_0
      try clear hcz175_1
      try clear hcz176_0
      try clear hcz176_1
      try clear hcz178_0
      try clear hcz178_1
      try clear hcz179_0
      try clear hcz179_1
      try clear hcz180_0
      try clear hcz180_1
      try clear hcz187_0
      try clear hcz187_1
      try clear hcz191_0
      try clear hcz191_1
      try clear hcz195_0
      try clear hcz195_1
      try clear hcz196_0
      try clear hcz196_1
      try clear hcz198_0
      try clear hcz198_1
      try clear hcz199_0
      try clear hcz199_1
      try clear hcz19_0
      try clear hcz19_1
      try clear hcz200_0
      try clear hcz200_1
      try clear hcz205_0
      try clear hcz205_1
      try clear hcz209_0
      try clear hcz209_1
      try clear hcz20_0
      try clear hcz20_1
      try clear hcz213_0
      try clear hcz213_1
      try clear hcz214_0
      try clear hcz214_1
      try clear hcz216_0
      try clear hcz216_1
      try clear hcz217_0
      try clear hcz217_1
      try clear hcz218_0
      try clear hcz218_1
      try clear hcz223_0
      try clear hcz223_1
      try clear hcz227_0
      try clear hcz227_1
      try clear hcz231_0
      try clear hcz231_1
      try clear hcz232_0
      try clear hcz232_1
      try clear hcz234_0
      try clear hcz234_1
      try clear hcz235_0
      try clear hcz235_1
      try clear hcz236_0
      try clear hcz236_1
      try clear hcz241_0
      try clear hcz241_1
      try clear hcz245_0
      try clear hcz245_1
      try clear hcz249_0
      try clear hcz249_1
      try clear hcz24_0
      try clear hcz24_1
      try clear hcz250_0
      try clear hcz250_1
      try clear hcz256_0
      try clear hcz256_1
      try clear hcz260_0
      try clear hcz260_1
      try clear hcz34_0
      try clear hcz34_1
      try clear hcz36_0
      try clear hcz36_1
      try clear hcz42_0
      try clear hcz42_1
      try clear hcz43_0
      try clear hcz43_1
      try clear hcz44_0
      try clear hcz44_1
      try clear hcz51_0
      try clear hcz51_1
      try clear hcz52_0
      try clear hcz52_1
      try clear hcz56_0
      try clear hcz56_1
      try clear hcz58_0
      try clear hcz58_1
      try clear hcz64_0
      try clear hcz64_1
      try clear hcz65_0
      try clear hcz65_1
      try clear hcz66_0
      try clear hcz66_1
      try clear hcz73_0
      try clear hcz73_1
      try clear hcz74_0
      try clear hcz74_1
      try clear hcz78_0
      try clear hcz78_1
      try clear hcz80_0
      try clear hcz80_1
      try clear hcz86_0
      try clear hcz86_1
      try clear hcz87_0
      try clear hcz87_1
      try clear hcz88_0
      try clear hcz88_1
      try clear hcz95_0
      try clear hcz95_1
      try clear hcz98_0
      try clear hcz98_1
      try clear hfz100_0
      try clear hfz100_1
      try clear hfz106_0
      try clear hfz106_1
      try clear hfz107_0
      try clear hfz107_1
      try clear hfz108_0
      try clear hfz108_1
      try clear hfz115_0
      try clear hfz115_1
      try clear hfz121_0
      try clear hfz121_1
      try clear hfz123_0
      try clear hfz123_1
      try clear hfz129_0
      try clear hfz129_1
      try clear hfz130_0
      try clear hfz130_1
      try clear hfz131_0
      try clear hfz131_1
      try clear hfz138_0
      try clear hfz138_1
      try clear hfz150_0
      try clear hfz150_1
      try clear hfz154_0
      try clear hfz154_1
      try clear hfz158_0
      try clear hfz158_1
      try clear hfz159_0
      try clear hfz159_1
      try clear hfz161_0
      try clear hfz161_1
      try clear hfz162_0
      try clear hfz162_1
      try clear hfz167_0
      try clear hfz167_1
      try clear hfz171_0
      try clear hfz171_1
      try clear hfz175_0
      try clear hfz175_1
      try clear hfz176_0
      try clear hfz176_1
      try clear hfz178_0
      try clear hfz178_1
      try clear hfz179_0
      try clear hfz179_1
      try clear hfz180_0
      try clear hfz180_1
      try clear hfz187_0
      try clear hfz187_1
      try clear hfz191_0
      try clear hfz191_1
      try clear hfz195_0
      try clear hfz195_1
      try clear hfz196_0
      try clear hfz196_1
      try clear hfz198_0
      try clear hfz198_1
      try clear hfz199_0
      try clear hfz199_1
      try clear hfz19_0
      try clear hfz19_1
      try clear hfz200_0
      try clear hfz200_1
      try clear hfz205_0
      try clear hfz205_1
      try clear hfz209_0
      try clear hfz209_1
      try clear hfz20_0
      try clear hfz20_1
      try clear hfz213_0
      try clear hfz213_1
      try clear hfz214_0
      try clear hfz214_1
      try clear hfz216_0
      try clear hfz216_1
      try clear hfz217_0
      try clear hfz217_1
      try clear hfz218_0
      try clear hfz218_1
      try clear hfz223_0
      try clear hfz223_1
      try clear hfz227_0
      try clear hfz227_1
      try clear hfz231_0
      try clear hfz231_1
      try clear hfz232_0
      try clear hfz232_1
      try clear hfz234_0
      try clear hfz234_1
      try clear hfz235_0
      try clear hfz235_1
      try clear hfz236_0
      try clear hfz236_1
      try clear hfz241_0
      try clear hfz241_1
      try clear hfz245_0
      try clear hfz245_1
      try clear hfz249_0
      try clear hfz249_1
      try clear hfz24_0
      try clear hfz24_1
      try clear hfz250_0
      try clear hfz250_1
      try clear hfz256_0
      try clear hfz256_1
      try clear hfz260_0
      try clear hfz260_1
      try clear hfz34_0
      try clear hfz34_1
      try clear hfz36_0
      try clear hfz36_1
      try clear hfz42_0
      try clear hfz42_1
      try clear hfz43_0
      try clear hfz43_1
      try clear hfz44_0
      try clear hfz44_1
      try clear hfz51_0
      try clear hfz51_1
      try clear hfz52_0
      try clear hfz52_1
      try clear hfz56_0
      try clear hfz56_1
      try clear hfz58_0
      try clear hfz58_1
      try clear hfz64_0
      try clear hfz64_1
      try clear hfz65_0
      try clear hfz65_1
      try clear hfz66_0
      try clear hfz66_1
      try clear hfz73_0
      try clear hfz73_1
      try clear hfz74_0
      try clear hfz74_1
      try clear hfz78_0
      try clear hfz78_1
      try clear hfz80_0
      try clear hfz80_1
      try clear hfz86_0
      try clear hfz86_1
      try clear hfz87_0
      try clear hfz87_1
      try clear hfz88_0
      try clear hfz88_1
      try clear hfz95_0
      try clear hfz95_1
      try clear hfz98_0
      try clear hfz98_1
      try clear p2
      try clear p6
      obtain ⟨kq, x144_117, rfl, HA, HJ117, BK358, BK359, BK360, BK373, BK377, HB⟩ := hcut
      cases kq with
      | zero => exact absurd HA.out (by simp [flagstonelaw37_IntervalNests.j1])
      | succ kj117 =>
       have H := HA.out
       clear HA
       simp only [flagstonelaw37_IntervalNests.j1] at H
       by_cases c262 : x144_117 = true
       ·subst c262
        have H1 : (some false) = some r := by rw [if_pos rfl] at H; exact H
        clear H
        have H := H1
        clear H1
        obtain rfl := Option.some.inj H
        go_wp2
        go_ret
        exact ⟨by first | rfl | (simp [errW_none, errW_some] <;> rfl) | (simp [*, errW_none, errW_some] <;> rfl), by repeat (first | (with_reducible first | exact HB.out | apply below_alloc | apply pw_below_drewN | apply below_drew1 | refine below_set ?_ GE358.out | refine below_set ?_ GE359.out | refine below_set ?_ GE360.out | refine below_set ?_ GE373.out | refine below_set ?_ GE377.out) | exact HB.out)⟩
       ·replace c262 := Bool.eq_false_iff.mpr c262
        subst c262
        have H1 : (if t376 = true then ((flagstonelaw37_inside.f t374 t375 t354 t355).bind fun t380 => (if t380 = true then ((flagstonelaw37_inside.f t374 t375 t356 t357).bind fun t381 => (if t381 = true then (if t374 = (mx t354 t356) then (some (t375 == (mn t355 t357))) else (some false)) else (some false))) else (some false))) else (if t355 < t356 then (some true) else (some (decide (t357 < t354))))) = some r := by rw [if_neg (show ¬ (false = true) by decide)] at H; exact H
        clear H
        have H := H1
        clear H1
        by_cases c263 : t376 = true
        ·subst c263
         have H1 : ((flagstonelaw37_inside.f t374 t375 t354 t355).bind fun t380 => (if t380 = true then ((flagstonelaw37_inside.f t374 t375 t356 t357).bind fun t381 => (if t381 = true then (if t374 = (mx t354 t356) then (some (t375 == (mn t355 t357))) else (some false)) else (some false))) else (some false))) = some r := by rw [if_pos rfl] at H; exact H
         clear H
         have H := H1
         clear H1
         replace H := Option.bind_eq_some_iff.mp H
         obtain ⟨t380, A2640, H⟩ := H
         replace H : (if t380 = true then ((flagstonelaw37_inside.f t374 t375 t356 t357).bind fun t381 => (if t381 = true then (if t374 = (mx t354 t356) then (some (t375 == (mn t355 t357))) else (some false)) else (some false))) else (some false)) = some r := H
         have A264 := Aside0.mk A2640
         clear A2640
         by_cases c265 : t380 = true
         ·subst c265
          have H1 : ((flagstonelaw37_inside.f t374 t375 t356 t357).bind fun t381 => (if t381 = true then (if t374 = (mx t354 t356) then (some (t375 == (mn t355 t357))) else (some false)) else (some false))) = some r := by rw [if_pos rfl] at H; exact H
          clear H
          have H := H1
          clear H1
          replace H := Option.bind_eq_some_iff.mp H
          obtain ⟨t381, A2660, H⟩ := H
          replace H : (if t381 = true then (if t374 = (mx t354 t356) then (some (t375 == (mn t355 t357))) else (some false)) else (some false)) = some r := H
          have A266 := Aside0.mk A2660
          clear A2660
          by_cases c267 : t381 = true
          ·subst c267
           have H1 : (if t374 = (mx t354 t356) then (some (t375 == (mn t355 t357))) else (some false)) = some r := by rw [if_pos rfl] at H; exact H
           clear H
           have H := H1
           clear H1
           obtain ⟨ji268, hji268⟩ : ∃ j_ : Int, (mx t354 t356) = j_ := ⟨_, rfl⟩
           replace H : (if t374 = (ji268) then (some (t375 == (mn t355 t357))) else (some false)) = some r := by first | (rw [hji268] at H; exact H) | (simp only [hji268] at H ⊢; exact H)
           (try rw [hji268] at A264)
           (try rw [hji268] at A266)
           have hji268_ : (if t354 < t356 then t356 else t354) = ji268 := hji268
           by_cases c269 : t374 = (ji268)
           ·rw [if_pos c269] at H
            have c269b0 : (t374 == (ji268)) = true := beq_iff_eq.mpr c269
            have c269b1 : (t374 != (ji268)) = false := bne_eq_false_iff_eq.mpr c269
            clear c269
            obtain ⟨ji270, hji270⟩ : ∃ j_ : Int, (mn t355 t357) = j_ := ⟨_, rfl⟩
            replace H : (some (t375 == (ji270))) = some r := by first | (rw [hji270] at H; exact H) | (simp only [hji270] at H ⊢; exact H)
            (try rw [hji270] at A264)
            (try rw [hji270] at A266)
            have hji270_ : (if t357 < t355 then t357 else t355) = ji270 := hji270
            obtain rfl := Option.some.inj H
            have hnb271 := NB377_358.out
            have hnc271 := NB358_377.out
            have hnb272 := NB377_359.out
            have hnc272 := NB359_377.out
            have hnb273 := NB377_360.out
            have hnc273 := NB360_377.out
            have hnb274 := NB377_373.out
            have hnc274 := NB373_377.out
            have hcz275_0 : wc.cell? ⟨gb377, 0, none⟩ = some (.int .i64 t374) := (blk_cell BK377.out 0).trans rfl
            have hcz275_1 : wc.cell? ⟨gb377, 1, none⟩ = some (.int .i64 t375) := (blk_cell BK377.out 1).trans rfl
            have hfz275_0 := blk_frozen BK377.out 0
            have hfz275_1 := blk_frozen BK377.out 1
            have hnb276 := NB358_359.out
            have hnc276 := NB359_358.out
            have hnb277 := NB358_360.out
            have hnc277 := NB360_358.out
            have hnb278 := NB358_373.out
            have hnc278 := NB373_358.out
            have hcz279_0 : wc.cell? ⟨gb358, 0, none⟩ = some (.int .i64 t354) := (blk_cell BK358.out 0).trans rfl
            have hcz279_1 : wc.cell? ⟨gb358, 1, none⟩ = some (.int .i64 t355) := (blk_cell BK358.out 1).trans rfl
            have hfz279_0 := blk_frozen BK358.out 0
            have hfz279_1 := blk_frozen BK358.out 1
            go_wp2_with (first | ((with_reducible refine gate_callee (f := 9) rfl ?_); refine goesL_ (some 161) rfl rfl Try.func9 (by kernel_rfl) rfl #[.agg #[.int .i64 t374, .int .i64 t375], .agg #[.int .i64 t354, .int .i64 t355]] rfl (by (try simp only [List.map_toArray, List.map_cons, List.map_nil]); first | done | rfl | (simp only [List.length_drop, List.length_take]; rfl)) ?_; (with_reducible refine (flagstonelaw37_inside.calls t374 t375 t354 t355 true _ A264.out).mono ?_); rintro e w280 ⟨rfl, hb⟩; refine ⟨_, rfl, ?_⟩; have n0_ := Aside0.mk (blk_below (g := gb358) (o := .cells #[.int .i64 t354, .int .i64 t355] 23 (0, 0)) (by (with_reducible repeat (first | refine blk_drewN ?_ _ | refine blk_drew ?_ | refine blk_alloc ?_ _)); exact BK358.out) hb); have n1_ := Aside0.mk (blk_below (g := gb359) (o := .cells #[.int .i64 t356, .int .i64 t357] 23 (0, 0)) (by (with_reducible repeat (first | refine blk_drewN ?_ _ | refine blk_drew ?_ | refine blk_alloc ?_ _)); exact BK359.out) hb); have n2_ := Aside0.mk (blk_below (g := gb360) (o := .cells #[.int .i64 (wrap64 (t354 + (wrap64 ((wrap64 (Int.tdiv (wrap64 (t355 - t354)) 600)) * (wrap64 (a6)))))), .int .i64 (wrap64 (t355 - (wrap64 ((wrap64 (Int.tdiv (wrap64 (t355 - t354)) 600)) * (wrap64 (a7))))))] 23 (0, 0)) (by (with_reducible repeat (first | refine blk_drewN ?_ _ | refine blk_drew ?_ | refine blk_alloc ?_ _)); exact BK360.out) hb); have n3_ := Aside0.mk (blk_below (g := gb373) (o := .cells #[.int .i64 t370, .int .i64 t371] 23 (0, 0)) (by (with_reducible repeat (first | refine blk_drewN ?_ _ | refine blk_drew ?_ | refine blk_alloc ?_ _)); exact BK373.out) hb); have n4_ := Aside0.mk (blk_below (g := gb377) (o := .cells #[.int .i64 t374, .int .i64 t375] 23 (0, 0)) (by (with_reducible repeat (first | refine blk_drewN ?_ _ | refine blk_drew ?_ | refine blk_alloc ?_ _)); exact BK377.out) hb); have n5_ := Aside0.mk (below_step (by repeat (first | (with_reducible first | exact HB.out | apply below_alloc | apply pw_below_drewN | apply below_drew1 | refine below_set ?_ GE358.out | refine below_set ?_ GE359.out | refine below_set ?_ GE360.out | refine below_set ?_ GE373.out | refine below_set ?_ GE377.out) | exact HB.out)) hb); clear BK358; clear BK359; clear BK360; clear BK373; clear BK377; clear HB; have BK358 := n0_; have BK359 := n1_; have BK360 := n2_; have BK373 := n3_; have BK377 := n4_; have HB := n5_; clear n0_ n1_ n2_ n3_ n4_ n5_; (try clear hb); (try clear hb2); (try clear hk); (try clear hi); have hcz281_0 : w280.cell? ⟨gb377, 0, none⟩ = some (.int .i64 t374) := (blk_cell BK377.out 0).trans rfl; have hcz281_1 : w280.cell? ⟨gb377, 1, none⟩ = some (.int .i64 t375) := (blk_cell BK377.out 1).trans rfl; have hfz281_0 := blk_frozen BK377.out 0; have hfz281_1 := blk_frozen BK377.out 1; have hnb282 := NB359_360.out; have hnc282 := NB360_359.out; have hnb283 := NB359_373.out; have hnc283 := NB373_359.out; have hcz284_0 : w280.cell? ⟨gb359, 0, none⟩ = some (.int .i64 t356) := (blk_cell BK359.out 0).trans rfl; have hcz284_1 : w280.cell? ⟨gb359, 1, none⟩ = some (.int .i64 t357) := (blk_cell BK359.out 1).trans rfl; have hfz284_0 := blk_frozen BK359.out 0; have hfz284_1 := blk_frozen BK359.out 1) | (go_at_call 9; (with_reducible refine (flagstonelaw37_inside.calls t374 t375 t356 t357 true _ A266.out).mono ?_); rintro e w285 ⟨rfl, hb⟩; have n0_ := Aside0.mk (blk_below (g := gb358) (o := .cells #[.int .i64 t354, .int .i64 t355] 23 (0, 0)) (by (with_reducible repeat (first | refine blk_drewN ?_ _ | refine blk_drew ?_ | refine blk_alloc ?_ _)); exact BK358.out) hb); have n1_ := Aside0.mk (blk_below (g := gb359) (o := .cells #[.int .i64 t356, .int .i64 t357] 23 (0, 0)) (by (with_reducible repeat (first | refine blk_drewN ?_ _ | refine blk_drew ?_ | refine blk_alloc ?_ _)); exact BK359.out) hb); have n2_ := Aside0.mk (blk_below (g := gb360) (o := .cells #[.int .i64 (wrap64 (t354 + (wrap64 ((wrap64 (Int.tdiv (wrap64 (t355 - t354)) 600)) * (wrap64 (a6)))))), .int .i64 (wrap64 (t355 - (wrap64 ((wrap64 (Int.tdiv (wrap64 (t355 - t354)) 600)) * (wrap64 (a7))))))] 23 (0, 0)) (by (with_reducible repeat (first | refine blk_drewN ?_ _ | refine blk_drew ?_ | refine blk_alloc ?_ _)); exact BK360.out) hb); have n3_ := Aside0.mk (blk_below (g := gb373) (o := .cells #[.int .i64 t370, .int .i64 t371] 23 (0, 0)) (by (with_reducible repeat (first | refine blk_drewN ?_ _ | refine blk_drew ?_ | refine blk_alloc ?_ _)); exact BK373.out) hb); have n4_ := Aside0.mk (blk_below (g := gb377) (o := .cells #[.int .i64 t374, .int .i64 t375] 23 (0, 0)) (by (with_reducible repeat (first | refine blk_drewN ?_ _ | refine blk_drew ?_ | refine blk_alloc ?_ _)); exact BK377.out) hb); have n5_ := Aside0.mk (below_step (by repeat (first | (with_reducible first | exact HB.out | apply below_alloc | apply pw_below_drewN | apply below_drew1 | refine below_set ?_ GE358.out | refine below_set ?_ GE359.out | refine below_set ?_ GE360.out | refine below_set ?_ GE373.out | refine below_set ?_ GE377.out) | exact HB.out)) hb); clear BK358; clear BK359; clear BK360; clear BK373; clear BK377; clear HB; have BK358 := n0_; have BK359 := n1_; have BK360 := n2_; have BK373 := n3_; have BK377 := n4_; have HB := n5_; clear n0_ n1_ n2_ n3_ n4_ n5_; (try clear hb); (try clear hb2); (try clear hk); (try clear hi); have hcz286_0 : w285.cell? ⟨gb377, 0, none⟩ = some (.int .i64 t374) := (blk_cell BK377.out 0).trans rfl; have hcz286_1 : w285.cell? ⟨gb377, 1, none⟩ = some (.int .i64 t375) := (blk_cell BK377.out 1).trans rfl; have hfz286_0 := blk_frozen BK377.out 0; have hfz286_1 := blk_frozen BK377.out 1; have hcz287_0 : w285.cell? ⟨gb358, 0, none⟩ = some (.int .i64 t354) := (blk_cell BK358.out 0).trans rfl; have hcz287_1 : w285.cell? ⟨gb358, 1, none⟩ = some (.int .i64 t355) := (blk_cell BK358.out 1).trans rfl; have hfz287_0 := blk_frozen BK358.out 0; have hfz287_1 := blk_frozen BK358.out 1; have hcz288_0 : w285.cell? ⟨gb359, 0, none⟩ = some (.int .i64 t356) := (blk_cell BK359.out 0).trans rfl; have hcz288_1 : w285.cell? ⟨gb359, 1, none⟩ = some (.int .i64 t357) := (blk_cell BK359.out 1).trans rfl; have hfz288_0 := blk_frozen BK359.out 0; have hfz288_1 := blk_frozen BK359.out 1))
            go_ret
            exact ⟨by first | rfl | (simp [errW_none, errW_some] <;> rfl) | (simp only [← hji268, ← hji270]; first | rfl | (simp [errW_none, errW_some] <;> rfl)) | (simp [*, errW_none, errW_some] <;> rfl), by repeat (first | (with_reducible first | exact HB.out | apply below_alloc | apply pw_below_drewN | apply below_drew1 | refine below_set ?_ GE358.out | refine below_set ?_ GE359.out | refine below_set ?_ GE360.out | refine below_set ?_ GE373.out | refine below_set ?_ GE377.out) | exact HB.out)⟩
           ·rw [if_neg c269] at H
            have c269b0 : (t374 == (ji268)) = false := beq_eq_false_iff_ne.mpr c269
            have c269b1 : (t374 != (ji268)) = true := bne_iff_ne.mpr c269
            obtain rfl := Option.some.inj H
            have hnb289 := NB377_358.out
            have hnc289 := NB358_377.out
            have hnb290 := NB377_359.out
            have hnc290 := NB359_377.out
            have hnb291 := NB377_360.out
            have hnc291 := NB360_377.out
            have hnb292 := NB377_373.out
            have hnc292 := NB373_377.out
            have hcz293_0 : wc.cell? ⟨gb377, 0, none⟩ = some (.int .i64 t374) := (blk_cell BK377.out 0).trans rfl
            have hcz293_1 : wc.cell? ⟨gb377, 1, none⟩ = some (.int .i64 t375) := (blk_cell BK377.out 1).trans rfl
            have hfz293_0 := blk_frozen BK377.out 0
            have hfz293_1 := blk_frozen BK377.out 1
            have hnb294 := NB358_359.out
            have hnc294 := NB359_358.out
            have hnb295 := NB358_360.out
            have hnc295 := NB360_358.out
            have hnb296 := NB358_373.out
            have hnc296 := NB373_358.out
            have hcz297_0 : wc.cell? ⟨gb358, 0, none⟩ = some (.int .i64 t354) := (blk_cell BK358.out 0).trans rfl
            have hcz297_1 : wc.cell? ⟨gb358, 1, none⟩ = some (.int .i64 t355) := (blk_cell BK358.out 1).trans rfl
            have hfz297_0 := blk_frozen BK358.out 0
            have hfz297_1 := blk_frozen BK358.out 1
            go_wp2_with (first | ((with_reducible refine gate_callee (f := 9) rfl ?_); refine goesL_ (some 161) rfl rfl Try.func9 (by kernel_rfl) rfl #[.agg #[.int .i64 t374, .int .i64 t375], .agg #[.int .i64 t354, .int .i64 t355]] rfl (by (try simp only [List.map_toArray, List.map_cons, List.map_nil]); first | done | rfl | (simp only [List.length_drop, List.length_take]; rfl)) ?_; (with_reducible refine (flagstonelaw37_inside.calls t374 t375 t354 t355 true _ A264.out).mono ?_); rintro e w298 ⟨rfl, hb⟩; refine ⟨_, rfl, ?_⟩; have n0_ := Aside0.mk (blk_below (g := gb358) (o := .cells #[.int .i64 t354, .int .i64 t355] 23 (0, 0)) (by (with_reducible repeat (first | refine blk_drewN ?_ _ | refine blk_drew ?_ | refine blk_alloc ?_ _)); exact BK358.out) hb); have n1_ := Aside0.mk (blk_below (g := gb359) (o := .cells #[.int .i64 t356, .int .i64 t357] 23 (0, 0)) (by (with_reducible repeat (first | refine blk_drewN ?_ _ | refine blk_drew ?_ | refine blk_alloc ?_ _)); exact BK359.out) hb); have n2_ := Aside0.mk (blk_below (g := gb360) (o := .cells #[.int .i64 (wrap64 (t354 + (wrap64 ((wrap64 (Int.tdiv (wrap64 (t355 - t354)) 600)) * (wrap64 (a6)))))), .int .i64 (wrap64 (t355 - (wrap64 ((wrap64 (Int.tdiv (wrap64 (t355 - t354)) 600)) * (wrap64 (a7))))))] 23 (0, 0)) (by (with_reducible repeat (first | refine blk_drewN ?_ _ | refine blk_drew ?_ | refine blk_alloc ?_ _)); exact BK360.out) hb); have n3_ := Aside0.mk (blk_below (g := gb373) (o := .cells #[.int .i64 t370, .int .i64 t371] 23 (0, 0)) (by (with_reducible repeat (first | refine blk_drewN ?_ _ | refine blk_drew ?_ | refine blk_alloc ?_ _)); exact BK373.out) hb); have n4_ := Aside0.mk (blk_below (g := gb377) (o := .cells #[.int .i64 t374, .int .i64 t375] 23 (0, 0)) (by (with_reducible repeat (first | refine blk_drewN ?_ _ | refine blk_drew ?_ | refine blk_alloc ?_ _)); exact BK377.out) hb); have n5_ := Aside0.mk (below_step (by repeat (first | (with_reducible first | exact HB.out | apply below_alloc | apply pw_below_drewN | apply below_drew1 | refine below_set ?_ GE358.out | refine below_set ?_ GE359.out | refine below_set ?_ GE360.out | refine below_set ?_ GE373.out | refine below_set ?_ GE377.out) | exact HB.out)) hb); clear BK358; clear BK359; clear BK360; clear BK373; clear BK377; clear HB; have BK358 := n0_; have BK359 := n1_; have BK360 := n2_; have BK373 := n3_; have BK377 := n4_; have HB := n5_; clear n0_ n1_ n2_ n3_ n4_ n5_; (try clear hb); (try clear hb2); (try clear hk); (try clear hi); have hcz299_0 : w298.cell? ⟨gb377, 0, none⟩ = some (.int .i64 t374) := (blk_cell BK377.out 0).trans rfl; have hcz299_1 : w298.cell? ⟨gb377, 1, none⟩ = some (.int .i64 t375) := (blk_cell BK377.out 1).trans rfl; have hfz299_0 := blk_frozen BK377.out 0; have hfz299_1 := blk_frozen BK377.out 1; have hnb300 := NB359_360.out; have hnc300 := NB360_359.out; have hnb301 := NB359_373.out; have hnc301 := NB373_359.out; have hcz302_0 : w298.cell? ⟨gb359, 0, none⟩ = some (.int .i64 t356) := (blk_cell BK359.out 0).trans rfl; have hcz302_1 : w298.cell? ⟨gb359, 1, none⟩ = some (.int .i64 t357) := (blk_cell BK359.out 1).trans rfl; have hfz302_0 := blk_frozen BK359.out 0; have hfz302_1 := blk_frozen BK359.out 1) | (go_at_call 9; (with_reducible refine (flagstonelaw37_inside.calls t374 t375 t356 t357 true _ A266.out).mono ?_); rintro e w303 ⟨rfl, hb⟩; have n0_ := Aside0.mk (blk_below (g := gb358) (o := .cells #[.int .i64 t354, .int .i64 t355] 23 (0, 0)) (by (with_reducible repeat (first | refine blk_drewN ?_ _ | refine blk_drew ?_ | refine blk_alloc ?_ _)); exact BK358.out) hb); have n1_ := Aside0.mk (blk_below (g := gb359) (o := .cells #[.int .i64 t356, .int .i64 t357] 23 (0, 0)) (by (with_reducible repeat (first | refine blk_drewN ?_ _ | refine blk_drew ?_ | refine blk_alloc ?_ _)); exact BK359.out) hb); have n2_ := Aside0.mk (blk_below (g := gb360) (o := .cells #[.int .i64 (wrap64 (t354 + (wrap64 ((wrap64 (Int.tdiv (wrap64 (t355 - t354)) 600)) * (wrap64 (a6)))))), .int .i64 (wrap64 (t355 - (wrap64 ((wrap64 (Int.tdiv (wrap64 (t355 - t354)) 600)) * (wrap64 (a7))))))] 23 (0, 0)) (by (with_reducible repeat (first | refine blk_drewN ?_ _ | refine blk_drew ?_ | refine blk_alloc ?_ _)); exact BK360.out) hb); have n3_ := Aside0.mk (blk_below (g := gb373) (o := .cells #[.int .i64 t370, .int .i64 t371] 23 (0, 0)) (by (with_reducible repeat (first | refine blk_drewN ?_ _ | refine blk_drew ?_ | refine blk_alloc ?_ _)); exact BK373.out) hb); have n4_ := Aside0.mk (blk_below (g := gb377) (o := .cells #[.int .i64 t374, .int .i64 t375] 23 (0, 0)) (by (with_reducible repeat (first | refine blk_drewN ?_ _ | refine blk_drew ?_ | refine blk_alloc ?_ _)); exact BK377.out) hb); have n5_ := Aside0.mk (below_step (by repeat (first | (with_reducible first | exact HB.out | apply below_alloc | apply pw_below_drewN | apply below_drew1 | refine below_set ?_ GE358.out | refine below_set ?_ GE359.out | refine below_set ?_ GE360.out | refine below_set ?_ GE373.out | refine below_set ?_ GE377.out) | exact HB.out)) hb); clear BK358; clear BK359; clear BK360; clear BK373; clear BK377; clear HB; have BK358 := n0_; have BK359 := n1_; have BK360 := n2_; have BK373 := n3_; have BK377 := n4_; have HB := n5_; clear n0_ n1_ n2_ n3_ n4_ n5_; (try clear hb); (try clear hb2); (try clear hk); (try clear hi); have hcz304_0 : w303.cell? ⟨gb377, 0, none⟩ = some (.int .i64 t374) := (blk_cell BK377.out 0).trans rfl; have hcz304_1 : w303.cell? ⟨gb377, 1, none⟩ = some (.int .i64 t375) := (blk_cell BK377.out 1).trans rfl; have hfz304_0 := blk_frozen BK377.out 0; have hfz304_1 := blk_frozen BK377.out 1; have hcz305_0 : w303.cell? ⟨gb358, 0, none⟩ = some (.int .i64 t354) := (blk_cell BK358.out 0).trans rfl; have hcz305_1 : w303.cell? ⟨gb358, 1, none⟩ = some (.int .i64 t355) := (blk_cell BK358.out 1).trans rfl; have hfz305_0 := blk_frozen BK358.out 0; have hfz305_1 := blk_frozen BK358.out 1; have hcz306_0 : w303.cell? ⟨gb359, 0, none⟩ = some (.int .i64 t356) := (blk_cell BK359.out 0).trans rfl; have hcz306_1 : w303.cell? ⟨gb359, 1, none⟩ = some (.int .i64 t357) := (blk_cell BK359.out 1).trans rfl; have hfz306_0 := blk_frozen BK359.out 0; have hfz306_1 := blk_frozen BK359.out 1))
            go_ret
            exact ⟨by first | rfl | (simp [errW_none, errW_some] <;> rfl) | (simp only [← hji268]; first | rfl | (simp [errW_none, errW_some] <;> rfl)) | (simp [*, errW_none, errW_some] <;> rfl), by repeat (first | (with_reducible first | exact HB.out | apply below_alloc | apply pw_below_drewN | apply below_drew1 | refine below_set ?_ GE358.out | refine below_set ?_ GE359.out | refine below_set ?_ GE360.out | refine below_set ?_ GE373.out | refine below_set ?_ GE377.out) | exact HB.out)⟩
          ·replace c267 := Bool.eq_false_iff.mpr c267
           subst c267
           have H1 : (some false) = some r := by rw [if_neg (show ¬ (false = true) by decide)] at H; exact H
           clear H
           have H := H1
           clear H1
           obtain rfl := Option.some.inj H
           have hnb307 := NB377_358.out
           have hnc307 := NB358_377.out
           have hnb308 := NB377_359.out
           have hnc308 := NB359_377.out
           have hnb309 := NB377_360.out
           have hnc309 := NB360_377.out
           have hnb310 := NB377_373.out
           have hnc310 := NB373_377.out
           have hcz311_0 : wc.cell? ⟨gb377, 0, none⟩ = some (.int .i64 t374) := (blk_cell BK377.out 0).trans rfl
           have hcz311_1 : wc.cell? ⟨gb377, 1, none⟩ = some (.int .i64 t375) := (blk_cell BK377.out 1).trans rfl
           have hfz311_0 := blk_frozen BK377.out 0
           have hfz311_1 := blk_frozen BK377.out 1
           have hnb312 := NB358_359.out
           have hnc312 := NB359_358.out
           have hnb313 := NB358_360.out
           have hnc313 := NB360_358.out
           have hnb314 := NB358_373.out
           have hnc314 := NB373_358.out
           have hcz315_0 : wc.cell? ⟨gb358, 0, none⟩ = some (.int .i64 t354) := (blk_cell BK358.out 0).trans rfl
           have hcz315_1 : wc.cell? ⟨gb358, 1, none⟩ = some (.int .i64 t355) := (blk_cell BK358.out 1).trans rfl
           have hfz315_0 := blk_frozen BK358.out 0
           have hfz315_1 := blk_frozen BK358.out 1
           go_wp2_with (first | ((with_reducible refine gate_callee (f := 9) rfl ?_); refine goesL_ (some 161) rfl rfl Try.func9 (by kernel_rfl) rfl #[.agg #[.int .i64 t374, .int .i64 t375], .agg #[.int .i64 t354, .int .i64 t355]] rfl (by (try simp only [List.map_toArray, List.map_cons, List.map_nil]); first | done | rfl | (simp only [List.length_drop, List.length_take]; rfl)) ?_; (with_reducible refine (flagstonelaw37_inside.calls t374 t375 t354 t355 true _ A264.out).mono ?_); rintro e w316 ⟨rfl, hb⟩; refine ⟨_, rfl, ?_⟩; have n0_ := Aside0.mk (blk_below (g := gb358) (o := .cells #[.int .i64 t354, .int .i64 t355] 23 (0, 0)) (by (with_reducible repeat (first | refine blk_drewN ?_ _ | refine blk_drew ?_ | refine blk_alloc ?_ _)); exact BK358.out) hb); have n1_ := Aside0.mk (blk_below (g := gb359) (o := .cells #[.int .i64 t356, .int .i64 t357] 23 (0, 0)) (by (with_reducible repeat (first | refine blk_drewN ?_ _ | refine blk_drew ?_ | refine blk_alloc ?_ _)); exact BK359.out) hb); have n2_ := Aside0.mk (blk_below (g := gb360) (o := .cells #[.int .i64 (wrap64 (t354 + (wrap64 ((wrap64 (Int.tdiv (wrap64 (t355 - t354)) 600)) * (wrap64 (a6)))))), .int .i64 (wrap64 (t355 - (wrap64 ((wrap64 (Int.tdiv (wrap64 (t355 - t354)) 600)) * (wrap64 (a7))))))] 23 (0, 0)) (by (with_reducible repeat (first | refine blk_drewN ?_ _ | refine blk_drew ?_ | refine blk_alloc ?_ _)); exact BK360.out) hb); have n3_ := Aside0.mk (blk_below (g := gb373) (o := .cells #[.int .i64 t370, .int .i64 t371] 23 (0, 0)) (by (with_reducible repeat (first | refine blk_drewN ?_ _ | refine blk_drew ?_ | refine blk_alloc ?_ _)); exact BK373.out) hb); have n4_ := Aside0.mk (blk_below (g := gb377) (o := .cells #[.int .i64 t374, .int .i64 t375] 23 (0, 0)) (by (with_reducible repeat (first | refine blk_drewN ?_ _ | refine blk_drew ?_ | refine blk_alloc ?_ _)); exact BK377.out) hb); have n5_ := Aside0.mk (below_step (by repeat (first | (with_reducible first | exact HB.out | apply below_alloc | apply pw_below_drewN | apply below_drew1 | refine below_set ?_ GE358.out | refine below_set ?_ GE359.out | refine below_set ?_ GE360.out | refine below_set ?_ GE373.out | refine below_set ?_ GE377.out) | exact HB.out)) hb); clear BK358; clear BK359; clear BK360; clear BK373; clear BK377; clear HB; have BK358 := n0_; have BK359 := n1_; have BK360 := n2_; have BK373 := n3_; have BK377 := n4_; have HB := n5_; clear n0_ n1_ n2_ n3_ n4_ n5_; (try clear hb); (try clear hb2); (try clear hk); (try clear hi); have hcz317_0 : w316.cell? ⟨gb377, 0, none⟩ = some (.int .i64 t374) := (blk_cell BK377.out 0).trans rfl; have hcz317_1 : w316.cell? ⟨gb377, 1, none⟩ = some (.int .i64 t375) := (blk_cell BK377.out 1).trans rfl; have hfz317_0 := blk_frozen BK377.out 0; have hfz317_1 := blk_frozen BK377.out 1; have hnb318 := NB359_360.out; have hnc318 := NB360_359.out; have hnb319 := NB359_373.out; have hnc319 := NB373_359.out; have hcz320_0 : w316.cell? ⟨gb359, 0, none⟩ = some (.int .i64 t356) := (blk_cell BK359.out 0).trans rfl; have hcz320_1 : w316.cell? ⟨gb359, 1, none⟩ = some (.int .i64 t357) := (blk_cell BK359.out 1).trans rfl; have hfz320_0 := blk_frozen BK359.out 0; have hfz320_1 := blk_frozen BK359.out 1) | (go_at_call 9; (with_reducible refine (flagstonelaw37_inside.calls t374 t375 t356 t357 false _ A266.out).mono ?_); rintro e w321 ⟨rfl, hb⟩; have n0_ := Aside0.mk (blk_below (g := gb358) (o := .cells #[.int .i64 t354, .int .i64 t355] 23 (0, 0)) (by (with_reducible repeat (first | refine blk_drewN ?_ _ | refine blk_drew ?_ | refine blk_alloc ?_ _)); exact BK358.out) hb); have n1_ := Aside0.mk (blk_below (g := gb359) (o := .cells #[.int .i64 t356, .int .i64 t357] 23 (0, 0)) (by (with_reducible repeat (first | refine blk_drewN ?_ _ | refine blk_drew ?_ | refine blk_alloc ?_ _)); exact BK359.out) hb); have n2_ := Aside0.mk (blk_below (g := gb360) (o := .cells #[.int .i64 (wrap64 (t354 + (wrap64 ((wrap64 (Int.tdiv (wrap64 (t355 - t354)) 600)) * (wrap64 (a6)))))), .int .i64 (wrap64 (t355 - (wrap64 ((wrap64 (Int.tdiv (wrap64 (t355 - t354)) 600)) * (wrap64 (a7))))))] 23 (0, 0)) (by (with_reducible repeat (first | refine blk_drewN ?_ _ | refine blk_drew ?_ | refine blk_alloc ?_ _)); exact BK360.out) hb); have n3_ := Aside0.mk (blk_below (g := gb373) (o := .cells #[.int .i64 t370, .int .i64 t371] 23 (0, 0)) (by (with_reducible repeat (first | refine blk_drewN ?_ _ | refine blk_drew ?_ | refine blk_alloc ?_ _)); exact BK373.out) hb); have n4_ := Aside0.mk (blk_below (g := gb377) (o := .cells #[.int .i64 t374, .int .i64 t375] 23 (0, 0)) (by (with_reducible repeat (first | refine blk_drewN ?_ _ | refine blk_drew ?_ | refine blk_alloc ?_ _)); exact BK377.out) hb); have n5_ := Aside0.mk (below_step (by repeat (first | (with_reducible first | exact HB.out | apply below_alloc | apply pw_below_drewN | apply below_drew1 | refine below_set ?_ GE358.out | refine below_set ?_ GE359.out | refine below_set ?_ GE360.out | refine below_set ?_ GE373.out | refine below_set ?_ GE377.out) | exact HB.out)) hb); clear BK358; clear BK359; clear BK360; clear BK373; clear BK377; clear HB; have BK358 := n0_; have BK359 := n1_; have BK360 := n2_; have BK373 := n3_; have BK377 := n4_; have HB := n5_; clear n0_ n1_ n2_ n3_ n4_ n5_; (try clear hb); (try clear hb2); (try clear hk); (try clear hi)))
           go_ret
           exact ⟨by first | rfl | (simp [errW_none, errW_some] <;> rfl) | (simp [*, errW_none, errW_some] <;> rfl), by repeat (first | (with_reducible first | exact HB.out | apply below_alloc | apply pw_below_drewN | apply below_drew1 | refine below_set ?_ GE358.out | refine below_set ?_ GE359.out | refine below_set ?_ GE360.out | refine below_set ?_ GE373.out | refine below_set ?_ GE377.out) | exact HB.out)⟩
         ·replace c265 := Bool.eq_false_iff.mpr c265
          subst c265
          have H1 : (some false) = some r := by rw [if_neg (show ¬ (false = true) by decide)] at H; exact H
          clear H
          have H := H1
          clear H1
          obtain rfl := Option.some.inj H
          have hnb322 := NB377_358.out
          have hnc322 := NB358_377.out
          have hnb323 := NB377_359.out
          have hnc323 := NB359_377.out
          have hnb324 := NB377_360.out
          have hnc324 := NB360_377.out
          have hnb325 := NB377_373.out
          have hnc325 := NB373_377.out
          have hcz326_0 : wc.cell? ⟨gb377, 0, none⟩ = some (.int .i64 t374) := (blk_cell BK377.out 0).trans rfl
          have hcz326_1 : wc.cell? ⟨gb377, 1, none⟩ = some (.int .i64 t375) := (blk_cell BK377.out 1).trans rfl
          have hfz326_0 := blk_frozen BK377.out 0
          have hfz326_1 := blk_frozen BK377.out 1
          have hnb327 := NB358_359.out
          have hnc327 := NB359_358.out
          have hnb328 := NB358_360.out
          have hnc328 := NB360_358.out
          have hnb329 := NB358_373.out
          have hnc329 := NB373_358.out
          have hcz330_0 : wc.cell? ⟨gb358, 0, none⟩ = some (.int .i64 t354) := (blk_cell BK358.out 0).trans rfl
          have hcz330_1 : wc.cell? ⟨gb358, 1, none⟩ = some (.int .i64 t355) := (blk_cell BK358.out 1).trans rfl
          have hfz330_0 := blk_frozen BK358.out 0
          have hfz330_1 := blk_frozen BK358.out 1
          go_wp2_with (first | ((with_reducible refine gate_callee (f := 9) rfl ?_); refine goesL_ (some 161) rfl rfl Try.func9 (by kernel_rfl) rfl #[.agg #[.int .i64 t374, .int .i64 t375], .agg #[.int .i64 t354, .int .i64 t355]] rfl (by (try simp only [List.map_toArray, List.map_cons, List.map_nil]); first | done | rfl | (simp only [List.length_drop, List.length_take]; rfl)) ?_; (with_reducible refine (flagstonelaw37_inside.calls t374 t375 t354 t355 false _ A264.out).mono ?_); rintro e w331 ⟨rfl, hb⟩; refine ⟨_, rfl, ?_⟩; have n0_ := Aside0.mk (blk_below (g := gb358) (o := .cells #[.int .i64 t354, .int .i64 t355] 23 (0, 0)) (by (with_reducible repeat (first | refine blk_drewN ?_ _ | refine blk_drew ?_ | refine blk_alloc ?_ _)); exact BK358.out) hb); have n1_ := Aside0.mk (blk_below (g := gb359) (o := .cells #[.int .i64 t356, .int .i64 t357] 23 (0, 0)) (by (with_reducible repeat (first | refine blk_drewN ?_ _ | refine blk_drew ?_ | refine blk_alloc ?_ _)); exact BK359.out) hb); have n2_ := Aside0.mk (blk_below (g := gb360) (o := .cells #[.int .i64 (wrap64 (t354 + (wrap64 ((wrap64 (Int.tdiv (wrap64 (t355 - t354)) 600)) * (wrap64 (a6)))))), .int .i64 (wrap64 (t355 - (wrap64 ((wrap64 (Int.tdiv (wrap64 (t355 - t354)) 600)) * (wrap64 (a7))))))] 23 (0, 0)) (by (with_reducible repeat (first | refine blk_drewN ?_ _ | refine blk_drew ?_ | refine blk_alloc ?_ _)); exact BK360.out) hb); have n3_ := Aside0.mk (blk_below (g := gb373) (o := .cells #[.int .i64 t370, .int .i64 t371] 23 (0, 0)) (by (with_reducible repeat (first | refine blk_drewN ?_ _ | refine blk_drew ?_ | refine blk_alloc ?_ _)); exact BK373.out) hb); have n4_ := Aside0.mk (blk_below (g := gb377) (o := .cells #[.int .i64 t374, .int .i64 t375] 23 (0, 0)) (by (with_reducible repeat (first | refine blk_drewN ?_ _ | refine blk_drew ?_ | refine blk_alloc ?_ _)); exact BK377.out) hb); have n5_ := Aside0.mk (below_step (by repeat (first | (with_reducible first | exact HB.out | apply below_alloc | apply pw_below_drewN | apply below_drew1 | refine below_set ?_ GE358.out | refine below_set ?_ GE359.out | refine below_set ?_ GE360.out | refine below_set ?_ GE373.out | refine below_set ?_ GE377.out) | exact HB.out)) hb); clear BK358; clear BK359; clear BK360; clear BK373; clear BK377; clear HB; have BK358 := n0_; have BK359 := n1_; have BK360 := n2_; have BK373 := n3_; have BK377 := n4_; have HB := n5_; clear n0_ n1_ n2_ n3_ n4_ n5_; (try clear hb); (try clear hb2); (try clear hk); (try clear hi)))
          go_ret
          exact ⟨by first | rfl | (simp [errW_none, errW_some] <;> rfl) | (simp [*, errW_none, errW_some] <;> rfl), by repeat (first | (with_reducible first | exact HB.out | apply below_alloc | apply pw_below_drewN | apply below_drew1 | refine below_set ?_ GE358.out | refine below_set ?_ GE359.out | refine below_set ?_ GE360.out | refine below_set ?_ GE373.out | refine below_set ?_ GE377.out) | exact HB.out)⟩
        ·replace c263 := Bool.eq_false_iff.mpr c263
         subst c263
         have H1 : (if t355 < t356 then (some true) else (some (decide (t357 < t354)))) = some r := by rw [if_neg (show ¬ (false = true) by decide)] at H; exact H
         clear H
         have H := H1
         clear H1
         by_cases c332 : t355 < t356
         ·rw [if_pos c332] at H
          have c332b0 : decide (t355 < t356) = true := decide_eq_true c332
          clear c332
          obtain rfl := Option.some.inj H
          have hnb333 := NB358_359.out
          have hnc333 := NB359_358.out
          have hnb334 := NB358_360.out
          have hnc334 := NB360_358.out
          have hnb335 := NB358_373.out
          have hnc335 := NB373_358.out
          have hnb336 := NB358_377.out
          have hnc336 := NB377_358.out
          have hcz337_0 : wc.cell? ⟨gb358, 0, none⟩ = some (.int .i64 t354) := (blk_cell BK358.out 0).trans rfl
          have hcz337_1 : wc.cell? ⟨gb358, 1, none⟩ = some (.int .i64 t355) := (blk_cell BK358.out 1).trans rfl
          have hfz337_0 := blk_frozen BK358.out 0
          have hfz337_1 := blk_frozen BK358.out 1
          have hnb338 := NB359_360.out
          have hnc338 := NB360_359.out
          have hnb339 := NB359_373.out
          have hnc339 := NB373_359.out
          have hnb340 := NB359_377.out
          have hnc340 := NB377_359.out
          have hcz341_0 : wc.cell? ⟨gb359, 0, none⟩ = some (.int .i64 t356) := (blk_cell BK359.out 0).trans rfl
          have hcz341_1 : wc.cell? ⟨gb359, 1, none⟩ = some (.int .i64 t357) := (blk_cell BK359.out 1).trans rfl
          have hfz341_0 := blk_frozen BK359.out 0
          have hfz341_1 := blk_frozen BK359.out 1
          go_wp2
          go_ret
          exact ⟨by first | rfl | (simp [errW_none, errW_some] <;> rfl) | (simp [*, errW_none, errW_some] <;> rfl), by repeat (first | (with_reducible first | exact HB.out | apply below_alloc | apply pw_below_drewN | apply below_drew1 | refine below_set ?_ GE358.out | refine below_set ?_ GE359.out | refine below_set ?_ GE360.out | refine below_set ?_ GE373.out | refine below_set ?_ GE377.out) | exact HB.out)⟩
         ·rw [if_neg c332] at H
          have c332b0 : decide (t355 < t356) = false := decide_eq_false c332
          clear c332
          obtain rfl := Option.some.inj H
          have hnb342 := NB358_359.out
          have hnc342 := NB359_358.out
          have hnb343 := NB358_360.out
          have hnc343 := NB360_358.out
          have hnb344 := NB358_373.out
          have hnc344 := NB373_358.out
          have hnb345 := NB358_377.out
          have hnc345 := NB377_358.out
          have hcz346_0 : wc.cell? ⟨gb358, 0, none⟩ = some (.int .i64 t354) := (blk_cell BK358.out 0).trans rfl
          have hcz346_1 : wc.cell? ⟨gb358, 1, none⟩ = some (.int .i64 t355) := (blk_cell BK358.out 1).trans rfl
          have hfz346_0 := blk_frozen BK358.out 0
          have hfz346_1 := blk_frozen BK358.out 1
          have hnb347 := NB359_360.out
          have hnc347 := NB360_359.out
          have hnb348 := NB359_373.out
          have hnc348 := NB373_359.out
          have hnb349 := NB359_377.out
          have hnc349 := NB377_359.out
          have hcz350_0 : wc.cell? ⟨gb359, 0, none⟩ = some (.int .i64 t356) := (blk_cell BK359.out 0).trans rfl
          have hcz350_1 : wc.cell? ⟨gb359, 1, none⟩ = some (.int .i64 t357) := (blk_cell BK359.out 1).trans rfl
          have hfz350_0 := blk_frozen BK359.out 0
          have hfz350_1 := blk_frozen BK359.out 1
          go_wp2
          go_ret
          exact ⟨by first | rfl | (simp [errW_none, errW_some] <;> rfl) | (simp [*, errW_none, errW_some] <;> rfl), by repeat (first | (with_reducible first | exact HB.out | apply below_alloc | apply pw_below_drewN | apply below_drew1 | refine below_set ?_ GE358.out | refine below_set ?_ GE359.out | refine below_set ?_ GE360.out | refine below_set ?_ GE373.out | refine below_set ?_ GE377.out) | exact HB.out)⟩
 ·replace c10 := Bool.eq_false_iff.mpr c10
  subst c10
  have H1 : (some false) = some r := by rw [if_neg (show ¬ (false = true) by decide)] at H; exact H
  clear H
  have H := H1
  clear H1
  obtain rfl := Option.some.inj H
  go_enter Try.func4, Try.ntmps4
  go_wp2_with (first | ((with_reducible refine gate_callee (f := 5) rfl ?_); refine goesL_ (some 30) rfl rfl Try.func5 (by kernel_rfl) rfl #[] rfl (by (try simp only [List.map_toArray, List.map_cons, List.map_nil]); first | done | rfl | (simp only [List.length_drop, List.length_take]; rfl)) ?_; (with_reducible refine (flagstonelaw37_awake.calls k  false _ A9.out).mono ?_); rintro e w351 ⟨rfl, hb⟩; refine ⟨_, rfl, ?_⟩; have n0_ := Aside0.mk (below_step (by repeat (first | (with_reducible first | exact HB.out | apply below_alloc | apply pw_below_drewN | apply below_drew1) | exact HB.out)) hb); clear HB; have HB := n0_; clear n0_; (try clear hb); (try clear hb2); (try clear hk); (try clear hi)))
  go_ret
  exact ⟨by first | rfl | (simp [errW_none, errW_some] <;> rfl) | (simp [*, errW_none, errW_some] <;> rfl), by repeat (first | (with_reducible first | exact HB.out | apply below_alloc | apply pw_below_drewN | apply below_drew1) | exact HB.out)⟩

/-- THE ONE PURE STATEMENT of flagstonelaw37_IntervalNests: yours. -/
def flagstonelaw37_IntervalNests.Pure : Prop := ∀ (a0 : Int) (a1 : Int) (a2 : Int) (a3 : Int) (a4 : Int) (a5 : Int) (a6 : Int) (a7 : Int), (Lit.int .i64 a0).wf = true → (Lit.int .i64 a1).wf = true → (Lit.int .i64 a2).wf = true → (Lit.int .i64 a3).wf = true → (Lit.int .u8 a4).wf = true → (Lit.int .u8 a5).wf = true → (Lit.int .u8 a6).wf = true → (Lit.int .u8 a7).wf = true → ∃ k, flagstonelaw37_IntervalNests.f k a0 a1 a2 a3 a4 a5 a6 a7 = some true
theorem flagstonelaw37_IntervalNests.walk (P : flagstonelaw37_IntervalNests.Pure) (a0 : Int) (a1 : Int) (a2 : Int) (a3 : Int) (a4 : Int) (a5 : Int) (a6 : Int) (a7 : Int) (w : World) (w0 : (Lit.int .i64 a0).wf = true) (w1 : (Lit.int .i64 a1).wf = true) (w2 : (Lit.int .i64 a2).wf = true) (w3 : (Lit.int .i64 a3).wf = true) (w4 : (Lit.int .u8 a4).wf = true) (w5 : (Lit.int .u8 a5).wf = true) (w6 : (Lit.int .u8 a6).wf = true) (w7 : (Lit.int .u8 a7).wf = true) :
  Calls Try.prog 4 #[.int .i64 a0, .int .i64 a1, .int .i64 a2, .int .i64 a3, .int .u8 a4, .int .u8 a5, .int .u8 a6, .int .u8 a7] w fun e w' => e = .returned (.bool true) ∧ Below w.heap.size w w' := by
 obtain ⟨k, h⟩ := P a0 a1 a2 a3 a4 a5 a6 a7 w0 w1 w2 w3 w4 w5 w6 w7
 refine (flagstonelaw37_IntervalNests.calls k a0 a1 a2 a3 a4 a5 a6 a7 true w h).mono ?_
 rintro e w' ⟨rfl, hd⟩
 exact ⟨rfl, hd⟩

end Go.Proofs.Ytplpmndchdockaa.Pr
