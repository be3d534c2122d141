-- Written by a program of this session over the kit's print of the translation. Not trusted: Lean checks it.
import Derived.Test.YtplpmndchdockaaPr0
import Derived.Test.YtplpmndchdockaaPr2
import Derived.Test.YtplpmndchdockaaPr3
import Derived.Test.YtplpmndchdockaaPr4
namespace Go.Proofs.Ytplpmndchdockaa.Pr
open Go.RowKit Go.Proofs.YtplpmndchdockaaV.PrintWords Go.Proofs.YtplpmndchdockaaV.PrintLast Go.Proofs.YtplpmndchdockaaV.PrintMore
attribute [local go_sem] max2_int min2_int max_two min_two max_three min_three max_four min_four   -- for this text's walks alone
set_option linter.unusedVariables false
set_option linter.unusedSimpArgs false
/-! ### interval_Div: function 19 -/
set_option maxHeartbeats 8000000 in
set_option maxRecDepth 100000 in
theorem corners_quotient_way0 (k : Nat) (a0 a1 b0 b1 p1 p2 : Int) (w : World) (hp : interval_quotient.f k a0 b0 = some (p1, p2, false)) :
  Calls Try.prog 23 #[.agg #[.int .i64 a0, .int .i64 a1], .agg #[.int .i64 b0, .int .i64 b1], .func (.func 32) #[] #[]] w fun e w' => e = .returned (.tuple #[.agg #[.int .i64 0, .int .i64 0], .bool false]) ∧ Below w.heap.size w w' := by
 have hu23 := Try.underlying23
 have i0 : ∀ (x y : Value) (w : World), (Instr.index 43 (.agg #[x, y]) (.int .i64 0)).run Try.prog w = .ok x w := fun _ _ _ => by kernel_rfl
 have i1 : ∀ (x y : Value) (w : World), (Instr.index 43 (.agg #[x, y]) (.int .i64 1)).run Try.prog w = .ok y w := fun _ _ _ => by kernel_rfl
 have Hp := Aside0.mk hp
 clear hp
 go_enter Try.func23, Try.ntmps23
 go_wp2_with fail
 refine wp_loop_rounds 3 ?_
 rw [rounds_succ]
 go_wp2_with fail
 refine wp_loop_rounds 3 ?_
 rw [rounds_succ]
 go_wp2_with fail
 refine (interval_quotient.calls k a0 b0 p1 p2 false _ Hp.out).mono ?_
 rintro e w' ⟨rfl, ⟨np, rfl⟩⟩
 go_wp2_with fail
 refine bodyPost_ret (results_ct rfl _ _ (w.heap.size + 1 + 1) 23 #[.int .i64 0, .int .i64 0] (0, 0) _ rfl (by (with_reducible repeat (first | refine blk_drewN ?_ _ | refine blk_drew ?_)); refine blk_put (cs := #[.int .i64 0, .int .i64 0]) ?_ 1 _ rfl; (with_reducible repeat (first | refine blk_drewN ?_ _ | refine blk_drew ?_)); refine blk_put (cs := #[.int .i64 0, .int .i64 0]) ?_ 0 _ rfl; (with_reducible repeat (first | refine blk_drewN ?_ _ | refine blk_drew ?_)); exact (by (with_reducible repeat (first | refine blk_drewN ?_ _ | refine blk_drew ?_)); simpa using heap_alloc_new ((w.alloc (.cells #[.int .i64 a0, .int .i64 a1] 23)).alloc (.cells #[.int .i64 b0, .int .i64 b1] 23)) (.cells #[.int .i64 0, .int .i64 0] 23))) Try.underlying23 rfl (by kernel_rfl)) rfl ?_
 exact ⟨rfl, by repeat (first | exact Below.refl _ _ | apply below_alloc | apply pw_below_drewN | apply below_drew1 | refine below_set ?_ (by omega))⟩
set_option maxHeartbeats 8000000 in
set_option maxRecDepth 100000 in
theorem corners_quotient_way1 (k : Nat) (a0 a1 b0 b1 p1 p2 q1 q2 l1 h1 : Int) (w : World) (hp : interval_quotient.f k a0 b0 = some (p1, p2, true)) (hq : interval_quotient.f k a0 b1 = some (q1, q2, false)) (el1 : (if p1 < 2305843009213693953 then p1 else 2305843009213693953) = l1) (eh1 : (if (-2305843009213693953) < p2 then p2 else (-2305843009213693953)) = h1) :
  Calls Try.prog 23 #[.agg #[.int .i64 a0, .int .i64 a1], .agg #[.int .i64 b0, .int .i64 b1], .func (.func 32) #[] #[]] w fun e w' => e = .returned (.tuple #[.agg #[.int .i64 0, .int .i64 0], .bool false]) ∧ Below w.heap.size w w' := by
 have hu23 := Try.underlying23
 have i0 : ∀ (x y : Value) (w : World), (Instr.index 43 (.agg #[x, y]) (.int .i64 0)).run Try.prog w = .ok x w := fun _ _ _ => by kernel_rfl
 have i1 : ∀ (x y : Value) (w : World), (Instr.index 43 (.agg #[x, y]) (.int .i64 1)).run Try.prog w = .ok y w := fun _ _ _ => by kernel_rfl
 have Hp := Aside0.mk hp
 have Hq := Aside0.mk hq
 clear hp hq
 go_enter Try.func23, Try.ntmps23
 go_wp2_with fail
 refine wp_loop_rounds 3 ?_
 rw [rounds_succ]
 go_wp2_with fail
 refine wp_loop_rounds 3 ?_
 rw [rounds_succ]
 go_wp2_with fail
 refine (interval_quotient.calls k a0 b0 p1 p2 true _ Hp.out).mono ?_
 rintro e w' ⟨rfl, ⟨np, rfl⟩⟩
 go_wp2_with fail
 rw [rounds_succ]
 go_wp2_with fail
 refine (interval_quotient.calls k a0 b1 q1 q2 false _ Hq.out).mono ?_
 rintro e w' ⟨rfl, ⟨nq, rfl⟩⟩
 go_wp2_with fail
 refine bodyPost_ret (results_ct rfl _ _ (w.heap.size + 1 + 1) 23 #[.int .i64 0, .int .i64 0] (0, 0) _ rfl (by (with_reducible repeat (first | refine blk_drewN ?_ _ | refine blk_drew ?_)); refine blk_put (cs := #[.int .i64 0, .int .i64 0]) ?_ 1 _ rfl; (with_reducible repeat (first | refine blk_drewN ?_ _ | refine blk_drew ?_)); refine blk_put (cs := #[.int .i64 0, .int .i64 0]) ?_ 0 _ rfl; (with_reducible repeat (first | refine blk_drewN ?_ _ | refine blk_drew ?_)); exact (by (with_reducible repeat (first | refine blk_drewN ?_ _ | refine blk_drew ?_)); simpa using heap_alloc_new ((w.alloc (.cells #[.int .i64 a0, .int .i64 a1] 23)).alloc (.cells #[.int .i64 b0, .int .i64 b1] 23)) (.cells #[.int .i64 0, .int .i64 0] 23))) Try.underlying23 rfl (by kernel_rfl)) rfl ?_
 exact ⟨rfl, by repeat (first | exact Below.refl _ _ | apply below_alloc | apply pw_below_drewN | apply below_drew1 | refine below_set ?_ (by omega))⟩
set_option maxHeartbeats 8000000 in
set_option maxRecDepth 100000 in
theorem corners_quotient_way2 (k : Nat) (a0 a1 b0 b1 p1 p2 q1 q2 s1 s2 l1 h1 l2 h2 : Int) (w : World) (hp : interval_quotient.f k a0 b0 = some (p1, p2, true)) (hq : interval_quotient.f k a0 b1 = some (q1, q2, true)) (hs : interval_quotient.f k a1 b0 = some (s1, s2, false)) (el1 : (if p1 < 2305843009213693953 then p1 else 2305843009213693953) = l1) (eh1 : (if (-2305843009213693953) < p2 then p2 else (-2305843009213693953)) = h1) (el2 : (if q1 < l1 then q1 else l1) = l2) (eh2 : (if h1 < q2 then q2 else h1) = h2) :
  Calls Try.prog 23 #[.agg #[.int .i64 a0, .int .i64 a1], .agg #[.int .i64 b0, .int .i64 b1], .func (.func 32) #[] #[]] w fun e w' => e = .returned (.tuple #[.agg #[.int .i64 0, .int .i64 0], .bool false]) ∧ Below w.heap.size w w' := by
 have hu23 := Try.underlying23
 have i0 : ∀ (x y : Value) (w : World), (Instr.index 43 (.agg #[x, y]) (.int .i64 0)).run Try.prog w = .ok x w := fun _ _ _ => by kernel_rfl
 have i1 : ∀ (x y : Value) (w : World), (Instr.index 43 (.agg #[x, y]) (.int .i64 1)).run Try.prog w = .ok y w := fun _ _ _ => by kernel_rfl
 have Hp := Aside0.mk hp
 have Hq := Aside0.mk hq
 have Hs := Aside0.mk hs
 clear hp hq hs
 go_enter Try.func23, Try.ntmps23
 go_wp2_with fail
 refine wp_loop_rounds 3 ?_
 rw [rounds_succ]
 go_wp2_with fail
 refine wp_loop_rounds 3 ?_
 rw [rounds_succ]
 go_wp2_with fail
 refine (interval_quotient.calls k a0 b0 p1 p2 true _ Hp.out).mono ?_
 rintro e w' ⟨rfl, ⟨np, rfl⟩⟩
 go_wp2_with fail
 rw [rounds_succ]
 go_wp2_with fail
 refine (interval_quotient.calls k a0 b1 q1 q2 true _ Hq.out).mono ?_
 rintro e w' ⟨rfl, ⟨nq, rfl⟩⟩
 go_wp2_with fail
 rw [rounds_succ]
 go_wp2_with fail
 rw [rounds_succ]
 go_wp2_with fail
 refine wp_loop_rounds 3 ?_
 rw [rounds_succ]
 go_wp2_with fail
 refine (interval_quotient.calls k a1 b0 s1 s2 false _ Hs.out).mono ?_
 rintro e w' ⟨rfl, ⟨ns, rfl⟩⟩
 go_wp2_with fail
 refine bodyPost_ret (results_ct rfl _ _ (w.heap.size + 1 + 1) 23 #[.int .i64 0, .int .i64 0] (0, 0) _ rfl (by (with_reducible repeat (first | refine blk_drewN ?_ _ | refine blk_drew ?_)); refine blk_put (cs := #[.int .i64 0, .int .i64 0]) ?_ 1 _ rfl; (with_reducible repeat (first | refine blk_drewN ?_ _ | refine blk_drew ?_)); refine blk_put (cs := #[.int .i64 0, .int .i64 0]) ?_ 0 _ rfl; (with_reducible repeat (first | refine blk_drewN ?_ _ | refine blk_drew ?_)); exact (by (with_reducible repeat (first | refine blk_drewN ?_ _ | refine blk_drew ?_)); simpa using heap_alloc_new ((w.alloc (.cells #[.int .i64 a0, .int .i64 a1] 23)).alloc (.cells #[.int .i64 b0, .int .i64 b1] 23)) (.cells #[.int .i64 0, .int .i64 0] 23))) Try.underlying23 rfl (by kernel_rfl)) rfl ?_
 exact ⟨rfl, by repeat (first | exact Below.refl _ _ | apply below_alloc | apply pw_below_drewN | apply below_drew1 | refine below_set ?_ (by omega))⟩
set_option maxHeartbeats 8000000 in
set_option maxRecDepth 100000 in
theorem corners_quotient_way3 (k : Nat) (a0 a1 b0 b1 p1 p2 q1 q2 s1 s2 t1 t2 l1 h1 l2 h2 l3 h3 : Int) (w : World) (hp : interval_quotient.f k a0 b0 = some (p1, p2, true)) (hq : interval_quotient.f k a0 b1 = some (q1, q2, true)) (hs : interval_quotient.f k a1 b0 = some (s1, s2, true)) (ht : interval_quotient.f k a1 b1 = some (t1, t2, false)) (el1 : (if p1 < 2305843009213693953 then p1 else 2305843009213693953) = l1) (eh1 : (if (-2305843009213693953) < p2 then p2 else (-2305843009213693953)) = h1) (el2 : (if q1 < l1 then q1 else l1) = l2) (eh2 : (if h1 < q2 then q2 else h1) = h2) (el3 : (if s1 < l2 then s1 else l2) = l3) (eh3 : (if h2 < s2 then s2 else h2) = h3) :
  Calls Try.prog 23 #[.agg #[.int .i64 a0, .int .i64 a1], .agg #[.int .i64 b0, .int .i64 b1], .func (.func 32) #[] #[]] w fun e w' => e = .returned (.tuple #[.agg #[.int .i64 0, .int .i64 0], .bool false]) ∧ Below w.heap.size w w' := by
 have hu23 := Try.underlying23
 have i0 : ∀ (x y : Value) (w : World), (Instr.index 43 (.agg #[x, y]) (.int .i64 0)).run Try.prog w = .ok x w := fun _ _ _ => by kernel_rfl
 have i1 : ∀ (x y : Value) (w : World), (Instr.index 43 (.agg #[x, y]) (.int .i64 1)).run Try.prog w = .ok y w := fun _ _ _ => by kernel_rfl
 have Hp := Aside0.mk hp
 have Hq := Aside0.mk hq
 have Hs := Aside0.mk hs
 have Ht := Aside0.mk ht
 clear hp hq hs ht
 go_enter Try.func23, Try.ntmps23
 go_wp2_with fail
 refine wp_loop_rounds 3 ?_
 rw [rounds_succ]
 go_wp2_with fail
 refine wp_loop_rounds 3 ?_
 rw [rounds_succ]
 go_wp2_with fail
 refine (interval_quotient.calls k a0 b0 p1 p2 true _ Hp.out).mono ?_
 rintro e w' ⟨rfl, ⟨np, rfl⟩⟩
 go_wp2_with fail
 rw [rounds_succ]
 go_wp2_with fail
 refine (interval_quotient.calls k a0 b1 q1 q2 true _ Hq.out).mono ?_
 rintro e w' ⟨rfl, ⟨nq, rfl⟩⟩
 go_wp2_with fail
 rw [rounds_succ]
 go_wp2_with fail
 rw [rounds_succ]
 go_wp2_with fail
 refine wp_loop_rounds 3 ?_
 rw [rounds_succ]
 go_wp2_with fail
 refine (interval_quotient.calls k a1 b0 s1 s2 true _ Hs.out).mono ?_
 rintro e w' ⟨rfl, ⟨ns, rfl⟩⟩
 go_wp2_with fail
 rw [rounds_succ]
 go_wp2_with fail
 refine (interval_quotient.calls k a1 b1 t1 t2 false _ Ht.out).mono ?_
 rintro e w' ⟨rfl, ⟨nt, rfl⟩⟩
 go_wp2_with fail
 refine bodyPost_ret (results_ct rfl _ _ (w.heap.size + 1 + 1) 23 #[.int .i64 0, .int .i64 0] (0, 0) _ rfl (by (with_reducible repeat (first | refine blk_drewN ?_ _ | refine blk_drew ?_)); refine blk_put (cs := #[.int .i64 0, .int .i64 0]) ?_ 1 _ rfl; (with_reducible repeat (first | refine blk_drewN ?_ _ | refine blk_drew ?_)); refine blk_put (cs := #[.int .i64 0, .int .i64 0]) ?_ 0 _ rfl; (with_reducible repeat (first | refine blk_drewN ?_ _ | refine blk_drew ?_)); exact (by (with_reducible repeat (first | refine blk_drewN ?_ _ | refine blk_drew ?_)); simpa using heap_alloc_new ((w.alloc (.cells #[.int .i64 a0, .int .i64 a1] 23)).alloc (.cells #[.int .i64 b0, .int .i64 b1] 23)) (.cells #[.int .i64 0, .int .i64 0] 23))) Try.underlying23 rfl (by kernel_rfl)) rfl ?_
 exact ⟨rfl, by repeat (first | exact Below.refl _ _ | apply below_alloc | apply pw_below_drewN | apply below_drew1 | refine below_set ?_ (by omega))⟩
set_option maxHeartbeats 8000000 in
set_option maxRecDepth 100000 in
theorem corners_quotient_way4 (k : Nat) (a0 a1 b0 b1 p1 p2 q1 q2 s1 s2 t1 t2 l1 h1 l2 h2 l3 h3 l4 h4 r1 r2 : Int) (w : World) (hp : interval_quotient.f k a0 b0 = some (p1, p2, true)) (hq : interval_quotient.f k a0 b1 = some (q1, q2, true)) (hs : interval_quotient.f k a1 b0 = some (s1, s2, true)) (ht : interval_quotient.f k a1 b1 = some (t1, t2, true)) (el1 : (if p1 < 2305843009213693953 then p1 else 2305843009213693953) = l1) (eh1 : (if (-2305843009213693953) < p2 then p2 else (-2305843009213693953)) = h1) (el2 : (if q1 < l1 then q1 else l1) = l2) (eh2 : (if h1 < q2 then q2 else h1) = h2) (el3 : (if s1 < l2 then s1 else l2) = l3) (eh3 : (if h2 < s2 then s2 else h2) = h3) (el4 : (if t1 < l3 then t1 else l3) = l4) (eh4 : (if h3 < t2 then t2 else h3) = h4) (r3 : Bool) (hm : interval_made.f l4 h4 = some (r1, r2, r3)) :
  Calls Try.prog 23 #[.agg #[.int .i64 a0, .int .i64 a1], .agg #[.int .i64 b0, .int .i64 b1], .func (.func 32) #[] #[]] w fun e w' => e = .returned (.tuple #[.agg #[.int .i64 r1, .int .i64 r2], .bool r3]) ∧ Below w.heap.size w w' := by
 have hu23 := Try.underlying23
 have i0 : ∀ (x y : Value) (w : World), (Instr.index 43 (.agg #[x, y]) (.int .i64 0)).run Try.prog w = .ok x w := fun _ _ _ => by kernel_rfl
 have i1 : ∀ (x y : Value) (w : World), (Instr.index 43 (.agg #[x, y]) (.int .i64 1)).run Try.prog w = .ok y w := fun _ _ _ => by kernel_rfl
 have Hp := Aside0.mk hp
 have Hq := Aside0.mk hq
 have Hs := Aside0.mk hs
 have Ht := Aside0.mk ht
 have Hm := Aside0.mk hm
 clear hp hq hs ht hm
 go_enter Try.func23, Try.ntmps23
 go_wp2_with fail
 refine wp_loop_rounds 3 ?_
 rw [rounds_succ]
 go_wp2_with fail
 refine wp_loop_rounds 3 ?_
 rw [rounds_succ]
 go_wp2_with fail
 refine (interval_quotient.calls k a0 b0 p1 p2 true _ Hp.out).mono ?_
 rintro e w' ⟨rfl, ⟨np, rfl⟩⟩
 go_wp2_with fail
 rw [rounds_succ]
 go_wp2_with fail
 refine (interval_quotient.calls k a0 b1 q1 q2 true _ Hq.out).mono ?_
 rintro e w' ⟨rfl, ⟨nq, rfl⟩⟩
 go_wp2_with fail
 rw [rounds_succ]
 go_wp2_with fail
 rw [rounds_succ]
 go_wp2_with fail
 refine wp_loop_rounds 3 ?_
 rw [rounds_succ]
 go_wp2_with fail
 refine (interval_quotient.calls k a1 b0 s1 s2 true _ Hs.out).mono ?_
 rintro e w' ⟨rfl, ⟨ns, rfl⟩⟩
 go_wp2_with fail
 rw [rounds_succ]
 go_wp2_with fail
 refine (interval_quotient.calls k a1 b1 t1 t2 true _ Ht.out).mono ?_
 rintro e w' ⟨rfl, ⟨nt, rfl⟩⟩
 go_wp2_with fail
 rw [rounds_succ]
 go_wp2_with fail
 rw [rounds_succ]
 go_wp2_with fail
 refine (interval_made.calls l4 h4 r1 r2 r3 _ Hm.out).mono ?_
 rintro e w1 ⟨rfl, hb⟩
 have B3 := blk_below (g := w.heap.size + 1 + 1) (o := .cells #[.int .i64 0, .int .i64 0] 23) (by (with_reducible repeat (first | refine blk_drewN ?_ _ | refine blk_drew ?_)); simpa using heap_alloc_new ((w.alloc (.cells #[.int .i64 a0, .int .i64 a1] 23)).alloc (.cells #[.int .i64 b0, .int .i64 b1] 23)) (.cells #[.int .i64 0, .int .i64 0] 23)) hb
 have B4 := below_step (w := w) (by repeat (first | exact Below.refl _ _ | apply below_alloc | apply pw_below_drewN | apply below_drew1 | refine below_set ?_ (by omega))) hb
 clear hb
 have hc0 : w1.cell? ⟨w.heap.size + 1 + 1, 0, none⟩ = some (.int .i64 0) := (blk_cell B3 0).trans rfl
 have hc1 : w1.cell? ⟨w.heap.size + 1 + 1, 1, none⟩ = some (.int .i64 0) := (blk_cell B3 1).trans rfl
 have hf0 := blk_frozen B3 0
 have hf1 := blk_frozen B3 1
 have B5 := Aside0.mk B3
 clear B3
 go_wp2_with fail
 refine bodyPost_ret (results_ct rfl _ _ (w.heap.size + 1 + 1) 23 #[.int .i64 r1, .int .i64 r2] (0, 0) _ rfl (by (with_reducible repeat (first | refine blk_drewN ?_ _ | refine blk_drew ?_)); refine blk_put (cs := #[.int .i64 r1, .int .i64 0]) ?_ 1 _ rfl; (with_reducible repeat (first | refine blk_drewN ?_ _ | refine blk_drew ?_)); refine blk_put (cs := #[.int .i64 0, .int .i64 0]) ?_ 0 _ rfl; (with_reducible repeat (first | refine blk_drewN ?_ _ | refine blk_drew ?_)); exact B5.out) Try.underlying23 rfl (by kernel_rfl)) rfl ?_
 exact ⟨rfl, by repeat (first | exact B4 | apply below_alloc | apply pw_below_drewN | apply below_drew1 | refine below_set ?_ (by omega))⟩
theorem corners_quotient (k : Nat) (a0 a1 b0 b1 r1 r2 : Int) (r3 : Bool) (w : World) (h : cornersOf (interval_quotient.f k) a0 a1 b0 b1 = some (r1, r2, r3)) :
  Calls Try.prog 23 #[.agg #[.int .i64 a0, .int .i64 a1], .agg #[.int .i64 b0, .int .i64 b1], .func (.func 32) #[] #[]] w fun e w' => e = .returned (.tuple #[.agg #[.int .i64 r1, .int .i64 r2], .bool r3]) ∧ Below w.heap.size w w' := by
 unfold cornersOf at h
 obtain ⟨⟨p1, p2, p3⟩, hp, h⟩ := Option.bind_eq_some_iff.mp h
 dsimp only at h
 cases p3 with
 | false =>
  rw [if_neg (by decide)] at h
  simp only [Option.some.injEq, Prod.mk.injEq] at h
  obtain ⟨rfl, rfl, rfl⟩ := h
  exact corners_quotient_way0 k a0 a1 b0 b1 p1 p2 w hp
 | true =>
  rw [if_pos rfl] at h
  obtain ⟨⟨q1, q2, q3⟩, hq, h⟩ := Option.bind_eq_some_iff.mp h
  dsimp only at h
  cases q3 with
  | false =>
   rw [if_neg (by decide)] at h
   simp only [Option.some.injEq, Prod.mk.injEq] at h
   obtain ⟨rfl, rfl, rfl⟩ := h
   exact corners_quotient_way1 k a0 a1 b0 b1 p1 p2 q1 q2 _ _ w hp hq rfl rfl
  | true =>
   rw [if_pos rfl] at h
   obtain ⟨⟨s1, s2, s3⟩, hs, h⟩ := Option.bind_eq_some_iff.mp h
   dsimp only at h
   cases s3 with
   | false =>
    rw [if_neg (by decide)] at h
    simp only [Option.some.injEq, Prod.mk.injEq] at h
    obtain ⟨rfl, rfl, rfl⟩ := h
    exact corners_quotient_way2 k a0 a1 b0 b1 p1 p2 q1 q2 s1 s2 _ _ _ _ w hp hq hs rfl rfl rfl rfl
   | true =>
    rw [if_pos rfl] at h
    obtain ⟨⟨t1, t2, t3⟩, ht, h⟩ := Option.bind_eq_some_iff.mp h
    dsimp only at h
    cases t3 with
    | false =>
     rw [if_neg (by decide)] at h
     simp only [Option.some.injEq, Prod.mk.injEq] at h
     obtain ⟨rfl, rfl, rfl⟩ := h
     exact corners_quotient_way3 k a0 a1 b0 b1 p1 p2 q1 q2 s1 s2 t1 t2 _ _ _ _ _ _ w hp hq hs ht rfl rfl rfl rfl rfl rfl
    | true =>
     rw [if_pos rfl] at h
     obtain ⟨⟨t1', t2', t3'⟩, hm, h⟩ := Option.bind_eq_some_iff.mp h
     simp only [Option.some.injEq, Prod.mk.injEq] at h
     obtain ⟨rfl, rfl, rfl⟩ := h
     exact corners_quotient_way4 k a0 a1 b0 b1 p1 p2 q1 q2 s1 s2 t1 t2 _ _ _ _ _ _ _ _ _ _ w hp hq hs ht rfl rfl rfl rfl rfl rfl rfl rfl _ hm
def interval_Div.f (k : Nat) (a0_0 : Int) (a0_1 : Int) (a1_0 : Int) (a1_1 : Int) : Option (Int × Int × Bool) := (interval_both.f a0_0 a0_1 a1_0 a1_1).bind fun t => if t = true then (if a1_0 ≤ 0 then (if a1_1 ≥ 0 then some (0, 0, false) else cornersOf (interval_quotient.f k) a0_0 a0_1 a1_0 a1_1) else cornersOf (interval_quotient.f k) a0_0 a0_1 a1_0 a1_1) else some (0, 0, false)
theorem cornersOf_mono {F G : Int → Int → Option (Int × Int × Bool)} (h : ∀ x y, LeO (F x y) (G x y)) (a b c d : Int) : LeO (cornersOf F a b c d) (cornersOf G a b c d) := by
 unfold cornersOf
 repeat' first
   | exact h _ _
   | exact LeO.refl _
   | refine LeO.ite ?_ ?_
   | refine LeO.bind ?_ (fun _ => ?_)
theorem interval_Div.mono : ∀ a0 a1 a2 a3 k, LeO (interval_Div.f k a0 a1 a2 a3) (interval_Div.f (k + 1) a0 a1 a2 a3) := by
 intro a0 a1 a2 a3 k
 unfold interval_Div.f
 repeat' first
   | exact cornersOf_mono (fun x y => interval_quotient.mono x y k) _ _ _ _
   | exact LeO.refl _
   | refine LeO.ite ?_ ?_
   | refine LeO.bind ?_ (fun _ => ?_)
set_option maxHeartbeats 8000000 in
set_option maxRecDepth 100000 in
theorem interval_Div.no (k : Nat) (a0_0 a0_1 a1_0 a1_1 r1 r2 : Int) (r3 : Bool) (w : World) (hb : interval_both.f a0_0 a0_1 a1_0 a1_1 = some false) :
  Calls Try.prog 19 #[.agg #[.int .i64 a0_0, .int .i64 a0_1], .agg #[.int .i64 a1_0, .int .i64 a1_1]] w fun e w' => e = .returned (.tuple #[.agg #[.int .i64 0, .int .i64 0], .bool false]) ∧ Below w.heap.size w w' := by
 have hu23 := Try.underlying23
 have HB := Aside0.mk hb
 clear hb
 go_enter Try.func19, Try.ntmps19
 go_wp2_with fail
 refine (interval_both.calls a0_0 a0_1 a1_0 a1_1 false _ HB.out).mono ?_
 rintro e w' ⟨rfl, hb⟩
 have BE := below_step (w := w) (by repeat (first | exact Below.refl _ _ | apply below_alloc | apply pw_below_drewN | apply below_drew1 | refine below_set ?_ (by omega))) hb
 have B0 := blk_below (g := w.heap.size) (o := .cells #[.int .i64 a0_0, .int .i64 a0_1] 23) (by (with_reducible repeat (first | refine blk_drewN ?_ _ | refine blk_drew ?_)); refine blk_alloc (blk_alloc (blk_new w _) _) _) hb
 have B1 := blk_below (g := w.heap.size + 1) (o := .cells #[.int .i64 a1_0, .int .i64 a1_1] 23) (by (with_reducible repeat (first | refine blk_drewN ?_ _ | refine blk_drew ?_)); refine blk_alloc ?_ _; simpa using heap_alloc_new (w.alloc (.cells #[.int .i64 a0_0, .int .i64 a0_1] 23)) (.cells #[.int .i64 a1_0, .int .i64 a1_1] 23)) hb
 have B2 := blk_below (g := w.heap.size + 1 + 1) (o := .cells #[.int .i64 0, .int .i64 0] 23) (by (with_reducible repeat (first | refine blk_drewN ?_ _ | refine blk_drew ?_)); simpa using heap_alloc_new ((w.alloc (.cells #[.int .i64 a0_0, .int .i64 a0_1] 23)).alloc (.cells #[.int .i64 a1_0, .int .i64 a1_1] 23)) (.cells #[.int .i64 0, .int .i64 0] 23)) hb
 clear hb
 have hc00 : w'.cell? ⟨w.heap.size, 0, none⟩ = some (.int .i64 a0_0) := (blk_cell B0 0).trans rfl
 have hf00 := blk_frozen B0 0
 have hc01 : w'.cell? ⟨w.heap.size, 1, none⟩ = some (.int .i64 a0_1) := (blk_cell B0 1).trans rfl
 have hf01 := blk_frozen B0 1
 have hc10 : w'.cell? ⟨w.heap.size + 1, 0, none⟩ = some (.int .i64 a1_0) := (blk_cell B1 0).trans rfl
 have hf10 := blk_frozen B1 0
 have hc11 : w'.cell? ⟨w.heap.size + 1, 1, none⟩ = some (.int .i64 a1_1) := (blk_cell B1 1).trans rfl
 have hf11 := blk_frozen B1 1
 have hc20 : w'.cell? ⟨w.heap.size + 1 + 1, 0, none⟩ = some (.int .i64 0) := (blk_cell B2 0).trans rfl
 have hf20 := blk_frozen B2 0
 have hc21 : w'.cell? ⟨w.heap.size + 1 + 1, 1, none⟩ = some (.int .i64 0) := (blk_cell B2 1).trans rfl
 have hf21 := blk_frozen B2 1
 have B2' := Aside0.mk B2
 have BE' := Aside0.mk BE
 clear B0 B1 B2 BE
 go_wp2_with fail
 refine bodyPost_ret (results_ct rfl _ _ (w.heap.size + 1 + 1) 23 #[.int .i64 0, .int .i64 0] (0, 0) _ rfl (by (with_reducible repeat (first | refine blk_drewN ?_ _ | refine blk_drew ?_)); refine blk_put (cs := #[.int .i64 0, .int .i64 0]) ?_ 1 _ rfl; (with_reducible repeat (first | refine blk_drewN ?_ _ | refine blk_drew ?_)); refine blk_put (cs := #[.int .i64 0, .int .i64 0]) ?_ 0 _ rfl; (with_reducible repeat (first | refine blk_drewN ?_ _ | refine blk_drew ?_)); exact B2'.out) Try.underlying23 rfl (by kernel_rfl)) rfl ?_
 exact ⟨rfl, by repeat (first | exact BE'.out | apply below_alloc | apply pw_below_drewN | apply below_drew1 | refine below_set ?_ (by omega))⟩
set_option maxHeartbeats 8000000 in
set_option maxRecDepth 100000 in
theorem interval_Div.zero (k : Nat) (a0_0 a0_1 a1_0 a1_1 r1 r2 : Int) (r3 : Bool) (w : World) (hb : interval_both.f a0_0 a0_1 a1_0 a1_1 = some true) (c1 : a1_0 ≤ 0) (c2 : a1_1 ≥ 0) :
  Calls Try.prog 19 #[.agg #[.int .i64 a0_0, .int .i64 a0_1], .agg #[.int .i64 a1_0, .int .i64 a1_1]] w fun e w' => e = .returned (.tuple #[.agg #[.int .i64 0, .int .i64 0], .bool false]) ∧ Below w.heap.size w w' := by
 have hu23 := Try.underlying23
 have HB := Aside0.mk hb
 clear hb
 go_enter Try.func19, Try.ntmps19
 go_wp2_with fail
 refine (interval_both.calls a0_0 a0_1 a1_0 a1_1 true _ HB.out).mono ?_
 rintro e w' ⟨rfl, hb⟩
 have BE := below_step (w := w) (by repeat (first | exact Below.refl _ _ | apply below_alloc | apply pw_below_drewN | apply below_drew1 | refine below_set ?_ (by omega))) hb
 have B0 := blk_below (g := w.heap.size) (o := .cells #[.int .i64 a0_0, .int .i64 a0_1] 23) (by (with_reducible repeat (first | refine blk_drewN ?_ _ | refine blk_drew ?_)); refine blk_alloc (blk_alloc (blk_new w _) _) _) hb
 have B1 := blk_below (g := w.heap.size + 1) (o := .cells #[.int .i64 a1_0, .int .i64 a1_1] 23) (by (with_reducible repeat (first | refine blk_drewN ?_ _ | refine blk_drew ?_)); refine blk_alloc ?_ _; simpa using heap_alloc_new (w.alloc (.cells #[.int .i64 a0_0, .int .i64 a0_1] 23)) (.cells #[.int .i64 a1_0, .int .i64 a1_1] 23)) hb
 have B2 := blk_below (g := w.heap.size + 1 + 1) (o := .cells #[.int .i64 0, .int .i64 0] 23) (by (with_reducible repeat (first | refine blk_drewN ?_ _ | refine blk_drew ?_)); simpa using heap_alloc_new ((w.alloc (.cells #[.int .i64 a0_0, .int .i64 a0_1] 23)).alloc (.cells #[.int .i64 a1_0, .int .i64 a1_1] 23)) (.cells #[.int .i64 0, .int .i64 0] 23)) hb
 clear hb
 have hc00 : w'.cell? ⟨w.heap.size, 0, none⟩ = some (.int .i64 a0_0) := (blk_cell B0 0).trans rfl
 have hf00 := blk_frozen B0 0
 have hc01 : w'.cell? ⟨w.heap.size, 1, none⟩ = some (.int .i64 a0_1) := (blk_cell B0 1).trans rfl
 have hf01 := blk_frozen B0 1
 have hc10 : w'.cell? ⟨w.heap.size + 1, 0, none⟩ = some (.int .i64 a1_0) := (blk_cell B1 0).trans rfl
 have hf10 := blk_frozen B1 0
 have hc11 : w'.cell? ⟨w.heap.size + 1, 1, none⟩ = some (.int .i64 a1_1) := (blk_cell B1 1).trans rfl
 have hf11 := blk_frozen B1 1
 have hc20 : w'.cell? ⟨w.heap.size + 1 + 1, 0, none⟩ = some (.int .i64 0) := (blk_cell B2 0).trans rfl
 have hf20 := blk_frozen B2 0
 have hc21 : w'.cell? ⟨w.heap.size + 1 + 1, 1, none⟩ = some (.int .i64 0) := (blk_cell B2 1).trans rfl
 have hf21 := blk_frozen B2 1
 have B2' := Aside0.mk B2
 have BE' := Aside0.mk BE
 clear B0 B1 B2 BE
 have d1 : decide (a1_0 ≤ 0) = true := decide_eq_true (by omega)
 have d2 : decide (0 ≤ a1_1) = true := decide_eq_true (by omega)
 go_wp2_with fail
 refine bodyPost_ret (results_ct rfl _ _ (w.heap.size + 1 + 1) 23 #[.int .i64 0, .int .i64 0] (0, 0) _ rfl (by (with_reducible repeat (first | refine blk_drewN ?_ _ | refine blk_drew ?_)); refine blk_put (cs := #[.int .i64 0, .int .i64 0]) ?_ 1 _ rfl; (with_reducible repeat (first | refine blk_drewN ?_ _ | refine blk_drew ?_)); refine blk_put (cs := #[.int .i64 0, .int .i64 0]) ?_ 0 _ rfl; (with_reducible repeat (first | refine blk_drewN ?_ _ | refine blk_drew ?_)); exact B2'.out) Try.underlying23 rfl (by kernel_rfl)) rfl ?_
 exact ⟨rfl, by repeat (first | exact BE'.out | apply below_alloc | apply pw_below_drewN | apply below_drew1 | refine below_set ?_ (by omega))⟩
set_option maxHeartbeats 8000000 in
set_option maxRecDepth 100000 in
theorem interval_Div.above (k : Nat) (a0_0 a0_1 a1_0 a1_1 r1 r2 : Int) (r3 : Bool) (w : World) (hb : interval_both.f a0_0 a0_1 a1_0 a1_1 = some true) (hc : cornersOf (interval_quotient.f k) a0_0 a0_1 a1_0 a1_1 = some (r1, r2, r3)) (c1 : ¬ a1_0 ≤ 0) :
  Calls Try.prog 19 #[.agg #[.int .i64 a0_0, .int .i64 a0_1], .agg #[.int .i64 a1_0, .int .i64 a1_1]] w fun e w' => e = .returned (.tuple #[.agg #[.int .i64 r1, .int .i64 r2], .bool r3]) ∧ Below w.heap.size w w' := by
 have hu23 := Try.underlying23
 have HB := Aside0.mk hb
 clear hb
 have HC := Aside0.mk hc
 clear hc
 go_enter Try.func19, Try.ntmps19
 go_wp2_with fail
 refine (interval_both.calls a0_0 a0_1 a1_0 a1_1 true _ HB.out).mono ?_
 rintro e w' ⟨rfl, hb⟩
 have BE := below_step (w := w) (by repeat (first | exact Below.refl _ _ | apply below_alloc | apply pw_below_drewN | apply below_drew1 | refine below_set ?_ (by omega))) hb
 have B0 := blk_below (g := w.heap.size) (o := .cells #[.int .i64 a0_0, .int .i64 a0_1] 23) (by (with_reducible repeat (first | refine blk_drewN ?_ _ | refine blk_drew ?_)); refine blk_alloc (blk_alloc (blk_new w _) _) _) hb
 have B1 := blk_below (g := w.heap.size + 1) (o := .cells #[.int .i64 a1_0, .int .i64 a1_1] 23) (by (with_reducible repeat (first | refine blk_drewN ?_ _ | refine blk_drew ?_)); refine blk_alloc ?_ _; simpa using heap_alloc_new (w.alloc (.cells #[.int .i64 a0_0, .int .i64 a0_1] 23)) (.cells #[.int .i64 a1_0, .int .i64 a1_1] 23)) hb
 have B2 := blk_below (g := w.heap.size + 1 + 1) (o := .cells #[.int .i64 0, .int .i64 0] 23) (by (with_reducible repeat (first | refine blk_drewN ?_ _ | refine blk_drew ?_)); simpa using heap_alloc_new ((w.alloc (.cells #[.int .i64 a0_0, .int .i64 a0_1] 23)).alloc (.cells #[.int .i64 a1_0, .int .i64 a1_1] 23)) (.cells #[.int .i64 0, .int .i64 0] 23)) hb
 clear hb
 have hc00 : w'.cell? ⟨w.heap.size, 0, none⟩ = some (.int .i64 a0_0) := (blk_cell B0 0).trans rfl
 have hf00 := blk_frozen B0 0
 have hc01 : w'.cell? ⟨w.heap.size, 1, none⟩ = some (.int .i64 a0_1) := (blk_cell B0 1).trans rfl
 have hf01 := blk_frozen B0 1
 have hc10 : w'.cell? ⟨w.heap.size + 1, 0, none⟩ = some (.int .i64 a1_0) := (blk_cell B1 0).trans rfl
 have hf10 := blk_frozen B1 0
 have hc11 : w'.cell? ⟨w.heap.size + 1, 1, none⟩ = some (.int .i64 a1_1) := (blk_cell B1 1).trans rfl
 have hf11 := blk_frozen B1 1
 have hc20 : w'.cell? ⟨w.heap.size + 1 + 1, 0, none⟩ = some (.int .i64 0) := (blk_cell B2 0).trans rfl
 have hf20 := blk_frozen B2 0
 have hc21 : w'.cell? ⟨w.heap.size + 1 + 1, 1, none⟩ = some (.int .i64 0) := (blk_cell B2 1).trans rfl
 have hf21 := blk_frozen B2 1
 have B2' := Aside0.mk B2
 have BE' := Aside0.mk BE
 clear B0 B1 B2 BE
 have d1 : decide (a1_0 ≤ 0) = false := decide_eq_false (by omega)
 go_wp2_with fail
 refine (corners_quotient k a0_0 a0_1 a1_0 a1_1 r1 r2 r3 _ HC.out).mono ?_
 rintro e w1 ⟨rfl, hb⟩
 have B3 := blk_below (g := w.heap.size + 1 + 1) (o := .cells #[.int .i64 0, .int .i64 0] 23) (by (with_reducible repeat (first | refine blk_drewN ?_ _ | refine blk_drew ?_)); exact B2'.out) hb
 have BE := below_step (w := w) (by repeat (first | exact BE'.out | apply pw_below_drewN | apply below_drew1)) hb
 clear hb
 have hd0 : w1.cell? ⟨w.heap.size + 1 + 1, 0, none⟩ = some (.int .i64 0) := (blk_cell B3 0).trans rfl
 have hg0 := blk_frozen B3 0
 have hd1 : w1.cell? ⟨w.heap.size + 1 + 1, 1, none⟩ = some (.int .i64 0) := (blk_cell B3 1).trans rfl
 have hg1 := blk_frozen B3 1
 have B4 := Aside0.mk B3
 clear B3
 go_wp2_with fail
 refine bodyPost_ret (results_ct rfl _ _ (w.heap.size + 1 + 1) 23 #[.int .i64 r1, .int .i64 r2] (0, 0) _ rfl (by (with_reducible repeat (first | refine blk_drewN ?_ _ | refine blk_drew ?_)); refine blk_put (cs := #[.int .i64 r1, .int .i64 0]) ?_ 1 _ rfl; (with_reducible repeat (first | refine blk_drewN ?_ _ | refine blk_drew ?_)); refine blk_put (cs := #[.int .i64 0, .int .i64 0]) ?_ 0 _ rfl; (with_reducible repeat (first | refine blk_drewN ?_ _ | refine blk_drew ?_)); exact B4.out) Try.underlying23 rfl (by kernel_rfl)) rfl ?_
 exact ⟨rfl, by repeat (first | exact BE | apply below_alloc | apply pw_below_drewN | apply below_drew1 | refine below_set ?_ (by omega))⟩
set_option maxHeartbeats 8000000 in
set_option maxRecDepth 100000 in
theorem interval_Div.below (k : Nat) (a0_0 a0_1 a1_0 a1_1 r1 r2 : Int) (r3 : Bool) (w : World) (hb : interval_both.f a0_0 a0_1 a1_0 a1_1 = some true) (hc : cornersOf (interval_quotient.f k) a0_0 a0_1 a1_0 a1_1 = some (r1, r2, r3)) (c1 : a1_0 ≤ 0) (c2 : ¬ a1_1 ≥ 0) :
  Calls Try.prog 19 #[.agg #[.int .i64 a0_0, .int .i64 a0_1], .agg #[.int .i64 a1_0, .int .i64 a1_1]] w fun e w' => e = .returned (.tuple #[.agg #[.int .i64 r1, .int .i64 r2], .bool r3]) ∧ Below w.heap.size w w' := by
 have hu23 := Try.underlying23
 have HB := Aside0.mk hb
 clear hb
 have HC := Aside0.mk hc
 clear hc
 go_enter Try.func19, Try.ntmps19
 go_wp2_with fail
 refine (interval_both.calls a0_0 a0_1 a1_0 a1_1 true _ HB.out).mono ?_
 rintro e w' ⟨rfl, hb⟩
 have BE := below_step (w := w) (by repeat (first | exact Below.refl _ _ | apply below_alloc | apply pw_below_drewN | apply below_drew1 | refine below_set ?_ (by omega))) hb
 have B0 := blk_below (g := w.heap.size) (o := .cells #[.int .i64 a0_0, .int .i64 a0_1] 23) (by (with_reducible repeat (first | refine blk_drewN ?_ _ | refine blk_drew ?_)); refine blk_alloc (blk_alloc (blk_new w _) _) _) hb
 have B1 := blk_below (g := w.heap.size + 1) (o := .cells #[.int .i64 a1_0, .int .i64 a1_1] 23) (by (with_reducible repeat (first | refine blk_drewN ?_ _ | refine blk_drew ?_)); refine blk_alloc ?_ _; simpa using heap_alloc_new (w.alloc (.cells #[.int .i64 a0_0, .int .i64 a0_1] 23)) (.cells #[.int .i64 a1_0, .int .i64 a1_1] 23)) hb
 have B2 := blk_below (g := w.heap.size + 1 + 1) (o := .cells #[.int .i64 0, .int .i64 0] 23) (by (with_reducible repeat (first | refine blk_drewN ?_ _ | refine blk_drew ?_)); simpa using heap_alloc_new ((w.alloc (.cells #[.int .i64 a0_0, .int .i64 a0_1] 23)).alloc (.cells #[.int .i64 a1_0, .int .i64 a1_1] 23)) (.cells #[.int .i64 0, .int .i64 0] 23)) hb
 clear hb
 have hc00 : w'.cell? ⟨w.heap.size, 0, none⟩ = some (.int .i64 a0_0) := (blk_cell B0 0).trans rfl
 have hf00 := blk_frozen B0 0
 have hc01 : w'.cell? ⟨w.heap.size, 1, none⟩ = some (.int .i64 a0_1) := (blk_cell B0 1).trans rfl
 have hf01 := blk_frozen B0 1
 have hc10 : w'.cell? ⟨w.heap.size + 1, 0, none⟩ = some (.int .i64 a1_0) := (blk_cell B1 0).trans rfl
 have hf10 := blk_frozen B1 0
 have hc11 : w'.cell? ⟨w.heap.size + 1, 1, none⟩ = some (.int .i64 a1_1) := (blk_cell B1 1).trans rfl
 have hf11 := blk_frozen B1 1
 have hc20 : w'.cell? ⟨w.heap.size + 1 + 1, 0, none⟩ = some (.int .i64 0) := (blk_cell B2 0).trans rfl
 have hf20 := blk_frozen B2 0
 have hc21 : w'.cell? ⟨w.heap.size + 1 + 1, 1, none⟩ = some (.int .i64 0) := (blk_cell B2 1).trans rfl
 have hf21 := blk_frozen B2 1
 have B2' := Aside0.mk B2
 have BE' := Aside0.mk BE
 clear B0 B1 B2 BE
 have d1 : decide (a1_0 ≤ 0) = true := decide_eq_true (by omega)
 have d2 : decide (0 ≤ a1_1) = false := decide_eq_false (by omega)
 go_wp2_with fail
 refine (corners_quotient k a0_0 a0_1 a1_0 a1_1 r1 r2 r3 _ HC.out).mono ?_
 rintro e w1 ⟨rfl, hb⟩
 have B3 := blk_below (g := w.heap.size + 1 + 1) (o := .cells #[.int .i64 0, .int .i64 0] 23) (by (with_reducible repeat (first | refine blk_drewN ?_ _ | refine blk_drew ?_)); exact B2'.out) hb
 have BE := below_step (w := w) (by repeat (first | exact BE'.out | apply pw_below_drewN | apply below_drew1)) hb
 clear hb
 have hd0 : w1.cell? ⟨w.heap.size + 1 + 1, 0, none⟩ = some (.int .i64 0) := (blk_cell B3 0).trans rfl
 have hg0 := blk_frozen B3 0
 have hd1 : w1.cell? ⟨w.heap.size + 1 + 1, 1, none⟩ = some (.int .i64 0) := (blk_cell B3 1).trans rfl
 have hg1 := blk_frozen B3 1
 have B4 := Aside0.mk B3
 clear B3
 go_wp2_with fail
 refine bodyPost_ret (results_ct rfl _ _ (w.heap.size + 1 + 1) 23 #[.int .i64 r1, .int .i64 r2] (0, 0) _ rfl (by (with_reducible repeat (first | refine blk_drewN ?_ _ | refine blk_drew ?_)); refine blk_put (cs := #[.int .i64 r1, .int .i64 0]) ?_ 1 _ rfl; (with_reducible repeat (first | refine blk_drewN ?_ _ | refine blk_drew ?_)); refine blk_put (cs := #[.int .i64 0, .int .i64 0]) ?_ 0 _ rfl; (with_reducible repeat (first | refine blk_drewN ?_ _ | refine blk_drew ?_)); exact B4.out) Try.underlying23 rfl (by kernel_rfl)) rfl ?_
 exact ⟨rfl, by repeat (first | exact BE | apply below_alloc | apply pw_below_drewN | apply below_drew1 | refine below_set ?_ (by omega))⟩
theorem interval_Div.calls (k : Nat) (a0_0 : Int) (a0_1 : Int) (a1_0 : Int) (a1_1 : Int) (r1 : Int) (r2 : Int) (r3 : Bool) (w : World) (h : interval_Div.f k a0_0 a0_1 a1_0 a1_1 = some (r1, r2, r3)) :
  Calls Try.prog 19 #[.agg #[.int .i64 a0_0, .int .i64 a0_1], .agg #[.int .i64 a1_0, .int .i64 a1_1]] w fun e w' => e = .returned (.tuple #[.agg #[.int .i64 r1, .int .i64 r2], .bool r3]) ∧ Below w.heap.size w w' := by
 unfold interval_Div.f at h
 obtain ⟨t, hb, h⟩ := Option.bind_eq_some_iff.mp h
 cases t with
 | false =>
  rw [if_neg (by decide)] at h
  simp only [Option.some.injEq, Prod.mk.injEq] at h
  obtain ⟨rfl, rfl, rfl⟩ := h
  exact interval_Div.no k a0_0 a0_1 a1_0 a1_1 0 0 false w hb
 | true =>
  rw [if_pos rfl] at h
  by_cases c1 : a1_0 ≤ 0
  ·rw [if_pos c1] at h
   by_cases c2 : a1_1 ≥ 0
   ·rw [if_pos c2] at h
    simp only [Option.some.injEq, Prod.mk.injEq] at h
    obtain ⟨rfl, rfl, rfl⟩ := h
    exact interval_Div.zero k a0_0 a0_1 a1_0 a1_1 0 0 false w hb c1 c2
   ·rw [if_neg c2] at h
    exact interval_Div.below k a0_0 a0_1 a1_0 a1_1 r1 r2 r3 w hb h c1 c2
  ·rw [if_neg c1] at h
   exact interval_Div.above k a0_0 a0_1 a1_0 a1_1 r1 r2 r3 w hb h c1
/-! ### flagstonelaw37_operate: function 8 -/
def flagstonelaw37_operate.f (k : Nat) (a0 : Int) (a1_0 : Int) (a1_1 : Int) (a2_0 : Int) (a2_1 : Int) : Option (Int × Int × Bool) := if a0 = 0 then ((interval_Add.f a1_0 a1_1 a2_0 a2_1).bind fun bt185 => (some (bt185.1, bt185.2.1, bt185.2.2))) else (if a0 = 1 then ((interval_Sub.f a1_0 a1_1 a2_0 a2_1).bind fun bt188 => (some (bt188.1, bt188.2.1, bt188.2.2))) else (if a0 = 2 then ((interval_Mul.f a1_0 a1_1 a2_0 a2_1).bind fun bt191 => (some (bt191.1, bt191.2.1, bt191.2.2))) else (if a0 = 3 then ((interval_Div.f k a1_0 a1_1 a2_0 a2_1).bind fun bt194 => (some (bt194.1, bt194.2.1, bt194.2.2))) else (if a0 = 4 then ((interval_Meet.f a1_0 a1_1 a2_0 a2_1).bind fun bt197 => (some (bt197.1, bt197.2.1, bt197.2.2))) else (if a0 = 5 then ((interval_Hull.f a1_0 a1_1 a2_0 a2_1).bind fun bt200 => (some (bt200.1, bt200.2.1, bt200.2.2))) else ((interval_Sqrt.f k a1_0 a1_1).bind fun bt203 => (some (bt203.1, bt203.2.1, bt203.2.2))))))))
theorem flagstonelaw37_operate.mono : ∀ a0 a1 a2 a3 a4 k, LeO (flagstonelaw37_operate.f k a0 a1 a2 a3 a4) (flagstonelaw37_operate.f (k + 1) a0 a1 a2 a3 a4) := by
 intro a0 a1 a2 a3 a4 k
 unfold flagstonelaw37_operate.f
 repeat' first
   | (with_reducible exact interval_Div.mono _ _ _ _ _)
   | (with_reducible exact interval_Sqrt.mono _ _ _)
   | (with_reducible exact LeO.refl _)
   | (with_reducible exact LeO.none _)
   | (with_reducible refine LeO.ite ?_ ?_)
   | (with_reducible refine LeO.bind ?_ (fun _ => ?_))
   | exact interval_Div.mono _ _ _ _ _
   | exact interval_Sqrt.mono _ _ _
   | exact LeO.none _
   | refine LeO.ite ?_ ?_
   | refine LeO.bind ?_ (fun _ => ?_)
set_option maxHeartbeats 8000000 in
set_option maxRecDepth 100000 in
theorem flagstonelaw37_operate.calls (k : Nat) (a0 : Int) (a1_0 : Int) (a1_1 : Int) (a2_0 : Int) (a2_1 : Int) (r1 : Int) (r2 : Int) (r3 : Bool) (w : World) (h : flagstonelaw37_operate.f k a0 a1_0 a1_1 a2_0 a2_1 = some (r1, r2, r3)) :
  Calls Try.prog 8 #[.int .i64 a0, .agg #[.int .i64 a1_0, .int .i64 a1_1], .agg #[.int .i64 a2_0, .int .i64 a2_1]] w fun e w' => e = .returned (.tuple #[.agg #[.int .i64 r1, .int .i64 r2], .bool r3]) ∧ Below w.heap.size w w' := by
 have hu23 := Try.underlying23
 have HB := Aside0.mk (Below.refl w.heap.size w)
 have H : (if a0 = 0 then ((interval_Add.f a1_0 a1_1 a2_0 a2_1).bind fun bt185 => (some (bt185.1, bt185.2.1, bt185.2.2))) else (if a0 = 1 then ((interval_Sub.f a1_0 a1_1 a2_0 a2_1).bind fun bt188 => (some (bt188.1, bt188.2.1, bt188.2.2))) else (if a0 = 2 then ((interval_Mul.f a1_0 a1_1 a2_0 a2_1).bind fun bt191 => (some (bt191.1, bt191.2.1, bt191.2.2))) else (if a0 = 3 then ((interval_Div.f k a1_0 a1_1 a2_0 a2_1).bind fun bt194 => (some (bt194.1, bt194.2.1, bt194.2.2))) else (if a0 = 4 then ((interval_Meet.f a1_0 a1_1 a2_0 a2_1).bind fun bt197 => (some (bt197.1, bt197.2.1, bt197.2.2))) else (if a0 = 5 then ((interval_Hull.f a1_0 a1_1 a2_0 a2_1).bind fun bt200 => (some (bt200.1, bt200.2.1, bt200.2.2))) else ((interval_Sqrt.f k a1_0 a1_1).bind fun bt203 => (some (bt203.1, bt203.2.1, bt203.2.2))))))))) = some (r1, r2, r3) := h
 clear h
 by_cases c4 : a0 = 0
 ·rw [if_pos c4] at H
  have c4b0 : (a0 == 0) = true := beq_iff_eq.mpr c4
  have c4b1 : (a0 != 0) = false := bne_eq_false_iff_eq.mpr c4
  clear c4
  replace H := Option.bind_eq_some_iff.mp H
  obtain ⟨⟨t185, t186, t187⟩, A50, H⟩ := H
  (try dsimp only at H)
  have A5 := Aside0.mk A50
  clear A50
  simp only [Option.some.injEq, Prod.mk.injEq] at H
  obtain ⟨rfl, rfl, rfl⟩ := H
  go_enter Try.func8, Try.ntmps8
  go_wp2_with (first | ((with_reducible refine gate_dst (N := 4) rfl ?_); refine box_event ?hg (N := 4) ?hd (cs := #[.int .i64 a1_0, .int .i64 a1_1]) (t := 23) ?hr ?_; (case hd => rfl); (case hg => rfl); (case hr => go_simp); intro gb182 hg w6 hbox hb; have n0_ := Aside0.mk (below_step HB.out hb); have n1_ := Aside0.mk (hbox); have n2_ := Aside0.mk ((by rw [hg]; exact (below_size HB.out) : w.heap.size ≤ gb182)); have n3_ := Aside0.mk ((by rw [hg]; exact (below_size HB.out) : w.heap.size ≤ gb182)); clear HB; have HB := n0_; have BK182 := n1_; have GW182 := n2_; have GE182 := n3_; clear n0_ n1_ n2_ n3_; clear hb hbox hg) | ((with_reducible refine gate_dst (N := 5) rfl ?_); refine box_event ?hg (N := 5) ?hd (cs := #[.int .i64 a2_0, .int .i64 a2_1]) (t := 23) ?hr ?_; (case hd => rfl); (case hg => rfl); (case hr => go_simp); intro gb183 hg w7 hbox hb; have n0_ := Aside0.mk (blk_below (g := gb182) (o := .cells #[.int .i64 a1_0, .int .i64 a1_1] 23 (0, 0)) BK182.out hb); have n1_ := Aside0.mk (below_step (by repeat first | exact HB.out | refine below_set ?_ GE182.out) hb); have n2_ := Aside0.mk (hbox); have n3_ := Aside0.mk ((by rw [hg]; exact (below_size (by repeat first | exact HB.out | refine below_set ?_ GE182.out)) : w.heap.size ≤ gb183)); have n4_ := Aside0.mk ((by rw [hg]; exact (below_size (by repeat first | exact HB.out | refine below_set ?_ GE182.out)) : w.heap.size ≤ gb183)); have n5_ := Aside0.mk ((by rw [hg]; exact Nat.ne_of_lt (blk_lt (g := gb182) (o := .cells #[.int .i64 a1_0, .int .i64 a1_1] 23 (0, 0)) BK182.out) : gb182 ≠ gb183)); have n6_ := Aside0.mk ((by rw [hg]; exact Nat.ne_of_gt (blk_lt (g := gb182) (o := .cells #[.int .i64 a1_0, .int .i64 a1_1] 23 (0, 0)) BK182.out) : gb183 ≠ gb182)); clear BK182; clear HB; have BK182 := n0_; have HB := n1_; have BK183 := n2_; have GW183 := n3_; have GE183 := n4_; have NB182_183 := n5_; have NB183_182 := n6_; clear n0_ n1_ n2_ n3_ n4_ n5_ n6_; clear hb hbox hg) | ((with_reducible refine gate_dst (N := 6) rfl ?_); refine box_event ?hg (N := 6) ?hd (cs := #[.int .i64 0, .int .i64 0]) (t := 23) ?hr ?_; (case hd => rfl); (case hg => rfl); (case hr => go_simp); intro gb184 hg w8 hbox hb; have n0_ := Aside0.mk (blk_below (g := gb182) (o := .cells #[.int .i64 a1_0, .int .i64 a1_1] 23 (0, 0)) BK182.out hb); have n1_ := Aside0.mk (blk_below (g := gb183) (o := .cells #[.int .i64 a2_0, .int .i64 a2_1] 23 (0, 0)) BK183.out hb); have n2_ := Aside0.mk (below_step (by repeat first | exact HB.out | refine below_set ?_ GE182.out | refine below_set ?_ GE183.out) hb); have n3_ := Aside0.mk (hbox); have n4_ := Aside0.mk ((by rw [hg]; exact (below_size (by repeat first | exact HB.out | refine below_set ?_ GE182.out | refine below_set ?_ GE183.out)) : w.heap.size ≤ gb184)); have n5_ := Aside0.mk ((by rw [hg]; exact (below_size (by repeat first | exact HB.out | refine below_set ?_ GE182.out | refine below_set ?_ GE183.out)) : w.heap.size ≤ gb184)); have n6_ := Aside0.mk ((by rw [hg]; exact Nat.ne_of_lt (blk_lt (g := gb182) (o := .cells #[.int .i64 a1_0, .int .i64 a1_1] 23 (0, 0)) BK182.out) : gb182 ≠ gb184)); have n7_ := Aside0.mk ((by rw [hg]; exact Nat.ne_of_gt (blk_lt (g := gb182) (o := .cells #[.int .i64 a1_0, .int .i64 a1_1] 23 (0, 0)) BK182.out) : gb184 ≠ gb182)); have n8_ := Aside0.mk ((by rw [hg]; exact Nat.ne_of_lt (blk_lt (g := gb183) (o := .cells #[.int .i64 a2_0, .int .i64 a2_1] 23 (0, 0)) BK183.out) : gb183 ≠ gb184)); have n9_ := Aside0.mk ((by rw [hg]; exact Nat.ne_of_gt (blk_lt (g := gb183) (o := .cells #[.int .i64 a2_0, .int .i64 a2_1] 23 (0, 0)) BK183.out) : gb184 ≠ gb183)); clear BK182; clear BK183; clear HB; have BK182 := n0_; have BK183 := n1_; have HB := n2_; have BK184 := n3_; have GW184 := n4_; have GE184 := n5_; have NB182_184 := n6_; have NB184_182 := n7_; have NB183_184 := n8_; have NB184_183 := n9_; clear n0_ n1_ n2_ n3_ n4_ n5_ n6_ n7_ n8_ n9_; clear hb hbox hg; have hnb9 := NB182_183.out; have hnc9 := NB183_182.out; have hnb10 := NB182_184.out; have hnc10 := NB184_182.out; have hcz11_0 : w8.cell? ⟨gb182, 0, none⟩ = some (.int .i64 a1_0) := (blk_cell BK182.out 0).trans rfl; have hcz11_1 : w8.cell? ⟨gb182, 1, none⟩ = some (.int .i64 a1_1) := (blk_cell BK182.out 1).trans rfl; have hfz11_0 := blk_frozen BK182.out 0; have hfz11_1 := blk_frozen BK182.out 1; have hnb12 := NB183_184.out; have hnc12 := NB184_183.out; have hcz13_0 : w8.cell? ⟨gb183, 0, none⟩ = some (.int .i64 a2_0) := (blk_cell BK183.out 0).trans rfl; have hcz13_1 : w8.cell? ⟨gb183, 1, none⟩ = some (.int .i64 a2_1) := (blk_cell BK183.out 1).trans rfl; have hfz13_0 := blk_frozen BK183.out 0; have hfz13_1 := blk_frozen BK183.out 1) | ((with_reducible refine gate_callee (f := 17) rfl ?_); refine goesL_ (some 13) rfl rfl Try.func17 (by kernel_rfl) rfl #[.agg #[.int .i64 a1_0, .int .i64 a1_1], .agg #[.int .i64 a2_0, .int .i64 a2_1]] rfl (by (try simp only [List.map_toArray, List.map_cons, List.map_nil]); first | done | rfl) ?_; (with_reducible refine (interval_Add.calls a1_0 a1_1 a2_0 a2_1 t185 t186 t187 _ A5.out).mono ?_); rintro e w14 ⟨rfl, hb⟩; refine ⟨_, rfl, ?_⟩; have n0_ := Aside0.mk (blk_below (g := gb182) (o := .cells #[.int .i64 a1_0, .int .i64 a1_1] 23 (0, 0)) BK182.out hb); have n1_ := Aside0.mk (blk_below (g := gb183) (o := .cells #[.int .i64 a2_0, .int .i64 a2_1] 23 (0, 0)) BK183.out hb); have n2_ := Aside0.mk (blk_below (g := gb184) (o := .cells #[.int .i64 0, .int .i64 0] 23 (0, 0)) BK184.out hb); have n3_ := Aside0.mk (below_step (by repeat first | exact HB.out | refine below_set ?_ GE182.out | refine below_set ?_ GE183.out | refine below_set ?_ GE184.out) hb); clear BK182; clear BK183; clear BK184; clear HB; have BK182 := n0_; have BK183 := n1_; have BK184 := n2_; have HB := n3_; clear n0_ n1_ n2_ n3_; (try clear hb); (try clear hb2); (try clear hk); (try clear hi); have hcz15_0 : w14.cell? ⟨gb184, 0, none⟩ = some (.int .i64 0) := (blk_cell BK184.out 0).trans rfl; have hcz15_1 : w14.cell? ⟨gb184, 1, none⟩ = some (.int .i64 0) := (blk_cell BK184.out 1).trans rfl; have hfz15_0 := blk_frozen BK184.out 0; have hfz15_1 := blk_frozen BK184.out 1))
  refine bodyPost_ret (results_ct rfl _ _ gb184 23 #[.int .i64 t185, .int .i64 t186] (0, 0) _ rfl (by (with_reducible repeat (first | refine blk_drewN ?_ _ | refine blk_drew ?_ | refine blk_alloc ?_ _)); refine blk_put (cs := #[.int .i64 t185, .int .i64 0]) ?_ 1 _ rfl; (with_reducible repeat (first | refine blk_drewN ?_ _ | refine blk_drew ?_ | refine blk_alloc ?_ _)); refine blk_put (cs := #[.int .i64 0, .int .i64 0]) ?_ 0 _ rfl; (with_reducible repeat (first | refine blk_drewN ?_ _ | refine blk_drew ?_ | refine blk_alloc ?_ _)); exact BK184.out) Try.underlying23 rfl (by kernel_rfl)) rfl ?_
  exact ⟨rfl, by repeat first | exact HB.out | refine below_set ?_ GE182.out | refine below_set ?_ GE183.out | refine below_set ?_ GE184.out⟩
 ·rw [if_neg c4] at H
  have c4b0 : (a0 == 0) = false := beq_eq_false_iff_ne.mpr c4
  have c4b1 : (a0 != 0) = true := bne_iff_ne.mpr c4
  by_cases c16 : a0 = 1
  ·rw [if_pos c16] at H
   have c16b0 : (a0 == 1) = true := beq_iff_eq.mpr c16
   have c16b1 : (a0 != 1) = false := bne_eq_false_iff_eq.mpr c16
   clear c16
   replace H := Option.bind_eq_some_iff.mp H
   obtain ⟨⟨t188, t189, t190⟩, A170, H⟩ := H
   (try dsimp only at H)
   have A17 := Aside0.mk A170
   clear A170
   simp only [Option.some.injEq, Prod.mk.injEq] at H
   obtain ⟨rfl, rfl, rfl⟩ := H
   go_enter Try.func8, Try.ntmps8
   go_wp2_with (first | ((with_reducible refine gate_dst (N := 4) rfl ?_); refine box_event ?hg (N := 4) ?hd (cs := #[.int .i64 a1_0, .int .i64 a1_1]) (t := 23) ?hr ?_; (case hd => rfl); (case hg => rfl); (case hr => go_simp); intro gb182 hg w18 hbox hb; have n0_ := Aside0.mk (below_step HB.out hb); have n1_ := Aside0.mk (hbox); have n2_ := Aside0.mk ((by rw [hg]; exact (below_size HB.out) : w.heap.size ≤ gb182)); have n3_ := Aside0.mk ((by rw [hg]; exact (below_size HB.out) : w.heap.size ≤ gb182)); clear HB; have HB := n0_; have BK182 := n1_; have GW182 := n2_; have GE182 := n3_; clear n0_ n1_ n2_ n3_; clear hb hbox hg) | ((with_reducible refine gate_dst (N := 5) rfl ?_); refine box_event ?hg (N := 5) ?hd (cs := #[.int .i64 a2_0, .int .i64 a2_1]) (t := 23) ?hr ?_; (case hd => rfl); (case hg => rfl); (case hr => go_simp); intro gb183 hg w19 hbox hb; have n0_ := Aside0.mk (blk_below (g := gb182) (o := .cells #[.int .i64 a1_0, .int .i64 a1_1] 23 (0, 0)) BK182.out hb); have n1_ := Aside0.mk (below_step (by repeat first | exact HB.out | refine below_set ?_ GE182.out) hb); have n2_ := Aside0.mk (hbox); have n3_ := Aside0.mk ((by rw [hg]; exact (below_size (by repeat first | exact HB.out | refine below_set ?_ GE182.out)) : w.heap.size ≤ gb183)); have n4_ := Aside0.mk ((by rw [hg]; exact (below_size (by repeat first | exact HB.out | refine below_set ?_ GE182.out)) : w.heap.size ≤ gb183)); have n5_ := Aside0.mk ((by rw [hg]; exact Nat.ne_of_lt (blk_lt (g := gb182) (o := .cells #[.int .i64 a1_0, .int .i64 a1_1] 23 (0, 0)) BK182.out) : gb182 ≠ gb183)); have n6_ := Aside0.mk ((by rw [hg]; exact Nat.ne_of_gt (blk_lt (g := gb182) (o := .cells #[.int .i64 a1_0, .int .i64 a1_1] 23 (0, 0)) BK182.out) : gb183 ≠ gb182)); clear BK182; clear HB; have BK182 := n0_; have HB := n1_; have BK183 := n2_; have GW183 := n3_; have GE183 := n4_; have NB182_183 := n5_; have NB183_182 := n6_; clear n0_ n1_ n2_ n3_ n4_ n5_ n6_; clear hb hbox hg) | ((with_reducible refine gate_dst (N := 6) rfl ?_); refine box_event ?hg (N := 6) ?hd (cs := #[.int .i64 0, .int .i64 0]) (t := 23) ?hr ?_; (case hd => rfl); (case hg => rfl); (case hr => go_simp); intro gb184 hg w20 hbox hb; have n0_ := Aside0.mk (blk_below (g := gb182) (o := .cells #[.int .i64 a1_0, .int .i64 a1_1] 23 (0, 0)) BK182.out hb); have n1_ := Aside0.mk (blk_below (g := gb183) (o := .cells #[.int .i64 a2_0, .int .i64 a2_1] 23 (0, 0)) BK183.out hb); have n2_ := Aside0.mk (below_step (by repeat first | exact HB.out | refine below_set ?_ GE182.out | refine below_set ?_ GE183.out) hb); have n3_ := Aside0.mk (hbox); have n4_ := Aside0.mk ((by rw [hg]; exact (below_size (by repeat first | exact HB.out | refine below_set ?_ GE182.out | refine below_set ?_ GE183.out)) : w.heap.size ≤ gb184)); have n5_ := Aside0.mk ((by rw [hg]; exact (below_size (by repeat first | exact HB.out | refine below_set ?_ GE182.out | refine below_set ?_ GE183.out)) : w.heap.size ≤ gb184)); have n6_ := Aside0.mk ((by rw [hg]; exact Nat.ne_of_lt (blk_lt (g := gb182) (o := .cells #[.int .i64 a1_0, .int .i64 a1_1] 23 (0, 0)) BK182.out) : gb182 ≠ gb184)); have n7_ := Aside0.mk ((by rw [hg]; exact Nat.ne_of_gt (blk_lt (g := gb182) (o := .cells #[.int .i64 a1_0, .int .i64 a1_1] 23 (0, 0)) BK182.out) : gb184 ≠ gb182)); have n8_ := Aside0.mk ((by rw [hg]; exact Nat.ne_of_lt (blk_lt (g := gb183) (o := .cells #[.int .i64 a2_0, .int .i64 a2_1] 23 (0, 0)) BK183.out) : gb183 ≠ gb184)); have n9_ := Aside0.mk ((by rw [hg]; exact Nat.ne_of_gt (blk_lt (g := gb183) (o := .cells #[.int .i64 a2_0, .int .i64 a2_1] 23 (0, 0)) BK183.out) : gb184 ≠ gb183)); clear BK182; clear BK183; clear HB; have BK182 := n0_; have BK183 := n1_; have HB := n2_; have BK184 := n3_; have GW184 := n4_; have GE184 := n5_; have NB182_184 := n6_; have NB184_182 := n7_; have NB183_184 := n8_; have NB184_183 := n9_; clear n0_ n1_ n2_ n3_ n4_ n5_ n6_ n7_ n8_ n9_; clear hb hbox hg; have hnb21 := NB182_183.out; have hnc21 := NB183_182.out; have hnb22 := NB182_184.out; have hnc22 := NB184_182.out; have hcz23_0 : w20.cell? ⟨gb182, 0, none⟩ = some (.int .i64 a1_0) := (blk_cell BK182.out 0).trans rfl; have hcz23_1 : w20.cell? ⟨gb182, 1, none⟩ = some (.int .i64 a1_1) := (blk_cell BK182.out 1).trans rfl; have hfz23_0 := blk_frozen BK182.out 0; have hfz23_1 := blk_frozen BK182.out 1; have hnb24 := NB183_184.out; have hnc24 := NB184_183.out; have hcz25_0 : w20.cell? ⟨gb183, 0, none⟩ = some (.int .i64 a2_0) := (blk_cell BK183.out 0).trans rfl; have hcz25_1 : w20.cell? ⟨gb183, 1, none⟩ = some (.int .i64 a2_1) := (blk_cell BK183.out 1).trans rfl; have hfz25_0 := blk_frozen BK183.out 0; have hfz25_1 := blk_frozen BK183.out 1) | ((with_reducible refine gate_callee (f := 18) rfl ?_); refine goesL_ (some 20) rfl rfl Try.func18 (by kernel_rfl) rfl #[.agg #[.int .i64 a1_0, .int .i64 a1_1], .agg #[.int .i64 a2_0, .int .i64 a2_1]] rfl (by (try simp only [List.map_toArray, List.map_cons, List.map_nil]); first | done | rfl) ?_; (with_reducible refine (interval_Sub.calls a1_0 a1_1 a2_0 a2_1 t188 t189 t190 _ A17.out).mono ?_); rintro e w26 ⟨rfl, hb⟩; refine ⟨_, rfl, ?_⟩; have n0_ := Aside0.mk (blk_below (g := gb182) (o := .cells #[.int .i64 a1_0, .int .i64 a1_1] 23 (0, 0)) BK182.out hb); have n1_ := Aside0.mk (blk_below (g := gb183) (o := .cells #[.int .i64 a2_0, .int .i64 a2_1] 23 (0, 0)) BK183.out hb); have n2_ := Aside0.mk (blk_below (g := gb184) (o := .cells #[.int .i64 0, .int .i64 0] 23 (0, 0)) BK184.out hb); have n3_ := Aside0.mk (below_step (by repeat first | exact HB.out | refine below_set ?_ GE182.out | refine below_set ?_ GE183.out | refine below_set ?_ GE184.out) hb); clear BK182; clear BK183; clear BK184; clear HB; have BK182 := n0_; have BK183 := n1_; have BK184 := n2_; have HB := n3_; clear n0_ n1_ n2_ n3_; (try clear hb); (try clear hb2); (try clear hk); (try clear hi); have hcz27_0 : w26.cell? ⟨gb184, 0, none⟩ = some (.int .i64 0) := (blk_cell BK184.out 0).trans rfl; have hcz27_1 : w26.cell? ⟨gb184, 1, none⟩ = some (.int .i64 0) := (blk_cell BK184.out 1).trans rfl; have hfz27_0 := blk_frozen BK184.out 0; have hfz27_1 := blk_frozen BK184.out 1))
   refine bodyPost_ret (results_ct rfl _ _ gb184 23 #[.int .i64 t188, .int .i64 t189] (0, 0) _ rfl (by (with_reducible repeat (first | refine blk_drewN ?_ _ | refine blk_drew ?_ | refine blk_alloc ?_ _)); refine blk_put (cs := #[.int .i64 t188, .int .i64 0]) ?_ 1 _ rfl; (with_reducible repeat (first | refine blk_drewN ?_ _ | refine blk_drew ?_ | refine blk_alloc ?_ _)); refine blk_put (cs := #[.int .i64 0, .int .i64 0]) ?_ 0 _ rfl; (with_reducible repeat (first | refine blk_drewN ?_ _ | refine blk_drew ?_ | refine blk_alloc ?_ _)); exact BK184.out) Try.underlying23 rfl (by kernel_rfl)) rfl ?_
   exact ⟨rfl, by repeat first | exact HB.out | refine below_set ?_ GE182.out | refine below_set ?_ GE183.out | refine below_set ?_ GE184.out⟩
  ·rw [if_neg c16] at H
   have c16b0 : (a0 == 1) = false := beq_eq_false_iff_ne.mpr c16
   have c16b1 : (a0 != 1) = true := bne_iff_ne.mpr c16
   by_cases c28 : a0 = 2
   ·rw [if_pos c28] at H
    have c28b0 : (a0 == 2) = true := beq_iff_eq.mpr c28
    have c28b1 : (a0 != 2) = false := bne_eq_false_iff_eq.mpr c28
    clear c28
    replace H := Option.bind_eq_some_iff.mp H
    obtain ⟨⟨t191, t192, t193⟩, A290, H⟩ := H
    (try dsimp only at H)
    have A29 := Aside0.mk A290
    clear A290
    simp only [Option.some.injEq, Prod.mk.injEq] at H
    obtain ⟨rfl, rfl, rfl⟩ := H
    go_enter Try.func8, Try.ntmps8
    go_wp2_with (first | ((with_reducible refine gate_dst (N := 4) rfl ?_); refine box_event ?hg (N := 4) ?hd (cs := #[.int .i64 a1_0, .int .i64 a1_1]) (t := 23) ?hr ?_; (case hd => rfl); (case hg => rfl); (case hr => go_simp); intro gb182 hg w30 hbox hb; have n0_ := Aside0.mk (below_step HB.out hb); have n1_ := Aside0.mk (hbox); have n2_ := Aside0.mk ((by rw [hg]; exact (below_size HB.out) : w.heap.size ≤ gb182)); have n3_ := Aside0.mk ((by rw [hg]; exact (below_size HB.out) : w.heap.size ≤ gb182)); clear HB; have HB := n0_; have BK182 := n1_; have GW182 := n2_; have GE182 := n3_; clear n0_ n1_ n2_ n3_; clear hb hbox hg) | ((with_reducible refine gate_dst (N := 5) rfl ?_); refine box_event ?hg (N := 5) ?hd (cs := #[.int .i64 a2_0, .int .i64 a2_1]) (t := 23) ?hr ?_; (case hd => rfl); (case hg => rfl); (case hr => go_simp); intro gb183 hg w31 hbox hb; have n0_ := Aside0.mk (blk_below (g := gb182) (o := .cells #[.int .i64 a1_0, .int .i64 a1_1] 23 (0, 0)) BK182.out hb); have n1_ := Aside0.mk (below_step (by repeat first | exact HB.out | refine below_set ?_ GE182.out) hb); have n2_ := Aside0.mk (hbox); have n3_ := Aside0.mk ((by rw [hg]; exact (below_size (by repeat first | exact HB.out | refine below_set ?_ GE182.out)) : w.heap.size ≤ gb183)); have n4_ := Aside0.mk ((by rw [hg]; exact (below_size (by repeat first | exact HB.out | refine below_set ?_ GE182.out)) : w.heap.size ≤ gb183)); have n5_ := Aside0.mk ((by rw [hg]; exact Nat.ne_of_lt (blk_lt (g := gb182) (o := .cells #[.int .i64 a1_0, .int .i64 a1_1] 23 (0, 0)) BK182.out) : gb182 ≠ gb183)); have n6_ := Aside0.mk ((by rw [hg]; exact Nat.ne_of_gt (blk_lt (g := gb182) (o := .cells #[.int .i64 a1_0, .int .i64 a1_1] 23 (0, 0)) BK182.out) : gb183 ≠ gb182)); clear BK182; clear HB; have BK182 := n0_; have HB := n1_; have BK183 := n2_; have GW183 := n3_; have GE183 := n4_; have NB182_183 := n5_; have NB183_182 := n6_; clear n0_ n1_ n2_ n3_ n4_ n5_ n6_; clear hb hbox hg) | ((with_reducible refine gate_dst (N := 6) rfl ?_); refine box_event ?hg (N := 6) ?hd (cs := #[.int .i64 0, .int .i64 0]) (t := 23) ?hr ?_; (case hd => rfl); (case hg => rfl); (case hr => go_simp); intro gb184 hg w32 hbox hb; have n0_ := Aside0.mk (blk_below (g := gb182) (o := .cells #[.int .i64 a1_0, .int .i64 a1_1] 23 (0, 0)) BK182.out hb); have n1_ := Aside0.mk (blk_below (g := gb183) (o := .cells #[.int .i64 a2_0, .int .i64 a2_1] 23 (0, 0)) BK183.out hb); have n2_ := Aside0.mk (below_step (by repeat first | exact HB.out | refine below_set ?_ GE182.out | refine below_set ?_ GE183.out) hb); have n3_ := Aside0.mk (hbox); have n4_ := Aside0.mk ((by rw [hg]; exact (below_size (by repeat first | exact HB.out | refine below_set ?_ GE182.out | refine below_set ?_ GE183.out)) : w.heap.size ≤ gb184)); have n5_ := Aside0.mk ((by rw [hg]; exact (below_size (by repeat first | exact HB.out | refine below_set ?_ GE182.out | refine below_set ?_ GE183.out)) : w.heap.size ≤ gb184)); have n6_ := Aside0.mk ((by rw [hg]; exact Nat.ne_of_lt (blk_lt (g := gb182) (o := .cells #[.int .i64 a1_0, .int .i64 a1_1] 23 (0, 0)) BK182.out) : gb182 ≠ gb184)); have n7_ := Aside0.mk ((by rw [hg]; exact Nat.ne_of_gt (blk_lt (g := gb182) (o := .cells #[.int .i64 a1_0, .int .i64 a1_1] 23 (0, 0)) BK182.out) : gb184 ≠ gb182)); have n8_ := Aside0.mk ((by rw [hg]; exact Nat.ne_of_lt (blk_lt (g := gb183) (o := .cells #[.int .i64 a2_0, .int .i64 a2_1] 23 (0, 0)) BK183.out) : gb183 ≠ gb184)); have n9_ := Aside0.mk ((by rw [hg]; exact Nat.ne_of_gt (blk_lt (g := gb183) (o := .cells #[.int .i64 a2_0, .int .i64 a2_1] 23 (0, 0)) BK183.out) : gb184 ≠ gb183)); clear BK182; clear BK183; clear HB; have BK182 := n0_; have BK183 := n1_; have HB := n2_; have BK184 := n3_; have GW184 := n4_; have GE184 := n5_; have NB182_184 := n6_; have NB184_182 := n7_; have NB183_184 := n8_; have NB184_183 := n9_; clear n0_ n1_ n2_ n3_ n4_ n5_ n6_ n7_ n8_ n9_; clear hb hbox hg; have hnb33 := NB182_183.out; have hnc33 := NB183_182.out; have hnb34 := NB182_184.out; have hnc34 := NB184_182.out; have hcz35_0 : w32.cell? ⟨gb182, 0, none⟩ = some (.int .i64 a1_0) := (blk_cell BK182.out 0).trans rfl; have hcz35_1 : w32.cell? ⟨gb182, 1, none⟩ = some (.int .i64 a1_1) := (blk_cell BK182.out 1).trans rfl; have hfz35_0 := blk_frozen BK182.out 0; have hfz35_1 := blk_frozen BK182.out 1; have hnb36 := NB183_184.out; have hnc36 := NB184_183.out; have hcz37_0 : w32.cell? ⟨gb183, 0, none⟩ = some (.int .i64 a2_0) := (blk_cell BK183.out 0).trans rfl; have hcz37_1 : w32.cell? ⟨gb183, 1, none⟩ = some (.int .i64 a2_1) := (blk_cell BK183.out 1).trans rfl; have hfz37_0 := blk_frozen BK183.out 0; have hfz37_1 := blk_frozen BK183.out 1) | ((with_reducible refine gate_callee (f := 13) rfl ?_); refine goesL_ (some 27) rfl rfl Try.func13 (by kernel_rfl) rfl #[.agg #[.int .i64 a1_0, .int .i64 a1_1], .agg #[.int .i64 a2_0, .int .i64 a2_1]] rfl (by (try simp only [List.map_toArray, List.map_cons, List.map_nil]); first | done | rfl) ?_; (with_reducible refine (interval_Mul.calls a1_0 a1_1 a2_0 a2_1 t191 t192 t193 _ A29.out).mono ?_); rintro e w38 ⟨rfl, hb⟩; refine ⟨_, rfl, ?_⟩; have n0_ := Aside0.mk (blk_below (g := gb182) (o := .cells #[.int .i64 a1_0, .int .i64 a1_1] 23 (0, 0)) BK182.out hb); have n1_ := Aside0.mk (blk_below (g := gb183) (o := .cells #[.int .i64 a2_0, .int .i64 a2_1] 23 (0, 0)) BK183.out hb); have n2_ := Aside0.mk (blk_below (g := gb184) (o := .cells #[.int .i64 0, .int .i64 0] 23 (0, 0)) BK184.out hb); have n3_ := Aside0.mk (below_step (by repeat first | exact HB.out | refine below_set ?_ GE182.out | refine below_set ?_ GE183.out | refine below_set ?_ GE184.out) hb); clear BK182; clear BK183; clear BK184; clear HB; have BK182 := n0_; have BK183 := n1_; have BK184 := n2_; have HB := n3_; clear n0_ n1_ n2_ n3_; (try clear hb); (try clear hb2); (try clear hk); (try clear hi); have hcz39_0 : w38.cell? ⟨gb184, 0, none⟩ = some (.int .i64 0) := (blk_cell BK184.out 0).trans rfl; have hcz39_1 : w38.cell? ⟨gb184, 1, none⟩ = some (.int .i64 0) := (blk_cell BK184.out 1).trans rfl; have hfz39_0 := blk_frozen BK184.out 0; have hfz39_1 := blk_frozen BK184.out 1))
    refine bodyPost_ret (results_ct rfl _ _ gb184 23 #[.int .i64 t191, .int .i64 t192] (0, 0) _ rfl (by (with_reducible repeat (first | refine blk_drewN ?_ _ | refine blk_drew ?_ | refine blk_alloc ?_ _)); refine blk_put (cs := #[.int .i64 t191, .int .i64 0]) ?_ 1 _ rfl; (with_reducible repeat (first | refine blk_drewN ?_ _ | refine blk_drew ?_ | refine blk_alloc ?_ _)); refine blk_put (cs := #[.int .i64 0, .int .i64 0]) ?_ 0 _ rfl; (with_reducible repeat (first | refine blk_drewN ?_ _ | refine blk_drew ?_ | refine blk_alloc ?_ _)); exact BK184.out) Try.underlying23 rfl (by kernel_rfl)) rfl ?_
    exact ⟨rfl, by repeat first | exact HB.out | refine below_set ?_ GE182.out | refine below_set ?_ GE183.out | refine below_set ?_ GE184.out⟩
   ·rw [if_neg c28] at H
    have c28b0 : (a0 == 2) = false := beq_eq_false_iff_ne.mpr c28
    have c28b1 : (a0 != 2) = true := bne_iff_ne.mpr c28
    by_cases c40 : a0 = 3
    ·rw [if_pos c40] at H
     have c40b0 : (a0 == 3) = true := beq_iff_eq.mpr c40
     have c40b1 : (a0 != 3) = false := bne_eq_false_iff_eq.mpr c40
     clear c40
     replace H := Option.bind_eq_some_iff.mp H
     obtain ⟨⟨t194, t195, t196⟩, A410, H⟩ := H
     (try dsimp only at H)
     have A41 := Aside0.mk A410
     clear A410
     simp only [Option.some.injEq, Prod.mk.injEq] at H
     obtain ⟨rfl, rfl, rfl⟩ := H
     go_enter Try.func8, Try.ntmps8
     go_wp2_with (first | ((with_reducible refine gate_dst (N := 4) rfl ?_); refine box_event ?hg (N := 4) ?hd (cs := #[.int .i64 a1_0, .int .i64 a1_1]) (t := 23) ?hr ?_; (case hd => rfl); (case hg => rfl); (case hr => go_simp); intro gb182 hg w42 hbox hb; have n0_ := Aside0.mk (below_step HB.out hb); have n1_ := Aside0.mk (hbox); have n2_ := Aside0.mk ((by rw [hg]; exact (below_size HB.out) : w.heap.size ≤ gb182)); have n3_ := Aside0.mk ((by rw [hg]; exact (below_size HB.out) : w.heap.size ≤ gb182)); clear HB; have HB := n0_; have BK182 := n1_; have GW182 := n2_; have GE182 := n3_; clear n0_ n1_ n2_ n3_; clear hb hbox hg) | ((with_reducible refine gate_dst (N := 5) rfl ?_); refine box_event ?hg (N := 5) ?hd (cs := #[.int .i64 a2_0, .int .i64 a2_1]) (t := 23) ?hr ?_; (case hd => rfl); (case hg => rfl); (case hr => go_simp); intro gb183 hg w43 hbox hb; have n0_ := Aside0.mk (blk_below (g := gb182) (o := .cells #[.int .i64 a1_0, .int .i64 a1_1] 23 (0, 0)) BK182.out hb); have n1_ := Aside0.mk (below_step (by repeat first | exact HB.out | refine below_set ?_ GE182.out) hb); have n2_ := Aside0.mk (hbox); have n3_ := Aside0.mk ((by rw [hg]; exact (below_size (by repeat first | exact HB.out | refine below_set ?_ GE182.out)) : w.heap.size ≤ gb183)); have n4_ := Aside0.mk ((by rw [hg]; exact (below_size (by repeat first | exact HB.out | refine below_set ?_ GE182.out)) : w.heap.size ≤ gb183)); have n5_ := Aside0.mk ((by rw [hg]; exact Nat.ne_of_lt (blk_lt (g := gb182) (o := .cells #[.int .i64 a1_0, .int .i64 a1_1] 23 (0, 0)) BK182.out) : gb182 ≠ gb183)); have n6_ := Aside0.mk ((by rw [hg]; exact Nat.ne_of_gt (blk_lt (g := gb182) (o := .cells #[.int .i64 a1_0, .int .i64 a1_1] 23 (0, 0)) BK182.out) : gb183 ≠ gb182)); clear BK182; clear HB; have BK182 := n0_; have HB := n1_; have BK183 := n2_; have GW183 := n3_; have GE183 := n4_; have NB182_183 := n5_; have NB183_182 := n6_; clear n0_ n1_ n2_ n3_ n4_ n5_ n6_; clear hb hbox hg) | ((with_reducible refine gate_dst (N := 6) rfl ?_); refine box_event ?hg (N := 6) ?hd (cs := #[.int .i64 0, .int .i64 0]) (t := 23) ?hr ?_; (case hd => rfl); (case hg => rfl); (case hr => go_simp); intro gb184 hg w44 hbox hb; have n0_ := Aside0.mk (blk_below (g := gb182) (o := .cells #[.int .i64 a1_0, .int .i64 a1_1] 23 (0, 0)) BK182.out hb); have n1_ := Aside0.mk (blk_below (g := gb183) (o := .cells #[.int .i64 a2_0, .int .i64 a2_1] 23 (0, 0)) BK183.out hb); have n2_ := Aside0.mk (below_step (by repeat first | exact HB.out | refine below_set ?_ GE182.out | refine below_set ?_ GE183.out) hb); have n3_ := Aside0.mk (hbox); have n4_ := Aside0.mk ((by rw [hg]; exact (below_size (by repeat first | exact HB.out | refine below_set ?_ GE182.out | refine below_set ?_ GE183.out)) : w.heap.size ≤ gb184)); have n5_ := Aside0.mk ((by rw [hg]; exact (below_size (by repeat first | exact HB.out | refine below_set ?_ GE182.out | refine below_set ?_ GE183.out)) : w.heap.size ≤ gb184)); have n6_ := Aside0.mk ((by rw [hg]; exact Nat.ne_of_lt (blk_lt (g := gb182) (o := .cells #[.int .i64 a1_0, .int .i64 a1_1] 23 (0, 0)) BK182.out) : gb182 ≠ gb184)); have n7_ := Aside0.mk ((by rw [hg]; exact Nat.ne_of_gt (blk_lt (g := gb182) (o := .cells #[.int .i64 a1_0, .int .i64 a1_1] 23 (0, 0)) BK182.out) : gb184 ≠ gb182)); have n8_ := Aside0.mk ((by rw [hg]; exact Nat.ne_of_lt (blk_lt (g := gb183) (o := .cells #[.int .i64 a2_0, .int .i64 a2_1] 23 (0, 0)) BK183.out) : gb183 ≠ gb184)); have n9_ := Aside0.mk ((by rw [hg]; exact Nat.ne_of_gt (blk_lt (g := gb183) (o := .cells #[.int .i64 a2_0, .int .i64 a2_1] 23 (0, 0)) BK183.out) : gb184 ≠ gb183)); clear BK182; clear BK183; clear HB; have BK182 := n0_; have BK183 := n1_; have HB := n2_; have BK184 := n3_; have GW184 := n4_; have GE184 := n5_; have NB182_184 := n6_; have NB184_182 := n7_; have NB183_184 := n8_; have NB184_183 := n9_; clear n0_ n1_ n2_ n3_ n4_ n5_ n6_ n7_ n8_ n9_; clear hb hbox hg; have hnb45 := NB182_183.out; have hnc45 := NB183_182.out; have hnb46 := NB182_184.out; have hnc46 := NB184_182.out; have hcz47_0 : w44.cell? ⟨gb182, 0, none⟩ = some (.int .i64 a1_0) := (blk_cell BK182.out 0).trans rfl; have hcz47_1 : w44.cell? ⟨gb182, 1, none⟩ = some (.int .i64 a1_1) := (blk_cell BK182.out 1).trans rfl; have hfz47_0 := blk_frozen BK182.out 0; have hfz47_1 := blk_frozen BK182.out 1; have hnb48 := NB183_184.out; have hnc48 := NB184_183.out; have hcz49_0 : w44.cell? ⟨gb183, 0, none⟩ = some (.int .i64 a2_0) := (blk_cell BK183.out 0).trans rfl; have hcz49_1 : w44.cell? ⟨gb183, 1, none⟩ = some (.int .i64 a2_1) := (blk_cell BK183.out 1).trans rfl; have hfz49_0 := blk_frozen BK183.out 0; have hfz49_1 := blk_frozen BK183.out 1) | ((with_reducible refine gate_callee (f := 19) rfl ?_); refine goesL_ (some 34) rfl rfl Try.func19 (by kernel_rfl) rfl #[.agg #[.int .i64 a1_0, .int .i64 a1_1], .agg #[.int .i64 a2_0, .int .i64 a2_1]] rfl (by (try simp only [List.map_toArray, List.map_cons, List.map_nil]); first | done | rfl) ?_; (with_reducible refine (interval_Div.calls k a1_0 a1_1 a2_0 a2_1 t194 t195 t196 _ A41.out).mono ?_); rintro e w50 ⟨rfl, hb⟩; refine ⟨_, rfl, ?_⟩; have n0_ := Aside0.mk (blk_below (g := gb182) (o := .cells #[.int .i64 a1_0, .int .i64 a1_1] 23 (0, 0)) BK182.out hb); have n1_ := Aside0.mk (blk_below (g := gb183) (o := .cells #[.int .i64 a2_0, .int .i64 a2_1] 23 (0, 0)) BK183.out hb); have n2_ := Aside0.mk (blk_below (g := gb184) (o := .cells #[.int .i64 0, .int .i64 0] 23 (0, 0)) BK184.out hb); have n3_ := Aside0.mk (below_step (by repeat first | exact HB.out | refine below_set ?_ GE182.out | refine below_set ?_ GE183.out | refine below_set ?_ GE184.out) hb); clear BK182; clear BK183; clear BK184; clear HB; have BK182 := n0_; have BK183 := n1_; have BK184 := n2_; have HB := n3_; clear n0_ n1_ n2_ n3_; (try clear hb); (try clear hb2); (try clear hk); (try clear hi); have hcz51_0 : w50.cell? ⟨gb184, 0, none⟩ = some (.int .i64 0) := (blk_cell BK184.out 0).trans rfl; have hcz51_1 : w50.cell? ⟨gb184, 1, none⟩ = some (.int .i64 0) := (blk_cell BK184.out 1).trans rfl; have hfz51_0 := blk_frozen BK184.out 0; have hfz51_1 := blk_frozen BK184.out 1))
     refine bodyPost_ret (results_ct rfl _ _ gb184 23 #[.int .i64 t194, .int .i64 t195] (0, 0) _ rfl (by (with_reducible repeat (first | refine blk_drewN ?_ _ | refine blk_drew ?_ | refine blk_alloc ?_ _)); refine blk_put (cs := #[.int .i64 t194, .int .i64 0]) ?_ 1 _ rfl; (with_reducible repeat (first | refine blk_drewN ?_ _ | refine blk_drew ?_ | refine blk_alloc ?_ _)); refine blk_put (cs := #[.int .i64 0, .int .i64 0]) ?_ 0 _ rfl; (with_reducible repeat (first | refine blk_drewN ?_ _ | refine blk_drew ?_ | refine blk_alloc ?_ _)); exact BK184.out) Try.underlying23 rfl (by kernel_rfl)) rfl ?_
     exact ⟨rfl, by repeat first | exact HB.out | refine below_set ?_ GE182.out | refine below_set ?_ GE183.out | refine below_set ?_ GE184.out⟩
    ·rw [if_neg c40] at H
     have c40b0 : (a0 == 3) = false := beq_eq_false_iff_ne.mpr c40
     have c40b1 : (a0 != 3) = true := bne_iff_ne.mpr c40
     by_cases c52 : a0 = 4
     ·rw [if_pos c52] at H
      have c52b0 : (a0 == 4) = true := beq_iff_eq.mpr c52
      have c52b1 : (a0 != 4) = false := bne_eq_false_iff_eq.mpr c52
      clear c52
      replace H := Option.bind_eq_some_iff.mp H
      obtain ⟨⟨t197, t198, t199⟩, A530, H⟩ := H
      (try dsimp only at H)
      have A53 := Aside0.mk A530
      clear A530
      simp only [Option.some.injEq, Prod.mk.injEq] at H
      obtain ⟨rfl, rfl, rfl⟩ := H
      go_enter Try.func8, Try.ntmps8
      go_wp2_with (first | ((with_reducible refine gate_dst (N := 4) rfl ?_); refine box_event ?hg (N := 4) ?hd (cs := #[.int .i64 a1_0, .int .i64 a1_1]) (t := 23) ?hr ?_; (case hd => rfl); (case hg => rfl); (case hr => go_simp); intro gb182 hg w54 hbox hb; have n0_ := Aside0.mk (below_step HB.out hb); have n1_ := Aside0.mk (hbox); have n2_ := Aside0.mk ((by rw [hg]; exact (below_size HB.out) : w.heap.size ≤ gb182)); have n3_ := Aside0.mk ((by rw [hg]; exact (below_size HB.out) : w.heap.size ≤ gb182)); clear HB; have HB := n0_; have BK182 := n1_; have GW182 := n2_; have GE182 := n3_; clear n0_ n1_ n2_ n3_; clear hb hbox hg) | ((with_reducible refine gate_dst (N := 5) rfl ?_); refine box_event ?hg (N := 5) ?hd (cs := #[.int .i64 a2_0, .int .i64 a2_1]) (t := 23) ?hr ?_; (case hd => rfl); (case hg => rfl); (case hr => go_simp); intro gb183 hg w55 hbox hb; have n0_ := Aside0.mk (blk_below (g := gb182) (o := .cells #[.int .i64 a1_0, .int .i64 a1_1] 23 (0, 0)) BK182.out hb); have n1_ := Aside0.mk (below_step (by repeat first | exact HB.out | refine below_set ?_ GE182.out) hb); have n2_ := Aside0.mk (hbox); have n3_ := Aside0.mk ((by rw [hg]; exact (below_size (by repeat first | exact HB.out | refine below_set ?_ GE182.out)) : w.heap.size ≤ gb183)); have n4_ := Aside0.mk ((by rw [hg]; exact (below_size (by repeat first | exact HB.out | refine below_set ?_ GE182.out)) : w.heap.size ≤ gb183)); have n5_ := Aside0.mk ((by rw [hg]; exact Nat.ne_of_lt (blk_lt (g := gb182) (o := .cells #[.int .i64 a1_0, .int .i64 a1_1] 23 (0, 0)) BK182.out) : gb182 ≠ gb183)); have n6_ := Aside0.mk ((by rw [hg]; exact Nat.ne_of_gt (blk_lt (g := gb182) (o := .cells #[.int .i64 a1_0, .int .i64 a1_1] 23 (0, 0)) BK182.out) : gb183 ≠ gb182)); clear BK182; clear HB; have BK182 := n0_; have HB := n1_; have BK183 := n2_; have GW183 := n3_; have GE183 := n4_; have NB182_183 := n5_; have NB183_182 := n6_; clear n0_ n1_ n2_ n3_ n4_ n5_ n6_; clear hb hbox hg) | ((with_reducible refine gate_dst (N := 6) rfl ?_); refine box_event ?hg (N := 6) ?hd (cs := #[.int .i64 0, .int .i64 0]) (t := 23) ?hr ?_; (case hd => rfl); (case hg => rfl); (case hr => go_simp); intro gb184 hg w56 hbox hb; have n0_ := Aside0.mk (blk_below (g := gb182) (o := .cells #[.int .i64 a1_0, .int .i64 a1_1] 23 (0, 0)) BK182.out hb); have n1_ := Aside0.mk (blk_below (g := gb183) (o := .cells #[.int .i64 a2_0, .int .i64 a2_1] 23 (0, 0)) BK183.out hb); have n2_ := Aside0.mk (below_step (by repeat first | exact HB.out | refine below_set ?_ GE182.out | refine below_set ?_ GE183.out) hb); have n3_ := Aside0.mk (hbox); have n4_ := Aside0.mk ((by rw [hg]; exact (below_size (by repeat first | exact HB.out | refine below_set ?_ GE182.out | refine below_set ?_ GE183.out)) : w.heap.size ≤ gb184)); have n5_ := Aside0.mk ((by rw [hg]; exact (below_size (by repeat first | exact HB.out | refine below_set ?_ GE182.out | refine below_set ?_ GE183.out)) : w.heap.size ≤ gb184)); have n6_ := Aside0.mk ((by rw [hg]; exact Nat.ne_of_lt (blk_lt (g := gb182) (o := .cells #[.int .i64 a1_0, .int .i64 a1_1] 23 (0, 0)) BK182.out) : gb182 ≠ gb184)); have n7_ := Aside0.mk ((by rw [hg]; exact Nat.ne_of_gt (blk_lt (g := gb182) (o := .cells #[.int .i64 a1_0, .int .i64 a1_1] 23 (0, 0)) BK182.out) : gb184 ≠ gb182)); have n8_ := Aside0.mk ((by rw [hg]; exact Nat.ne_of_lt (blk_lt (g := gb183) (o := .cells #[.int .i64 a2_0, .int .i64 a2_1] 23 (0, 0)) BK183.out) : gb183 ≠ gb184)); have n9_ := Aside0.mk ((by rw [hg]; exact Nat.ne_of_gt (blk_lt (g := gb183) (o := .cells #[.int .i64 a2_0, .int .i64 a2_1] 23 (0, 0)) BK183.out) : gb184 ≠ gb183)); clear BK182; clear BK183; clear HB; have BK182 := n0_; have BK183 := n1_; have HB := n2_; have BK184 := n3_; have GW184 := n4_; have GE184 := n5_; have NB182_184 := n6_; have NB184_182 := n7_; have NB183_184 := n8_; have NB184_183 := n9_; clear n0_ n1_ n2_ n3_ n4_ n5_ n6_ n7_ n8_ n9_; clear hb hbox hg; have hnb57 := NB182_183.out; have hnc57 := NB183_182.out; have hnb58 := NB182_184.out; have hnc58 := NB184_182.out; have hcz59_0 : w56.cell? ⟨gb182, 0, none⟩ = some (.int .i64 a1_0) := (blk_cell BK182.out 0).trans rfl; have hcz59_1 : w56.cell? ⟨gb182, 1, none⟩ = some (.int .i64 a1_1) := (blk_cell BK182.out 1).trans rfl; have hfz59_0 := blk_frozen BK182.out 0; have hfz59_1 := blk_frozen BK182.out 1; have hnb60 := NB183_184.out; have hnc60 := NB184_183.out; have hcz61_0 : w56.cell? ⟨gb183, 0, none⟩ = some (.int .i64 a2_0) := (blk_cell BK183.out 0).trans rfl; have hcz61_1 : w56.cell? ⟨gb183, 1, none⟩ = some (.int .i64 a2_1) := (blk_cell BK183.out 1).trans rfl; have hfz61_0 := blk_frozen BK183.out 0; have hfz61_1 := blk_frozen BK183.out 1) | ((with_reducible refine gate_callee (f := 11) rfl ?_); refine goesL_ (some 41) rfl rfl Try.func11 (by kernel_rfl) rfl #[.agg #[.int .i64 a1_0, .int .i64 a1_1], .agg #[.int .i64 a2_0, .int .i64 a2_1]] rfl (by (try simp only [List.map_toArray, List.map_cons, List.map_nil]); first | done | rfl) ?_; (with_reducible refine (interval_Meet.calls a1_0 a1_1 a2_0 a2_1 t197 t198 t199 _ A53.out).mono ?_); rintro e w62 ⟨rfl, hb⟩; refine ⟨_, rfl, ?_⟩; have n0_ := Aside0.mk (blk_below (g := gb182) (o := .cells #[.int .i64 a1_0, .int .i64 a1_1] 23 (0, 0)) BK182.out hb); have n1_ := Aside0.mk (blk_below (g := gb183) (o := .cells #[.int .i64 a2_0, .int .i64 a2_1] 23 (0, 0)) BK183.out hb); have n2_ := Aside0.mk (blk_below (g := gb184) (o := .cells #[.int .i64 0, .int .i64 0] 23 (0, 0)) BK184.out hb); have n3_ := Aside0.mk (below_step (by repeat first | exact HB.out | refine below_set ?_ GE182.out | refine below_set ?_ GE183.out | refine below_set ?_ GE184.out) hb); clear BK182; clear BK183; clear BK184; clear HB; have BK182 := n0_; have BK183 := n1_; have BK184 := n2_; have HB := n3_; clear n0_ n1_ n2_ n3_; (try clear hb); (try clear hb2); (try clear hk); (try clear hi); have hcz63_0 : w62.cell? ⟨gb184, 0, none⟩ = some (.int .i64 0) := (blk_cell BK184.out 0).trans rfl; have hcz63_1 : w62.cell? ⟨gb184, 1, none⟩ = some (.int .i64 0) := (blk_cell BK184.out 1).trans rfl; have hfz63_0 := blk_frozen BK184.out 0; have hfz63_1 := blk_frozen BK184.out 1))
      refine bodyPost_ret (results_ct rfl _ _ gb184 23 #[.int .i64 t197, .int .i64 t198] (0, 0) _ rfl (by (with_reducible repeat (first | refine blk_drewN ?_ _ | refine blk_drew ?_ | refine blk_alloc ?_ _)); refine blk_put (cs := #[.int .i64 t197, .int .i64 0]) ?_ 1 _ rfl; (with_reducible repeat (first | refine blk_drewN ?_ _ | refine blk_drew ?_ | refine blk_alloc ?_ _)); refine blk_put (cs := #[.int .i64 0, .int .i64 0]) ?_ 0 _ rfl; (with_reducible repeat (first | refine blk_drewN ?_ _ | refine blk_drew ?_ | refine blk_alloc ?_ _)); exact BK184.out) Try.underlying23 rfl (by kernel_rfl)) rfl ?_
      exact ⟨rfl, by repeat first | exact HB.out | refine below_set ?_ GE182.out | refine below_set ?_ GE183.out | refine below_set ?_ GE184.out⟩
     ·rw [if_neg c52] at H
      have c52b0 : (a0 == 4) = false := beq_eq_false_iff_ne.mpr c52
      have c52b1 : (a0 != 4) = true := bne_iff_ne.mpr c52
      by_cases c64 : a0 = 5
      ·rw [if_pos c64] at H
       have c64b0 : (a0 == 5) = true := beq_iff_eq.mpr c64
       have c64b1 : (a0 != 5) = false := bne_eq_false_iff_eq.mpr c64
       clear c64
       replace H := Option.bind_eq_some_iff.mp H
       obtain ⟨⟨t200, t201, t202⟩, A650, H⟩ := H
       (try dsimp only at H)
       have A65 := Aside0.mk A650
       clear A650
       simp only [Option.some.injEq, Prod.mk.injEq] at H
       obtain ⟨rfl, rfl, rfl⟩ := H
       go_enter Try.func8, Try.ntmps8
       go_wp2_with (first | ((with_reducible refine gate_dst (N := 4) rfl ?_); refine box_event ?hg (N := 4) ?hd (cs := #[.int .i64 a1_0, .int .i64 a1_1]) (t := 23) ?hr ?_; (case hd => rfl); (case hg => rfl); (case hr => go_simp); intro gb182 hg w66 hbox hb; have n0_ := Aside0.mk (below_step HB.out hb); have n1_ := Aside0.mk (hbox); have n2_ := Aside0.mk ((by rw [hg]; exact (below_size HB.out) : w.heap.size ≤ gb182)); have n3_ := Aside0.mk ((by rw [hg]; exact (below_size HB.out) : w.heap.size ≤ gb182)); clear HB; have HB := n0_; have BK182 := n1_; have GW182 := n2_; have GE182 := n3_; clear n0_ n1_ n2_ n3_; clear hb hbox hg) | ((with_reducible refine gate_dst (N := 5) rfl ?_); refine box_event ?hg (N := 5) ?hd (cs := #[.int .i64 a2_0, .int .i64 a2_1]) (t := 23) ?hr ?_; (case hd => rfl); (case hg => rfl); (case hr => go_simp); intro gb183 hg w67 hbox hb; have n0_ := Aside0.mk (blk_below (g := gb182) (o := .cells #[.int .i64 a1_0, .int .i64 a1_1] 23 (0, 0)) BK182.out hb); have n1_ := Aside0.mk (below_step (by repeat first | exact HB.out | refine below_set ?_ GE182.out) hb); have n2_ := Aside0.mk (hbox); have n3_ := Aside0.mk ((by rw [hg]; exact (below_size (by repeat first | exact HB.out | refine below_set ?_ GE182.out)) : w.heap.size ≤ gb183)); have n4_ := Aside0.mk ((by rw [hg]; exact (below_size (by repeat first | exact HB.out | refine below_set ?_ GE182.out)) : w.heap.size ≤ gb183)); have n5_ := Aside0.mk ((by rw [hg]; exact Nat.ne_of_lt (blk_lt (g := gb182) (o := .cells #[.int .i64 a1_0, .int .i64 a1_1] 23 (0, 0)) BK182.out) : gb182 ≠ gb183)); have n6_ := Aside0.mk ((by rw [hg]; exact Nat.ne_of_gt (blk_lt (g := gb182) (o := .cells #[.int .i64 a1_0, .int .i64 a1_1] 23 (0, 0)) BK182.out) : gb183 ≠ gb182)); clear BK182; clear HB; have BK182 := n0_; have HB := n1_; have BK183 := n2_; have GW183 := n3_; have GE183 := n4_; have NB182_183 := n5_; have NB183_182 := n6_; clear n0_ n1_ n2_ n3_ n4_ n5_ n6_; clear hb hbox hg) | ((with_reducible refine gate_dst (N := 6) rfl ?_); refine box_event ?hg (N := 6) ?hd (cs := #[.int .i64 0, .int .i64 0]) (t := 23) ?hr ?_; (case hd => rfl); (case hg => rfl); (case hr => go_simp); intro gb184 hg w68 hbox hb; have n0_ := Aside0.mk (blk_below (g := gb182) (o := .cells #[.int .i64 a1_0, .int .i64 a1_1] 23 (0, 0)) BK182.out hb); have n1_ := Aside0.mk (blk_below (g := gb183) (o := .cells #[.int .i64 a2_0, .int .i64 a2_1] 23 (0, 0)) BK183.out hb); have n2_ := Aside0.mk (below_step (by repeat first | exact HB.out | refine below_set ?_ GE182.out | refine below_set ?_ GE183.out) hb); have n3_ := Aside0.mk (hbox); have n4_ := Aside0.mk ((by rw [hg]; exact (below_size (by repeat first | exact HB.out | refine below_set ?_ GE182.out | refine below_set ?_ GE183.out)) : w.heap.size ≤ gb184)); have n5_ := Aside0.mk ((by rw [hg]; exact (below_size (by repeat first | exact HB.out | refine below_set ?_ GE182.out | refine below_set ?_ GE183.out)) : w.heap.size ≤ gb184)); have n6_ := Aside0.mk ((by rw [hg]; exact Nat.ne_of_lt (blk_lt (g := gb182) (o := .cells #[.int .i64 a1_0, .int .i64 a1_1] 23 (0, 0)) BK182.out) : gb182 ≠ gb184)); have n7_ := Aside0.mk ((by rw [hg]; exact Nat.ne_of_gt (blk_lt (g := gb182) (o := .cells #[.int .i64 a1_0, .int .i64 a1_1] 23 (0, 0)) BK182.out) : gb184 ≠ gb182)); have n8_ := Aside0.mk ((by rw [hg]; exact Nat.ne_of_lt (blk_lt (g := gb183) (o := .cells #[.int .i64 a2_0, .int .i64 a2_1] 23 (0, 0)) BK183.out) : gb183 ≠ gb184)); have n9_ := Aside0.mk ((by rw [hg]; exact Nat.ne_of_gt (blk_lt (g := gb183) (o := .cells #[.int .i64 a2_0, .int .i64 a2_1] 23 (0, 0)) BK183.out) : gb184 ≠ gb183)); clear BK182; clear BK183; clear HB; have BK182 := n0_; have BK183 := n1_; have HB := n2_; have BK184 := n3_; have GW184 := n4_; have GE184 := n5_; have NB182_184 := n6_; have NB184_182 := n7_; have NB183_184 := n8_; have NB184_183 := n9_; clear n0_ n1_ n2_ n3_ n4_ n5_ n6_ n7_ n8_ n9_; clear hb hbox hg; have hnb69 := NB182_183.out; have hnc69 := NB183_182.out; have hnb70 := NB182_184.out; have hnc70 := NB184_182.out; have hcz71_0 : w68.cell? ⟨gb182, 0, none⟩ = some (.int .i64 a1_0) := (blk_cell BK182.out 0).trans rfl; have hcz71_1 : w68.cell? ⟨gb182, 1, none⟩ = some (.int .i64 a1_1) := (blk_cell BK182.out 1).trans rfl; have hfz71_0 := blk_frozen BK182.out 0; have hfz71_1 := blk_frozen BK182.out 1; have hnb72 := NB183_184.out; have hnc72 := NB184_183.out; have hcz73_0 : w68.cell? ⟨gb183, 0, none⟩ = some (.int .i64 a2_0) := (blk_cell BK183.out 0).trans rfl; have hcz73_1 : w68.cell? ⟨gb183, 1, none⟩ = some (.int .i64 a2_1) := (blk_cell BK183.out 1).trans rfl; have hfz73_0 := blk_frozen BK183.out 0; have hfz73_1 := blk_frozen BK183.out 1) | ((with_reducible refine gate_callee (f := 10) rfl ?_); refine goesL_ (some 48) rfl rfl Try.func10 (by kernel_rfl) rfl #[.agg #[.int .i64 a1_0, .int .i64 a1_1], .agg #[.int .i64 a2_0, .int .i64 a2_1]] rfl (by (try simp only [List.map_toArray, List.map_cons, List.map_nil]); first | done | rfl) ?_; (with_reducible refine (interval_Hull.calls a1_0 a1_1 a2_0 a2_1 t200 t201 t202 _ A65.out).mono ?_); rintro e w74 ⟨rfl, hb⟩; refine ⟨_, rfl, ?_⟩; have n0_ := Aside0.mk (blk_below (g := gb182) (o := .cells #[.int .i64 a1_0, .int .i64 a1_1] 23 (0, 0)) BK182.out hb); have n1_ := Aside0.mk (blk_below (g := gb183) (o := .cells #[.int .i64 a2_0, .int .i64 a2_1] 23 (0, 0)) BK183.out hb); have n2_ := Aside0.mk (blk_below (g := gb184) (o := .cells #[.int .i64 0, .int .i64 0] 23 (0, 0)) BK184.out hb); have n3_ := Aside0.mk (below_step (by repeat first | exact HB.out | refine below_set ?_ GE182.out | refine below_set ?_ GE183.out | refine below_set ?_ GE184.out) hb); clear BK182; clear BK183; clear BK184; clear HB; have BK182 := n0_; have BK183 := n1_; have BK184 := n2_; have HB := n3_; clear n0_ n1_ n2_ n3_; (try clear hb); (try clear hb2); (try clear hk); (try clear hi); have hcz75_0 : w74.cell? ⟨gb184, 0, none⟩ = some (.int .i64 0) := (blk_cell BK184.out 0).trans rfl; have hcz75_1 : w74.cell? ⟨gb184, 1, none⟩ = some (.int .i64 0) := (blk_cell BK184.out 1).trans rfl; have hfz75_0 := blk_frozen BK184.out 0; have hfz75_1 := blk_frozen BK184.out 1))
       refine bodyPost_ret (results_ct rfl _ _ gb184 23 #[.int .i64 t200, .int .i64 t201] (0, 0) _ rfl (by (with_reducible repeat (first | refine blk_drewN ?_ _ | refine blk_drew ?_ | refine blk_alloc ?_ _)); refine blk_put (cs := #[.int .i64 t200, .int .i64 0]) ?_ 1 _ rfl; (with_reducible repeat (first | refine blk_drewN ?_ _ | refine blk_drew ?_ | refine blk_alloc ?_ _)); refine blk_put (cs := #[.int .i64 0, .int .i64 0]) ?_ 0 _ rfl; (with_reducible repeat (first | refine blk_drewN ?_ _ | refine blk_drew ?_ | refine blk_alloc ?_ _)); exact BK184.out) Try.underlying23 rfl (by kernel_rfl)) rfl ?_
       exact ⟨rfl, by repeat first | exact HB.out | refine below_set ?_ GE182.out | refine below_set ?_ GE183.out | refine below_set ?_ GE184.out⟩
      ·rw [if_neg c64] at H
       have c64b0 : (a0 == 5) = false := beq_eq_false_iff_ne.mpr c64
       have c64b1 : (a0 != 5) = true := bne_iff_ne.mpr c64
       replace H := Option.bind_eq_some_iff.mp H
       obtain ⟨⟨t203, t204, t205⟩, A760, H⟩ := H
       (try dsimp only at H)
       have A76 := Aside0.mk A760
       clear A760
       simp only [Option.some.injEq, Prod.mk.injEq] at H
       obtain ⟨rfl, rfl, rfl⟩ := H
       go_enter Try.func8, Try.ntmps8
       go_wp2_with (first | ((with_reducible refine gate_dst (N := 4) rfl ?_); refine box_event ?hg (N := 4) ?hd (cs := #[.int .i64 a1_0, .int .i64 a1_1]) (t := 23) ?hr ?_; (case hd => rfl); (case hg => rfl); (case hr => go_simp); intro gb182 hg w77 hbox hb; have n0_ := Aside0.mk (below_step HB.out hb); have n1_ := Aside0.mk (hbox); have n2_ := Aside0.mk ((by rw [hg]; exact (below_size HB.out) : w.heap.size ≤ gb182)); have n3_ := Aside0.mk ((by rw [hg]; exact (below_size HB.out) : w.heap.size ≤ gb182)); clear HB; have HB := n0_; have BK182 := n1_; have GW182 := n2_; have GE182 := n3_; clear n0_ n1_ n2_ n3_; clear hb hbox hg) | ((with_reducible refine gate_dst (N := 5) rfl ?_); refine box_event ?hg (N := 5) ?hd (cs := #[.int .i64 a2_0, .int .i64 a2_1]) (t := 23) ?hr ?_; (case hd => rfl); (case hg => rfl); (case hr => go_simp); intro gb183 hg w78 hbox hb; have n0_ := Aside0.mk (blk_below (g := gb182) (o := .cells #[.int .i64 a1_0, .int .i64 a1_1] 23 (0, 0)) BK182.out hb); have n1_ := Aside0.mk (below_step (by repeat first | exact HB.out | refine below_set ?_ GE182.out) hb); have n2_ := Aside0.mk (hbox); have n3_ := Aside0.mk ((by rw [hg]; exact (below_size (by repeat first | exact HB.out | refine below_set ?_ GE182.out)) : w.heap.size ≤ gb183)); have n4_ := Aside0.mk ((by rw [hg]; exact (below_size (by repeat first | exact HB.out | refine below_set ?_ GE182.out)) : w.heap.size ≤ gb183)); have n5_ := Aside0.mk ((by rw [hg]; exact Nat.ne_of_lt (blk_lt (g := gb182) (o := .cells #[.int .i64 a1_0, .int .i64 a1_1] 23 (0, 0)) BK182.out) : gb182 ≠ gb183)); have n6_ := Aside0.mk ((by rw [hg]; exact Nat.ne_of_gt (blk_lt (g := gb182) (o := .cells #[.int .i64 a1_0, .int .i64 a1_1] 23 (0, 0)) BK182.out) : gb183 ≠ gb182)); clear BK182; clear HB; have BK182 := n0_; have HB := n1_; have BK183 := n2_; have GW183 := n3_; have GE183 := n4_; have NB182_183 := n5_; have NB183_182 := n6_; clear n0_ n1_ n2_ n3_ n4_ n5_ n6_; clear hb hbox hg) | ((with_reducible refine gate_dst (N := 6) rfl ?_); refine box_event ?hg (N := 6) ?hd (cs := #[.int .i64 0, .int .i64 0]) (t := 23) ?hr ?_; (case hd => rfl); (case hg => rfl); (case hr => go_simp); intro gb184 hg w79 hbox hb; have n0_ := Aside0.mk (blk_below (g := gb182) (o := .cells #[.int .i64 a1_0, .int .i64 a1_1] 23 (0, 0)) BK182.out hb); have n1_ := Aside0.mk (blk_below (g := gb183) (o := .cells #[.int .i64 a2_0, .int .i64 a2_1] 23 (0, 0)) BK183.out hb); have n2_ := Aside0.mk (below_step (by repeat first | exact HB.out | refine below_set ?_ GE182.out | refine below_set ?_ GE183.out) hb); have n3_ := Aside0.mk (hbox); have n4_ := Aside0.mk ((by rw [hg]; exact (below_size (by repeat first | exact HB.out | refine below_set ?_ GE182.out | refine below_set ?_ GE183.out)) : w.heap.size ≤ gb184)); have n5_ := Aside0.mk ((by rw [hg]; exact (below_size (by repeat first | exact HB.out | refine below_set ?_ GE182.out | refine below_set ?_ GE183.out)) : w.heap.size ≤ gb184)); have n6_ := Aside0.mk ((by rw [hg]; exact Nat.ne_of_lt (blk_lt (g := gb182) (o := .cells #[.int .i64 a1_0, .int .i64 a1_1] 23 (0, 0)) BK182.out) : gb182 ≠ gb184)); have n7_ := Aside0.mk ((by rw [hg]; exact Nat.ne_of_gt (blk_lt (g := gb182) (o := .cells #[.int .i64 a1_0, .int .i64 a1_1] 23 (0, 0)) BK182.out) : gb184 ≠ gb182)); have n8_ := Aside0.mk ((by rw [hg]; exact Nat.ne_of_lt (blk_lt (g := gb183) (o := .cells #[.int .i64 a2_0, .int .i64 a2_1] 23 (0, 0)) BK183.out) : gb183 ≠ gb184)); have n9_ := Aside0.mk ((by rw [hg]; exact Nat.ne_of_gt (blk_lt (g := gb183) (o := .cells #[.int .i64 a2_0, .int .i64 a2_1] 23 (0, 0)) BK183.out) : gb184 ≠ gb183)); clear BK182; clear BK183; clear HB; have BK182 := n0_; have BK183 := n1_; have HB := n2_; have BK184 := n3_; have GW184 := n4_; have GE184 := n5_; have NB182_184 := n6_; have NB184_182 := n7_; have NB183_184 := n8_; have NB184_183 := n9_; clear n0_ n1_ n2_ n3_ n4_ n5_ n6_ n7_ n8_ n9_; clear hb hbox hg; have hnb80 := NB182_183.out; have hnc80 := NB183_182.out; have hnb81 := NB182_184.out; have hnc81 := NB184_182.out; have hcz82_0 : w79.cell? ⟨gb182, 0, none⟩ = some (.int .i64 a1_0) := (blk_cell BK182.out 0).trans rfl; have hcz82_1 : w79.cell? ⟨gb182, 1, none⟩ = some (.int .i64 a1_1) := (blk_cell BK182.out 1).trans rfl; have hfz82_0 := blk_frozen BK182.out 0; have hfz82_1 := blk_frozen BK182.out 1) | ((with_reducible refine gate_callee (f := 12) rfl ?_); refine goesL_ (some 52) rfl rfl Try.func12 (by kernel_rfl) rfl #[.agg #[.int .i64 a1_0, .int .i64 a1_1]] rfl (by (try simp only [List.map_toArray, List.map_cons, List.map_nil]); first | done | rfl) ?_; (with_reducible refine (interval_Sqrt.calls k a1_0 a1_1 t203 t204 t205 _ A76.out).mono ?_); rintro e w83 ⟨rfl, hb⟩; refine ⟨_, rfl, ?_⟩; have n0_ := Aside0.mk (blk_below (g := gb182) (o := .cells #[.int .i64 a1_0, .int .i64 a1_1] 23 (0, 0)) BK182.out hb); have n1_ := Aside0.mk (blk_below (g := gb183) (o := .cells #[.int .i64 a2_0, .int .i64 a2_1] 23 (0, 0)) BK183.out hb); have n2_ := Aside0.mk (blk_below (g := gb184) (o := .cells #[.int .i64 0, .int .i64 0] 23 (0, 0)) BK184.out hb); have n3_ := Aside0.mk (below_step (by repeat first | exact HB.out | refine below_set ?_ GE182.out | refine below_set ?_ GE183.out | refine below_set ?_ GE184.out) hb); clear BK182; clear BK183; clear BK184; clear HB; have BK182 := n0_; have BK183 := n1_; have BK184 := n2_; have HB := n3_; clear n0_ n1_ n2_ n3_; (try clear hb); (try clear hb2); (try clear hk); (try clear hi); have hnb84 := NB184_183.out; have hnc84 := NB183_184.out; have hcz85_0 : w83.cell? ⟨gb184, 0, none⟩ = some (.int .i64 0) := (blk_cell BK184.out 0).trans rfl; have hcz85_1 : w83.cell? ⟨gb184, 1, none⟩ = some (.int .i64 0) := (blk_cell BK184.out 1).trans rfl; have hfz85_0 := blk_frozen BK184.out 0; have hfz85_1 := blk_frozen BK184.out 1))
       refine bodyPost_ret (results_ct rfl _ _ gb184 23 #[.int .i64 t203, .int .i64 t204] (0, 0) _ rfl (by (with_reducible repeat (first | refine blk_drewN ?_ _ | refine blk_drew ?_ | refine blk_alloc ?_ _)); refine blk_put (cs := #[.int .i64 t203, .int .i64 0]) ?_ 1 _ rfl; (with_reducible repeat (first | refine blk_drewN ?_ _ | refine blk_drew ?_ | refine blk_alloc ?_ _)); refine blk_put (cs := #[.int .i64 0, .int .i64 0]) ?_ 0 _ rfl; (with_reducible repeat (first | refine blk_drewN ?_ _ | refine blk_drew ?_ | refine blk_alloc ?_ _)); exact BK184.out) Try.underlying23 rfl (by kernel_rfl)) rfl ?_
       exact ⟨rfl, by repeat first | exact HB.out | refine below_set ?_ GE182.out | refine below_set ?_ GE183.out | refine below_set ?_ GE184.out⟩
end Go.Proofs.Ytplpmndchdockaa.Pr
