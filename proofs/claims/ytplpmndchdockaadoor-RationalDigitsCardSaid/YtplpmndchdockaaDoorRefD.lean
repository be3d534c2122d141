import Derived.Test.YtplpmndchdockaaDoorRefC
/-! The reference's fractions: Of and Valid. -/
namespace Go.Proofs.YtplpmndchdockaaDoor.M
open Go Go.RowKit Go.Proofs.YtplpmndchdockaaDoorV.PrintWords
set_option autoImplicit false
set_option linter.unusedVariables false
set_option linter.unusedSimpArgs false

theorem q_parts {a b : Int} (hb : b ≠ 0) : ((a : Rat) / (b : Rat)).num.natAbs ≤ a.natAbs ∧ ((a : Rat) / (b : Rat)).den ≤ b.natAbs := by
  rw [← fr_int a b hb, fr_num (by omega), fr_den (by omega)]
  exact ⟨Nat.div_le_self _ _, Nat.div_le_self _ _⟩
set_option maxHeartbeats 1000000 in
theorem rof_c (w : World) (a b : Int) (a0 : -9223372036854775808 ≤ a) (a1 : a ≤ 9223372036854775807) (b0 : -9223372036854775808 ≤ b) (b1' : b ≤ 9223372036854775807) :
    Calls Tryd.prog 22 #[.int .i64 a, .int .i64 b] w fun e w' => e = .returned (wV (ofQ a b)) ∧ Below w.heap.size w w' := by
  have HB := Aside0.mk (below_alloc (Below.refl w.heap.size w) (Obj.cells #[Value.string { data := #[] }, Value.string { data := #[] }] 23))
  by_cases hb : b = 0
  · subst hb
    go_enter Tryd.func22, Tryd.ntmps22
    go_wp2
    refine bodyPost_ret (v := wV (ofQ a 0)) (by simp [results, Tryd.results22, go_sem, wV, wN, wD, wO, ofQ]) rfl ⟨rfl, ?_⟩
    repeat first | exact HB.out | refine below_set ?_ (by omega) | refine below_alloc ?_ _
  · obtain ⟨p1, p2⟩ := q_parts (a := a) hb
    have s1 := (Rm.abs a0 a1).le p1
    have s2 := (Rm.abs b0 b1').le p2
    clear p1 p2
    go_enter Tryd.func22, Tryd.ntmps22
    go_wp2_with fail
    refine afterF (make_c _ a b a0 a1 b0 b1' hb) ?_; intro A L c A2 L2 c2 w1 hn hd b1 z1 hc1 hf1; have y1 : w.heap.size < w1.heap.size := (by simp at z1; omega); have H1 := Aside0.mk (below_trans HB.out b1); clear b1 z1
    go_wp2_with fail
    refine afterW (rwrite_c _ _ _ rfl hn hd s1 s2) ?_; intro w2 b2 z2 hc2 hf2; have y2 := Nat.lt_of_lt_of_le y1 z2; have H2 := Aside0.mk (below_trans H1.out b2); clear b2 z2
    go_wp2
    refine bodyPost_ret (v := wV (ofQ a b)) (by simp [results, Tryd.results22, go_sem, wV, ofQ, hb, hc2, hc1, y1, y2]) rfl ⟨rfl, ?_⟩
    repeat first | exact H2.out | refine below_set ?_ (by omega) | refine below_alloc ?_ _
set_option maxHeartbeats 1000000 in
theorem rvalid_c (w : World) (N D : ByteArray) (hN : N.size ≤ 140737488355328) : Calls Tryd.prog 24 #[.agg #[.string N, .string D]] w fun e w' => e = .returned (.bool (rdQ N D).isSome) ∧ Below w.heap.size w w' := by
  have HB := Aside0.mk (below_alloc (Below.refl w.heap.size w) (Obj.cells #[Value.string N, Value.string D] 23))
  go_enter Tryd.func24, Tryd.ntmps24
  go_wp2_with fail
  refine afterR (rread_c _ N D hN) ?_; intro b A L c A' L' c' w1 hq b1 z1 hc1 hf1; have y1 : w.heap.size < w1.heap.size := (by simp at z1; omega); have H1 := Aside0.mk (below_trans HB.out b1); clear b1 z1
  go_wp2
  go_ret
  exact ⟨rfl, below_alloc H1.out _⟩
end Go.Proofs.YtplpmndchdockaaDoor.M
