import Derived.Test.YtplpmndchdockaaDoorLawA
/-! RationalForms: the walk. -/
namespace Go.Proofs.YtplpmndchdockaaDoor.M
open Go Go.RowKit Go.Proofs.YtplpmndchdockaaDoorV.PrintWords
set_option autoImplicit false
set_option linter.unusedVariables false
set_option linter.unusedSimpArgs false

theorem wN_size (o : Option Rat) : (wN o).size ≤ 401 ∧ (wD o).size ≤ 400 := by
  unfold wN wD
  cases o with
  | none => exact ⟨by decide, by decide⟩
  | some q =>
    dsimp only
    by_cases h : okQ q = true
    · rw [if_pos h, if_pos h]
      obtain ⟨h1, h2⟩ := (okQ_iff q).mp h
      have g1 := (tx_len (n := q.num.natAbs) (m := MD) (by decide)).mpr h1
      have g2 := (tx_len (n := q.den) (m := MD) (by decide)).mpr h2
      rw [MD_eq] at g1 g2
      unfold bN bD numTx denTx
      rw [bs_size, bs_size]
      refine ⟨?_, g2⟩
      split
      · rw [List.length_cons]; omega
      · omega
    · rw [if_neg h, if_neg h]; exact ⟨by decide, by decide⟩
theorem wO_valid (o : Option Rat) : (rdQ (wN o) (wD o)).isSome = wO o := by
  rw [rdQ_wV]
  cases o with
  | none => rfl
  | some q => unfold wO; dsimp only; by_cases h : okQ q = true <;> simp [h]
theorem validW_c (W : World) (o : Option Rat) : Calls Tryd.prog 23 #[.agg #[.string (wN o), .string (wD o)]] W fun e w' => e = .returned (.bool (wO o)) ∧ Below W.heap.size W w' := by
  rw [← wO_valid]
  exact valid_c W _ _ (by have := (wN_size o).1; omega)
theorem tmod40 (a : Int) : -40 < a.tmod 40 ∧ a.tmod 40 < 40 := by
  have h1 := Int.tmod_lt_of_pos a (show (0 : Int) < 40 by decide)
  have h2 := Int.tmod_lt_of_pos (-a) (show (0 : Int) < 40 by decide)
  rw [Int.neg_tmod] at h2
  omega
set_option maxHeartbeats 4000000 in
theorem forms_c (w : World) (N D : ByteArray) (n d a b : Int) (hN : N.size ≤ 140737488355328) (hD : D.size ≤ 140737488355328) (n0 : -9223372036854775808 ≤ n) (n1 : n ≤ 9223372036854775807) (d0 : -9223372036854775808 ≤ d) (d1 : d ≤ 9223372036854775807)
    (a0 : -32768 ≤ a) (a1 : a ≤ 32767) (b0 : -32768 ≤ b) (b1 : b ≤ 32767) :
    Calls Tryd.prog 4 #[.agg #[.string N, .string D], .int .i64 n, .int .i64 d, .int .i16 a, .int .i16 b] w fun e w' => e = .returned (.bool true) ∧ Below w.heap.size w w' := by
  have HB := Aside0.mk (below_alloc (Below.refl w.heap.size w) (Obj.cells #[Value.string N, Value.string D] 23))
  obtain ⟨o, ho, hp, hr⟩ : ∃ o, o = ofQ n d ∧ (∀ W, Calls Tryd.prog 21 #[.int .i64 n, .int .i64 d] W fun e w' => e = .returned (wV o) ∧ Below W.heap.size W w') ∧ (∀ W, Calls Tryd.prog 22 #[.int .i64 n, .int .i64 d] W fun e w' => e = .returned (wV o) ∧ Below W.heap.size W w') :=
    ⟨_, rfl, fun W => of_c W n d n0 n1 d0 d1, fun W => rof_c W n d n0 n1 d0 d1⟩
  clear ho
  have am0 := tmod40 a
  have bm0 := tmod40 b
  obtain ⟨o2, ho2, hp2, hr2⟩ : ∃ o, o = ofQ (a.tmod 40) (b.tmod 40) ∧ (∀ W, Calls Tryd.prog 21 #[.int .i64 (a.tmod 40), .int .i64 (b.tmod 40)] W fun e w' => e = .returned (wV o) ∧ Below W.heap.size W w') ∧ (∀ W, Calls Tryd.prog 22 #[.int .i64 (a.tmod 40), .int .i64 (b.tmod 40)] W fun e w' => e = .returned (wV o) ∧ Below W.heap.size W w') :=
    ⟨_, rfl, fun W => of_c W _ _ (by omega) (by omega) (by omega) (by omega), fun W => rof_c W _ _ (by omega) (by omega) (by omega) (by omega)⟩
  clear ho2 am0 bm0
  replace hp2 := Aside0.mk hp2
  replace hr2 := Aside0.mk hr2
  replace hp := Aside0.mk hp
  replace hr := Aside0.mk hr
  go_enter Tryd.func4, Tryd.ntmps4
  go_wp2_with fail
  refine afterV (awake_c _) ?_; intro w1 b1 z1 hc1 hf1; have y1 : w.heap.size < w1.heap.size := (by simp at z1; omega); have H1 := Aside0.mk (below_trans HB.out b1); clear b1 z1
  go_wp2_with fail
  all_goals try (refine bodyPost_ret (v := .bool true) (by simp [results, Tryd.results4, go_sem]) rfl ⟨rfl, H1.out⟩; done)
  refine afterW (hp.out _) ?_; intro w2 b2 z2 hc2 hf2; have y2 := Nat.lt_of_lt_of_le y1 z2; have H2 := Aside0.mk (below_trans H1.out b2); clear b2
  go_wp2_with fail
  refine afterW (hr.out _) ?_; intro w3 b3 z3 hc3 hf3; have y3 := Nat.lt_of_lt_of_le y2 (Nat.le_trans (Nat.le_add_right _ 1) (by simpa using z3)); have H3 := Aside0.mk (below_trans (below_alloc H2.out _) b3); clear b3
  have x3 : w2.heap.size < w3.heap.size := by simp at z3; omega
  go_wp2_with fail
  refine afterW (hp2.out _) ?_; intro w4 b4 z4 hc4 hf4; have x4 : w3.heap.size < w4.heap.size := (by simp at z4; omega); have y4 : w.heap.size < w4.heap.size := (by omega); have H4 := Aside0.mk (below_trans (below_alloc H3.out _) b4); clear b4
  go_wp2_with fail
  refine afterW (hr2.out _) ?_; intro w5 b5 z5 hc5 hf5; have x5 : w4.heap.size < w5.heap.size := (by simp at z5; omega); have y5 : w.heap.size < w5.heap.size := (by omega); have H5 := Aside0.mk (below_trans (below_alloc H4.out _) b5); clear b5
  go_upto_region 9 with fail
  have v3 : w2.heap.size < w4.heap.size := by omega
  have v4 : w2.heap.size < w5.heap.size := by omega
  have v5 : w3.heap.size < w5.heap.size := by omega
  refine region_letter ?_; intro W hW
  have BW : Below w5.heap.size w5 W := by rw [hW]; exact (by (repeat first | (with_reducible exact Below.refl _ _) | (with_reducible refine below_drew ?_) | (with_reducible refine below_alloc ?_ _) | ((with_reducible refine below_set ?_ ?hh); (case hh => omega))); done)
  have HW := Aside0.mk (below_trans H5.out BW)
  have k0 : W.cell? ⟨w.heap.size, 0, none⟩ = some (.string N) := by rw [hW]; simp [go_sem, hc1, hc2, hc3, hc4, hc5, y1, y2, y3, y4, y5]
  have k1 : W.cell? ⟨w.heap.size, 1, none⟩ = some (.string D) := by rw [hW]; simp [go_sem, hc1, hc2, hc3, hc4, hc5, y1, y2, y3, y4, y5]
  have x0 : W.cell? ⟨w2.heap.size, 0, none⟩ = some (.string (wN o)) := by rw [hW]; simp [go_sem, hc3, hc4, hc5, x3, v3, v4]
  have x1 : W.cell? ⟨w2.heap.size, 1, none⟩ = some (.string (wD o)) := by rw [hW]; simp [go_sem, hc3, hc4, hc5, x3, v3, v4]
  have p0 : W.cell? ⟨w3.heap.size, 0, none⟩ = some (.string (wN o)) := by rw [hW]; simp [go_sem, hc4, hc5, x4, v5]
  have p1 : W.cell? ⟨w3.heap.size, 1, none⟩ = some (.string (wD o)) := by rw [hW]; simp [go_sem, hc4, hc5, x4, v5]
  have q0 : W.cell? ⟨w4.heap.size, 0, none⟩ = some (.string (wN o2)) := by rw [hW]; simp [go_sem, hc5, x5]
  have q1 : W.cell? ⟨w4.heap.size, 1, none⟩ = some (.string (wD o2)) := by rw [hW]; simp [go_sem, hc5, x5]
  have r0 : W.cell? ⟨w5.heap.size, 0, none⟩ = some (.string (wN o2)) := by rw [hW]; simp [go_sem]
  have r1 : W.cell? ⟨w5.heap.size, 1, none⟩ = some (.string (wD o2)) := by rw [hW]; simp [go_sem]
  have t0 : w.heap.size < W.heap.size := by rw [hW]; simp; omega
  have t2 : w2.heap.size < W.heap.size := by rw [hW]; simp; omega
  have t3 : w3.heap.size < W.heap.size := by rw [hW]; simp; omega
  have t4 : w4.heap.size < W.heap.size := by rw [hW]; simp; omega
  have t5 : w5.heap.size < W.heap.size := by rw [hW]; simp
  clear hW BW hc1 hc2 hc3 hc4 hc5 hf1 hf2 hf3 hf4 hf5 z2 z3 z4 z5 y1 y2 y3 y4 y5 x3 x4 x5 v3 v4 v5
  have hu := fun (u : Ov W) b o (h : b < W.heap.size) => u.cell b o h
  refine wp_region_ov (by kernel_rfl) (by kernel_rfl) ?_
  repeat (go_big_quiet_step (first | (go_at_call 24; exact Ov.call (rvalid_c _ N D hN)) | (go_at_call_of 23 (Value.agg #[Value.string N, Value.string D]); exact Ov.call (valid_c _ N D hN)) | (go_at_call_of 23 (Value.agg #[Value.string (wN o), Value.string (wD o)]); exact Ov.call (validW_c _ o)) | (go_at_call_of 23 (Value.agg #[Value.string (wN o2), Value.string (wD o2)]); exact Ov.call (validW_c _ o2))))
  refine wpQuiet_nil ?_
  rintro _ ⟨u, rfl⟩
  go_wp2
  refine bodyPost_ret (v := .bool true) (by simp [results, Tryd.results4, go_sem]) rfl ⟨rfl, below_trans HW.out u.is⟩
end Go.Proofs.YtplpmndchdockaaDoor.M
