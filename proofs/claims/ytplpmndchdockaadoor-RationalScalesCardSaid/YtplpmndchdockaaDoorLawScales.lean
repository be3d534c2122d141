import Derived.Test.YtplpmndchdockaaDoorLawOf
import Derived.Test.YtplpmndchdockaaDoorRefG
/-! RationalScales: the walk. -/
namespace Go.Proofs.YtplpmndchdockaaDoor.M
open Go Go.RowKit Go.Proofs.YtplpmndchdockaaDoorV.PrintWords
set_option autoImplicit false
set_option linter.unusedVariables false
set_option linter.unusedSimpArgs false

theorem ofL_v (a b : Int) (a0 : -9223372036854775808 ≤ a) (a1 : a ≤ 9223372036854775807) (b0 : -9223372036854775808 ≤ b) (b1 : b ≤ 9223372036854775807) : ∃ N D : ByteArray, N.size ≤ 140737488355328 ∧ (∃ o, N = wN o ∧ D = wD o) ∧ ∀ W, Calls Tryd.prog 18 #[.int .i64 a, .int .i64 b] W fun e w' => e = .returned (.agg #[.string N, .string D]) ∧ Below W.heap.size W w' :=
  ⟨_, _, by have := (wN_size (ofL a b)).1; omega, ⟨_, rfl, rfl⟩, fun W => ofL_c W a b a0 a1 b0 b1⟩
theorem tmod_bd (a : Int) (m : Int) (hm : 0 < m) : -m < a.tmod m ∧ a.tmod m < m := by
  have h1 := Int.tmod_lt_of_pos a hm
  have h2 := Int.tmod_lt_of_pos (-a) hm
  rw [Int.neg_tmod] at h2
  omega
theorem scales_v (N D : ByteArray) (u : Int) (hN : N.size ≤ 140737488355328) (u0 : -9223372036854775808 ≤ u) (u1 : u ≤ 9223372036854775807) : ∃ x y z, (z = false ∨ (z = true ∧ y = x) ∨ (z = true ∧ y - x = 1)) ∧ (-2305843009213693952 ≤ x ∧ x ≤ 2305843009213693952) ∧
    (∀ W : World, Calls Tryd.prog 19 #[.agg #[.string N, .string D], .int .i64 u] W fun e w' => e = .returned (.tuple #[.int .i64 x, .int .i64 y, .bool z]) ∧ Below W.heap.size W w') ∧ (∀ W : World, Calls Tryd.prog 20 #[.agg #[.string N, .string D], .int .i64 u] W fun e w' => e = .returned (.tuple #[.int .i64 x, .int .i64 y, .bool z]) ∧ Below W.heap.size W w') := by
  have h1 := scQ_near (rdQ N D) u
  have h2 := scQ_range (rdQ N D) u
  refine ⟨(scQ (rdQ N D) u).1, (scQ (rdQ N D) u).2.1, (scQ (rdQ N D) u).2.2, ?_, ⟨h2.1, h2.2.1⟩, fun W => scale_c W N D u hN u0 u1, fun W => rscale_c W N D u hN u0 u1⟩
  cases hz : (scQ (rdQ N D) u).2.2 with
  | false => exact .inl rfl
  | true =>
    rcases h1 hz with h | h
    · exact .inr (.inl ⟨rfl, by omega⟩)
    · exact .inr (.inr ⟨rfl, by omega⟩)
set_option maxRecDepth 20000 in
set_option maxHeartbeats 4000000 in
theorem scales_c (w : World) (N D : ByteArray) (a b u s : Int) (hN : N.size ≤ 140737488355328) (hD : D.size ≤ 140737488355328) (a0 : -9223372036854775808 ≤ a) (a1 : a ≤ 9223372036854775807) (b0 : -9223372036854775808 ≤ b) (b1 : b ≤ 9223372036854775807)
    (u0 : -9223372036854775808 ≤ u) (u1 : u ≤ 9223372036854775807) (s0 : 0 ≤ s) (s1 : s ≤ 255) :
    Calls Tryd.prog 3 #[.agg #[.string N, .string D], .int .i64 a, .int .i64 b, .int .i64 u, .int .u8 s] w fun e w' => e = .returned (.bool true) ∧ Below w.heap.size w w' := by
  have HB := Aside0.mk (below_alloc (Below.refl w.heap.size w) (Obj.cells #[Value.string N, Value.string D] 23))
  obtain ⟨N1, D1, z1, -, F1⟩ := ofL_v a b a0 a1 b0 b1
  have t1 := tmod_bd a 1000 (by decide)
  have t2 := tmod_bd b 50 (by decide)
  obtain ⟨N2, D2, z2, -, F2⟩ := ofL_v (a.tmod 1000) (b.tmod 50) (by omega) (by omega) (by omega) (by omega)
  obtain ⟨N3, D3, z3, -, F3⟩ := ofL_v 2305843009213693952 1 (by omega) (by omega) (by omega) (by omega)
  obtain ⟨N4, D4, z4, -, F4⟩ := ofL_v 2305843009213693953 1 (by omega) (by omega) (by omega) (by omega)
  obtain ⟨N5, D5, z5, -, F5⟩ := ofL_v (-2305843009213693952) 1 (by omega) (by omega) (by omega) (by omega)
  obtain ⟨N6, D6, z6, -, F6⟩ := ofL_v (-2305843009213693953) 1 (by omega) (by omega) (by omega) (by omega)
  clear t1 t2
  replace F1 := Aside0.mk F1
  replace F2 := Aside0.mk F2
  replace F3 := Aside0.mk F3
  replace F4 := Aside0.mk F4
  replace F5 := Aside0.mk F5
  replace F6 := Aside0.mk F6
  replace z1 := Aside0.mk z1
  replace z2 := Aside0.mk z2
  replace z3 := Aside0.mk z3
  replace z4 := Aside0.mk z4
  replace z5 := Aside0.mk z5
  replace z6 := Aside0.mk z6
  go_enter Tryd.func3, Tryd.ntmps3
  go_wp2_with fail
  refine afterV (awake_c _) ?_; intro w1 b1 z1 hc1 hf1; have y1 : w.heap.size < w1.heap.size := (by simp at z1; omega); have H1 := Aside0.mk (below_trans HB.out b1); clear b1 z1
  go_upto_region 5 with fail
  all_goals try (refine bodyPost_ret (v := .bool true) (by simp [results, Tryd.results3, go_sem]) rfl ⟨rfl, H1.out⟩; done)
  have k0 : w1.cell? ⟨w.heap.size, 0, none⟩ = some (.string N) := by simp [go_sem, hc1, y1]
  have k1 : w1.cell? ⟨w.heap.size, 1, none⟩ = some (.string D) := by simp [go_sem, hc1, y1]
  clear hc1 hf1
  go_region_held3 (fun w' => Below w1.heap.size w1 w' ∧ ∀ b o, b < w1.heap.size → w'.cell? ⟨b, o, none⟩ = w1.cell? ⟨b, o, none⟩) (exact keepS (by (repeat first | (with_reducible exact Below.refl _ _) | (with_reducible exact Qb1) | (with_reducible exact Qb2) | (with_reducible exact Qb3) | (with_reducible exact Qb4) | (with_reducible exact Qb5) | (with_reducible exact Qb6) | (with_reducible refine below_drew ?_) | (with_reducible refine below_alloc ?_ _) | ((with_reducible refine below_set ?_ ?hh); (case hh => omega))); done))
    (first
      | (go_at_call 18; have := Qb5; clear this; refine afterOV (W := w1) (by (repeat first | (with_reducible exact Below.refl _ _) | (with_reducible exact Qb5) | (with_reducible refine below_drew ?_) | (with_reducible refine below_alloc ?_ _) | ((with_reducible refine below_set ?_ ?hh); (case hh => omega))); done) (F6.out _) ?_; intro x6 Qb6 c6 v6)
      | (go_at_call 18; have := Qb4; clear this; refine afterOV (W := w1) (by (repeat first | (with_reducible exact Below.refl _ _) | (with_reducible exact Qb4) | (with_reducible refine below_drew ?_) | (with_reducible refine below_alloc ?_ _) | ((with_reducible refine below_set ?_ ?hh); (case hh => omega))); done) (F5.out _) ?_; intro x5 Qb5 c5 v5)
      | (go_at_call 18; have := Qb3; clear this; refine afterOV (W := w1) (by (repeat first | (with_reducible exact Below.refl _ _) | (with_reducible exact Qb3) | (with_reducible refine below_drew ?_) | (with_reducible refine below_alloc ?_ _) | ((with_reducible refine below_set ?_ ?hh); (case hh => omega))); done) (F4.out _) ?_; intro x4 Qb4 c4 v4)
      | (go_at_call 18; have := Qb2; clear this; refine afterOV (W := w1) (by (repeat first | (with_reducible exact Below.refl _ _) | (with_reducible exact Qb2) | (with_reducible refine below_drew ?_) | (with_reducible refine below_alloc ?_ _) | ((with_reducible refine below_set ?_ ?hh); (case hh => omega))); done) (F3.out _) ?_; intro x3 Qb3 c3 v3)
      | (go_at_call 18; have := Qb1; clear this; refine afterOV (W := w1) (by (repeat first | (with_reducible exact Below.refl _ _) | (with_reducible exact Qb1) | (with_reducible refine below_drew ?_) | (with_reducible refine below_alloc ?_ _) | ((with_reducible refine below_set ?_ ?hh); (case hh => omega))); done) (F2.out _) ?_; intro x2 Qb2 c2 v2)
      | (go_at_call 18; refine afterOV (W := w1) (by (repeat first | (with_reducible exact Below.refl _ _) | (with_reducible refine below_drew ?_) | (with_reducible refine below_alloc ?_ _) | ((with_reducible refine below_set ?_ ?hh); (case hh => omega))); done) (F1.out _) ?_; intro x1 Qb1 c1 v1))
  go_wp2_with fail
  refine wp_letter ?_; intro W hW
  have hl : ∀ k : Nat, k < 7 → ∃ N' D' : ByteArray, N'.size ≤ 140737488355328 ∧ W.cell? ⟨x6.heap.size, k * 2, none⟩ = some (.string N') ∧ W.cell? ⟨x6.heap.size, k * 2 + 1, none⟩ = some (.string D') := by
    intro k hk
    match k, hk with
    | 0, _ => exact ⟨N, D, hN, by rw [hW]; simp [go_sem], by rw [hW]; simp [go_sem]⟩
    | 1, _ => exact ⟨N1, D1, z1.out, by rw [hW]; simp [go_sem], by rw [hW]; simp [go_sem]⟩
    | 2, _ => exact ⟨N2, D2, z2.out, by rw [hW]; simp [go_sem], by rw [hW]; simp [go_sem]⟩
    | 3, _ => exact ⟨N3, D3, z3.out, by rw [hW]; simp [go_sem], by rw [hW]; simp [go_sem]⟩
    | 4, _ => exact ⟨N4, D4, z4.out, by rw [hW]; simp [go_sem], by rw [hW]; simp [go_sem]⟩
    | 5, _ => exact ⟨N5, D5, z5.out, by rw [hW]; simp [go_sem], by rw [hW]; simp [go_sem]⟩
    | 6, _ => exact ⟨N6, D6, z6.out, by rw [hW]; simp [go_sem], by rw [hW]; simp [go_sem]⟩
  have hu : ∀ m : Nat, m < 4 → ∃ u' : Int, -9223372036854775808 ≤ u' ∧ u' ≤ 9223372036854775807 ∧ W.cell? ⟨x6.heap.size + 1, m, none⟩ = some (.int .i64 u') := by
    intro m hm
    match m, hm with
    | 0, _ => exact ⟨u, by omega, by omega, by rw [hW]; simp [go_sem]⟩
    | 1, _ => exact ⟨1, by omega, by omega, by rw [hW]; simp [go_sem]⟩
    | 2, _ => exact ⟨s, by omega, by omega, by rw [hW]; simp [go_sem]⟩
    | 3, _ => exact ⟨4294967296, by omega, by omega, by rw [hW]; simp [go_sem]⟩
  have BW : Below x6.heap.size x6 W := by rw [hW]; exact (by (repeat first | (with_reducible exact Below.refl _ _) | (with_reducible refine below_drew ?_) | (with_reducible refine below_alloc ?_ _) | ((with_reducible refine below_set ?_ ?hh); (case hh => omega))); done)
  have HW := Aside0.mk (below_trans H1.out (below_trans Qb6 BW))
  have g1 : x6.heap.size < W.heap.size := by rw [hW]; simp; omega
  have g2 : x6.heap.size + 1 < W.heap.size := by rw [hW]; simp
  replace hl := Aside0.mk hl
  replace hu := Aside0.mk hu
  clear hW BW c1 c2 c3 c4 c5 c6 Qb1 Qb2 Qb3 Qb4 Qb5 Qb6 v1 v2 v3 v4 v5 v6 k0 k1 y1
  go_loopw [13] (fun i wr => ∃ k : Nat, k ≤ 7 ∧ i = .int .i64 (k : Int) ∧ Below W.heap.size W wr) (fun i _ => 7 - (intOf i).toNat)
  case atStart => exact ⟨0, by omega, rfl, Below.refl _ _⟩
  case round =>
    obtain ⟨k, hk, rfl, hB⟩ := hrel
    replace hB := Aside0.mk hB
    go_wp2_with fail
    · have hlt : (k : Int) < 7 := by assumption
      obtain ⟨wo, hwo⟩ : ∃ wo : World, wo = wr := ⟨_, rfl⟩
      rw [← hwo] at hB ⊢
      clear hwo wr
      go_loopw [14] (fun j wi => ∃ m : Nat, m ≤ 4 ∧ j = .int .i64 (m : Int) ∧ Below W.heap.size W wi) (fun j _ => 4 - (intOf j).toNat)
      case atStart => exact ⟨0, by omega, rfl, hB.out⟩
      case round =>
        obtain ⟨m, hm, rfl, hI⟩ := hrel
        obtain ⟨N', D', hN', l0, l1⟩ := hl.out k (by omega)
        go_wp2_with fail
        · have hmt : (m : Int) < 4 := by assumption
          obtain ⟨u', u0', u1', l2⟩ := hu.out m (by omega)
          replace l0 := pw_cell_below hI l0
          replace l1 := pw_cell_below hI l1
          replace l2 := pw_cell_below hI l2
          have i1 := Nat.lt_of_lt_of_le g1 hI.size
          have i2 := Nat.lt_of_lt_of_le g2 hI.size
          replace hI := Aside0.mk hI
          obtain ⟨x, y, z, hz, hx, A1, A2⟩ := scales_v N' D' u' hN' u0' u1'
          replace A1 := Aside0.mk A1
          replace A2 := Aside0.mk A2
          replace hz := Aside0.mk hz
          replace hx := Aside0.mk hx
          have hov := fun (v : Ov wr) b o (h : b < wr.heap.size) => v.cell b o h
          refine wp_region_ov (by kernel_rfl) (by kernel_rfl) ?_
          repeat (go_big_quiet_step (first | (go_at_call 19; exact Ov.call (A1.out _))))
          refine wpQuiet_nil ?_
          rintro _ ⟨v, rfl⟩
          clear hov
          replace l0 := pw_cell_below v.is l0
          replace l1 := pw_cell_below v.is l1
          replace l2 := pw_cell_below v.is l2
          replace i1 := Nat.lt_of_lt_of_le i1 v.is.size
          replace i2 := Nat.lt_of_lt_of_le i2 v.is.size
          replace hI := Aside0.mk (below_trans hI.out v.is)
          generalize v.out = wv at *
          clear v
          go_upto_region 14 with fail
          have hov := fun (v : Ov wv) b o (h : b < wv.heap.size) => v.cell b o h
          refine wp_region_ov (by kernel_rfl) (by kernel_rfl) ?_
          repeat (go_big_quiet_step (first | (go_at_call 20; exact Ov.call (A2.out _))))
          refine wpQuiet_nil ?_
          rintro _ ⟨v, rfl⟩
          clear hov
          replace hI := Aside0.mk (below_trans hI.out v.is)
          generalize v.out = ww at *
          clear v l0 l1 l2 i1 i2 A1 A2 hN'
          rcases hz.out with rfl | ⟨rfl, rfl⟩ | ⟨rfl, hyx⟩
          all_goals
            clear hz
            go_wp2_with fail
            first
              | exact ⟨⟨m + 1, by omega, rfl, hI.out⟩, by simp [intOf]; omega⟩
              | (go_roundw; exact ⟨⟨m + 1, by omega, rfl, hI.out⟩, by simp [intOf]; omega⟩)
        · have hmt : 4 ≤ (m : Int) := by assumption
          first
            | exact ⟨⟨k + 1, by omega, rfl, hI⟩, by simp [intOf]; omega⟩
            | (trace_state; fail)
    · refine bodyPost_ret (v := .bool true) (by simp [results, Tryd.results3, go_sem]) rfl ⟨rfl, below_trans HW.out hB.out⟩
end Go.Proofs.YtplpmndchdockaaDoor.M
