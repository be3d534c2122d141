import Derived.Test.YtplpmndchdockaaDoorLawOf
import Derived.Test.YtplpmndchdockaaDoorRefL
/-! RationalTells: the walk. -/
namespace Go.Proofs.YtplpmndchdockaaDoor.M
open Go Go.RowKit Go.Proofs.YtplpmndchdockaaDoorV.PrintWords
set_option autoImplicit false
set_option linter.unusedVariables false
set_option linter.unusedSimpArgs false

theorem ofL_w (a b : Int) (a0 : -9223372036854775808 ≤ a) (a1 : a ≤ 9223372036854775807) (b0 : -9223372036854775808 ≤ b) (b1 : b ≤ 9223372036854775807) : ∃ N D : ByteArray, N.size ≤ 140737488355328 ∧ ∀ W, Calls Tryd.prog 18 #[.int .i64 a, .int .i64 b] W fun e w' => e = .returned (.agg #[.string N, .string D]) ∧ Below W.heap.size W w' :=
  ⟨_, _, by have := (wN_size (ofL a b)).1; omega, fun W => ofL_c W a b a0 a1 b0 b1⟩
theorem tmod_bd' (a : Int) (m : Int) (hm : 0 < m) : -m < a.tmod m ∧ a.tmod m < m := by
  have h1 := Int.tmod_lt_of_pos a hm
  have h2 := Int.tmod_lt_of_pos (-a) hm
  rw [Int.neg_tmod] at h2
  omega
/-- The program and the reference answer alike. -/
def Alike (f g : FuncId) (N D N2 D2 : ByteArray) : Prop := ∃ (N3 D3 : ByteArray) (ok : Bool), (∀ W : World, Calls Tryd.prog f #[.agg #[.string N, .string D], .agg #[.string N2, .string D2]] W fun e w' => e = .returned (.tuple #[.agg #[.string N3, .string D3], .bool ok]) ∧ Below W.heap.size W w') ∧
  (∀ W : World, Calls Tryd.prog g #[.agg #[.string N, .string D], .agg #[.string N2, .string D2]] W fun e w' => e = .returned (.tuple #[.agg #[.string N3, .string D3], .bool ok]) ∧ Below W.heap.size W w')
theorem alikes {N D N2 D2 : ByteArray} (h : N.size ≤ 140737488355328) (h2 : N2.size ≤ 140737488355328) : Alike 27 28 N D N2 D2 ∧ Alike 29 32 N D N2 D2 ∧ Alike 25 26 N D N2 D2 ∧ Alike 30 33 N D N2 D2 :=
  ⟨⟨_, _, _, fun W => padd_c W N D N2 D2 h h2, fun W => qadd_c W N D N2 D2 h h2⟩, ⟨_, _, _, fun W => psub_c W N D N2 D2 h h2, fun W => qsub_c W N D N2 D2 h h2⟩, ⟨_, _, _, fun W => pmul_c W N D N2 D2 h h2, fun W => qmul_c W N D N2 D2 h h2⟩, ⟨_, _, _, fun W => pdiv_c W N D N2 D2 h h2, fun W => qdiv_c W N D N2 D2 h h2⟩⟩
abbrev Stw (W : World) (g : Nat) (N D : ByteArray) : Prop := W.cell? ⟨g, 0, none⟩ = some (.string N) ∧ W.cell? ⟨g, 1, none⟩ = some (.string D) ∧ W.frozen? ⟨g, 0, none⟩ = false ∧ W.frozen? ⟨g, 1, none⟩ = false ∧ g < W.heap.size
section
variable {W w1 : World} {g p j : Nat} {N D N' D' : ByteArray} {u : Value} {f : TypeId}
theorem Stw.on (h : Stw W g N D) (hb : Below W.heap.size W w1) : Stw w1 g N D := ⟨pw_cell_below hb h.1, pw_cell_below hb h.2.1, (hb.frozen (p := ⟨g, 0, none⟩) h.2.2.2.2).trans h.2.2.1, (hb.frozen (p := ⟨g, 1, none⟩) h.2.2.2.2).trans h.2.2.2.1, Nat.lt_of_lt_of_le h.2.2.2.2 hb.size⟩
theorem Stw.al (h : Stw W g N D) (o : Obj) : Stw (W.alloc o) g N D := h.on (below_alloc (Below.refl _ _) o)
theorem Stw.set (h : Stw W g N D) (hp : g ≠ p) : Stw (W.setCell ⟨p, j, none⟩ u) g N D := by
  refine ⟨cell_far h.1 (fun e => hp e.symm), cell_far h.2.1 (fun e => hp e.symm), ?_, ?_, by simpa using h.2.2.2.2⟩
  · simpa [go_sem] using h.2.2.1
  · simpa [go_sem] using h.2.2.2.1
theorem Stw.put (h : Stw W g N D) : Stw ((W.setCell ⟨g, 0, none⟩ (.string N')).setCell ⟨g, 1, none⟩ (.string D')) g N' D' := by
  obtain ⟨h1, h2, h3, h4, h5⟩ := h
  refine ⟨?_, ?_, ?_, ?_, ?_⟩ <;> simp [go_sem, h1, h2, h3, h4, h5]
theorem Stw.new : Stw (W.alloc (.cells #[.string N, .string D] f)) W.heap.size N D :=
  ⟨blk_cell (blk_new W _) 0, blk_cell (blk_new W _) 1, blk_frozen (blk_new W _) 0, blk_frozen (blk_new W _) 1, by simp⟩
end
set_option maxRecDepth 20000 in
set_option maxHeartbeats 8000000 in
theorem tells_c (w : World) (N D N0 D0 : ByteArray) (a b c d : Int) (hN : N.size ≤ 140737488355328) (hD : D.size ≤ 140737488355328) (hN0 : N0.size ≤ 140737488355328) (hD0 : D0.size ≤ 140737488355328) (a0 : -9223372036854775808 ≤ a) (a1 : a ≤ 9223372036854775807) (b0 : -9223372036854775808 ≤ b) (b1 : b ≤ 9223372036854775807)
    (c0 : -9223372036854775808 ≤ c) (c1 : c ≤ 9223372036854775807) (d0 : -9223372036854775808 ≤ d) (d1 : d ≤ 9223372036854775807) :
    Calls Tryd.prog 9 #[.agg #[.string N, .string D], .agg #[.string N0, .string D0], .int .i64 a, .int .i64 b, .int .i64 c, .int .i64 d] w fun e w' => e = .returned (.bool true) ∧ Below w.heap.size w w' := by
  have HB := Aside0.mk (below_alloc (below_alloc (Below.refl w.heap.size w) (Obj.cells #[Value.string N, Value.string D] 23)) (Obj.cells #[Value.string N0, Value.string D0] 23))
  obtain ⟨N1, D1, z1, F1⟩ := ofL_w a b a0 a1 b0 b1
  obtain ⟨N2, D2, z2, F2⟩ := ofL_w c d c0 c1 d0 d1
  have t1 := tmod_bd' a 100 (by decide)
  have t2 := tmod_bd' b 10 (by decide)
  have t3 := tmod_bd' c 100 (by decide)
  have t4 := tmod_bd' d 10 (by decide)
  obtain ⟨N3, D3, z3, F3⟩ := ofL_w (a.tmod 100) (b.tmod 10) (by omega) (by omega) (by omega) (by omega)
  obtain ⟨N4, D4, z4, F4⟩ := ofL_w (c.tmod 100) (d.tmod 10) (by omega) (by omega) (by omega) (by omega)
  clear t1 t2 t3 t4
  replace F1 := Aside0.mk F1
  replace F2 := Aside0.mk F2
  replace F3 := Aside0.mk F3
  replace F4 := Aside0.mk F4
  replace z1 := Aside0.mk z1
  replace z2 := Aside0.mk z2
  replace z3 := Aside0.mk z3
  replace z4 := Aside0.mk z4
  go_enter Tryd.func9, Tryd.ntmps9
  go_wp2_with fail
  refine afterV (awake_c _) ?_; intro w1 b1 zz1 hc1 hf1; have y1 : w.heap.size < w1.heap.size := (by simp at zz1; omega); have x1 : w.heap.size + 1 < w1.heap.size := (by simp at zz1; omega); have H1 := Aside0.mk (below_trans HB.out b1); clear b1 zz1
  go_upto_region 5 with fail
  all_goals try (refine bodyPost_ret (v := .bool true) (by simp [results, Tryd.results9, go_sem]) rfl ⟨rfl, H1.out⟩; done)
  have k0 : w1.cell? ⟨w.heap.size, 0, none⟩ = some (.string N) := by simp [go_sem, hc1, y1]
  have k1 : w1.cell? ⟨w.heap.size, 1, none⟩ = some (.string D) := by simp [go_sem, hc1, y1]
  have k2 : w1.cell? ⟨w.heap.size + 1, 0, none⟩ = some (.string N0) := by simp [go_sem, hc1, x1]
  have k3 : w1.cell? ⟨w.heap.size + 1, 1, none⟩ = some (.string D0) := by simp [go_sem, hc1, x1]
  clear hc1 hf1
  go_region_held3 (fun w' => Below w1.heap.size w1 w' ∧ ∀ b o, b < w1.heap.size → w'.cell? ⟨b, o, none⟩ = w1.cell? ⟨b, o, none⟩) (exact keepS (by (repeat first | (with_reducible exact Below.refl _ _) | (with_reducible exact Qb1) | (with_reducible exact Qb2) | (with_reducible exact Qb3) | (with_reducible exact Qb4) | (with_reducible exact Qb5) | (with_reducible refine below_drew ?_) | (with_reducible refine below_alloc ?_ _) | ((with_reducible refine below_set ?_ ?hh); (case hh => omega))); done))
    (first
      | (go_at_call 18; have := Qb4; clear this; refine afterOV (W := w1) (by (repeat first | (with_reducible exact Below.refl _ _) | (with_reducible exact Qb4) | (with_reducible refine below_drew ?_) | (with_reducible refine below_alloc ?_ _) | ((with_reducible refine below_set ?_ ?hh); (case hh => omega))); done) (F1.out _) ?_; intro x5 Qb5 c5 v5)
      | (go_at_call 18; have := Qb3; clear this; refine afterOV (W := w1) (by (repeat first | (with_reducible exact Below.refl _ _) | (with_reducible exact Qb3) | (with_reducible refine below_drew ?_) | (with_reducible refine below_alloc ?_ _) | ((with_reducible refine below_set ?_ ?hh); (case hh => omega))); done) (F4.out _) ?_; intro x4 Qb4 c4 v4)
      | (go_at_call 18; have := Qb2; clear this; refine afterOV (W := w1) (by (repeat first | (with_reducible exact Below.refl _ _) | (with_reducible exact Qb2) | (with_reducible refine below_drew ?_) | (with_reducible refine below_alloc ?_ _) | ((with_reducible refine below_set ?_ ?hh); (case hh => omega))); done) (F3.out _) ?_; intro x3 Qb3 c3 v3)
      | (go_at_call 18; have := Qb1; clear this; refine afterOV (W := w1) (by (repeat first | (with_reducible exact Below.refl _ _) | (with_reducible exact Qb1) | (with_reducible refine below_drew ?_) | (with_reducible refine below_alloc ?_ _) | ((with_reducible refine below_set ?_ ?hh); (case hh => omega))); done) (F2.out _) ?_; intro x2 Qb2 c2 v2)
      | (go_at_call 18; refine afterOV (W := w1) (by (repeat first | (with_reducible exact Below.refl _ _) | (with_reducible refine below_drew ?_) | (with_reducible refine below_alloc ?_ _) | ((with_reducible refine below_set ?_ ?hh); (case hh => omega))); done) (F1.out _) ?_; intro x1' Qb1 c1' v1))
  go_wp2_with fail
  refine wp_letter ?_; intro W hW
  have hl : ∀ k : Nat, k < 4 → ∃ N' D' N2' D2' : ByteArray, N'.size ≤ 140737488355328 ∧ N2'.size ≤ 140737488355328 ∧ W.cell? ⟨x5.heap.size, k * 4, none⟩ = some (.string N') ∧ W.cell? ⟨x5.heap.size, k * 4 + 1, none⟩ = some (.string D') ∧ W.cell? ⟨x5.heap.size, k * 4 + 2, none⟩ = some (.string N2') ∧ W.cell? ⟨x5.heap.size, k * 4 + 3, none⟩ = some (.string D2') := by
    intro k hk
    match k, hk with
    | 0, _ => exact ⟨N, D, N0, D0, hN, hN0, by rw [hW]; simp [go_sem], by rw [hW]; simp [go_sem], by rw [hW]; simp [go_sem], by rw [hW]; simp [go_sem]⟩
    | 1, _ => exact ⟨N1, D1, N2, D2, z1.out, z2.out, by rw [hW]; simp [go_sem], by rw [hW]; simp [go_sem], by rw [hW]; simp [go_sem], by rw [hW]; simp [go_sem]⟩
    | 2, _ => exact ⟨N3, D3, N4, D4, z3.out, z4.out, by rw [hW]; simp [go_sem], by rw [hW]; simp [go_sem], by rw [hW]; simp [go_sem], by rw [hW]; simp [go_sem]⟩
    | 3, _ => exact ⟨N1, D1, N0, D0, z1.out, hN0, by rw [hW]; simp [go_sem], by rw [hW]; simp [go_sem], by rw [hW]; simp [go_sem], by rw [hW]; simp [go_sem]⟩
  have BW : Below x5.heap.size x5 W := by rw [hW]; exact (by (repeat first | (with_reducible exact Below.refl _ _) | (with_reducible refine below_drew ?_) | (with_reducible refine below_alloc ?_ _) | ((with_reducible refine below_set ?_ ?hh); (case hh => omega))); done)
  have HW := Aside0.mk (below_trans H1.out (below_trans Qb5 BW))
  have g1 : x5.heap.size < W.heap.size := by rw [hW]; simp
  replace hl := Aside0.mk hl
  clear hW BW c1' c2 c3 c4 c5 Qb1 Qb2 Qb3 Qb4 Qb5 v1 v2 v3 v4 v5 k0 k1 k2 k3 y1 x1
  go_loopw [14] (fun i wr => ∃ k : Nat, k ≤ 4 ∧ i = .int .i64 (k : Int) ∧ Below W.heap.size W wr) (fun i _ => 4 - (intOf i).toNat)
  case atStart => exact ⟨0, by omega, rfl, Below.refl _ _⟩
  case round =>
    obtain ⟨k, hk, rfl, hB⟩ := hrel
    obtain ⟨N', D', N2', D2', s1, s2, l0, l1, l2, l3⟩ : ∃ N' D' N2' D2' : ByteArray, N'.size ≤ 140737488355328 ∧ N2'.size ≤ 140737488355328 ∧ (k < 4 → wr.cell? ⟨x5.heap.size, k * 4, none⟩ = some (.string N')) ∧ (k < 4 → wr.cell? ⟨x5.heap.size, k * 4 + 1, none⟩ = some (.string D')) ∧ (k < 4 → wr.cell? ⟨x5.heap.size, k * 4 + 2, none⟩ = some (.string N2')) ∧ (k < 4 → wr.cell? ⟨x5.heap.size, k * 4 + 3, none⟩ = some (.string D2')) := by
      by_cases h : k < 4
      · obtain ⟨N', D', N2', D2', s1, s2, l0, l1, l2, l3⟩ := hl.out k h
        exact ⟨N', D', N2', D2', s1, s2, fun _ => pw_cell_below hB l0, fun _ => pw_cell_below hB l1, fun _ => pw_cell_below hB l2, fun _ => pw_cell_below hB l3⟩
      · exact ⟨⟨#[]⟩, ⟨#[]⟩, ⟨#[]⟩, ⟨#[]⟩, by decide, by decide, fun hc => absurd hc h, fun hc => absurd hc h, fun hc => absurd hc h, fun hc => absurd hc h⟩
    obtain ⟨⟨Na, Da, oa, A1, A2⟩, ⟨Nb, Db, ob, B1', B2'⟩, ⟨Nc, Dc, oc, C1, C2⟩, ⟨Nd, Dd, od, E1, E2⟩⟩ := alikes (D := D') (D2 := D2') s1 s2
    obtain ⟨n, G1, G2⟩ : ∃ n : Int, (∀ W : World, Calls Tryd.prog 31 #[.agg #[.string N', .string D'], .agg #[.string N2', .string D2']] W fun e w' => e = .returned (.int .i64 n) ∧ Below W.heap.size W w') ∧ (∀ W : World, Calls Tryd.prog 34 #[.agg #[.string N', .string D'], .agg #[.string N2', .string D2']] W fun e w' => e = .returned (.int .i64 n) ∧ Below W.heap.size W w') := ⟨_, fun W => pcmp_c W _ _ _ _ s1 s2, fun W => qcmp_c W _ _ _ _ s1 s2⟩
    clear s1 s2
    replace A1 := Aside0.mk A1
    replace A2 := Aside0.mk A2
    replace B1' := Aside0.mk B1'
    replace B2' := Aside0.mk B2'
    replace C1 := Aside0.mk C1
    replace C2 := Aside0.mk C2
    replace E1 := Aside0.mk E1
    replace E2 := Aside0.mk E2
    replace G1 := Aside0.mk G1
    replace G2 := Aside0.mk G2
    have gw := Nat.lt_of_lt_of_le g1 hB.size
    have hB' := Aside0.mk hB
    replace l0 := Aside0.mk l0
    replace l1 := Aside0.mk l1
    replace l2 := Aside0.mk l2
    replace l3 := Aside0.mk l3
    clear hB
    go_upto_region 9 with fail
    · have hlt : (k : Int) < 4 := by assumption
      have m0 := l0.out (by omega)
      have m1 := l1.out (by omega)
      have m2 := l2.out (by omega)
      have m3 := l3.out (by omega)
      clear l0 l1 l2 l3
      go_cut [15, 16] (fun s15 s16 wx => ∃ g15 g16, s15 = .pointer (some ⟨g15, 0, none⟩) ∧ s16 = .pointer (some ⟨g16, 0, none⟩) ∧ g15 ≠ g16 ∧ Aside0 (Stw wx g15 N' D' ∧ Stw wx g16 N2' D2' ∧ Below wr.heap.size wr wx))
      case first =>
        go_region
        all_goals
          go_wp2_with fail
          go_meet
          refine ⟨_, _, rfl, rfl, by omega, ⟨⟨by simp [go_sem], by simp [go_sem], by simp [go_sem], by simp [go_sem], by first | (simp; done) | (simp; omega)⟩, ⟨by simp [go_sem], by simp [go_sem], by simp [go_sem], by simp [go_sem], by first | (simp; done) | (simp; omega)⟩, ?_⟩⟩
          repeat first | (with_reducible exact Below.refl _ _) | (with_reducible refine below_drew ?_) | (with_reducible refine below_alloc ?_ _) | (with_reducible refine below_set ?_ (by omega))
      case rest =>
        obtain ⟨g15, g16, rfl, rfl, n0, hx⟩ := hcut
        obtain ⟨sx, sy, hC⟩ := hx.out
        clear m0 m1 m2 m3 hx
        have H := Aside0.mk hC
        clear hC
        go_wp2_with fail
        refine afterV (A1.out _) ?_; intro v2 b z _ _
        replace sx := sx.on b
        replace sy := sy.on b
        replace H := Aside0.mk (below_trans H.out b)
        clear b z
        have n1 : g15 ≠ v2.heap.size := by have := sx.2.2.2.2; omega
        have n2 : g16 ≠ v2.heap.size := by have := sy.2.2.2.2; omega
        have hp := H.out.size
        go_wp2_with fail
        refine afterV (A2.out _) ?_; intro v3 b z _ _
        replace sx := (sx.al _).on b
        replace sy := (sy.al _).on b
        have sp := Stw.new.on b
        replace H := Aside0.mk (below_trans (below_alloc H.out _) b)
        clear b z
        have n3 : g15 ≠ v3.heap.size := by have := sx.2.2.2.2; omega
        have n4 : g16 ≠ v3.heap.size := by have := sy.2.2.2.2; omega
        have n5 : v2.heap.size ≠ v3.heap.size := by have := sp.2.2.2.2; omega
        have hq := H.out.size
        go_wp2_with fail
        refine afterV (B1'.out _) ?_; intro v4 b z _ _
        replace sx := (sx.al _).on b
        replace sy := (sy.al _).on b
        replace sp := (sp.al _).on b
        have sq := Stw.new.on b
        replace H := Aside0.mk (below_trans (below_alloc H.out _) b)
        clear b z
        go_wp2_with fail
        refine afterV (B2'.out _) ?_; intro v5 b z _ _
        replace sx := ((sx.set n1).set n1).on b
        replace sy := ((sy.set n2).set n2).on b
        replace sp := (Stw.put sp).on b
        replace sq := ((sq.set n5.symm).set n5.symm).on b
        replace H := Aside0.mk (below_trans (below_set (below_set H.out hp) hp) b)
        clear b z
        go_wp2_with fail
        refine afterV (C1.out _) ?_; intro v6 b z _ _
        replace sx := ((sx.set n3).set n3).on b
        replace sy := ((sy.set n4).set n4).on b
        replace sq := (Stw.put sq).on b
        replace sp := ((sp.set n5).set n5).on b
        replace H := Aside0.mk (below_trans (below_set (below_set H.out hq) hq) b)
        clear b z
        go_wp2_with fail
        refine afterV (C2.out _) ?_; intro v7 b z _ _
        replace sx := ((sx.set n1).set n1).on b
        replace sy := ((sy.set n2).set n2).on b
        replace sp := (Stw.put sp).on b
        replace sq := ((sq.set n5.symm).set n5.symm).on b
        replace H := Aside0.mk (below_trans (below_set (below_set H.out hp) hp) b)
        clear b z
        go_wp2_with fail
        refine afterV (E1.out _) ?_; intro v8 b z _ _
        replace sx := ((sx.set n3).set n3).on b
        replace sy := ((sy.set n4).set n4).on b
        replace sq := (Stw.put sq).on b
        replace sp := ((sp.set n5).set n5).on b
        replace H := Aside0.mk (below_trans (below_set (below_set H.out hq) hq) b)
        clear b z
        go_wp2_with fail
        refine afterV (E2.out _) ?_; intro v9 b z _ _
        replace sx := ((sx.set n1).set n1).on b
        replace sy := ((sy.set n2).set n2).on b
        replace sp := (Stw.put sp).on b
        replace sq := ((sq.set n5.symm).set n5.symm).on b
        replace H := Aside0.mk (below_trans (below_set (below_set H.out hp) hp) b)
        clear b z
        go_upto_region 24 with fail
        refine region_letter ?_; intro V hV
        have sx' := (sx.set n3 (j := 0) (u := .string Nd)).set n3 (j := 1) (u := .string Dd)
        have sy' := (sy.set n4 (j := 0) (u := .string Nd)).set n4 (j := 1) (u := .string Dd)
        have sq' := Stw.put (N' := Nd) (D' := Dd) sq
        have sp' := (sp.set n5 (j := 0) (u := .string Nd)).set n5 (j := 1) (u := .string Dd)
        have H' := Aside0.mk (below_set (below_set H.out hq (j := 0) (v := .string Nd)) hq (j := 1) (v := .string Dd))
        rw [← hV] at sx' sy' sq' sp' H'
        clear hV sx sy sp sq H
        have hov := fun (v : Ov V) b o (h : b < V.heap.size) => v.cell b o h
        refine wp_region_ov (by kernel_rfl) (by kernel_rfl) ?_
        repeat (go_big_quiet_step (first | (go_at_call 31; exact Ov.call (G1.out _)) | (go_at_call 34; exact Ov.call (G2.out _))))
        refine wpQuiet_nil ?_
        rintro _ ⟨v, rfl⟩
        clear hov
        replace H' := Aside0.mk (below_trans H'.out v.is)
        generalize v.out = vv at *
        clear v sx' sy' sp' sq'
        go_wp2_with fail
        exact ⟨⟨k + 1, by omega, rfl, below_trans hB'.out H'.out⟩, by simp [intOf]; omega⟩
    · refine bodyPost_ret (v := .bool true) (by simp [results, Tryd.results9, go_sem]) rfl ⟨rfl, below_trans HW.out hB'.out⟩
end Go.Proofs.YtplpmndchdockaaDoor.M
