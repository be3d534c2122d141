import Derived.Test.YtplpmndchdockaaDoorRefB
import Derived.Test.YtplpmndchdockaaDoorRdQ
/-! The reference's fractions: Read. -/
namespace Go.Proofs.YtplpmndchdockaaDoor.M
open Go Go.RowKit Go.Proofs.YtplpmndchdockaaDoorV.PrintWords
set_option autoImplicit false
set_option linter.unusedVariables false
set_option linter.unusedSimpArgs false

theorem mB_at {N : ByteArray} (h : 0 < N.size) : (((N[0]'h).toNat : Int) == 45) = mB N := by
  unfold mB
  have h1 : (cs N).head? = some ((N[0]'h).toNat : Int) := by
    unfold cs
    rw [List.head?_map, List.head?_eq_getElem?, List.getElem?_eq_getElem (by simpa using h)]
    rfl
  rw [h1, Bool.eq_iff_iff, beq_iff_eq, decide_eq_true_iff]
  simp
theorem mB_nil {N : ByteArray} (h : ¬ 0 < N.size) : mB N = false := by
  unfold mB
  have : cs N = [] := List.length_eq_zero_iff.mp (by rw [cs_length]; omega)
  rw [this]; rfl
theorem cmp_gcd {d n : Nat} (hd : d ≠ 0) : Nat.gcd d n = 1 ↔ rcmpI ((d / Nat.gcd d n : Nat) : Int) (d : Int) = 0 := by
  have h1 : rcmpI ((d / Nat.gcd d n : Nat) : Int) (d : Int) = 0 ↔ d / Nat.gcd d n = d := by
    unfold rcmpI
    constructor
    · intro h; repeat' split at h
      all_goals first | omega | cases h
    · intro h; rw [h, if_neg (by omega), if_pos rfl]
  rw [h1]
  constructor
  · intro h; rw [h, Nat.div_one]
  · intro h
    have := Nat.div_mul_cancel (Nat.gcd_dvd_left d n)
    rw [h] at this
    exact Nat.eq_of_mul_eq_mul_left (Nat.pos_of_ne_zero hd) (by omega)
theorem Rm.num {s : ByteArray} (h : dgB (cs s) = true) : Rm (numOf (cs s)).toNat := by
  obtain ⟨h1, h2⟩ := (dgB_iff _).mp h
  have h3 := numOf_lt (l := cs s) h1.dig
  have h4 := numOf_nonneg (l := cs s) h1.dig
  have e : (((10 ^ (cs s).length : Nat)) : Int) = (10 : Int) ^ (cs s).length := by rw [Int.natCast_pow]; rfl
  have h5 : (10 : Nat) ^ (cs s).length ≤ 2 ^ RX := by
    refine Nat.le_trans (Nat.pow_le_pow_left (show 10 ≤ 2 ^ 4 by decide) _) ?_
    rw [← Nat.pow_mul]
    exact Nat.pow_le_pow_right (by decide) (by unfold RX; omega)
  exact ⟨Nat.lt_of_lt_of_le (by omega) h5⟩
theorem form_parts {N D : ByteArray} (h : fmB N D = true) : ∃ n d : Nat, (∀ W, Calls Tryd.prog 117 #[.string (aft N)] W (RetN 4294967296 W.heap.size n W)) ∧ (∀ W, Calls Tryd.prog 117 #[.string D] W (RetN 4294967296 W.heap.size d W)) ∧ d ≠ 0 ∧ Rm n ∧ Rm d ∧ rdQ N D = (if Nat.gcd d n = 1 then some (fr (mB N) n d) else none) := by
  obtain ⟨hd1, hd2, hd0⟩ := form_den h
  refine ⟨_, _, fun W => rparse_c W (aft N) hd1, fun W => rparse_c W D hd2, hd0, Rm.num hd1, Rm.num hd2, ?_⟩
  unfold rdQ
  by_cases hg : Nat.gcd (numOf (cs D)).toNat (numOf (cs (aft N))).toNat = 1
  · rw [if_pos ⟨h, hg⟩, if_pos hg]
  · rw [if_neg (fun hc => hg hc.2), if_neg hg]
set_option maxHeartbeats 8000000 in
theorem rread_c (w : World) (N D : ByteArray) (hN : N.size ≤ 140737488355328) : Calls Tryd.prog 66 #[.agg #[.string N, .string D]] w (RetR 4294967296 (rdQ N D) w) := by
  have HB := Aside0.mk (below_alloc (below_alloc (Below.refl w.heap.size w) (Obj.cells #[Value.string N, Value.string D] 23)) (Obj.cells #[Value.bool false, Value.slice none 0 0, Value.slice none 0 0] 94))
  have key : (∃ (mb : Bool) (h : 0 < N.size), mb = true ∧ (((N[0]'h).toNat : Int) == 45) = true ∧ mB N = true) ∨ (∃ (mb : Bool) (h : 0 < N.size), mb = false ∧ (((N[0]'h).toNat : Int) == 45) = false ∧ mB N = false) ∨ (∃ mb : Bool, ¬ 0 < N.size ∧ mb = false ∧ mB N = false) := by
    by_cases h : 0 < N.size
    · have := mB_at h
      cases hm : mB N with
      | true => exact .inl ⟨_, h, rfl, this.trans hm, rfl⟩
      | false => exact .inr (.inl ⟨_, h, rfl, this.trans hm, rfl⟩)
    · exact .inr (.inr ⟨_, h, rfl, mB_nil h⟩)
  rcases key with ⟨mb, g0, hmb, g1, hm⟩ | ⟨mb, g0, hmb, g1, hm⟩ | ⟨mb, g0, hmb, hm⟩
  all_goals
    have ha : aft N = (if mB N = true then N.extract 1 N.size else N) := rfl
    rw [hm] at ha
    simp only [Bool.false_eq_true, if_true, if_false] at ha
    replace ha := Aside0.mk ha
    replace hm := Aside0.mk hm
    replace hmb := Aside0.mk hmb
    go_enter Tryd.func66, Tryd.ntmps66
    go_wp2_with fail
    refine afterQ (rdigits_c _ _) ?_; intro w1 b1 z1 hc1 hf1; have y1 : w.heap.size < w1.heap.size := (by simp at z1; omega); have x1 : w.heap.size + 1 < w1.heap.size := (by simp at z1; omega); have H1 := Aside0.mk (below_trans HB.out b1); clear b1 z1
    go_wp2_with fail
    case isTrue =>
      refine afterQ (rdigits_c _ D) ?_; intro w2 b2 z2 hc2 hf2; have y2 := Nat.lt_of_lt_of_le y1 z2; have x2 := Nat.lt_of_lt_of_le x1 z2; have H2 := Aside0.mk (below_trans H1.out b2); clear b2 z2
      go_upto_region 7 with fail
      all_goals try (
        refine bodyPost_ret (v := .tuple #[.agg #[.bool false, .slice none 0 0, .slice none 0 0], .bool false]) (by simp [results, Tryd.results66, go_sem, hc2, hc1, y1, x1, y2, x2]) rfl (RetR.no (rdQ_no (by rw [form_iff, ha.out, hm.out]; simp_all)) rfl ?_)
        repeat first | exact H2.out | refine below_set ?_ (by omega) | refine below_alloc ?_ _
        done)
      have hA : dgB (cs (aft N)) = true := by rw [ha.out]; assumption
      have hD : dgB (cs D) = true := by assumption
      have hf : fmB N D = true := by rw [form_iff, ha.out, hm.out]; simp_all
      obtain ⟨n, d, pA, pD, hd0, sn, sd, hrd⟩ := form_parts hf
      rw [ha.out] at pA
      rw [hm.out] at hrd
      replace pA := Aside0.mk pA
      replace pD := Aside0.mk pD
      replace hrd := Aside0.mk hrd
      have k2 : w2.cell? ⟨w.heap.size, 1, none⟩ = some (.string D) := by simp [go_sem, hc2, hc1, y1, y2]
      have r0 : w2.cell? ⟨w.heap.size + 1, 0, none⟩ = some (.bool false) := by simp [go_sem, hc2, hc1, x1, x2]
      have r1 : w2.cell? ⟨w.heap.size + 1, 1, none⟩ = some (.slice none 0 0) := by simp [go_sem, hc2, hc1, x1, x2]
      have r2 : w2.cell? ⟨w.heap.size + 1, 2, none⟩ = some (.slice none 0 0) := by simp [go_sem, hc2, hc1, x1, x2]
      have f0 : w2.frozen? ⟨w.heap.size + 1, 0, none⟩ = false := by simp [go_sem, hf2, hf1, x1, x2]
      have f1 : w2.frozen? ⟨w.heap.size + 1, 1, none⟩ = false := by simp [go_sem, hf2, hf1, x1, x2]
      have f2 : w2.frozen? ⟨w.heap.size + 1, 2, none⟩ = false := by simp [go_sem, hf2, hf1, x1, x2]
      clear hc1 hf1 hc2 hf2 y1 x1 H1
      replace hd0 := Aside0.mk hd0
      clear hf hA hD
      go_cut [6, 7] (fun s6 s7 wx => ∃ A L c A' L' c', s6 = .slice A L c ∧ s7 = .slice A' L' c' ∧ Aside0 (Nf 4294967296 w2.heap.size wx (.slice A L c) n ∧ Nf 4294967296 w2.heap.size wx (.slice A' L' c') d ∧ Below w2.heap.size w2 wx))
      case first =>
        go_region_held3 (fun w' => w'.cell? ⟨w.heap.size, 1, none⟩ = some (.string D)) (repeat' first | exact k2 | assumption | refine cell_alloc ?_ _)
          (first
            | (go_at_call_of 117 (Value.string D); refine after (pD.out _) ?_; intro A' L' c' wb hp bb zb hcb hfb; have kb := pw_cell_below bb (show _ = some (Value.string D) by assumption))
            | (go_at_call 117; refine after (pA.out _) ?_; intro A L c wa hn ba za hca hfa; have ka := pw_cell_below ba (show _ = some (Value.string D) by first | exact k2 | assumption)))
        go_wp2_with fail
        go_meet
        have Ba : Below w2.heap.size w2 wa := below_then (below_drew (Below.refl _ _)) (Nat.le_refl _) ba
        exact ⟨_, _, _, _, _, _, rfl, rfl, ⟨hn.below bb, hp.low Ba.size, below_then Ba Ba.size bb⟩⟩
      case rest =>
        obtain ⟨A, L, c, A', L', c', rfl, rfl, hx⟩ := hcut
        obtain ⟨hn, hp, hW⟩ := hx.out
        have r0' := pw_cell_below hW r0
        have r1' := pw_cell_below hW r1
        have r2' := pw_cell_below hW r2
        have f0' := (hW.frozen (p := ⟨w.heap.size + 1, 0, none⟩) x2).trans f0
        have f1' := (hW.frozen (p := ⟨w.heap.size + 1, 1, none⟩) x2).trans f1
        have f2' := (hW.frozen (p := ⟨w.heap.size + 1, 2, none⟩) x2).trans f2
        have y3 := Nat.lt_of_lt_of_le x2 hW.size
        have H3 := Aside0.mk (below_trans H2.out hW)
        clear r0 r1 r2 f0 f1 f2 hW hx k2
        go_wp2_with fail
        refine afterF (lowest_c _ _ hn hp hd0.out sn sd) ?_; intro A3 L3 c3 A4 L4 c4 w4 hn4 hp4 b4 z4 hc4 hf4; have y4 := Nat.lt_of_lt_of_le y3 z4; have x4 : w.heap.size < w4.heap.size := (by omega); have H4 := Aside0.mk (below_trans H3.out b4); replace hp := hp.below b4; clear b4
        have hq := fr_den (b := decide (1 = 1)) (n := n) hd0.out
        clear hq
        go_wp2_with fail
        refine afterQ (rcmp_c _ (hp4.alloc _) (hp.alloc _) (by rw [fr_den hd0.out]; exact sd.le (Nat.div_le_self _ _)) sd) ?_; intro w5 b5 z5 hc5 hf5
        rw [fr_den hd0.out]
        go_wp2
        · have hne := ‹(_ : Bool) = true›
          have hg : ¬ Nat.gcd d n = 1 := by rw [cmp_gcd hd0.out]; simp_all
          refine bodyPost_ret (v := .tuple #[.agg #[.bool false, .slice none 0 0, .slice none 0 0], .bool false]) (by simp [results, Tryd.results66, go_sem, hc5, hc4, y3, y4, x4, r0', r1', r2']) rfl (RetR.no (by rw [hrd.out, if_neg hg]) rfl ?_)
          have B5 := below_then (below_alloc H4.out _) (by simp; omega) b5
          repeat first | exact B5 | refine below_set ?_ (by omega) | refine below_alloc ?_ _
        · have hg : Nat.gcd d n = 1 := by rw [cmp_gcd hd0.out]; simp_all
          refine bodyPost_ret (v := .tuple #[.agg #[.bool (decide ((fr mb n d).num < 0)), .slice A3 L3 c3, .slice A4 L4 c4], .bool true]) (by rw [hmb.out]; simp [results, Tryd.results66, go_sem, hc5, hc4, y3, y4, x4, r0', r1', r2']) rfl (RetR.yes (q := fr mb n d) (by rw [hrd.out, if_pos hg, hmb.out]) rfl ?_ rfl ?_ ?_)
          · have B5 := below_then (below_alloc H4.out _) (by simp; omega) b5
            repeat first | exact B5 | refine below_set ?_ (by omega) | refine below_alloc ?_ _
          · rw [hmb.out]
            have h6 := (hn4.alloc _).below b5
            refine Nf.low ?_ (Nat.le_of_lt (Nat.lt_trans (Nat.lt_succ_self _) y3))
            repeat first | exact h6 | refine Nf.set ?_ y3 _
          · rw [hmb.out]
            have h6 := (hp4.alloc _).below b5
            refine Nf.low ?_ (Nat.le_of_lt (Nat.lt_trans (Nat.lt_succ_self _) y3))
            repeat first | exact h6 | refine Nf.set ?_ y3 _
    all_goals
      refine bodyPost_ret (v := .tuple #[.agg #[.bool false, .slice none 0 0, .slice none 0 0], .bool false]) (by simp [results, Tryd.results66, go_sem, hc1, y1, x1]) rfl (RetR.no (rdQ_no (by rw [form_iff, ha.out]; simp_all)) rfl ?_)
      repeat first | exact H1.out | refine below_set ?_ (by omega) | refine below_alloc ?_ _
end Go.Proofs.YtplpmndchdockaaDoor.M
