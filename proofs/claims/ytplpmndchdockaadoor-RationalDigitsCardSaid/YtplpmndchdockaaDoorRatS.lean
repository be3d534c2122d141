import Derived.Test.YtplpmndchdockaaDoorRatV
import Derived.Test.YtplpmndchdockaaDoorRdB
import Derived.Test.YtplpmndchdockaaDoorPnH
import Derived.Test.YtplpmndchdockaaDoorOvr
/-! The program's fractions: Scale. -/
namespace Go.Proofs.YtplpmndchdockaaDoor.M
open Go Go.RowKit Go.Proofs.YtplpmndchdockaaDoorV.PrintWords
set_option autoImplicit false
set_option linter.unusedVariables false
set_option linter.unusedSimpArgs false

theorem plimit_c : ∃ K : Nat, K = 2305843009213693952 ∧ Sm K ∧ ∀ w, Calls Tryd.prog 62 #[.int .u64 2305843009213693952] w (RetN 1000000000 w.heap.size K w) :=
  ⟨_, rfl, Sm.abs (a := 2305843009213693952) (by omega) (by omega), fun _ => natOf_c _ (n := 2305843009213693952) (by omega)⟩
theorem cmpN_gt (m K : Nat) : (cmpN m K > 0 ↔ K < m) ∧ (cmpN m K ≤ 0 ↔ m ≤ K) := by
  unfold cmpN cmpI
  constructor <;> (repeat' split) <;> omega
theorem psc_bounds {n d u : Nat} (hn : n < 10 ^ MD) (hd : d < 10 ^ MD) (hu : u < 18446744073709551616) : Sm u ∧ Sm (n * u) ∧ Sm (n * u / d) ∧ Sm (n * u / d + 1) := by
  have h1 : n * u < 10 ^ (MD + 20) := lt_mul10 hn (lt64 hu)
  have h4 : n * u + 1 < 10 ^ (MD + 20 + 1) := lt_add10 h1 (Nat.one_lt_pow (by unfold MD; decide) (by decide))
  have h5 := Nat.div_le_self (n * u) d
  have r3 : Sm (n * u + 1) := Sm.of10 h4 (by rw [MD_eq]; omega)
  exact ⟨Sm.of10 (lt64 hu) (by omega), r3.le (by omega), r3.le (by omega), r3.le (by omega)⟩
theorem scN_up {b : Bool} {m d : Nat} (h : upN m d ≤ 2305843009213693952) : scN b m d = (if b = true then -(upN m d : Int) else ((m / d : Nat) : Int), if b = true then -((m / d : Nat) : Int) else (upN m d : Int), true) := by
  unfold scN; rw [if_pos h]; cases b <;> rfl
theorem scN_out {b : Bool} {m d : Nat} (h : ¬ upN m d ≤ 2305843009213693952) : scN b m d = (0, 0, false) := by unfold scN; rw [if_neg h]
theorem upN_ge (m d : Nat) : m / d ≤ upN m d := by unfold upN; split <;> omega
set_option maxHeartbeats 4000000 in
theorem scale_c (w : World) (N D : ByteArray) (u : Int) (hN : N.size ≤ 140737488355328) (u0 : -9223372036854775808 ≤ u) (u1 : u ≤ 9223372036854775807) :
    Calls Tryd.prog 19 #[.agg #[.string N, .string D], .int .i64 u] w fun e w' => e = .returned (scV (scQ (rdQ N D) u)) ∧ Below w.heap.size w w' := by
  have HB := Aside0.mk (below_alloc (Below.refl w.heap.size w) (Obj.cells #[Value.string N, Value.string D] 23))
  obtain ⟨o, ho⟩ : ∃ o, o = rdQ N D := ⟨_, rfl⟩
  have F := fun W => read_c W N D hN
  rw [← ho] at F ⊢
  replace F := Aside0.mk F
  cases o with
  | none =>
    clear ho
    go_enter Tryd.func19, Tryd.ntmps19
    go_wp2_with fail
    refine afterR (F.out _) ?_; intro b A L c A' L' c' w1 hq b1 z1 hc1 hf1; have H1 := Aside0.mk (below_trans HB.out b1); clear b1 z1
    go_wp2
    refine bodyPost_ret (v := scV (scQ none u)) (by simp [results, Tryd.results19, go_sem, scV, scQ]) rfl ⟨rfl, ?_⟩
    repeat first | exact H1.out | refine below_set ?_ (by omega) | refine below_alloc ?_ _
  | some q =>
    have hfit := rdQ_fits ho.symm
    clear ho
    by_cases hu : 1 ≤ u
    · have e : scQ (some q) u = scN (decide (q.num < 0)) (q.num.natAbs * u.toNat) q.den := by unfold scQ; dsimp only; rw [if_pos hu]
      obtain ⟨su, s1, s2, s3⟩ := psc_bounds hfit.1 hfit.2 (u := u.toNat) (by omega)
      obtain ⟨sn, sd⟩ := fits_Sm hfit
      rw [e]
      clear e hfit
      have hdz := q.den_nz
      have ew : IntKind.u64.wrap u = (u.toNat : Int) := by rw [u64_eq (by omega) (by omega)]; omega
      have hun : u.toNat < 18446744073709551616 := by omega
      replace ew := Aside0.mk ew
      obtain ⟨b0, hb0⟩ : ∃ b0, b0 = decide (q.num < 0) := ⟨_, rfl⟩
      rw [← hb0]
      replace hb0 := Aside0.mk hb0
      obtain ⟨t, ht0⟩ : ∃ t, t = scN b0 (q.num.natAbs * u.toNat) q.den := ⟨_, rfl⟩
      rw [← ht0]
      replace ht0 := Aside0.mk ht0
      obtain ⟨K, hK, sK, hlim⟩ := plimit_c
      replace hK := Aside0.mk hK
      replace hlim := Aside0.mk hlim
      go_enter Tryd.func19, Tryd.ntmps19
      go_wp2_with fail
      refine afterR (F.out _) ?_; intro b A L c A' L' c' w1 hq b1 z1 hc1 hf1; have H1 := Aside0.mk (below_trans HB.out b1); clear b1 z1
      obtain ⟨rfl, hn, hd⟩ := hq.out q rfl
      rw [← hb0.out]
      clear hq
      go_upto_region 4 with fail
      refine region_letter ?_; intro W hW
      have BW : Below w1.heap.size w1 W := by rw [hW]; repeat first | exact Below.refl _ _ | refine below_drew ?_ | refine below_alloc ?_ _ | refine below_set ?_ (by omega)
      have k0 : W.cell? ⟨w1.heap.size, 0, none⟩ = some (.bool b0) := by rw [hW]; simp [go_sem]
      have k1 : W.cell? ⟨w1.heap.size, 1, none⟩ = some (.slice A L c) := by rw [hW]; simp [go_sem]
      have k2 : W.cell? ⟨w1.heap.size, 2, none⟩ = some (.slice A' L' c') := by rw [hW]; simp [go_sem]
      have yW : w1.heap.size < W.heap.size := by rw [hW]; simp
      replace hn := hn.below BW
      replace hd := hd.below BW
      have HW := Aside0.mk (below_trans H1.out BW)
      clear hW BW H1 hc1 hf1
      go_region_held3 (fun w' => Below W.heap.size W w' ∧ ∀ b o, b < W.heap.size → w'.cell? ⟨b, o, none⟩ = W.cell? ⟨b, o, none⟩) (exact keepS (by (repeat first | (with_reducible exact Below.refl _ _) | (with_reducible exact Ba) | (with_reducible exact Bb) | (with_reducible exact Bc) | (with_reducible refine below_drew ?_) | (with_reducible refine below_alloc ?_ _) | ((with_reducible refine below_set ?_ ?hh); (case hh => omega))); done))
        (first
          | (go_at_call 62; (try rw [ew.out]); refine afterO (W := W) (by (repeat first | (with_reducible exact Below.refl _ _) | (with_reducible refine below_drew ?_) | (with_reducible refine below_alloc ?_ _) | ((with_reducible refine below_set ?_ ?hh); (case hh => omega))); done) (natOf_c _ hun) ?_; intro A3 L3 c3 wa hm Ba ba za)
          | (go_at_call 61; refine afterO (W := W) (by (repeat first | (with_reducible exact Below.refl _ _) | (with_reducible exact Ba) | (with_reducible refine below_drew ?_) | (with_reducible refine below_alloc ?_ _) | ((with_reducible refine below_set ?_ ?hh); (case hh => omega))); done) (mul_c _ (hn.below (by (repeat first | (with_reducible exact Below.refl _ _) | (with_reducible exact Ba) | (with_reducible refine below_drew ?_) | (with_reducible refine below_alloc ?_ _) | ((with_reducible refine below_set ?_ ?hh); (case hh => omega))); done)) (hm.below (by (repeat first | (with_reducible exact Below.refl _ _) | (with_reducible refine below_drew ?_) | (with_reducible refine below_alloc ?_ _) | ((with_reducible refine below_set ?_ ?hh); (case hh => omega))); done)) sn su) ?_; intro A5 L5 c5 wb hp Bb bb zb)
          | (go_at_call 60; refine afterO2 (W := W) (by (repeat first | (with_reducible exact Below.refl _ _) | (with_reducible exact Bb) | (with_reducible refine below_drew ?_) | (with_reducible refine below_alloc ?_ _) | ((with_reducible refine below_set ?_ ?hh); (case hh => omega))); done) (div_c _ (hp.below (by (repeat first | (with_reducible exact Below.refl _ _) | (with_reducible refine below_drew ?_) | (with_reducible refine below_alloc ?_ _) | ((with_reducible refine below_set ?_ ?hh); (case hh => omega))); done)) (hd.below (by (repeat first | (with_reducible exact Below.refl _ _) | (with_reducible exact Bb) | (with_reducible refine below_drew ?_) | (with_reducible refine below_alloc ?_ _) | ((with_reducible refine below_set ?_ ?hh); (case hh => omega))); done)) s1 sd hdz) ?_; intro A6 L6 c6 A7 L7 c7 wc hQ hr Bc bc zc; replace hp := hQ))
      all_goals
        have hc2 := (bcell Bc).1
        have H2 := Aside0.mk (below_trans HW.out Bc)
        have yc := Nat.lt_of_lt_of_le yW zc
        clear HW bc Bb bb Ba ba za zb hn hd hm k1 k2
        obtain ⟨V, hV⟩ : ∃ V, V = q.num.natAbs * u.toNat / q.den := ⟨_, rfl⟩
        rw [← hV] at hp s2 s3
        replace hV := Aside0.mk hV.symm
        by_cases hr0 : q.num.natAbs * u.toNat % q.den = 0
        · have hK7 : L7 = 0 := by have := hr.zero_iff (by decide); omega
          subst hK7
          have eU : upN (q.num.natAbs * u.toNat) q.den = V := (upN_0 hr0).trans hV.out
          clear hr hr0
          go_wp2_with fail
          refine after (hlim.out _) ?_; intro A9 L9 c9 wk hk bk zk hck hfk; have H4 := Aside0.mk (below_trans H2.out bk); replace hp := hp.below bk; have yk := Nat.lt_of_lt_of_le yc zk; clear bk zk hfk
          go_wp2_with fail
          refine afterQ (cmp_c _ hp hk s2 sK) ?_; intro wl bl zl hcl hfl; have H5 := Aside0.mk (below_trans H4.out bl); replace hp := hp.below bl; have yl := Nat.lt_of_lt_of_le yk zl; clear bl zl hk hfl
          have kb : wl.cell? ⟨w1.heap.size, 0, none⟩ = some (.bool b0) := by simp [hc2, hck, hcl, yk, yl, yc, yW, k0]
          by_cases hle : V ≤ K
          · have hc0 := (cmpN_gt (V) K).2.mpr hle
            have hz : t = (if b0 = true then -((V : Nat) : Int) else (V : Int), if b0 = true then -(V : Int) else ((V : Nat) : Int), true) := ht0.out.trans (by rw [scN_up (by rw [eU]; rw [← hK.out]; exact hle), eU, hV.out])
            have hU4 : V ≤ 4611686018427387904 := by have := hK.out; omega
            have hV4 : V ≤ 4611686018427387904 := by omega
            have e3 : wrap64 (-((V : Nat) : Int)) = -((V : Nat) : Int) := by unfold wrap64; omega
            have e4 : wrap64 (-(V : Int)) = -(V : Int) := by unfold wrap64; omega
            replace hz := Aside0.mk hz
            replace e3 := Aside0.mk e3
            replace e4 := Aside0.mk e4
            clear hle eU ht0 hc2 hck hcl
            generalize cmpN (V) K = cc at *
            cases b0
            · go_wp2_with fail
              refine afterQ (val_c _ hp hV4) ?_; intro wm bm zm hcm hfm; have H6 := Aside0.mk (below_trans H5.out bm); replace hp := hp.below bm
              go_wp2_with fail
              refine afterQ (val_c _ hp hU4) ?_; intro wn bn zn hcn hfn; have H7 := Aside0.mk (below_trans H6.out bn)
              go_wp2
              refine bodyPost_ret (v := scV t) (by rw [hz.out]; simp [results, Tryd.results19, go_sem, scV]) rfl ⟨rfl, H7.out⟩
            · go_wp2_with fail
              refine afterQ (val_c _ hp hU4) ?_; intro wm bm zm hcm hfm; have H6 := Aside0.mk (below_trans H5.out bm); replace hp := hp.below bm
              go_wp2_with fail
              refine afterQ (val_c _ hp hV4) ?_; intro wn bn zn hcn hfn; have H7 := Aside0.mk (below_trans H6.out bn)
              have f3 := e3.out
              have f4 := e4.out
              go_wp2
              refine bodyPost_ret (v := scV t) (by rw [hz.out]; simp [results, Tryd.results19, go_sem, scV, f3, f4]) rfl ⟨rfl, H7.out⟩
          · have hc0 := (cmpN_gt (V) K).1.mpr (by omega)
            have hz : t = (0, 0, false) := ht0.out.trans (scN_out (by rw [eU]; rw [← hK.out]; exact hle))
            replace hz := Aside0.mk hz
            clear hle eU ht0 hc2 hck hcl
            generalize cmpN (V) K = cc at *
            go_wp2
            refine bodyPost_ret (v := scV t) (by rw [hz.out]; simp [results, Tryd.results19, go_sem, scV]) rfl ⟨rfl, H5.out⟩
        · have hK7 : 0 < L7 := (hr.zero_iff (by decide)).mpr hr0
          have eU : upN (q.num.natAbs * u.toNat) q.den = V + 1 := by rw [upN_1 hr0, hV.out]
          clear hr hr0
          go_wp2_with fail
          refine after (add_c _ (hp.below (by (repeat first | (with_reducible exact Below.refl _ _) | (with_reducible refine below_drew ?_) | (with_reducible refine below_alloc ?_ _) | ((with_reducible refine below_set ?_ ?hh); (case hh => omega))); done)) (Nf.one (e := 90) (by decide) (blk_new _ _)) s2 Sm.one) ?_; intro A8 L8 c8 wj hU bj zj hcj hfj; have bj' : Below wc.heap.size wc wj := below_trans (by (repeat first | (with_reducible exact Below.refl _ _) | (with_reducible refine below_drew ?_) | (with_reducible refine below_alloc ?_ _) | ((with_reducible refine below_set ?_ ?hh); (case hh => omega))); done) bj; have H3 := Aside0.mk (below_trans H2.out bj'); replace hp := hp.below bj'; have yj := Nat.lt_of_lt_of_le yc bj'.size; replace hcj := (bcell bj').1; clear bj zj hfj
          obtain ⟨U, hUV⟩ : ∃ U, U = V + 1 := ⟨_, rfl⟩
          rw [← hUV] at hU s3 eU
          have hVU : V ≤ U := by omega
          clear hUV
          have hcjj : ∀ b o, b < W.heap.size → wj.cell? ⟨b, o, none⟩ = W.cell? ⟨b, o, none⟩ := fun b o hb => (hcj b o (Nat.lt_of_lt_of_le hb zc)).trans (hc2 b o hb)
          clear hcj hc2 bj'
          go_wp2_with fail
          refine after (hlim.out _) ?_; intro A9 L9 c9 wk hk bk zk hck hfk; have H4 := Aside0.mk (below_trans H3.out bk); replace hp := hp.below bk; replace hU := hU.below bk; have yk := Nat.lt_of_lt_of_le yj zk; clear bk zk hfk
          go_wp2_with fail
          refine afterQ (cmp_c _ hU hk s3 sK) ?_; intro wl bl zl hcl hfl; have H5 := Aside0.mk (below_trans H4.out bl); replace hp := hp.below bl; replace hU := hU.below bl; have yl := Nat.lt_of_lt_of_le yk zl; clear bl zl hk hfl
          have kb : wl.cell? ⟨w1.heap.size, 0, none⟩ = some (.bool b0) := by simp [hcjj, hck, hcl, yk, yl, yj, yW, k0]
          by_cases hle : U ≤ K
          · have hc0 := (cmpN_gt (U) K).2.mpr hle
            have hz : t = (if b0 = true then -((U : Nat) : Int) else (V : Int), if b0 = true then -(V : Int) else ((U : Nat) : Int), true) := ht0.out.trans (by rw [scN_up (by rw [eU]; rw [← hK.out]; exact hle), eU, hV.out])
            have hU4 : U ≤ 4611686018427387904 := by have := hK.out; omega
            have hV4 : V ≤ 4611686018427387904 := by omega
            have e3 : wrap64 (-((U : Nat) : Int)) = -((U : Nat) : Int) := by unfold wrap64; omega
            have e4 : wrap64 (-(V : Int)) = -(V : Int) := by unfold wrap64; omega
            replace hz := Aside0.mk hz
            replace e3 := Aside0.mk e3
            replace e4 := Aside0.mk e4
            clear hle eU ht0 hcjj hck hcl
            generalize cmpN (U) K = cc at *
            cases b0
            · go_wp2_with fail
              refine afterQ (val_c _ hp hV4) ?_; intro wm bm zm hcm hfm; have H6 := Aside0.mk (below_trans H5.out bm); replace hU := hU.below bm
              go_wp2_with fail
              refine afterQ (val_c _ hU hU4) ?_; intro wn bn zn hcn hfn; have H7 := Aside0.mk (below_trans H6.out bn)
              go_wp2
              refine bodyPost_ret (v := scV t) (by rw [hz.out]; simp [results, Tryd.results19, go_sem, scV]) rfl ⟨rfl, H7.out⟩
            · go_wp2_with fail
              refine afterQ (val_c _ hU hU4) ?_; intro wm bm zm hcm hfm; have H6 := Aside0.mk (below_trans H5.out bm); replace hp := hp.below bm
              go_wp2_with fail
              refine afterQ (val_c _ hp hV4) ?_; intro wn bn zn hcn hfn; have H7 := Aside0.mk (below_trans H6.out bn)
              have f3 := e3.out
              have f4 := e4.out
              go_wp2
              refine bodyPost_ret (v := scV t) (by rw [hz.out]; simp [results, Tryd.results19, go_sem, scV, f3, f4]) rfl ⟨rfl, H7.out⟩
          · have hc0 := (cmpN_gt (U) K).1.mpr (by omega)
            have hz : t = (0, 0, false) := ht0.out.trans (scN_out (by rw [eU]; rw [← hK.out]; exact hle))
            replace hz := Aside0.mk hz
            clear hle eU ht0 hcjj hck hcl
            generalize cmpN (U) K = cc at *
            go_wp2
            refine bodyPost_ret (v := scV t) (by rw [hz.out]; simp [results, Tryd.results19, go_sem, scV]) rfl ⟨rfl, H5.out⟩
    · have e : scQ (some q) u = (0, 0, false) := by unfold scQ; dsimp only; rw [if_neg hu]
      rw [e]
      clear e
      have hu' : u < 1 := by omega
      go_enter Tryd.func19, Tryd.ntmps19
      go_wp2_with fail
      refine afterR (F.out _) ?_; intro b A L c A' L' c' w1 hq b1 z1 hc1 hf1; have H1 := Aside0.mk (below_trans HB.out b1); clear b1 z1
      go_wp2
      refine bodyPost_ret (v := scV (0, 0, false)) (by simp [results, Tryd.results19, go_sem, scV]) rfl ⟨rfl, ?_⟩
      repeat first | exact H1.out | refine below_set ?_ (by omega) | refine below_alloc ?_ _
end Go.Proofs.YtplpmndchdockaaDoor.M
