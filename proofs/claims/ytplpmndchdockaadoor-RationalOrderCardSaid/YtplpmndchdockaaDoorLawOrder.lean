import Derived.Test.YtplpmndchdockaaDoorOpF
import Derived.Test.YtplpmndchdockaaDoorRatX
/-! RationalOrder: the walk. -/
namespace Go.Proofs.YtplpmndchdockaaDoor.M
open Go Go.RowKit Go.Proofs.YtplpmndchdockaaDoorV.PrintWords
set_option autoImplicit false
set_option linter.unusedVariables false
set_option linter.unusedSimpArgs false

theorem bN_zero' : bN 0 = ⟨#[48]⟩ := by decide +kernel
/-- A comparison of two fractions' texts. -/
def OpI (N D N2 D2 : ByteArray) (n : Int) : Prop := ∀ W : World, Calls Tryd.prog 31 #[.agg #[.string N, .string D], .agg #[.string N2, .string D2]] W fun e w' => e = .returned (.int .i64 n) ∧ Below W.heap.size W w'
theorem cmp_f {p q : Rat} {n : Int} (hp : Fits p) (hq : Fits q) (e : ordI (p - q) = n) : OpI (bN p) (bD p) (bN q) (bD q) n := by
  intro W
  have := pcmp_c W (bN p) (bD p) (bN q) (bD q) (bN_size hp) (bN_size hq)
  rw [rdQ_rt hp, rdQ_rt hq] at this
  rw [← e]
  exact this
theorem bN_head (q : Rat) : ∃ h : 0 < (bN q).size, ((((bN q)[0]'h).toNat : Int) == 45) = decide (q.num < 0) := by
  have h : 0 < (bN q).size := by
    have h1 : (cs (bN q)).length = (bN q).size := cs_length _
    rw [cs_bN] at h1
    have h2 : tx q.num.natAbs ≠ [] := (isDec_tx _).ne
    have h3 := List.length_pos_iff.mpr h2
    unfold numTx at h1
    split at h1
    · rw [List.length_cons] at h1; omega
    · omega
  exact ⟨h, by rw [mB_at h, mB_bN]⟩
theorem bN_not_zero {q : Rat} (h : q ≠ 0) : ((bN q).toList == [48]) = false := by
  rw [beq_eq_false_iff_ne]
  intro hc
  have h1 := (one_byte _ 48).mp hc
  rw [cs_bN] at h1
  unfold numTx at h1
  split at h1
  · exact absurd (List.cons.inj h1).1 (by decide)
  · exact h ((q0_iff q).mpr (tx_eq_zero.mp h1))
theorem toList_inj {s t : ByteArray} (h : s.toList = t.toList) : s = t := by
  rw [Go.ByteArray.toList_eq, Go.ByteArray.toList_eq] at h
  exact ByteArray.ext (Array.toList_inj.mp h)
theorem sub_num (x y : Rat) : (x - y = 0 ↔ x = y) := by constructor <;> intro h <;> grind
theorem ordI_neg (t : Rat) : ordI (-t) = -ordI t := by
  unfold ordI
  rw [Rat.neg_num, Int.natAbs_neg]
  by_cases h : t.num.natAbs = 0
  · rw [if_pos h, if_pos h]; rfl
  · rw [if_neg h, if_neg h]
    by_cases g : t.num < 0
    · rw [if_neg (by omega), if_pos g]; rfl
    · rw [if_pos (by omega), if_neg g]
set_option maxRecDepth 20000 in
set_option maxHeartbeats 8000000 in
theorem order_law (w : World) (a b c d e f : Int) (a0 : -2147483648 ≤ a) (a1 : a ≤ 2147483647) (b0 : -2147483648 ≤ b) (b1 : b ≤ 2147483647) (c0 : -2147483648 ≤ c) (c1 : c ≤ 2147483647) (d0 : -2147483648 ≤ d) (d1 : d ≤ 2147483647) (e0 : -2147483648 ≤ e) (e1 : e ≤ 2147483647) (f0 : -2147483648 ≤ f) (f1 : f ≤ 2147483647) :
    Calls Tryd.prog 8 #[.int .i32 a, .int .i32 b, .int .i32 c, .int .i32 d, .int .i32 e, .int .i32 f] w fun e w' => e = .returned (.bool true) ∧ Below w.heap.size w w' := by
  obtain ⟨x, hx, Bx⟩ := ofL_some a0 a1 b0 b1
  obtain ⟨y, hy, By⟩ := ofL_some c0 c1 d0 d1
  obtain ⟨z, hz, Bz⟩ := ofL_some e0 e1 f0 f1
  have fx : Fits x := Bx.fits (by omega)
  have fy : Fits y := By.fits (by omega)
  have fz : Fits z := Bz.fits (by omega)
  have Fx := ofL_f a0 a1 b0 b1 hx fx
  have Fy := ofL_f c0 c1 d0 d1 hy fy
  have Fz := ofL_f e0 e1 f0 f1 hz fz
  have Bxz := (B2.add Bx Bz).fits (by omega)
  have Byz := (B2.add By Bz).fits (by omega)
  have Bxy := (B2.sub Bx By).fits (by omega)
  have C1 := sub_f fx fy Bxy rfl
  have C2 := add_f fx fz Bxz rfl
  have C3 := add_f fy fz Byz rfl
  have D1 : OpI (bN x) (bD x) (bN y) (bD y) (ordI (x - y)) := cmp_f fx fy rfl
  have D2 : OpI (bN y) (bD y) (bN x) (bD x) (-ordI (x - y)) := cmp_f fy fx (by rw [← ordI_neg]; congr 1; grind)
  have D3 : OpI (bN (x + z)) (bD (x + z)) (bN (y + z)) (bD (y + z)) (ordI (x - y)) := cmp_f Bxz Byz (by congr 1; grind)
  have cs : (x = y ∧ ordI (x - y) = 0 ∧ bN (x - y) = ⟨#[48]⟩) ∨ (x ≠ y ∧ ordI (x - y) = -1 ∧ ((bN (x - y)).toList == [48]) = false ∧ ∃ h : 0 < (bN (x - y)).size, ((((bN (x - y))[0]'h).toNat : Int) == 45) = true) ∨ (x ≠ y ∧ ordI (x - y) = 1 ∧ ((bN (x - y)).toList == [48]) = false ∧ ∃ h : 0 < (bN (x - y)).size, ((((bN (x - y))[0]'h).toNat : Int) == 45) = false) := by
    by_cases h : x = y
    · have h1 : x - y = 0 := (sub_num x y).mpr h
      refine .inl ⟨h, by rw [h1]; rfl, by rw [h1]; exact bN_zero'⟩
    · have h1 : x - y ≠ 0 := fun hc => h ((sub_num x y).mp hc)
      have h2 : (x - y).num.natAbs ≠ 0 := fun hc => h1 ((q0_iff _).mpr hc)
      obtain ⟨g0, g1⟩ := bN_head (x - y)
      by_cases hs : (x - y).num < 0
      · exact .inr (.inl ⟨h, by unfold ordI; rw [if_neg h2, if_pos hs], bN_not_zero h1, g0, by rw [g1]; exact decide_eq_true hs⟩)
      · exact .inr (.inr ⟨h, by unfold ordI; rw [if_neg h2, if_neg hs], bN_not_zero h1, g0, by rw [g1]; exact decide_eq_false hs⟩)
  have ne : x ≠ y → ¬ ((bN x).toList = (bN y).toList ∧ (bD x).toList = (bD y).toList) := fun h hc => h (bq_inj.mp ⟨toList_inj hc.1, toList_inj hc.2⟩)
  clear hx hy hz fx fy fz Bx By Bz Bxy Byz Bxz
  replace C1 := Aside0.mk C1
  replace C2 := Aside0.mk C2
  replace C3 := Aside0.mk C3
  replace Fx := Aside0.mk Fx
  replace Fy := Aside0.mk Fy
  replace Fz := Aside0.mk Fz
  generalize ordI (x - y) = n at *
  generalize bN (x - y) = Nd at *
  generalize bD (x - y) = Dd at *
  generalize bN (x + z) = Nu at *
  generalize bD (x + z) = Du at *
  generalize bN (y + z) = Nv' at *
  generalize bD (y + z) = Dv at *
  rcases cs with ⟨rfl, rfl, rfl⟩ | ⟨hne, rfl, hz, g0, g1⟩ | ⟨hne, rfl, hz, g0, g1⟩
  · clear ne
    generalize bN x = Nx at *
    generalize bD x = Dx at *
    generalize bN z = Nz at *
    generalize bD z = Dz at *
    replace D1 := Aside0.mk D1
    replace D2 := Aside0.mk D2
    replace D3 := Aside0.mk D3
    go_enter Tryd.func8, Tryd.ntmps8
    go_wp2_with fail
    refine afterV (awake_c _) ?_; intro w1 b1 z1 hc1 hf1; have H := Aside0.mk b1; clear b1 z1 hc1 hf1
    go_wp2_with fail
    refine afterV (Fx.out _) ?_; intro w2 b2 z2 hc2 hf2; replace H := Aside0.mk (below_trans H.out b2); clear b2 z2 hc2 hf2
    go_wp2_with fail
    refine afterV (Fy.out _) ?_; intro w3 b3 z3 hc3 hf3; replace H := Aside0.mk (below_trans H.out b3); clear b3 z3 hc3 hf3
    go_wp2_with fail
    refine afterV (Fz.out _) ?_; intro w4 b4 z4 hc4 hf4; replace H := Aside0.mk (below_trans H.out b4); clear b4 z4 hc4 hf4
    go_wp2_with fail
    refine afterV (D1.out _) ?_; intro w5 b z _ _
    have sx : St w5 w4.heap.size Nx Dx := ⟨pw_cell_below b (by simp [go_sem]), pw_cell_below b (by simp [go_sem]), Nat.lt_of_lt_of_le (by first | (simp; done) | (simp; omega)) b.size⟩
    have sy : St w5 (w4.heap.size + 1) Nx Dx := ⟨pw_cell_below b (by simp [go_sem]), pw_cell_below b (by simp [go_sem]), Nat.lt_of_lt_of_le (by first | (simp; done) | (simp; omega)) b.size⟩
    have sz : St w5 (w4.heap.size + 2) Nz Dz := ⟨pw_cell_below b (by simp [go_sem]), pw_cell_below b (by simp [go_sem]), Nat.lt_of_lt_of_le (by first | (simp; done) | (simp; omega)) b.size⟩
    replace H := Aside0.mk (below_trans (below_alloc (below_alloc (below_alloc H.out _) _) _) b)
    clear b z
    go_wp2_with fail
    refine afterV (C1.out _) ?_; intro w6 b z _ _
    replace sx := sx.on b
    replace sy := sy.on b
    replace sz := sz.on b
    replace H := Aside0.mk (below_trans H.out b)
    clear b z
    go_wp2_with fail
    refine afterV (C2.out _) ?_; intro w7 b z _ _
    replace sx := sx.up b
    replace sy := sy.up b
    replace sz := sz.up b
    have sd := St.new b
    replace H := Aside0.mk (below_trans (below_alloc H.out _) b)
    clear b z
    go_wp2_with fail
    refine afterV (C3.out _) ?_; intro w8 b z _ _
    replace sx := sx.up b
    replace sy := sy.up b
    replace sz := sz.up b
    replace sd := sd.up b
    have su := St.new b
    replace H := Aside0.mk (below_trans (below_alloc H.out _) b)
    clear b z
    go_wp2_with fail
    refine afterV (D2.out _) ?_; intro w9 b z _ _
    replace sx := sx.up b
    replace sy := sy.up b
    replace sz := sz.up b
    replace sd := sd.up b
    replace su := su.up b
    have sv := St.new b
    replace H := Aside0.mk (below_trans (below_alloc H.out _) b)
    clear b z
    go_wp2_with fail
    refine afterV (D3.out _) ?_; intro w10 b z _ _
    replace sx := sx.on b
    replace sy := sy.on b
    replace sz := sz.on b
    replace sd := sd.on b
    replace su := su.on b
    replace sv := sv.on b
    replace H := Aside0.mk (below_trans H.out b)
    clear b z
    go_wp2
    refine bodyPost_ret (v := .bool true) (by simp [results, Tryd.results8, go_sem]) rfl ⟨rfl, H.out⟩
  · replace ne := Aside0.mk (ne hne)
    clear hne
    generalize bN x = Nx at *
    generalize bD x = Dx at *
    generalize bN y = Ny at *
    generalize bD y = Dy at *
    generalize bN z = Nz at *
    generalize bD z = Dz at *
    replace D1 := Aside0.mk D1
    replace D2 := Aside0.mk D2
    replace D3 := Aside0.mk D3
    have hnil : (Nd.toList == []) = false := by rw [beq_eq_false_iff_ne]; intro hc; rw [toList_nil_iff] at hc; omega
    go_enter Tryd.func8, Tryd.ntmps8
    go_wp2_with fail
    refine afterV (awake_c _) ?_; intro w1 b1 z1 hc1 hf1; have H := Aside0.mk b1; clear b1 z1 hc1 hf1
    go_wp2_with fail
    refine afterV (Fx.out _) ?_; intro w2 b2 z2 hc2 hf2; replace H := Aside0.mk (below_trans H.out b2); clear b2 z2 hc2 hf2
    go_wp2_with fail
    refine afterV (Fy.out _) ?_; intro w3 b3 z3 hc3 hf3; replace H := Aside0.mk (below_trans H.out b3); clear b3 z3 hc3 hf3
    go_wp2_with fail
    refine afterV (Fz.out _) ?_; intro w4 b4 z4 hc4 hf4; replace H := Aside0.mk (below_trans H.out b4); clear b4 z4 hc4 hf4
    go_wp2_with fail
    refine afterV (D1.out _) ?_; intro w5 b z _ _
    have sx : St w5 w4.heap.size Nx Dx := ⟨pw_cell_below b (by simp [go_sem]), pw_cell_below b (by simp [go_sem]), Nat.lt_of_lt_of_le (by first | (simp; done) | (simp; omega)) b.size⟩
    have sy : St w5 (w4.heap.size + 1) Ny Dy := ⟨pw_cell_below b (by simp [go_sem]), pw_cell_below b (by simp [go_sem]), Nat.lt_of_lt_of_le (by first | (simp; done) | (simp; omega)) b.size⟩
    have sz : St w5 (w4.heap.size + 2) Nz Dz := ⟨pw_cell_below b (by simp [go_sem]), pw_cell_below b (by simp [go_sem]), Nat.lt_of_lt_of_le (by first | (simp; done) | (simp; omega)) b.size⟩
    replace H := Aside0.mk (below_trans (below_alloc (below_alloc (below_alloc H.out _) _) _) b)
    clear b z
    go_wp2_with fail
    refine afterV (C1.out _) ?_; intro w6 b z _ _
    replace sx := sx.on b
    replace sy := sy.on b
    replace sz := sz.on b
    replace H := Aside0.mk (below_trans H.out b)
    clear b z
    go_wp2_with fail
    refine afterV (C2.out _) ?_; intro w7 b z _ _
    replace sx := sx.up b
    replace sy := sy.up b
    replace sz := sz.up b
    have sd := St.new b
    replace H := Aside0.mk (below_trans (below_alloc H.out _) b)
    clear b z
    go_wp2_with fail
    refine afterV (C3.out _) ?_; intro w8 b z _ _
    replace sx := sx.up b
    replace sy := sy.up b
    replace sz := sz.up b
    replace sd := sd.up b
    have su := St.new b
    replace H := Aside0.mk (below_trans (below_alloc H.out _) b)
    clear b z
    go_wp2_with fail
    refine afterV (D2.out _) ?_; intro w9 b z _ _
    replace sx := sx.up b
    replace sy := sy.up b
    replace sz := sz.up b
    replace sd := sd.up b
    replace su := su.up b
    have sv := St.new b
    replace H := Aside0.mk (below_trans (below_alloc H.out _) b)
    clear b z
    go_wp2_with fail
    all_goals try (exfalso; exact ne.out ⟨by assumption, by assumption⟩)
    all_goals
      refine afterV (D3.out _) ?_; intro w10 b z _ _
      replace sx := sx.on b
      replace sy := sy.on b
      replace sz := sz.on b
      replace sd := sd.on b
      replace su := su.on b
      replace sv := sv.on b
      replace H := Aside0.mk (below_trans H.out b)
      clear b z
      go_wp2
      refine bodyPost_ret (v := .bool true) (by simp [results, Tryd.results8, go_sem]) rfl ⟨rfl, H.out⟩
  · replace ne := Aside0.mk (ne hne)
    clear hne
    generalize bN x = Nx at *
    generalize bD x = Dx at *
    generalize bN y = Ny at *
    generalize bD y = Dy at *
    generalize bN z = Nz at *
    generalize bD z = Dz at *
    replace D1 := Aside0.mk D1
    replace D2 := Aside0.mk D2
    replace D3 := Aside0.mk D3
    have hnil : (Nd.toList == []) = false := by rw [beq_eq_false_iff_ne]; intro hc; rw [toList_nil_iff] at hc; omega
    go_enter Tryd.func8, Tryd.ntmps8
    go_wp2_with fail
    refine afterV (awake_c _) ?_; intro w1 b1 z1 hc1 hf1; have H := Aside0.mk b1; clear b1 z1 hc1 hf1
    go_wp2_with fail
    refine afterV (Fx.out _) ?_; intro w2 b2 z2 hc2 hf2; replace H := Aside0.mk (below_trans H.out b2); clear b2 z2 hc2 hf2
    go_wp2_with fail
    refine afterV (Fy.out _) ?_; intro w3 b3 z3 hc3 hf3; replace H := Aside0.mk (below_trans H.out b3); clear b3 z3 hc3 hf3
    go_wp2_with fail
    refine afterV (Fz.out _) ?_; intro w4 b4 z4 hc4 hf4; replace H := Aside0.mk (below_trans H.out b4); clear b4 z4 hc4 hf4
    go_wp2_with fail
    refine afterV (D1.out _) ?_; intro w5 b z _ _
    have sx : St w5 w4.heap.size Nx Dx := ⟨pw_cell_below b (by simp [go_sem]), pw_cell_below b (by simp [go_sem]), Nat.lt_of_lt_of_le (by first | (simp; done) | (simp; omega)) b.size⟩
    have sy : St w5 (w4.heap.size + 1) Ny Dy := ⟨pw_cell_below b (by simp [go_sem]), pw_cell_below b (by simp [go_sem]), Nat.lt_of_lt_of_le (by first | (simp; done) | (simp; omega)) b.size⟩
    have sz : St w5 (w4.heap.size + 2) Nz Dz := ⟨pw_cell_below b (by simp [go_sem]), pw_cell_below b (by simp [go_sem]), Nat.lt_of_lt_of_le (by first | (simp; done) | (simp; omega)) b.size⟩
    replace H := Aside0.mk (below_trans (below_alloc (below_alloc (below_alloc H.out _) _) _) b)
    clear b z
    go_wp2_with fail
    refine afterV (C1.out _) ?_; intro w6 b z _ _
    replace sx := sx.on b
    replace sy := sy.on b
    replace sz := sz.on b
    replace H := Aside0.mk (below_trans H.out b)
    clear b z
    go_wp2_with fail
    refine afterV (C2.out _) ?_; intro w7 b z _ _
    replace sx := sx.up b
    replace sy := sy.up b
    replace sz := sz.up b
    have sd := St.new b
    replace H := Aside0.mk (below_trans (below_alloc H.out _) b)
    clear b z
    go_wp2_with fail
    refine afterV (C3.out _) ?_; intro w8 b z _ _
    replace sx := sx.up b
    replace sy := sy.up b
    replace sz := sz.up b
    replace sd := sd.up b
    have su := St.new b
    replace H := Aside0.mk (below_trans (below_alloc H.out _) b)
    clear b z
    go_wp2_with fail
    refine afterV (D2.out _) ?_; intro w9 b z _ _
    replace sx := sx.up b
    replace sy := sy.up b
    replace sz := sz.up b
    replace sd := sd.up b
    replace su := su.up b
    have sv := St.new b
    replace H := Aside0.mk (below_trans (below_alloc H.out _) b)
    clear b z
    go_wp2_with fail
    all_goals try (exfalso; exact ne.out ⟨by assumption, by assumption⟩)
    all_goals
      refine afterV (D3.out _) ?_; intro w10 b z _ _
      replace sx := sx.on b
      replace sy := sy.on b
      replace sz := sz.on b
      replace sd := sd.on b
      replace su := su.on b
      replace sv := sv.on b
      replace H := Aside0.mk (below_trans H.out b)
      clear b z
      go_wp2
      refine bodyPost_ret (v := .bool true) (by simp [results, Tryd.results8, go_sem]) rfl ⟨rfl, H.out⟩
end Go.Proofs.YtplpmndchdockaaDoor.M
