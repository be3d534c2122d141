import Derived.Test.YtplpmndchdockaaDoorOpF
/-! RationalField: the walk. -/
namespace Go.Proofs.YtplpmndchdockaaDoor.M
open Go Go.RowKit Go.Proofs.YtplpmndchdockaaDoorV.PrintWords
set_option autoImplicit false
set_option linter.unusedVariables false
set_option linter.unusedSimpArgs false

theorem bN_zero : bN 0 = ⟨#[48]⟩ := by decide +kernel
theorem bN_eq_zero {q : Rat} (h : bN q = ⟨#[48]⟩) : q = 0 := by
  have h1 : cs (bN q) = [48] := by rw [h]; rfl
  rw [cs_bN] at h1
  unfold numTx at h1
  split at h1
  · injection h1 with h1 _; omega
  · rw [tx_eq_zero] at h1; exact (q0_iff q).mpr h1
set_option maxRecDepth 20000 in
set_option maxHeartbeats 8000000 in
theorem field_c (w : World) (a b c d e f : Int) (a0 : -2147483648 ≤ a) (a1 : a ≤ 2147483647) (b0 : -2147483648 ≤ b) (b1 : b ≤ 2147483647) (c0 : -2147483648 ≤ c) (c1 : c ≤ 2147483647) (d0 : -2147483648 ≤ d) (d1 : d ≤ 2147483647) (e0 : -2147483648 ≤ e) (e1 : e ≤ 2147483647) (f0 : -2147483648 ≤ f) (f1 : f ≤ 2147483647) :
    Calls Tryd.prog 7 #[.int .i32 a, .int .i32 b, .int .i32 c, .int .i32 d, .int .i32 e, .int .i32 f] w fun e w' => e = .returned (.bool true) ∧ Below w.heap.size w w' := by
  obtain ⟨x, hx, Bx⟩ := ofL_some a0 a1 b0 b1
  obtain ⟨y, hy, By⟩ := ofL_some c0 c1 d0 d1
  obtain ⟨z, hz, Bz⟩ := ofL_some e0 e1 f0 f1
  have fx : Fits x := Bx.fits (by omega)
  have fy : Fits y := By.fits (by omega)
  have fz : Fits z := Bz.fits (by omega)
  have Fx := ofL_f a0 a1 b0 b1 hx fx
  have Fy := ofL_f c0 c1 d0 d1 hy fy
  have Fz := ofL_f e0 e1 f0 f1 hz fz
  have Bxy := B2.add Bx By
  have Byz := B2.add By Bz
  have Bs := B2.add Bxy Bz
  have Mxy := B2.mul Bx By
  have Myz := B2.mul By Bz
  have Mxz := B2.mul Bx Bz
  have Mxyz := B2.mul Mxy Bz
  have Msum := B2.mul Bxy Bz
  have C1 := add_f fx fy (Bxy.fits (by omega)) rfl
  have C2 := add_f fy fx (Bxy.fits (by omega)) (Rat.add_comm y x)
  have C3 := add_f (Bxy.fits (by omega)) fz (Bs.fits (by omega)) rfl
  have C4 := add_f fy fz (Byz.fits (by omega)) rfl
  have C5 := add_f fx (Byz.fits (by omega)) (Bs.fits (by omega)) (Rat.add_assoc x y z).symm
  have C6 := sub_f (Bxy.fits (by omega)) fy fx (by grind)
  have C7 := mul_f fx fy (Mxy.fits (by omega)) rfl
  have C8 := mul_f fy fx (Mxy.fits (by omega)) (Rat.mul_comm y x)
  have C9 := mul_f (Mxy.fits (by omega)) fz (Mxyz.fits (by omega)) rfl
  have C10 := mul_f fy fz (Myz.fits (by omega)) rfl
  have C11 := mul_f fx (Myz.fits (by omega)) (Mxyz.fits (by omega)) (Rat.mul_assoc x y z).symm
  have C12 := mul_f (Bxy.fits (by omega)) fz (Msum.fits (by omega)) rfl
  have C13 := mul_f fx fz (Mxz.fits (by omega)) rfl
  have C14 := add_f (Mxz.fits (by omega)) (Myz.fits (by omega)) (Msum.fits (by omega)) (Rat.add_mul x y z).symm
  have C15 : (y = 0 ∧ bN y = ⟨#[48]⟩ ∧ ∀ W : World, Calls Tryd.prog 30 #[.agg #[.string (bN (x * y)), .string (bD (x * y))], .agg #[.string (bN y), .string (bD y)]] W fun e w' => e = .returned (.tuple #[.agg #[.string ⟨#[]⟩, .string ⟨#[]⟩], .bool false]) ∧ Below W.heap.size W w') ∨ ((¬ (bN y).toList = [48]) ∧ Op2 30 (bN (x * y)) (bD (x * y)) (bN y) (bD y) (bN x) (bD x)) := by
    by_cases h : y = 0
    · refine .inl ⟨h, by rw [h]; exact bN_zero, fun W => ?_⟩
      have := pdiv_c W _ (bD (x * y)) (bN y) (bD y) (bN_size (Mxy.fits (by omega))) (bN_size fy)
      rw [rdQ_rt (Mxy.fits (by omega)), rdQ_rt fy] at this
      have e : divQ (some (x * y)) (some y) = none := by unfold divQ; dsimp only; rw [if_pos ((q0_iff y).mp h)]
      rw [e, wV_none] at this
      exact this
    · exact .inr ⟨fun hc => h (bN_eq_zero (cs_inj ((one_byte _ 48).mp hc))), div_f (Mxy.fits (by omega)) fy fx h (by rw [Rat.mul_div_cancel h])⟩
  clear hx hy hz fx fy fz Bx By Bz Bxy Byz Bs Mxy Myz Mxz Mxyz Msum
  generalize bN ((x + y) * z) = Ng' at *
  generalize bD ((x + y) * z) = Dg' at *
  generalize bN (x * y * z) = Ne at *
  generalize bD (x * y * z) = De at *
  generalize bN (x + y + z) = Nb at *
  generalize bD (x + y + z) = Db at *
  generalize bN (x + y) = Na at *
  generalize bD (x + y) = Da at *
  generalize bN (y + z) = Nc at *
  generalize bD (y + z) = Dc at *
  generalize bN (x * y) = Nd at *
  generalize bD (x * y) = Dd at *
  generalize bN (y * z) = Nf' at *
  generalize bD (y * z) = Df' at *
  generalize bN (x * z) = Nh at *
  generalize bD (x * z) = Dh at *
  generalize bN (x) = Nx at *
  generalize bD (x) = Dx at *
  generalize bN (y) = Ny at *
  generalize bD (y) = Dy at *
  generalize bN (z) = Nz at *
  generalize bD (z) = Dz at *
  have fin : Calls Tryd.prog 7 #[.int .i32 a, .int .i32 b, .int .i32 c, .int .i32 d, .int .i32 e, .int .i32 f] w fun e w' => e = .returned (.bool true) ∧ Below w.heap.size w w' := by
    rcases C15 with ⟨-, rfl, C15⟩ | ⟨hne, C15⟩
    · replace C1 := Aside0.mk C1
      replace C2 := Aside0.mk C2
      replace C3 := Aside0.mk C3
      replace C4 := Aside0.mk C4
      replace C5 := Aside0.mk C5
      replace C6 := Aside0.mk C6
      replace C7 := Aside0.mk C7
      replace C8 := Aside0.mk C8
      replace C9 := Aside0.mk C9
      replace C10 := Aside0.mk C10
      replace C11 := Aside0.mk C11
      replace C12 := Aside0.mk C12
      replace C13 := Aside0.mk C13
      replace C14 := Aside0.mk C14
      replace C15 := Aside0.mk C15
      replace Fx := Aside0.mk Fx
      replace Fy := Aside0.mk Fy
      replace Fz := Aside0.mk Fz
      go_enter Tryd.func7, Tryd.ntmps7
      go_wp2_with fail
      refine afterV (awake_c _) ?_; intro w1 b1 z1 hc1 hf1; have H := Aside0.mk b1; clear b1 z1 hc1 hf1
      go_wp2_with fail
      refine afterV (Fx.out _) ?_; intro w2 b2 z2 hc2 hf2; replace H := Aside0.mk (below_trans H.out b2); clear b2 z2 hc2 hf2
      go_wp2_with fail
      refine afterV (Fy.out _) ?_; intro w3 b3 z3 hc3 hf3; replace H := Aside0.mk (below_trans H.out b3); clear b3 z3 hc3 hf3
      go_wp2_with fail
      refine afterV (Fz.out _) ?_; intro w4 b4 z4 hc4 hf4; replace H := Aside0.mk (below_trans H.out b4); clear b4 z4 hc4 hf4
      go_wp2_with fail
      refine afterV (C1.out _) ?_; intro w5 b z _ _
      have sx : St w5 w4.heap.size Nx Dx := ⟨pw_cell_below b (by simp [go_sem]), pw_cell_below b (by simp [go_sem]), Nat.lt_of_lt_of_le (by first | (simp; done) | (simp; omega)) b.size⟩
      have sy : St w5 (w4.heap.size + 1) ⟨#[48]⟩ Dy := ⟨pw_cell_below b (by simp [go_sem]), pw_cell_below b (by simp [go_sem]), Nat.lt_of_lt_of_le (by first | (simp; done) | (simp; omega)) b.size⟩
      have sz : St w5 (w4.heap.size + 2) Nz Dz := ⟨pw_cell_below b (by simp [go_sem]), pw_cell_below b (by simp [go_sem]), Nat.lt_of_lt_of_le (by first | (simp; done) | (simp; omega)) b.size⟩
      replace H := Aside0.mk (below_trans (below_alloc (below_alloc (below_alloc H.out _) _) _) b)
      clear b z
      go_wp2_with fail
      refine afterV (C2.out _) ?_; intro w6 b z _ _
      replace sx := sx.up b
      replace sy := sy.up b
      replace sz := sz.up b
      have s1 := St.new b
      replace H := Aside0.mk (below_trans (below_alloc H.out _) b)
      clear b z
      go_wp2_with fail
      refine afterV (C3.out _) ?_; intro w7 b z _ _
      replace sx := sx.up b
      replace sy := sy.up b
      replace sz := sz.up b
      replace s1 := s1.up b
      have s2 := St.new b
      replace H := Aside0.mk (below_trans (below_alloc H.out _) b)
      clear b z
      go_wp2_with fail
      refine afterV (C4.out _) ?_; intro w8 b z _ _
      replace sx := sx.up b
      replace sy := sy.up b
      replace sz := sz.up b
      replace s1 := s1.up b
      replace s2 := s2.up b
      have s3 := St.new b
      replace H := Aside0.mk (below_trans (below_alloc H.out _) b)
      clear b z
      go_wp2_with fail
      refine afterV (C5.out _) ?_; intro w9 b z _ _
      replace sx := sx.up b
      replace sy := sy.up b
      replace sz := sz.up b
      replace s1 := s1.up b
      replace s2 := s2.up b
      replace s3 := s3.up b
      have s4 := St.new b
      replace H := Aside0.mk (below_trans (below_alloc H.out _) b)
      clear b z
      go_wp2_with fail
      refine afterV (C6.out _) ?_; intro w10 b z _ _
      replace sx := sx.up b
      replace sy := sy.up b
      replace sz := sz.up b
      replace s1 := s1.up b
      replace s2 := s2.up b
      replace s3 := s3.up b
      replace s4 := s4.up b
      have s5 := St.new b
      replace H := Aside0.mk (below_trans (below_alloc H.out _) b)
      clear b z
      go_wp2_with fail
      refine afterV (C7.out _) ?_; intro w11 b z _ _
      replace sx := sx.up b
      replace sy := sy.up b
      replace sz := sz.up b
      replace s1 := s1.up b
      replace s2 := s2.up b
      replace s3 := s3.up b
      replace s4 := s4.up b
      replace s5 := s5.up b
      have s6 := St.new b
      replace H := Aside0.mk (below_trans (below_alloc H.out _) b)
      clear b z
      go_wp2_with fail
      refine afterV (C8.out _) ?_; intro w12 b z _ _
      replace sx := sx.up b
      replace sy := sy.up b
      replace sz := sz.up b
      replace s1 := s1.up b
      replace s2 := s2.up b
      replace s3 := s3.up b
      replace s4 := s4.up b
      replace s5 := s5.up b
      replace s6 := s6.up b
      have s7 := St.new b
      replace H := Aside0.mk (below_trans (below_alloc H.out _) b)
      clear b z
      go_wp2_with fail
      refine afterV (C9.out _) ?_; intro w13 b z _ _
      replace sx := sx.up b
      replace sy := sy.up b
      replace sz := sz.up b
      replace s1 := s1.up b
      replace s2 := s2.up b
      replace s3 := s3.up b
      replace s4 := s4.up b
      replace s5 := s5.up b
      replace s6 := s6.up b
      replace s7 := s7.up b
      have s8 := St.new b
      replace H := Aside0.mk (below_trans (below_alloc H.out _) b)
      clear b z
      go_wp2_with fail
      refine afterV (C10.out _) ?_; intro w14 b z _ _
      replace sx := sx.up b
      replace sy := sy.up b
      replace sz := sz.up b
      replace s1 := s1.up b
      replace s2 := s2.up b
      replace s3 := s3.up b
      replace s4 := s4.up b
      replace s5 := s5.up b
      replace s6 := s6.up b
      replace s7 := s7.up b
      replace s8 := s8.up b
      have s9 := St.new b
      replace H := Aside0.mk (below_trans (below_alloc H.out _) b)
      clear b z
      go_wp2_with fail
      refine afterV (C11.out _) ?_; intro w15 b z _ _
      replace sx := sx.up b
      replace sy := sy.up b
      replace sz := sz.up b
      replace s1 := s1.up b
      replace s2 := s2.up b
      replace s3 := s3.up b
      replace s4 := s4.up b
      replace s5 := s5.up b
      replace s6 := s6.up b
      replace s7 := s7.up b
      replace s8 := s8.up b
      replace s9 := s9.up b
      have s10 := St.new b
      replace H := Aside0.mk (below_trans (below_alloc H.out _) b)
      clear b z
      go_wp2_with fail
      refine afterV (C12.out _) ?_; intro w16 b z _ _
      replace sx := sx.up b
      replace sy := sy.up b
      replace sz := sz.up b
      replace s1 := s1.up b
      replace s2 := s2.up b
      replace s3 := s3.up b
      replace s4 := s4.up b
      replace s5 := s5.up b
      replace s6 := s6.up b
      replace s7 := s7.up b
      replace s8 := s8.up b
      replace s9 := s9.up b
      replace s10 := s10.up b
      have s11 := St.new b
      replace H := Aside0.mk (below_trans (below_alloc H.out _) b)
      clear b z
      go_wp2_with fail
      refine afterV (C13.out _) ?_; intro w17 b z _ _
      replace sx := sx.up b
      replace sy := sy.up b
      replace sz := sz.up b
      replace s1 := s1.up b
      replace s2 := s2.up b
      replace s3 := s3.up b
      replace s4 := s4.up b
      replace s5 := s5.up b
      replace s6 := s6.up b
      replace s7 := s7.up b
      replace s8 := s8.up b
      replace s9 := s9.up b
      replace s10 := s10.up b
      replace s11 := s11.up b
      have s12 := St.new b
      replace H := Aside0.mk (below_trans (below_alloc H.out _) b)
      clear b z
      go_wp2_with fail
      refine afterV (C14.out _) ?_; intro w18 b z _ _
      replace sx := sx.up b
      replace sy := sy.up b
      replace sz := sz.up b
      replace s1 := s1.up b
      replace s2 := s2.up b
      replace s3 := s3.up b
      replace s4 := s4.up b
      replace s5 := s5.up b
      replace s6 := s6.up b
      replace s7 := s7.up b
      replace s8 := s8.up b
      replace s9 := s9.up b
      replace s10 := s10.up b
      replace s11 := s11.up b
      replace s12 := s12.up b
      have s13 := St.new b
      replace H := Aside0.mk (below_trans (below_alloc H.out _) b)
      clear b z
      go_wp2_with fail
      refine afterV (C15.out _) ?_; intro w19 b z _ _
      replace sx := sx.up b
      replace sy := sy.up b
      replace sz := sz.up b
      replace s1 := s1.up b
      replace s2 := s2.up b
      replace s3 := s3.up b
      replace s4 := s4.up b
      replace s5 := s5.up b
      replace s6 := s6.up b
      replace s7 := s7.up b
      replace s8 := s8.up b
      replace s9 := s9.up b
      replace s10 := s10.up b
      replace s11 := s11.up b
      replace s12 := s12.up b
      replace s13 := s13.up b
      replace H := Aside0.mk (below_trans (below_alloc H.out _) b)
      clear b z
      go_wp2
      refine bodyPost_ret (v := .bool true) (by simp [results, Tryd.results7, go_sem]) rfl ⟨rfl, ?_⟩
      repeat first | (with_reducible exact H.out) | refine below_alloc ?_ _
    · replace C1 := Aside0.mk C1
      replace C2 := Aside0.mk C2
      replace C3 := Aside0.mk C3
      replace C4 := Aside0.mk C4
      replace C5 := Aside0.mk C5
      replace C6 := Aside0.mk C6
      replace C7 := Aside0.mk C7
      replace C8 := Aside0.mk C8
      replace C9 := Aside0.mk C9
      replace C10 := Aside0.mk C10
      replace C11 := Aside0.mk C11
      replace C12 := Aside0.mk C12
      replace C13 := Aside0.mk C13
      replace C14 := Aside0.mk C14
      have hne2 : (Ny.toList == [48]) = false := by rw [beq_eq_false_iff_ne]; exact hne
      clear hne
      replace C15 := Aside0.mk C15
      replace Fx := Aside0.mk Fx
      replace Fy := Aside0.mk Fy
      replace Fz := Aside0.mk Fz
      go_enter Tryd.func7, Tryd.ntmps7
      go_wp2_with fail
      refine afterV (awake_c _) ?_; intro w1 b1 z1 hc1 hf1; have H := Aside0.mk b1; clear b1 z1 hc1 hf1
      go_wp2_with fail
      refine afterV (Fx.out _) ?_; intro w2 b2 z2 hc2 hf2; replace H := Aside0.mk (below_trans H.out b2); clear b2 z2 hc2 hf2
      go_wp2_with fail
      refine afterV (Fy.out _) ?_; intro w3 b3 z3 hc3 hf3; replace H := Aside0.mk (below_trans H.out b3); clear b3 z3 hc3 hf3
      go_wp2_with fail
      refine afterV (Fz.out _) ?_; intro w4 b4 z4 hc4 hf4; replace H := Aside0.mk (below_trans H.out b4); clear b4 z4 hc4 hf4
      go_wp2_with fail
      refine afterV (C1.out _) ?_; intro w5 b z _ _
      have sx : St w5 w4.heap.size Nx Dx := ⟨pw_cell_below b (by simp [go_sem]), pw_cell_below b (by simp [go_sem]), Nat.lt_of_lt_of_le (by first | (simp; done) | (simp; omega)) b.size⟩
      have sy : St w5 (w4.heap.size + 1) Ny Dy := ⟨pw_cell_below b (by simp [go_sem]), pw_cell_below b (by simp [go_sem]), Nat.lt_of_lt_of_le (by first | (simp; done) | (simp; omega)) b.size⟩
      have sz : St w5 (w4.heap.size + 2) Nz Dz := ⟨pw_cell_below b (by simp [go_sem]), pw_cell_below b (by simp [go_sem]), Nat.lt_of_lt_of_le (by first | (simp; done) | (simp; omega)) b.size⟩
      replace H := Aside0.mk (below_trans (below_alloc (below_alloc (below_alloc H.out _) _) _) b)
      clear b z
      go_wp2_with fail
      refine afterV (C2.out _) ?_; intro w6 b z _ _
      replace sx := sx.up b
      replace sy := sy.up b
      replace sz := sz.up b
      have s1 := St.new b
      replace H := Aside0.mk (below_trans (below_alloc H.out _) b)
      clear b z
      go_wp2_with fail
      refine afterV (C3.out _) ?_; intro w7 b z _ _
      replace sx := sx.up b
      replace sy := sy.up b
      replace sz := sz.up b
      replace s1 := s1.up b
      have s2 := St.new b
      replace H := Aside0.mk (below_trans (below_alloc H.out _) b)
      clear b z
      go_wp2_with fail
      refine afterV (C4.out _) ?_; intro w8 b z _ _
      replace sx := sx.up b
      replace sy := sy.up b
      replace sz := sz.up b
      replace s1 := s1.up b
      replace s2 := s2.up b
      have s3 := St.new b
      replace H := Aside0.mk (below_trans (below_alloc H.out _) b)
      clear b z
      go_wp2_with fail
      refine afterV (C5.out _) ?_; intro w9 b z _ _
      replace sx := sx.up b
      replace sy := sy.up b
      replace sz := sz.up b
      replace s1 := s1.up b
      replace s2 := s2.up b
      replace s3 := s3.up b
      have s4 := St.new b
      replace H := Aside0.mk (below_trans (below_alloc H.out _) b)
      clear b z
      go_wp2_with fail
      refine afterV (C6.out _) ?_; intro w10 b z _ _
      replace sx := sx.up b
      replace sy := sy.up b
      replace sz := sz.up b
      replace s1 := s1.up b
      replace s2 := s2.up b
      replace s3 := s3.up b
      replace s4 := s4.up b
      have s5 := St.new b
      replace H := Aside0.mk (below_trans (below_alloc H.out _) b)
      clear b z
      go_wp2_with fail
      refine afterV (C7.out _) ?_; intro w11 b z _ _
      replace sx := sx.up b
      replace sy := sy.up b
      replace sz := sz.up b
      replace s1 := s1.up b
      replace s2 := s2.up b
      replace s3 := s3.up b
      replace s4 := s4.up b
      replace s5 := s5.up b
      have s6 := St.new b
      replace H := Aside0.mk (below_trans (below_alloc H.out _) b)
      clear b z
      go_wp2_with fail
      refine afterV (C8.out _) ?_; intro w12 b z _ _
      replace sx := sx.up b
      replace sy := sy.up b
      replace sz := sz.up b
      replace s1 := s1.up b
      replace s2 := s2.up b
      replace s3 := s3.up b
      replace s4 := s4.up b
      replace s5 := s5.up b
      replace s6 := s6.up b
      have s7 := St.new b
      replace H := Aside0.mk (below_trans (below_alloc H.out _) b)
      clear b z
      go_wp2_with fail
      refine afterV (C9.out _) ?_; intro w13 b z _ _
      replace sx := sx.up b
      replace sy := sy.up b
      replace sz := sz.up b
      replace s1 := s1.up b
      replace s2 := s2.up b
      replace s3 := s3.up b
      replace s4 := s4.up b
      replace s5 := s5.up b
      replace s6 := s6.up b
      replace s7 := s7.up b
      have s8 := St.new b
      replace H := Aside0.mk (below_trans (below_alloc H.out _) b)
      clear b z
      go_wp2_with fail
      refine afterV (C10.out _) ?_; intro w14 b z _ _
      replace sx := sx.up b
      replace sy := sy.up b
      replace sz := sz.up b
      replace s1 := s1.up b
      replace s2 := s2.up b
      replace s3 := s3.up b
      replace s4 := s4.up b
      replace s5 := s5.up b
      replace s6 := s6.up b
      replace s7 := s7.up b
      replace s8 := s8.up b
      have s9 := St.new b
      replace H := Aside0.mk (below_trans (below_alloc H.out _) b)
      clear b z
      go_wp2_with fail
      refine afterV (C11.out _) ?_; intro w15 b z _ _
      replace sx := sx.up b
      replace sy := sy.up b
      replace sz := sz.up b
      replace s1 := s1.up b
      replace s2 := s2.up b
      replace s3 := s3.up b
      replace s4 := s4.up b
      replace s5 := s5.up b
      replace s6 := s6.up b
      replace s7 := s7.up b
      replace s8 := s8.up b
      replace s9 := s9.up b
      have s10 := St.new b
      replace H := Aside0.mk (below_trans (below_alloc H.out _) b)
      clear b z
      go_wp2_with fail
      refine afterV (C12.out _) ?_; intro w16 b z _ _
      replace sx := sx.up b
      replace sy := sy.up b
      replace sz := sz.up b
      replace s1 := s1.up b
      replace s2 := s2.up b
      replace s3 := s3.up b
      replace s4 := s4.up b
      replace s5 := s5.up b
      replace s6 := s6.up b
      replace s7 := s7.up b
      replace s8 := s8.up b
      replace s9 := s9.up b
      replace s10 := s10.up b
      have s11 := St.new b
      replace H := Aside0.mk (below_trans (below_alloc H.out _) b)
      clear b z
      go_wp2_with fail
      refine afterV (C13.out _) ?_; intro w17 b z _ _
      replace sx := sx.up b
      replace sy := sy.up b
      replace sz := sz.up b
      replace s1 := s1.up b
      replace s2 := s2.up b
      replace s3 := s3.up b
      replace s4 := s4.up b
      replace s5 := s5.up b
      replace s6 := s6.up b
      replace s7 := s7.up b
      replace s8 := s8.up b
      replace s9 := s9.up b
      replace s10 := s10.up b
      replace s11 := s11.up b
      have s12 := St.new b
      replace H := Aside0.mk (below_trans (below_alloc H.out _) b)
      clear b z
      go_wp2_with fail
      refine afterV (C14.out _) ?_; intro w18 b z _ _
      replace sx := sx.up b
      replace sy := sy.up b
      replace sz := sz.up b
      replace s1 := s1.up b
      replace s2 := s2.up b
      replace s3 := s3.up b
      replace s4 := s4.up b
      replace s5 := s5.up b
      replace s6 := s6.up b
      replace s7 := s7.up b
      replace s8 := s8.up b
      replace s9 := s9.up b
      replace s10 := s10.up b
      replace s11 := s11.up b
      replace s12 := s12.up b
      have s13 := St.new b
      replace H := Aside0.mk (below_trans (below_alloc H.out _) b)
      clear b z
      go_wp2_with fail
      refine afterV (C15.out _) ?_; intro w19 b z _ _
      replace sx := sx.up b
      replace sy := sy.up b
      replace sz := sz.up b
      replace s1 := s1.up b
      replace s2 := s2.up b
      replace s3 := s3.up b
      replace s4 := s4.up b
      replace s5 := s5.up b
      replace s6 := s6.up b
      replace s7 := s7.up b
      replace s8 := s8.up b
      replace s9 := s9.up b
      replace s10 := s10.up b
      replace s11 := s11.up b
      replace s12 := s12.up b
      replace s13 := s13.up b
      replace H := Aside0.mk (below_trans (below_alloc H.out _) b)
      clear b z
      go_wp2
      refine bodyPost_ret (v := .bool true) (by simp [results, Tryd.results7, go_sem]) rfl ⟨rfl, ?_⟩
      repeat first | (with_reducible exact H.out) | refine below_alloc ?_ _
  exact fin
end Go.Proofs.YtplpmndchdockaaDoor.M
