-- Written by a program of this session over the kit's print of the translation. Not trusted: Lean checks it.
import Derived.Test.YtplpmndchdockaaPr0
import Derived.Test.YtplpmndchdockaaPr4
import Derived.Test.YtplpmndchdockaaPr8
namespace Go.Proofs.Ytplpmndchdockaa.Pr
open Go.RowKit Go.Proofs.YtplpmndchdockaaV.PrintWords Go.Proofs.YtplpmndchdockaaV.PrintLast Go.Proofs.YtplpmndchdockaaV.PrintMore
attribute [local go_sem] max2_int min2_int max_two min_two max_three min_three max_four min_four   -- for this text's walks alone
set_option linter.unusedVariables false
set_option linter.unusedSimpArgs false

/-! ### flagstoneref37_quotient: function 38 -/
def flagstoneref37_quotient.f (k : Nat) (a0 : Int) (a1 : Int) : Option (Int × Int × Bool) := (flagstoneref37_size.f a0).bind fun bt251 => ((flagstoneref37_size.f a1).bind fun bt253 => (if (bt251.1 / 4294967296) ≥ bt253.1 then (some (0, 0, false)) else ((bits_Div64.f k (bt251.1 / 4294967296) (IntKind.u64.wrap (bt251.1 * 4294967296)) bt253.1).bind fun bt255 => (if bt255.1 > 2305843009213693952 then (some (0, 0, false)) else ((flagstoneref37_rounded.f k (bt251.2 != bt253.2) bt255.1 (decide (bt255.2 > 0))).bind fun bt257 => (some (bt257.1, bt257.2.1, bt257.2.2)))))))
theorem flagstoneref37_quotient.mono : ∀ a0 a1 k, LeO (flagstoneref37_quotient.f k a0 a1) (flagstoneref37_quotient.f (k + 1) a0 a1) := by
 intro a0 a1 k
 unfold flagstoneref37_quotient.f
 repeat' first
   | (with_reducible exact bits_Div64.mono _ _ _ _)
   | (with_reducible exact flagstoneref37_rounded.mono _ _ _ _)
   | (with_reducible exact LeO.refl _)
   | (with_reducible exact LeO.none _)
   | (with_reducible refine LeO.ite ?_ ?_)
   | (with_reducible refine LeO.bind ?_ (fun _ => ?_))
   | exact bits_Div64.mono _ _ _ _
   | exact flagstoneref37_rounded.mono _ _ _ _
   | exact LeO.none _
   | refine LeO.ite ?_ ?_
   | refine LeO.bind ?_ (fun _ => ?_)
set_option maxHeartbeats 8000000 in
set_option maxRecDepth 100000 in
theorem flagstoneref37_quotient.calls (k : Nat) (a0 : Int) (a1 : Int) (r1 : Int) (r2 : Int) (r3 : Bool) (w : World) (h : flagstoneref37_quotient.f k a0 a1 = some (r1, r2, r3)) :
  Calls Try.prog 38 #[.int .i64 a0, .int .i64 a1] w fun e w' => e = .returned (.tuple #[.int .i64 r1, .int .i64 r2, .bool r3]) ∧ Drawn0 w w' := by
 have H : ((flagstoneref37_size.f a0).bind fun bt251 => ((flagstoneref37_size.f a1).bind fun bt253 => (if (bt251.1 / 4294967296) ≥ bt253.1 then (some (0, 0, false)) else ((bits_Div64.f k (bt251.1 / 4294967296) (IntKind.u64.wrap (bt251.1 * 4294967296)) bt253.1).bind fun bt255 => (if bt255.1 > 2305843009213693952 then (some (0, 0, false)) else ((flagstoneref37_rounded.f k (bt251.2 != bt253.2) bt255.1 (decide (bt255.2 > 0))).bind fun bt257 => (some (bt257.1, bt257.2.1, bt257.2.2)))))))) = some (r1, r2, r3) := h
 clear h
 replace H := Option.bind_eq_some_iff.mp H
 obtain ⟨⟨t251, t252⟩, A30, H⟩ := H
 replace H : ((flagstoneref37_size.f a1).bind fun bt253 => (if (t251 / 4294967296) ≥ bt253.1 then (some (0, 0, false)) else ((bits_Div64.f k (t251 / 4294967296) (IntKind.u64.wrap (t251 * 4294967296)) bt253.1).bind fun bt255 => (if bt255.1 > 2305843009213693952 then (some (0, 0, false)) else ((flagstoneref37_rounded.f k (t252 != bt253.2) bt255.1 (decide (bt255.2 > 0))).bind fun bt257 => (some (bt257.1, bt257.2.1, bt257.2.2))))))) = some (r1, r2, r3) := H
 have A3 := Aside0.mk A30
 clear A30
 replace H := Option.bind_eq_some_iff.mp H
 obtain ⟨⟨t253, t254⟩, A40, H⟩ := H
 replace H : (if (t251 / 4294967296) ≥ t253 then (some (0, 0, false)) else ((bits_Div64.f k (t251 / 4294967296) (IntKind.u64.wrap (t251 * 4294967296)) t253).bind fun bt255 => (if bt255.1 > 2305843009213693952 then (some (0, 0, false)) else ((flagstoneref37_rounded.f k (t252 != t254) bt255.1 (decide (bt255.2 > 0))).bind fun bt257 => (some (bt257.1, bt257.2.1, bt257.2.2)))))) = some (r1, r2, r3) := H
 have A4 := Aside0.mk A40
 clear A40
 by_cases c5 : (t251 / 4294967296) ≥ t253
 ·rw [if_pos c5] at H
  have c5b0 : decide (t253 ≤ (t251 / 4294967296)) = true := decide_eq_true c5
  clear c5
  simp only [Option.some.injEq, Prod.mk.injEq] at H
  obtain ⟨rfl, rfl, rfl⟩ := H
  go_enter Try.func38, Try.ntmps38
  go_wp2_with (first | ((with_reducible refine gate_callee (f := 41) rfl ?_); refine goesL_ (some 15) rfl rfl Try.func41 (by kernel_rfl) rfl #[.int .i64 a0] rfl (by (try simp only [List.map_toArray, List.map_cons, List.map_nil]); first | done | rfl | (simp only [List.length_drop, List.length_take]; rfl)) ?_; (with_reducible refine (flagstoneref37_size.calls a0 t251 t252 _ A3.out).mono ?_); rintro e w' ⟨rfl, ⟨nd, rfl⟩⟩; refine ⟨_, rfl, ?_⟩) | ((with_reducible refine gate_callee (f := 41) rfl ?_); refine goesL_ (some 20) rfl rfl Try.func41 (by kernel_rfl) rfl #[.int .i64 a1] rfl (by (try simp only [List.map_toArray, List.map_cons, List.map_nil]); first | done | rfl | (simp only [List.length_drop, List.length_take]; rfl)) ?_; (with_reducible refine (flagstoneref37_size.calls a1 t253 t254 _ A4.out).mono ?_); rintro e w' ⟨rfl, ⟨nd, rfl⟩⟩; refine ⟨_, rfl, ?_⟩))
  go_ret3
  exact ⟨by first | rfl | (simp; done) | (simp [*]; done), by repeat (first | exact Drawn0.refl _ | apply Drawn0.step)⟩
 ·rw [if_neg c5] at H
  have c5b0 : decide (t253 ≤ (t251 / 4294967296)) = false := decide_eq_false c5
  clear c5
  replace H := Option.bind_eq_some_iff.mp H
  obtain ⟨⟨t255, t256⟩, A60, H⟩ := H
  replace H : (if t255 > 2305843009213693952 then (some (0, 0, false)) else ((flagstoneref37_rounded.f k (t252 != t254) t255 (decide (t256 > 0))).bind fun bt257 => (some (bt257.1, bt257.2.1, bt257.2.2)))) = some (r1, r2, r3) := H
  have A6 := Aside0.mk A60
  clear A60
  by_cases c7 : t255 > 2305843009213693952
  ·rw [if_pos c7] at H
   have c7b0 : decide (2305843009213693952 < t255) = true := decide_eq_true c7
   clear c7
   simp only [Option.some.injEq, Prod.mk.injEq] at H
   obtain ⟨rfl, rfl, rfl⟩ := H
   go_enter Try.func38, Try.ntmps38
   go_wp2_with (first | ((with_reducible refine gate_callee (f := 41) rfl ?_); refine goesL_ (some 15) rfl rfl Try.func41 (by kernel_rfl) rfl #[.int .i64 a0] rfl (by (try simp only [List.map_toArray, List.map_cons, List.map_nil]); first | done | rfl | (simp only [List.length_drop, List.length_take]; rfl)) ?_; (with_reducible refine (flagstoneref37_size.calls a0 t251 t252 _ A3.out).mono ?_); rintro e w' ⟨rfl, ⟨nd, rfl⟩⟩; refine ⟨_, rfl, ?_⟩) | ((with_reducible refine gate_callee (f := 41) rfl ?_); refine goesL_ (some 20) rfl rfl Try.func41 (by kernel_rfl) rfl #[.int .i64 a1] rfl (by (try simp only [List.map_toArray, List.map_cons, List.map_nil]); first | done | rfl | (simp only [List.length_drop, List.length_take]; rfl)) ?_; (with_reducible refine (flagstoneref37_size.calls a1 t253 t254 _ A4.out).mono ?_); rintro e w' ⟨rfl, ⟨nd, rfl⟩⟩; refine ⟨_, rfl, ?_⟩) | ((with_reducible refine gate_callee (f := 40) rfl ?_); refine goesL_ (some 33) rfl rfl Try.func40 (by kernel_rfl) rfl #[.int .u64 (t251 / 4294967296), .int .u64 (IntKind.u64.wrap (t251 * 4294967296)), .int .u64 t253] rfl (by (try simp only [List.map_toArray, List.map_cons, List.map_nil]); first | done | rfl | (simp only [List.length_drop, List.length_take]; rfl)) ?_; (with_reducible refine (bits_Div64.calls k (t251 / 4294967296) (IntKind.u64.wrap (t251 * 4294967296)) t253 t255 t256 _ A6.out).mono ?_); rintro e w' ⟨rfl, ⟨nd, rfl⟩⟩; refine ⟨_, rfl, ?_⟩))
   go_ret3
   exact ⟨by first | rfl | (simp; done) | (simp [*]; done), by repeat (first | exact Drawn0.refl _ | apply Drawn0.step)⟩
  ·rw [if_neg c7] at H
   have c7b0 : decide (2305843009213693952 < t255) = false := decide_eq_false c7
   clear c7
   replace H := Option.bind_eq_some_iff.mp H
   obtain ⟨⟨t257, t258, t259⟩, A80, H⟩ := H
   replace H : (some (t257, t258, t259)) = some (r1, r2, r3) := H
   have A8 := Aside0.mk A80
   clear A80
   simp only [Option.some.injEq, Prod.mk.injEq] at H
   obtain ⟨rfl, rfl, rfl⟩ := H
   go_enter Try.func38, Try.ntmps38
   go_wp2_with (first | ((with_reducible refine gate_callee (f := 41) rfl ?_); refine goesL_ (some 15) rfl rfl Try.func41 (by kernel_rfl) rfl #[.int .i64 a0] rfl (by (try simp only [List.map_toArray, List.map_cons, List.map_nil]); first | done | rfl | (simp only [List.length_drop, List.length_take]; rfl)) ?_; (with_reducible refine (flagstoneref37_size.calls a0 t251 t252 _ A3.out).mono ?_); rintro e w' ⟨rfl, ⟨nd, rfl⟩⟩; refine ⟨_, rfl, ?_⟩) | ((with_reducible refine gate_callee (f := 41) rfl ?_); refine goesL_ (some 20) rfl rfl Try.func41 (by kernel_rfl) rfl #[.int .i64 a1] rfl (by (try simp only [List.map_toArray, List.map_cons, List.map_nil]); first | done | rfl | (simp only [List.length_drop, List.length_take]; rfl)) ?_; (with_reducible refine (flagstoneref37_size.calls a1 t253 t254 _ A4.out).mono ?_); rintro e w' ⟨rfl, ⟨nd, rfl⟩⟩; refine ⟨_, rfl, ?_⟩) | ((with_reducible refine gate_callee (f := 40) rfl ?_); refine goesL_ (some 33) rfl rfl Try.func40 (by kernel_rfl) rfl #[.int .u64 (t251 / 4294967296), .int .u64 (IntKind.u64.wrap (t251 * 4294967296)), .int .u64 t253] rfl (by (try simp only [List.map_toArray, List.map_cons, List.map_nil]); first | done | rfl | (simp only [List.length_drop, List.length_take]; rfl)) ?_; (with_reducible refine (bits_Div64.calls k (t251 / 4294967296) (IntKind.u64.wrap (t251 * 4294967296)) t253 t255 t256 _ A6.out).mono ?_); rintro e w' ⟨rfl, ⟨nd, rfl⟩⟩; refine ⟨_, rfl, ?_⟩) | ((with_reducible refine gate_callee (f := 42) rfl ?_); refine goesL_ (some 44) rfl rfl Try.func42 (by kernel_rfl) rfl #[.bool (t252 != t254), .int .u64 t255, .bool (decide (t256 > 0))] rfl (by (try simp only [List.map_toArray, List.map_cons, List.map_nil]); first | done | rfl | (simp only [List.length_drop, List.length_take]; rfl)) ?_; (with_reducible refine (flagstoneref37_rounded.calls k (t252 != t254) t255 (decide (t256 > 0)) t257 t258 t259 _ A8.out).mono ?_); rintro e w' ⟨rfl, ⟨nd, rfl⟩⟩; refine ⟨_, rfl, ?_⟩))
   go_ret3
   exact ⟨by first | rfl | (simp; done) | (simp [*]; done), by repeat (first | exact Drawn0.refl _ | apply Drawn0.step)⟩

end Go.Proofs.Ytplpmndchdockaa.Pr
