-- Written by a program of this session over the kit's print of the translation. Not trusted: Lean checks it.
import Derived.Test.YtplpmndchdockaaDoorPr0
namespace Go.Proofs.YtplpmndchdockaaDoor.Pr
open Go.RowKit Go.Proofs.YtplpmndchdockaaDoorV.PrintWords Go.Proofs.YtplpmndchdockaaDoorV.PrintLast Go.Proofs.YtplpmndchdockaaDoorV.PrintMore
attribute [local go_sem] max2_int min2_int max_two min_two max_three min_three max_four min_four   -- for this text's walks alone
set_option linter.unusedVariables false
set_option linter.unusedSimpArgs false
/-! ### stringslite_HasPrefix: function 146 -/
def stringslite_HasPrefix.f (a0 : ByteArray) (a1 : ByteArray) : Option (Bool) := if (a0.size : Int) ≥ (a1.size : Int) then (if 0 ≤ (a1.size : Int) then (if (a1.size : Int) ≤ (a0.size : Int) then (some ((a0.extract 0 ((a1.size : Int) : Int).toNat).toList == a1.toList)) else (none)) else (none)) else (some false)
set_option maxHeartbeats 8000000 in
set_option maxRecDepth 100000 in
theorem stringslite_HasPrefix.calls (a0 : ByteArray) (a1 : ByteArray) (r : Bool) (w : World) (h : stringslite_HasPrefix.f a0 a1 = some r) :
  Calls Tryd.prog 146 #[.string a0, .string a1] w fun e w' => e = .returned (.bool r) ∧ Drawn0 w w' := by
 have H : (if (a0.size : Int) ≥ (a1.size : Int) then (if 0 ≤ (a1.size : Int) then (if (a1.size : Int) ≤ (a0.size : Int) then (some ((a0.extract 0 ((a1.size : Int) : Int).toNat).toList == a1.toList)) else (none)) else (none)) else (some false)) = some r := h
 clear h
 by_cases c3 : (a0.size : Int) ≥ (a1.size : Int)
 ·rw [if_pos c3] at H
  have c3b0 : decide ((a1.size : Int) ≤ (a0.size : Int)) = true := decide_eq_true c3
  have c3b1 : decide (a1.size ≤ a0.size) = true := decide_eq_true (Int.ofNat_le.mp c3)
  clear c3
  by_cases c4 : 0 ≤ (a1.size : Int)
  ·rw [if_pos c4] at H
   have c4b0 := eq_true c4
   have c4b1 : decide (0 ≤ (a1.size : Int)) = true := decide_eq_true c4
   clear c4
   by_cases c5 : (a1.size : Int) ≤ (a0.size : Int)
   ·rw [if_pos c5] at H
    have c5b0 := eq_true c5
    have c5b1 : decide ((a1.size : Int) ≤ (a0.size : Int)) = true := decide_eq_true c5
    clear c5
    obtain rfl := Option.some.inj H
    go_enter Tryd.func146, Tryd.ntmps146
    go_wp2
    go_ret
    exact ⟨by first | rfl | (simp; done) | (simp [*]; done), by repeat (first | exact Drawn0.refl _ | apply Drawn0.step)⟩
   ·rw [if_neg c5] at H
    exact absurd H (by simp)
  ·rw [if_neg c4] at H
   exact absurd H (by simp)
 ·rw [if_neg c3] at H
  have c3b0 : decide ((a1.size : Int) ≤ (a0.size : Int)) = false := decide_eq_false c3
  have c3b1 : decide (a1.size ≤ a0.size) = false := decide_eq_false (fun h => c3 (Int.ofNat_le.mpr h))
  clear c3
  obtain rfl := Option.some.inj H
  go_enter Tryd.func146, Tryd.ntmps146
  go_wp2
  go_ret
  exact ⟨by first | rfl | (simp; done) | (simp [*]; done), by repeat (first | exact Drawn0.refl _ | apply Drawn0.step)⟩
/-! ### stringslite_CutPrefix: function 137 -/
def stringslite_CutPrefix.f (a0 : ByteArray) (a1 : ByteArray) : Option (ByteArray × Bool) := (stringslite_HasPrefix.f a0 a1).bind fun t105 => (if t105 = true then (if 0 ≤ (a1.size : Int) then (if (a1.size : Int) ≤ (a0.size : Int) then (some (a0.extract ((a1.size : Int) : Int).toNat a0.size, true)) else (none)) else (none)) else (some (a0, false)))
set_option maxHeartbeats 8000000 in
set_option maxRecDepth 100000 in
theorem stringslite_CutPrefix.calls (a0 : ByteArray) (a1 : ByteArray) (r1 : ByteArray) (r2 : Bool) (w : World) (h : stringslite_CutPrefix.f a0 a1 = some (r1, r2)) :
  Calls Tryd.prog 137 #[.string a0, .string a1] w fun e w' => e = .returned (.tuple #[.string r1, .bool r2]) ∧ Drawn0 w w' := by
 have H : ((stringslite_HasPrefix.f a0 a1).bind fun t105 => (if t105 = true then (if 0 ≤ (a1.size : Int) then (if (a1.size : Int) ≤ (a0.size : Int) then (some (a0.extract ((a1.size : Int) : Int).toNat a0.size, true)) else (none)) else (none)) else (some (a0, false)))) = some (r1, r2) := h
 clear h
 replace H := Option.bind_eq_some_iff.mp H
 obtain ⟨t105, A30, H⟩ := H
 (try dsimp only at H)
 have A3 := Aside0.mk A30
 clear A30
 by_cases c4 : t105 = true
 ·subst c4
  rw [if_pos rfl] at H
  by_cases c5 : 0 ≤ (a1.size : Int)
  ·rw [if_pos c5] at H
   have c5b0 := eq_true c5
   have c5b1 : decide (0 ≤ (a1.size : Int)) = true := decide_eq_true c5
   clear c5
   by_cases c6 : (a1.size : Int) ≤ (a0.size : Int)
   ·rw [if_pos c6] at H
    have c6b0 := eq_true c6
    have c6b1 : decide ((a1.size : Int) ≤ (a0.size : Int)) = true := decide_eq_true c6
    clear c6
    simp only [Option.some.injEq, Prod.mk.injEq] at H
    obtain ⟨rfl, rfl⟩ := H
    go_enter Tryd.func137, Tryd.ntmps137
    go_wp2_with (first | ((with_reducible refine gate_callee (f := 146) rfl ?_); refine goesL_ (some 8) rfl rfl Tryd.func146 (by kernel_rfl) rfl #[.string a0, .string a1] rfl (by (try simp only [List.map_toArray, List.map_cons, List.map_nil]); first | done | rfl) ?_; (with_reducible refine (stringslite_HasPrefix.calls a0 a1 true _ A3.out).mono ?_); rintro e w' ⟨rfl, ⟨nd, rfl⟩⟩; refine ⟨_, rfl, ?_⟩))
    go_ret2
    exact ⟨by first | rfl | (simp; done) | (simp [*]; done), by repeat (first | exact Drawn0.refl _ | apply Drawn0.step)⟩
   ·rw [if_neg c6] at H
    exact absurd H (by simp)
  ·rw [if_neg c5] at H
   exact absurd H (by simp)
 ·replace c4 := Bool.eq_false_iff.mpr c4
  subst c4
  rw [if_neg (show ¬ (false = true) by decide)] at H
  simp only [Option.some.injEq, Prod.mk.injEq] at H
  obtain ⟨rfl, rfl⟩ := H
  go_enter Tryd.func137, Tryd.ntmps137
  go_wp2_with (first | ((with_reducible refine gate_callee (f := 146) rfl ?_); refine goesL_ (some 8) rfl rfl Tryd.func146 (by kernel_rfl) rfl #[.string a0, .string a1] rfl (by (try simp only [List.map_toArray, List.map_cons, List.map_nil]); first | done | rfl) ?_; (with_reducible refine (stringslite_HasPrefix.calls a0 a1 false _ A3.out).mono ?_); rintro e w' ⟨rfl, ⟨nd, rfl⟩⟩; refine ⟨_, rfl, ?_⟩))
  go_ret2
  exact ⟨by first | rfl | (simp; done) | (simp [*]; done), by repeat (first | exact Drawn0.refl _ | apply Drawn0.step)⟩
/-! ### strings_CutPrefix: function 107 -/
def strings_CutPrefix.f (a0 : ByteArray) (a1 : ByteArray) : Option (ByteArray × Bool) := (stringslite_CutPrefix.f a0 a1).bind fun bt106 => (some (bt106.1, bt106.2))
set_option maxHeartbeats 8000000 in
set_option maxRecDepth 100000 in
theorem strings_CutPrefix.calls (a0 : ByteArray) (a1 : ByteArray) (r1 : ByteArray) (r2 : Bool) (w : World) (h : strings_CutPrefix.f a0 a1 = some (r1, r2)) :
  Calls Tryd.prog 107 #[.string a0, .string a1] w fun e w' => e = .returned (.tuple #[.string r1, .bool r2]) ∧ Drawn0 w w' := by
 have H : ((stringslite_CutPrefix.f a0 a1).bind fun bt106 => (some (bt106.1, bt106.2))) = some (r1, r2) := h
 clear h
 replace H := Option.bind_eq_some_iff.mp H
 obtain ⟨⟨t106, t107⟩, A30, H⟩ := H
 (try dsimp only at H)
 have A3 := Aside0.mk A30
 clear A30
 simp only [Option.some.injEq, Prod.mk.injEq] at H
 obtain ⟨rfl, rfl⟩ := H
 go_enter Tryd.func107, Tryd.ntmps107
 go_wp2_with (first | ((with_reducible refine gate_callee (f := 137) rfl ?_); refine goesL_ (some 8) rfl rfl Tryd.func137 (by kernel_rfl) rfl #[.string a0, .string a1] rfl (by (try simp only [List.map_toArray, List.map_cons, List.map_nil]); first | done | rfl) ?_; (with_reducible refine (stringslite_CutPrefix.calls a0 a1 t106 t107 _ A3.out).mono ?_); rintro e w' ⟨rfl, ⟨nd, rfl⟩⟩; refine ⟨_, rfl, ?_⟩))
 go_ret2
 exact ⟨by first | rfl | (simp; done) | (simp [*]; done), by repeat (first | exact Drawn0.refl _ | apply Drawn0.step)⟩
/-! ### rational_digits: function 108 -/
mutual
def rational_digits.j0 : Nat → ByteArray → Bool → Option (Bool)
 | 0, _, _ => none
 | k + 1, x0, x21 => if x21 = true then (some false) else (rational_digits.l0 k x0 (x0.size : Int) 0)
def rational_digits.l0 : Nat → ByteArray → Int → Int → Option (Bool)
 | 0, _, _, _ => none
 | k + 1, x0, x23, x24 => if x24 < x23 then (if 0 ≤ x24 then (if x24 < (x0.size : Int) then (if (bt x0 x24) < 48 then (some false) else (if (bt x0 x24) > 57 then (some false) else (rational_digits.l0 k x0 x23 (wrap64 (x24 + 1))))) else (none)) else (none)) else (some true)
end
def rational_digits.f (k : Nat) (a0 : ByteArray) : Option (Bool) := if (a0.size : Int) < 1 then (rational_digits.j0 k a0 true) else (if (a0.size : Int) > 400 then (rational_digits.j0 k a0 true) else (if 0 < (a0.size : Int) then (if (bt a0 0) = 48 then (rational_digits.j0 k a0 (decide ((a0.size : Int) > 1))) else (rational_digits.j0 k a0 false)) else (none)))
theorem rational_digits.mono_l : ∀ k, (∀ y0 y1, LeO (rational_digits.j0 k y0 y1) (rational_digits.j0 (k + 1) y0 y1)) ∧ (∀ y0 y1 y2, LeO (rational_digits.l0 k y0 y1 y2) (rational_digits.l0 (k + 1) y0 y1 y2))
 | 0 => ⟨fun _ _ r h => by simp [rational_digits.j0] at h, fun _ _ _ r h => by simp [rational_digits.l0] at h⟩
 | k + 1 => by
  obtain ⟨ih0, ih1⟩ := rational_digits.mono_l k
  refine ⟨?_, ?_⟩
  ·intro y0 y1
   unfold rational_digits.j0
   repeat' first
   | (with_reducible exact ih0 _ _)
   | (with_reducible exact ih1 _ _ _)
   | (with_reducible exact LeO.refl _)
   | (with_reducible exact LeO.none _)
   | (with_reducible refine LeO.ite ?_ ?_)
   | (with_reducible refine LeO.bind ?_ (fun _ => ?_))
   | exact ih0 _ _
   | exact ih1 _ _ _
   | exact LeO.none _
   | refine LeO.ite ?_ ?_
   | refine LeO.bind ?_ (fun _ => ?_)
  ·intro y0 y1 y2
   unfold rational_digits.l0
   repeat' first
   | (with_reducible exact ih0 _ _)
   | (with_reducible exact ih1 _ _ _)
   | (with_reducible exact LeO.refl _)
   | (with_reducible exact LeO.none _)
   | (with_reducible refine LeO.ite ?_ ?_)
   | (with_reducible refine LeO.bind ?_ (fun _ => ?_))
   | exact ih0 _ _
   | exact ih1 _ _ _
   | exact LeO.none _
   | refine LeO.ite ?_ ?_
   | refine LeO.bind ?_ (fun _ => ?_)
theorem rational_digits.mono : ∀ a0 k, LeO (rational_digits.f k a0) (rational_digits.f (k + 1) a0) := by
 intro a0 k
 obtain ⟨ih0, ih1⟩ := rational_digits.mono_l k
 unfold rational_digits.f
 repeat' first
   | (with_reducible exact ih0 _ _)
   | (with_reducible exact ih1 _ _ _)
   | (with_reducible exact LeO.refl _)
   | (with_reducible exact LeO.none _)
   | (with_reducible refine LeO.ite ?_ ?_)
   | (with_reducible refine LeO.bind ?_ (fun _ => ?_))
   | exact ih0 _ _
   | exact ih1 _ _ _
   | exact LeO.none _
   | refine LeO.ite ?_ ?_
   | refine LeO.bind ?_ (fun _ => ?_)
set_option maxHeartbeats 8000000 in
set_option maxRecDepth 100000 in
theorem rational_digits.calls (k : Nat) (a0 : ByteArray) (r : Bool) (w : World) (h : rational_digits.f k a0 = some r) :
  Calls Tryd.prog 108 #[.string a0] w fun e w' => e = .returned (.bool r) ∧ Drawn0 w w' := by
 have H : (if (a0.size : Int) < 1 then (rational_digits.j0 k a0 true) else (if (a0.size : Int) > 400 then (rational_digits.j0 k a0 true) else (if 0 < (a0.size : Int) then (if (bt a0 0) = 48 then (rational_digits.j0 k a0 (decide ((a0.size : Int) > 1))) else (rational_digits.j0 k a0 false)) else (none)))) = some r := h
 clear h
 have HC2 := Aside0.mk H
 clear H
 go_enter Tryd.func108, Tryd.ntmps108
 go_upto_region 1 with (fail)
 go_cut [21] (fun v21 wc => ∃ (kq : Nat) (x21_1 : Bool), v21 = .bool x21_1 ∧ Aside0 (rational_digits.j0 kq a0 x21_1 = some r) ∧ Aside0 (kq ≤ k) ∧ Drawn0 w wc)
 case first =>
  have H := HC2.out
  clear HC2
  by_cases c3 : (a0.size : Int) < 1
  ·rw [if_pos c3] at H
   have c3b0 : decide ((a0.size : Int) < 1) = true := decide_eq_true c3
   have c3b1 : decide (a0.size < 1) = true := decide_eq_true (by omega)
   clear c3
   (first | rw [c3b0] | (simp only [i64_w, i32_w]; rw [c3b0]) | skip)
   have H' := Aside0.mk H
   clear H
   go_wp2
   go_meet
   case rel => exact ⟨_, (true), rfl, H', ⟨by first | omega | exact Nat.le_refl _⟩, by repeat (first | exact Drawn0.refl _ | apply Drawn0.step)⟩
  ·rw [if_neg c3] at H
   have c3b0 : decide ((a0.size : Int) < 1) = false := decide_eq_false c3
   have c3b1 : decide (a0.size < 1) = false := decide_eq_false (by omega)
   clear c3
   (first | rw [c3b0] | (simp only [i64_w, i32_w]; rw [c3b0]) | skip)
   by_cases c4 : (a0.size : Int) > 400
   ·rw [if_pos c4] at H
    have c4b0 : decide (400 < (a0.size : Int)) = true := decide_eq_true c4
    have c4b1 : decide (400 < a0.size) = true := decide_eq_true (by omega)
    clear c4
    have H' := Aside0.mk H
    clear H
    go_wp2
    go_meet
    case rel => exact ⟨_, (true), rfl, H', ⟨by first | omega | exact Nat.le_refl _⟩, by repeat (first | exact Drawn0.refl _ | apply Drawn0.step)⟩
   ·rw [if_neg c4] at H
    have c4b0 : decide (400 < (a0.size : Int)) = false := decide_eq_false c4
    have c4b1 : decide (400 < a0.size) = false := decide_eq_false (by omega)
    clear c4
    by_cases c5 : 0 < (a0.size : Int)
    ·rw [if_pos c5] at H
     have c5b0 : decide (0 < (a0.size : Int)) = true := decide_eq_true c5
     have c5b1 : decide (0 < a0.size) = true := decide_eq_true (by omega)
     clear c5
     by_cases c7 : (bt a0 0) = 48
     ·rw [if_pos c7] at H
      have c7b0 : ((bt a0 0) == 48) = true := beq_iff_eq.mpr c7
      have c7b1 : ((bt a0 0) != 48) = false := bne_eq_false_iff_eq.mpr c7
      clear c7
      have H' := Aside0.mk H
      clear H
      have p6 : 0 ≤ (0 : Int) := (by omega)
      have q6 : 0 < a0.size := (by have : (0 : Int) < (a0.size : Int) := of_decide_eq_true (by assumption); omega)
      have hx6 : ∀ h : 0 < a0.size, ((a0[0]'h).toNat : Int) = bt a0 0 := bt_at a0 0
      clear p6
      have qi6 : (0 < (a0.size : Int)) = True := eq_true (of_decide_eq_true (by assumption))
      replace q6 := eq_true q6
      go_wp2
      go_meet
      case rel => exact ⟨_, (decide ((a0.size : Int) > 1)), rfl, H', ⟨by first | omega | exact Nat.le_refl _⟩, by repeat (first | exact Drawn0.refl _ | apply Drawn0.step)⟩
     ·rw [if_neg c7] at H
      have c7b0 : ((bt a0 0) == 48) = false := beq_eq_false_iff_ne.mpr c7
      have c7b1 : ((bt a0 0) != 48) = true := bne_iff_ne.mpr c7
      have H' := Aside0.mk H
      clear H
      have p6 : 0 ≤ (0 : Int) := (by omega)
      have q6 : 0 < a0.size := (by have : (0 : Int) < (a0.size : Int) := of_decide_eq_true (by assumption); omega)
      have hx6 : ∀ h : 0 < a0.size, ((a0[0]'h).toNat : Int) = bt a0 0 := bt_at a0 0
      clear p6
      have qi6 : (0 < (a0.size : Int)) = True := eq_true (of_decide_eq_true (by assumption))
      replace q6 := eq_true q6
      go_wp2
      go_meet
      case rel => exact ⟨_, (false), rfl, H', ⟨by first | omega | exact Nat.le_refl _⟩, by repeat (first | exact Drawn0.refl _ | apply Drawn0.step)⟩
    ·rw [if_neg c5] at H
     exact absurd H (by simp)
 case rest =>
  clear HC2
  try clear c1
  try clear p2
  try clear c3
  try clear c3b0
  try clear c3b1
  try clear c4
  try clear c4b0
  try clear c4b1
  try clear c5
  try clear c5b0
  try clear c5b1
  try clear p6
  try clear q6
  try clear hx6
  try clear qi6
  try clear c7
  try clear c7b0
  try clear c7b1
  try clear p6
  try clear q6
  obtain ⟨kq, x21_1, rfl, HA, HJ1, ⟨mc1, rfl⟩⟩ := hcut
  cases kq with
  | zero => exact absurd HA.out (by simp [rational_digits.j0])
  | succ kj1 =>
   have H := HA.out
   clear HA
   simp only [rational_digits.j0] at H
   by_cases c8 : x21_1 = true
   ·subst c8
    rw [if_pos rfl] at H
    obtain rfl := Option.some.inj H
    go_wp2
    go_ret
    exact ⟨by first | rfl | (simp; done) | (simp [*]; done), by repeat (first | exact Drawn0.refl _ | apply Drawn0.step)⟩
   ·replace c8 := Bool.eq_false_iff.mpr c8
    subst c8
    rw [if_neg (show ¬ (false = true) by decide)] at H
    have H' := Aside0.mk H
    clear H
    go_wp2
    go_loopg [24] kj1 (fun kq v24 w' => ∃ (x24_2 : Int), v24 = .int .i64 x24_2 ∧ Aside0 (rational_digits.l0 kq a0 (a0.size : Int) x24_2 = some r) ∧ Aside0 (kq ≤ kj1) ∧ Drawn0 w w')
    case atStart => exact ⟨(0), rfl, H', ⟨Nat.le_refl _⟩, by repeat (first | exact Drawn0.refl _ | apply Drawn0.step)⟩
    case round =>
     clear H'
     try clear c1
     try clear p2
     try clear c3
     try clear c3b0
     try clear c3b1
     try clear c4
     try clear c4b0
     try clear c4b1
     try clear c5
     try clear c5b0
     try clear c5b1
     try clear p6
     try clear q6
     try clear hx6
     try clear qi6
     try clear c7
     try clear c7b0
     try clear c7b1
     try clear c8
     try clear p2
     try clear p6
     try clear q6
     obtain ⟨x24_2, rfl, HA, HK2, ⟨m2, rfl⟩⟩ := hrel
     cases gk with
     | zero => exact absurd HA.out (by simp [rational_digits.l0])
     | succ k2 =>
      have H := HA.out
      clear HA
      simp only [rational_digits.l0] at H
      by_cases c9 : x24_2 < (a0.size : Int)
      ·rw [if_pos c9] at H
       have c9b0 : decide (x24_2 < (a0.size : Int)) = true := decide_eq_true c9
       clear c9
       by_cases c10 : 0 ≤ x24_2
       ·rw [if_pos c10] at H
        have c10b0 : decide (0 ≤ x24_2) = true := decide_eq_true c10
        clear c10
        by_cases c11 : x24_2 < (a0.size : Int)
        ·rw [if_pos c11] at H
         have c11b0 : decide (x24_2 < (a0.size : Int)) = true := decide_eq_true c11
         clear c11
         by_cases c13 : (bt a0 x24_2) < 48
         ·rw [if_pos c13] at H
          have c13b0 : decide ((bt a0 x24_2) < 48) = true := decide_eq_true c13
          clear c13
          obtain rfl := Option.some.inj H
          have p12 : 0 ≤ (x24_2 : Int) := of_decide_eq_true (by assumption)
          have q12 : x24_2 < (a0.size : Int) := of_decide_eq_true (by assumption)
          have hx12 := bt_at a0 x24_2
          replace p12 := eq_true p12
          replace q12 := eq_true q12
          go_wp2
          go_ret
          exact ⟨by first | rfl | (simp; done) | (simp [*]; done), by repeat (first | exact Drawn0.refl _ | apply Drawn0.step)⟩
         ·rw [if_neg c13] at H
          have c13b0 : decide ((bt a0 x24_2) < 48) = false := decide_eq_false c13
          clear c13
          by_cases c15 : (bt a0 x24_2) > 57
          ·rw [if_pos c15] at H
           have c15b0 : decide (57 < (bt a0 x24_2)) = true := decide_eq_true c15
           clear c15
           obtain rfl := Option.some.inj H
           have p12 : 0 ≤ (x24_2 : Int) := of_decide_eq_true (by assumption)
           have q12 : x24_2 < (a0.size : Int) := of_decide_eq_true (by assumption)
           have hx12 := bt_at a0 x24_2
           replace p12 := eq_true p12
           replace q12 := eq_true q12
           have p14 : 0 ≤ (x24_2 : Int) := of_decide_eq_true (by assumption)
           have q14 : x24_2 < (a0.size : Int) := of_decide_eq_true (by assumption)
           have hx14 := bt_at a0 x24_2
           replace p14 := eq_true p14
           replace q14 := eq_true q14
           go_wp2
           go_ret
           exact ⟨by first | rfl | (simp; done) | (simp [*]; done), by repeat (first | exact Drawn0.refl _ | apply Drawn0.step)⟩
          ·rw [if_neg c15] at H
           have c15b0 : decide (57 < (bt a0 x24_2)) = false := decide_eq_false c15
           clear c15
           have H' := Aside0.mk H
           clear H
           have p12 : 0 ≤ (x24_2 : Int) := of_decide_eq_true (by assumption)
           have q12 : x24_2 < (a0.size : Int) := of_decide_eq_true (by assumption)
           have hx12 := bt_at a0 x24_2
           replace p12 := eq_true p12
           replace q12 := eq_true q12
           have p14 : 0 ≤ (x24_2 : Int) := of_decide_eq_true (by assumption)
           have q14 : x24_2 < (a0.size : Int) := of_decide_eq_true (by assumption)
           have hx14 := bt_at a0 x24_2
           replace p14 := eq_true p14
           replace q14 := eq_true q14
           go_wp2
           go_roundg k2
           case measure => have := HJ1.out; have := HK2.out; omega
           case rel => exact ⟨(wrap64 (x24_2 + 1)), rfl, H', ⟨by have := HJ1.out; have := HK2.out; omega⟩, by repeat (first | exact Drawn0.refl _ | apply Drawn0.step)⟩
        ·rw [if_neg c11] at H
         exact absurd H (by simp)
       ·rw [if_neg c10] at H
        exact absurd H (by simp)
      ·rw [if_neg c9] at H
       have c9b0 : decide (x24_2 < (a0.size : Int)) = false := decide_eq_false c9
       clear c9
       obtain rfl := Option.some.inj H
       go_wp2
       go_ret
       exact ⟨by first | rfl | (simp; done) | (simp [*]; done), by repeat (first | exact Drawn0.refl _ | apply Drawn0.step)⟩
/-! ### rational_trim: function 115 -/
def rational_trim.l0 : Nat → List Int → Option (List Int)
 | 0, _ => none
 | k + 1, x0 => if (x0.length : Int) > 0 then (if 0 ≤ (wrap64 ((x0.length : Int) - 1)) then (if (wrap64 ((x0.length : Int) - 1)) < (x0.length : Int) then (if (rd x0 (wrap64 ((x0.length : Int) - 1))) = 0 then (if (wrap64 ((x0.length : Int) - 1)) ≤ (x0.length : Int) then (rational_trim.l0 k (x0.take ((wrap64 ((x0.length : Int) - 1)) : Int).toNat)) else (none)) else (some x0)) else (none)) else (none)) else (some x0)
def rational_trim.f (k : Nat) (l0 : List Int) : Option (List Int) := rational_trim.l0 k l0
theorem rational_trim.mono_l : ∀ k, (∀ y0, LeO (rational_trim.l0 k y0) (rational_trim.l0 (k + 1) y0))
 | 0 => fun _ r h => by simp [rational_trim.l0] at h
 | k + 1 => by
  have ih0 := rational_trim.mono_l k
  ·intro y0
   unfold rational_trim.l0
   repeat' first
   | (with_reducible exact ih0 _)
   | (with_reducible exact LeO.refl _)
   | (with_reducible exact LeO.none _)
   | (with_reducible refine LeO.ite ?_ ?_)
   | (with_reducible refine LeO.bind ?_ (fun _ => ?_))
   | exact ih0 _
   | exact LeO.none _
   | refine LeO.ite ?_ ?_
   | refine LeO.bind ?_ (fun _ => ?_)
theorem rational_trim.mono : ∀ a0 k, LeO (rational_trim.f k a0) (rational_trim.f (k + 1) a0) := by
 intro a0 k
 have ih0 := rational_trim.mono_l k
 unfold rational_trim.f
 repeat' first
   | (with_reducible exact ih0 _)
   | (with_reducible exact LeO.refl _)
   | (with_reducible exact LeO.none _)
   | (with_reducible refine LeO.ite ?_ ?_)
   | (with_reducible refine LeO.bind ?_ (fun _ => ?_))
   | exact ih0 _
   | exact LeO.none _
   | refine LeO.ite ?_ ?_
   | refine LeO.bind ?_ (fun _ => ?_)
set_option maxHeartbeats 8000000 in
set_option maxRecDepth 100000 in
theorem rational_trim.calls (k : Nat) (P0_ : Nat → Prop) (A0 : Option Addr) (c0 : Nat) (l0 : List Int) (r : List Int) (w : World) (hs0 : Kd.V (Kd.int .u32) 90 w w.heap.size (fun k_ => P0_ k_) (.slice A0 l0.length c0) l0) (h : rational_trim.f k l0 = some r) :
  Calls Tryd.prog 115 #[.slice A0 l0.length c0] w fun e w' => ∃ v0_ : Value, e = .returned (v0_) ∧ Kd.V (Kd.int .u32) 90 w' w.heap.size (fun k_ => (P0_ k_ ∨ w.heap.size ≤ k_)) v0_ r ∧ Below w.heap.size w w' := by
 have HO0 := Aside0.mk (show Kd.V (Kd.int .u32) 90 w w.heap.size (fun k_ => (P0_ k_ ∨ w.heap.size ≤ k_)) (.slice A0 l0.length c0) l0 from Kd.V_mono hs0 (fun k_ hk => .inl hk))
 have HB := Aside0.mk (Below.refl w.heap.size w)
 have H : (rational_trim.l0 k l0) = some r := h
 clear h
 have H' := Aside0.mk H
 clear H
 go_enter Tryd.func115, Tryd.ntmps115
 go_wp2
 go_loopg [0] k (fun kq v0 w' => ∃ (x0_1 : List Int), Aside0 (rational_trim.l0 kq x0_1 = some r) ∧ Aside0 (kq ≤ k) ∧ Aside0 (Kd.V (Kd.int .u32) 90 w' w.heap.size (fun k_ => (P0_ k_ ∨ w.heap.size ≤ k_)) v0 x0_1) ∧ Aside0 (Below w.heap.size w w'))
 case atStart => exact ⟨(l0), H', ⟨Nat.le_refl _⟩, ⟨by (with_reducible repeat (first | apply Kd.V_alloc | apply Kd.V_drewN | apply Kd.V_drew)); exact HO0.out⟩, ⟨HB.out⟩⟩
 case round =>
  clear H'
  try clear c1
  obtain ⟨x0_1, HA, HK1, HO_0, HB⟩ := hrel
  cases gk with
  | zero => exact absurd HA.out (by simp [rational_trim.l0])
  | succ k1 =>
   have H := HA.out
   clear HA
   simp only [rational_trim.l0] at H
   by_cases c2 : (x0_1.length : Int) > 0
   ·rw [if_pos c2] at H
    have c2b0 : decide (0 < (x0_1.length : Int)) = true := decide_eq_true c2
    have c2b1 : decide (0 < x0_1.length) = true := decide_eq_true (by omega)
    clear c2
    obtain ⟨ji3, hji3⟩ : ∃ j_ : Int, (wrap64 ((x0_1.length : Int) - 1)) = j_ := ⟨_, rfl⟩
    replace H : (if 0 ≤ (ji3) then (if (ji3) < (x0_1.length : Int) then (if (rd x0_1 (ji3)) = 0 then (if (ji3) ≤ (x0_1.length : Int) then (rational_trim.l0 k1 (x0_1.take ((ji3) : Int).toNat)) else (none)) else (some x0_1)) else (none)) else (none)) = some r := by first | (rw [hji3] at H; exact H) | (simp only [hji3] at H ⊢; exact H)
    have hji3w : (IntKind.i64.wrap ((x0_1.length : Int) - 1)) = ji3 := (i64_w _).trans hji3
    by_cases c4 : 0 ≤ (ji3)
    ·rw [if_pos c4] at H
     have c4b0 : decide (0 ≤ (ji3)) = true := decide_eq_true c4
     clear c4
     by_cases c5 : (ji3) < (x0_1.length : Int)
     ·rw [if_pos c5] at H
      have c5b0 : decide ((ji3) < (x0_1.length : Int)) = true := decide_eq_true c5
      clear c5
      by_cases c6 : (rd x0_1 (ji3)) = 0
      ·rw [if_pos c6] at H
       have c6b0 : ((rd x0_1 (ji3)) == 0) = true := beq_iff_eq.mpr c6
       have c6b1 : ((rd x0_1 (ji3)) != 0) = false := bne_eq_false_iff_eq.mpr c6
       clear c6
       have c7b0 := eq_true (of_decide_eq_true (by assumption) : 0 ≤ (ji3))
       by_cases c8 : (ji3) ≤ (x0_1.length : Int)
       ·rw [if_pos c8] at H
        have c8b0 := eq_true c8
        have c8b1 : decide ((ji3) ≤ (x0_1.length : Int)) = true := decide_eq_true c8
        clear c8
        obtain ⟨y109, hy109⟩ : ∃ y_ : List Int, y_ = (x0_1.take ((ji3) : Int).toNat) := ⟨_, rfl⟩
        replace H : (rational_trim.l0 k1 y109) = some r := by first | (rw [hy109]; with_reducible exact H) | (have H2_ := (Option.bind_some _ _).symm.trans H; rw [hy109]; with_reducible exact H2_) | (have H2_ := (Option.bind_some _ _).symm.trans H; with_reducible exact H2_) | with_reducible exact H | (rw [hy109]; exact H) | exact H
        have Ny109 := Aside0.mk hy109
        clear hy109
        have H' := Aside0.mk H
        clear H
        obtain ⟨Ao9, co9, eo9⟩ := Kd.V_slice HO_0.out
        subst eo9
        have p108 : 0 ≤ ((ji3) : Int) := of_decide_eq_true (by assumption)
        have q108 : (ji3) < (x0_1.length : Int) := of_decide_eq_true (by assumption)
        obtain ⟨ad108, e108, hx108_0⟩ := Kd.at_int (Kd.V_reads' HO_0.out).2.2 (ji3) p108 q108
        cases e108
        replace p108 := eq_true p108
        replace q108 := eq_true q108
        have q10 : ((ji3) : Int) ≤ ((x0_1.length : Int) : Int) := of_decide_eq_true (by assumption)
        obtain ⟨i010, hi010, _, hsz10, _⟩ := info_parts info90
        have hroom10 : x0_1.length ≤ co9 := (Kd.V_reads' HO_0.out).2.1
        have hC10 : Kd.F (Kd.int .u32) _ _ (some ad108) x0_1.length x0_1 := (Kd.V_at (base := w.heap.size) HO_0.out).2.2
        have hcut10 := cut_to (P := Tryd.prog) 80 90 .i64 Tryd.underlying80 hi010 (some ad108) x0_1.length co9 (ji3) (of_decide_eq_true (by assumption)) q10 hroom10
        have hr10 := Kd.F_take (m := ((ji3) : Int).toNat) hC10 (by omega)
        have hy10 : y109.length = ((ji3) : Int).toNat := (by rw [Ny109.out, List.length_take]; omega)
        rw [← Ny109.out] at hr10
        rw [← hy10] at hcut10
        have HO113 := Aside0.mk (show Kd.V (Kd.int .u32) 90 _ w.heap.size _ (.slice (some ad108) y109.length co9) y109 from Kd.V_mk (by omega) hr10)
        have HC113 := Aside0.mk (show y109.length ≤ co9 from by omega)
        clear hr10 hC10 hroom10 hi010 hsz10
        have KY10 := Aside0.mk hy10
        clear hy10
        replace q10 := eq_true q10
        go_wp2
        go_roundg k1
        case measure => have := HK1.out; omega
        case rel => exact ⟨(y109), H', ⟨by have := HK1.out; omega⟩, ⟨by (with_reducible repeat (first | apply Kd.V_alloc | apply Kd.V_drewN | apply Kd.V_drew)); exact HO113.out⟩, ⟨HB.out⟩⟩
       ·rw [if_neg c8] at H
        exact absurd H (by simp)
      ·rw [if_neg c6] at H
       have c6b0 : ((rd x0_1 (ji3)) == 0) = false := beq_eq_false_iff_ne.mpr c6
       have c6b1 : ((rd x0_1 (ji3)) != 0) = true := bne_iff_ne.mpr c6
       obtain rfl := Option.some.inj H
       obtain ⟨Ao11, co11, eo11⟩ := Kd.V_slice HO_0.out
       subst eo11
       have p108 : 0 ≤ ((ji3) : Int) := of_decide_eq_true (by assumption)
       have q108 : (ji3) < (x0_1.length : Int) := of_decide_eq_true (by assumption)
       obtain ⟨ad108, e108, hx108_0⟩ := Kd.at_int (Kd.V_reads' HO_0.out).2.2 (ji3) p108 q108
       cases e108
       replace p108 := eq_true p108
       replace q108 := eq_true q108
       go_wp2
       go_ret
       exact ⟨_, by first | rfl | (simp [errW_none, errW_some] <;> rfl) | (simp only [← hji3]; first | rfl | (simp [errW_none, errW_some] <;> rfl)) | (simp [*, errW_none, errW_some] <;> rfl), by (with_reducible repeat (first | apply Kd.V_alloc | apply Kd.V_drewN | apply Kd.V_drew)); exact HO_0.out, HB.out⟩
     ·rw [if_neg c5] at H
      exact absurd H (by simp)
    ·rw [if_neg c4] at H
     exact absurd H (by simp)
   ·rw [if_neg c2] at H
    have c2b0 : decide (0 < (x0_1.length : Int)) = false := decide_eq_false c2
    have c2b1 : decide (0 < x0_1.length) = false := decide_eq_false (by omega)
    clear c2
    obtain rfl := Option.some.inj H
    obtain ⟨Ao12, co12, eo12⟩ := Kd.V_slice HO_0.out
    subst eo12
    go_wp2
    go_ret
    exact ⟨_, rfl, by (with_reducible repeat (first | apply Kd.V_alloc | apply Kd.V_drewN | apply Kd.V_drew)); exact HO_0.out, HB.out⟩
/-! ### rational_natOf: function 62 -/
def rational_natOf.l0 : Nat → Int → List Int → Option (List Int)
 | 0, _, _ => none
 | k + 1, x0, x3 => if x0 > 0 then (if x3.length < 35184372088832 then (rational_natOf.l0 k (IntKind.u64.wrap (Int.tdiv x0 1000000000)) (x3 ++ [(Int.tmod x0 1000000000) % 4294967296])) else (none)) else (some x3)
def rational_natOf.f (k : Nat) (a0 : Int) : Option (List Int) := rational_natOf.l0 k a0 ([] : List Int)
theorem rational_natOf.mono_l : ∀ k, (∀ y0 y1, LeO (rational_natOf.l0 k y0 y1) (rational_natOf.l0 (k + 1) y0 y1))
 | 0 => fun _ _ r h => by simp [rational_natOf.l0] at h
 | k + 1 => by
  have ih0 := rational_natOf.mono_l k
  ·intro y0 y1
   unfold rational_natOf.l0
   repeat' first
   | (with_reducible exact ih0 _ _)
   | (with_reducible exact LeO.refl _)
   | (with_reducible exact LeO.none _)
   | (with_reducible refine LeO.ite ?_ ?_)
   | (with_reducible refine LeO.bind ?_ (fun _ => ?_))
   | exact ih0 _ _
   | exact LeO.none _
   | refine LeO.ite ?_ ?_
   | refine LeO.bind ?_ (fun _ => ?_)
theorem rational_natOf.mono : ∀ a0 k, LeO (rational_natOf.f k a0) (rational_natOf.f (k + 1) a0) := by
 intro a0 k
 have ih0 := rational_natOf.mono_l k
 unfold rational_natOf.f
 repeat' first
   | (with_reducible exact ih0 _ _)
   | (with_reducible exact LeO.refl _)
   | (with_reducible exact LeO.none _)
   | (with_reducible refine LeO.ite ?_ ?_)
   | (with_reducible refine LeO.bind ?_ (fun _ => ?_))
   | exact ih0 _ _
   | exact LeO.none _
   | refine LeO.ite ?_ ?_
   | refine LeO.bind ?_ (fun _ => ?_)
set_option maxHeartbeats 8000000 in
set_option maxRecDepth 100000 in
theorem rational_natOf.calls (k : Nat) (a0 : Int) (r : List Int) (w : World) (h : rational_natOf.f k a0 = some r) :
  Calls Tryd.prog 62 #[.int .u64 a0] w fun e w' => ∃ v0_ : Value, e = .returned (v0_) ∧ Kd.R (Kd.int .u32) 90 w' w.heap.size (fun _ => True) v0_ r ∧ Below w.heap.size w w' := by
 have HB := Aside0.mk (Below.refl w.heap.size w)
 have H : (rational_natOf.l0 k a0 ([] : List Int)) = some r := h
 clear h
 have H' := Aside0.mk H
 clear H
 go_enter Tryd.func62, Tryd.ntmps62
 go_wp2
 go_loopg [0, 3] k (fun kq v0 v3 w' => ∃ (x0_1 : Int) (x3_1 : List Int), v0 = .int .u64 x0_1 ∧ Aside0 (rational_natOf.l0 kq x0_1 x3_1 = some r) ∧ Aside0 (kq ≤ k) ∧ Aside0 (Kd.R (Kd.int .u32) 90 w' w.heap.size (fun _ => True) v3 x3_1) ∧ Aside0 (Below w.heap.size w w'))
 case atStart => exact ⟨(a0), (([] : List Int)), rfl, H', ⟨Nat.le_refl _⟩, ⟨by first | exact Kd.R_nil _ _ _ _ _ | exact Kd.N_nil _ _ _ _ _ | exact Kd.V_nil _ _ _ _ _ | exact Kd.Q_nil _ _ _ _ _ | exact Kd.S_nil _ _ _ _ _⟩, ⟨HB.out⟩⟩
 case round =>
  clear H'
  obtain ⟨x0_1, x3_1, rfl, HA, HK1, HO_3, HB⟩ := hrel
  cases gk with
  | zero => exact absurd HA.out (by simp [rational_natOf.l0])
  | succ k1 =>
   have H := HA.out
   clear HA
   simp only [rational_natOf.l0] at H
   by_cases c2 : x0_1 > 0
   ·rw [if_pos c2] at H
    have c2b0 : decide (0 < x0_1) = true := decide_eq_true c2
    clear c2
    by_cases c3 : x3_1.length < 35184372088832
    ·rw [if_pos c3] at H
     have LMc3 := Aside0.mk c3
     clear c3
     obtain ⟨y131, hy131⟩ : ∃ y_ : List Int, y_ = (x3_1 ++ [(Int.tmod x0_1 1000000000) % 4294967296]) := ⟨_, rfl⟩
     replace H : (rational_natOf.l0 k1 (IntKind.u64.wrap (Int.tdiv x0_1 1000000000)) y131) = some r := by first | (rw [hy131]; with_reducible exact H) | (have H2_ := (Option.bind_some _ _).symm.trans H; rw [hy131]; with_reducible exact H2_) | (have H2_ := (Option.bind_some _ _).symm.trans H; with_reducible exact H2_) | with_reducible exact H | (rw [hy131]; exact H) | exact H
     have Ny131 := Aside0.mk hy131
     clear hy131
     have H' := Aside0.mk H
     clear H
     go_wp2_with (first | ((with_reducible refine gate_builtin (b := .append) (xs := #[.tmp 8, .tmp 12]) rfl ?_); at_builtin; refine Kd.R_append (Kd.int .u32) (w0 := w) w.heap.size rfl (.tmp 8) (.tmp 12) 80 90 (.int .u32 0) 4 rfl Tryd.underlying80 info90 rfl (by decide) (by omega) u3 x3_1 ((Int.tmod x0_1 1000000000) % 4294967296) [.int .u32 ((Int.tmod x0_1 1000000000) % 4294967296)] (fun _ => True) (fun _ => False) rfl rfl ?aP (fun _ hk => hk.elim) ?aF ?aO ?aB ?aS ?aL ?_; (case aP => exact rfl); (case aB => exact HB.out); (case aF => exact (fun _ _ => trivial)); (case aO => exact HO_3.out); (case aS => exact (below_size HB.out)); (case aL => have := LMc3.out; omega); intro v132 w4 ho hb hg hat; rw [← Ny131.out] at ho; have n0_ := Aside0.mk (hb); have n1_ := Aside0.mk (ho); clear HB; clear HO_3; have HB := n0_; have HO133 := n1_; clear n0_ n1_; clear ho hb hg hat))
     go_roundg k1
     case measure => have := HK1.out; omega
     case rel => exact ⟨(IntKind.u64.wrap (Int.tdiv x0_1 1000000000)), (y131), rfl, H', ⟨by have := HK1.out; omega⟩, ⟨by (with_reducible repeat (first | apply Kd.R_alloc | apply Kd.R_drewN | apply Kd.R_drew)); exact HO133.out⟩, ⟨HB.out⟩⟩
    ·rw [if_neg c3] at H
     exact absurd H (by simp)
   ·rw [if_neg c2] at H
    have c2b0 : decide (0 < x0_1) = false := decide_eq_false c2
    clear c2
    obtain rfl := Option.some.inj H
    go_wp2
    go_ret
    exact ⟨_, rfl, by (with_reducible repeat (first | apply Kd.R_alloc | apply Kd.R_drewN | apply Kd.R_drew)); exact HO_3.out, HB.out⟩
/-! ### rational_parse: function 109 -/
mutual
def rational_parse.l0 : Nat → ByteArray → List Int → Int → Option (List Int)
 | 0, _, _, _ => none
 | k + 1, x0, x3, x4 => if x4 > 0 then (rational_parse.l1 k x0 x3 x4 0 (mx 0 (wrap64 (x4 - 9)))) else ((rational_trim.f k x3).bind fun t114 => (some t114))
def rational_parse.l1 : Nat → ByteArray → List Int → Int → Int → Int → Option (List Int)
 | 0, _, _, _, _, _ => none
 | k + 1, x0, x3, x4, x5, x6 => if x6 < x4 then (if 0 ≤ x6 then (if x6 < (x0.size : Int) then (rational_parse.l1 k x0 x3 x4 ((((x5 * 10) % 4294967296) + (((bt x0 x6) - 48) % 256)) % 4294967296) (wrap64 (x6 + 1))) else (none)) else (none)) else (if x3.length < 35184372088832 then (rational_parse.l0 k x0 (x3 ++ [x5]) (wrap64 (x4 - 9))) else (none))
end
def rational_parse.f (k : Nat) (a0 : ByteArray) : Option (List Int) := rational_parse.l0 k a0 ([] : List Int) (a0.size : Int)
theorem rational_parse.mono_l : ∀ k, (∀ y0 y1 y2, LeO (rational_parse.l0 k y0 y1 y2) (rational_parse.l0 (k + 1) y0 y1 y2)) ∧ (∀ y0 y1 y2 y3 y4, LeO (rational_parse.l1 k y0 y1 y2 y3 y4) (rational_parse.l1 (k + 1) y0 y1 y2 y3 y4))
 | 0 => ⟨fun _ _ _ r h => by simp [rational_parse.l0] at h, fun _ _ _ _ _ r h => by simp [rational_parse.l1] at h⟩
 | k + 1 => by
  obtain ⟨ih0, ih1⟩ := rational_parse.mono_l k
  refine ⟨?_, ?_⟩
  ·intro y0 y1 y2
   unfold rational_parse.l0
   repeat' first
   | (with_reducible exact ih0 _ _ _)
   | (with_reducible exact ih1 _ _ _ _ _)
   | (with_reducible exact rational_trim.mono _ _)
   | (with_reducible exact LeO.refl _)
   | (with_reducible exact LeO.none _)
   | (with_reducible refine LeO.ite ?_ ?_)
   | (with_reducible refine LeO.bind ?_ (fun _ => ?_))
   | exact ih0 _ _ _
   | exact ih1 _ _ _ _ _
   | exact rational_trim.mono _ _
   | exact LeO.none _
   | refine LeO.ite ?_ ?_
   | refine LeO.bind ?_ (fun _ => ?_)
  ·intro y0 y1 y2 y3 y4
   unfold rational_parse.l1
   repeat' first
   | (with_reducible exact ih0 _ _ _)
   | (with_reducible exact ih1 _ _ _ _ _)
   | (with_reducible exact rational_trim.mono _ _)
   | (with_reducible exact LeO.refl _)
   | (with_reducible exact LeO.none _)
   | (with_reducible refine LeO.ite ?_ ?_)
   | (with_reducible refine LeO.bind ?_ (fun _ => ?_))
   | exact ih0 _ _ _
   | exact ih1 _ _ _ _ _
   | exact rational_trim.mono _ _
   | exact LeO.none _
   | refine LeO.ite ?_ ?_
   | refine LeO.bind ?_ (fun _ => ?_)
theorem rational_parse.mono : ∀ a0 k, LeO (rational_parse.f k a0) (rational_parse.f (k + 1) a0) := by
 intro a0 k
 obtain ⟨ih0, ih1⟩ := rational_parse.mono_l k
 unfold rational_parse.f
 repeat' first
   | (with_reducible exact ih0 _ _ _)
   | (with_reducible exact ih1 _ _ _ _ _)
   | (with_reducible exact rational_trim.mono _ _)
   | (with_reducible exact LeO.refl _)
   | (with_reducible exact LeO.none _)
   | (with_reducible refine LeO.ite ?_ ?_)
   | (with_reducible refine LeO.bind ?_ (fun _ => ?_))
   | exact ih0 _ _ _
   | exact ih1 _ _ _ _ _
   | exact rational_trim.mono _ _
   | exact LeO.none _
   | refine LeO.ite ?_ ?_
   | refine LeO.bind ?_ (fun _ => ?_)
set_option maxHeartbeats 8000000 in
set_option maxRecDepth 100000 in
theorem rational_parse.calls (k : Nat) (a0 : ByteArray) (r : List Int) (w : World) (h : rational_parse.f k a0 = some r) :
  Calls Tryd.prog 109 #[.string a0] w fun e w' => ∃ v0_ : Value, e = .returned (v0_) ∧ Kd.V (Kd.int .u32) 90 w' w.heap.size (fun k_ => (w.heap.size ≤ k_)) v0_ r ∧ Below w.heap.size w w' := by
 have HB := Aside0.mk (Below.refl w.heap.size w)
 have H : (rational_parse.l0 k a0 ([] : List Int) (a0.size : Int)) = some r := h
 clear h
 have H' := Aside0.mk H
 clear H
 go_enter Tryd.func109, Tryd.ntmps109
 go_wp2
 go_loopg [3, 4] k (fun kq v3 v4 w' => ∃ (x3_1 : List Int) (x4_1 : Int), v4 = .int .i64 x4_1 ∧ Aside0 (rational_parse.l0 kq a0 x3_1 x4_1 = some r) ∧ Aside0 (kq ≤ k) ∧ Aside0 (Kd.R (Kd.int .u32) 90 w' w.heap.size (fun k_ => (w.heap.size ≤ k_)) v3 x3_1) ∧ Aside0 (Below w.heap.size w w'))
 case atStart => exact ⟨(([] : List Int)), ((a0.size : Int)), rfl, H', ⟨Nat.le_refl _⟩, ⟨by first | exact Kd.R_nil _ _ _ _ _ | exact Kd.N_nil _ _ _ _ _ | exact Kd.V_nil _ _ _ _ _ | exact Kd.Q_nil _ _ _ _ _ | exact Kd.S_nil _ _ _ _ _⟩, ⟨HB.out⟩⟩
 case round =>
  clear H'
  try clear c1
  obtain ⟨x3_1, x4_1, rfl, HA, HK1, HO_3, HB⟩ := hrel
  cases gk with
  | zero => exact absurd HA.out (by simp [rational_parse.l0])
  | succ k1 =>
   have H := HA.out
   clear HA
   simp only [rational_parse.l0] at H
   by_cases c2 : x4_1 > 0
   ·rw [if_pos c2] at H
    have c2b0 : decide (0 < x4_1) = true := decide_eq_true c2
    clear c2
    obtain ⟨ji3, hji3⟩ : ∃ j_ : Int, (mx 0 (wrap64 (x4_1 - 9))) = j_ := ⟨_, rfl⟩
    replace H : (rational_parse.l1 k1 a0 x3_1 x4_1 0 ji3) = some r := by first | (rw [hji3] at H; exact H) | (simp only [hji3] at H ⊢; exact H)
    have hji3_ : (if 0 < (wrap64 (x4_1 - 9)) then (wrap64 (x4_1 - 9)) else 0) = ji3 := hji3
    have H' := Aside0.mk H
    clear H
    go_wp2
    go_loopg [5, 6] k1 (fun kq v5 v6 w' => ∃ (x5_2 : Int) (x6_2 : Int), v5 = .int .u32 x5_2 ∧ v6 = .int .i64 x6_2 ∧ Aside0 (rational_parse.l1 kq a0 x3_1 x4_1 x5_2 x6_2 = some r) ∧ Aside0 (kq ≤ k1) ∧ Aside0 (Kd.R (Kd.int .u32) 90 w' w.heap.size (fun k_ => (w.heap.size ≤ k_)) u3 x3_1) ∧ Aside0 (Below w.heap.size w w'))
    case atStart => exact ⟨(0), (ji3), rfl, (by first | rfl | (simp; done) | (simp only [← hji3] <;> (first | rfl | simp)) | (simp [*]; done)), H', ⟨Nat.le_refl _⟩, ⟨by (with_reducible repeat (first | apply Kd.R_alloc | apply Kd.R_drewN | apply Kd.R_drew)); exact HO_3.out⟩, ⟨HB.out⟩⟩
    case round =>
     clear H'
     try clear c1
     try clear c2
     try clear c2b0
     try clear p2
     obtain ⟨x5_2, x6_2, rfl, rfl, HA, HK2, HO_3, HB⟩ := hrel
     cases gk with
     | zero => exact absurd HA.out (by simp [rational_parse.l1])
     | succ k2 =>
      have H := HA.out
      clear HA
      simp only [rational_parse.l1] at H
      by_cases c4 : x6_2 < x4_1
      ·rw [if_pos c4] at H
       have c4b0 : decide (x6_2 < x4_1) = true := decide_eq_true c4
       clear c4
       by_cases c5 : 0 ≤ x6_2
       ·rw [if_pos c5] at H
        have c5b0 : decide (0 ≤ x6_2) = true := decide_eq_true c5
        clear c5
        by_cases c6 : x6_2 < (a0.size : Int)
        ·rw [if_pos c6] at H
         have c6b0 : decide (x6_2 < (a0.size : Int)) = true := decide_eq_true c6
         clear c6
         have H' := Aside0.mk H
         clear H
         have p7 : 0 ≤ (x6_2 : Int) := of_decide_eq_true (by assumption)
         have q7 : x6_2 < (a0.size : Int) := of_decide_eq_true (by assumption)
         have hx7 := bt_at a0 x6_2
         replace p7 := eq_true p7
         replace q7 := eq_true q7
         go_wp2
         go_roundg k2
         case measure => have := HK1.out; have := HK2.out; omega
         case rel => exact ⟨((((x5_2 * 10) % 4294967296) + (((bt a0 x6_2) - 48) % 256)) % 4294967296), (wrap64 (x6_2 + 1)), rfl, rfl, H', ⟨by have := HK1.out; have := HK2.out; omega⟩, ⟨by (with_reducible repeat (first | apply Kd.R_alloc | apply Kd.R_drewN | apply Kd.R_drew)); exact HO_3.out⟩, ⟨HB.out⟩⟩
        ·rw [if_neg c6] at H
         exact absurd H (by simp)
       ·rw [if_neg c5] at H
        exact absurd H (by simp)
      ·rw [if_neg c4] at H
       have c4b0 : decide (x6_2 < x4_1) = false := decide_eq_false c4
       clear c4
       by_cases c8 : x3_1.length < 35184372088832
       ·rw [if_pos c8] at H
        have LMc8 := Aside0.mk c8
        clear c8
        obtain ⟨y117, hy117⟩ : ∃ y_ : List Int, y_ = (x3_1 ++ [x5_2]) := ⟨_, rfl⟩
        replace H : (rational_parse.l0 k2 a0 y117 (wrap64 (x4_1 - 9))) = some r := by first | (rw [hy117]; with_reducible exact H) | (have H2_ := (Option.bind_some _ _).symm.trans H; rw [hy117]; with_reducible exact H2_) | (have H2_ := (Option.bind_some _ _).symm.trans H; with_reducible exact H2_) | with_reducible exact H | (rw [hy117]; exact H) | exact H
        have Ny117 := Aside0.mk hy117
        clear hy117
        have H' := Aside0.mk H
        clear H
        go_wp2_with (first | ((with_reducible refine gate_builtin (b := .append) (xs := #[.tmp 29, .tmp 31]) rfl ?_); at_builtin; refine Kd.R_append (Kd.int .u32) (w0 := w) w.heap.size rfl (.tmp 29) (.tmp 31) 80 90 (.int .u32 0) 4 rfl Tryd.underlying80 info90 rfl (by decide) (by omega) u3 x3_1 x5_2 [.int .u32 x5_2] (fun k_ => (w.heap.size ≤ k_)) (fun _ => False) rfl rfl ?aP (fun _ hk => hk.elim) ?aF ?aO ?aB ?aS ?aL ?_; (case aP => exact rfl); (case aB => exact HB.out); (case aF => exact (fun k_ hk => (Nat.le_trans (below_size HB.out) hk))); (case aO => exact HO_3.out); (case aS => exact (below_size HB.out)); (case aL => have := LMc8.out; omega); intro v118 w9 ho hb hg hat; rw [← Ny117.out] at ho; have n0_ := Aside0.mk (hb); have n1_ := Aside0.mk (ho); clear HB; clear HO_3; have HB := n0_; have HO119 := n1_; clear n0_ n1_; clear ho hb hg hat))
        go_roundg k2
        case measure => have := HK1.out; have := HK2.out; omega
        case rel => exact ⟨(y117), (wrap64 (x4_1 - 9)), rfl, H', ⟨by have := HK1.out; have := HK2.out; omega⟩, ⟨by (with_reducible repeat (first | apply Kd.R_alloc | apply Kd.R_drewN | apply Kd.R_drew)); exact HO119.out⟩, ⟨HB.out⟩⟩
       ·rw [if_neg c8] at H
        exact absurd H (by simp)
   ·rw [if_neg c2] at H
    have c2b0 : decide (0 < x4_1) = false := decide_eq_false c2
    clear c2
    replace H := Option.bind_eq_some_iff.mp H
    obtain ⟨t114, A100, H⟩ := H
    (try dsimp only at H)
    have A10 := Aside0.mk A100
    clear A100
    obtain rfl := Option.some.inj H
    obtain ⟨Ao11, co11, eo11⟩ := Kd.R_slice HO_3.out
    subst eo11
    go_wp2_with (first | ((with_reducible refine gate_callee (f := 115) rfl ?_); refine goesL_ (some 34) rfl rfl Tryd.func115 (by kernel_rfl) rfl #[.slice Ao11 x3_1.length co11] rfl (by (try simp only [List.map_toArray, List.map_cons, List.map_nil]); first | done | rfl) ?_; (with_reducible refine (rational_trim.calls k1 (fun k_ => some k_ = (.slice Ao11 x3_1.length co11 : Value).ownBlock) _ _ x3_1 t114 _ ?side1 A10.out).mono ?_); (case side1 => exact Kd.R_V (Kd.R_tight rfl (HO_3.out))); rintro e w12 ⟨v115, rfl, ho0, hb⟩; refine ⟨_, rfl, ?_⟩; have n0_ := Aside0.mk (Kd.R_below HO_3.out hb); have n1_ := Aside0.mk (Kd.V_lower (Kd.V_mono (ok' := fun k_ => (w.heap.size ≤ k_)) ho0 (fun k_ hk_ => Or.elim hk_ (fun hs_ => ((HO_3.out).1 k_ hs_.symm)) (fun hn_ => (Nat.le_trans (below_size HB.out) hn_)))) (below_size HB.out)); have n2_ := Aside0.mk (below_step HB.out hb); clear HO_3; clear HB; have HO_3 := n0_; have HO116 := n1_; have HB := n2_; clear n0_ n1_ n2_; (try clear hb); (try clear hb2); (try clear hk); (try clear hi); (try clear ho0)))
    go_ret
    exact ⟨_, rfl, by (with_reducible repeat (first | apply Kd.V_alloc | apply Kd.V_drewN | apply Kd.V_drew)); exact HO116.out, HB.out⟩
/-! ### rational_cmpNat: function 64 -/
def rational_cmpNat.l0 : Nat → List Int → List Int → Int → Option (Int)
 | 0, _, _, _ => none
 | k + 1, x0, x1, x5 => if x5 ≥ 0 then (if 0 ≤ x5 then (if x5 < (x0.length : Int) then (if x5 < (x1.length : Int) then (if (rd x0 x5) = (rd x1 x5) then (rational_cmpNat.l0 k x0 x1 (wrap64 (x5 - 1))) else (if (rd x0 x5) < (rd x1 x5) then (some (-1)) else (some 1))) else (none)) else (none)) else (none)) else (some 0)
def rational_cmpNat.f (k : Nat) (l0 : List Int) (l1 : List Int) : Option (Int) := if (l0.length : Int) = (l1.length : Int) then (rational_cmpNat.l0 k l0 l1 (wrap64 ((l0.length : Int) - 1))) else (if (l0.length : Int) < (l1.length : Int) then (some (-1)) else (some 1))
theorem rational_cmpNat.mono_l : ∀ k, (∀ y0 y1 y2, LeO (rational_cmpNat.l0 k y0 y1 y2) (rational_cmpNat.l0 (k + 1) y0 y1 y2))
 | 0 => fun _ _ _ r h => by simp [rational_cmpNat.l0] at h
 | k + 1 => by
  have ih0 := rational_cmpNat.mono_l k
  ·intro y0 y1 y2
   unfold rational_cmpNat.l0
   repeat' first
   | (with_reducible exact ih0 _ _ _)
   | (with_reducible exact LeO.refl _)
   | (with_reducible exact LeO.none _)
   | (with_reducible refine LeO.ite ?_ ?_)
   | (with_reducible refine LeO.bind ?_ (fun _ => ?_))
   | exact ih0 _ _ _
   | exact LeO.none _
   | refine LeO.ite ?_ ?_
   | refine LeO.bind ?_ (fun _ => ?_)
theorem rational_cmpNat.mono : ∀ a0 a1 k, LeO (rational_cmpNat.f k a0 a1) (rational_cmpNat.f (k + 1) a0 a1) := by
 intro a0 a1 k
 have ih0 := rational_cmpNat.mono_l k
 unfold rational_cmpNat.f
 repeat' first
   | (with_reducible exact ih0 _ _ _)
   | (with_reducible exact LeO.refl _)
   | (with_reducible exact LeO.none _)
   | (with_reducible refine LeO.ite ?_ ?_)
   | (with_reducible refine LeO.bind ?_ (fun _ => ?_))
   | exact ih0 _ _ _
   | exact LeO.none _
   | refine LeO.ite ?_ ?_
   | refine LeO.bind ?_ (fun _ => ?_)
set_option maxHeartbeats 8000000 in
set_option maxRecDepth 100000 in
theorem rational_cmpNat.calls (k : Nat) (A0 : Option Addr) (c0 : Nat) (l0 : List Int) (A1 : Option Addr) (c1 : Nat) (l1 : List Int) (r : Int) (w : World) (hr0 : Kd.C (Kd.int .u32) w A0 l0.length l0) (hc0 : l0.length ≤ c0) (hr1 : Kd.C (Kd.int .u32) w A1 l1.length l1) (hc1 : l1.length ≤ c1) (h : rational_cmpNat.f k l0 l1 = some r) :
  Calls Tryd.prog 64 #[.slice A0 l0.length c0, .slice A1 l1.length c1] w fun e w' => e = .returned (.int .i64 r) ∧ Drawn0 w w' := by
 have HR0 := Aside0.mk hr0
 have HC0 := Aside0.mk hc0
 clear hr0 hc0
 have HR1 := Aside0.mk hr1
 have HC1 := Aside0.mk hc1
 clear hr1 hc1
 have H : (if (l0.length : Int) = (l1.length : Int) then (rational_cmpNat.l0 k l0 l1 (wrap64 ((l0.length : Int) - 1))) else (if (l0.length : Int) < (l1.length : Int) then (some (-1)) else (some 1))) = some r := h
 clear h
 by_cases c3 : (l0.length : Int) = (l1.length : Int)
 ·rw [if_pos c3] at H
  have c3b0 : ((l0.length : Int) == (l1.length : Int)) = true := beq_iff_eq.mpr c3
  have c3b1 : ((l0.length : Int) != (l1.length : Int)) = false := bne_eq_false_iff_eq.mpr c3
  have c3b2 : (l0.length == l1.length) = true := by first | simpa using c3 | (simp at c3 ⊢; omega)
  clear c3
  have H' := Aside0.mk H
  clear H
  go_enter Tryd.func64, Tryd.ntmps64
  go_wp2
  repeat (go_quiet (fail); try go_wp2)
  go_loopg [5] k (fun kq v5 w' => ∃ (x5_1 : Int), v5 = .int .i64 x5_1 ∧ Aside0 (rational_cmpNat.l0 kq l0 l1 x5_1 = some r) ∧ Aside0 (kq ≤ k) ∧ Drawn0 w w')
  case atStart => exact ⟨(wrap64 ((l0.length : Int) - 1)), rfl, H', ⟨Nat.le_refl _⟩, by repeat (first | exact Drawn0.refl _ | apply Drawn0.step)⟩
  case round =>
   clear H'
   try clear c1
   try clear p2
   try clear c3
   try clear c3b0
   try clear c3b1
   try clear c3b2
   obtain ⟨x5_1, rfl, HA, HK1, ⟨m1, rfl⟩⟩ := hrel
   cases gk with
   | zero => exact absurd HA.out (by simp [rational_cmpNat.l0])
   | succ k1 =>
    have H := HA.out
    clear HA
    simp only [rational_cmpNat.l0] at H
    by_cases c4 : x5_1 ≥ 0
    ·rw [if_pos c4] at H
     have c4b0 : decide (0 ≤ x5_1) = true := decide_eq_true c4
     clear c4
     by_cases c5 : 0 ≤ x5_1
     ·rw [if_pos c5] at H
      have c5b0 : decide (0 ≤ x5_1) = true := decide_eq_true c5
      clear c5
      by_cases c6 : x5_1 < (l0.length : Int)
      ·rw [if_pos c6] at H
       have c6b0 : decide (x5_1 < (l0.length : Int)) = true := decide_eq_true c6
       clear c6
       by_cases c7 : x5_1 < (l1.length : Int)
       ·rw [if_pos c7] at H
        have c7b0 : decide (x5_1 < (l1.length : Int)) = true := decide_eq_true c7
        clear c7
        by_cases c8 : (rd l0 x5_1) = (rd l1 x5_1)
        ·rw [if_pos c8] at H
         have c8b0 : ((rd l0 x5_1) == (rd l1 x5_1)) = true := beq_iff_eq.mpr c8
         have c8b1 : ((rd l0 x5_1) != (rd l1 x5_1)) = false := bne_eq_false_iff_eq.mpr c8
         clear c8
         have H' := Aside0.mk H
         clear H
         have p101 : 0 ≤ (x5_1 : Int) := of_decide_eq_true (by assumption)
         have q101 : x5_1 < (l0.length : Int) := of_decide_eq_true (by assumption)
         obtain ⟨ad101, e101, hx101_0⟩ := Kd.at_int HR0.out x5_1 p101 q101
         cases e101
         replace p101 := eq_true p101
         replace q101 := eq_true q101
         have p102 : 0 ≤ (x5_1 : Int) := of_decide_eq_true (by assumption)
         have q102 : x5_1 < (l1.length : Int) := of_decide_eq_true (by assumption)
         obtain ⟨ad102, e102, hx102_0⟩ := Kd.at_int HR1.out x5_1 p102 q102
         cases e102
         replace p102 := eq_true p102
         replace q102 := eq_true q102
         go_wp2
         repeat (go_quiet (fail); try go_wp2)
         go_roundg k1
         case measure => have := HK1.out; omega
         case rel => exact ⟨(wrap64 (x5_1 - 1)), rfl, H', ⟨by have := HK1.out; omega⟩, by repeat (first | exact Drawn0.refl _ | apply Drawn0.step)⟩
        ·rw [if_neg c8] at H
         have c8b0 : ((rd l0 x5_1) == (rd l1 x5_1)) = false := beq_eq_false_iff_ne.mpr c8
         have c8b1 : ((rd l0 x5_1) != (rd l1 x5_1)) = true := bne_iff_ne.mpr c8
         by_cases c9 : (rd l0 x5_1) < (rd l1 x5_1)
         ·rw [if_pos c9] at H
          have c9b0 : decide ((rd l0 x5_1) < (rd l1 x5_1)) = true := decide_eq_true c9
          clear c9
          obtain rfl := Option.some.inj H
          have p101 : 0 ≤ (x5_1 : Int) := of_decide_eq_true (by assumption)
          have q101 : x5_1 < (l0.length : Int) := of_decide_eq_true (by assumption)
          obtain ⟨ad101, e101, hx101_0⟩ := Kd.at_int HR0.out x5_1 p101 q101
          cases e101
          replace p101 := eq_true p101
          replace q101 := eq_true q101
          have p102 : 0 ≤ (x5_1 : Int) := of_decide_eq_true (by assumption)
          have q102 : x5_1 < (l1.length : Int) := of_decide_eq_true (by assumption)
          obtain ⟨ad102, e102, hx102_0⟩ := Kd.at_int HR1.out x5_1 p102 q102
          cases e102
          replace p102 := eq_true p102
          replace q102 := eq_true q102
          have p103 : 0 ≤ (x5_1 : Int) := of_decide_eq_true (by assumption)
          have q103 : x5_1 < (l0.length : Int) := of_decide_eq_true (by assumption)
          obtain ⟨ad103, e103, hx103_0⟩ := Kd.at_int HR0.out x5_1 p103 q103
          obtain rfl : ad101 = ad103 := (by injection e103)
          replace p103 := eq_true p103
          replace q103 := eq_true q103
          have p104 : 0 ≤ (x5_1 : Int) := of_decide_eq_true (by assumption)
          have q104 : x5_1 < (l1.length : Int) := of_decide_eq_true (by assumption)
          obtain ⟨ad104, e104, hx104_0⟩ := Kd.at_int HR1.out x5_1 p104 q104
          obtain rfl : ad102 = ad104 := (by injection e104)
          replace p104 := eq_true p104
          replace q104 := eq_true q104
          go_wp2
          repeat (go_quiet (fail); try go_wp2)
          go_ret
          exact ⟨by first | rfl | (simp; done) | (simp [*]; done), by repeat (first | exact Drawn0.refl _ | apply Drawn0.step)⟩
         ·rw [if_neg c9] at H
          have c9b0 : decide ((rd l0 x5_1) < (rd l1 x5_1)) = false := decide_eq_false c9
          clear c9
          obtain rfl := Option.some.inj H
          have p101 : 0 ≤ (x5_1 : Int) := of_decide_eq_true (by assumption)
          have q101 : x5_1 < (l0.length : Int) := of_decide_eq_true (by assumption)
          obtain ⟨ad101, e101, hx101_0⟩ := Kd.at_int HR0.out x5_1 p101 q101
          cases e101
          replace p101 := eq_true p101
          replace q101 := eq_true q101
          have p102 : 0 ≤ (x5_1 : Int) := of_decide_eq_true (by assumption)
          have q102 : x5_1 < (l1.length : Int) := of_decide_eq_true (by assumption)
          obtain ⟨ad102, e102, hx102_0⟩ := Kd.at_int HR1.out x5_1 p102 q102
          cases e102
          replace p102 := eq_true p102
          replace q102 := eq_true q102
          have p103 : 0 ≤ (x5_1 : Int) := of_decide_eq_true (by assumption)
          have q103 : x5_1 < (l0.length : Int) := of_decide_eq_true (by assumption)
          obtain ⟨ad103, e103, hx103_0⟩ := Kd.at_int HR0.out x5_1 p103 q103
          obtain rfl : ad101 = ad103 := (by injection e103)
          replace p103 := eq_true p103
          replace q103 := eq_true q103
          have p104 : 0 ≤ (x5_1 : Int) := of_decide_eq_true (by assumption)
          have q104 : x5_1 < (l1.length : Int) := of_decide_eq_true (by assumption)
          obtain ⟨ad104, e104, hx104_0⟩ := Kd.at_int HR1.out x5_1 p104 q104
          obtain rfl : ad102 = ad104 := (by injection e104)
          replace p104 := eq_true p104
          replace q104 := eq_true q104
          go_wp2
          repeat (go_quiet (fail); try go_wp2)
          go_ret
          exact ⟨by first | rfl | (simp; done) | (simp [*]; done), by repeat (first | exact Drawn0.refl _ | apply Drawn0.step)⟩
       ·rw [if_neg c7] at H
        exact absurd H (by simp)
      ·rw [if_neg c6] at H
       exact absurd H (by simp)
     ·rw [if_neg c5] at H
      exact absurd H (by simp)
    ·rw [if_neg c4] at H
     have c4b0 : decide (0 ≤ x5_1) = false := decide_eq_false c4
     clear c4
     obtain rfl := Option.some.inj H
     go_wp2
     repeat (go_quiet (fail); try go_wp2)
     go_ret
     exact ⟨by first | rfl | (simp; done) | (simp [*]; done), by repeat (first | exact Drawn0.refl _ | apply Drawn0.step)⟩
 ·rw [if_neg c3] at H
  have c3b0 : ((l0.length : Int) == (l1.length : Int)) = false := beq_eq_false_iff_ne.mpr c3
  have c3b1 : ((l0.length : Int) != (l1.length : Int)) = true := bne_iff_ne.mpr c3
  have c3b2 : (l0.length == l1.length) = false := by first | simpa using c3 | (simp at c3 ⊢; omega)
  by_cases c10 : (l0.length : Int) < (l1.length : Int)
  ·rw [if_pos c10] at H
   have c10b0 : decide ((l0.length : Int) < (l1.length : Int)) = true := decide_eq_true c10
   have c10b1 : decide (l0.length < l1.length) = true := decide_eq_true (Int.ofNat_lt.mp c10)
   clear c10
   obtain rfl := Option.some.inj H
   go_enter Tryd.func64, Tryd.ntmps64
   go_wp2
   repeat (go_quiet (fail); try go_wp2)
   go_ret
   exact ⟨by first | rfl | (simp; done) | (simp [*]; done), by repeat (first | exact Drawn0.refl _ | apply Drawn0.step)⟩
  ·rw [if_neg c10] at H
   have c10b0 : decide ((l0.length : Int) < (l1.length : Int)) = false := decide_eq_false c10
   have c10b1 : decide (l0.length < l1.length) = false := decide_eq_false (fun h => c10 (Int.ofNat_lt.mpr h))
   clear c10
   obtain rfl := Option.some.inj H
   go_enter Tryd.func64, Tryd.ntmps64
   go_wp2
   repeat (go_quiet (fail); try go_wp2)
   go_ret
   exact ⟨by first | rfl | (simp; done) | (simp [*]; done), by repeat (first | exact Drawn0.refl _ | apply Drawn0.step)⟩
/-! ### rational_addNat: function 63 -/
section
attribute [-simp] Int.emod_add_emod Int.add_emod_emod
mutual
def rational_addNat.l0 : Nat → List Int → List Int → Int → List Int → Int → Int → Option (List Int)
 | 0, _, _, _, _, _, _ => none
 | k + 1, x1, x5, x6, x20, x21, x22 => if x22 < x21 then (if 0 ≤ x22 then (if x22 < (x20.length : Int) then (if x22 < (x1.length : Int) then (if x5.length < 35184372088832 then (rational_addNat.l0 k x1 (x5 ++ [(((((rd x20 x22) + x6) % 4294967296) + (rd x1 x22)) % 4294967296) % 1000000000]) ((((((rd x20 x22) + x6) % 4294967296) + (rd x1 x22)) % 4294967296) / 1000000000) x20 x21 (wrap64 (x22 + 1))) else (none)) else (if x5.length < 35184372088832 then (rational_addNat.l0 k x1 (x5 ++ [(((rd x20 x22) + x6) % 4294967296) % 1000000000]) ((((rd x20 x22) + x6) % 4294967296) / 1000000000) x20 x21 (wrap64 (x22 + 1))) else (none))) else (none)) else (none)) else (if x5.length < 35184372088832 then ((rational_trim.f k (x5 ++ [x6])).bind fun t262 => (some t262)) else (none))
def rational_addNat.l1 : Nat → List Int → List Int → Int → List Int → Int → Int → Option (List Int)
 | 0, _, _, _, _, _, _ => none
 | k + 1, x1, x5, x6, x20, x21, x22 => if x22 < x21 then (if 0 ≤ x22 then (if x22 < (x20.length : Int) then (if x22 < (x1.length : Int) then (if x5.length < 35184372088832 then (rational_addNat.l1 k x1 (x5 ++ [(((((rd x20 x22) + x6) % 4294967296) + (rd x1 x22)) % 4294967296) % 1000000000]) ((((((rd x20 x22) + x6) % 4294967296) + (rd x1 x22)) % 4294967296) / 1000000000) x20 x21 (wrap64 (x22 + 1))) else (none)) else (if x5.length < 35184372088832 then (rational_addNat.l1 k x1 (x5 ++ [(((rd x20 x22) + x6) % 4294967296) % 1000000000]) ((((rd x20 x22) + x6) % 4294967296) / 1000000000) x20 x21 (wrap64 (x22 + 1))) else (none))) else (none)) else (none)) else (if x5.length < 35184372088832 then ((rational_trim.f k (x5 ++ [x6])).bind fun t279 => (some t279)) else (none))
end
def rational_addNat.f (k : Nat) (l0 : List Int) (l1 : List Int) : Option (List Int) := if (l0.length : Int) < (l1.length : Int) then (if 0 ≤ (wrap64 ((l1.length : Int) + 1)) then (if (wrap64 ((l1.length : Int) + 1) : Int).toNat ≤ 70368744177664 then (rational_addNat.l0 k l0 (List.replicate 0 0) 0 l1 (l1.length : Int) 0) else (none)) else (none)) else (if 0 ≤ (wrap64 ((l0.length : Int) + 1)) then (if (wrap64 ((l0.length : Int) + 1) : Int).toNat ≤ 70368744177664 then (rational_addNat.l1 k l1 (List.replicate 0 0) 0 l0 (l0.length : Int) 0) else (none)) else (none))
theorem rational_addNat.mono_l : ∀ k, (∀ y0 y1 y2 y3 y4 y5, LeO (rational_addNat.l0 k y0 y1 y2 y3 y4 y5) (rational_addNat.l0 (k + 1) y0 y1 y2 y3 y4 y5)) ∧ (∀ y0 y1 y2 y3 y4 y5, LeO (rational_addNat.l1 k y0 y1 y2 y3 y4 y5) (rational_addNat.l1 (k + 1) y0 y1 y2 y3 y4 y5))
 | 0 => ⟨fun _ _ _ _ _ _ r h => by simp [rational_addNat.l0] at h, fun _ _ _ _ _ _ r h => by simp [rational_addNat.l1] at h⟩
 | k + 1 => by
  obtain ⟨ih0, ih1⟩ := rational_addNat.mono_l k
  refine ⟨?_, ?_⟩
  ·intro y0 y1 y2 y3 y4 y5
   unfold rational_addNat.l0
   repeat' first
   | (with_reducible exact ih0 _ _ _ _ _ _)
   | (with_reducible exact ih1 _ _ _ _ _ _)
   | (with_reducible exact rational_trim.mono _ _)
   | (with_reducible exact LeO.refl _)
   | (with_reducible exact LeO.none _)
   | (with_reducible refine LeO.ite ?_ ?_)
   | (with_reducible refine LeO.bind ?_ (fun _ => ?_))
   | exact ih0 _ _ _ _ _ _
   | exact ih1 _ _ _ _ _ _
   | exact rational_trim.mono _ _
   | exact LeO.none _
   | refine LeO.ite ?_ ?_
   | refine LeO.bind ?_ (fun _ => ?_)
  ·intro y0 y1 y2 y3 y4 y5
   unfold rational_addNat.l1
   repeat' first
   | (with_reducible exact ih0 _ _ _ _ _ _)
   | (with_reducible exact ih1 _ _ _ _ _ _)
   | (with_reducible exact rational_trim.mono _ _)
   | (with_reducible exact LeO.refl _)
   | (with_reducible exact LeO.none _)
   | (with_reducible refine LeO.ite ?_ ?_)
   | (with_reducible refine LeO.bind ?_ (fun _ => ?_))
   | exact ih0 _ _ _ _ _ _
   | exact ih1 _ _ _ _ _ _
   | exact rational_trim.mono _ _
   | exact LeO.none _
   | refine LeO.ite ?_ ?_
   | refine LeO.bind ?_ (fun _ => ?_)
theorem rational_addNat.mono : ∀ a0 a1 k, LeO (rational_addNat.f k a0 a1) (rational_addNat.f (k + 1) a0 a1) := by
 intro a0 a1 k
 obtain ⟨ih0, ih1⟩ := rational_addNat.mono_l k
 unfold rational_addNat.f
 repeat' first
   | (with_reducible exact ih0 _ _ _ _ _ _)
   | (with_reducible exact ih1 _ _ _ _ _ _)
   | (with_reducible exact rational_trim.mono _ _)
   | (with_reducible exact LeO.refl _)
   | (with_reducible exact LeO.none _)
   | (with_reducible refine LeO.ite ?_ ?_)
   | (with_reducible refine LeO.bind ?_ (fun _ => ?_))
   | exact ih0 _ _ _ _ _ _
   | exact ih1 _ _ _ _ _ _
   | exact rational_trim.mono _ _
   | exact LeO.none _
   | refine LeO.ite ?_ ?_
   | refine LeO.bind ?_ (fun _ => ?_)
set_option maxHeartbeats 8000000 in
set_option maxRecDepth 100000 in
theorem rational_addNat.calls (k : Nat) (A0 : Option Addr) (c0 : Nat) (l0 : List Int) (A1 : Option Addr) (c1 : Nat) (l1 : List Int) (r : List Int) (w : World) (hr0 : Kd.C (Kd.int .u32) w A0 l0.length l0) (hc0 : l0.length ≤ c0) (hr1 : Kd.C (Kd.int .u32) w A1 l1.length l1) (hc1 : l1.length ≤ c1) (h : rational_addNat.f k l0 l1 = some r) :
  Calls Tryd.prog 63 #[.slice A0 l0.length c0, .slice A1 l1.length c1] w fun e w' => ∃ v0_ : Value, e = .returned (v0_) ∧ Kd.V (Kd.int .u32) 90 w' w.heap.size (fun k_ => (w.heap.size ≤ k_)) v0_ r ∧ Below w.heap.size w w' := by
 have HR0 := Aside0.mk hr0
 have HC0 := Aside0.mk hc0
 clear hr0 hc0
 have HR1 := Aside0.mk hr1
 have HC1 := Aside0.mk hc1
 clear hr1 hc1
 have HB := Aside0.mk (Below.refl w.heap.size w)
 have H : (if (l0.length : Int) < (l1.length : Int) then (if 0 ≤ (wrap64 ((l1.length : Int) + 1)) then (if (wrap64 ((l1.length : Int) + 1) : Int).toNat ≤ 70368744177664 then (rational_addNat.l0 k l0 (List.replicate 0 0) 0 l1 (l1.length : Int) 0) else (none)) else (none)) else (if 0 ≤ (wrap64 ((l0.length : Int) + 1)) then (if (wrap64 ((l0.length : Int) + 1) : Int).toNat ≤ 70368744177664 then (rational_addNat.l1 k l1 (List.replicate 0 0) 0 l0 (l0.length : Int) 0) else (none)) else (none))) = some r := h
 clear h
 by_cases c3 : (l0.length : Int) < (l1.length : Int)
 ·rw [if_pos c3] at H
  have c3b0 : decide ((l0.length : Int) < (l1.length : Int)) = true := decide_eq_true c3
  have c3b1 : decide (l0.length < l1.length) = true := decide_eq_true (Int.ofNat_lt.mp c3)
  clear c3
  obtain ⟨ji4, hji4⟩ : ∃ j_ : Int, (wrap64 ((l1.length : Int) + 1)) = j_ := ⟨_, rfl⟩
  replace H : (if 0 ≤ (ji4) then (if (ji4 : Int).toNat ≤ 70368744177664 then (rational_addNat.l0 k l0 (List.replicate 0 0) 0 l1 (l1.length : Int) 0) else (none)) else (none)) = some r := by first | (rw [hji4] at H; exact H) | (simp only [hji4] at H ⊢; exact H)
  have hji4w : (IntKind.i64.wrap ((l1.length : Int) + 1)) = ji4 := (i64_w _).trans hji4
  by_cases c5 : 0 ≤ (ji4)
  ·rw [if_pos c5] at H
   have c5b0 := eq_true c5
   have c5b1 : decide (0 ≤ (ji4)) = true := decide_eq_true c5
   clear c5
   by_cases c6 : (ji4 : Int).toNat ≤ 70368744177664
   ·rw [if_pos c6] at H
    have c6b0 := eq_true c6
    have c6b1 : decide ((ji4 : Int).toNat ≤ 70368744177664) = true := decide_eq_true c6
    clear c6
    obtain ⟨y248, hy248⟩ : ∃ y_ : List Int, y_ = (List.replicate 0 0) := ⟨_, rfl⟩
    replace H : (rational_addNat.l0 k l0 y248 0 l1 (l1.length : Int) 0) = some r := by first | (rw [hy248]; with_reducible exact H) | (have H2_ := (Option.bind_some _ _).symm.trans H; rw [hy248]; with_reducible exact H2_) | (have H2_ := (Option.bind_some _ _).symm.trans H; with_reducible exact H2_) | with_reducible exact H | (rw [hy248]; exact H) | exact H
    have Ny248 := Aside0.mk hy248
    clear hy248
    have H' := Aside0.mk H
    clear H
    go_enter Tryd.func63, Tryd.ntmps63
    go_wp2_with (first | ((with_reducible refine gate_dst (N := 19) rfl ?_); refine Kd.R_makecap (Kd.int .u32) _ 90 rfl (N := 19) rfl 80 _ _ rfl 0 ji4 rfl rfl Tryd.underlying80 (.int .u32 0) 4 info90 rfl (by decide) (by omega) 0 (ok := fun _ => True) (okp := fun _ => True) rfl (fun _ hk => hk) trivial (by omega) (of_decide_eq_true (by assumption)) (Nat.le_trans (Nat.mul_le_mul_right _ (of_decide_eq_true (by assumption) : ji4.toNat ≤ 70368744177664)) (by omega)) (Below.refl _ _) (Nat.le_refl _) ?_; intro v249 w7 ho8 hb hg_ hnew_; clear hg_ hnew_; (first | rw [← Ny248.out] at ho8 | (simp only [Int.reduceToNat] at ho8; rw [← Ny248.out] at ho8)); have n0_ := Aside0.mk (Kd.R_lower (Kd.R_newM (M := fun k_ => (w.heap.size ≤ k_)) ho8 (below_size HB.out) (fun k_ h_ => h_)) (below_size HB.out)); have n1_ := Aside0.mk (below_step HB.out hb); clear HB; have HO250 := n0_; have HB := n1_; clear n0_ n1_; clear hb ho8))
    go_loopg [5, 6, 22] k (fun kq v5 v6 v22 w' => ∃ (x5_1 : List Int) (x6_1 : Int) (x22_1 : Int), v6 = .int .u32 x6_1 ∧ v22 = .int .i64 x22_1 ∧ Aside0 (rational_addNat.l0 kq l0 x5_1 x6_1 l1 (l1.length : Int) x22_1 = some r) ∧ Aside0 (kq ≤ k) ∧ Aside0 (Kd.R (Kd.int .u32) 90 w' w.heap.size (fun k_ => (w.heap.size ≤ k_)) v5 x5_1) ∧ Aside0 (Below w.heap.size w w'))
    case atStart => exact ⟨(y248), (0), (0), rfl, rfl, H', ⟨Nat.le_refl _⟩, ⟨by (with_reducible repeat (first | apply Kd.R_alloc | apply Kd.R_drewN | apply Kd.R_drew)); exact Kd.R_mono HO250.out (fun _ hk => hk.1)⟩, ⟨HB.out⟩⟩
    case round =>
     clear H'
     try clear c1
     try clear p2
     try clear c3
     try clear c3b0
     try clear c3b1
     try clear c5
     try clear c5b0
     try clear c5b1
     try clear c6
     try clear c6b0
     try clear c6b1
     try clear p6
     obtain ⟨x5_1, x6_1, x22_1, rfl, rfl, HA, HK1, HO_5, HB⟩ := hrel
     cases gk with
     | zero => exact absurd HA.out (by simp [rational_addNat.l0])
     | succ k1 =>
      have H := HA.out
      clear HA
      simp only [rational_addNat.l0] at H
      by_cases c9 : x22_1 < (l1.length : Int)
      ·rw [if_pos c9] at H
       have c9b0 : decide (x22_1 < (l1.length : Int)) = true := decide_eq_true c9
       clear c9
       by_cases c10 : 0 ≤ x22_1
       ·rw [if_pos c10] at H
        have c10b0 : decide (0 ≤ x22_1) = true := decide_eq_true c10
        clear c10
        by_cases c11 : x22_1 < (l1.length : Int)
        ·rw [if_pos c11] at H
         have c11b0 : decide (x22_1 < (l1.length : Int)) = true := decide_eq_true c11
         clear c11
         by_cases c12 : x22_1 < (l0.length : Int)
         ·rw [if_pos c12] at H
          have c12b0 : decide (x22_1 < (l0.length : Int)) = true := decide_eq_true c12
          clear c12
          by_cases c13 : x5_1.length < 35184372088832
          ·rw [if_pos c13] at H
           have LMc13 := Aside0.mk c13
           clear c13
           obtain ⟨y253, hy253⟩ : ∃ y_ : List Int, y_ = (x5_1 ++ [(((((rd l1 x22_1) + x6_1) % 4294967296) + (rd l0 x22_1)) % 4294967296) % 1000000000]) := ⟨_, rfl⟩
           replace H : (rational_addNat.l0 k1 l0 y253 ((((((rd l1 x22_1) + x6_1) % 4294967296) + (rd l0 x22_1)) % 4294967296) / 1000000000) l1 (l1.length : Int) (wrap64 (x22_1 + 1))) = some r := by first | (rw [hy253]; with_reducible exact H) | (have H2_ := (Option.bind_some _ _).symm.trans H; rw [hy253]; with_reducible exact H2_) | (have H2_ := (Option.bind_some _ _).symm.trans H; with_reducible exact H2_) | with_reducible exact H | (rw [hy253]; exact H) | exact H
           have Ny253 := Aside0.mk hy253
           clear hy253
           have H' := Aside0.mk H
           clear H
           have p251 : 0 ≤ (x22_1 : Int) := of_decide_eq_true (by assumption)
           have q251 : x22_1 < (l1.length : Int) := of_decide_eq_true (by assumption)
           obtain ⟨ad251, e251, hx251_0⟩ := Kd.at_int HR1.out x22_1 p251 q251
           cases e251
           replace hx251_0 := (HB.out.cell (World.block_lt_of_cell? w _ hx251_0)).trans hx251_0
           replace p251 := eq_true p251
           replace q251 := eq_true q251
           have p252 : 0 ≤ (x22_1 : Int) := of_decide_eq_true (by assumption)
           have q252 : x22_1 < (l0.length : Int) := of_decide_eq_true (by assumption)
           obtain ⟨ad252, e252, hx252_0⟩ := Kd.at_int HR0.out x22_1 p252 q252
           cases e252
           replace hx252_0 := (HB.out.cell (World.block_lt_of_cell? w _ hx252_0)).trans hx252_0
           replace p252 := eq_true p252
           replace q252 := eq_true q252
           go_wp2_with (first | ((with_reducible refine gate_builtin (b := .append) (xs := #[.tmp 42, .tmp 45]) rfl ?_); at_builtin; refine Kd.R_append (Kd.int .u32) (w0 := w) w.heap.size rfl (.tmp 42) (.tmp 45) 80 90 (.int .u32 0) 4 rfl Tryd.underlying80 info90 rfl (by decide) (by omega) u5 x5_1 ((((((rd l1 x22_1) + x6_1) % 4294967296) + (rd l0 x22_1)) % 4294967296) % 1000000000) [.int .u32 ((((((rd l1 x22_1) + x6_1) % 4294967296) + (rd l0 x22_1)) % 4294967296) % 1000000000)] (fun k_ => (w.heap.size ≤ k_)) (fun _ => False) rfl rfl ?aP (fun _ hk => hk.elim) ?aF ?aO ?aB ?aS ?aL ?_; (case aP => exact rfl); (case aB => exact HB.out); (case aF => exact (fun k_ hk => (Nat.le_trans (below_size HB.out) hk))); (case aO => exact HO_5.out); (case aS => exact (below_size HB.out)); (case aL => have := LMc13.out; omega); intro v254 w14 ho hb hg hat; rw [← Ny253.out] at ho; have n0_ := Aside0.mk (hb); have n1_ := Aside0.mk (ho); clear HB; clear HO_5; have HB := n0_; have HO255 := n1_; clear n0_ n1_; clear ho hb hg hat))
           go_roundg k1
           case measure => have := HK1.out; omega
           case rel => exact ⟨(y253), ((((((rd l1 x22_1) + x6_1) % 4294967296) + (rd l0 x22_1)) % 4294967296) / 1000000000), (wrap64 (x22_1 + 1)), rfl, rfl, H', ⟨by have := HK1.out; omega⟩, ⟨by (with_reducible repeat (first | apply Kd.R_alloc | apply Kd.R_drewN | apply Kd.R_drew)); exact HO255.out⟩, ⟨HB.out⟩⟩
          ·rw [if_neg c13] at H
           exact absurd H (by simp)
         ·rw [if_neg c12] at H
          have c12b0 : decide (x22_1 < (l0.length : Int)) = false := decide_eq_false c12
          clear c12
          by_cases c15 : x5_1.length < 35184372088832
          ·rw [if_pos c15] at H
           have LMc15 := Aside0.mk c15
           clear c15
           obtain ⟨y256, hy256⟩ : ∃ y_ : List Int, y_ = (x5_1 ++ [(((rd l1 x22_1) + x6_1) % 4294967296) % 1000000000]) := ⟨_, rfl⟩
           replace H : (rational_addNat.l0 k1 l0 y256 ((((rd l1 x22_1) + x6_1) % 4294967296) / 1000000000) l1 (l1.length : Int) (wrap64 (x22_1 + 1))) = some r := by first | (rw [hy256]; with_reducible exact H) | (have H2_ := (Option.bind_some _ _).symm.trans H; rw [hy256]; with_reducible exact H2_) | (have H2_ := (Option.bind_some _ _).symm.trans H; with_reducible exact H2_) | with_reducible exact H | (rw [hy256]; exact H) | exact H
           have Ny256 := Aside0.mk hy256
           clear hy256
           have H' := Aside0.mk H
           clear H
           have p251 : 0 ≤ (x22_1 : Int) := of_decide_eq_true (by assumption)
           have q251 : x22_1 < (l1.length : Int) := of_decide_eq_true (by assumption)
           obtain ⟨ad251, e251, hx251_0⟩ := Kd.at_int HR1.out x22_1 p251 q251
           cases e251
           replace hx251_0 := (HB.out.cell (World.block_lt_of_cell? w _ hx251_0)).trans hx251_0
           replace p251 := eq_true p251
           replace q251 := eq_true q251
           go_wp2_with (first | ((with_reducible refine gate_builtin (b := .append) (xs := #[.tmp 42, .tmp 45]) rfl ?_); at_builtin; refine Kd.R_append (Kd.int .u32) (w0 := w) w.heap.size rfl (.tmp 42) (.tmp 45) 80 90 (.int .u32 0) 4 rfl Tryd.underlying80 info90 rfl (by decide) (by omega) u5 x5_1 ((((rd l1 x22_1) + x6_1) % 4294967296) % 1000000000) [.int .u32 ((((rd l1 x22_1) + x6_1) % 4294967296) % 1000000000)] (fun k_ => (w.heap.size ≤ k_)) (fun _ => False) rfl rfl ?aP (fun _ hk => hk.elim) ?aF ?aO ?aB ?aS ?aL ?_; (case aP => exact rfl); (case aB => exact HB.out); (case aF => exact (fun k_ hk => (Nat.le_trans (below_size HB.out) hk))); (case aO => exact HO_5.out); (case aS => exact (below_size HB.out)); (case aL => have := LMc15.out; omega); intro v257 w16 ho hb hg hat; rw [← Ny256.out] at ho; have n0_ := Aside0.mk (hb); have n1_ := Aside0.mk (ho); clear HB; clear HO_5; have HB := n0_; have HO258 := n1_; clear n0_ n1_; clear ho hb hg hat))
           go_roundg k1
           case measure => have := HK1.out; omega
           case rel => exact ⟨(y256), ((((rd l1 x22_1) + x6_1) % 4294967296) / 1000000000), (wrap64 (x22_1 + 1)), rfl, rfl, H', ⟨by have := HK1.out; omega⟩, ⟨by (with_reducible repeat (first | apply Kd.R_alloc | apply Kd.R_drewN | apply Kd.R_drew)); exact HO258.out⟩, ⟨HB.out⟩⟩
          ·rw [if_neg c15] at H
           exact absurd H (by simp)
        ·rw [if_neg c11] at H
         exact absurd H (by simp)
       ·rw [if_neg c10] at H
        exact absurd H (by simp)
      ·rw [if_neg c9] at H
       have c9b0 : decide (x22_1 < (l1.length : Int)) = false := decide_eq_false c9
       clear c9
       by_cases c17 : x5_1.length < 35184372088832
       ·rw [if_pos c17] at H
        have LMc17 := Aside0.mk c17
        clear c17
        obtain ⟨y259, hy259⟩ : ∃ y_ : List Int, y_ = (x5_1 ++ [x6_1]) := ⟨_, rfl⟩
        replace H : ((rational_trim.f k1 y259).bind fun t262 => (some t262)) = some r := by first | (rw [hy259]; with_reducible exact H) | (have H2_ := (Option.bind_some _ _).symm.trans H; rw [hy259]; with_reducible exact H2_) | (have H2_ := (Option.bind_some _ _).symm.trans H; with_reducible exact H2_) | with_reducible exact H | (rw [hy259]; exact H) | exact H
        have Ny259 := Aside0.mk hy259
        clear hy259
        replace H := Option.bind_eq_some_iff.mp H
        obtain ⟨t262, A180, H⟩ := H
        (try dsimp only at H)
        have A18 := Aside0.mk A180
        clear A180
        obtain rfl := Option.some.inj H
        go_wp2_with (first | ((with_reducible refine gate_builtin (b := .append) (xs := #[.tmp 48, .tmp 50]) rfl ?_); at_builtin; refine Kd.R_append (Kd.int .u32) (w0 := w) w.heap.size rfl (.tmp 48) (.tmp 50) 80 90 (.int .u32 0) 4 rfl Tryd.underlying80 info90 rfl (by decide) (by omega) u5 x5_1 x6_1 [.int .u32 x6_1] (fun k_ => (w.heap.size ≤ k_)) (fun _ => False) rfl rfl ?aP (fun _ hk => hk.elim) ?aF ?aO ?aB ?aS ?aL ?_; (case aP => exact rfl); (case aB => exact HB.out); (case aF => exact (fun k_ hk => (Nat.le_trans (below_size HB.out) hk))); (case aO => exact HO_5.out); (case aS => exact (below_size HB.out)); (case aL => have := LMc17.out; omega); intro v260 w19 ho hb hg hat; rw [← Ny259.out] at ho; have n0_ := Aside0.mk (hb); have n1_ := Aside0.mk (ho); clear HB; clear HO_5; have HB := n0_; have HO261 := n1_; clear n0_ n1_; clear ho hb hg hat; obtain ⟨Ao20, co20, eo20⟩ := Kd.R_slice HO261.out; subst eo20) | ((with_reducible refine gate_callee (f := 115) rfl ?_); refine goesL_ (some 52) rfl rfl Tryd.func115 (by kernel_rfl) rfl #[.slice Ao20 y259.length co20] rfl (by (try simp only [List.map_toArray, List.map_cons, List.map_nil]); first | done | rfl) ?_; (with_reducible refine (rational_trim.calls k1 (fun k_ => some k_ = (.slice Ao20 y259.length co20 : Value).ownBlock) _ _ y259 t262 _ ?side1 A18.out).mono ?_); (case side1 => exact Kd.R_V (Kd.R_tight rfl (HO261.out))); rintro e w21 ⟨v263, rfl, ho0, hb⟩; refine ⟨_, rfl, ?_⟩; have n0_ := Aside0.mk (Kd.R_below HO261.out hb); have n1_ := Aside0.mk (Kd.V_lower (Kd.V_mono (ok' := fun k_ => (w.heap.size ≤ k_)) ho0 (fun k_ hk_ => Or.elim hk_ (fun hs_ => ((HO261.out).1 k_ hs_.symm)) (fun hn_ => (Nat.le_trans (below_size HB.out) hn_)))) (below_size HB.out)); have n2_ := Aside0.mk (below_step HB.out hb); clear HO261; clear HB; have HO261 := n0_; have HO264 := n1_; have HB := n2_; clear n0_ n1_ n2_; (try clear hb); (try clear hb2); (try clear hk); (try clear hi); (try clear ho0)))
        go_ret
        exact ⟨_, by first | rfl | (simp [errW_none, errW_some] <;> rfl) | (simp only [← hji4]; first | rfl | (simp [errW_none, errW_some] <;> rfl)) | (simp [*, errW_none, errW_some] <;> rfl), by (with_reducible repeat (first | apply Kd.V_alloc | apply Kd.V_drewN | apply Kd.V_drew)); exact HO264.out, HB.out⟩
       ·rw [if_neg c17] at H
        exact absurd H (by simp)
   ·rw [if_neg c6] at H
    exact absurd H (by simp)
  ·rw [if_neg c5] at H
   exact absurd H (by simp)
 ·rw [if_neg c3] at H
  have c3b0 : decide ((l0.length : Int) < (l1.length : Int)) = false := decide_eq_false c3
  have c3b1 : decide (l0.length < l1.length) = false := decide_eq_false (fun h => c3 (Int.ofNat_lt.mpr h))
  clear c3
  obtain ⟨ji22, hji22⟩ : ∃ j_ : Int, (wrap64 ((l0.length : Int) + 1)) = j_ := ⟨_, rfl⟩
  replace H : (if 0 ≤ (ji22) then (if (ji22 : Int).toNat ≤ 70368744177664 then (rational_addNat.l1 k l1 (List.replicate 0 0) 0 l0 (l0.length : Int) 0) else (none)) else (none)) = some r := by first | (rw [hji22] at H; exact H) | (simp only [hji22] at H ⊢; exact H)
  have hji22w : (IntKind.i64.wrap ((l0.length : Int) + 1)) = ji22 := (i64_w _).trans hji22
  by_cases c23 : 0 ≤ (ji22)
  ·rw [if_pos c23] at H
   have c23b0 := eq_true c23
   have c23b1 : decide (0 ≤ (ji22)) = true := decide_eq_true c23
   clear c23
   by_cases c24 : (ji22 : Int).toNat ≤ 70368744177664
   ·rw [if_pos c24] at H
    have c24b0 := eq_true c24
    have c24b1 : decide ((ji22 : Int).toNat ≤ 70368744177664) = true := decide_eq_true c24
    clear c24
    obtain ⟨y265, hy265⟩ : ∃ y_ : List Int, y_ = (List.replicate 0 0) := ⟨_, rfl⟩
    replace H : (rational_addNat.l1 k l1 y265 0 l0 (l0.length : Int) 0) = some r := by first | (rw [hy265]; with_reducible exact H) | (have H2_ := (Option.bind_some _ _).symm.trans H; rw [hy265]; with_reducible exact H2_) | (have H2_ := (Option.bind_some _ _).symm.trans H; with_reducible exact H2_) | with_reducible exact H | (rw [hy265]; exact H) | exact H
    have Ny265 := Aside0.mk hy265
    clear hy265
    have H' := Aside0.mk H
    clear H
    go_enter Tryd.func63, Tryd.ntmps63
    go_wp2_with (first | ((with_reducible refine gate_dst (N := 19) rfl ?_); refine Kd.R_makecap (Kd.int .u32) _ 90 rfl (N := 19) rfl 80 _ _ rfl 0 ji22 rfl rfl Tryd.underlying80 (.int .u32 0) 4 info90 rfl (by decide) (by omega) 0 (ok := fun _ => True) (okp := fun _ => True) rfl (fun _ hk => hk) trivial (by omega) (of_decide_eq_true (by assumption)) (Nat.le_trans (Nat.mul_le_mul_right _ (of_decide_eq_true (by assumption) : ji22.toNat ≤ 70368744177664)) (by omega)) (Below.refl _ _) (Nat.le_refl _) ?_; intro v266 w25 ho26 hb hg_ hnew_; clear hg_ hnew_; (first | rw [← Ny265.out] at ho26 | (simp only [Int.reduceToNat] at ho26; rw [← Ny265.out] at ho26)); have n0_ := Aside0.mk (Kd.R_lower (Kd.R_newM (M := fun k_ => (w.heap.size ≤ k_)) ho26 (below_size HB.out) (fun k_ h_ => h_)) (below_size HB.out)); have n1_ := Aside0.mk (below_step HB.out hb); clear HB; have HO267 := n0_; have HB := n1_; clear n0_ n1_; clear hb ho26))
    go_loopg [5, 6, 22] k (fun kq v5 v6 v22 w' => ∃ (x5_1 : List Int) (x6_1 : Int) (x22_1 : Int), v6 = .int .u32 x6_1 ∧ v22 = .int .i64 x22_1 ∧ Aside0 (rational_addNat.l1 kq l1 x5_1 x6_1 l0 (l0.length : Int) x22_1 = some r) ∧ Aside0 (kq ≤ k) ∧ Aside0 (Kd.R (Kd.int .u32) 90 w' w.heap.size (fun k_ => (w.heap.size ≤ k_)) v5 x5_1) ∧ Aside0 (Below w.heap.size w w'))
    case atStart => exact ⟨(y265), (0), (0), rfl, rfl, H', ⟨Nat.le_refl _⟩, ⟨by (with_reducible repeat (first | apply Kd.R_alloc | apply Kd.R_drewN | apply Kd.R_drew)); exact Kd.R_mono HO267.out (fun _ hk => hk.1)⟩, ⟨HB.out⟩⟩
    case round =>
     clear H'
     try clear c1
     try clear c2
     try clear p2
     try clear q2
     try clear hx2
     try clear c3
     try clear c3b0
     try clear c3b1
     try clear c5
     try clear c5b0
     try clear c5b1
     try clear c6
     try clear c6b0
     try clear c6b1
     try clear p6
     try clear c9
     try clear c9b0
     try clear c10
     try clear c10b0
     try clear c11
     try clear c11b0
     try clear c12
     try clear c12b0
     try clear c13
     try clear c15
     try clear c17
     try clear c23
     try clear c23b0
     try clear c23b1
     try clear c24
     try clear c24b0
     try clear c24b1
     try clear p25
     try clear q25
     try clear hx25
     try clear hx251_0
     try clear hx252_0
     try clear p2
     try clear p251
     try clear p252
     try clear p6
     try clear q251
     try clear q252
     obtain ⟨x5_1, x6_1, x22_1, rfl, rfl, HA, HK1, HO_5, HB⟩ := hrel
     cases gk with
     | zero => exact absurd HA.out (by simp [rational_addNat.l1])
     | succ k1 =>
      have H := HA.out
      clear HA
      simp only [rational_addNat.l1] at H
      by_cases c27 : x22_1 < (l0.length : Int)
      ·rw [if_pos c27] at H
       have c27b0 : decide (x22_1 < (l0.length : Int)) = true := decide_eq_true c27
       clear c27
       by_cases c28 : 0 ≤ x22_1
       ·rw [if_pos c28] at H
        have c28b0 : decide (0 ≤ x22_1) = true := decide_eq_true c28
        clear c28
        by_cases c29 : x22_1 < (l0.length : Int)
        ·rw [if_pos c29] at H
         have c29b0 : decide (x22_1 < (l0.length : Int)) = true := decide_eq_true c29
         clear c29
         by_cases c30 : x22_1 < (l1.length : Int)
         ·rw [if_pos c30] at H
          have c30b0 : decide (x22_1 < (l1.length : Int)) = true := decide_eq_true c30
          clear c30
          by_cases c31 : x5_1.length < 35184372088832
          ·rw [if_pos c31] at H
           have LMc31 := Aside0.mk c31
           clear c31
           obtain ⟨y270, hy270⟩ : ∃ y_ : List Int, y_ = (x5_1 ++ [(((((rd l0 x22_1) + x6_1) % 4294967296) + (rd l1 x22_1)) % 4294967296) % 1000000000]) := ⟨_, rfl⟩
           replace H : (rational_addNat.l1 k1 l1 y270 ((((((rd l0 x22_1) + x6_1) % 4294967296) + (rd l1 x22_1)) % 4294967296) / 1000000000) l0 (l0.length : Int) (wrap64 (x22_1 + 1))) = some r := by first | (rw [hy270]; with_reducible exact H) | (have H2_ := (Option.bind_some _ _).symm.trans H; rw [hy270]; with_reducible exact H2_) | (have H2_ := (Option.bind_some _ _).symm.trans H; with_reducible exact H2_) | with_reducible exact H | (rw [hy270]; exact H) | exact H
           have Ny270 := Aside0.mk hy270
           clear hy270
           have H' := Aside0.mk H
           clear H
           have p268 : 0 ≤ (x22_1 : Int) := of_decide_eq_true (by assumption)
           have q268 : x22_1 < (l0.length : Int) := of_decide_eq_true (by assumption)
           obtain ⟨ad268, e268, hx268_0⟩ := Kd.at_int HR0.out x22_1 p268 q268
           cases e268
           replace hx268_0 := (HB.out.cell (World.block_lt_of_cell? w _ hx268_0)).trans hx268_0
           replace p268 := eq_true p268
           replace q268 := eq_true q268
           have p269 : 0 ≤ (x22_1 : Int) := of_decide_eq_true (by assumption)
           have q269 : x22_1 < (l1.length : Int) := of_decide_eq_true (by assumption)
           obtain ⟨ad269, e269, hx269_0⟩ := Kd.at_int HR1.out x22_1 p269 q269
           cases e269
           replace hx269_0 := (HB.out.cell (World.block_lt_of_cell? w _ hx269_0)).trans hx269_0
           replace p269 := eq_true p269
           replace q269 := eq_true q269
           go_wp2_with (first | ((with_reducible refine gate_builtin (b := .append) (xs := #[.tmp 42, .tmp 45]) rfl ?_); at_builtin; refine Kd.R_append (Kd.int .u32) (w0 := w) w.heap.size rfl (.tmp 42) (.tmp 45) 80 90 (.int .u32 0) 4 rfl Tryd.underlying80 info90 rfl (by decide) (by omega) u5 x5_1 ((((((rd l0 x22_1) + x6_1) % 4294967296) + (rd l1 x22_1)) % 4294967296) % 1000000000) [.int .u32 ((((((rd l0 x22_1) + x6_1) % 4294967296) + (rd l1 x22_1)) % 4294967296) % 1000000000)] (fun k_ => (w.heap.size ≤ k_)) (fun _ => False) rfl rfl ?aP (fun _ hk => hk.elim) ?aF ?aO ?aB ?aS ?aL ?_; (case aP => exact rfl); (case aB => exact HB.out); (case aF => exact (fun k_ hk => (Nat.le_trans (below_size HB.out) hk))); (case aO => exact HO_5.out); (case aS => exact (below_size HB.out)); (case aL => have := LMc31.out; omega); intro v271 w32 ho hb hg hat; rw [← Ny270.out] at ho; have n0_ := Aside0.mk (hb); have n1_ := Aside0.mk (ho); clear HB; clear HO_5; have HB := n0_; have HO272 := n1_; clear n0_ n1_; clear ho hb hg hat))
           go_roundg k1
           case measure => have := HK1.out; omega
           case rel => exact ⟨(y270), ((((((rd l0 x22_1) + x6_1) % 4294967296) + (rd l1 x22_1)) % 4294967296) / 1000000000), (wrap64 (x22_1 + 1)), rfl, rfl, H', ⟨by have := HK1.out; omega⟩, ⟨by (with_reducible repeat (first | apply Kd.R_alloc | apply Kd.R_drewN | apply Kd.R_drew)); exact HO272.out⟩, ⟨HB.out⟩⟩
          ·rw [if_neg c31] at H
           exact absurd H (by simp)
         ·rw [if_neg c30] at H
          have c30b0 : decide (x22_1 < (l1.length : Int)) = false := decide_eq_false c30
          clear c30
          by_cases c33 : x5_1.length < 35184372088832
          ·rw [if_pos c33] at H
           have LMc33 := Aside0.mk c33
           clear c33
           obtain ⟨y273, hy273⟩ : ∃ y_ : List Int, y_ = (x5_1 ++ [(((rd l0 x22_1) + x6_1) % 4294967296) % 1000000000]) := ⟨_, rfl⟩
           replace H : (rational_addNat.l1 k1 l1 y273 ((((rd l0 x22_1) + x6_1) % 4294967296) / 1000000000) l0 (l0.length : Int) (wrap64 (x22_1 + 1))) = some r := by first | (rw [hy273]; with_reducible exact H) | (have H2_ := (Option.bind_some _ _).symm.trans H; rw [hy273]; with_reducible exact H2_) | (have H2_ := (Option.bind_some _ _).symm.trans H; with_reducible exact H2_) | with_reducible exact H | (rw [hy273]; exact H) | exact H
           have Ny273 := Aside0.mk hy273
           clear hy273
           have H' := Aside0.mk H
           clear H
           have p268 : 0 ≤ (x22_1 : Int) := of_decide_eq_true (by assumption)
           have q268 : x22_1 < (l0.length : Int) := of_decide_eq_true (by assumption)
           obtain ⟨ad268, e268, hx268_0⟩ := Kd.at_int HR0.out x22_1 p268 q268
           cases e268
           replace hx268_0 := (HB.out.cell (World.block_lt_of_cell? w _ hx268_0)).trans hx268_0
           replace p268 := eq_true p268
           replace q268 := eq_true q268
           go_wp2_with (first | ((with_reducible refine gate_builtin (b := .append) (xs := #[.tmp 42, .tmp 45]) rfl ?_); at_builtin; refine Kd.R_append (Kd.int .u32) (w0 := w) w.heap.size rfl (.tmp 42) (.tmp 45) 80 90 (.int .u32 0) 4 rfl Tryd.underlying80 info90 rfl (by decide) (by omega) u5 x5_1 ((((rd l0 x22_1) + x6_1) % 4294967296) % 1000000000) [.int .u32 ((((rd l0 x22_1) + x6_1) % 4294967296) % 1000000000)] (fun k_ => (w.heap.size ≤ k_)) (fun _ => False) rfl rfl ?aP (fun _ hk => hk.elim) ?aF ?aO ?aB ?aS ?aL ?_; (case aP => exact rfl); (case aB => exact HB.out); (case aF => exact (fun k_ hk => (Nat.le_trans (below_size HB.out) hk))); (case aO => exact HO_5.out); (case aS => exact (below_size HB.out)); (case aL => have := LMc33.out; omega); intro v274 w34 ho hb hg hat; rw [← Ny273.out] at ho; have n0_ := Aside0.mk (hb); have n1_ := Aside0.mk (ho); clear HB; clear HO_5; have HB := n0_; have HO275 := n1_; clear n0_ n1_; clear ho hb hg hat))
           go_roundg k1
           case measure => have := HK1.out; omega
           case rel => exact ⟨(y273), ((((rd l0 x22_1) + x6_1) % 4294967296) / 1000000000), (wrap64 (x22_1 + 1)), rfl, rfl, H', ⟨by have := HK1.out; omega⟩, ⟨by (with_reducible repeat (first | apply Kd.R_alloc | apply Kd.R_drewN | apply Kd.R_drew)); exact HO275.out⟩, ⟨HB.out⟩⟩
          ·rw [if_neg c33] at H
           exact absurd H (by simp)
        ·rw [if_neg c29] at H
         exact absurd H (by simp)
       ·rw [if_neg c28] at H
        exact absurd H (by simp)
      ·rw [if_neg c27] at H
       have c27b0 : decide (x22_1 < (l0.length : Int)) = false := decide_eq_false c27
       clear c27
       by_cases c35 : x5_1.length < 35184372088832
       ·rw [if_pos c35] at H
        have LMc35 := Aside0.mk c35
        clear c35
        obtain ⟨y276, hy276⟩ : ∃ y_ : List Int, y_ = (x5_1 ++ [x6_1]) := ⟨_, rfl⟩
        replace H : ((rational_trim.f k1 y276).bind fun t279 => (some t279)) = some r := by first | (rw [hy276]; with_reducible exact H) | (have H2_ := (Option.bind_some _ _).symm.trans H; rw [hy276]; with_reducible exact H2_) | (have H2_ := (Option.bind_some _ _).symm.trans H; with_reducible exact H2_) | with_reducible exact H | (rw [hy276]; exact H) | exact H
        have Ny276 := Aside0.mk hy276
        clear hy276
        replace H := Option.bind_eq_some_iff.mp H
        obtain ⟨t279, A360, H⟩ := H
        (try dsimp only at H)
        have A36 := Aside0.mk A360
        clear A360
        obtain rfl := Option.some.inj H
        go_wp2_with (first | ((with_reducible refine gate_builtin (b := .append) (xs := #[.tmp 48, .tmp 50]) rfl ?_); at_builtin; refine Kd.R_append (Kd.int .u32) (w0 := w) w.heap.size rfl (.tmp 48) (.tmp 50) 80 90 (.int .u32 0) 4 rfl Tryd.underlying80 info90 rfl (by decide) (by omega) u5 x5_1 x6_1 [.int .u32 x6_1] (fun k_ => (w.heap.size ≤ k_)) (fun _ => False) rfl rfl ?aP (fun _ hk => hk.elim) ?aF ?aO ?aB ?aS ?aL ?_; (case aP => exact rfl); (case aB => exact HB.out); (case aF => exact (fun k_ hk => (Nat.le_trans (below_size HB.out) hk))); (case aO => exact HO_5.out); (case aS => exact (below_size HB.out)); (case aL => have := LMc35.out; omega); intro v277 w37 ho hb hg hat; rw [← Ny276.out] at ho; have n0_ := Aside0.mk (hb); have n1_ := Aside0.mk (ho); clear HB; clear HO_5; have HB := n0_; have HO278 := n1_; clear n0_ n1_; clear ho hb hg hat; obtain ⟨Ao38, co38, eo38⟩ := Kd.R_slice HO278.out; subst eo38) | ((with_reducible refine gate_callee (f := 115) rfl ?_); refine goesL_ (some 52) rfl rfl Tryd.func115 (by kernel_rfl) rfl #[.slice Ao38 y276.length co38] rfl (by (try simp only [List.map_toArray, List.map_cons, List.map_nil]); first | done | rfl) ?_; (with_reducible refine (rational_trim.calls k1 (fun k_ => some k_ = (.slice Ao38 y276.length co38 : Value).ownBlock) _ _ y276 t279 _ ?side1 A36.out).mono ?_); (case side1 => exact Kd.R_V (Kd.R_tight rfl (HO278.out))); rintro e w39 ⟨v280, rfl, ho0, hb⟩; refine ⟨_, rfl, ?_⟩; have n0_ := Aside0.mk (Kd.R_below HO278.out hb); have n1_ := Aside0.mk (Kd.V_lower (Kd.V_mono (ok' := fun k_ => (w.heap.size ≤ k_)) ho0 (fun k_ hk_ => Or.elim hk_ (fun hs_ => ((HO278.out).1 k_ hs_.symm)) (fun hn_ => (Nat.le_trans (below_size HB.out) hn_)))) (below_size HB.out)); have n2_ := Aside0.mk (below_step HB.out hb); clear HO278; clear HB; have HO278 := n0_; have HO281 := n1_; have HB := n2_; clear n0_ n1_ n2_; (try clear hb); (try clear hb2); (try clear hk); (try clear hi); (try clear ho0)))
        go_ret
        exact ⟨_, by first | rfl | (simp [errW_none, errW_some] <;> rfl) | (simp only [← hji22]; first | rfl | (simp [errW_none, errW_some] <;> rfl)) | (simp [*, errW_none, errW_some] <;> rfl), by (with_reducible repeat (first | apply Kd.V_alloc | apply Kd.V_drewN | apply Kd.V_drew)); exact HO281.out, HB.out⟩
       ·rw [if_neg c35] at H
        exact absurd H (by simp)
   ·rw [if_neg c24] at H
    exact absurd H (by simp)
  ·rw [if_neg c23] at H
   exact absurd H (by simp)
end
/-! ### rational_subNat: function 128 -/
def rational_subNat.l0 : Nat → List Int → List Int → Int → List Int → Int → Int → Option (List Int)
 | 0, _, _, _, _, _, _ => none
 | k + 1, x1, x5, x6, x13, x14, x15 => if x15 < x14 then (if 0 ≤ x15 then (if x15 < (x13.length : Int) then (if x15 < (x1.length : Int) then (if (wrap64 ((wrap64 ((wrap64 (rd x13 x15)) - x6)) - (wrap64 (rd x1 x15)))) < 0 then (if x15 < (x5.length : Int) then (rational_subNat.l0 k x1 (x5.set (x15 : Int).toNat ((wrap64 ((wrap64 ((wrap64 ((wrap64 (rd x13 x15)) - x6)) - (wrap64 (rd x1 x15)))) + 1000000000)) % 4294967296)) 1 x13 x14 (wrap64 (x15 + 1))) else (none)) else (if x15 < (x5.length : Int) then (rational_subNat.l0 k x1 (x5.set (x15 : Int).toNat ((wrap64 ((wrap64 ((wrap64 (rd x13 x15)) - x6)) - (wrap64 (rd x1 x15)))) % 4294967296)) 0 x13 x14 (wrap64 (x15 + 1))) else (none))) else (if (wrap64 ((wrap64 (rd x13 x15)) - x6)) < 0 then (if x15 < (x5.length : Int) then (rational_subNat.l0 k x1 (x5.set (x15 : Int).toNat ((wrap64 ((wrap64 ((wrap64 (rd x13 x15)) - x6)) + 1000000000)) % 4294967296)) 1 x13 x14 (wrap64 (x15 + 1))) else (none)) else (if x15 < (x5.length : Int) then (rational_subNat.l0 k x1 (x5.set (x15 : Int).toNat ((wrap64 ((wrap64 (rd x13 x15)) - x6)) % 4294967296)) 0 x13 x14 (wrap64 (x15 + 1))) else (none)))) else (none)) else (none)) else ((rational_trim.f k x5).bind fun t825 => (some t825))
def rational_subNat.f (k : Nat) (l0 : List Int) (l1 : List Int) : Option (List Int) := if 0 ≤ (l0.length : Int) then (if ((l0.length : Int) : Int).toNat ≤ 70368744177664 then (rational_subNat.l0 k l1 (List.replicate ((l0.length : Int) : Int).toNat 0) 0 l0 (l0.length : Int) 0) else (none)) else (none)
theorem rational_subNat.mono_l : ∀ k, (∀ y0 y1 y2 y3 y4 y5, LeO (rational_subNat.l0 k y0 y1 y2 y3 y4 y5) (rational_subNat.l0 (k + 1) y0 y1 y2 y3 y4 y5))
 | 0 => fun _ _ _ _ _ _ r h => by simp [rational_subNat.l0] at h
 | k + 1 => by
  have ih0 := rational_subNat.mono_l k
  ·intro y0 y1 y2 y3 y4 y5
   unfold rational_subNat.l0
   repeat' first
   | (with_reducible exact ih0 _ _ _ _ _ _)
   | (with_reducible exact rational_trim.mono _ _)
   | (with_reducible exact LeO.refl _)
   | (with_reducible exact LeO.none _)
   | (with_reducible refine LeO.ite ?_ ?_)
   | (with_reducible refine LeO.bind ?_ (fun _ => ?_))
   | exact ih0 _ _ _ _ _ _
   | exact rational_trim.mono _ _
   | exact LeO.none _
   | refine LeO.ite ?_ ?_
   | refine LeO.bind ?_ (fun _ => ?_)
theorem rational_subNat.mono : ∀ a0 a1 k, LeO (rational_subNat.f k a0 a1) (rational_subNat.f (k + 1) a0 a1) := by
 intro a0 a1 k
 have ih0 := rational_subNat.mono_l k
 unfold rational_subNat.f
 repeat' first
   | (with_reducible exact ih0 _ _ _ _ _ _)
   | (with_reducible exact rational_trim.mono _ _)
   | (with_reducible exact LeO.refl _)
   | (with_reducible exact LeO.none _)
   | (with_reducible refine LeO.ite ?_ ?_)
   | (with_reducible refine LeO.bind ?_ (fun _ => ?_))
   | exact ih0 _ _ _ _ _ _
   | exact rational_trim.mono _ _
   | exact LeO.none _
   | refine LeO.ite ?_ ?_
   | refine LeO.bind ?_ (fun _ => ?_)
set_option maxHeartbeats 8000000 in
set_option maxRecDepth 100000 in
theorem rational_subNat.calls (k : Nat) (A0 : Option Addr) (c0 : Nat) (l0 : List Int) (A1 : Option Addr) (c1 : Nat) (l1 : List Int) (r : List Int) (w : World) (hr0 : Kd.C (Kd.int .u32) w A0 l0.length l0) (hc0 : l0.length ≤ c0) (hr1 : Kd.C (Kd.int .u32) w A1 l1.length l1) (hc1 : l1.length ≤ c1) (h : rational_subNat.f k l0 l1 = some r) :
  Calls Tryd.prog 128 #[.slice A0 l0.length c0, .slice A1 l1.length c1] w fun e w' => ∃ v0_ : Value, e = .returned (v0_) ∧ Kd.V (Kd.int .u32) 90 w' w.heap.size (fun k_ => (w.heap.size ≤ k_)) v0_ r ∧ Below w.heap.size w w' := by
 have HR0 := Aside0.mk hr0
 have HC0 := Aside0.mk hc0
 clear hr0 hc0
 have HR1 := Aside0.mk hr1
 have HC1 := Aside0.mk hc1
 clear hr1 hc1
 have HB := Aside0.mk (Below.refl w.heap.size w)
 have H : (if 0 ≤ (l0.length : Int) then (if ((l0.length : Int) : Int).toNat ≤ 70368744177664 then (rational_subNat.l0 k l1 (List.replicate ((l0.length : Int) : Int).toNat 0) 0 l0 (l0.length : Int) 0) else (none)) else (none)) = some r := h
 clear h
 by_cases c3 : 0 ≤ (l0.length : Int)
 ·rw [if_pos c3] at H
  have c3b0 := eq_true c3
  have c3b1 : decide (0 ≤ (l0.length : Int)) = true := decide_eq_true c3
  clear c3
  by_cases c4 : ((l0.length : Int) : Int).toNat ≤ 70368744177664
  ·rw [if_pos c4] at H
   have c4b0 := eq_true c4
   have c4b1 : decide (((l0.length : Int) : Int).toNat ≤ 70368744177664) = true := decide_eq_true c4
   clear c4
   obtain ⟨y822, hy822⟩ : ∃ y_ : List Int, y_ = (List.replicate ((l0.length : Int) : Int).toNat 0) := ⟨_, rfl⟩
   replace H : (rational_subNat.l0 k l1 y822 0 l0 (l0.length : Int) 0) = some r := by first | (rw [hy822]; with_reducible exact H) | (have H2_ := (Option.bind_some _ _).symm.trans H; rw [hy822]; with_reducible exact H2_) | (have H2_ := (Option.bind_some _ _).symm.trans H; with_reducible exact H2_) | with_reducible exact H | (rw [hy822]; exact H) | exact H
   have Ny822 := Aside0.mk hy822
   clear hy822
   have H' := Aside0.mk H
   clear H
   go_enter Tryd.func128, Tryd.ntmps128
   go_wp2_with (first | ((with_reducible refine gate_dst (N := 12) rfl ?_); refine Kd.R_make (Kd.int .u32) _ 90 rfl (N := 12) rfl 80 _ _ rfl (l0.length : Int) rfl rfl Tryd.underlying80 (.int .u32 0) 4 info90 rfl (by decide) (by omega) 0 (ok := fun _ => True) (okp := fun _ => True) rfl (fun _ hk => hk) trivial (of_decide_eq_true (by assumption)) (Nat.le_trans (Nat.mul_le_mul_right _ (of_decide_eq_true (by assumption) : (l0.length : Int).toNat ≤ 70368744177664)) (by omega)) (Below.refl _ _) (Nat.le_refl _) ?_; intro v823 w5 ho6 hb hg_ hnew_; clear hg_ hnew_; (first | rw [← Ny822.out] at ho6 | (simp only [Int.reduceToNat] at ho6; rw [← Ny822.out] at ho6)); have n0_ := Aside0.mk (Kd.R_lower (Kd.R_newM (M := fun k_ => (w.heap.size ≤ k_)) ho6 (below_size HB.out) (fun k_ h_ => h_)) (below_size HB.out)); have n1_ := Aside0.mk (below_step HB.out hb); clear HB; have HO824 := n0_; have HB := n1_; clear n0_ n1_; clear hb ho6))
   go_loopg [6, 15] k (fun kq v6 v15 w' => ∃ (x5_1 : List Int) (x6_1 : Int) (x15_1 : Int), v6 = .int .i64 x6_1 ∧ v15 = .int .i64 x15_1 ∧ Aside0 (rational_subNat.l0 kq l1 x5_1 x6_1 l0 (l0.length : Int) x15_1 = some r) ∧ Aside0 (kq ≤ k) ∧ Aside0 (Kd.R (Kd.int .u32) 90 w' w.heap.size (fun k_ => (w.heap.size ≤ k_)) v823 x5_1) ∧ Aside0 (Below w.heap.size w w'))
   case atStart => exact ⟨(y822), (0), (0), rfl, rfl, H', ⟨Nat.le_refl _⟩, ⟨by (with_reducible repeat (first | apply Kd.R_alloc | apply Kd.R_drewN | apply Kd.R_drew)); exact Kd.R_mono HO824.out (fun _ hk => hk.1)⟩, ⟨HB.out⟩⟩
   case round =>
    clear H'
    try clear c1
    try clear p2
    try clear c3
    try clear c3b0
    try clear c3b1
    try clear c4
    try clear c4b0
    try clear c4b1
    obtain ⟨x5_1, x6_1, x15_1, rfl, rfl, HA, HK1, HO_5, HB⟩ := hrel
    cases gk with
    | zero => exact absurd HA.out (by simp [rational_subNat.l0])
    | succ k1 =>
     have H := HA.out
     clear HA
     simp only [rational_subNat.l0] at H
     by_cases c7 : x15_1 < (l0.length : Int)
     ·rw [if_pos c7] at H
      have c7b0 : decide (x15_1 < (l0.length : Int)) = true := decide_eq_true c7
      clear c7
      by_cases c8 : 0 ≤ x15_1
      ·rw [if_pos c8] at H
       have c8b0 : decide (0 ≤ x15_1) = true := decide_eq_true c8
       clear c8
       by_cases c9 : x15_1 < (l0.length : Int)
       ·rw [if_pos c9] at H
        have c9b0 : decide (x15_1 < (l0.length : Int)) = true := decide_eq_true c9
        clear c9
        by_cases c10 : x15_1 < (l1.length : Int)
        ·rw [if_pos c10] at H
         have c10b0 : decide (x15_1 < (l1.length : Int)) = true := decide_eq_true c10
         clear c10
         by_cases c11 : (wrap64 ((wrap64 ((wrap64 (rd l0 x15_1)) - x6_1)) - (wrap64 (rd l1 x15_1)))) < 0
         ·rw [if_pos c11] at H
          have c11b0 : decide ((wrap64 ((wrap64 ((wrap64 (rd l0 x15_1)) - x6_1)) - (wrap64 (rd l1 x15_1)))) < 0) = true := decide_eq_true c11
          clear c11
          by_cases c12 : x15_1 < (x5_1.length : Int)
          ·rw [if_pos c12] at H
           have c12b0 : decide (x15_1 < (x5_1.length : Int)) = true := decide_eq_true c12
           clear c12
           obtain ⟨y830, hy830⟩ : ∃ y_ : List Int, y_ = (x5_1.set (x15_1 : Int).toNat ((wrap64 ((wrap64 ((wrap64 ((wrap64 (rd l0 x15_1)) - x6_1)) - (wrap64 (rd l1 x15_1)))) + 1000000000)) % 4294967296)) := ⟨_, rfl⟩
           replace H : (rational_subNat.l0 k1 l1 y830 1 l0 (l0.length : Int) (wrap64 (x15_1 + 1))) = some r := by first | (rw [hy830]; with_reducible exact H) | (have H2_ := (Option.bind_some _ _).symm.trans H; rw [hy830]; with_reducible exact H2_) | (have H2_ := (Option.bind_some _ _).symm.trans H; with_reducible exact H2_) | with_reducible exact H | (rw [hy830]; exact H) | exact H
           have Ny830 := Aside0.mk hy830
           clear hy830
           have H' := Aside0.mk H
           clear H
           have p828 : 0 ≤ (x15_1 : Int) := of_decide_eq_true (by assumption)
           have q828 : x15_1 < (l0.length : Int) := of_decide_eq_true (by assumption)
           obtain ⟨ad828, e828, hx828_0⟩ := Kd.at_int HR0.out x15_1 p828 q828
           cases e828
           replace hx828_0 := (HB.out.cell (World.block_lt_of_cell? w _ hx828_0)).trans hx828_0
           replace p828 := eq_true p828
           replace q828 := eq_true q828
           have p829 : 0 ≤ (x15_1 : Int) := of_decide_eq_true (by assumption)
           have q829 : x15_1 < (l1.length : Int) := of_decide_eq_true (by assumption)
           obtain ⟨ad829, e829, hx829_0⟩ := Kd.at_int HR1.out x15_1 p829 q829
           cases e829
           replace hx829_0 := (HB.out.cell (World.block_lt_of_cell? w _ hx829_0)).trans hx829_0
           replace p829 := eq_true p829
           replace q829 := eq_true q829
           have p13 : 0 ≤ (x15_1 : Int) := of_decide_eq_true (by assumption)
           have q13 : (x15_1 : Int) < ((x5_1.length : Int) : Int) := of_decide_eq_true (by assumption)
           obtain ⟨go13, co13, eo13, gb13, gl13, cl13, HG13⟩ := Kd.R_form HO_5.out (by omega)
           (first | cases eo13 | (injection eo13 with ea_ en_ ec_; (first | subst ea_ | (injection ea_ with ea_; subst ea_)); subst ec_; clear en_))
           have GB13 := Aside0.mk gb13
           have GG13 := Aside0.mk HG13
           clear gb13 gl13 HG13
           obtain ⟨hx13_0, hf13_0⟩ := Kd.R_celln 0 HO_5.out (x15_1 : Int) p13 q13
           replace p13 := eq_true p13
           replace q13 := eq_true q13
           have HP14 := Kd.R_putg HO_5.out (x15_1 : Int) ((wrap64 ((wrap64 ((wrap64 ((wrap64 (rd l0 x15_1)) - x6_1)) - (wrap64 (rd l1 x15_1)))) + 1000000000)) % 4294967296)
           go_wp2_with (first | ((with_reducible refine gate_store (t := 90) (p := 43) rfl ?_); refine store_event (t := 90) (p := 43) (v := ?vo_w15) (w1 := (wr.setCell ⟨go13, (x15_1 : Int).toNat, none⟩ (.int .u32 ((wrap64 ((wrap64 ((wrap64 ((wrap64 (rd l0 x15_1)) - x6_1)) - (wrap64 (rd l1 x15_1)))) + 1000000000)) % 4294967296)))) ?hg ?ho ?hn ?hr ?_; (case ho => rfl); (case hg => rfl); (case hn => rfl); (case hr => go_simp); intro w15 hw; have hg : wr.grownBy w15 (some go13) := (by rw [hw]; exact HP14.2); have hp_ : Kd.R (Kd.int .u32) 90 w15 w.heap.size (fun k_ => (w.heap.size ≤ k_)) (.slice (some ⟨go13, 0, none⟩) x5_1.length co13) y830 := (by rw [hw, Ny830.out]; exact HP14.1); clear HP14; have n0_ := Aside0.mk (hp_); have n1_ := Aside0.mk ((by rw [hw]; exact below_set (HB.out) GB13.out : Below w.heap.size w w15)); clear HO_5; clear HB; have HO_5 := n0_; have HB := n1_; clear n0_ n1_; clear hg hw hp_))
           go_roundg k1
           case measure => have := HK1.out; omega
           case rel => exact ⟨(y830), (1), (wrap64 (x15_1 + 1)), rfl, rfl, H', ⟨by have := HK1.out; omega⟩, ⟨by (with_reducible repeat (first | apply Kd.R_alloc | apply Kd.R_drewN | apply Kd.R_drew)); exact HO_5.out⟩, ⟨HB.out⟩⟩
          ·rw [if_neg c12] at H
           exact absurd H (by simp)
         ·rw [if_neg c11] at H
          have c11b0 : decide ((wrap64 ((wrap64 ((wrap64 (rd l0 x15_1)) - x6_1)) - (wrap64 (rd l1 x15_1)))) < 0) = false := decide_eq_false c11
          clear c11
          by_cases c16 : x15_1 < (x5_1.length : Int)
          ·rw [if_pos c16] at H
           have c16b0 : decide (x15_1 < (x5_1.length : Int)) = true := decide_eq_true c16
           clear c16
           obtain ⟨y831, hy831⟩ : ∃ y_ : List Int, y_ = (x5_1.set (x15_1 : Int).toNat ((wrap64 ((wrap64 ((wrap64 (rd l0 x15_1)) - x6_1)) - (wrap64 (rd l1 x15_1)))) % 4294967296)) := ⟨_, rfl⟩
           replace H : (rational_subNat.l0 k1 l1 y831 0 l0 (l0.length : Int) (wrap64 (x15_1 + 1))) = some r := by first | (rw [hy831]; with_reducible exact H) | (have H2_ := (Option.bind_some _ _).symm.trans H; rw [hy831]; with_reducible exact H2_) | (have H2_ := (Option.bind_some _ _).symm.trans H; with_reducible exact H2_) | with_reducible exact H | (rw [hy831]; exact H) | exact H
           have Ny831 := Aside0.mk hy831
           clear hy831
           have H' := Aside0.mk H
           clear H
           have p828 : 0 ≤ (x15_1 : Int) := of_decide_eq_true (by assumption)
           have q828 : x15_1 < (l0.length : Int) := of_decide_eq_true (by assumption)
           obtain ⟨ad828, e828, hx828_0⟩ := Kd.at_int HR0.out x15_1 p828 q828
           cases e828
           replace hx828_0 := (HB.out.cell (World.block_lt_of_cell? w _ hx828_0)).trans hx828_0
           replace p828 := eq_true p828
           replace q828 := eq_true q828
           have p829 : 0 ≤ (x15_1 : Int) := of_decide_eq_true (by assumption)
           have q829 : x15_1 < (l1.length : Int) := of_decide_eq_true (by assumption)
           obtain ⟨ad829, e829, hx829_0⟩ := Kd.at_int HR1.out x15_1 p829 q829
           cases e829
           replace hx829_0 := (HB.out.cell (World.block_lt_of_cell? w _ hx829_0)).trans hx829_0
           replace p829 := eq_true p829
           replace q829 := eq_true q829
           have p17 : 0 ≤ (x15_1 : Int) := of_decide_eq_true (by assumption)
           have q17 : (x15_1 : Int) < ((x5_1.length : Int) : Int) := of_decide_eq_true (by assumption)
           obtain ⟨go17, co17, eo17, gb17, gl17, cl17, HG17⟩ := Kd.R_form HO_5.out (by omega)
           (first | cases eo17 | (injection eo17 with ea_ en_ ec_; (first | subst ea_ | (injection ea_ with ea_; subst ea_)); subst ec_; clear en_))
           have GB17 := Aside0.mk gb17
           have GG17 := Aside0.mk HG17
           clear gb17 gl17 HG17
           obtain ⟨hx17_0, hf17_0⟩ := Kd.R_celln 0 HO_5.out (x15_1 : Int) p17 q17
           replace p17 := eq_true p17
           replace q17 := eq_true q17
           have HP18 := Kd.R_putg HO_5.out (x15_1 : Int) ((wrap64 ((wrap64 ((wrap64 (rd l0 x15_1)) - x6_1)) - (wrap64 (rd l1 x15_1)))) % 4294967296)
           go_wp2_with (first | ((with_reducible refine gate_store (t := 90) (p := 43) rfl ?_); refine store_event (t := 90) (p := 43) (v := ?vo_w19) (w1 := (wr.setCell ⟨go17, (x15_1 : Int).toNat, none⟩ (.int .u32 ((wrap64 ((wrap64 ((wrap64 (rd l0 x15_1)) - x6_1)) - (wrap64 (rd l1 x15_1)))) % 4294967296)))) ?hg ?ho ?hn ?hr ?_; (case ho => rfl); (case hg => rfl); (case hn => rfl); (case hr => go_simp); intro w19 hw; have hg : wr.grownBy w19 (some go17) := (by rw [hw]; exact HP18.2); have hp_ : Kd.R (Kd.int .u32) 90 w19 w.heap.size (fun k_ => (w.heap.size ≤ k_)) (.slice (some ⟨go17, 0, none⟩) x5_1.length co17) y831 := (by rw [hw, Ny831.out]; exact HP18.1); clear HP18; have n0_ := Aside0.mk (hp_); have n1_ := Aside0.mk ((by rw [hw]; exact below_set (HB.out) GB17.out : Below w.heap.size w w19)); clear HO_5; clear HB; have HO_5 := n0_; have HB := n1_; clear n0_ n1_; clear hg hw hp_))
           go_roundg k1
           case measure => have := HK1.out; omega
           case rel => exact ⟨(y831), (0), (wrap64 (x15_1 + 1)), rfl, rfl, H', ⟨by have := HK1.out; omega⟩, ⟨by (with_reducible repeat (first | apply Kd.R_alloc | apply Kd.R_drewN | apply Kd.R_drew)); exact HO_5.out⟩, ⟨HB.out⟩⟩
          ·rw [if_neg c16] at H
           exact absurd H (by simp)
        ·rw [if_neg c10] at H
         have c10b0 : decide (x15_1 < (l1.length : Int)) = false := decide_eq_false c10
         clear c10
         by_cases c20 : (wrap64 ((wrap64 (rd l0 x15_1)) - x6_1)) < 0
         ·rw [if_pos c20] at H
          have c20b0 : decide ((wrap64 ((wrap64 (rd l0 x15_1)) - x6_1)) < 0) = true := decide_eq_true c20
          clear c20
          by_cases c21 : x15_1 < (x5_1.length : Int)
          ·rw [if_pos c21] at H
           have c21b0 : decide (x15_1 < (x5_1.length : Int)) = true := decide_eq_true c21
           clear c21
           obtain ⟨y832, hy832⟩ : ∃ y_ : List Int, y_ = (x5_1.set (x15_1 : Int).toNat ((wrap64 ((wrap64 ((wrap64 (rd l0 x15_1)) - x6_1)) + 1000000000)) % 4294967296)) := ⟨_, rfl⟩
           replace H : (rational_subNat.l0 k1 l1 y832 1 l0 (l0.length : Int) (wrap64 (x15_1 + 1))) = some r := by first | (rw [hy832]; with_reducible exact H) | (have H2_ := (Option.bind_some _ _).symm.trans H; rw [hy832]; with_reducible exact H2_) | (have H2_ := (Option.bind_some _ _).symm.trans H; with_reducible exact H2_) | with_reducible exact H | (rw [hy832]; exact H) | exact H
           have Ny832 := Aside0.mk hy832
           clear hy832
           have H' := Aside0.mk H
           clear H
           have p828 : 0 ≤ (x15_1 : Int) := of_decide_eq_true (by assumption)
           have q828 : x15_1 < (l0.length : Int) := of_decide_eq_true (by assumption)
           obtain ⟨ad828, e828, hx828_0⟩ := Kd.at_int HR0.out x15_1 p828 q828
           cases e828
           replace hx828_0 := (HB.out.cell (World.block_lt_of_cell? w _ hx828_0)).trans hx828_0
           replace p828 := eq_true p828
           replace q828 := eq_true q828
           have p22 : 0 ≤ (x15_1 : Int) := of_decide_eq_true (by assumption)
           have q22 : (x15_1 : Int) < ((x5_1.length : Int) : Int) := of_decide_eq_true (by assumption)
           obtain ⟨go22, co22, eo22, gb22, gl22, cl22, HG22⟩ := Kd.R_form HO_5.out (by omega)
           (first | cases eo22 | (injection eo22 with ea_ en_ ec_; (first | subst ea_ | (injection ea_ with ea_; subst ea_)); subst ec_; clear en_))
           have GB22 := Aside0.mk gb22
           have GG22 := Aside0.mk HG22
           clear gb22 gl22 HG22
           obtain ⟨hx22_0, hf22_0⟩ := Kd.R_celln 0 HO_5.out (x15_1 : Int) p22 q22
           replace p22 := eq_true p22
           replace q22 := eq_true q22
           have HP23 := Kd.R_putg HO_5.out (x15_1 : Int) ((wrap64 ((wrap64 ((wrap64 (rd l0 x15_1)) - x6_1)) + 1000000000)) % 4294967296)
           go_wp2_with (first | ((with_reducible refine gate_store (t := 90) (p := 43) rfl ?_); refine store_event (t := 90) (p := 43) (v := ?vo_w24) (w1 := (wr.setCell ⟨go22, (x15_1 : Int).toNat, none⟩ (.int .u32 ((wrap64 ((wrap64 ((wrap64 (rd l0 x15_1)) - x6_1)) + 1000000000)) % 4294967296)))) ?hg ?ho ?hn ?hr ?_; (case ho => rfl); (case hg => rfl); (case hn => rfl); (case hr => go_simp); intro w24 hw; have hg : wr.grownBy w24 (some go22) := (by rw [hw]; exact HP23.2); have hp_ : Kd.R (Kd.int .u32) 90 w24 w.heap.size (fun k_ => (w.heap.size ≤ k_)) (.slice (some ⟨go22, 0, none⟩) x5_1.length co22) y832 := (by rw [hw, Ny832.out]; exact HP23.1); clear HP23; have n0_ := Aside0.mk (hp_); have n1_ := Aside0.mk ((by rw [hw]; exact below_set (HB.out) GB22.out : Below w.heap.size w w24)); clear HO_5; clear HB; have HO_5 := n0_; have HB := n1_; clear n0_ n1_; clear hg hw hp_))
           go_roundg k1
           case measure => have := HK1.out; omega
           case rel => exact ⟨(y832), (1), (wrap64 (x15_1 + 1)), rfl, rfl, H', ⟨by have := HK1.out; omega⟩, ⟨by (with_reducible repeat (first | apply Kd.R_alloc | apply Kd.R_drewN | apply Kd.R_drew)); exact HO_5.out⟩, ⟨HB.out⟩⟩
          ·rw [if_neg c21] at H
           exact absurd H (by simp)
         ·rw [if_neg c20] at H
          have c20b0 : decide ((wrap64 ((wrap64 (rd l0 x15_1)) - x6_1)) < 0) = false := decide_eq_false c20
          clear c20
          by_cases c25 : x15_1 < (x5_1.length : Int)
          ·rw [if_pos c25] at H
           have c25b0 : decide (x15_1 < (x5_1.length : Int)) = true := decide_eq_true c25
           clear c25
           obtain ⟨y833, hy833⟩ : ∃ y_ : List Int, y_ = (x5_1.set (x15_1 : Int).toNat ((wrap64 ((wrap64 (rd l0 x15_1)) - x6_1)) % 4294967296)) := ⟨_, rfl⟩
           replace H : (rational_subNat.l0 k1 l1 y833 0 l0 (l0.length : Int) (wrap64 (x15_1 + 1))) = some r := by first | (rw [hy833]; with_reducible exact H) | (have H2_ := (Option.bind_some _ _).symm.trans H; rw [hy833]; with_reducible exact H2_) | (have H2_ := (Option.bind_some _ _).symm.trans H; with_reducible exact H2_) | with_reducible exact H | (rw [hy833]; exact H) | exact H
           have Ny833 := Aside0.mk hy833
           clear hy833
           have H' := Aside0.mk H
           clear H
           have p828 : 0 ≤ (x15_1 : Int) := of_decide_eq_true (by assumption)
           have q828 : x15_1 < (l0.length : Int) := of_decide_eq_true (by assumption)
           obtain ⟨ad828, e828, hx828_0⟩ := Kd.at_int HR0.out x15_1 p828 q828
           cases e828
           replace hx828_0 := (HB.out.cell (World.block_lt_of_cell? w _ hx828_0)).trans hx828_0
           replace p828 := eq_true p828
           replace q828 := eq_true q828
           have p26 : 0 ≤ (x15_1 : Int) := of_decide_eq_true (by assumption)
           have q26 : (x15_1 : Int) < ((x5_1.length : Int) : Int) := of_decide_eq_true (by assumption)
           obtain ⟨go26, co26, eo26, gb26, gl26, cl26, HG26⟩ := Kd.R_form HO_5.out (by omega)
           (first | cases eo26 | (injection eo26 with ea_ en_ ec_; (first | subst ea_ | (injection ea_ with ea_; subst ea_)); subst ec_; clear en_))
           have GB26 := Aside0.mk gb26
           have GG26 := Aside0.mk HG26
           clear gb26 gl26 HG26
           obtain ⟨hx26_0, hf26_0⟩ := Kd.R_celln 0 HO_5.out (x15_1 : Int) p26 q26
           replace p26 := eq_true p26
           replace q26 := eq_true q26
           have HP27 := Kd.R_putg HO_5.out (x15_1 : Int) ((wrap64 ((wrap64 (rd l0 x15_1)) - x6_1)) % 4294967296)
           go_wp2_with (first | ((with_reducible refine gate_store (t := 90) (p := 43) rfl ?_); refine store_event (t := 90) (p := 43) (v := ?vo_w28) (w1 := (wr.setCell ⟨go26, (x15_1 : Int).toNat, none⟩ (.int .u32 ((wrap64 ((wrap64 (rd l0 x15_1)) - x6_1)) % 4294967296)))) ?hg ?ho ?hn ?hr ?_; (case ho => rfl); (case hg => rfl); (case hn => rfl); (case hr => go_simp); intro w28 hw; have hg : wr.grownBy w28 (some go26) := (by rw [hw]; exact HP27.2); have hp_ : Kd.R (Kd.int .u32) 90 w28 w.heap.size (fun k_ => (w.heap.size ≤ k_)) (.slice (some ⟨go26, 0, none⟩) x5_1.length co26) y833 := (by rw [hw, Ny833.out]; exact HP27.1); clear HP27; have n0_ := Aside0.mk (hp_); have n1_ := Aside0.mk ((by rw [hw]; exact below_set (HB.out) GB26.out : Below w.heap.size w w28)); clear HO_5; clear HB; have HO_5 := n0_; have HB := n1_; clear n0_ n1_; clear hg hw hp_))
           go_roundg k1
           case measure => have := HK1.out; omega
           case rel => exact ⟨(y833), (0), (wrap64 (x15_1 + 1)), rfl, rfl, H', ⟨by have := HK1.out; omega⟩, ⟨by (with_reducible repeat (first | apply Kd.R_alloc | apply Kd.R_drewN | apply Kd.R_drew)); exact HO_5.out⟩, ⟨HB.out⟩⟩
          ·rw [if_neg c25] at H
           exact absurd H (by simp)
       ·rw [if_neg c9] at H
        exact absurd H (by simp)
      ·rw [if_neg c8] at H
       exact absurd H (by simp)
     ·rw [if_neg c7] at H
      have c7b0 : decide (x15_1 < (l0.length : Int)) = false := decide_eq_false c7
      clear c7
      replace H := Option.bind_eq_some_iff.mp H
      obtain ⟨t825, A290, H⟩ := H
      (try dsimp only at H)
      have A29 := Aside0.mk A290
      clear A290
      obtain rfl := Option.some.inj H
      obtain ⟨Ao30, co30, eo30⟩ := Kd.R_slice HO_5.out
      subst eo30
      go_wp2_with (first | ((with_reducible refine gate_callee (f := 115) rfl ?_); refine goesL_ (some 46) rfl rfl Tryd.func115 (by kernel_rfl) rfl #[.slice Ao30 x5_1.length co30] rfl (by (try simp only [List.map_toArray, List.map_cons, List.map_nil]); first | done | rfl) ?_; (with_reducible refine (rational_trim.calls k1 (fun k_ => some k_ = (.slice Ao30 x5_1.length co30 : Value).ownBlock) _ _ x5_1 t825 _ ?side1 A29.out).mono ?_); (case side1 => exact Kd.R_V (Kd.R_tight rfl (HO_5.out))); rintro e w31 ⟨v826, rfl, ho0, hb⟩; refine ⟨_, rfl, ?_⟩; have n0_ := Aside0.mk (Kd.R_below HO_5.out hb); have n1_ := Aside0.mk (Kd.V_lower (Kd.V_mono (ok' := fun k_ => (w.heap.size ≤ k_)) ho0 (fun k_ hk_ => Or.elim hk_ (fun hs_ => ((HO_5.out).1 k_ hs_.symm)) (fun hn_ => (Nat.le_trans (below_size HB.out) hn_)))) (below_size HB.out)); have n2_ := Aside0.mk (below_step HB.out hb); clear HO_5; clear HB; have HO_5 := n0_; have HO827 := n1_; have HB := n2_; clear n0_ n1_ n2_; (try clear hb); (try clear hb2); (try clear hk); (try clear hi); (try clear ho0)))
      go_ret
      exact ⟨_, rfl, by (with_reducible repeat (first | apply Kd.V_alloc | apply Kd.V_drewN | apply Kd.V_drew)); exact HO827.out, HB.out⟩
  ·rw [if_neg c4] at H
   exact absurd H (by simp)
 ·rw [if_neg c3] at H
  exact absurd H (by simp)
/-! ### rational_mulNat: function 61 -/
mutual
def rational_mulNat.l0 : Nat → List Int → List Int → List Int → Int → Int → Option (List Int)
 | 0, _, _, _, _, _ => none
 | k + 1, x1, x5, x18, x19, x20 => if x20 < x19 then (if 0 ≤ x20 then (if x20 < (x18.length : Int) then (rational_mulNat.l1 k x1 x5 x20 (rd x18 x20) 0 x18 x19 x20 x1 (x1.length : Int) 0) else (none)) else (none)) else ((rational_trim.f k x5).bind fun t123 => (some t123))
def rational_mulNat.l1 : Nat → List Int → List Int → Int → Int → Int → List Int → Int → Int → List Int → Int → Int → Option (List Int)
 | 0, _, _, _, _, _, _, _, _, _, _, _ => none
 | k + 1, x1, x5, x6, x7, x8, x18, x19, x20, x25, x26, x27 => if x27 < x26 then (if 0 ≤ x27 then (if x27 < (x25.length : Int) then (if 0 ≤ (wrap64 (x6 + x27)) then (if (wrap64 (x6 + x27)) < (x5.length : Int) then (rational_mulNat.l1 k x1 (x5.set ((wrap64 (x6 + x27)) : Int).toNat ((Int.tmod (IntKind.u64.wrap ((IntKind.u64.wrap ((IntKind.u64.wrap (rd x5 (wrap64 (x6 + x27)))) + (IntKind.u64.wrap ((IntKind.u64.wrap (x7)) * (IntKind.u64.wrap (rd x25 x27)))))) + x8)) 1000000000) % 4294967296)) x6 x7 (IntKind.u64.wrap (Int.tdiv (IntKind.u64.wrap ((IntKind.u64.wrap ((IntKind.u64.wrap (rd x5 (wrap64 (x6 + x27)))) + (IntKind.u64.wrap ((IntKind.u64.wrap (x7)) * (IntKind.u64.wrap (rd x25 x27)))))) + x8)) 1000000000)) x18 x19 x20 x25 x26 (wrap64 (x27 + 1))) else (none)) else (none)) else (none)) else (none)) else (if 0 ≤ (wrap64 (x6 + (x1.length : Int))) then (if (wrap64 (x6 + (x1.length : Int))) < (x5.length : Int) then (rational_mulNat.l0 k x1 (x5.set ((wrap64 (x6 + (x1.length : Int))) : Int).toNat ((x8) % 4294967296)) x18 x19 (wrap64 (x20 + 1))) else (none)) else (none))
end
def rational_mulNat.f (k : Nat) (l0 : List Int) (l1 : List Int) : Option (List Int) := if 0 ≤ (wrap64 ((l0.length : Int) + (l1.length : Int))) then (if (wrap64 ((l0.length : Int) + (l1.length : Int)) : Int).toNat ≤ 70368744177664 then (rational_mulNat.l0 k l1 (List.replicate (wrap64 ((l0.length : Int) + (l1.length : Int)) : Int).toNat 0) l0 (l0.length : Int) 0) else (none)) else (none)
theorem rational_mulNat.mono_l : ∀ k, (∀ y0 y1 y2 y3 y4, LeO (rational_mulNat.l0 k y0 y1 y2 y3 y4) (rational_mulNat.l0 (k + 1) y0 y1 y2 y3 y4)) ∧ (∀ y0 y1 y2 y3 y4 y5 y6 y7 y8 y9 y10, LeO (rational_mulNat.l1 k y0 y1 y2 y3 y4 y5 y6 y7 y8 y9 y10) (rational_mulNat.l1 (k + 1) y0 y1 y2 y3 y4 y5 y6 y7 y8 y9 y10))
 | 0 => ⟨fun _ _ _ _ _ r h => by simp [rational_mulNat.l0] at h, fun _ _ _ _ _ _ _ _ _ _ _ r h => by simp [rational_mulNat.l1] at h⟩
 | k + 1 => by
  obtain ⟨ih0, ih1⟩ := rational_mulNat.mono_l k
  refine ⟨?_, ?_⟩
  ·intro y0 y1 y2 y3 y4
   unfold rational_mulNat.l0
   repeat' first
   | (with_reducible exact ih0 _ _ _ _ _)
   | (with_reducible exact ih1 _ _ _ _ _ _ _ _ _ _ _)
   | (with_reducible exact rational_trim.mono _ _)
   | (with_reducible exact LeO.refl _)
   | (with_reducible exact LeO.none _)
   | (with_reducible refine LeO.ite ?_ ?_)
   | (with_reducible refine LeO.bind ?_ (fun _ => ?_))
   | exact ih0 _ _ _ _ _
   | exact ih1 _ _ _ _ _ _ _ _ _ _ _
   | exact rational_trim.mono _ _
   | exact LeO.none _
   | refine LeO.ite ?_ ?_
   | refine LeO.bind ?_ (fun _ => ?_)
  ·intro y0 y1 y2 y3 y4 y5 y6 y7 y8 y9 y10
   unfold rational_mulNat.l1
   repeat' first
   | (with_reducible exact ih0 _ _ _ _ _)
   | (with_reducible exact ih1 _ _ _ _ _ _ _ _ _ _ _)
   | (with_reducible exact rational_trim.mono _ _)
   | (with_reducible exact LeO.refl _)
   | (with_reducible exact LeO.none _)
   | (with_reducible refine LeO.ite ?_ ?_)
   | (with_reducible refine LeO.bind ?_ (fun _ => ?_))
   | exact ih0 _ _ _ _ _
   | exact ih1 _ _ _ _ _ _ _ _ _ _ _
   | exact rational_trim.mono _ _
   | exact LeO.none _
   | refine LeO.ite ?_ ?_
   | refine LeO.bind ?_ (fun _ => ?_)
theorem rational_mulNat.mono : ∀ a0 a1 k, LeO (rational_mulNat.f k a0 a1) (rational_mulNat.f (k + 1) a0 a1) := by
 intro a0 a1 k
 obtain ⟨ih0, ih1⟩ := rational_mulNat.mono_l k
 unfold rational_mulNat.f
 repeat' first
   | (with_reducible exact ih0 _ _ _ _ _)
   | (with_reducible exact ih1 _ _ _ _ _ _ _ _ _ _ _)
   | (with_reducible exact rational_trim.mono _ _)
   | (with_reducible exact LeO.refl _)
   | (with_reducible exact LeO.none _)
   | (with_reducible refine LeO.ite ?_ ?_)
   | (with_reducible refine LeO.bind ?_ (fun _ => ?_))
   | exact ih0 _ _ _ _ _
   | exact ih1 _ _ _ _ _ _ _ _ _ _ _
   | exact rational_trim.mono _ _
   | exact LeO.none _
   | refine LeO.ite ?_ ?_
   | refine LeO.bind ?_ (fun _ => ?_)
set_option maxHeartbeats 8000000 in
set_option maxRecDepth 100000 in
theorem rational_mulNat.calls (k : Nat) (A0 : Option Addr) (c0 : Nat) (l0 : List Int) (A1 : Option Addr) (c1 : Nat) (l1 : List Int) (r : List Int) (w : World) (hr0 : Kd.C (Kd.int .u32) w A0 l0.length l0) (hc0 : l0.length ≤ c0) (hr1 : Kd.C (Kd.int .u32) w A1 l1.length l1) (hc1 : l1.length ≤ c1) (h : rational_mulNat.f k l0 l1 = some r) :
  Calls Tryd.prog 61 #[.slice A0 l0.length c0, .slice A1 l1.length c1] w fun e w' => ∃ v0_ : Value, e = .returned (v0_) ∧ Kd.V (Kd.int .u32) 90 w' w.heap.size (fun k_ => (w.heap.size ≤ k_)) v0_ r ∧ Below w.heap.size w w' := by
 have HR0 := Aside0.mk hr0
 have HC0 := Aside0.mk hc0
 clear hr0 hc0
 have HR1 := Aside0.mk hr1
 have HC1 := Aside0.mk hc1
 clear hr1 hc1
 have HB := Aside0.mk (Below.refl w.heap.size w)
 have H : (if 0 ≤ (wrap64 ((l0.length : Int) + (l1.length : Int))) then (if (wrap64 ((l0.length : Int) + (l1.length : Int)) : Int).toNat ≤ 70368744177664 then (rational_mulNat.l0 k l1 (List.replicate (wrap64 ((l0.length : Int) + (l1.length : Int)) : Int).toNat 0) l0 (l0.length : Int) 0) else (none)) else (none)) = some r := h
 clear h
 obtain ⟨ji3, hji3⟩ : ∃ j_ : Int, (wrap64 ((l0.length : Int) + (l1.length : Int))) = j_ := ⟨_, rfl⟩
 replace H : (if 0 ≤ (ji3) then (if (ji3 : Int).toNat ≤ 70368744177664 then (rational_mulNat.l0 k l1 (List.replicate (ji3 : Int).toNat 0) l0 (l0.length : Int) 0) else (none)) else (none)) = some r := by first | (rw [hji3] at H; exact H) | (simp only [hji3] at H ⊢; exact H)
 have hji3w : (IntKind.i64.wrap ((l0.length : Int) + (l1.length : Int))) = ji3 := (i64_w _).trans hji3
 by_cases c4 : 0 ≤ (ji3)
 ·rw [if_pos c4] at H
  have c4b0 := eq_true c4
  have c4b1 : decide (0 ≤ (ji3)) = true := decide_eq_true c4
  clear c4
  by_cases c5 : (ji3 : Int).toNat ≤ 70368744177664
  ·rw [if_pos c5] at H
   have c5b0 := eq_true c5
   have c5b1 : decide ((ji3 : Int).toNat ≤ 70368744177664) = true := decide_eq_true c5
   clear c5
   obtain ⟨y120, hy120⟩ : ∃ y_ : List Int, y_ = (List.replicate (ji3 : Int).toNat 0) := ⟨_, rfl⟩
   replace H : (rational_mulNat.l0 k l1 y120 l0 (l0.length : Int) 0) = some r := by first | (rw [hy120]; with_reducible exact H) | (have H2_ := (Option.bind_some _ _).symm.trans H; rw [hy120]; with_reducible exact H2_) | (have H2_ := (Option.bind_some _ _).symm.trans H; with_reducible exact H2_) | with_reducible exact H | (rw [hy120]; exact H) | exact H
   have Ny120 := Aside0.mk hy120
   clear hy120
   have H' := Aside0.mk H
   clear H
   go_enter Tryd.func61, Tryd.ntmps61
   go_wp2_with (first | ((with_reducible refine gate_dst (N := 17) rfl ?_); refine Kd.R_make (Kd.int .u32) _ 90 rfl (N := 17) rfl 80 _ _ rfl ji3 rfl rfl Tryd.underlying80 (.int .u32 0) 4 info90 rfl (by decide) (by omega) 0 (ok := fun _ => True) (okp := fun _ => True) rfl (fun _ hk => hk) trivial (of_decide_eq_true (by assumption)) (Nat.le_trans (Nat.mul_le_mul_right _ (of_decide_eq_true (by assumption) : ji3.toNat ≤ 70368744177664)) (by omega)) (Below.refl _ _) (Nat.le_refl _) ?_; intro v121 w6 ho7 hb hg_ hnew_; clear hg_ hnew_; (first | rw [← Ny120.out] at ho7 | (simp only [Int.reduceToNat] at ho7; rw [← Ny120.out] at ho7)); have n0_ := Aside0.mk (Kd.R_lower (Kd.R_newM (M := fun k_ => (w.heap.size ≤ k_)) ho7 (below_size HB.out) (fun k_ h_ => h_)) (below_size HB.out)); have n1_ := Aside0.mk (below_step HB.out hb); clear HB; have HO122 := n0_; have HB := n1_; clear n0_ n1_; clear hb ho7))
   go_loopg [20] k (fun kq v20 w' => ∃ (x5_1 : List Int) (x20_1 : Int), v20 = .int .i64 x20_1 ∧ Aside0 (rational_mulNat.l0 kq l1 x5_1 l0 (l0.length : Int) x20_1 = some r) ∧ Aside0 (kq ≤ k) ∧ Aside0 (Kd.R (Kd.int .u32) 90 w' w.heap.size (fun k_ => (w.heap.size ≤ k_)) v121 x5_1) ∧ Aside0 (Below w.heap.size w w'))
   case atStart => exact ⟨(y120), (0), rfl, H', ⟨Nat.le_refl _⟩, ⟨by (with_reducible repeat (first | apply Kd.R_alloc | apply Kd.R_drewN | apply Kd.R_drew)); exact Kd.R_mono HO122.out (fun _ hk => hk.1)⟩, ⟨HB.out⟩⟩
   case round =>
    clear H'
    try clear c1
    try clear p2
    try clear c4
    try clear c4b0
    try clear c4b1
    try clear c5
    try clear c5b0
    try clear c5b1
    try clear c6
    try clear p6
    obtain ⟨x5_1, x20_1, rfl, HA, HK1, HO_5, HB⟩ := hrel
    cases gk with
    | zero => exact absurd HA.out (by simp [rational_mulNat.l0])
    | succ k1 =>
     have H := HA.out
     clear HA
     simp only [rational_mulNat.l0] at H
     by_cases c8 : x20_1 < (l0.length : Int)
     ·rw [if_pos c8] at H
      have c8b0 : decide (x20_1 < (l0.length : Int)) = true := decide_eq_true c8
      clear c8
      by_cases c9 : 0 ≤ x20_1
      ·rw [if_pos c9] at H
       have c9b0 : decide (0 ≤ x20_1) = true := decide_eq_true c9
       clear c9
       by_cases c10 : x20_1 < (l0.length : Int)
       ·rw [if_pos c10] at H
        have c10b0 : decide (x20_1 < (l0.length : Int)) = true := decide_eq_true c10
        clear c10
        have H' := Aside0.mk H
        clear H
        have p126 : 0 ≤ (x20_1 : Int) := of_decide_eq_true (by assumption)
        have q126 : x20_1 < (l0.length : Int) := of_decide_eq_true (by assumption)
        obtain ⟨ad126, e126, hx126_0⟩ := Kd.at_int HR0.out x20_1 p126 q126
        cases e126
        replace hx126_0 := (HB.out.cell (World.block_lt_of_cell? w _ hx126_0)).trans hx126_0
        replace p126 := eq_true p126
        replace q126 := eq_true q126
        go_wp2
        go_loopg [8, 27] k1 (fun kq v8 v27 w' => ∃ (x5_2 : List Int) (x8_2 : Int) (x27_2 : Int), v8 = .int .u64 x8_2 ∧ v27 = .int .i64 x27_2 ∧ Aside0 (rational_mulNat.l1 kq l1 x5_2 x20_1 (rd l0 x20_1) x8_2 l0 (l0.length : Int) x20_1 l1 (l1.length : Int) x27_2 = some r) ∧ Aside0 (kq ≤ k1) ∧ Aside0 (Kd.R (Kd.int .u32) 90 w' w.heap.size (fun k_ => (w.heap.size ≤ k_)) v121 x5_2) ∧ Aside0 (Below w.heap.size w w'))
        case atStart => exact ⟨(x5_1), (0), (0), rfl, rfl, H', ⟨Nat.le_refl _⟩, ⟨by (with_reducible repeat (first | apply Kd.R_alloc | apply Kd.R_drewN | apply Kd.R_drew)); exact HO_5.out⟩, ⟨HB.out⟩⟩
        case round =>
         clear H'
         try clear c1
         try clear p1
         try clear q1
         try clear hx1
         try clear p2
         try clear c4
         try clear c4b0
         try clear c4b1
         try clear c5
         try clear c5b0
         try clear c5b1
         try clear c6
         try clear p6
         try clear c8
         try clear c8b0
         try clear c9
         try clear c9b0
         try clear c10
         try clear c10b0
         try clear hx126_0
         try clear p126
         try clear p2
         try clear p6
         try clear q126
         obtain ⟨x5_2, x8_2, x27_2, rfl, rfl, HA, HK2, HO_5, HB⟩ := hrel
         cases gk with
         | zero => exact absurd HA.out (by simp [rational_mulNat.l1])
         | succ k2 =>
          have H := HA.out
          clear HA
          simp only [rational_mulNat.l1] at H
          by_cases c11 : x27_2 < (l1.length : Int)
          ·rw [if_pos c11] at H
           have c11b0 : decide (x27_2 < (l1.length : Int)) = true := decide_eq_true c11
           clear c11
           by_cases c12 : 0 ≤ x27_2
           ·rw [if_pos c12] at H
            have c12b0 : decide (0 ≤ x27_2) = true := decide_eq_true c12
            clear c12
            by_cases c13 : x27_2 < (l1.length : Int)
            ·rw [if_pos c13] at H
             have c13b0 : decide (x27_2 < (l1.length : Int)) = true := decide_eq_true c13
             clear c13
             obtain ⟨ji14, hji14⟩ : ∃ j_ : Int, (wrap64 (x20_1 + x27_2)) = j_ := ⟨_, rfl⟩
             replace H : (if 0 ≤ (ji14) then (if (ji14) < (x5_2.length : Int) then (rational_mulNat.l1 k2 l1 (x5_2.set ((ji14) : Int).toNat ((Int.tmod (IntKind.u64.wrap ((IntKind.u64.wrap ((IntKind.u64.wrap (rd x5_2 (ji14))) + (IntKind.u64.wrap ((IntKind.u64.wrap ((rd l0 x20_1))) * (IntKind.u64.wrap (rd l1 x27_2)))))) + x8_2)) 1000000000) % 4294967296)) x20_1 (rd l0 x20_1) (IntKind.u64.wrap (Int.tdiv (IntKind.u64.wrap ((IntKind.u64.wrap ((IntKind.u64.wrap (rd x5_2 (ji14))) + (IntKind.u64.wrap ((IntKind.u64.wrap ((rd l0 x20_1))) * (IntKind.u64.wrap (rd l1 x27_2)))))) + x8_2)) 1000000000)) l0 (l0.length : Int) x20_1 l1 (l1.length : Int) (wrap64 (x27_2 + 1))) else (none)) else (none)) = some r := by first | (rw [hji14] at H; exact H) | (simp only [hji14] at H ⊢; exact H)
             have hji14w : (IntKind.i64.wrap (x20_1 + x27_2)) = ji14 := (i64_w _).trans hji14
             by_cases c15 : 0 ≤ (ji14)
             ·rw [if_pos c15] at H
              have c15b0 : decide (0 ≤ (ji14)) = true := decide_eq_true c15
              clear c15
              by_cases c16 : (ji14) < (x5_2.length : Int)
              ·rw [if_pos c16] at H
               have c16b0 : decide ((ji14) < (x5_2.length : Int)) = true := decide_eq_true c16
               clear c16
               obtain ⟨y129, hy129⟩ : ∃ y_ : List Int, y_ = (x5_2.set ((ji14) : Int).toNat ((Int.tmod (IntKind.u64.wrap ((IntKind.u64.wrap ((IntKind.u64.wrap (rd x5_2 (ji14))) + (IntKind.u64.wrap ((IntKind.u64.wrap ((rd l0 x20_1))) * (IntKind.u64.wrap (rd l1 x27_2)))))) + x8_2)) 1000000000) % 4294967296)) := ⟨_, rfl⟩
               replace H : (rational_mulNat.l1 k2 l1 y129 x20_1 (rd l0 x20_1) (IntKind.u64.wrap (Int.tdiv (IntKind.u64.wrap ((IntKind.u64.wrap ((IntKind.u64.wrap (rd x5_2 (ji14))) + (IntKind.u64.wrap ((IntKind.u64.wrap ((rd l0 x20_1))) * (IntKind.u64.wrap (rd l1 x27_2)))))) + x8_2)) 1000000000)) l0 (l0.length : Int) x20_1 l1 (l1.length : Int) (wrap64 (x27_2 + 1))) = some r := by first | (rw [hy129]; with_reducible exact H) | (have H2_ := (Option.bind_some _ _).symm.trans H; rw [hy129]; with_reducible exact H2_) | (have H2_ := (Option.bind_some _ _).symm.trans H; with_reducible exact H2_) | with_reducible exact H | (rw [hy129]; exact H) | exact H
               have Ny129 := Aside0.mk hy129
               clear hy129
               have H' := Aside0.mk H
               clear H
               have p127 : 0 ≤ (x27_2 : Int) := of_decide_eq_true (by assumption)
               have q127 : x27_2 < (l1.length : Int) := of_decide_eq_true (by assumption)
               obtain ⟨ad127, e127, hx127_0⟩ := Kd.at_int HR1.out x27_2 p127 q127
               cases e127
               replace hx127_0 := (HB.out.cell (World.block_lt_of_cell? w _ hx127_0)).trans hx127_0
               replace p127 := eq_true p127
               replace q127 := eq_true q127
               obtain ⟨Ao18, co18, eo18⟩ := Kd.R_slice HO_5.out
               subst eo18
               have p128 : 0 ≤ ((ji14) : Int) := of_decide_eq_true (by assumption)
               have q128 : (ji14) < (x5_2.length : Int) := of_decide_eq_true (by assumption)
               obtain ⟨ad128, e128, hx128_0⟩ := Kd.at_int (Kd.R_reads' HO_5.out).2.2 (ji14) p128 q128
               cases e128
               replace p128 := eq_true p128
               replace q128 := eq_true q128
               have p17 : 0 ≤ ((ji14) : Int) := of_decide_eq_true (by assumption)
               have q17 : ((ji14) : Int) < ((x5_2.length : Int) : Int) := of_decide_eq_true (by assumption)
               obtain ⟨go17, co17, eo17, gb17, gl17, cl17, HG17⟩ := Kd.R_form HO_5.out (by omega)
               (first | cases eo17 | (injection eo17 with ea_ en_ ec_; (first | subst ea_ | (injection ea_ with ea_; subst ea_)); subst ec_; clear en_))
               have GB17 := Aside0.mk gb17
               have GG17 := Aside0.mk HG17
               clear gb17 gl17 HG17
               (first | simp only [add_plain] at hx128_0 | skip)
               obtain ⟨hx17_0, hf17_0⟩ := Kd.R_celln 0 HO_5.out ((ji14) : Int) p17 q17
               replace p17 := eq_true p17
               replace q17 := eq_true q17
               have HP19 := Kd.R_putg HO_5.out ((ji14) : Int) ((Int.tmod (IntKind.u64.wrap ((IntKind.u64.wrap ((IntKind.u64.wrap (rd x5_2 (ji14))) + (IntKind.u64.wrap ((IntKind.u64.wrap ((rd l0 x20_1))) * (IntKind.u64.wrap (rd l1 x27_2)))))) + x8_2)) 1000000000) % 4294967296)
               go_wp2_with (first | ((with_reducible refine gate_store (t := 90) (p := 56) rfl ?_); refine store_event (t := 90) (p := 56) (v := ?vo_w20) (w1 := (wr.setCell ⟨go17, ((ji14) : Int).toNat, none⟩ (.int .u32 ((Int.tmod (IntKind.u64.wrap ((IntKind.u64.wrap ((IntKind.u64.wrap (rd x5_2 (ji14))) + (IntKind.u64.wrap ((IntKind.u64.wrap ((rd l0 x20_1))) * (IntKind.u64.wrap (rd l1 x27_2)))))) + x8_2)) 1000000000) % 4294967296)))) ?hg ?ho ?hn ?hr ?_; (case ho => rfl); (case hg => rfl); (case hn => rfl); (case hr => go_simp); intro w20 hw; have hg : wr.grownBy w20 (some go17) := (by rw [hw]; exact HP19.2); have hp_ : Kd.R (Kd.int .u32) 90 w20 w.heap.size (fun k_ => (w.heap.size ≤ k_)) (.slice (some ⟨go17, 0, none⟩) x5_2.length co18) y129 := (by rw [hw, Ny129.out]; exact HP19.1); clear HP19; have n0_ := Aside0.mk (hp_); have n1_ := Aside0.mk ((by rw [hw]; exact below_set (HB.out) GB17.out : Below w.heap.size w w20)); clear HO_5; clear HB; have HO_5 := n0_; have HB := n1_; clear n0_ n1_; clear hg hw hp_))
               go_roundg k2
               case measure => have := HK1.out; have := HK2.out; omega
               case rel => exact ⟨(y129), (IntKind.u64.wrap (Int.tdiv (IntKind.u64.wrap ((IntKind.u64.wrap ((IntKind.u64.wrap (rd x5_2 (ji14))) + (IntKind.u64.wrap ((IntKind.u64.wrap ((rd l0 x20_1))) * (IntKind.u64.wrap (rd l1 x27_2)))))) + x8_2)) 1000000000)), (wrap64 (x27_2 + 1)), (by first | rfl | (simp; done) | (simp only [← hji14] <;> (first | rfl | simp)) | (simp [*]; done)), rfl, H', ⟨by have := HK1.out; have := HK2.out; omega⟩, ⟨by (with_reducible repeat (first | apply Kd.R_alloc | apply Kd.R_drewN | apply Kd.R_drew)); exact HO_5.out⟩, ⟨HB.out⟩⟩
              ·rw [if_neg c16] at H
               exact absurd H (by simp)
             ·rw [if_neg c15] at H
              exact absurd H (by simp)
            ·rw [if_neg c13] at H
             exact absurd H (by simp)
           ·rw [if_neg c12] at H
            exact absurd H (by simp)
          ·rw [if_neg c11] at H
           have c11b0 : decide (x27_2 < (l1.length : Int)) = false := decide_eq_false c11
           clear c11
           obtain ⟨ji21, hji21⟩ : ∃ j_ : Int, (wrap64 (x20_1 + (l1.length : Int))) = j_ := ⟨_, rfl⟩
           replace H : (if 0 ≤ (ji21) then (if (ji21) < (x5_2.length : Int) then (rational_mulNat.l0 k2 l1 (x5_2.set ((ji21) : Int).toNat ((x8_2) % 4294967296)) l0 (l0.length : Int) (wrap64 (x20_1 + 1))) else (none)) else (none)) = some r := by first | (rw [hji21] at H; exact H) | (simp only [hji21] at H ⊢; exact H)
           have hji21w : (IntKind.i64.wrap (x20_1 + (l1.length : Int))) = ji21 := (i64_w _).trans hji21
           by_cases c22 : 0 ≤ (ji21)
           ·rw [if_pos c22] at H
            have c22b0 : decide (0 ≤ (ji21)) = true := decide_eq_true c22
            clear c22
            by_cases c23 : (ji21) < (x5_2.length : Int)
            ·rw [if_pos c23] at H
             have c23b0 : decide ((ji21) < (x5_2.length : Int)) = true := decide_eq_true c23
             clear c23
             obtain ⟨y130, hy130⟩ : ∃ y_ : List Int, y_ = (x5_2.set ((ji21) : Int).toNat ((x8_2) % 4294967296)) := ⟨_, rfl⟩
             replace H : (rational_mulNat.l0 k2 l1 y130 l0 (l0.length : Int) (wrap64 (x20_1 + 1))) = some r := by first | (rw [hy130]; with_reducible exact H) | (have H2_ := (Option.bind_some _ _).symm.trans H; rw [hy130]; with_reducible exact H2_) | (have H2_ := (Option.bind_some _ _).symm.trans H; with_reducible exact H2_) | with_reducible exact H | (rw [hy130]; exact H) | exact H
             have Ny130 := Aside0.mk hy130
             clear hy130
             have H' := Aside0.mk H
             clear H
             have p24 : 0 ≤ ((ji21) : Int) := of_decide_eq_true (by assumption)
             have q24 : ((ji21) : Int) < ((x5_2.length : Int) : Int) := of_decide_eq_true (by assumption)
             obtain ⟨go24, co24, eo24, gb24, gl24, cl24, HG24⟩ := Kd.R_form HO_5.out (by omega)
             (first | cases eo24 | (injection eo24 with ea_ en_ ec_; (first | subst ea_ | (injection ea_ with ea_; subst ea_)); subst ec_; clear en_))
             have GB24 := Aside0.mk gb24
             have GG24 := Aside0.mk HG24
             clear gb24 gl24 HG24
             obtain ⟨hx24_0, hf24_0⟩ := Kd.R_celln 0 HO_5.out ((ji21) : Int) p24 q24
             replace p24 := eq_true p24
             replace q24 := eq_true q24
             have HP25 := Kd.R_putg HO_5.out ((ji21) : Int) ((x8_2) % 4294967296)
             go_wp2_with (first | ((with_reducible refine gate_store (t := 90) (p := 65) rfl ?_); refine store_event (t := 90) (p := 65) (v := ?vo_w26) (w1 := (wr.setCell ⟨go24, ((ji21) : Int).toNat, none⟩ (.int .u32 ((x8_2) % 4294967296)))) ?hg ?ho ?hn ?hr ?_; (case ho => rfl); (case hg => rfl); (case hn => rfl); (case hr => go_simp); intro w26 hw; have hg : wr.grownBy w26 (some go24) := (by rw [hw]; exact HP25.2); have hp_ : Kd.R (Kd.int .u32) 90 w26 w.heap.size (fun k_ => (w.heap.size ≤ k_)) (.slice (some ⟨go24, 0, none⟩) x5_2.length co24) y130 := (by rw [hw, Ny130.out]; exact HP25.1); clear HP25; have n0_ := Aside0.mk (hp_); have n1_ := Aside0.mk ((by rw [hw]; exact below_set (HB.out) GB24.out : Below w.heap.size w w26)); clear HO_5; clear HB; have HO_5 := n0_; have HB := n1_; clear n0_ n1_; clear hg hw hp_))
             go_roundg k2
             case measure => have := HK1.out; have := HK2.out; omega
             case rel => exact ⟨(y130), (wrap64 (x20_1 + 1)), rfl, H', ⟨by have := HK1.out; have := HK2.out; omega⟩, ⟨by (with_reducible repeat (first | apply Kd.R_alloc | apply Kd.R_drewN | apply Kd.R_drew)); exact HO_5.out⟩, ⟨HB.out⟩⟩
            ·rw [if_neg c23] at H
             exact absurd H (by simp)
           ·rw [if_neg c22] at H
            exact absurd H (by simp)
       ·rw [if_neg c10] at H
        exact absurd H (by simp)
      ·rw [if_neg c9] at H
       exact absurd H (by simp)
     ·rw [if_neg c8] at H
      have c8b0 : decide (x20_1 < (l0.length : Int)) = false := decide_eq_false c8
      clear c8
      replace H := Option.bind_eq_some_iff.mp H
      obtain ⟨t123, A270, H⟩ := H
      (try dsimp only at H)
      have A27 := Aside0.mk A270
      clear A270
      obtain rfl := Option.some.inj H
      obtain ⟨Ao28, co28, eo28⟩ := Kd.R_slice HO_5.out
      subst eo28
      go_wp2_with (first | ((with_reducible refine gate_callee (f := 115) rfl ?_); refine goesL_ (some 68) rfl rfl Tryd.func115 (by kernel_rfl) rfl #[.slice Ao28 x5_1.length co28] rfl (by (try simp only [List.map_toArray, List.map_cons, List.map_nil]); first | done | rfl) ?_; (with_reducible refine (rational_trim.calls k1 (fun k_ => some k_ = (.slice Ao28 x5_1.length co28 : Value).ownBlock) _ _ x5_1 t123 _ ?side1 A27.out).mono ?_); (case side1 => exact Kd.R_V (Kd.R_tight rfl (HO_5.out))); rintro e w29 ⟨v124, rfl, ho0, hb⟩; refine ⟨_, rfl, ?_⟩; have n0_ := Aside0.mk (Kd.R_below HO_5.out hb); have n1_ := Aside0.mk (Kd.V_lower (Kd.V_mono (ok' := fun k_ => (w.heap.size ≤ k_)) ho0 (fun k_ hk_ => Or.elim hk_ (fun hs_ => ((HO_5.out).1 k_ hs_.symm)) (fun hn_ => (Nat.le_trans (below_size HB.out) hn_)))) (below_size HB.out)); have n2_ := Aside0.mk (below_step HB.out hb); clear HO_5; clear HB; have HO_5 := n0_; have HO125 := n1_; have HB := n2_; clear n0_ n1_ n2_; (try clear hb); (try clear hb2); (try clear hk); (try clear hi); (try clear ho0)))
      go_ret
      exact ⟨_, by first | rfl | (simp [errW_none, errW_some] <;> rfl) | (simp only [← hji3]; first | rfl | (simp [errW_none, errW_some] <;> rfl)) | (simp [*, errW_none, errW_some] <;> rfl), by (with_reducible repeat (first | apply Kd.V_alloc | apply Kd.V_drewN | apply Kd.V_drew)); exact HO125.out, HB.out⟩
  ·rw [if_neg c5] at H
   exact absurd H (by simp)
 ·rw [if_neg c4] at H
  exact absurd H (by simp)
/-! ### rational_small: function 111 -/
def rational_small.l0 : Nat → List Int → Int → List Int → Int → Int → Option (List Int × List Int)
 | 0, _, _, _, _, _ => none
 | k + 1, x0, x1, x6, x7, x8 => if x8 ≥ 0 then (if 0 ≤ x8 then (if x8 < (x0.length : Int) then (if (IntKind.u64.wrap (x1)) = 0 then (none) else (if x8 < (x6.length : Int) then (rational_small.l0 k x0 x1 (x6.set (x8 : Int).toNat ((IntKind.u64.wrap (Int.tdiv (IntKind.u64.wrap ((IntKind.u64.wrap (x7 * 1000000000)) + (IntKind.u64.wrap (rd x0 x8)))) (IntKind.u64.wrap (x1)))) % 4294967296)) (Int.tmod (IntKind.u64.wrap ((IntKind.u64.wrap (x7 * 1000000000)) + (IntKind.u64.wrap (rd x0 x8)))) (IntKind.u64.wrap (x1))) (wrap64 (x8 - 1))) else (none))) else (none)) else (none)) else ((rational_trim.f k x6).bind fun t139 => ((rational_natOf.f k x7).bind fun t142 => (some (t139, t142))))
def rational_small.f (k : Nat) (l0 : List Int) (a1 : Int) : Option (List Int × List Int) := if 0 ≤ (l0.length : Int) then (if ((l0.length : Int) : Int).toNat ≤ 70368744177664 then (rational_small.l0 k l0 a1 (List.replicate ((l0.length : Int) : Int).toNat 0) 0 (wrap64 ((l0.length : Int) - 1))) else (none)) else (none)
theorem rational_small.mono_l : ∀ k, (∀ y0 y1 y2 y3 y4, LeO (rational_small.l0 k y0 y1 y2 y3 y4) (rational_small.l0 (k + 1) y0 y1 y2 y3 y4))
 | 0 => fun _ _ _ _ _ r h => by simp [rational_small.l0] at h
 | k + 1 => by
  have ih0 := rational_small.mono_l k
  ·intro y0 y1 y2 y3 y4
   unfold rational_small.l0
   repeat' first
   | (with_reducible exact ih0 _ _ _ _ _)
   | (with_reducible exact rational_natOf.mono _ _)
   | (with_reducible exact rational_trim.mono _ _)
   | (with_reducible exact LeO.refl _)
   | (with_reducible exact LeO.none _)
   | (with_reducible refine LeO.ite ?_ ?_)
   | (with_reducible refine LeO.bind ?_ (fun _ => ?_))
   | exact ih0 _ _ _ _ _
   | exact rational_natOf.mono _ _
   | exact rational_trim.mono _ _
   | exact LeO.none _
   | refine LeO.ite ?_ ?_
   | refine LeO.bind ?_ (fun _ => ?_)
theorem rational_small.mono : ∀ a0 a1 k, LeO (rational_small.f k a0 a1) (rational_small.f (k + 1) a0 a1) := by
 intro a0 a1 k
 have ih0 := rational_small.mono_l k
 unfold rational_small.f
 repeat' first
   | (with_reducible exact ih0 _ _ _ _ _)
   | (with_reducible exact rational_natOf.mono _ _)
   | (with_reducible exact rational_trim.mono _ _)
   | (with_reducible exact LeO.refl _)
   | (with_reducible exact LeO.none _)
   | (with_reducible refine LeO.ite ?_ ?_)
   | (with_reducible refine LeO.bind ?_ (fun _ => ?_))
   | exact ih0 _ _ _ _ _
   | exact rational_natOf.mono _ _
   | exact rational_trim.mono _ _
   | exact LeO.none _
   | refine LeO.ite ?_ ?_
   | refine LeO.bind ?_ (fun _ => ?_)
def rational_small.T7 : Bool × List (List Nat × List Nat) := (true, [([], []), ([], []), ([], []), ([], []), ([3], [3]), ([2, 4], [2, 4]), ([5], [5]), ([], []), ([], []), ([8], [8]), ([7, 9], [7, 9]), ([0, 1, 0, 1, 2, 3, 4, 5, 6], [0, 1]), ([11, 6, 0, 1, 2, 3, 4, 5, 6], [6, 11]), ([10, 12, 0, 1, 2, 3, 4, 5, 6, 7, 8, 9, 10, 11, 12], [10])])
def rational_small.B7 : List Nat := [0, 0, 0, 0, 8, 28, 60, 0, 0, 256, 896, 127, 2175, 8191]
theorem rational_small.tab7 : rtab .any (opsOf Tryd.f111 7) = rational_small.T7 := by kernel_rfl
theorem rational_small.bits7 : waitsOk rational_small.T7.2 rational_small.B7 = true := by kernel_rfl
set_option maxHeartbeats 8000000 in
set_option maxRecDepth 100000 in
theorem rational_small.calls (k : Nat) (A0 : Option Addr) (c0 : Nat) (l0 : List Int) (a1 : Int) (r1 : List Int) (r2 : List Int) (w : World) (hr0 : Kd.C (Kd.int .u32) w A0 l0.length l0) (hc0 : l0.length ≤ c0) (h : rational_small.f k l0 a1 = some (r1, r2)) :
  Calls Tryd.prog 111 #[.slice A0 l0.length c0, .int .u32 a1] w fun e w' => ∃ v0_ v1_ : Value, e = .returned (.tuple #[v0_, v1_]) ∧ Kd.V (Kd.int .u32) 90 w' w.heap.size (fun k_ => (w.heap.size ≤ k_) ∧ some k_ ≠ (v1_ : Value).ownBlock) v0_ r1 ∧ Kd.R (Kd.int .u32) 90 w' w.heap.size (fun k_ => (w.heap.size ≤ k_)) v1_ r2 ∧ Below w.heap.size w w' := by
 have HR0 := Aside0.mk hr0
 have HC0 := Aside0.mk hc0
 clear hr0 hc0
 have HB := Aside0.mk (Below.refl w.heap.size w)
 have H : (if 0 ≤ (l0.length : Int) then (if ((l0.length : Int) : Int).toNat ≤ 70368744177664 then (rational_small.l0 k l0 a1 (List.replicate ((l0.length : Int) : Int).toNat 0) 0 (wrap64 ((l0.length : Int) - 1))) else (none)) else (none)) = some (r1, r2) := h
 clear h
 by_cases c3 : 0 ≤ (l0.length : Int)
 ·rw [if_pos c3] at H
  have c3b0 := eq_true c3
  have c3b1 : decide (0 ≤ (l0.length : Int)) = true := decide_eq_true c3
  clear c3
  by_cases c4 : ((l0.length : Int) : Int).toNat ≤ 70368744177664
  ·rw [if_pos c4] at H
   have c4b0 := eq_true c4
   have c4b1 : decide (((l0.length : Int) : Int).toNat ≤ 70368744177664) = true := decide_eq_true c4
   clear c4
   obtain ⟨y134, hy134⟩ : ∃ y_ : List Int, y_ = (List.replicate ((l0.length : Int) : Int).toNat 0) := ⟨_, rfl⟩
   replace H : (rational_small.l0 k l0 a1 y134 0 (wrap64 ((l0.length : Int) - 1))) = some (r1, r2) := by first | (rw [hy134]; with_reducible exact H) | (have H2_ := (Option.bind_some _ _).symm.trans H; rw [hy134]; with_reducible exact H2_) | (have H2_ := (Option.bind_some _ _).symm.trans H; with_reducible exact H2_) | with_reducible exact H | (rw [hy134]; exact H) | exact H
   have Ny134 := Aside0.mk hy134
   clear hy134
   have H' := Aside0.mk H
   clear H
   go_enter Tryd.func111, Tryd.ntmps111
   go_wp2_with (first | ((with_reducible refine gate_dst (N := 12) rfl ?_); refine Kd.R_make (Kd.int .u32) _ 90 rfl (N := 12) rfl 80 _ _ rfl (l0.length : Int) rfl rfl Tryd.underlying80 (.int .u32 0) 4 info90 rfl (by decide) (by omega) 0 (ok := fun _ => True) (okp := fun _ => True) rfl (fun _ hk => hk) trivial (of_decide_eq_true (by assumption)) (Nat.le_trans (Nat.mul_le_mul_right _ (of_decide_eq_true (by assumption) : (l0.length : Int).toNat ≤ 70368744177664)) (by omega)) (Below.refl _ _) (Nat.le_refl _) ?_; intro v135 w5 ho6 hb hg_ hnew_; clear hg_ hnew_; (first | rw [← Ny134.out] at ho6 | (simp only [Int.reduceToNat] at ho6; rw [← Ny134.out] at ho6)); have n0_ := Aside0.mk (Kd.R_lower (Kd.R_newM (M := fun k_ => (w.heap.size ≤ k_)) ho6 (below_size HB.out) (fun k_ h_ => h_)) (below_size HB.out)); have n1_ := Aside0.mk (below_step HB.out hb); clear HB; have HO136 := n0_; have HB := n1_; clear n0_ n1_; clear hb ho6))
   go_loopg [7, 8] k (fun kq v7 v8 w' => ∃ (x6_1 : List Int) (x7_1 : Int) (x8_1 : Int), v7 = .int .u64 x7_1 ∧ v8 = .int .i64 x8_1 ∧ Aside0 (rational_small.l0 kq l0 a1 x6_1 x7_1 x8_1 = some (r1, r2)) ∧ Aside0 (kq ≤ k) ∧ Aside0 (Kd.R (Kd.int .u32) 90 w' w.heap.size (fun k_ => (w.heap.size ≤ k_)) v135 x6_1) ∧ Aside0 (Below w.heap.size w w'))
   case atStart => exact ⟨(y134), (0), (wrap64 ((l0.length : Int) - 1)), rfl, rfl, H', ⟨Nat.le_refl _⟩, ⟨by (with_reducible repeat (first | apply Kd.R_alloc | apply Kd.R_drewN | apply Kd.R_drew)); exact Kd.R_mono HO136.out (fun _ hk => hk.1)⟩, ⟨HB.out⟩⟩
   case round =>
    clear H'
    try clear c1
    try clear p2
    try clear c3
    try clear c3b0
    try clear c3b1
    try clear c4
    try clear c4b0
    try clear c4b1
    try clear p6
    obtain ⟨x6_1, x7_1, x8_1, rfl, rfl, HA, HK1, HO_6, HB⟩ := hrel
    cases gk with
    | zero => exact absurd HA.out (by simp [rational_small.l0])
    | succ k1 =>
     have H := HA.out
     clear HA
     simp only [rational_small.l0] at H
     by_cases c7 : x8_1 ≥ 0
     ·rw [if_pos c7] at H
      have c7b0 : decide (0 ≤ x8_1) = true := decide_eq_true c7
      clear c7
      by_cases c8 : 0 ≤ x8_1
      ·rw [if_pos c8] at H
       have c8b0 : decide (0 ≤ x8_1) = true := decide_eq_true c8
       clear c8
       by_cases c9 : x8_1 < (l0.length : Int)
       ·rw [if_pos c9] at H
        have c9b0 : decide (x8_1 < (l0.length : Int)) = true := decide_eq_true c9
        clear c9
        by_cases c10 : (IntKind.u64.wrap (a1)) = 0
        ·rw [if_pos c10] at H
         exact absurd H (by simp)
        ·rw [if_neg c10] at H
         have c10b0 : ((IntKind.u64.wrap (a1)) == 0) = false := beq_eq_false_iff_ne.mpr c10
         have c10b1 : ((IntKind.u64.wrap (a1)) != 0) = true := bne_iff_ne.mpr c10
         by_cases c11 : x8_1 < (x6_1.length : Int)
         ·rw [if_pos c11] at H
          have c11b0 : decide (x8_1 < (x6_1.length : Int)) = true := decide_eq_true c11
          clear c11
          obtain ⟨y138, hy138⟩ : ∃ y_ : List Int, y_ = (x6_1.set (x8_1 : Int).toNat ((IntKind.u64.wrap (Int.tdiv (IntKind.u64.wrap ((IntKind.u64.wrap (x7_1 * 1000000000)) + (IntKind.u64.wrap (rd l0 x8_1)))) (IntKind.u64.wrap (a1)))) % 4294967296)) := ⟨_, rfl⟩
          replace H : (rational_small.l0 k1 l0 a1 y138 (Int.tmod (IntKind.u64.wrap ((IntKind.u64.wrap (x7_1 * 1000000000)) + (IntKind.u64.wrap (rd l0 x8_1)))) (IntKind.u64.wrap (a1))) (wrap64 (x8_1 - 1))) = some (r1, r2) := by first | (rw [hy138]; with_reducible exact H) | (have H2_ := (Option.bind_some _ _).symm.trans H; rw [hy138]; with_reducible exact H2_) | (have H2_ := (Option.bind_some _ _).symm.trans H; with_reducible exact H2_) | with_reducible exact H | (rw [hy138]; exact H) | exact H
          have Ny138 := Aside0.mk hy138
          clear hy138
          have H' := Aside0.mk H
          clear H
          have p137 : 0 ≤ (x8_1 : Int) := of_decide_eq_true (by assumption)
          have q137 : x8_1 < (l0.length : Int) := of_decide_eq_true (by assumption)
          obtain ⟨ad137, e137, hx137_0⟩ := Kd.at_int HR0.out x8_1 p137 q137
          cases e137
          replace hx137_0 := (HB.out.cell (World.block_lt_of_cell? w _ hx137_0)).trans hx137_0
          replace p137 := eq_true p137
          replace q137 := eq_true q137
          try go_wp2
          have n0_ := Aside0.mk (Kd.R_drew HO_6.out)
          have n1_ := Aside0.mk (below_drew1 HB.out)
          clear HO_6
          clear HB
          have HO_6 := n0_
          have HB := n1_
          clear n0_ n1_
          have p12 : 0 ≤ (x8_1 : Int) := of_decide_eq_true (by assumption)
          have q12 : (x8_1 : Int) < ((x6_1.length : Int) : Int) := of_decide_eq_true (by assumption)
          obtain ⟨go12, co12, eo12, gb12, gl12, cl12, HG12⟩ := Kd.R_form HO_6.out (by omega)
          (first | cases eo12 | (injection eo12 with ea_ en_ ec_; (first | subst ea_ | (injection ea_ with ea_; subst ea_)); subst ec_; clear en_))
          have GB12 := Aside0.mk gb12
          have GG12 := Aside0.mk HG12
          clear gb12 gl12 HG12
          obtain ⟨hx12_0, hf12_0⟩ := Kd.R_celln 0 HO_6.out (x8_1 : Int) p12 q12
          replace p12 := eq_true p12
          replace q12 := eq_true q12
          have HP14 := Kd.R_putn HO_6.out (x8_1 : Int) ((IntKind.u64.wrap (Int.tdiv (IntKind.u64.wrap ((IntKind.u64.wrap (x7_1 * 1000000000)) + (IntKind.u64.wrap (rd l0 x8_1)))) (IntKind.u64.wrap (a1)))) % 4294967296)
          rw [← Ny138.out] at HP14
          have HQ14 := Aside0.mk HP14
          clear HP14
          refine start_ (n := 14) (S := fun w' => True) (ds := [12]) #[false, false, false, false, false, false, false, false, false, false, false, false, false, false] (by kernel_rfl) rfl rfl trivial (fun hHeld => ?_); refine with_tabW rational_small.tab7 rational_small.bits7 (fun HT_ HW_ => ?_)
          generalize wr.drew = w13 at HO_6 HB GG12 HQ14 hf12_0 hx12_0 hHeld ⊢
          refine pure_ (i := 0) (N := some 28) (v := ?_) (a' := ?_) #[true, false, false, false, false, false, false, false, false, false, false, false, false, false] rfl rfl (any_of HT_.out (by kernel_rfl)) (fun _ _ _ h => h) (Or.inl ⟨by rfl, ?_⟩) ?_ ?_
          rotate_left
          ·intro w'
           go_simp
           with_reducible rfl
          rotate_left
          ·simp only [Act.put, List.setIfInBounds_toArray, List.set_cons_zero, List.set_cons_succ, i64_w, i32_w]
           rfl
          refine pure_ (i := 1) (N := some 29) (v := ?_) (a' := ?_) #[true, true, false, false, false, false, false, false, false, false, false, false, false, false] rfl rfl (any_of HT_.out (by kernel_rfl)) (fun _ _ _ h => h) (Or.inl ⟨by rfl, ?_⟩) ?_ ?_
          rotate_left
          ·intro w'
           go_simp
           with_reducible rfl
          rotate_left
          ·simp only [Act.put, List.setIfInBounds_toArray, List.set_cons_zero, List.set_cons_succ, i64_w, i32_w]
           rfl
          refine pure_ (i := 2) (N := some 30) (v := ?_) (a' := ?_) #[true, true, true, false, false, false, false, false, false, false, false, false, false, false] rfl rfl (any_of HT_.out (by kernel_rfl)) (fun _ _ _ h => h) (Or.inl ⟨by rfl, ?_⟩) ?_ ?_
          rotate_left
          ·intro w'
           go_simp
           with_reducible rfl
          rotate_left
          ·simp only [Act.put, List.setIfInBounds_toArray, List.set_cons_zero, List.set_cons_succ, i64_w, i32_w]
           rfl
          refine pure_ (i := 3) (N := some 31) (v := ?_) (a' := ?_) #[true, true, true, true, false, false, false, false, false, false, false, false, false, false] rfl rfl (any_of HT_.out (by kernel_rfl)) (fun _ _ _ h => h) (Or.inl ⟨by rfl, ?_⟩) ?_ ?_
          rotate_left
          ·intro w'
           go_simp
           with_reducible rfl
          rotate_left
          ·simp only [Act.put, List.setIfInBounds_toArray, List.set_cons_zero, List.set_cons_succ, i64_w, i32_w]
           rfl
          refine pure_ (i := 4) (N := some 32) (v := ?_) (a' := ?_) #[true, true, true, true, true, false, false, false, false, false, false, false, false, false] rfl rfl (any_of HT_.out (by kernel_rfl)) (fun _ _ _ h => h) (Or.inl ⟨by rfl, ?_⟩) ?_ ?_
          rotate_left
          ·intro w'
           go_simp
           with_reducible rfl
          rotate_left
          ·simp only [Act.put, List.setIfInBounds_toArray, List.set_cons_zero, List.set_cons_succ, i64_w, i32_w]
           rfl
          refine pure_ (i := 5) (N := some 33) (v := ?_) (a' := ?_) #[true, true, true, true, true, true, false, false, false, false, false, false, false, false] rfl rfl (any_of HT_.out (by kernel_rfl)) (fun _ _ _ h => h) (Or.inl ⟨by rfl, ?_⟩) ?_ ?_
          rotate_left
          ·intro w'
           go_simp
           with_reducible rfl
          rotate_left
          ·simp only [Act.put, List.setIfInBounds_toArray, List.set_cons_zero, List.set_cons_succ, i64_w, i32_w]
           rfl
          refine pure_ (i := 6) (N := some 34) (v := ?_) (a' := ?_) #[true, true, true, true, true, true, true, false, false, false, false, false, false, false] rfl rfl (any_of HT_.out (by kernel_rfl)) (fun _ _ _ h => h) (Or.inl ⟨by rfl, ?_⟩) ?_ ?_
          rotate_left
          ·intro w'
           go_simp
           with_reducible rfl
          rotate_left
          ·simp only [Act.put, List.setIfInBounds_toArray, List.set_cons_zero, List.set_cons_succ, i64_w, i32_w]
           rfl
          refine pure_ (i := 7) (N := some 35) (v := ?_) (a' := ?_) #[true, true, true, true, true, true, true, true, false, false, false, false, false, false] rfl rfl (any_of HT_.out (by kernel_rfl)) (fun _ _ _ h => h) (Or.inl ⟨by rfl, ?_⟩) ?_ ?_
          rotate_left
          ·intro w'
           go_simp
           with_reducible rfl
          rotate_left
          ·simp only [Act.put, List.setIfInBounds_toArray, List.set_cons_zero, List.set_cons_succ, i64_w, i32_w]
           rfl
          refine pure_ (i := 8) (N := some 36) (v := ?_) (a' := ?_) #[true, true, true, true, true, true, true, true, true, false, false, false, false, false] rfl rfl (any_of HT_.out (by kernel_rfl)) (fun _ _ _ h => h) (Or.inl ⟨by rfl, ?_⟩) ?_ ?_
          rotate_left
          ·intro w'
           go_simp
           with_reducible rfl
          rotate_left
          ·simp only [Act.put, List.setIfInBounds_toArray, List.set_cons_zero, List.set_cons_succ, i64_w, i32_w]
           rfl
          refine pure_ (i := 9) (N := some 37) (v := ?_) (a' := ?_) #[true, true, true, true, true, true, true, true, true, true, false, false, false, false] rfl rfl (any_of HT_.out (by kernel_rfl)) (fun _ _ _ h => h) (Or.inl ⟨by rfl, ?_⟩) ?_ ?_
          rotate_left
          ·intro w'
           go_simp
           with_reducible rfl
          rotate_left
          ·simp only [Act.put, List.setIfInBounds_toArray, List.set_cons_zero, List.set_cons_succ, i64_w, i32_w]
           rfl
          refine pure_ (i := 10) (N := some 38) (v := ?_) (a' := ?_) #[true, true, true, true, true, true, true, true, true, true, true, false, false, false] rfl rfl (any_of HT_.out (by kernel_rfl)) (fun _ _ _ h => h) (Or.inl ⟨by rfl, ?_⟩) ?_ ?_
          rotate_left
          ·intro w'
           go_simp
           with_reducible rfl
          rotate_left
          ·simp only [Act.put, List.setIfInBounds_toArray, List.set_cons_zero, List.set_cons_succ, i64_w, i32_w]
           rfl
          refine pure_ (i := 11) (N := some 39) (v := ?_) (a' := ?_) #[true, true, true, true, true, true, true, true, true, true, true, true, false, false] rfl rfl (any_of HT_.out (by kernel_rfl)) (fun _ _ _ h => h) (Or.inl ⟨by rfl, ?_⟩) ?_ ?_
          rotate_left
          ·intro w'
           go_simp
           with_reducible rfl
          rotate_left
          ·simp only [Act.put, List.setIfInBounds_toArray, List.set_cons_zero, List.set_cons_succ, i64_w, i32_w]
           rfl
          refine last_ (i := 12) (N := none) #[true, true, true, true, true, true, true, true, true, true, true, true, true, false] rfl rfl (one_of HT_.out (by kernel_rfl)) (by decide) (fun K hK => ?_)
          refine skip_ (w1 := ?_) (by rfl) rfl ?_ ?_
          rotate_left
          ·go_simp
           rfl
          refine hK.out _ _ ?_
          clear hK K
          refine pure_ (i := 13) (N := some 7) (v := ?_) (a' := ?_) #[true, true, true, true, true, true, true, true, true, true, true, true, true, true] rfl rfl (any_of HT_.out (by kernel_rfl)) (fun _ _ _ h => h) (Or.inl ⟨by rfl, ?_⟩) ?_ ?_
          rotate_left
          ·intro w'
           go_simp
           with_reducible rfl
          rotate_left
          ·simp only [Act.put, List.setIfInBounds_toArray, List.set_cons_zero, List.set_cons_succ, i64_w, i32_w]
           rfl
          refine done_ (done_of HT_.out (by kernel_rfl)) ?_
          try go_wp2
          go_roundg k1
          case measure => have := HK1.out; omega
          case rel => exact ⟨(y138), (Int.tmod (IntKind.u64.wrap ((IntKind.u64.wrap (x7_1 * 1000000000)) + (IntKind.u64.wrap (rd l0 x8_1)))) (IntKind.u64.wrap (a1))), (wrap64 (x8_1 - 1)), rfl, rfl, H', ⟨by have := HK1.out; omega⟩, ⟨by (with_reducible repeat (first | apply Kd.R_alloc | apply Kd.R_drewN | apply Kd.R_drew)); exact HQ14.out⟩, ⟨by repeat first | exact HB.out | refine below_set ?_ GB12.out⟩⟩
         ·rw [if_neg c11] at H
          exact absurd H (by simp)
       ·rw [if_neg c9] at H
        exact absurd H (by simp)
      ·rw [if_neg c8] at H
       exact absurd H (by simp)
     ·rw [if_neg c7] at H
      have c7b0 : decide (0 ≤ x8_1) = false := decide_eq_false c7
      clear c7
      replace H := Option.bind_eq_some_iff.mp H
      obtain ⟨t139, A150, H⟩ := H
      (try dsimp only at H)
      have A15 := Aside0.mk A150
      clear A150
      replace H := Option.bind_eq_some_iff.mp H
      obtain ⟨t142, A160, H⟩ := H
      (try dsimp only at H)
      have A16 := Aside0.mk A160
      clear A160
      simp only [Option.some.injEq, Prod.mk.injEq] at H
      obtain ⟨rfl, rfl⟩ := H
      obtain ⟨Ao17, co17, eo17⟩ := Kd.R_slice HO_6.out
      subst eo17
      go_wp2_with (first | ((with_reducible refine gate_callee (f := 115) rfl ?_); refine goesL_ (some 41) rfl rfl Tryd.func115 (by kernel_rfl) rfl #[.slice Ao17 x6_1.length co17] rfl (by (try simp only [List.map_toArray, List.map_cons, List.map_nil]); first | done | rfl) ?_; (with_reducible refine (rational_trim.calls k1 (fun k_ => some k_ = (.slice Ao17 x6_1.length co17 : Value).ownBlock) _ _ x6_1 t139 _ ?side1 A15.out).mono ?_); (case side1 => exact Kd.R_V (Kd.R_tight rfl (HO_6.out))); rintro e w18 ⟨v140, rfl, ho0, hb⟩; refine ⟨_, rfl, ?_⟩; have n0_ := Aside0.mk (Kd.R_below HO_6.out hb); have n1_ := Aside0.mk (Kd.V_lower (Kd.V_mono (ok' := fun k_ => (w.heap.size ≤ k_)) ho0 (fun k_ hk_ => Or.elim hk_ (fun hs_ => ((HO_6.out).1 k_ hs_.symm)) (fun hn_ => (Nat.le_trans (below_size HB.out) hn_)))) (below_size HB.out)); have n2_ := Aside0.mk (below_step HB.out hb); clear HO_6; clear HB; have HO_6 := n0_; have HO141 := n1_; have HB := n2_; clear n0_ n1_ n2_; (try clear hb); (try clear hb2); (try clear hk); (try clear hi); (try clear ho0)) | ((with_reducible refine gate_callee (f := 62) rfl ?_); refine goesL_ (some 43) rfl rfl Tryd.func62 (by kernel_rfl) rfl #[.int .u64 x7_1] rfl (by (try simp only [List.map_toArray, List.map_cons, List.map_nil]); first | done | rfl) ?_; (with_reducible refine (rational_natOf.calls k1 x7_1 t142 _ A16.out).mono ?_); rintro e w19 ⟨v143, rfl, ho0, hb⟩; refine ⟨_, rfl, ?_⟩; have n0_ := Aside0.mk (Kd.R_elder' HO_6.out (Kd.R_base ho0) hb); have n1_ := Aside0.mk (Kd.V_elder' (by (with_reducible repeat (first | apply Kd.V_alloc | apply Kd.V_drewN | apply Kd.V_drew)); exact HO141.out) (Kd.R_base ho0) hb); have n2_ := Aside0.mk (Kd.R_lower (Kd.R_new' (Kd.R_newM (M := fun k_ => (w.heap.size ≤ k_)) ho0 (below_size HB.out) (fun k_ h_ => h_)) (Kd.R_lt HO_6.out)) (below_size HB.out)); have n3_ := Aside0.mk (below_step HB.out hb); clear HO_6; clear HO141; clear HB; have HO_6 := n0_; have HO141 := n1_; have HO144 := n2_; have HB := n3_; clear n0_ n1_ n2_ n3_; (try clear hb); (try clear hb2); (try clear hk); (try clear hi); (try clear ho0)))
      go_ret2
      exact ⟨_, _, rfl, by (with_reducible repeat (first | apply Kd.V_alloc | apply Kd.V_drewN | apply Kd.V_drew)); exact HO141.out, by (with_reducible repeat (first | apply Kd.R_alloc | apply Kd.R_drewN | apply Kd.R_drew)); exact Kd.R_mono HO144.out (fun _ hk => hk.1.1), HB.out⟩
  ·rw [if_neg c4] at H
   exact absurd H (by simp)
 ·rw [if_neg c3] at H
  exact absurd H (by simp)
/-! ### rational_natural_uint32: function 112 -/
def rational_natural_uint32.f (l0 : List Int) : Option (List Int) := (some (([] : List Int) : List Int)).bind fun y145 => (if y145.length + l0.length < 35184372088832 then (some (y145 ++ l0)) else (none))
set_option maxHeartbeats 8000000 in
set_option maxRecDepth 100000 in
theorem rational_natural_uint32.calls (A0 : Option Addr) (c0 : Nat) (l0 : List Int) (r : List Int) (w : World) (hr0 : Kd.C (Kd.int .u32) w A0 l0.length l0) (hc0 : l0.length ≤ c0) (h : rational_natural_uint32.f l0 = some r) :
  Calls Tryd.prog 112 #[.slice A0 l0.length c0] w fun e w' => ∃ v0_ : Value, e = .returned (v0_) ∧ Kd.R (Kd.int .u32) 90 w' w.heap.size (fun _ => True) v0_ r ∧ Below w.heap.size w w' := by
 have HR0 := Aside0.mk hr0
 have HC0 := Aside0.mk hc0
 clear hr0 hc0
 have HB := Aside0.mk (Below.refl w.heap.size w)
 have H : ((some (([] : List Int) : List Int)).bind fun y145 => (if y145.length + l0.length < 35184372088832 then (some (y145 ++ l0)) else (none))) = some r := h
 clear h
 obtain ⟨y145, hy145⟩ : ∃ y_ : List Int, y_ = (([] : List Int)) := ⟨_, rfl⟩
 replace H : (if y145.length + l0.length < 35184372088832 then (some (y145 ++ l0)) else (none)) = some r := by first | (rw [hy145]; with_reducible exact H) | (have H2_ := (Option.bind_some _ _).symm.trans H; rw [hy145]; with_reducible exact H2_) | (have H2_ := (Option.bind_some _ _).symm.trans H; with_reducible exact H2_) | with_reducible exact H | (rw [hy145]; exact H) | exact H
 have Ny145 := Aside0.mk hy145
 clear hy145
 by_cases c2 : y145.length + l0.length < 35184372088832
 ·rw [if_pos c2] at H
  have LMc2 := Aside0.mk c2
  clear c2
  obtain ⟨y148, hy148⟩ : ∃ y_ : List Int, y_ = (y145 ++ l0) := ⟨_, rfl⟩
  replace H : (some y148) = some r := by first | (rw [hy148]; with_reducible exact H) | (have H2_ := (Option.bind_some _ _).symm.trans H; rw [hy148]; with_reducible exact H2_) | (have H2_ := (Option.bind_some _ _).symm.trans H; with_reducible exact H2_) | with_reducible exact H | (rw [hy148]; exact H) | exact H
  have Ny148 := Aside0.mk hy148
  clear hy148
  obtain rfl := Option.some.inj H
  rcases A0 with _ | ad0_
  ·have e0_ : l0 = [] := by
    cases l0 with
    | nil => rfl
    | cons x_ t_ =>
     obtain ⟨ad, e, _⟩ := HR0.out.2.2 (by simp)
     cases e
   have e1_ : y148 = [] := by rw [Ny148.out, Ny145.out, e0_]; rfl
   subst e0_
   go_enter Tryd.func112, Tryd.ntmps112
   have qT : ∀ (w : World) (a : Option Addr) (n c : Nat), (binOp .eql 80 (.slice a n c) (.slice none 0 0)).run Tryd.prog w = .ok (.bool a.isNone) w := fun w a n c => Go.run_eql_slice_nil w _ _ a n c Tryd.underlying80
   go_wp2
   go_ret
   exact ⟨.slice none 0 0, rfl, (by first | exact Kd.R_nil _ _ _ _ _ | (rw [e1_]; exact Kd.R_nil _ _ _ _ _)), HB.out⟩
  ·have qT : ∀ (w : World) (a : Option Addr) (n c : Nat), (binOp .eql 80 (.slice a n c) (.slice none 0 0)).run Tryd.prog w = .ok (.bool a.isNone) w := fun w a n c => Go.run_eql_slice_nil w _ _ a n c Tryd.underlying80
   go_enter Tryd.func112, Tryd.ntmps112
   go_wp2_with (first | ((with_reducible refine gate_dst (N := 5) rfl ?_); refine Kd.R_lit (Kd.int .u32) _ 90 ?hg (N := 5) ?hd (xs := ([] : List Int)) (inner := []) (ok := fun _ => True) (okp := fun _ => True) ?hr ?hp (fun _ hk => hk) trivial (Below.refl _ _) (Nat.le_refl _) (by simp) ?_; (case hd => rfl); (case hg => rfl); (case hr => go_simp); (case hp => exact (Reps.none _ _)); intro v146 w3 ho4 hb hg_ hnew_; clear hg_ hnew_; (first | rw [← Ny145.out] at ho4 | (simp only [Int.reduceToNat] at ho4; rw [← Ny145.out] at ho4)); have n0_ := Aside0.mk (Kd.R_lower ho4 (below_size HB.out)); have n1_ := Aside0.mk (below_step HB.out hb); clear HB; have HO147 := n0_; have HB := n1_; clear n0_ n1_; clear hb ho4) | ((with_reducible refine gate_builtin (b := .append) (xs := #[.tmp 5, .tmp 6]) rfl ?_); at_builtin; refine Kd.R_append_rows (Kd.int .u32) (w0 := w) w.heap.size rfl (.tmp 5) (.tmp 6) 80 90 (.int .u32 0) 4 rfl Tryd.underlying80 info90 rfl (by decide) (by omega) v146 y145 l0 _ _ _ (fun _ => True) (fun _ => False) rfl rfl ?aO ?aR (fun _ _ h => h) (fun _ h => h.elim) ?aF ?aB ?aS ?aL ?_; (case aR => repeat (first | exact (Kd.C_below HR0.out HB.out) | (with_reducible refine Kd.C_alloc ?_ _) | (with_reducible refine Kd.C_drewN ?_ _) | (with_reducible refine Kd.C_drew ?_))); (case aB => exact HB.out); (case aF => exact (fun _ _ => trivial)); (case aO => exact HO147.out); (case aS => exact (below_size HB.out)); (case aL => have := LMc2.out; omega); intro v149 w5 ho hb hg hat; rw [← Ny148.out] at ho; have n0_ := Aside0.mk (hb); have n1_ := Aside0.mk (ho); clear HB; clear HO147; have HB := n0_; have HO150 := n1_; clear n0_ n1_; clear ho hb hg hat))
   go_ret
   exact ⟨_, rfl, by (with_reducible repeat (first | apply Kd.R_alloc | apply Kd.R_drewN | apply Kd.R_drew)); exact HO150.out, HB.out⟩
 ·rw [if_neg c2] at H
  exact absurd H (by simp)
/-! ### rational_reduce: function 113 -/
def rational_reduce.l0 : Nat → List Int → List Int → Int → Int → Int → Int → Int → Option (Bool × List Int)
 | 0, _, _, _, _, _, _, _ => none
 | k + 1, x0, x1, x2, x7, x8, x13, x14 => if x14 < x13 then (if x14 < (x1.length : Int) then (if 0 ≤ x14 then (if x14 < (x0.length : Int) then (if (wrap64 ((wrap64 ((wrap64 (rd x0 x14)) - (wrap64 (Int.tmod (IntKind.u64.wrap (x7 + (IntKind.u64.wrap (x2 * (IntKind.u64.wrap (rd x1 x14)))))) 1000000000)))) - x8)) < 0 then (rational_reduce.l0 k (x0.set (x14 : Int).toNat ((wrap64 ((wrap64 ((wrap64 ((wrap64 (rd x0 x14)) - (wrap64 (Int.tmod (IntKind.u64.wrap (x7 + (IntKind.u64.wrap (x2 * (IntKind.u64.wrap (rd x1 x14)))))) 1000000000)))) - x8)) + 1000000000)) % 4294967296)) x1 x2 (IntKind.u64.wrap (Int.tdiv (IntKind.u64.wrap (x7 + (IntKind.u64.wrap (x2 * (IntKind.u64.wrap (rd x1 x14)))))) 1000000000)) 1 x13 (wrap64 (x14 + 1))) else (rational_reduce.l0 k (x0.set (x14 : Int).toNat ((wrap64 ((wrap64 ((wrap64 (rd x0 x14)) - (wrap64 (Int.tmod (IntKind.u64.wrap (x7 + (IntKind.u64.wrap (x2 * (IntKind.u64.wrap (rd x1 x14)))))) 1000000000)))) - x8)) % 4294967296)) x1 x2 (IntKind.u64.wrap (Int.tdiv (IntKind.u64.wrap (x7 + (IntKind.u64.wrap (x2 * (IntKind.u64.wrap (rd x1 x14)))))) 1000000000)) 0 x13 (wrap64 (x14 + 1)))) else (none)) else (none)) else (if 0 ≤ x14 then (if x14 < (x0.length : Int) then (if (wrap64 ((wrap64 ((wrap64 (rd x0 x14)) - (wrap64 (Int.tmod x7 1000000000)))) - x8)) < 0 then (rational_reduce.l0 k (x0.set (x14 : Int).toNat ((wrap64 ((wrap64 ((wrap64 ((wrap64 (rd x0 x14)) - (wrap64 (Int.tmod x7 1000000000)))) - x8)) + 1000000000)) % 4294967296)) x1 x2 (IntKind.u64.wrap (Int.tdiv x7 1000000000)) 1 x13 (wrap64 (x14 + 1))) else (rational_reduce.l0 k (x0.set (x14 : Int).toNat ((wrap64 ((wrap64 ((wrap64 (rd x0 x14)) - (wrap64 (Int.tmod x7 1000000000)))) - x8)) % 4294967296)) x1 x2 (IntKind.u64.wrap (Int.tdiv x7 1000000000)) 0 x13 (wrap64 (x14 + 1)))) else (none)) else (none))) else (some ((x8 == 0), x0))
def rational_reduce.f (k : Nat) (l0 : List Int) (l1 : List Int) (a2 : Int) : Option (Bool × List Int) := rational_reduce.l0 k l0 l1 a2 0 0 (l0.length : Int) 0
theorem rational_reduce.mono_l : ∀ k, (∀ y0 y1 y2 y3 y4 y5 y6, LeO (rational_reduce.l0 k y0 y1 y2 y3 y4 y5 y6) (rational_reduce.l0 (k + 1) y0 y1 y2 y3 y4 y5 y6))
 | 0 => fun _ _ _ _ _ _ _ r h => by simp [rational_reduce.l0] at h
 | k + 1 => by
  have ih0 := rational_reduce.mono_l k
  ·intro y0 y1 y2 y3 y4 y5 y6
   unfold rational_reduce.l0
   repeat' first
   | (with_reducible exact ih0 _ _ _ _ _ _ _)
   | (with_reducible exact LeO.refl _)
   | (with_reducible exact LeO.none _)
   | (with_reducible refine LeO.ite ?_ ?_)
   | (with_reducible refine LeO.bind ?_ (fun _ => ?_))
   | exact ih0 _ _ _ _ _ _ _
   | exact LeO.none _
   | refine LeO.ite ?_ ?_
   | refine LeO.bind ?_ (fun _ => ?_)
theorem rational_reduce.mono : ∀ a0 a1 a2 k, LeO (rational_reduce.f k a0 a1 a2) (rational_reduce.f (k + 1) a0 a1 a2) := by
 intro a0 a1 a2 k
 have ih0 := rational_reduce.mono_l k
 unfold rational_reduce.f
 repeat' first
   | (with_reducible exact ih0 _ _ _ _ _ _ _)
   | (with_reducible exact LeO.refl _)
   | (with_reducible exact LeO.none _)
   | (with_reducible refine LeO.ite ?_ ?_)
   | (with_reducible refine LeO.bind ?_ (fun _ => ?_))
   | exact ih0 _ _ _ _ _ _ _
   | exact LeO.none _
   | refine LeO.ite ?_ ?_
   | refine LeO.bind ?_ (fun _ => ?_)
set_option maxHeartbeats 8000000 in
set_option maxRecDepth 100000 in
theorem rational_reduce.calls (k : Nat) (P0_ : Nat → Prop) (GA_ : Kd.Pa) (u9000_ : Value) (l0 : List Int) (A1 : Option Addr) (c1 : Nat) (l1 : List Int) (a2 : Int) (r1 : Bool) (r2 : List Int) (w0 w : World) (hB : Below w0.heap.size w0 w) (ho0 : Kd.Sg GA_ 90 w w0.heap.size P0_ u9000_ l0) (hr1 : ∀ W_, Kept w W_ (fun k_ => P0_ k_) → Kd.C (Kd.int .u32) W_ A1 l1.length l1) (hc1 : l1.length ≤ c1) (h : rational_reduce.f k l0 l1 a2 = some (r1, r2)) :
  Calls Tryd.prog 113 #[u9000_, .slice A1 l1.length c1, .int .u64 a2] w fun e w' => e = .returned (.bool r1) ∧ Kd.Sg GA_ 90 w' w0.heap.size (fun k_ => (P0_ k_ ∨ w.heap.size ≤ k_)) u9000_ r2 ∧ Below w0.heap.size w0 w' ∧ Kept w w' (fun k_ => P0_ k_) := by
 have HO0 := Aside0.mk (show Kd.Sg GA_ 90 w w0.heap.size (fun k_ => (P0_ k_ ∨ w.heap.size ≤ k_)) u9000_ l0 from Kd.Sg_mono ho0 (fun k_ hk => (.inl hk)))
 have HR1 := Aside0.mk hr1
 have HC1 := Aside0.mk hc1
 clear hr1 hc1
 have HK := Aside0.mk (Kept.refl w (fun k_ => P0_ k_))
 have HW0 := Aside0.mk hB.size
 have HB := Aside0.mk hB
 clear hB
 have H : (rational_reduce.l0 k l0 l1 a2 0 0 (l0.length : Int) 0) = some (r1, r2) := h
 clear h
 have H' := Aside0.mk H
 clear H
 obtain ⟨Ao4, co4, eo4, _⟩ := Kd.Sg_slice HO0.out
 subst eo4
 go_enter Tryd.func113, Tryd.ntmps113
 go_wp2
 go_loopg [7, 8, 14] k (fun kq v7 v8 v14 w' => ∃ (x0_1 : List Int) (x7_1 : Int) (x8_1 : Int) (x14_1 : Int), v7 = .int .u64 x7_1 ∧ v8 = .int .i64 x8_1 ∧ v14 = .int .i64 x14_1 ∧ Aside0 (rational_reduce.l0 kq x0_1 l1 a2 x7_1 x8_1 (l0.length : Int) x14_1 = some (r1, r2)) ∧ Aside0 (kq ≤ k) ∧ Aside0 (Kd.Sg GA_ 90 w' w0.heap.size (fun k_ => (P0_ k_ ∨ w.heap.size ≤ k_)) (.slice Ao4 l0.length co4) x0_1) ∧ Aside0 (Kept w w' (fun k_ => P0_ k_)) ∧ Aside0 (Below w0.heap.size w0 w'))
 case atStart => exact ⟨(l0), (0), (0), (0), rfl, rfl, rfl, H', ⟨Nat.le_refl _⟩, ⟨by (with_reducible repeat (first | apply Kd.Sg_alloc | apply Kd.Sg_drewN | apply Kd.Sg_drew)); exact HO0.out⟩, ⟨HK.out⟩, ⟨HB.out⟩⟩
 case round =>
  clear H'
  try clear c1
  try clear p2
  obtain ⟨x0_1, x7_1, x8_1, x14_1, rfl, rfl, rfl, HA, HK1, HO_0, HK, HB⟩ := hrel
  have hl0_1 := (Kd.Sg_reads' HO_0.out).1
  rw [hl0_1] at HO_0
  (try simp only [hl0_1])
  cases gk with
  | zero => exact absurd HA.out (by simp [rational_reduce.l0])
  | succ k1 =>
   have H := HA.out
   clear HA
   simp only [rational_reduce.l0] at H
   by_cases c5 : x14_1 < (l0.length : Int)
   ·rw [if_pos c5] at H
    have c5b0 : decide (x14_1 < (l0.length : Int)) = true := decide_eq_true c5
    (try rw [hl0_1] at c5b0)
    clear c5
    by_cases c6 : x14_1 < (l1.length : Int)
    ·rw [if_pos c6] at H
     have c6b0 : decide (x14_1 < (l1.length : Int)) = true := decide_eq_true c6
     clear c6
     by_cases c7 : 0 ≤ x14_1
     ·rw [if_pos c7] at H
      have c7b0 : decide (0 ≤ x14_1) = true := decide_eq_true c7
      clear c7
      by_cases c8 : x14_1 < (x0_1.length : Int)
      ·rw [if_pos c8] at H
       have c8b0 : decide (x14_1 < (x0_1.length : Int)) = true := decide_eq_true c8
       clear c8
       by_cases c9 : (wrap64 ((wrap64 ((wrap64 (rd x0_1 x14_1)) - (wrap64 (Int.tmod (IntKind.u64.wrap (x7_1 + (IntKind.u64.wrap (a2 * (IntKind.u64.wrap (rd l1 x14_1)))))) 1000000000)))) - x8_1)) < 0
       ·rw [if_pos c9] at H
        have c9b0 : decide ((wrap64 ((wrap64 ((wrap64 (rd x0_1 x14_1)) - (wrap64 (Int.tmod (IntKind.u64.wrap (x7_1 + (IntKind.u64.wrap (a2 * (IntKind.u64.wrap (rd l1 x14_1)))))) 1000000000)))) - x8_1)) < 0) = true := decide_eq_true c9
        clear c9
        obtain ⟨y153, hy153⟩ : ∃ y_ : List Int, y_ = (x0_1.set (x14_1 : Int).toNat ((wrap64 ((wrap64 ((wrap64 ((wrap64 (rd x0_1 x14_1)) - (wrap64 (Int.tmod (IntKind.u64.wrap (x7_1 + (IntKind.u64.wrap (a2 * (IntKind.u64.wrap (rd l1 x14_1)))))) 1000000000)))) - x8_1)) + 1000000000)) % 4294967296)) := ⟨_, rfl⟩
        replace H : (rational_reduce.l0 k1 y153 l1 a2 (IntKind.u64.wrap (Int.tdiv (IntKind.u64.wrap (x7_1 + (IntKind.u64.wrap (a2 * (IntKind.u64.wrap (rd l1 x14_1)))))) 1000000000)) 1 (l0.length : Int) (wrap64 (x14_1 + 1))) = some (r1, r2) := by first | (rw [hy153]; with_reducible exact H) | (have H2_ := (Option.bind_some _ _).symm.trans H; rw [hy153]; with_reducible exact H2_) | (have H2_ := (Option.bind_some _ _).symm.trans H; with_reducible exact H2_) | with_reducible exact H | (rw [hy153]; exact H) | exact H
        have Ny153 := Aside0.mk hy153
        clear hy153
        have H' := Aside0.mk H
        clear H
        have p151 : 0 ≤ (x14_1 : Int) := of_decide_eq_true (by assumption)
        have q151 : x14_1 < (l1.length : Int) := of_decide_eq_true (by assumption)
        obtain ⟨ad151, e151, hx151_0⟩ := Kd.at_int (Kd.C_kept_now HR1.out HK.out) x14_1 p151 q151
        cases e151
        replace p151 := eq_true p151
        replace q151 := eq_true q151
        have p152 : 0 ≤ (x14_1 : Int) := of_decide_eq_true (by assumption)
        have q152 : x14_1 < (x0_1.length : Int) := of_decide_eq_true (by assumption)
        obtain ⟨ad152, e152, hx152_0⟩ := Kd.at_int (Kd.Sg_reads' HO_0.out).2.2 x14_1 p152 q152
        cases e152
        replace p152 := eq_true p152
        replace q152 := eq_true q152
        have p10 : 0 ≤ (x14_1 : Int) := of_decide_eq_true (by assumption)
        have q10 : (x14_1 : Int) < ((x0_1.length : Int) : Int) := of_decide_eq_true (by assumption)
        obtain ⟨go10, oo10, co10, eo10, gb10, gl10, cl10, HG10⟩ := Kd.Sg_form HO_0.out (by omega)
        (first | cases eo10 | (injection eo10 with ea_ en_ ec_; (first | subst ea_ | (injection ea_ with ea_; subst ea_)); subst ec_; clear en_))
        have GB10 := Aside0.mk gb10
        have GG10 := Aside0.mk HG10
        clear gb10 gl10 HG10
        have HMgo10 := Aside0.mk (show (P0_ go10 ∨ w.heap.size ≤ go10) from (HO_0.out.1 _ rfl))
        (first | simp only [add_at] at hx152_0 | skip)
        obtain ⟨hx10_0, hf10_0⟩ := Kd.Sg_cell 0 HO_0.out (x14_1 : Int) p10 q10
        replace p10 := eq_true p10
        replace q10 := eq_true q10
        have HP11 := Kd.Sg_putg HO_0.out (x14_1 : Int) (of_decide_eq_true (by assumption)) (by have h_ : (x14_1 : Int) < ((x0_1.length : Int) : Int) := of_decide_eq_true (by assumption); first | exact h_ | (have e_ := (Kd.Sg_reads' HO_0.out).1; omega) | simpa using h_) ((wrap64 ((wrap64 ((wrap64 ((wrap64 (rd x0_1 x14_1)) - (wrap64 (Int.tmod (IntKind.u64.wrap (x7_1 + (IntKind.u64.wrap (a2 * (IntKind.u64.wrap (rd l1 x14_1)))))) 1000000000)))) - x8_1)) + 1000000000)) % 4294967296)
        go_wp2_with (first | ((with_reducible refine gate_store (t := 90) (p := 52) rfl ?_); refine store_event (t := 90) (p := 52) (v := ?vo_w12) (w1 := (wr.setCell ⟨go10, oo10 + (x14_1 : Int).toNat, none⟩ (.int .u32 ((wrap64 ((wrap64 ((wrap64 ((wrap64 (rd x0_1 x14_1)) - (wrap64 (Int.tmod (IntKind.u64.wrap (x7_1 + (IntKind.u64.wrap (a2 * (IntKind.u64.wrap (rd l1 x14_1)))))) 1000000000)))) - x8_1)) + 1000000000)) % 4294967296)))) ?hg ?ho ?hn ?hr ?_; (case ho => rfl); (case hg => rfl); (case hn => rfl); (case hr => go_simp); intro w12 hw; have hg : wr.grownBy w12 (some go10) := (by rw [hw]; exact HP11.2); have hp_ : Kd.Sg GA_ 90 w12 w0.heap.size (fun k_ => (P0_ k_ ∨ w.heap.size ≤ k_)) (.slice (some ⟨go10, oo10, none⟩) x0_1.length co4) y153 := (by rw [hw, Ny153.out]; exact HP11.1); clear HP11; have n0_ := Aside0.mk (hp_); have n1_ := Aside0.mk ((by rw [hw]; exact below_set (HB.out) GB10.out : Below w0.heap.size w0 w12)); have n2_ := Aside0.mk (Kept.of_grown (S := (fun k_ => P0_ k_)) hg HK.out (fun k_ e_ => (HO_0.out.1 k_ e_))); clear HO_0; clear HB; clear HK; have HO_0 := n0_; have HB := n1_; have HK := n2_; clear n0_ n1_ n2_; clear hg hw hp_))
        (try simp only [← hl0_1])
        go_roundg k1
        case measure => have := HK1.out; omega
        case rel => exact ⟨(y153), (IntKind.u64.wrap (Int.tdiv (IntKind.u64.wrap (x7_1 + (IntKind.u64.wrap (a2 * (IntKind.u64.wrap (rd l1 x14_1)))))) 1000000000)), (1), (wrap64 (x14_1 + 1)), rfl, rfl, rfl, H', ⟨by have := HK1.out; omega⟩, ⟨by (try simp only [hl0_1]); (with_reducible repeat (first | apply Kd.Sg_alloc | apply Kd.Sg_drewN | apply Kd.Sg_drew)); exact HO_0.out⟩, ⟨HK.out⟩, ⟨HB.out⟩⟩
       ·rw [if_neg c9] at H
        have c9b0 : decide ((wrap64 ((wrap64 ((wrap64 (rd x0_1 x14_1)) - (wrap64 (Int.tmod (IntKind.u64.wrap (x7_1 + (IntKind.u64.wrap (a2 * (IntKind.u64.wrap (rd l1 x14_1)))))) 1000000000)))) - x8_1)) < 0) = false := decide_eq_false c9
        clear c9
        obtain ⟨y154, hy154⟩ : ∃ y_ : List Int, y_ = (x0_1.set (x14_1 : Int).toNat ((wrap64 ((wrap64 ((wrap64 (rd x0_1 x14_1)) - (wrap64 (Int.tmod (IntKind.u64.wrap (x7_1 + (IntKind.u64.wrap (a2 * (IntKind.u64.wrap (rd l1 x14_1)))))) 1000000000)))) - x8_1)) % 4294967296)) := ⟨_, rfl⟩
        replace H : (rational_reduce.l0 k1 y154 l1 a2 (IntKind.u64.wrap (Int.tdiv (IntKind.u64.wrap (x7_1 + (IntKind.u64.wrap (a2 * (IntKind.u64.wrap (rd l1 x14_1)))))) 1000000000)) 0 (l0.length : Int) (wrap64 (x14_1 + 1))) = some (r1, r2) := by first | (rw [hy154]; with_reducible exact H) | (have H2_ := (Option.bind_some _ _).symm.trans H; rw [hy154]; with_reducible exact H2_) | (have H2_ := (Option.bind_some _ _).symm.trans H; with_reducible exact H2_) | with_reducible exact H | (rw [hy154]; exact H) | exact H
        have Ny154 := Aside0.mk hy154
        clear hy154
        have H' := Aside0.mk H
        clear H
        have p151 : 0 ≤ (x14_1 : Int) := of_decide_eq_true (by assumption)
        have q151 : x14_1 < (l1.length : Int) := of_decide_eq_true (by assumption)
        obtain ⟨ad151, e151, hx151_0⟩ := Kd.at_int (Kd.C_kept_now HR1.out HK.out) x14_1 p151 q151
        cases e151
        replace p151 := eq_true p151
        replace q151 := eq_true q151
        have p152 : 0 ≤ (x14_1 : Int) := of_decide_eq_true (by assumption)
        have q152 : x14_1 < (x0_1.length : Int) := of_decide_eq_true (by assumption)
        obtain ⟨ad152, e152, hx152_0⟩ := Kd.at_int (Kd.Sg_reads' HO_0.out).2.2 x14_1 p152 q152
        cases e152
        replace p152 := eq_true p152
        replace q152 := eq_true q152
        have p13 : 0 ≤ (x14_1 : Int) := of_decide_eq_true (by assumption)
        have q13 : (x14_1 : Int) < ((x0_1.length : Int) : Int) := of_decide_eq_true (by assumption)
        obtain ⟨go13, oo13, co13, eo13, gb13, gl13, cl13, HG13⟩ := Kd.Sg_form HO_0.out (by omega)
        (first | cases eo13 | (injection eo13 with ea_ en_ ec_; (first | subst ea_ | (injection ea_ with ea_; subst ea_)); subst ec_; clear en_))
        have GB13 := Aside0.mk gb13
        have GG13 := Aside0.mk HG13
        clear gb13 gl13 HG13
        have HMgo13 := Aside0.mk (show (P0_ go13 ∨ w.heap.size ≤ go13) from (HO_0.out.1 _ rfl))
        (first | simp only [add_at] at hx152_0 | skip)
        obtain ⟨hx13_0, hf13_0⟩ := Kd.Sg_cell 0 HO_0.out (x14_1 : Int) p13 q13
        replace p13 := eq_true p13
        replace q13 := eq_true q13
        have HP14 := Kd.Sg_putg HO_0.out (x14_1 : Int) (of_decide_eq_true (by assumption)) (by have h_ : (x14_1 : Int) < ((x0_1.length : Int) : Int) := of_decide_eq_true (by assumption); first | exact h_ | (have e_ := (Kd.Sg_reads' HO_0.out).1; omega) | simpa using h_) ((wrap64 ((wrap64 ((wrap64 (rd x0_1 x14_1)) - (wrap64 (Int.tmod (IntKind.u64.wrap (x7_1 + (IntKind.u64.wrap (a2 * (IntKind.u64.wrap (rd l1 x14_1)))))) 1000000000)))) - x8_1)) % 4294967296)
        go_wp2_with (first | ((with_reducible refine gate_store (t := 90) (p := 52) rfl ?_); refine store_event (t := 90) (p := 52) (v := ?vo_w15) (w1 := (wr.setCell ⟨go13, oo13 + (x14_1 : Int).toNat, none⟩ (.int .u32 ((wrap64 ((wrap64 ((wrap64 (rd x0_1 x14_1)) - (wrap64 (Int.tmod (IntKind.u64.wrap (x7_1 + (IntKind.u64.wrap (a2 * (IntKind.u64.wrap (rd l1 x14_1)))))) 1000000000)))) - x8_1)) % 4294967296)))) ?hg ?ho ?hn ?hr ?_; (case ho => rfl); (case hg => rfl); (case hn => rfl); (case hr => go_simp); intro w15 hw; have hg : wr.grownBy w15 (some go13) := (by rw [hw]; exact HP14.2); have hp_ : Kd.Sg GA_ 90 w15 w0.heap.size (fun k_ => (P0_ k_ ∨ w.heap.size ≤ k_)) (.slice (some ⟨go13, oo13, none⟩) x0_1.length co4) y154 := (by rw [hw, Ny154.out]; exact HP14.1); clear HP14; have n0_ := Aside0.mk (hp_); have n1_ := Aside0.mk ((by rw [hw]; exact below_set (HB.out) GB13.out : Below w0.heap.size w0 w15)); have n2_ := Aside0.mk (Kept.of_grown (S := (fun k_ => P0_ k_)) hg HK.out (fun k_ e_ => (HO_0.out.1 k_ e_))); clear HO_0; clear HB; clear HK; have HO_0 := n0_; have HB := n1_; have HK := n2_; clear n0_ n1_ n2_; clear hg hw hp_))
        (try simp only [← hl0_1])
        go_roundg k1
        case measure => have := HK1.out; omega
        case rel => exact ⟨(y154), (IntKind.u64.wrap (Int.tdiv (IntKind.u64.wrap (x7_1 + (IntKind.u64.wrap (a2 * (IntKind.u64.wrap (rd l1 x14_1)))))) 1000000000)), (0), (wrap64 (x14_1 + 1)), rfl, rfl, rfl, H', ⟨by have := HK1.out; omega⟩, ⟨by (try simp only [hl0_1]); (with_reducible repeat (first | apply Kd.Sg_alloc | apply Kd.Sg_drewN | apply Kd.Sg_drew)); exact HO_0.out⟩, ⟨HK.out⟩, ⟨HB.out⟩⟩
      ·rw [if_neg c8] at H
       exact absurd H (by simp)
     ·rw [if_neg c7] at H
      exact absurd H (by simp)
    ·rw [if_neg c6] at H
     have c6b0 : decide (x14_1 < (l1.length : Int)) = false := decide_eq_false c6
     clear c6
     by_cases c16 : 0 ≤ x14_1
     ·rw [if_pos c16] at H
      have c16b0 : decide (0 ≤ x14_1) = true := decide_eq_true c16
      clear c16
      by_cases c17 : x14_1 < (x0_1.length : Int)
      ·rw [if_pos c17] at H
       have c17b0 : decide (x14_1 < (x0_1.length : Int)) = true := decide_eq_true c17
       clear c17
       by_cases c18 : (wrap64 ((wrap64 ((wrap64 (rd x0_1 x14_1)) - (wrap64 (Int.tmod x7_1 1000000000)))) - x8_1)) < 0
       ·rw [if_pos c18] at H
        have c18b0 : decide ((wrap64 ((wrap64 ((wrap64 (rd x0_1 x14_1)) - (wrap64 (Int.tmod x7_1 1000000000)))) - x8_1)) < 0) = true := decide_eq_true c18
        clear c18
        obtain ⟨y156, hy156⟩ : ∃ y_ : List Int, y_ = (x0_1.set (x14_1 : Int).toNat ((wrap64 ((wrap64 ((wrap64 ((wrap64 (rd x0_1 x14_1)) - (wrap64 (Int.tmod x7_1 1000000000)))) - x8_1)) + 1000000000)) % 4294967296)) := ⟨_, rfl⟩
        replace H : (rational_reduce.l0 k1 y156 l1 a2 (IntKind.u64.wrap (Int.tdiv x7_1 1000000000)) 1 (l0.length : Int) (wrap64 (x14_1 + 1))) = some (r1, r2) := by first | (rw [hy156]; with_reducible exact H) | (have H2_ := (Option.bind_some _ _).symm.trans H; rw [hy156]; with_reducible exact H2_) | (have H2_ := (Option.bind_some _ _).symm.trans H; with_reducible exact H2_) | with_reducible exact H | (rw [hy156]; exact H) | exact H
        have Ny156 := Aside0.mk hy156
        clear hy156
        have H' := Aside0.mk H
        clear H
        have p155 : 0 ≤ (x14_1 : Int) := of_decide_eq_true (by assumption)
        have q155 : x14_1 < (x0_1.length : Int) := of_decide_eq_true (by assumption)
        obtain ⟨ad155, e155, hx155_0⟩ := Kd.at_int (Kd.Sg_reads' HO_0.out).2.2 x14_1 p155 q155
        cases e155
        replace p155 := eq_true p155
        replace q155 := eq_true q155
        have p19 : 0 ≤ (x14_1 : Int) := of_decide_eq_true (by assumption)
        have q19 : (x14_1 : Int) < ((x0_1.length : Int) : Int) := of_decide_eq_true (by assumption)
        obtain ⟨go19, oo19, co19, eo19, gb19, gl19, cl19, HG19⟩ := Kd.Sg_form HO_0.out (by omega)
        (first | cases eo19 | (injection eo19 with ea_ en_ ec_; (first | subst ea_ | (injection ea_ with ea_; subst ea_)); subst ec_; clear en_))
        have GB19 := Aside0.mk gb19
        have GG19 := Aside0.mk HG19
        clear gb19 gl19 HG19
        have HMgo19 := Aside0.mk (show (P0_ go19 ∨ w.heap.size ≤ go19) from (HO_0.out.1 _ rfl))
        (first | simp only [add_at] at hx155_0 | skip)
        obtain ⟨hx19_0, hf19_0⟩ := Kd.Sg_cell 0 HO_0.out (x14_1 : Int) p19 q19
        replace p19 := eq_true p19
        replace q19 := eq_true q19
        have HP20 := Kd.Sg_putg HO_0.out (x14_1 : Int) (of_decide_eq_true (by assumption)) (by have h_ : (x14_1 : Int) < ((x0_1.length : Int) : Int) := of_decide_eq_true (by assumption); first | exact h_ | (have e_ := (Kd.Sg_reads' HO_0.out).1; omega) | simpa using h_) ((wrap64 ((wrap64 ((wrap64 ((wrap64 (rd x0_1 x14_1)) - (wrap64 (Int.tmod x7_1 1000000000)))) - x8_1)) + 1000000000)) % 4294967296)
        go_wp2_with (first | ((with_reducible refine gate_store (t := 90) (p := 52) rfl ?_); refine store_event (t := 90) (p := 52) (v := ?vo_w21) (w1 := (wr.setCell ⟨go19, oo19 + (x14_1 : Int).toNat, none⟩ (.int .u32 ((wrap64 ((wrap64 ((wrap64 ((wrap64 (rd x0_1 x14_1)) - (wrap64 (Int.tmod x7_1 1000000000)))) - x8_1)) + 1000000000)) % 4294967296)))) ?hg ?ho ?hn ?hr ?_; (case ho => rfl); (case hg => rfl); (case hn => rfl); (case hr => go_simp); intro w21 hw; have hg : wr.grownBy w21 (some go19) := (by rw [hw]; exact HP20.2); have hp_ : Kd.Sg GA_ 90 w21 w0.heap.size (fun k_ => (P0_ k_ ∨ w.heap.size ≤ k_)) (.slice (some ⟨go19, oo19, none⟩) x0_1.length co4) y156 := (by rw [hw, Ny156.out]; exact HP20.1); clear HP20; have n0_ := Aside0.mk (hp_); have n1_ := Aside0.mk ((by rw [hw]; exact below_set (HB.out) GB19.out : Below w0.heap.size w0 w21)); have n2_ := Aside0.mk (Kept.of_grown (S := (fun k_ => P0_ k_)) hg HK.out (fun k_ e_ => (HO_0.out.1 k_ e_))); clear HO_0; clear HB; clear HK; have HO_0 := n0_; have HB := n1_; have HK := n2_; clear n0_ n1_ n2_; clear hg hw hp_))
        (try simp only [← hl0_1])
        go_roundg k1
        case measure => have := HK1.out; omega
        case rel => exact ⟨(y156), (IntKind.u64.wrap (Int.tdiv x7_1 1000000000)), (1), (wrap64 (x14_1 + 1)), rfl, rfl, rfl, H', ⟨by have := HK1.out; omega⟩, ⟨by (try simp only [hl0_1]); (with_reducible repeat (first | apply Kd.Sg_alloc | apply Kd.Sg_drewN | apply Kd.Sg_drew)); exact HO_0.out⟩, ⟨HK.out⟩, ⟨HB.out⟩⟩
       ·rw [if_neg c18] at H
        have c18b0 : decide ((wrap64 ((wrap64 ((wrap64 (rd x0_1 x14_1)) - (wrap64 (Int.tmod x7_1 1000000000)))) - x8_1)) < 0) = false := decide_eq_false c18
        clear c18
        obtain ⟨y157, hy157⟩ : ∃ y_ : List Int, y_ = (x0_1.set (x14_1 : Int).toNat ((wrap64 ((wrap64 ((wrap64 (rd x0_1 x14_1)) - (wrap64 (Int.tmod x7_1 1000000000)))) - x8_1)) % 4294967296)) := ⟨_, rfl⟩
        replace H : (rational_reduce.l0 k1 y157 l1 a2 (IntKind.u64.wrap (Int.tdiv x7_1 1000000000)) 0 (l0.length : Int) (wrap64 (x14_1 + 1))) = some (r1, r2) := by first | (rw [hy157]; with_reducible exact H) | (have H2_ := (Option.bind_some _ _).symm.trans H; rw [hy157]; with_reducible exact H2_) | (have H2_ := (Option.bind_some _ _).symm.trans H; with_reducible exact H2_) | with_reducible exact H | (rw [hy157]; exact H) | exact H
        have Ny157 := Aside0.mk hy157
        clear hy157
        have H' := Aside0.mk H
        clear H
        have p155 : 0 ≤ (x14_1 : Int) := of_decide_eq_true (by assumption)
        have q155 : x14_1 < (x0_1.length : Int) := of_decide_eq_true (by assumption)
        obtain ⟨ad155, e155, hx155_0⟩ := Kd.at_int (Kd.Sg_reads' HO_0.out).2.2 x14_1 p155 q155
        cases e155
        replace p155 := eq_true p155
        replace q155 := eq_true q155
        have p22 : 0 ≤ (x14_1 : Int) := of_decide_eq_true (by assumption)
        have q22 : (x14_1 : Int) < ((x0_1.length : Int) : Int) := of_decide_eq_true (by assumption)
        obtain ⟨go22, oo22, co22, eo22, gb22, gl22, cl22, HG22⟩ := Kd.Sg_form HO_0.out (by omega)
        (first | cases eo22 | (injection eo22 with ea_ en_ ec_; (first | subst ea_ | (injection ea_ with ea_; subst ea_)); subst ec_; clear en_))
        have GB22 := Aside0.mk gb22
        have GG22 := Aside0.mk HG22
        clear gb22 gl22 HG22
        have HMgo22 := Aside0.mk (show (P0_ go22 ∨ w.heap.size ≤ go22) from (HO_0.out.1 _ rfl))
        (first | simp only [add_at] at hx155_0 | skip)
        obtain ⟨hx22_0, hf22_0⟩ := Kd.Sg_cell 0 HO_0.out (x14_1 : Int) p22 q22
        replace p22 := eq_true p22
        replace q22 := eq_true q22
        have HP23 := Kd.Sg_putg HO_0.out (x14_1 : Int) (of_decide_eq_true (by assumption)) (by have h_ : (x14_1 : Int) < ((x0_1.length : Int) : Int) := of_decide_eq_true (by assumption); first | exact h_ | (have e_ := (Kd.Sg_reads' HO_0.out).1; omega) | simpa using h_) ((wrap64 ((wrap64 ((wrap64 (rd x0_1 x14_1)) - (wrap64 (Int.tmod x7_1 1000000000)))) - x8_1)) % 4294967296)
        go_wp2_with (first | ((with_reducible refine gate_store (t := 90) (p := 52) rfl ?_); refine store_event (t := 90) (p := 52) (v := ?vo_w24) (w1 := (wr.setCell ⟨go22, oo22 + (x14_1 : Int).toNat, none⟩ (.int .u32 ((wrap64 ((wrap64 ((wrap64 (rd x0_1 x14_1)) - (wrap64 (Int.tmod x7_1 1000000000)))) - x8_1)) % 4294967296)))) ?hg ?ho ?hn ?hr ?_; (case ho => rfl); (case hg => rfl); (case hn => rfl); (case hr => go_simp); intro w24 hw; have hg : wr.grownBy w24 (some go22) := (by rw [hw]; exact HP23.2); have hp_ : Kd.Sg GA_ 90 w24 w0.heap.size (fun k_ => (P0_ k_ ∨ w.heap.size ≤ k_)) (.slice (some ⟨go22, oo22, none⟩) x0_1.length co4) y157 := (by rw [hw, Ny157.out]; exact HP23.1); clear HP23; have n0_ := Aside0.mk (hp_); have n1_ := Aside0.mk ((by rw [hw]; exact below_set (HB.out) GB22.out : Below w0.heap.size w0 w24)); have n2_ := Aside0.mk (Kept.of_grown (S := (fun k_ => P0_ k_)) hg HK.out (fun k_ e_ => (HO_0.out.1 k_ e_))); clear HO_0; clear HB; clear HK; have HO_0 := n0_; have HB := n1_; have HK := n2_; clear n0_ n1_ n2_; clear hg hw hp_))
        (try simp only [← hl0_1])
        go_roundg k1
        case measure => have := HK1.out; omega
        case rel => exact ⟨(y157), (IntKind.u64.wrap (Int.tdiv x7_1 1000000000)), (0), (wrap64 (x14_1 + 1)), rfl, rfl, rfl, H', ⟨by have := HK1.out; omega⟩, ⟨by (try simp only [hl0_1]); (with_reducible repeat (first | apply Kd.Sg_alloc | apply Kd.Sg_drewN | apply Kd.Sg_drew)); exact HO_0.out⟩, ⟨HK.out⟩, ⟨HB.out⟩⟩
      ·rw [if_neg c17] at H
       exact absurd H (by simp)
     ·rw [if_neg c16] at H
      exact absurd H (by simp)
   ·rw [if_neg c5] at H
    have c5b0 : decide (x14_1 < (l0.length : Int)) = false := decide_eq_false c5
    (try rw [hl0_1] at c5b0)
    clear c5
    simp only [Option.some.injEq, Prod.mk.injEq] at H
    obtain ⟨rfl, rfl⟩ := H
    go_wp2
    go_ret
    exact ⟨rfl, (by first | exact (by (with_reducible repeat (first | apply Kd.Sg_alloc | apply Kd.Sg_drewN | apply Kd.Sg_drew)); exact HO_0.out) | (simp only [hl0_1]; exact (by (with_reducible repeat (first | apply Kd.Sg_alloc | apply Kd.Sg_drewN | apply Kd.Sg_drew)); exact HO_0.out))), HB.out, HK.out⟩
/-- rational_reduce, of the part lo.. hi of a row. -/
def rational_reduceSub.f (k : Nat) (l0 : List Int) (lo hi : Int) (l3 : List Int) (a4 : Int) : Option (Bool × List Int) :=
 if 0 ≤ lo ∧ lo < hi ∧ hi ≤ (l0.length : Int) then (rational_reduce.f k ((l0.take hi.toNat).drop lo.toNat) l3 a4).bind fun r_ => some (r_.1, l0.take lo.toNat ++ (r_.2 ++ l0.drop hi.toNat)) else none
theorem rational_reduceSub.mono : ∀ l0 lo hi l3 a4 k, LeO (rational_reduceSub.f k l0 lo hi l3 a4) (rational_reduceSub.f (k + 1) l0 lo hi l3 a4) := by
 intro l0 lo hi l3 a4 k
 unfold rational_reduceSub.f
 exact LeO.ite (LeO.bind (rational_reduce.mono _ _ _ _) (fun _ => LeO.refl _)) (LeO.refl _)
theorem rational_reduceSub.calls (k : Nat) (P0_ : Nat → Prop) (u9000_ : Value) (l0 : List Int) (lo hi : Int) (A1 : Option Addr) (c1 : Nat) (l3 : List Int) (a4 : Int) (r1 : Bool) (r2 : List Int) (w0 w : World) (hB : Below w0.heap.size w0 w) (ho0 : Kd.R (Kd.int .u32) 90 w w0.heap.size P0_ u9000_ l0) (hr1 : ∀ W_, Kept w W_ (fun k_ => P0_ k_) → Kd.C (Kd.int .u32) W_ A1 l3.length l3) (hc1 : l3.length ≤ c1) (h : rational_reduceSub.f k l0 lo hi l3 a4 = some (r1, r2))
  (U : Option Addr) {nU : Nat} (cap : Nat) (hu : u9000_ = .slice U nU cap) (sA : Option Addr) (sn sc : Nat) (hA : sA = (if cap = lo.toNat then U else U.map (·.add (lo.toNat * 1)))) (hn : sn = hi.toNat - lo.toNat) (hc : sn ≤ sc) :
  Calls Tryd.prog 113 #[.slice sA sn sc, .slice A1 l3.length c1, .int .u64 a4] w fun e w' => e = .returned (.bool r1) ∧ Kd.R (Kd.int .u32) 90 w' w0.heap.size (fun k_ => (P0_ k_ ∨ w.heap.size ≤ k_)) u9000_ r2 ∧ Below w0.heap.size w0 w' ∧ Kept w w' (fun k_ => P0_ k_) := by
 unfold rational_reduceSub.f at h
 split at h
 case isFalse => simp at h
 case isTrue hb =>
 obtain ⟨h0, h1, h2⟩ := hb
 obtain ⟨s, hs, he⟩ := Option.bind_eq_some_iff.1 h
 obtain ⟨lo, rfl⟩ := Int.eq_ofNat_of_zero_le h0
 obtain ⟨hi, rfl⟩ := Int.eq_ofNat_of_zero_le (Int.le_trans h0 (Int.le_of_lt h1))
 simp only [Int.toNat_natCast] at hs he hA hn
 obtain ⟨g, cap', hg, hbg, hlt, _⟩ := Kd.R_form ho0 (by omega)
 rw [hu] at hg
 injection hg with hU hnU hcap
 subst hnU
 subst hcap
 subst hU
 have hcl : l0.length ≤ cap := by
  have := ho0
  rw [hu] at this
  exact (Kd.R_reads' this).2.1
 rw [if_neg (by omega)] at hA
 have hA2 : sA = some ⟨g, lo, none⟩ := by
  rw [hA]
  simp only [Option.map_some, Nat.mul_one]
  congr 1
  cases lo <;> simp [Addr.add]
 have hl : (l0.take lo).length = lo := by rw [List.length_take]; omega
 have hm : ((l0.take hi).drop lo).length = hi - lo := by rw [List.length_drop, List.length_take]; omega
 have hall : l0.take lo ++ ((l0.take hi).drop lo ++ l0.drop hi) = l0 := by
  rw [← List.append_assoc]
  conv => lhs; lhs; lhs; rw [show l0.take lo = (l0.take hi).take lo by rw [List.take_take, Nat.min_eq_left (by omega)]]
  rw [List.take_append_drop, List.take_append_drop]
 refine (rational_reduce.calls k P0_ ⟨g, l0.length, cap, l0.take lo, l0.drop hi⟩ (.slice sA sn sc) ((l0.take hi).drop lo) A1 c1 l3 a4 _ s.2 w0 w hB ⟨?_, ?_, ⟨sc, ?_, ?_⟩, ?_⟩ hr1 hc1 hs).mono ?_
 ·intro k_ hk
  rw [hA2] at hk
  have : g = k_ := by simpa [Value.ownBlock] using hk
  subst this
  exact ho0.1 _ (by rw [hu]; simp [Value.ownBlock])
 ·omega
 ·rw [hA2, hl, hn, hm]
 ·omega
 ·rw [hall, ← hu]; exact ho0
 ·rintro e w' ⟨h3, h4, h5, h6⟩
  injection he with he
  obtain ⟨rfl, rfl⟩ := Prod.mk.inj he
  refine ⟨h3, ?_, h5, h6⟩
  rw [hu]
  exact h4.2.2.2
/-! ### rational_restore: function 114 -/
def rational_restore.l0 : Nat → List Int → List Int → Int → Int → Int → Option (List Int)
 | 0, _, _, _, _, _ => none
 | k + 1, x0, x1, x4, x8, x9 => if x9 < x8 then (if 0 ≤ x9 then (if x9 < (x0.length : Int) then (if x9 < (x1.length : Int) then (rational_restore.l0 k (x0.set (x9 : Int).toNat ((((((rd x0 x9) + x4) % 4294967296) + (rd x1 x9)) % 4294967296) % 1000000000)) x1 ((((((rd x0 x9) + x4) % 4294967296) + (rd x1 x9)) % 4294967296) / 1000000000) x8 (wrap64 (x9 + 1))) else (rational_restore.l0 k (x0.set (x9 : Int).toNat ((((rd x0 x9) + x4) % 4294967296) % 1000000000)) x1 ((((rd x0 x9) + x4) % 4294967296) / 1000000000) x8 (wrap64 (x9 + 1)))) else (none)) else (none)) else (some x0)
def rational_restore.f (k : Nat) (l0 : List Int) (l1 : List Int) : Option (List Int) := rational_restore.l0 k l0 l1 0 (l0.length : Int) 0
theorem rational_restore.mono_l : ∀ k, (∀ y0 y1 y2 y3 y4, LeO (rational_restore.l0 k y0 y1 y2 y3 y4) (rational_restore.l0 (k + 1) y0 y1 y2 y3 y4))
 | 0 => fun _ _ _ _ _ r h => by simp [rational_restore.l0] at h
 | k + 1 => by
  have ih0 := rational_restore.mono_l k
  ·intro y0 y1 y2 y3 y4
   unfold rational_restore.l0
   repeat' first
   | (with_reducible exact ih0 _ _ _ _ _)
   | (with_reducible exact LeO.refl _)
   | (with_reducible exact LeO.none _)
   | (with_reducible refine LeO.ite ?_ ?_)
   | (with_reducible refine LeO.bind ?_ (fun _ => ?_))
   | exact ih0 _ _ _ _ _
   | exact LeO.none _
   | refine LeO.ite ?_ ?_
   | refine LeO.bind ?_ (fun _ => ?_)
theorem rational_restore.mono : ∀ a0 a1 k, LeO (rational_restore.f k a0 a1) (rational_restore.f (k + 1) a0 a1) := by
 intro a0 a1 k
 have ih0 := rational_restore.mono_l k
 unfold rational_restore.f
 repeat' first
   | (with_reducible exact ih0 _ _ _ _ _)
   | (with_reducible exact LeO.refl _)
   | (with_reducible exact LeO.none _)
   | (with_reducible refine LeO.ite ?_ ?_)
   | (with_reducible refine LeO.bind ?_ (fun _ => ?_))
   | exact ih0 _ _ _ _ _
   | exact LeO.none _
   | refine LeO.ite ?_ ?_
   | refine LeO.bind ?_ (fun _ => ?_)
set_option maxHeartbeats 8000000 in
set_option maxRecDepth 100000 in
theorem rational_restore.calls (k : Nat) (P0_ : Nat → Prop) (GA_ : Kd.Pa) (u9000_ : Value) (l0 : List Int) (A1 : Option Addr) (c1 : Nat) (l1 : List Int) (r : List Int) (w0 w : World) (hB : Below w0.heap.size w0 w) (ho0 : Kd.Sg GA_ 90 w w0.heap.size P0_ u9000_ l0) (hr1 : ∀ W_, Kept w W_ (fun k_ => P0_ k_) → Kd.C (Kd.int .u32) W_ A1 l1.length l1) (hc1 : l1.length ≤ c1) (h : rational_restore.f k l0 l1 = some r) :
  Calls Tryd.prog 114 #[u9000_, .slice A1 l1.length c1] w fun e w' => e = .returned (.tuple #[]) ∧ Kd.Sg GA_ 90 w' w0.heap.size (fun k_ => (P0_ k_ ∨ w.heap.size ≤ k_)) u9000_ r ∧ Below w0.heap.size w0 w' ∧ Kept w w' (fun k_ => P0_ k_) := by
 have HO0 := Aside0.mk (show Kd.Sg GA_ 90 w w0.heap.size (fun k_ => (P0_ k_ ∨ w.heap.size ≤ k_)) u9000_ l0 from Kd.Sg_mono ho0 (fun k_ hk => (.inl hk)))
 have HR1 := Aside0.mk hr1
 have HC1 := Aside0.mk hc1
 clear hr1 hc1
 have HK := Aside0.mk (Kept.refl w (fun k_ => P0_ k_))
 have HW0 := Aside0.mk hB.size
 have HB := Aside0.mk hB
 clear hB
 have H : (rational_restore.l0 k l0 l1 0 (l0.length : Int) 0) = some r := h
 clear h
 have H' := Aside0.mk H
 clear H
 obtain ⟨Ao3, co3, eo3, _⟩ := Kd.Sg_slice HO0.out
 subst eo3
 go_enter Tryd.func114, Tryd.ntmps114
 go_wp2
 go_loopg [4, 9] k (fun kq v4 v9 w' => ∃ (x0_1 : List Int) (x4_1 : Int) (x9_1 : Int), v4 = .int .u32 x4_1 ∧ v9 = .int .i64 x9_1 ∧ Aside0 (rational_restore.l0 kq x0_1 l1 x4_1 (l0.length : Int) x9_1 = some r) ∧ Aside0 (kq ≤ k) ∧ Aside0 (Kd.Sg GA_ 90 w' w0.heap.size (fun k_ => (P0_ k_ ∨ w.heap.size ≤ k_)) (.slice Ao3 l0.length co3) x0_1) ∧ Aside0 (Kept w w' (fun k_ => P0_ k_)) ∧ Aside0 (Below w0.heap.size w0 w'))
 case atStart => exact ⟨(l0), (0), (0), rfl, rfl, H', ⟨Nat.le_refl _⟩, ⟨by (with_reducible repeat (first | apply Kd.Sg_alloc | apply Kd.Sg_drewN | apply Kd.Sg_drew)); exact HO0.out⟩, ⟨HK.out⟩, ⟨HB.out⟩⟩
 case round =>
  clear H'
  try clear c1
  try clear p2
  obtain ⟨x0_1, x4_1, x9_1, rfl, rfl, HA, HK1, HO_0, HK, HB⟩ := hrel
  have hl0_1 := (Kd.Sg_reads' HO_0.out).1
  rw [hl0_1] at HO_0
  (try simp only [hl0_1])
  cases gk with
  | zero => exact absurd HA.out (by simp [rational_restore.l0])
  | succ k1 =>
   have H := HA.out
   clear HA
   simp only [rational_restore.l0] at H
   by_cases c4 : x9_1 < (l0.length : Int)
   ·rw [if_pos c4] at H
    have c4b0 : decide (x9_1 < (l0.length : Int)) = true := decide_eq_true c4
    (try rw [hl0_1] at c4b0)
    clear c4
    by_cases c5 : 0 ≤ x9_1
    ·rw [if_pos c5] at H
     have c5b0 : decide (0 ≤ x9_1) = true := decide_eq_true c5
     clear c5
     by_cases c6 : x9_1 < (x0_1.length : Int)
     ·rw [if_pos c6] at H
      have c6b0 : decide (x9_1 < (x0_1.length : Int)) = true := decide_eq_true c6
      clear c6
      by_cases c7 : x9_1 < (l1.length : Int)
      ·rw [if_pos c7] at H
       have c7b0 : decide (x9_1 < (l1.length : Int)) = true := decide_eq_true c7
       clear c7
       obtain ⟨y160, hy160⟩ : ∃ y_ : List Int, y_ = (x0_1.set (x9_1 : Int).toNat ((((((rd x0_1 x9_1) + x4_1) % 4294967296) + (rd l1 x9_1)) % 4294967296) % 1000000000)) := ⟨_, rfl⟩
       replace H : (rational_restore.l0 k1 y160 l1 ((((((rd x0_1 x9_1) + x4_1) % 4294967296) + (rd l1 x9_1)) % 4294967296) / 1000000000) (l0.length : Int) (wrap64 (x9_1 + 1))) = some r := by first | (rw [hy160]; with_reducible exact H) | (have H2_ := (Option.bind_some _ _).symm.trans H; rw [hy160]; with_reducible exact H2_) | (have H2_ := (Option.bind_some _ _).symm.trans H; with_reducible exact H2_) | with_reducible exact H | (rw [hy160]; exact H) | exact H
       have Ny160 := Aside0.mk hy160
       clear hy160
       have H' := Aside0.mk H
       clear H
       have p158 : 0 ≤ (x9_1 : Int) := of_decide_eq_true (by assumption)
       have q158 : x9_1 < (x0_1.length : Int) := of_decide_eq_true (by assumption)
       obtain ⟨ad158, e158, hx158_0⟩ := Kd.at_int (Kd.Sg_reads' HO_0.out).2.2 x9_1 p158 q158
       cases e158
       replace p158 := eq_true p158
       replace q158 := eq_true q158
       have p159 : 0 ≤ (x9_1 : Int) := of_decide_eq_true (by assumption)
       have q159 : x9_1 < (l1.length : Int) := of_decide_eq_true (by assumption)
       obtain ⟨ad159, e159, hx159_0⟩ := Kd.at_int (Kd.C_kept_now HR1.out HK.out) x9_1 p159 q159
       cases e159
       replace p159 := eq_true p159
       replace q159 := eq_true q159
       have p8 : 0 ≤ (x9_1 : Int) := of_decide_eq_true (by assumption)
       have q8 : (x9_1 : Int) < ((x0_1.length : Int) : Int) := of_decide_eq_true (by assumption)
       obtain ⟨go8, oo8, co8, eo8, gb8, gl8, cl8, HG8⟩ := Kd.Sg_form HO_0.out (by omega)
       (first | cases eo8 | (injection eo8 with ea_ en_ ec_; (first | subst ea_ | (injection ea_ with ea_; subst ea_)); subst ec_; clear en_))
       have GB8 := Aside0.mk gb8
       have GG8 := Aside0.mk HG8
       clear gb8 gl8 HG8
       have HMgo8 := Aside0.mk (show (P0_ go8 ∨ w.heap.size ≤ go8) from (HO_0.out.1 _ rfl))
       (first | simp only [add_at] at hx158_0 | skip)
       obtain ⟨hx8_0, hf8_0⟩ := Kd.Sg_cell 0 HO_0.out (x9_1 : Int) p8 q8
       replace p8 := eq_true p8
       replace q8 := eq_true q8
       have HP9 := Kd.Sg_putg HO_0.out (x9_1 : Int) (of_decide_eq_true (by assumption)) (by have h_ : (x9_1 : Int) < ((x0_1.length : Int) : Int) := of_decide_eq_true (by assumption); first | exact h_ | (have e_ := (Kd.Sg_reads' HO_0.out).1; omega) | simpa using h_) ((((((rd x0_1 x9_1) + x4_1) % 4294967296) + (rd l1 x9_1)) % 4294967296) % 1000000000)
       go_wp2_with (first | ((with_reducible refine gate_store (t := 90) (p := 34) rfl ?_); refine store_event (t := 90) (p := 34) (v := ?vo_w10) (w1 := (wr.setCell ⟨go8, oo8 + (x9_1 : Int).toNat, none⟩ (.int .u32 ((((((rd x0_1 x9_1) + x4_1) % 4294967296) + (rd l1 x9_1)) % 4294967296) % 1000000000)))) ?hg ?ho ?hn ?hr ?_; (case ho => rfl); (case hg => rfl); (case hn => rfl); (case hr => go_simp); intro w10 hw; have hg : wr.grownBy w10 (some go8) := (by rw [hw]; exact HP9.2); have hp_ : Kd.Sg GA_ 90 w10 w0.heap.size (fun k_ => (P0_ k_ ∨ w.heap.size ≤ k_)) (.slice (some ⟨go8, oo8, none⟩) x0_1.length co3) y160 := (by rw [hw, Ny160.out]; exact HP9.1); clear HP9; have n0_ := Aside0.mk (hp_); have n1_ := Aside0.mk ((by rw [hw]; exact below_set (HB.out) GB8.out : Below w0.heap.size w0 w10)); have n2_ := Aside0.mk (Kept.of_grown (S := (fun k_ => P0_ k_)) hg HK.out (fun k_ e_ => (HO_0.out.1 k_ e_))); clear HO_0; clear HB; clear HK; have HO_0 := n0_; have HB := n1_; have HK := n2_; clear n0_ n1_ n2_; clear hg hw hp_))
       (try simp only [← hl0_1])
       go_roundg k1
       case measure => have := HK1.out; omega
       case rel => exact ⟨(y160), ((((((rd x0_1 x9_1) + x4_1) % 4294967296) + (rd l1 x9_1)) % 4294967296) / 1000000000), (wrap64 (x9_1 + 1)), (by first | rfl | (simp; done) | (simp [*]; done)), (by first | rfl | (simp; done) | (simp [*]; done)), H', ⟨by have := HK1.out; omega⟩, ⟨by (try simp only [hl0_1]); (with_reducible repeat (first | apply Kd.Sg_alloc | apply Kd.Sg_drewN | apply Kd.Sg_drew)); exact HO_0.out⟩, ⟨by repeat (first | (with_reducible first | exact HK.out | apply Kept.alloc | apply Kept.drewN | apply Kept.drew) | exact HK.out)⟩, ⟨by repeat (first | (with_reducible first | exact HB.out | apply below_alloc | apply pw_below_drewN | apply below_drew1) | exact HB.out)⟩⟩
      ·rw [if_neg c7] at H
       have c7b0 : decide (x9_1 < (l1.length : Int)) = false := decide_eq_false c7
       clear c7
       obtain ⟨y161, hy161⟩ : ∃ y_ : List Int, y_ = (x0_1.set (x9_1 : Int).toNat ((((rd x0_1 x9_1) + x4_1) % 4294967296) % 1000000000)) := ⟨_, rfl⟩
       replace H : (rational_restore.l0 k1 y161 l1 ((((rd x0_1 x9_1) + x4_1) % 4294967296) / 1000000000) (l0.length : Int) (wrap64 (x9_1 + 1))) = some r := by first | (rw [hy161]; with_reducible exact H) | (have H2_ := (Option.bind_some _ _).symm.trans H; rw [hy161]; with_reducible exact H2_) | (have H2_ := (Option.bind_some _ _).symm.trans H; with_reducible exact H2_) | with_reducible exact H | (rw [hy161]; exact H) | exact H
       have Ny161 := Aside0.mk hy161
       clear hy161
       have H' := Aside0.mk H
       clear H
       have p158 : 0 ≤ (x9_1 : Int) := of_decide_eq_true (by assumption)
       have q158 : x9_1 < (x0_1.length : Int) := of_decide_eq_true (by assumption)
       obtain ⟨ad158, e158, hx158_0⟩ := Kd.at_int (Kd.Sg_reads' HO_0.out).2.2 x9_1 p158 q158
       cases e158
       replace p158 := eq_true p158
       replace q158 := eq_true q158
       have p11 : 0 ≤ (x9_1 : Int) := of_decide_eq_true (by assumption)
       have q11 : (x9_1 : Int) < ((x0_1.length : Int) : Int) := of_decide_eq_true (by assumption)
       obtain ⟨go11, oo11, co11, eo11, gb11, gl11, cl11, HG11⟩ := Kd.Sg_form HO_0.out (by omega)
       (first | cases eo11 | (injection eo11 with ea_ en_ ec_; (first | subst ea_ | (injection ea_ with ea_; subst ea_)); subst ec_; clear en_))
       have GB11 := Aside0.mk gb11
       have GG11 := Aside0.mk HG11
       clear gb11 gl11 HG11
       have HMgo11 := Aside0.mk (show (P0_ go11 ∨ w.heap.size ≤ go11) from (HO_0.out.1 _ rfl))
       (first | simp only [add_at] at hx158_0 | skip)
       obtain ⟨hx11_0, hf11_0⟩ := Kd.Sg_cell 0 HO_0.out (x9_1 : Int) p11 q11
       replace p11 := eq_true p11
       replace q11 := eq_true q11
       have HP12 := Kd.Sg_putg HO_0.out (x9_1 : Int) (of_decide_eq_true (by assumption)) (by have h_ : (x9_1 : Int) < ((x0_1.length : Int) : Int) := of_decide_eq_true (by assumption); first | exact h_ | (have e_ := (Kd.Sg_reads' HO_0.out).1; omega) | simpa using h_) ((((rd x0_1 x9_1) + x4_1) % 4294967296) % 1000000000)
       go_wp2_with (first | ((with_reducible refine gate_store (t := 90) (p := 34) rfl ?_); refine store_event (t := 90) (p := 34) (v := ?vo_w13) (w1 := (wr.setCell ⟨go11, oo11 + (x9_1 : Int).toNat, none⟩ (.int .u32 ((((rd x0_1 x9_1) + x4_1) % 4294967296) % 1000000000)))) ?hg ?ho ?hn ?hr ?_; (case ho => rfl); (case hg => rfl); (case hn => rfl); (case hr => go_simp); intro w13 hw; have hg : wr.grownBy w13 (some go11) := (by rw [hw]; exact HP12.2); have hp_ : Kd.Sg GA_ 90 w13 w0.heap.size (fun k_ => (P0_ k_ ∨ w.heap.size ≤ k_)) (.slice (some ⟨go11, oo11, none⟩) x0_1.length co3) y161 := (by rw [hw, Ny161.out]; exact HP12.1); clear HP12; have n0_ := Aside0.mk (hp_); have n1_ := Aside0.mk ((by rw [hw]; exact below_set (HB.out) GB11.out : Below w0.heap.size w0 w13)); have n2_ := Aside0.mk (Kept.of_grown (S := (fun k_ => P0_ k_)) hg HK.out (fun k_ e_ => (HO_0.out.1 k_ e_))); clear HO_0; clear HB; clear HK; have HO_0 := n0_; have HB := n1_; have HK := n2_; clear n0_ n1_ n2_; clear hg hw hp_))
       (try simp only [← hl0_1])
       go_roundg k1
       case measure => have := HK1.out; omega
       case rel => exact ⟨(y161), ((((rd x0_1 x9_1) + x4_1) % 4294967296) / 1000000000), (wrap64 (x9_1 + 1)), rfl, rfl, H', ⟨by have := HK1.out; omega⟩, ⟨by (try simp only [hl0_1]); (with_reducible repeat (first | apply Kd.Sg_alloc | apply Kd.Sg_drewN | apply Kd.Sg_drew)); exact HO_0.out⟩, ⟨HK.out⟩, ⟨HB.out⟩⟩
     ·rw [if_neg c6] at H
      exact absurd H (by simp)
    ·rw [if_neg c5] at H
     exact absurd H (by simp)
   ·rw [if_neg c4] at H
    have c4b0 : decide (x9_1 < (l0.length : Int)) = false := decide_eq_false c4
    (try rw [hl0_1] at c4b0)
    clear c4
    obtain rfl := Option.some.inj H
    go_wp2
    first | go_end0 | ((try simp only [Exit.inBlock, Exit.then]); refine bodyPost_ret (results_none rfl _ _ _) rfl ?_)
    exact ⟨rfl, (by first | exact (by (with_reducible repeat (first | apply Kd.Sg_alloc | apply Kd.Sg_drewN | apply Kd.Sg_drew)); exact HO_0.out) | (simp only [hl0_1]; exact (by (with_reducible repeat (first | apply Kd.Sg_alloc | apply Kd.Sg_drewN | apply Kd.Sg_drew)); exact HO_0.out))), HB.out, HK.out⟩
/-- rational_restore, of the part lo.. hi of a row. -/
def rational_restoreSub.f (k : Nat) (l0 : List Int) (lo hi : Int) (l3 : List Int) : Option (List Int) :=
 if 0 ≤ lo ∧ lo < hi ∧ hi ≤ (l0.length : Int) then (rational_restore.f k ((l0.take hi.toNat).drop lo.toNat) l3).bind fun r_ => some (l0.take lo.toNat ++ (r_ ++ l0.drop hi.toNat)) else none
theorem rational_restoreSub.mono : ∀ l0 lo hi l3 k, LeO (rational_restoreSub.f k l0 lo hi l3) (rational_restoreSub.f (k + 1) l0 lo hi l3) := by
 intro l0 lo hi l3 k
 unfold rational_restoreSub.f
 exact LeO.ite (LeO.bind (rational_restore.mono _ _ _) (fun _ => LeO.refl _)) (LeO.refl _)
theorem rational_restoreSub.calls (k : Nat) (P0_ : Nat → Prop) (u9000_ : Value) (l0 : List Int) (lo hi : Int) (A1 : Option Addr) (c1 : Nat) (l3 : List Int) (r2 : List Int) (w0 w : World) (hB : Below w0.heap.size w0 w) (ho0 : Kd.R (Kd.int .u32) 90 w w0.heap.size P0_ u9000_ l0) (hr1 : ∀ W_, Kept w W_ (fun k_ => P0_ k_) → Kd.C (Kd.int .u32) W_ A1 l3.length l3) (hc1 : l3.length ≤ c1) (h : rational_restoreSub.f k l0 lo hi l3 = some r2)
  (U : Option Addr) {nU : Nat} (cap : Nat) (hu : u9000_ = .slice U nU cap) (sA : Option Addr) (sn sc : Nat) (hA : sA = (if cap = lo.toNat then U else U.map (·.add (lo.toNat * 1)))) (hn : sn = hi.toNat - lo.toNat) (hc : sn ≤ sc) :
  Calls Tryd.prog 114 #[.slice sA sn sc, .slice A1 l3.length c1] w fun e w' => e = .returned (.tuple #[]) ∧ Kd.R (Kd.int .u32) 90 w' w0.heap.size (fun k_ => (P0_ k_ ∨ w.heap.size ≤ k_)) u9000_ r2 ∧ Below w0.heap.size w0 w' ∧ Kept w w' (fun k_ => P0_ k_) := by
 unfold rational_restoreSub.f at h
 split at h
 case isFalse => simp at h
 case isTrue hb =>
 obtain ⟨h0, h1, h2⟩ := hb
 obtain ⟨s, hs, he⟩ := Option.bind_eq_some_iff.1 h
 obtain ⟨lo, rfl⟩ := Int.eq_ofNat_of_zero_le h0
 obtain ⟨hi, rfl⟩ := Int.eq_ofNat_of_zero_le (Int.le_trans h0 (Int.le_of_lt h1))
 simp only [Int.toNat_natCast] at hs he hA hn
 obtain ⟨g, cap', hg, hbg, hlt, _⟩ := Kd.R_form ho0 (by omega)
 rw [hu] at hg
 injection hg with hU hnU hcap
 subst hnU
 subst hcap
 subst hU
 have hcl : l0.length ≤ cap := by
  have := ho0
  rw [hu] at this
  exact (Kd.R_reads' this).2.1
 rw [if_neg (by omega)] at hA
 have hA2 : sA = some ⟨g, lo, none⟩ := by
  rw [hA]
  simp only [Option.map_some, Nat.mul_one]
  congr 1
  cases lo <;> simp [Addr.add]
 have hl : (l0.take lo).length = lo := by rw [List.length_take]; omega
 have hm : ((l0.take hi).drop lo).length = hi - lo := by rw [List.length_drop, List.length_take]; omega
 have hall : l0.take lo ++ ((l0.take hi).drop lo ++ l0.drop hi) = l0 := by
  rw [← List.append_assoc]
  conv => lhs; lhs; lhs; rw [show l0.take lo = (l0.take hi).take lo by rw [List.take_take, Nat.min_eq_left (by omega)]]
  rw [List.take_append_drop, List.take_append_drop]
 refine (rational_restore.calls k P0_ ⟨g, l0.length, cap, l0.take lo, l0.drop hi⟩ (.slice sA sn sc) ((l0.take hi).drop lo) A1 c1 l3 _ w0 w hB ⟨?_, ?_, ⟨sc, ?_, ?_⟩, ?_⟩ hr1 hc1 hs).mono ?_
 ·intro k_ hk
  rw [hA2] at hk
  have : g = k_ := by simpa [Value.ownBlock] using hk
  subst this
  exact ho0.1 _ (by rw [hu]; simp [Value.ownBlock])
 ·omega
 ·rw [hA2, hl, hn, hm]
 ·omega
 ·rw [hall, ← hu]; exact ho0
 ·rintro e w' ⟨h3, h4, h5, h6⟩
  injection he with he
  subst he
  refine ⟨h3, ?_, h5, h6⟩
  rw [hu]
  exact h4.2.2.2
/-! ### strings_trimLeftByte: function 147 -/
def strings_trimLeftByte.l0 : Nat → ByteArray → Int → Option (ByteArray)
 | 0, _, _ => none
 | k + 1, x0, x1 => if (x0.size : Int) > 0 then (if 0 < (x0.size : Int) then (if (bt x0 0) = x1 then (if 1 ≤ (x0.size : Int) then (strings_trimLeftByte.l0 k (x0.extract 1 x0.size) x1) else (none)) else (some x0)) else (none)) else (some x0)
def strings_trimLeftByte.f (k : Nat) (a0 : ByteArray) (a1 : Int) : Option (ByteArray) := strings_trimLeftByte.l0 k a0 a1
theorem strings_trimLeftByte.mono_l : ∀ k, (∀ y0 y1, LeO (strings_trimLeftByte.l0 k y0 y1) (strings_trimLeftByte.l0 (k + 1) y0 y1))
 | 0 => fun _ _ r h => by simp [strings_trimLeftByte.l0] at h
 | k + 1 => by
  have ih0 := strings_trimLeftByte.mono_l k
  ·intro y0 y1
   unfold strings_trimLeftByte.l0
   repeat' first
   | (with_reducible exact ih0 _ _)
   | (with_reducible exact LeO.refl _)
   | (with_reducible exact LeO.none _)
   | (with_reducible refine LeO.ite ?_ ?_)
   | (with_reducible refine LeO.bind ?_ (fun _ => ?_))
   | exact ih0 _ _
   | exact LeO.none _
   | refine LeO.ite ?_ ?_
   | refine LeO.bind ?_ (fun _ => ?_)
theorem strings_trimLeftByte.mono : ∀ a0 a1 k, LeO (strings_trimLeftByte.f k a0 a1) (strings_trimLeftByte.f (k + 1) a0 a1) := by
 intro a0 a1 k
 have ih0 := strings_trimLeftByte.mono_l k
 unfold strings_trimLeftByte.f
 repeat' first
   | (with_reducible exact ih0 _ _)
   | (with_reducible exact LeO.refl _)
   | (with_reducible exact LeO.none _)
   | (with_reducible refine LeO.ite ?_ ?_)
   | (with_reducible refine LeO.bind ?_ (fun _ => ?_))
   | exact ih0 _ _
   | exact LeO.none _
   | refine LeO.ite ?_ ?_
   | refine LeO.bind ?_ (fun _ => ?_)
set_option maxHeartbeats 8000000 in
set_option maxRecDepth 100000 in
theorem strings_trimLeftByte.calls (k : Nat) (a0 : ByteArray) (a1 : Int) (r : ByteArray) (w : World) (h : strings_trimLeftByte.f k a0 a1 = some r) :
  Calls Tryd.prog 147 #[.string a0, .int .u8 a1] w fun e w' => e = .returned (.string r) ∧ Drawn0 w w' := by
 have H : (strings_trimLeftByte.l0 k a0 a1) = some r := h
 clear h
 have H' := Aside0.mk H
 clear H
 go_enter Tryd.func147, Tryd.ntmps147
 go_wp2
 go_loopg [0] k (fun kq v0 w' => ∃ (x0_1 : ByteArray), v0 = .string x0_1 ∧ Aside0 (strings_trimLeftByte.l0 kq x0_1 a1 = some r) ∧ Aside0 (kq ≤ k) ∧ Drawn0 w w')
 case atStart => exact ⟨(a0), rfl, H', ⟨Nat.le_refl _⟩, by repeat (first | exact Drawn0.refl _ | apply Drawn0.step)⟩
 case round =>
  clear H'
  try clear c1
  try clear p2
  obtain ⟨x0_1, rfl, HA, HK1, ⟨m1, rfl⟩⟩ := hrel
  cases gk with
  | zero => exact absurd HA.out (by simp [strings_trimLeftByte.l0])
  | succ k1 =>
   have H := HA.out
   clear HA
   simp only [strings_trimLeftByte.l0] at H
   by_cases c3 : (x0_1.size : Int) > 0
   ·rw [if_pos c3] at H
    have c3b0 : decide (0 < (x0_1.size : Int)) = true := decide_eq_true c3
    have c3b1 : decide (0 < x0_1.size) = true := decide_eq_true (by omega)
    clear c3
    by_cases c4 : 0 < (x0_1.size : Int)
    ·rw [if_pos c4] at H
     have c4b0 : decide (0 < (x0_1.size : Int)) = true := decide_eq_true c4
     have c4b1 : decide (0 < x0_1.size) = true := decide_eq_true (by omega)
     clear c4
     by_cases c6 : (bt x0_1 0) = a1
     ·rw [if_pos c6] at H
      have c6b0 : ((bt x0_1 0) == a1) = true := beq_iff_eq.mpr c6
      have c6b1 : ((bt x0_1 0) != a1) = false := bne_eq_false_iff_eq.mpr c6
      clear c6
      by_cases c7 : 1 ≤ (x0_1.size : Int)
      ·rw [if_pos c7] at H
       have c7b0 := eq_true c7
       have c7b1 : decide (1 ≤ (x0_1.size : Int)) = true := decide_eq_true c7
       clear c7
       have H' := Aside0.mk H
       clear H
       have p5 : 0 ≤ (0 : Int) := (by omega)
       have q5 : 0 < x0_1.size := (by have : (0 : Int) < (x0_1.size : Int) := of_decide_eq_true (by assumption); omega)
       have hx5 : ∀ h : 0 < x0_1.size, ((x0_1[0]'h).toNat : Int) = bt x0_1 0 := bt_at x0_1 0
       clear p5
       have qi5 : (0 < (x0_1.size : Int)) = True := eq_true (of_decide_eq_true (by assumption))
       replace q5 := eq_true q5
       go_wp2
       go_roundg k1
       case measure => have := HK1.out; omega
       case rel => exact ⟨(x0_1.extract 1 x0_1.size), rfl, H', ⟨by have := HK1.out; omega⟩, by repeat (first | exact Drawn0.refl _ | apply Drawn0.step)⟩
      ·rw [if_neg c7] at H
       exact absurd H (by simp)
     ·rw [if_neg c6] at H
      have c6b0 : ((bt x0_1 0) == a1) = false := beq_eq_false_iff_ne.mpr c6
      have c6b1 : ((bt x0_1 0) != a1) = true := bne_iff_ne.mpr c6
      obtain rfl := Option.some.inj H
      have p5 : 0 ≤ (0 : Int) := (by omega)
      have q5 : 0 < x0_1.size := (by have : (0 : Int) < (x0_1.size : Int) := of_decide_eq_true (by assumption); omega)
      have hx5 : ∀ h : 0 < x0_1.size, ((x0_1[0]'h).toNat : Int) = bt x0_1 0 := bt_at x0_1 0
      clear p5
      have qi5 : (0 < (x0_1.size : Int)) = True := eq_true (of_decide_eq_true (by assumption))
      replace q5 := eq_true q5
      go_wp2
      go_ret
      exact ⟨by first | rfl | (simp; done) | (simp [*]; done), by repeat (first | exact Drawn0.refl _ | apply Drawn0.step)⟩
    ·rw [if_neg c4] at H
     exact absurd H (by simp)
   ·rw [if_neg c3] at H
    have c3b0 : decide (0 < (x0_1.size : Int)) = false := decide_eq_false c3
    have c3b1 : decide (0 < x0_1.size) = false := decide_eq_false (by omega)
    clear c3
    obtain rfl := Option.some.inj H
    go_wp2
    go_ret
    exact ⟨by first | rfl | (simp; done) | (simp [*]; done), by repeat (first | exact Drawn0.refl _ | apply Drawn0.step)⟩
-- NOT PRINTED: function 148 (strings_makeASCIISet)
-- NOT PRINTED: function 152 (strings_asciiSet_contains)
-- NOT PRINTED: function 149 (strings_trimLeftASCII)
/-! ### strings_TrimLeft: function 144 -/
def strings_TrimLeft.j0 : Nat → ByteArray → ByteArray → Bool → Option (ByteArray)
 | 0, _, _, _ => none
 | k + 1, x0, x1, x12 => if x12 = true then (some x0) else (if (x1.size : Int) = 1 then (if 0 < (x1.size : Int) then (if (bt x1 0) < 128 then ((strings_trimLeftByte.f k x0 (bt x1 0)).bind fun t325 => (some t325)) else (none)) else (none)) else (none))
def strings_TrimLeft.f (k : Nat) (a0 : ByteArray) (a1 : ByteArray) : Option (ByteArray) := if a0.toList = ([] : List UInt8) then (strings_TrimLeft.j0 k a0 a1 true) else (strings_TrimLeft.j0 k a0 a1 (a1.toList == ([] : List UInt8)))
theorem strings_TrimLeft.mono_l : ∀ k, (∀ y0 y1 y2, LeO (strings_TrimLeft.j0 k y0 y1 y2) (strings_TrimLeft.j0 (k + 1) y0 y1 y2))
 | 0 => fun _ _ _ r h => by simp [strings_TrimLeft.j0] at h
 | k + 1 => by
  have ih0 := strings_TrimLeft.mono_l k
  ·intro y0 y1 y2
   unfold strings_TrimLeft.j0
   repeat' first
   | (with_reducible exact ih0 _ _ _)
   | (with_reducible exact strings_trimLeftByte.mono _ _ _)
   | (with_reducible exact LeO.refl _)
   | (with_reducible exact LeO.none _)
   | (with_reducible refine LeO.ite ?_ ?_)
   | (with_reducible refine LeO.bind ?_ (fun _ => ?_))
   | exact ih0 _ _ _
   | exact strings_trimLeftByte.mono _ _ _
   | exact LeO.none _
   | refine LeO.ite ?_ ?_
   | refine LeO.bind ?_ (fun _ => ?_)
theorem strings_TrimLeft.mono : ∀ a0 a1 k, LeO (strings_TrimLeft.f k a0 a1) (strings_TrimLeft.f (k + 1) a0 a1) := by
 intro a0 a1 k
 have ih0 := strings_TrimLeft.mono_l k
 unfold strings_TrimLeft.f
 repeat' first
   | (with_reducible exact ih0 _ _ _)
   | (with_reducible exact strings_trimLeftByte.mono _ _ _)
   | (with_reducible exact LeO.refl _)
   | (with_reducible exact LeO.none _)
   | (with_reducible refine LeO.ite ?_ ?_)
   | (with_reducible refine LeO.bind ?_ (fun _ => ?_))
   | exact ih0 _ _ _
   | exact strings_trimLeftByte.mono _ _ _
   | exact LeO.none _
   | refine LeO.ite ?_ ?_
   | refine LeO.bind ?_ (fun _ => ?_)
set_option maxHeartbeats 8000000 in
set_option maxRecDepth 100000 in
theorem strings_TrimLeft.calls (k : Nat) (a0 : ByteArray) (a1 : ByteArray) (r : ByteArray) (w : World) (h : strings_TrimLeft.f k a0 a1 = some r) :
  Calls Tryd.prog 144 #[.string a0, .string a1] w fun e w' => e = .returned (.string r) ∧ Drawn0 w w' := by
 have H : (if a0.toList = ([] : List UInt8) then (strings_TrimLeft.j0 k a0 a1 true) else (strings_TrimLeft.j0 k a0 a1 (a1.toList == ([] : List UInt8)))) = some r := h
 clear h
 have HC3 := Aside0.mk H
 clear H
 go_enter Tryd.func144, Tryd.ntmps144
 go_upto_region 1 with (fail)
 go_cut [12] (fun v12 wc => ∃ (kq : Nat) (x12_2 : Bool), v12 = .bool x12_2 ∧ Aside0 (strings_TrimLeft.j0 kq a0 a1 x12_2 = some r) ∧ Aside0 (kq ≤ k) ∧ Drawn0 w wc)
 case first =>
  have H := HC3.out
  clear HC3
  by_cases c4 : a0.toList = ([] : List UInt8)
  ·rw [if_pos c4] at H
   have c4b0 : (a0.toList == ([] : List UInt8)) = true := beq_iff_eq.mpr c4
   have c4b1 : (a0.toList != ([] : List UInt8)) = false := bne_eq_false_iff_eq.mpr c4
   clear c4
   (first | rw [c4b0] | (simp only [i64_w, i32_w]; rw [c4b0]) | skip)
   have H' := Aside0.mk H
   clear H
   go_wp2
   go_meet
   case rel => exact ⟨_, (true), rfl, H', ⟨by first | omega | exact Nat.le_refl _⟩, by repeat (first | exact Drawn0.refl _ | apply Drawn0.step)⟩
  ·rw [if_neg c4] at H
   have c4b0 : (a0.toList == ([] : List UInt8)) = false := beq_eq_false_iff_ne.mpr c4
   have c4b1 : (a0.toList != ([] : List UInt8)) = true := bne_iff_ne.mpr c4
   (first | rw [c4b0] | (simp only [i64_w, i32_w]; rw [c4b0]) | skip)
   have H' := Aside0.mk H
   clear H
   go_wp2
   go_meet
   case rel => exact ⟨_, ((a1.toList == ([] : List UInt8))), (by first | rfl | (simp; done) | (simp [*]; done)), H', ⟨by first | omega | exact Nat.le_refl _⟩, by repeat (first | exact Drawn0.refl _ | apply Drawn0.step)⟩
 case rest =>
  clear HC3
  try clear c1
  try clear p2
  try clear c4
  try clear c4b0
  try clear c4b1
  obtain ⟨kq, x12_2, rfl, HA, HJ2, ⟨mc2, rfl⟩⟩ := hcut
  cases kq with
  | zero => exact absurd HA.out (by simp [strings_TrimLeft.j0])
  | succ kj2 =>
   have H := HA.out
   clear HA
   simp only [strings_TrimLeft.j0] at H
   by_cases c5 : x12_2 = true
   ·subst c5
    rw [if_pos rfl] at H
    obtain rfl := Option.some.inj H
    go_wp2
    go_ret
    exact ⟨by first | rfl | (simp; done) | (simp [*]; done), by repeat (first | exact Drawn0.refl _ | apply Drawn0.step)⟩
   ·replace c5 := Bool.eq_false_iff.mpr c5
    subst c5
    rw [if_neg (show ¬ (false = true) by decide)] at H
    by_cases c6 : (a1.size : Int) = 1
    ·rw [if_pos c6] at H
     have c6b0 : ((a1.size : Int) == 1) = true := beq_iff_eq.mpr c6
     have c6b1 : ((a1.size : Int) != 1) = false := bne_eq_false_iff_eq.mpr c6
     clear c6
     by_cases c7 : 0 < (a1.size : Int)
     ·rw [if_pos c7] at H
      have c7b0 : decide (0 < (a1.size : Int)) = true := decide_eq_true c7
      have c7b1 : decide (0 < a1.size) = true := decide_eq_true (by omega)
      clear c7
      by_cases c9 : (bt a1 0) < 128
      ·rw [if_pos c9] at H
       have c9b0 : decide ((bt a1 0) < 128) = true := decide_eq_true c9
       clear c9
       replace H := Option.bind_eq_some_iff.mp H
       obtain ⟨t325, A110, H⟩ := H
       (try dsimp only at H)
       have A11 := Aside0.mk A110
       clear A110
       obtain rfl := Option.some.inj H
       have p8 : 0 ≤ (0 : Int) := (by omega)
       have q8 : 0 < a1.size := (by have : (0 : Int) < (a1.size : Int) := of_decide_eq_true (by assumption); omega)
       have hx8 : ∀ h : 0 < a1.size, ((a1[0]'h).toNat : Int) = bt a1 0 := bt_at a1 0
       clear p8
       have qi8 : (0 < (a1.size : Int)) = True := eq_true (of_decide_eq_true (by assumption))
       replace q8 := eq_true q8
       have p10 : 0 ≤ (0 : Int) := (by omega)
       have q10 : 0 < a1.size := (by have : (0 : Int) < (a1.size : Int) := of_decide_eq_true (by assumption); omega)
       have hx10 : ∀ h : 0 < a1.size, ((a1[0]'h).toNat : Int) = bt a1 0 := bt_at a1 0
       clear p10
       have qi10 : (0 < (a1.size : Int)) = True := eq_true (of_decide_eq_true (by assumption))
       replace q10 := eq_true q10
       go_wp2_with (first | ((with_reducible refine gate_callee (f := 147) rfl ?_); refine goesL_ (some 25) rfl rfl Tryd.func147 (by kernel_rfl) rfl #[.string a0, .int .u8 (bt a1 0)] rfl (by (try simp only [List.map_toArray, List.map_cons, List.map_nil]); first | done | rfl) ?_; (with_reducible refine (strings_trimLeftByte.calls kj2 a0 (bt a1 0) t325 _ A11.out).mono ?_); rintro e w' ⟨rfl, ⟨nd, rfl⟩⟩; refine ⟨_, rfl, ?_⟩))
       go_ret
       exact ⟨by first | rfl | (simp; done) | (simp [*]; done), by repeat (first | exact Drawn0.refl _ | apply Drawn0.step)⟩
      ·rw [if_neg c9] at H
       exact absurd H (by simp)
     ·rw [if_neg c7] at H
      exact absurd H (by simp)
    ·rw [if_neg c6] at H
     exact absurd H (by simp)
/-! ### rational_natural_String: function 126 -/
mutual
def rational_natural_String.l0 : Nat → List Int → List Int → Int → Int → Option (ByteArray)
 | 0, _, _, _, _ => none
 | k + 1, x3, x14, x15, x16 => if x16 < x15 then (if 0 ≤ x16 then (if x16 < (x14.length : Int) then (rational_natural_String.l1 k x3 x16 (rd x14 x16) x14 x15 x16 0) else (none)) else (none)) else ((strings_TrimLeft.f k (strOfNums x3) (⟨#[48]⟩ : ByteArray)).bind fun t329 => (some t329))
def rational_natural_String.l1 : Nat → List Int → Int → Int → List Int → Int → Int → Int → Option (ByteArray)
 | 0, _, _, _, _, _, _, _ => none
 | k + 1, x3, x4, x5, x14, x15, x16, x21 => if x21 < 9 then (if 0 ≤ (wrap64 ((wrap64 ((wrap64 ((x3.length : Int) - 1)) - (wrap64 (9 * x4)))) - x21)) then (if (wrap64 ((wrap64 ((wrap64 ((x3.length : Int) - 1)) - (wrap64 (9 * x4)))) - x21)) < (x3.length : Int) then (rational_natural_String.l1 k (x3.set ((wrap64 ((wrap64 ((wrap64 ((x3.length : Int) - 1)) - (wrap64 (9 * x4)))) - x21)) : Int).toNat ((48 + ((Int.tmod x5 10) % 256)) % 256)) x4 ((Int.tdiv x5 10) % 4294967296) x14 x15 x16 (wrap64 (x21 + 1))) else (none)) else (none)) else (rational_natural_String.l0 k x3 x14 x15 (wrap64 (x16 + 1)))
end
def rational_natural_String.f (k : Nat) (l0 : List Int) : Option (ByteArray) := if (l0.length : Int) = 0 then (some (⟨#[48]⟩ : ByteArray)) else (if 0 ≤ (wrap64 (9 * (l0.length : Int))) then (if (wrap64 (9 * (l0.length : Int)) : Int).toNat ≤ 281474976710656 then (rational_natural_String.l0 k (List.replicate (wrap64 (9 * (l0.length : Int)) : Int).toNat 0) l0 (l0.length : Int) 0) else (none)) else (none))
theorem rational_natural_String.mono_l : ∀ k, (∀ y0 y1 y2 y3, LeO (rational_natural_String.l0 k y0 y1 y2 y3) (rational_natural_String.l0 (k + 1) y0 y1 y2 y3)) ∧ (∀ y0 y1 y2 y3 y4 y5 y6, LeO (rational_natural_String.l1 k y0 y1 y2 y3 y4 y5 y6) (rational_natural_String.l1 (k + 1) y0 y1 y2 y3 y4 y5 y6))
 | 0 => ⟨fun _ _ _ _ r h => by simp [rational_natural_String.l0] at h, fun _ _ _ _ _ _ _ r h => by simp [rational_natural_String.l1] at h⟩
 | k + 1 => by
  obtain ⟨ih0, ih1⟩ := rational_natural_String.mono_l k
  refine ⟨?_, ?_⟩
  ·intro y0 y1 y2 y3
   unfold rational_natural_String.l0
   repeat' first
   | (with_reducible exact ih0 _ _ _ _)
   | (with_reducible exact ih1 _ _ _ _ _ _ _)
   | (with_reducible exact strings_TrimLeft.mono _ _ _)
   | (with_reducible exact LeO.refl _)
   | (with_reducible exact LeO.none _)
   | (with_reducible refine LeO.ite ?_ ?_)
   | (with_reducible refine LeO.bind ?_ (fun _ => ?_))
   | exact ih0 _ _ _ _
   | exact ih1 _ _ _ _ _ _ _
   | exact strings_TrimLeft.mono _ _ _
   | exact LeO.none _
   | refine LeO.ite ?_ ?_
   | refine LeO.bind ?_ (fun _ => ?_)
  ·intro y0 y1 y2 y3 y4 y5 y6
   unfold rational_natural_String.l1
   repeat' first
   | (with_reducible exact ih0 _ _ _ _)
   | (with_reducible exact ih1 _ _ _ _ _ _ _)
   | (with_reducible exact strings_TrimLeft.mono _ _ _)
   | (with_reducible exact LeO.refl _)
   | (with_reducible exact LeO.none _)
   | (with_reducible refine LeO.ite ?_ ?_)
   | (with_reducible refine LeO.bind ?_ (fun _ => ?_))
   | exact ih0 _ _ _ _
   | exact ih1 _ _ _ _ _ _ _
   | exact strings_TrimLeft.mono _ _ _
   | exact LeO.none _
   | refine LeO.ite ?_ ?_
   | refine LeO.bind ?_ (fun _ => ?_)
theorem rational_natural_String.mono : ∀ a0 k, LeO (rational_natural_String.f k a0) (rational_natural_String.f (k + 1) a0) := by
 intro a0 k
 obtain ⟨ih0, ih1⟩ := rational_natural_String.mono_l k
 unfold rational_natural_String.f
 repeat' first
   | (with_reducible exact ih0 _ _ _ _)
   | (with_reducible exact ih1 _ _ _ _ _ _ _)
   | (with_reducible exact strings_TrimLeft.mono _ _ _)
   | (with_reducible exact LeO.refl _)
   | (with_reducible exact LeO.none _)
   | (with_reducible refine LeO.ite ?_ ?_)
   | (with_reducible refine LeO.bind ?_ (fun _ => ?_))
   | exact ih0 _ _ _ _
   | exact ih1 _ _ _ _ _ _ _
   | exact strings_TrimLeft.mono _ _ _
   | exact LeO.none _
   | refine LeO.ite ?_ ?_
   | refine LeO.bind ?_ (fun _ => ?_)
set_option maxHeartbeats 8000000 in
set_option maxRecDepth 100000 in
theorem rational_natural_String.calls (k : Nat) (A0 : Option Addr) (c0 : Nat) (l0 : List Int) (r : ByteArray) (w : World) (hr0 : Kd.C (Kd.int .u32) w A0 l0.length l0) (hc0 : l0.length ≤ c0) (h : rational_natural_String.f k l0 = some r) :
  Calls Tryd.prog 126 #[.slice A0 l0.length c0] w fun e w' => e = .returned (.string r) ∧ Below w.heap.size w w' := by
 have HR0 := Aside0.mk hr0
 have HC0 := Aside0.mk hc0
 clear hr0 hc0
 have HB := Aside0.mk (Below.refl w.heap.size w)
 have H : (if (l0.length : Int) = 0 then (some (⟨#[48]⟩ : ByteArray)) else (if 0 ≤ (wrap64 (9 * (l0.length : Int))) then (if (wrap64 (9 * (l0.length : Int)) : Int).toNat ≤ 281474976710656 then (rational_natural_String.l0 k (List.replicate (wrap64 (9 * (l0.length : Int)) : Int).toNat 0) l0 (l0.length : Int) 0) else (none)) else (none))) = some r := h
 clear h
 by_cases c2 : (l0.length : Int) = 0
 ·rw [if_pos c2] at H
  have c2b0 : ((l0.length : Int) == 0) = true := beq_iff_eq.mpr c2
  have c2b1 : ((l0.length : Int) != 0) = false := bne_eq_false_iff_eq.mpr c2
  clear c2
  obtain rfl := Option.some.inj H
  go_enter Tryd.func126, Tryd.ntmps126
  go_wp2
  go_ret
  exact ⟨rfl, HB.out⟩
 ·rw [if_neg c2] at H
  have c2b0 : ((l0.length : Int) == 0) = false := beq_eq_false_iff_ne.mpr c2
  have c2b1 : ((l0.length : Int) != 0) = true := bne_iff_ne.mpr c2
  have c2b2 : ¬ (l0 = []) := fun h_ => c2 (by rw [h_]; rfl)
  obtain ⟨ji3, hji3⟩ : ∃ j_ : Int, (wrap64 (9 * (l0.length : Int))) = j_ := ⟨_, rfl⟩
  replace H : (if 0 ≤ (ji3) then (if (ji3 : Int).toNat ≤ 281474976710656 then (rational_natural_String.l0 k (List.replicate (ji3 : Int).toNat 0) l0 (l0.length : Int) 0) else (none)) else (none)) = some r := by first | (rw [hji3] at H; exact H) | (simp only [hji3] at H ⊢; exact H)
  have hji3w : (IntKind.i64.wrap (9 * (l0.length : Int))) = ji3 := (i64_w _).trans hji3
  by_cases c4 : 0 ≤ (ji3)
  ·rw [if_pos c4] at H
   have c4b0 := eq_true c4
   have c4b1 : decide (0 ≤ (ji3)) = true := decide_eq_true c4
   clear c4
   by_cases c5 : (ji3 : Int).toNat ≤ 281474976710656
   ·rw [if_pos c5] at H
    have c5b0 := eq_true c5
    have c5b1 : decide ((ji3 : Int).toNat ≤ 281474976710656) = true := decide_eq_true c5
    clear c5
    obtain ⟨y326, hy326⟩ : ∃ y_ : List Int, y_ = (List.replicate (ji3 : Int).toNat 0) := ⟨_, rfl⟩
    replace H : (rational_natural_String.l0 k y326 l0 (l0.length : Int) 0) = some r := by first | (rw [hy326]; with_reducible exact H) | (have H2_ := (Option.bind_some _ _).symm.trans H; rw [hy326]; with_reducible exact H2_) | (have H2_ := (Option.bind_some _ _).symm.trans H; with_reducible exact H2_) | with_reducible exact H | (rw [hy326]; exact H) | exact H
    have Ny326 := Aside0.mk hy326
    clear hy326
    have H' := Aside0.mk H
    clear H
    go_enter Tryd.func126, Tryd.ntmps126
    go_wp2_with (first | ((with_reducible refine gate_dst (N := 13) rfl ?_); refine Kd.R_make (Kd.int .u8) _ 5 rfl (N := 13) rfl 36 _ _ rfl ji3 rfl rfl Tryd.underlying36 (.int .u8 0) 1 info5 rfl (by decide) (by omega) 0 (ok := fun _ => True) (okp := fun _ => True) rfl (fun _ hk => hk) trivial (of_decide_eq_true (by assumption)) (Nat.le_trans (Nat.mul_le_mul_right _ (of_decide_eq_true (by assumption) : ji3.toNat ≤ 281474976710656)) (by omega)) (Below.refl _ _) (Nat.le_refl _) ?_; intro v327 w6 ho7 hb hg_ hnew_; clear hg_ hnew_; (first | rw [← Ny326.out] at ho7 | (simp only [Int.reduceToNat] at ho7; rw [← Ny326.out] at ho7)); have n0_ := Aside0.mk (Kd.R_lower ho7 (below_size HB.out)); have n1_ := Aside0.mk (below_step HB.out hb); clear HB; have HO328 := n0_; have HB := n1_; clear n0_ n1_; clear hb ho7))
    go_loopg [16] k (fun kq v16 w' => ∃ (x3_1 : List Int) (x16_1 : Int), v16 = .int .i64 x16_1 ∧ Aside0 (rational_natural_String.l0 kq x3_1 l0 (l0.length : Int) x16_1 = some r) ∧ Aside0 (kq ≤ k) ∧ Aside0 (Kd.R (Kd.int .u8) 5 w' w.heap.size (fun _ => True) v327 x3_1) ∧ Aside0 (Below w.heap.size w w'))
    case atStart => exact ⟨(y326), (0), rfl, H', ⟨Nat.le_refl _⟩, ⟨by (with_reducible repeat (first | apply Kd.R_alloc | apply Kd.R_drewN | apply Kd.R_drew)); exact HO328.out⟩, ⟨HB.out⟩⟩
    case round =>
     clear H'
     try clear c1
     try clear c2
     try clear c2b0
     try clear c2b1
     try clear c2b2
     try clear p2
     try clear c4
     try clear c4b0
     try clear c4b1
     try clear c5
     try clear c5b0
     try clear c5b1
     try clear p6
     obtain ⟨x3_1, x16_1, rfl, HA, HK1, HO_3, HB⟩ := hrel
     cases gk with
     | zero => exact absurd HA.out (by simp [rational_natural_String.l0])
     | succ k1 =>
      have H := HA.out
      clear HA
      simp only [rational_natural_String.l0] at H
      by_cases c8 : x16_1 < (l0.length : Int)
      ·rw [if_pos c8] at H
       have c8b0 : decide (x16_1 < (l0.length : Int)) = true := decide_eq_true c8
       clear c8
       by_cases c9 : 0 ≤ x16_1
       ·rw [if_pos c9] at H
        have c9b0 : decide (0 ≤ x16_1) = true := decide_eq_true c9
        clear c9
        by_cases c10 : x16_1 < (l0.length : Int)
        ·rw [if_pos c10] at H
         have c10b0 : decide (x16_1 < (l0.length : Int)) = true := decide_eq_true c10
         clear c10
         have H' := Aside0.mk H
         clear H
         have p330 : 0 ≤ (x16_1 : Int) := of_decide_eq_true (by assumption)
         have q330 : x16_1 < (l0.length : Int) := of_decide_eq_true (by assumption)
         obtain ⟨ad330, e330, hx330_0⟩ := Kd.at_int HR0.out x16_1 p330 q330
         cases e330
         replace hx330_0 := (HB.out.cell (World.block_lt_of_cell? w _ hx330_0)).trans hx330_0
         replace p330 := eq_true p330
         replace q330 := eq_true q330
         go_wp2
         go_loopg [5, 21] k1 (fun kq v5 v21 w' => ∃ (x3_2 : List Int) (x5_2 : Int) (x21_2 : Int), v5 = .int .u32 x5_2 ∧ v21 = .int .i64 x21_2 ∧ Aside0 (rational_natural_String.l1 kq x3_2 x16_1 x5_2 l0 (l0.length : Int) x16_1 x21_2 = some r) ∧ Aside0 (kq ≤ k1) ∧ Aside0 (Kd.R (Kd.int .u8) 5 w' w.heap.size (fun _ => True) v327 x3_2) ∧ Aside0 (Below w.heap.size w w'))
         case atStart => exact ⟨(x3_1), (rd l0 x16_1), (0), rfl, rfl, H', ⟨Nat.le_refl _⟩, ⟨by (with_reducible repeat (first | apply Kd.R_alloc | apply Kd.R_drewN | apply Kd.R_drew)); exact HO_3.out⟩, ⟨HB.out⟩⟩
         case round =>
          clear H'
          try clear c1
          try clear c2
          try clear c2b0
          try clear c2b1
          try clear c2b2
          try clear p2
          try clear p3
          try clear q3
          try clear hx3
          try clear c4
          try clear c4b0
          try clear c4b1
          try clear c5
          try clear c5b0
          try clear c5b1
          try clear p6
          try clear c8
          try clear c8b0
          try clear c9
          try clear c9b0
          try clear c10
          try clear c10b0
          try clear hx330_0
          try clear p2
          try clear p330
          try clear p6
          try clear q330
          obtain ⟨x3_2, x5_2, x21_2, rfl, rfl, HA, HK2, HO_3, HB⟩ := hrel
          cases gk with
          | zero => exact absurd HA.out (by simp [rational_natural_String.l1])
          | succ k2 =>
           have H := HA.out
           clear HA
           simp only [rational_natural_String.l1] at H
           by_cases c11 : x21_2 < 9
           ·rw [if_pos c11] at H
            have c11b0 : decide (x21_2 < 9) = true := decide_eq_true c11
            clear c11
            obtain ⟨ji12, hji12⟩ : ∃ j_ : Int, (wrap64 ((wrap64 ((wrap64 ((x3_2.length : Int) - 1)) - (wrap64 (9 * x16_1)))) - x21_2)) = j_ := ⟨_, rfl⟩
            replace H : (if 0 ≤ (ji12) then (if (ji12) < (x3_2.length : Int) then (rational_natural_String.l1 k2 (x3_2.set ((ji12) : Int).toNat ((48 + ((Int.tmod x5_2 10) % 256)) % 256)) x16_1 ((Int.tdiv x5_2 10) % 4294967296) l0 (l0.length : Int) x16_1 (wrap64 (x21_2 + 1))) else (none)) else (none)) = some r := by first | (rw [hji12] at H; exact H) | (simp only [hji12] at H ⊢; exact H)
            have hji12w : (IntKind.i64.wrap ((wrap64 ((wrap64 ((x3_2.length : Int) - 1)) - (wrap64 (9 * x16_1)))) - x21_2)) = ji12 := (i64_w _).trans hji12
            by_cases c13 : 0 ≤ (ji12)
            ·rw [if_pos c13] at H
             have c13b0 : decide (0 ≤ (ji12)) = true := decide_eq_true c13
             clear c13
             by_cases c14 : (ji12) < (x3_2.length : Int)
             ·rw [if_pos c14] at H
              have c14b0 : decide ((ji12) < (x3_2.length : Int)) = true := decide_eq_true c14
              clear c14
              obtain ⟨y331, hy331⟩ : ∃ y_ : List Int, y_ = (x3_2.set ((ji12) : Int).toNat ((48 + ((Int.tmod x5_2 10) % 256)) % 256)) := ⟨_, rfl⟩
              replace H : (rational_natural_String.l1 k2 y331 x16_1 ((Int.tdiv x5_2 10) % 4294967296) l0 (l0.length : Int) x16_1 (wrap64 (x21_2 + 1))) = some r := by first | (rw [hy331]; with_reducible exact H) | (have H2_ := (Option.bind_some _ _).symm.trans H; rw [hy331]; with_reducible exact H2_) | (have H2_ := (Option.bind_some _ _).symm.trans H; with_reducible exact H2_) | with_reducible exact H | (rw [hy331]; exact H) | exact H
              have Ny331 := Aside0.mk hy331
              clear hy331
              have H' := Aside0.mk H
              clear H
              obtain ⟨Ao16, co16, eo16⟩ := Kd.R_slice HO_3.out
              subst eo16
              have p15 : 0 ≤ ((ji12) : Int) := of_decide_eq_true (by assumption)
              have q15 : ((ji12) : Int) < ((x3_2.length : Int) : Int) := of_decide_eq_true (by assumption)
              obtain ⟨go15, co15, eo15, gb15, gl15, cl15, HG15⟩ := Kd.R_form HO_3.out (by omega)
              (first | cases eo15 | (injection eo15 with ea_ en_ ec_; (first | subst ea_ | (injection ea_ with ea_; subst ea_)); subst ec_; clear en_))
              have GB15 := Aside0.mk gb15
              have GG15 := Aside0.mk HG15
              clear gb15 gl15 HG15
              obtain ⟨hx15_0, hf15_0⟩ := Kd.R_celln 0 HO_3.out ((ji12) : Int) p15 q15
              replace p15 := eq_true p15
              replace q15 := eq_true q15
              have HP17 := Kd.R_putg HO_3.out ((ji12) : Int) ((48 + ((Int.tmod x5_2 10) % 256)) % 256)
              go_wp2_with (first | ((with_reducible refine gate_store (t := 5) (p := 37) rfl ?_); refine store_event (t := 5) (p := 37) (v := ?vo_w18) (w1 := (wr.setCell ⟨go15, ((ji12) : Int).toNat, none⟩ (.int .u8 ((48 + ((Int.tmod x5_2 10) % 256)) % 256)))) ?hg ?ho ?hn ?hr ?_; (case ho => rfl); (case hg => rfl); (case hn => rfl); (case hr => go_simp); intro w18 hw; have hg : wr.grownBy w18 (some go15) := (by rw [hw]; exact HP17.2); have hp_ : Kd.R (Kd.int .u8) 5 w18 w.heap.size (fun _ => True) (.slice (some ⟨go15, 0, none⟩) x3_2.length co16) y331 := (by rw [hw, Ny331.out]; exact HP17.1); clear HP17; have n0_ := Aside0.mk (hp_); have n1_ := Aside0.mk ((by rw [hw]; exact below_set (HB.out) GB15.out : Below w.heap.size w w18)); clear HO_3; clear HB; have HO_3 := n0_; have HB := n1_; clear n0_ n1_; clear hg hw hp_))
              go_roundg k2
              case measure => have := HK1.out; have := HK2.out; omega
              case rel => exact ⟨(y331), ((Int.tdiv x5_2 10) % 4294967296), (wrap64 (x21_2 + 1)), rfl, rfl, H', ⟨by have := HK1.out; have := HK2.out; omega⟩, ⟨by (with_reducible repeat (first | apply Kd.R_alloc | apply Kd.R_drewN | apply Kd.R_drew)); exact HO_3.out⟩, ⟨HB.out⟩⟩
             ·rw [if_neg c14] at H
              exact absurd H (by simp)
            ·rw [if_neg c13] at H
             exact absurd H (by simp)
           ·rw [if_neg c11] at H
            have c11b0 : decide (x21_2 < 9) = false := decide_eq_false c11
            clear c11
            have H' := Aside0.mk H
            clear H
            go_wp2
            go_roundg k2
            case measure => have := HK1.out; have := HK2.out; omega
            case rel => exact ⟨(x3_2), (wrap64 (x16_1 + 1)), rfl, H', ⟨by have := HK1.out; have := HK2.out; omega⟩, ⟨by (with_reducible repeat (first | apply Kd.R_alloc | apply Kd.R_drewN | apply Kd.R_drew)); exact HO_3.out⟩, ⟨HB.out⟩⟩
        ·rw [if_neg c10] at H
         exact absurd H (by simp)
       ·rw [if_neg c9] at H
        exact absurd H (by simp)
      ·rw [if_neg c8] at H
       have c8b0 : decide (x16_1 < (l0.length : Int)) = false := decide_eq_false c8
       clear c8
       replace H := Option.bind_eq_some_iff.mp H
       obtain ⟨t329, A190, H⟩ := H
       (try dsimp only at H)
       have A19 := Aside0.mk A190
       clear A190
       obtain rfl := Option.some.inj H
       have hcv20 := own_string (P := Tryd.prog) Tryd.underlying36 Tryd.underlying5 Tryd.underlying9 (Kd.own_of_R HO_3.out)
       go_wp2_with (first | ((with_reducible refine gate_callee (f := 144) rfl ?_); refine goesL_ (some 44) rfl rfl Tryd.func144 (by kernel_rfl) rfl #[.string (strOfNums x3_1), .string (⟨#[48]⟩ : ByteArray)] rfl (by (try simp only [List.map_toArray, List.map_cons, List.map_nil]); first | done | rfl) ?_; (with_reducible refine (strings_TrimLeft.calls k1 (strOfNums x3_1) (⟨#[48]⟩ : ByteArray) t329 _ A19.out).mono ?_); rintro e w' ⟨rfl, ⟨nd, rfl⟩⟩; refine ⟨_, rfl, ?_⟩))
       go_ret
       exact ⟨by first | rfl | (simp [errW_none, errW_some] <;> rfl) | (simp only [← hji3]; first | rfl | (simp [errW_none, errW_some] <;> rfl)) | (simp [*, errW_none, errW_some] <;> rfl), by repeat (first | (with_reducible first | exact HB.out | apply below_alloc | apply pw_below_drewN | apply below_drew1) | exact HB.out)⟩
   ·rw [if_neg c5] at H
    exact absurd H (by simp)
  ·rw [if_neg c4] at H
   exact absurd H (by simp)
/-! ### rational_abs: function 71 -/
def rational_abs.f (a0 : Int) : Option (Int) := if a0 < 0 then (some (IntKind.u64.wrap (-(IntKind.u64.wrap (a0))))) else (some (IntKind.u64.wrap (a0)))
set_option maxHeartbeats 8000000 in
set_option maxRecDepth 100000 in
theorem rational_abs.calls (a0 : Int) (r : Int) (w : World) (h : rational_abs.f a0 = some r) :
  Calls Tryd.prog 71 #[.int .i64 a0] w fun e w' => e = .returned (.int .u64 r) ∧ Drawn0 w w' := by
 have H : (if a0 < 0 then (some (IntKind.u64.wrap (-(IntKind.u64.wrap (a0))))) else (some (IntKind.u64.wrap (a0)))) = some r := h
 clear h
 by_cases c2 : a0 < 0
 ·rw [if_pos c2] at H
  have c2b0 : decide (a0 < 0) = true := decide_eq_true c2
  clear c2
  obtain rfl := Option.some.inj H
  go_enter Tryd.func71, Tryd.ntmps71
  go_wp2
  go_ret
  exact ⟨by first | rfl | (simp; done) | (simp [*]; done), by repeat (first | exact Drawn0.refl _ | apply Drawn0.step)⟩
 ·rw [if_neg c2] at H
  have c2b0 : decide (a0 < 0) = false := decide_eq_false c2
  clear c2
  obtain rfl := Option.some.inj H
  go_enter Tryd.func71, Tryd.ntmps71
  go_wp2
  go_ret
  exact ⟨by first | rfl | (simp; done) | (simp [*]; done), by repeat (first | exact Drawn0.refl _ | apply Drawn0.step)⟩
end Go.Proofs.YtplpmndchdockaaDoor.Pr
