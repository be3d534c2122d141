-- Written by a program of this session over the kit's print of the translation. Not trusted: Lean checks it.
import Derived.Test.YtplpmndchdockaaDoorPr0
import Derived.Test.YtplpmndchdockaaDoorLa
namespace Go.Proofs.YtplpmndchdockaaDoor.Pr
open Go.RowKit Go.Proofs.YtplpmndchdockaaDoorV.PrintWords Go.Proofs.YtplpmndchdockaaDoorV.PrintLast Go.Proofs.YtplpmndchdockaaDoorV.PrintMore
attribute [local go_sem] max2_int min2_int max_two min_two max_three min_three max_four min_four   -- for this text's walks alone
set_option linter.unusedVariables false
set_option linter.unusedSimpArgs false
/-! ### rational_divNat: function 60 -/
mutual
def rational_divNat.l0 : Nat → List Int → List Int → Int → List Int → List Int → Int → Option (List Int × List Int)
 | 0, _, _, _, _, _, _ => none
 | k + 1, x6, x8, x9, x10, x11, x12 => if x12 ≥ 0 then (if 0 ≤ (wrap64 (x12 + x9)) then (if (wrap64 (x12 + x9)) < (x10.length : Int) then (if 0 ≤ (wrap64 ((wrap64 (x12 + x9)) - 1)) then (if (wrap64 ((wrap64 (x12 + x9)) - 1)) < (x10.length : Int) then (if 0 ≤ (wrap64 (x9 - 1)) then (if (wrap64 (x9 - 1)) < (x8.length : Int) then (if (IntKind.u64.wrap (rd x8 (wrap64 (x9 - 1)))) = 0 then (none) else (rational_divNat.l1 k x6 x8 x9 x10 x11 x12 (IntKind.u64.wrap (Int.tdiv (IntKind.u64.wrap ((IntKind.u64.wrap ((IntKind.u64.wrap (rd x10 (wrap64 (x12 + x9)))) * 1000000000)) + (IntKind.u64.wrap (rd x10 (wrap64 ((wrap64 (x12 + x9)) - 1)))))) (IntKind.u64.wrap (rd x8 (wrap64 (x9 - 1)))))) (Int.tmod (IntKind.u64.wrap ((IntKind.u64.wrap ((IntKind.u64.wrap (rd x10 (wrap64 (x12 + x9)))) * 1000000000)) + (IntKind.u64.wrap (rd x10 (wrap64 ((wrap64 (x12 + x9)) - 1)))))) (IntKind.u64.wrap (rd x8 (wrap64 (x9 - 1))))))) else (none)) else (none)) else (none)) else (none)) else (none)) else (none)) else ((rational_trim.f k x10).bind fun t189 => (if 0 < (x6.length : Int) then ((rational_small.f k t189 (rd x6 0)).bind fun bt193 => ((rational_trim.f k x11).bind fun t199 => (some (t199, bt193.1)))) else (none)))
def rational_divNat.j3 : Nat → List Int → List Int → Int → List Int → List Int → Int → Int → Option (List Int × List Int)
 | 0, _, _, _, _, _, _, _ => none
 | k + 1, x6, x8, x9, x10, x11, x12, x14 => if 0 ≤ x12 then (if x12 ≤ (wrap64 ((wrap64 (x12 + x9)) + 1)) then (if (wrap64 ((wrap64 (x12 + x9)) + 1)) ≤ (x10.length : Int) then ((rational_reduceSub.f k x10 x12 (wrap64 ((wrap64 (x12 + x9)) + 1)) x8 x14).bind fun bt213 => (if bt213.1 = true then (if x12 < (x11.length : Int) then (rational_divNat.l0 k x6 x8 x9 bt213.2 (x11.set (x12 : Int).toNat ((x14) % 4294967296)) (wrap64 (x12 - 1))) else (none)) else ((rational_restoreSub.f k bt213.2 x12 (wrap64 ((wrap64 (x12 + x9)) + 1)) x8).bind fun t220 => (if x12 < (x11.length : Int) then (rational_divNat.l0 k x6 x8 x9 t220 (x11.set (x12 : Int).toNat ((IntKind.u64.wrap (x14 - 1)) % 4294967296)) (wrap64 (x12 - 1))) else (none))))) else (none)) else (none)) else (none)
def rational_divNat.l1 : Nat → List Int → List Int → Int → List Int → List Int → Int → Int → Int → Option (List Int × List Int)
 | 0, _, _, _, _, _, _, _, _ => none
 | k + 1, x6, x8, x9, x10, x11, x12, x14, x15 => if x14 ≥ 1000000000 then (rational_divNat.j2 k x6 x8 x9 x10 x11 x12 x14 x15 true) else (if 0 ≤ (wrap64 (x9 - 2)) then (if (wrap64 (x9 - 2)) < (x8.length : Int) then (if 0 ≤ (wrap64 ((wrap64 (x12 + x9)) - 2)) then (if (wrap64 ((wrap64 (x12 + x9)) - 2)) < (x10.length : Int) then (rational_divNat.j2 k x6 x8 x9 x10 x11 x12 x14 x15 (decide ((IntKind.u64.wrap (x14 * (IntKind.u64.wrap (rd x8 (wrap64 (x9 - 2)))))) > (IntKind.u64.wrap ((IntKind.u64.wrap (x15 * 1000000000)) + (IntKind.u64.wrap (rd x10 (wrap64 ((wrap64 (x12 + x9)) - 2))))))))) else (none)) else (none)) else (none)) else (none))
def rational_divNat.j2 : Nat → List Int → List Int → Int → List Int → List Int → Int → Int → Int → Bool → Option (List Int × List Int)
 | 0, _, _, _, _, _, _, _, _, _ => none
 | k + 1, x6, x8, x9, x10, x11, x12, x14, x15, x124 => if x124 = true then (if 0 ≤ (wrap64 (x9 - 1)) then (if (wrap64 (x9 - 1)) < (x8.length : Int) then (if (IntKind.u64.wrap (x15 + (IntKind.u64.wrap (rd x8 (wrap64 (x9 - 1)))))) ≥ 1000000000 then (rational_divNat.j3 k x6 x8 x9 x10 x11 x12 (IntKind.u64.wrap (x14 - 1))) else (rational_divNat.l1 k x6 x8 x9 x10 x11 x12 (IntKind.u64.wrap (x14 - 1)) (IntKind.u64.wrap (x15 + (IntKind.u64.wrap (rd x8 (wrap64 (x9 - 1)))))))) else (none)) else (none)) else (rational_divNat.j3 k x6 x8 x9 x10 x11 x12 x14)
end
def rational_divNat.f (k : Nat) (l0 : List Int) (l1 : List Int) : Option (List Int × List Int) := (rational_cmpNat.f k l0 l1).bind fun t162 => (if t162 < 0 then (some (([] : List Int), l0)) else (if (l1.length : Int) = 1 then (if 0 < (l1.length : Int) then ((rational_small.f k l0 (rd l1 0)).bind fun bt164 => (some (bt164.1, bt164.2))) else (none)) else (if 0 ≤ (wrap64 ((l1.length : Int) - 1)) then (if (wrap64 ((l1.length : Int) - 1)) < (l1.length : Int) then (if (((rd l1 (wrap64 ((l1.length : Int) - 1))) + 1) % 4294967296) = 0 then (none) else ((some (([(1000000000 : Int) / (((rd l1 (wrap64 ((l1.length : Int) - 1))) + 1) % 4294967296)] : List Int) : List Int)).bind fun y171 => ((rational_mulNat.f k l0 y171).bind fun t174 => ((rational_mulNat.f k l1 y171).bind fun t177 => ((rational_natural_uint32.f t174).bind fun t180 => (if t180.length < 35184372088832 then (if 0 ≤ (wrap64 ((wrap64 ((t174.length : Int) - (t177.length : Int))) + 1)) then (if (wrap64 ((wrap64 ((t174.length : Int) - (t177.length : Int))) + 1) : Int).toNat ≤ 70368744177664 then (rational_divNat.l0 k y171 t177 (t177.length : Int) (t180 ++ [0]) (List.replicate (wrap64 ((wrap64 ((t174.length : Int) - (t177.length : Int))) + 1) : Int).toNat 0) (wrap64 ((t174.length : Int) - (t177.length : Int)))) else (none)) else (none)) else (none))))))) else (none)) else (none))))
theorem rational_divNat.mono_l : ∀ k, (∀ y0 y1 y2 y3 y4 y5, LeO (rational_divNat.l0 k y0 y1 y2 y3 y4 y5) (rational_divNat.l0 (k + 1) y0 y1 y2 y3 y4 y5)) ∧ (∀ y0 y1 y2 y3 y4 y5 y6, LeO (rational_divNat.j3 k y0 y1 y2 y3 y4 y5 y6) (rational_divNat.j3 (k + 1) y0 y1 y2 y3 y4 y5 y6)) ∧ (∀ y0 y1 y2 y3 y4 y5 y6 y7, LeO (rational_divNat.l1 k y0 y1 y2 y3 y4 y5 y6 y7) (rational_divNat.l1 (k + 1) y0 y1 y2 y3 y4 y5 y6 y7)) ∧ (∀ y0 y1 y2 y3 y4 y5 y6 y7 y8, LeO (rational_divNat.j2 k y0 y1 y2 y3 y4 y5 y6 y7 y8) (rational_divNat.j2 (k + 1) y0 y1 y2 y3 y4 y5 y6 y7 y8))
 | 0 => ⟨fun _ _ _ _ _ _ r h => by simp [rational_divNat.l0] at h, fun _ _ _ _ _ _ _ r h => by simp [rational_divNat.j3] at h, fun _ _ _ _ _ _ _ _ r h => by simp [rational_divNat.l1] at h, fun _ _ _ _ _ _ _ _ _ r h => by simp [rational_divNat.j2] at h⟩
 | k + 1 => by
  obtain ⟨ih0, ih1, ih2, ih3⟩ := rational_divNat.mono_l k
  refine ⟨?_, ?_, ?_, ?_⟩
  ·intro y0 y1 y2 y3 y4 y5
   unfold rational_divNat.l0
   repeat' first
   | (with_reducible exact ih0 _ _ _ _ _ _)
   | (with_reducible exact ih1 _ _ _ _ _ _ _)
   | (with_reducible exact ih2 _ _ _ _ _ _ _ _)
   | (with_reducible exact ih3 _ _ _ _ _ _ _ _ _)
   | (with_reducible exact rational_cmpNat.mono _ _ _)
   | (with_reducible exact rational_mulNat.mono _ _ _)
   | (with_reducible exact rational_reduceSub.mono _ _ _ _ _ _)
   | (with_reducible exact rational_restoreSub.mono _ _ _ _ _)
   | (with_reducible exact rational_small.mono _ _ _)
   | (with_reducible exact rational_trim.mono _ _)
   | (with_reducible exact LeO.refl _)
   | (with_reducible exact LeO.none _)
   | (with_reducible refine LeO.ite ?_ ?_)
   | (with_reducible refine LeO.bind ?_ (fun _ => ?_))
   | exact ih0 _ _ _ _ _ _
   | exact ih1 _ _ _ _ _ _ _
   | exact ih2 _ _ _ _ _ _ _ _
   | exact ih3 _ _ _ _ _ _ _ _ _
   | exact rational_cmpNat.mono _ _ _
   | exact rational_mulNat.mono _ _ _
   | exact rational_reduceSub.mono _ _ _ _ _ _
   | exact rational_restoreSub.mono _ _ _ _ _
   | exact rational_small.mono _ _ _
   | exact rational_trim.mono _ _
   | exact LeO.none _
   | refine LeO.ite ?_ ?_
   | refine LeO.bind ?_ (fun _ => ?_)
  ·intro y0 y1 y2 y3 y4 y5 y6
   unfold rational_divNat.j3
   repeat' first
   | (with_reducible exact ih0 _ _ _ _ _ _)
   | (with_reducible exact ih1 _ _ _ _ _ _ _)
   | (with_reducible exact ih2 _ _ _ _ _ _ _ _)
   | (with_reducible exact ih3 _ _ _ _ _ _ _ _ _)
   | (with_reducible exact rational_cmpNat.mono _ _ _)
   | (with_reducible exact rational_mulNat.mono _ _ _)
   | (with_reducible exact rational_reduceSub.mono _ _ _ _ _ _)
   | (with_reducible exact rational_restoreSub.mono _ _ _ _ _)
   | (with_reducible exact rational_small.mono _ _ _)
   | (with_reducible exact rational_trim.mono _ _)
   | (with_reducible exact LeO.refl _)
   | (with_reducible exact LeO.none _)
   | (with_reducible refine LeO.ite ?_ ?_)
   | (with_reducible refine LeO.bind ?_ (fun _ => ?_))
   | exact ih0 _ _ _ _ _ _
   | exact ih1 _ _ _ _ _ _ _
   | exact ih2 _ _ _ _ _ _ _ _
   | exact ih3 _ _ _ _ _ _ _ _ _
   | exact rational_cmpNat.mono _ _ _
   | exact rational_mulNat.mono _ _ _
   | exact rational_reduceSub.mono _ _ _ _ _ _
   | exact rational_restoreSub.mono _ _ _ _ _
   | exact rational_small.mono _ _ _
   | exact rational_trim.mono _ _
   | exact LeO.none _
   | refine LeO.ite ?_ ?_
   | refine LeO.bind ?_ (fun _ => ?_)
  ·intro y0 y1 y2 y3 y4 y5 y6 y7
   unfold rational_divNat.l1
   repeat' first
   | (with_reducible exact ih0 _ _ _ _ _ _)
   | (with_reducible exact ih1 _ _ _ _ _ _ _)
   | (with_reducible exact ih2 _ _ _ _ _ _ _ _)
   | (with_reducible exact ih3 _ _ _ _ _ _ _ _ _)
   | (with_reducible exact rational_cmpNat.mono _ _ _)
   | (with_reducible exact rational_mulNat.mono _ _ _)
   | (with_reducible exact rational_reduceSub.mono _ _ _ _ _ _)
   | (with_reducible exact rational_restoreSub.mono _ _ _ _ _)
   | (with_reducible exact rational_small.mono _ _ _)
   | (with_reducible exact rational_trim.mono _ _)
   | (with_reducible exact LeO.refl _)
   | (with_reducible exact LeO.none _)
   | (with_reducible refine LeO.ite ?_ ?_)
   | (with_reducible refine LeO.bind ?_ (fun _ => ?_))
   | exact ih0 _ _ _ _ _ _
   | exact ih1 _ _ _ _ _ _ _
   | exact ih2 _ _ _ _ _ _ _ _
   | exact ih3 _ _ _ _ _ _ _ _ _
   | exact rational_cmpNat.mono _ _ _
   | exact rational_mulNat.mono _ _ _
   | exact rational_reduceSub.mono _ _ _ _ _ _
   | exact rational_restoreSub.mono _ _ _ _ _
   | exact rational_small.mono _ _ _
   | exact rational_trim.mono _ _
   | exact LeO.none _
   | refine LeO.ite ?_ ?_
   | refine LeO.bind ?_ (fun _ => ?_)
  ·intro y0 y1 y2 y3 y4 y5 y6 y7 y8
   unfold rational_divNat.j2
   repeat' first
   | (with_reducible exact ih0 _ _ _ _ _ _)
   | (with_reducible exact ih1 _ _ _ _ _ _ _)
   | (with_reducible exact ih2 _ _ _ _ _ _ _ _)
   | (with_reducible exact ih3 _ _ _ _ _ _ _ _ _)
   | (with_reducible exact rational_cmpNat.mono _ _ _)
   | (with_reducible exact rational_mulNat.mono _ _ _)
   | (with_reducible exact rational_reduceSub.mono _ _ _ _ _ _)
   | (with_reducible exact rational_restoreSub.mono _ _ _ _ _)
   | (with_reducible exact rational_small.mono _ _ _)
   | (with_reducible exact rational_trim.mono _ _)
   | (with_reducible exact LeO.refl _)
   | (with_reducible exact LeO.none _)
   | (with_reducible refine LeO.ite ?_ ?_)
   | (with_reducible refine LeO.bind ?_ (fun _ => ?_))
   | exact ih0 _ _ _ _ _ _
   | exact ih1 _ _ _ _ _ _ _
   | exact ih2 _ _ _ _ _ _ _ _
   | exact ih3 _ _ _ _ _ _ _ _ _
   | exact rational_cmpNat.mono _ _ _
   | exact rational_mulNat.mono _ _ _
   | exact rational_reduceSub.mono _ _ _ _ _ _
   | exact rational_restoreSub.mono _ _ _ _ _
   | exact rational_small.mono _ _ _
   | exact rational_trim.mono _ _
   | exact LeO.none _
   | refine LeO.ite ?_ ?_
   | refine LeO.bind ?_ (fun _ => ?_)
theorem rational_divNat.mono : ∀ a0 a1 k, LeO (rational_divNat.f k a0 a1) (rational_divNat.f (k + 1) a0 a1) := by
 intro a0 a1 k
 obtain ⟨ih0, ih1, ih2, ih3⟩ := rational_divNat.mono_l k
 unfold rational_divNat.f
 repeat' first
   | (with_reducible exact ih0 _ _ _ _ _ _)
   | (with_reducible exact ih1 _ _ _ _ _ _ _)
   | (with_reducible exact ih2 _ _ _ _ _ _ _ _)
   | (with_reducible exact ih3 _ _ _ _ _ _ _ _ _)
   | (with_reducible exact rational_cmpNat.mono _ _ _)
   | (with_reducible exact rational_mulNat.mono _ _ _)
   | (with_reducible exact rational_reduceSub.mono _ _ _ _ _ _)
   | (with_reducible exact rational_restoreSub.mono _ _ _ _ _)
   | (with_reducible exact rational_small.mono _ _ _)
   | (with_reducible exact rational_trim.mono _ _)
   | (with_reducible exact LeO.refl _)
   | (with_reducible exact LeO.none _)
   | (with_reducible refine LeO.ite ?_ ?_)
   | (with_reducible refine LeO.bind ?_ (fun _ => ?_))
   | exact ih0 _ _ _ _ _ _
   | exact ih1 _ _ _ _ _ _ _
   | exact ih2 _ _ _ _ _ _ _ _
   | exact ih3 _ _ _ _ _ _ _ _ _
   | exact rational_cmpNat.mono _ _ _
   | exact rational_mulNat.mono _ _ _
   | exact rational_reduceSub.mono _ _ _ _ _ _
   | exact rational_restoreSub.mono _ _ _ _ _
   | exact rational_small.mono _ _ _
   | exact rational_trim.mono _ _
   | exact LeO.none _
   | refine LeO.ite ?_ ?_
   | refine LeO.bind ?_ (fun _ => ?_)
def rational_divNat.T13 : Bool × List (List Nat × List Nat) := (true, [([], []), ([], []), ([], []), ([1, 2], [1, 2]), ([0, 3], [0, 3]), ([4], [4]), ([5], [5]), ([6], [6]), ([], []), ([], []), ([], []), ([9, 10], [9, 10]), ([11], [11]), ([8, 12], [8, 12]), ([13], [13]), ([14], [14]), ([7, 15], [7, 15]), ([16, 0, 1, 2, 3, 4, 5, 6, 7, 8, 9, 10, 11, 12, 13, 14, 15, 16], [16])])
def rational_divNat.B13 : List Nat := [0, 0, 0, 6, 15, 31, 63, 127, 0, 0, 0, 1536, 3584, 7936, 16128, 32512, 65535, 131071]
theorem rational_divNat.tab13 : rtab .any (opsOf Tryd.f60 13) = rational_divNat.T13 := by kernel_rfl
theorem rational_divNat.bits13 : waitsOk rational_divNat.T13.2 rational_divNat.B13 = true := by kernel_rfl
def rational_divNat.T14 : Bool × List (List Nat × List Nat) := (true, [([], []), ([], []), ([], []), ([2], [2]), ([1, 3], [1, 3]), ([4], [4]), ([5], [5]), ([0, 6], [0, 6]), ([], []), ([], []), ([], []), ([10], [10]), ([9, 11], [9, 11]), ([12], [12]), ([13], [13]), ([8, 14], [8, 14]), ([7, 0, 1, 2, 3, 4, 5, 6, 7], [7]), ([15, 16, 0, 1, 2, 3, 4, 5, 6, 7, 8, 9, 10, 11, 12, 13, 14, 15, 16], [15])])
def rational_divNat.B14 : List Nat := [0, 0, 0, 4, 14, 30, 62, 127, 0, 0, 0, 1024, 3584, 7680, 15872, 32512, 255, 131071]
theorem rational_divNat.tab14 : rtab .any (opsOf Tryd.f60 14) = rational_divNat.T14 := by kernel_rfl
theorem rational_divNat.bits14 : waitsOk rational_divNat.T14.2 rational_divNat.B14 = true := by kernel_rfl
def rational_divNat.T15 : Bool × List (List Nat × List Nat) := (true, [([], []), ([0], [0]), ([1], [1]), ([2], [2]), ([2], [2]), ([2], [2]), ([5, 2], [2, 5]), ([4, 6, 2], [2, 4, 6]), ([7, 2], [2, 7]), ([8, 2], [2, 8]), ([3, 9, 2], [2, 3, 9]), ([2], [2]), ([11, 2], [2, 11]), ([2], [2]), ([2], [2]), ([2], [2]), ([14, 15, 2], [2, 14, 15]), ([16, 2], [2, 16]), ([13, 17, 2], [2, 13, 17]), ([18, 2], [2, 18]), ([19, 2], [2, 19]), ([12, 20, 2], [2, 12, 20]), ([10, 21, 2], [2, 10, 21]), ([2, 22], [2, 22])])
def rational_divNat.B15 : List Nat := [0, 1, 3, 7, 7, 7, 39, 119, 247, 503, 1023, 7, 2055, 7, 7, 7, 49159, 114695, 253959, 516103, 1040391, 2095111, 4194303, 8388607]
theorem rational_divNat.tab15 : rtab .any (opsOf Tryd.f60 15) = rational_divNat.T15 := by kernel_rfl
theorem rational_divNat.bits15 : waitsOk rational_divNat.T15.2 rational_divNat.B15 = true := by kernel_rfl
def rational_divNat.T23 : Bool × List (List Nat × List Nat) := (true, [([], []), ([0], [0]), ([], []), ([2], [2]), ([3], [3]), ([1, 4, 1], [1, 4]), ([5], [5]), ([6], [6]), ([6], [6]), ([7, 5, 0, 1, 2, 3, 4, 5, 6, 7], [7]), ([8, 9, 0, 1, 2, 3, 4, 5, 6, 7, 8, 9], [8])])
def rational_divNat.B23 : List Nat := [0, 1, 0, 4, 12, 31, 63, 127, 127, 255, 1023]
theorem rational_divNat.tab23 : rtab .any (opsOf Tryd.f60 23) = rational_divNat.T23 := by kernel_rfl
theorem rational_divNat.bits23 : waitsOk rational_divNat.T23.2 rational_divNat.B23 = true := by kernel_rfl
set_option maxHeartbeats 8000000 in
set_option maxRecDepth 100000 in
theorem rational_divNat.calls (k : Nat) (P0_ : Nat → Prop) (A0 : Option Addr) (c0 : Nat) (l0 : List Int) (A1 : Option Addr) (c1 : Nat) (l1 : List Int) (r1 : List Int) (r2 : List Int) (w : World) (hs0 : Kd.V (Kd.int .u32) 90 w w.heap.size (fun k_ => P0_ k_) (.slice A0 l0.length c0) l0) (hr1 : Kd.C (Kd.int .u32) w A1 l1.length l1) (hc1 : l1.length ≤ c1) (h : rational_divNat.f k l0 l1 = some (r1, r2)) :
  Calls Tryd.prog 60 #[.slice A0 l0.length c0, .slice A1 l1.length c1] w fun e w' => ∃ v0_ v1_ : Value, e = .returned (.tuple #[v0_, v1_]) ∧ Kd.V (Kd.int .u32) 90 w' w.heap.size (fun k_ => (P0_ k_ ∨ w.heap.size ≤ k_)) v0_ r1 ∧ Kd.V (Kd.int .u32) 90 w' w.heap.size (fun k_ => (P0_ k_ ∨ w.heap.size ≤ k_)) v1_ r2 ∧ Below w.heap.size w w' := by
 have HO0 := Aside0.mk (show Kd.V (Kd.int .u32) 90 w w.heap.size (fun k_ => (P0_ k_ ∨ w.heap.size ≤ k_)) (.slice A0 l0.length c0) l0 from Kd.V_mono hs0 (fun k_ hk => .inl hk))
 have HR1 := Aside0.mk hr1
 have HC1 := Aside0.mk hc1
 clear hr1 hc1
 have HB := Aside0.mk (Below.refl w.heap.size w)
 have H : ((rational_cmpNat.f k l0 l1).bind fun t162 => (if t162 < 0 then (some (([] : List Int), l0)) else (if (l1.length : Int) = 1 then (if 0 < (l1.length : Int) then ((rational_small.f k l0 (rd l1 0)).bind fun bt164 => (some (bt164.1, bt164.2))) else (none)) else (if 0 ≤ (wrap64 ((l1.length : Int) - 1)) then (if (wrap64 ((l1.length : Int) - 1)) < (l1.length : Int) then (if (((rd l1 (wrap64 ((l1.length : Int) - 1))) + 1) % 4294967296) = 0 then (none) else ((some (([(1000000000 : Int) / (((rd l1 (wrap64 ((l1.length : Int) - 1))) + 1) % 4294967296)] : List Int) : List Int)).bind fun y171 => ((rational_mulNat.f k l0 y171).bind fun t174 => ((rational_mulNat.f k l1 y171).bind fun t177 => ((rational_natural_uint32.f t174).bind fun t180 => (if t180.length < 35184372088832 then (if 0 ≤ (wrap64 ((wrap64 ((t174.length : Int) - (t177.length : Int))) + 1)) then (if (wrap64 ((wrap64 ((t174.length : Int) - (t177.length : Int))) + 1) : Int).toNat ≤ 70368744177664 then (rational_divNat.l0 k y171 t177 (t177.length : Int) (t180 ++ [0]) (List.replicate (wrap64 ((wrap64 ((t174.length : Int) - (t177.length : Int))) + 1) : Int).toNat 0) (wrap64 ((t174.length : Int) - (t177.length : Int)))) else (none)) else (none)) else (none))))))) else (none)) else (none))))) = some (r1, r2) := h
 clear h
 replace H := Option.bind_eq_some_iff.mp H
 obtain ⟨t162, A30, H⟩ := H
 (try dsimp only at H)
 have A3 := Aside0.mk A30
 clear A30
 by_cases c4 : t162 < 0
 ·rw [if_pos c4] at H
  have c4b0 : decide (t162 < 0) = true := decide_eq_true c4
  clear c4
  simp only [Option.some.injEq, Prod.mk.injEq] at H
  obtain ⟨rfl, rfl⟩ := H
  go_enter Tryd.func60, Tryd.ntmps60
  go_wp2_with (first | ((with_reducible refine gate_callee (f := 64) rfl ?_); refine goesL_ (some 20) rfl rfl Tryd.func64 (by kernel_rfl) rfl #[.slice A0 l0.length c0, .slice A1 l1.length c1] rfl (by (try simp only [List.map_toArray, List.map_cons, List.map_nil]); first | done | rfl) ?_; (with_reducible refine (rational_cmpNat.calls k _ _ l0 _ _ l1 t162 _ ?side1 ?side2 ?side3 ?side4 A3.out).mono ?_); (case side1 => repeat (first | exact (Kd.V_reads' HO0.out).2.2 | (with_reducible refine Kd.C_alloc ?_ _) | (with_reducible refine Kd.C_drewN ?_ _) | (with_reducible refine Kd.C_drew ?_))); (case side2 => exact (Kd.V_reads' HO0.out).2.1); (case side3 => repeat (first | exact HR1.out | (with_reducible refine Kd.C_alloc ?_ _) | (with_reducible refine Kd.C_drewN ?_ _) | (with_reducible refine Kd.C_drew ?_))); (case side4 => exact HC1.out); rintro e w' ⟨rfl, ⟨nd, rfl⟩⟩; refine ⟨_, rfl, ?_⟩))
  go_ret2
  exact ⟨.slice none 0 0, _, by first | rfl | (simp [errW_none, errW_some] <;> rfl) | (simp [*, errW_none, errW_some] <;> rfl), (by first | exact Kd.V_nil _ _ _ _ _ | exact Kd.R_V (Kd.R_nil _ _ _ _ _)), by (with_reducible repeat (first | apply Kd.V_alloc | apply Kd.V_drewN | apply Kd.V_drew)); exact HO0.out, by repeat (first | (with_reducible first | exact HB.out | apply below_alloc | apply pw_below_drewN | apply below_drew1) | exact HB.out)⟩
 ·rw [if_neg c4] at H
  have c4b0 : decide (t162 < 0) = false := decide_eq_false c4
  clear c4
  by_cases c5 : (l1.length : Int) = 1
  ·rw [if_pos c5] at H
   have c5b0 : ((l1.length : Int) == 1) = true := beq_iff_eq.mpr c5
   have c5b1 : ((l1.length : Int) != 1) = false := bne_eq_false_iff_eq.mpr c5
   clear c5
   by_cases c6 : 0 < (l1.length : Int)
   ·rw [if_pos c6] at H
    have c6b0 : decide (0 < (l1.length : Int)) = true := decide_eq_true c6
    have c6b1 : decide (0 < l1.length) = true := decide_eq_true (by omega)
    clear c6
    replace H := Option.bind_eq_some_iff.mp H
    obtain ⟨⟨t164, t167⟩, A70, H⟩ := H
    (try dsimp only at H)
    have A7 := Aside0.mk A70
    clear A70
    simp only [Option.some.injEq, Prod.mk.injEq] at H
    obtain ⟨rfl, rfl⟩ := H
    go_enter Tryd.func60, Tryd.ntmps60
    go_wp2_with (first | ((with_reducible refine gate_callee (f := 64) rfl ?_); refine goesL_ (some 20) rfl rfl Tryd.func64 (by kernel_rfl) rfl #[.slice A0 l0.length c0, .slice A1 l1.length c1] rfl (by (try simp only [List.map_toArray, List.map_cons, List.map_nil]); first | done | rfl | (simp only [List.length_drop, List.length_take]; rfl)) ?_; (with_reducible refine (rational_cmpNat.calls k _ _ l0 _ _ l1 t162 _ ?side1 ?side2 ?side3 ?side4 A3.out).mono ?_); (case side1 => repeat (first | exact (Kd.V_reads' HO0.out).2.2 | (with_reducible refine Kd.C_alloc ?_ _) | (with_reducible refine Kd.C_drewN ?_ _) | (with_reducible refine Kd.C_drew ?_))); (case side2 => exact (Kd.V_reads' HO0.out).2.1); (case side3 => repeat (first | exact HR1.out | (with_reducible refine Kd.C_alloc ?_ _) | (with_reducible refine Kd.C_drewN ?_ _) | (with_reducible refine Kd.C_drew ?_))); (case side4 => exact HC1.out); rintro e w' ⟨rfl, ⟨nd, rfl⟩⟩; refine ⟨_, rfl, ?_⟩; have p163 : 0 ≤ (0 : Int) := (by omega); have q163 : 0 < (l1.length : Int) := of_decide_eq_true (by first | (with_reducible assumption) | assumption); obtain ⟨ad163, e163, hx163_0⟩ := Kd.at_int HR1.out 0 p163 q163; cases e163; have qi163 : (0 < l1.length) = True := eq_true (by omega); (try rw [show ((0 : Int)).toNat = 0 from rfl] at hx163_0); (try rw [Addr.add_zero'] at hx163_0); replace p163 := eq_true p163; replace q163 := eq_true q163) | ((with_reducible refine gate_callee (f := 111) rfl ?_); refine goesL_ (some 30) rfl rfl Tryd.func111 (by kernel_rfl) rfl #[.slice A0 l0.length c0, .int .u32 (rd l1 0)] rfl (by (try simp only [List.map_toArray, List.map_cons, List.map_nil]); first | done | rfl | (simp only [List.length_drop, List.length_take]; rfl)) ?_; (with_reducible refine (rational_small.calls k _ _ l0 (rd l1 0) t164 t167 _ ?side1 ?side2 A7.out).mono ?_); (case side1 => repeat (first | exact (Kd.V_reads' HO0.out).2.2 | (with_reducible refine Kd.C_alloc ?_ _) | (with_reducible refine Kd.C_drewN ?_ _) | (with_reducible refine Kd.C_drew ?_))); (case side2 => exact (Kd.V_reads' HO0.out).2.1); rintro e w8 ⟨v165, v168, rfl, ho0, ho1, hb⟩; refine ⟨_, rfl, ?_⟩; have n0_ := Aside0.mk (Kd.V_elder' (by (with_reducible repeat (first | apply Kd.V_alloc | apply Kd.V_drewN | apply Kd.V_drew)); exact HO0.out) (Kd.R_base ho1) hb); have n1_ := Aside0.mk (Kd.V_lower (Kd.V_mono (ok' := fun k_ => (P0_ k_ ∨ w.heap.size ≤ k_) ∧ some k_ ≠ (v168 : Value).ownBlock) ho0 (fun k_ hk_ => ⟨(.inr (Nat.le_trans (below_size (by repeat (first | (with_reducible first | exact HB.out | apply below_alloc | apply pw_below_drewN | apply below_drew1) | exact HB.out))) hk_.1)), hk_.2⟩)) (below_size (by repeat (first | (with_reducible first | exact HB.out | apply below_alloc | apply pw_below_drewN | apply below_drew1) | exact HB.out)))); have n2_ := Aside0.mk (Kd.R_lower (Kd.R_newM (M := fun k_ => (w.heap.size ≤ k_)) (Kd.R_mono (ok' := fun k_ => True) ho1 (fun _ hk_ => trivial)) (below_size (by repeat (first | (with_reducible first | exact HB.out | apply below_alloc | apply pw_below_drewN | apply below_drew1) | exact HB.out))) (fun k_ h_ => h_)) (below_size (by repeat (first | (with_reducible first | exact HB.out | apply below_alloc | apply pw_below_drewN | apply below_drew1) | exact HB.out)))); have n3_ := Aside0.mk (below_step (by repeat (first | (with_reducible first | exact HB.out | apply below_alloc | apply pw_below_drewN | apply below_drew1) | exact HB.out)) hb); clear HO0; clear HB; have HO0 := n0_; have HO166 := n1_; have HO169 := n2_; have HB := n3_; clear n0_ n1_ n2_ n3_; (try clear hb); (try clear hb2); (try clear hk); (try clear hi); (try clear ho0); (try clear ho1)))
    go_ret2
    exact ⟨_, _, rfl, by (with_reducible repeat (first | apply Kd.V_alloc | apply Kd.V_drewN | apply Kd.V_drew)); exact Kd.V_mono HO166.out (fun _ hk => hk.1), Kd.V_mono (Kd.R_V (by (with_reducible repeat (first | apply Kd.R_alloc | apply Kd.R_drewN | apply Kd.R_drew)); exact Kd.R_mono HO169.out (fun _ hk => hk.1))) (fun k_ hk => by first | exact ⟨(.inr (hk.1)), hk.2⟩ | exact (.inr (hk))), HB.out⟩
   ·rw [if_neg c6] at H
    exact absurd H (by simp)
  ·rw [if_neg c5] at H
   have c5b0 : ((l1.length : Int) == 1) = false := beq_eq_false_iff_ne.mpr c5
   have c5b1 : ((l1.length : Int) != 1) = true := bne_iff_ne.mpr c5
   obtain ⟨ji9, hji9⟩ : ∃ j_ : Int, (wrap64 ((l1.length : Int) - 1)) = j_ := ⟨_, rfl⟩
   replace H : (if 0 ≤ (ji9) then (if (ji9) < (l1.length : Int) then (if (((rd l1 (ji9)) + 1) % 4294967296) = 0 then (none) else ((some (([(1000000000 : Int) / (((rd l1 (ji9)) + 1) % 4294967296)] : List Int) : List Int)).bind fun y171 => ((rational_mulNat.f k l0 y171).bind fun t174 => ((rational_mulNat.f k l1 y171).bind fun t177 => ((rational_natural_uint32.f t174).bind fun t180 => (if t180.length < 35184372088832 then (if 0 ≤ (wrap64 ((wrap64 ((t174.length : Int) - (t177.length : Int))) + 1)) then (if (wrap64 ((wrap64 ((t174.length : Int) - (t177.length : Int))) + 1) : Int).toNat ≤ 70368744177664 then (rational_divNat.l0 k y171 t177 (t177.length : Int) (t180 ++ [0]) (List.replicate (wrap64 ((wrap64 ((t174.length : Int) - (t177.length : Int))) + 1) : Int).toNat 0) (wrap64 ((t174.length : Int) - (t177.length : Int)))) else (none)) else (none)) else (none))))))) else (none)) else (none)) = some (r1, r2) := by first | (rw [hji9] at H; exact H) | (simp only [hji9] at H ⊢; exact H)
   (try rw [hji9] at A3)
   have hji9w : (IntKind.i64.wrap ((l1.length : Int) - 1)) = ji9 := (i64_w _).trans hji9
   by_cases c10 : 0 ≤ (ji9)
   ·rw [if_pos c10] at H
    have c10b0 : decide (0 ≤ (ji9)) = true := decide_eq_true c10
    clear c10
    by_cases c11 : (ji9) < (l1.length : Int)
    ·rw [if_pos c11] at H
     have c11b0 : decide ((ji9) < (l1.length : Int)) = true := decide_eq_true c11
     clear c11
     by_cases c12 : (((rd l1 (ji9)) + 1) % 4294967296) = 0
     ·rw [if_pos c12] at H
      exact absurd H (by simp)
     ·rw [if_neg c12] at H
      have c12b0 : ((((rd l1 (ji9)) + 1) % 4294967296) == 0) = false := beq_eq_false_iff_ne.mpr c12
      have c12b1 : ((((rd l1 (ji9)) + 1) % 4294967296) != 0) = true := bne_iff_ne.mpr c12
      obtain ⟨y171, hy171⟩ : ∃ y_ : List Int, y_ = (([(1000000000 : Int) / (((rd l1 (ji9)) + 1) % 4294967296)] : List Int)) := ⟨_, rfl⟩
      replace H : ((rational_mulNat.f k l0 y171).bind fun t174 => ((rational_mulNat.f k l1 y171).bind fun t177 => ((rational_natural_uint32.f t174).bind fun t180 => (if t180.length < 35184372088832 then (if 0 ≤ (wrap64 ((wrap64 ((t174.length : Int) - (t177.length : Int))) + 1)) then (if (wrap64 ((wrap64 ((t174.length : Int) - (t177.length : Int))) + 1) : Int).toNat ≤ 70368744177664 then (rational_divNat.l0 k y171 t177 (t177.length : Int) (t180 ++ [0]) (List.replicate (wrap64 ((wrap64 ((t174.length : Int) - (t177.length : Int))) + 1) : Int).toNat 0) (wrap64 ((t174.length : Int) - (t177.length : Int)))) else (none)) else (none)) else (none))))) = some (r1, r2) := by first | (rw [hy171]; with_reducible exact H) | (have H2_ := (Option.bind_some _ _).symm.trans H; rw [hy171]; with_reducible exact H2_) | (have H2_ := (Option.bind_some _ _).symm.trans H; with_reducible exact H2_) | with_reducible exact H | (rw [hy171]; exact H) | exact H
      have Ny171 := Aside0.mk hy171
      clear hy171
      replace H := Option.bind_eq_some_iff.mp H
      obtain ⟨t174, A130, H⟩ := H
      (try dsimp only at H)
      have A13 := Aside0.mk A130
      clear A130
      replace H := Option.bind_eq_some_iff.mp H
      obtain ⟨t177, A140, H⟩ := H
      (try dsimp only at H)
      have A14 := Aside0.mk A140
      clear A140
      replace H := Option.bind_eq_some_iff.mp H
      obtain ⟨t180, A150, H⟩ := H
      (try dsimp only at H)
      have A15 := Aside0.mk A150
      clear A150
      by_cases c16 : t180.length < 35184372088832
      ·rw [if_pos c16] at H
       have LMc16 := Aside0.mk c16
       clear c16
       obtain ⟨y183, hy183⟩ : ∃ y_ : List Int, y_ = (t180 ++ [0]) := ⟨_, rfl⟩
       replace H : (if 0 ≤ (wrap64 ((wrap64 ((t174.length : Int) - (t177.length : Int))) + 1)) then (if (wrap64 ((wrap64 ((t174.length : Int) - (t177.length : Int))) + 1) : Int).toNat ≤ 70368744177664 then (rational_divNat.l0 k y171 t177 (t177.length : Int) y183 (List.replicate (wrap64 ((wrap64 ((t174.length : Int) - (t177.length : Int))) + 1) : Int).toNat 0) (wrap64 ((t174.length : Int) - (t177.length : Int)))) else (none)) else (none)) = some (r1, r2) := by first | (rw [hy183]; with_reducible exact H) | (have H2_ := (Option.bind_some _ _).symm.trans H; rw [hy183]; with_reducible exact H2_) | (have H2_ := (Option.bind_some _ _).symm.trans H; with_reducible exact H2_) | with_reducible exact H | (rw [hy183]; exact H) | exact H
       have Ny183 := Aside0.mk hy183
       clear hy183
       obtain ⟨ji17, hji17⟩ : ∃ j_ : Int, (wrap64 ((wrap64 ((t174.length : Int) - (t177.length : Int))) + 1)) = j_ := ⟨_, rfl⟩
       replace H : (if 0 ≤ (ji17) then (if (ji17 : Int).toNat ≤ 70368744177664 then (rational_divNat.l0 k y171 t177 (t177.length : Int) y183 (List.replicate (ji17 : Int).toNat 0) (wrap64 ((t174.length : Int) - (t177.length : Int)))) else (none)) else (none)) = some (r1, r2) := by first | (rw [hji17] at H; exact H) | (simp only [hji17] at H ⊢; exact H)
       (try rw [hji17] at A3)
       (try rw [hji17] at A13)
       (try rw [hji17] at A14)
       (try rw [hji17] at A15)
       have hji17w : (IntKind.i64.wrap ((wrap64 ((t174.length : Int) - (t177.length : Int))) + 1)) = ji17 := (i64_w _).trans hji17
       by_cases c18 : 0 ≤ (ji17)
       ·rw [if_pos c18] at H
        have c18b0 := eq_true c18
        have c18b1 : decide (0 ≤ (ji17)) = true := decide_eq_true c18
        clear c18
        by_cases c19 : (ji17 : Int).toNat ≤ 70368744177664
        ·rw [if_pos c19] at H
         have c19b0 := eq_true c19
         have c19b1 : decide ((ji17 : Int).toNat ≤ 70368744177664) = true := decide_eq_true c19
         clear c19
         obtain ⟨y186, hy186⟩ : ∃ y_ : List Int, y_ = (List.replicate (ji17 : Int).toNat 0) := ⟨_, rfl⟩
         replace H : (rational_divNat.l0 k y171 t177 (t177.length : Int) y183 y186 (wrap64 ((t174.length : Int) - (t177.length : Int)))) = some (r1, r2) := by first | (rw [hy186]; with_reducible exact H) | (have H2_ := (Option.bind_some _ _).symm.trans H; rw [hy186]; with_reducible exact H2_) | (have H2_ := (Option.bind_some _ _).symm.trans H; with_reducible exact H2_) | with_reducible exact H | (rw [hy186]; exact H) | exact H
         have Ny186 := Aside0.mk hy186
         clear hy186
         have H' := Aside0.mk H
         clear H
         go_enter Tryd.func60, Tryd.ntmps60
         go_wp2_with (first | ((with_reducible refine gate_callee (f := 64) rfl ?_); refine goesL_ (some 20) rfl rfl Tryd.func64 (by kernel_rfl) rfl #[.slice A0 l0.length c0, .slice A1 l1.length c1] rfl (by (try simp only [List.map_toArray, List.map_cons, List.map_nil]); first | done | rfl | (simp only [List.length_drop, List.length_take]; rfl)) ?_; (with_reducible refine (rational_cmpNat.calls k _ _ l0 _ _ l1 t162 _ ?side1 ?side2 ?side3 ?side4 A3.out).mono ?_); (case side1 => repeat (first | exact (Kd.V_reads' HO0.out).2.2 | (with_reducible refine Kd.C_alloc ?_ _) | (with_reducible refine Kd.C_drewN ?_ _) | (with_reducible refine Kd.C_drew ?_))); (case side2 => exact (Kd.V_reads' HO0.out).2.1); (case side3 => repeat (first | exact HR1.out | (with_reducible refine Kd.C_alloc ?_ _) | (with_reducible refine Kd.C_drewN ?_ _) | (with_reducible refine Kd.C_drew ?_))); (case side4 => exact HC1.out); rintro e w' ⟨rfl, ⟨nd, rfl⟩⟩; refine ⟨_, rfl, ?_⟩; have p170 : 0 ≤ ((ji9) : Int) := of_decide_eq_true (by first | (with_reducible assumption) | assumption); have q170 : (ji9) < (l1.length : Int) := of_decide_eq_true (by first | (with_reducible assumption) | assumption); obtain ⟨ad170, e170, hx170_0⟩ := Kd.at_int HR1.out (ji9) p170 q170; cases e170; replace p170 := eq_true p170; replace q170 := eq_true q170) | ((with_reducible refine gate_dst (N := 41) rfl ?_); refine Kd.R_lit (Kd.int .u32) _ 90 ?hg (N := 41) ?hd (xs := ([(1000000000 : Int) / (((rd l1 (ji9)) + 1) % 4294967296)] : List Int)) (inner := [.int .u32 ((1000000000 : Int) / (((rd l1 (ji9)) + 1) % 4294967296))]) (ok := fun _ => True) (okp := fun _ => True) ?hr ?hp (fun _ hk => hk) trivial (Below.refl _ _) (Nat.le_refl _) (by simp) ?_; (case hd => rfl); (case hg => rfl); (case hr => first | (go_simp; done) | (go_simp; rfl)); (case hp => exact (Reps.one (show Kd.M (Kd.int .u32) _ _ _ ((1000000000 : Int) / (((rd l1 (ji9)) + 1) % 4294967296)) [.int .u32 ((1000000000 : Int) / (((rd l1 (ji9)) + 1) % 4294967296))] from rfl) (Reps.none _ _))); intro v172 w20 ho21 hb hg_ hnew_; clear hg_ hnew_; (first | rw [← Ny171.out] at ho21 | (simp only [Int.reduceToNat] at ho21; rw [← Ny171.out] at ho21)); have n0_ := Aside0.mk (Kd.V_elder' (by (with_reducible repeat (first | apply Kd.V_alloc | apply Kd.V_drewN | apply Kd.V_drew)); exact HO0.out) (Kd.R_base ho21) hb); have n1_ := Aside0.mk (Kd.R_lower (Kd.R_newM (M := fun k_ => (w.heap.size ≤ k_)) ho21 (below_size (by repeat (first | (with_reducible first | exact HB.out | apply below_alloc | apply pw_below_drewN | apply below_drew1) | exact HB.out))) (fun k_ h_ => h_)) (below_size (by repeat (first | (with_reducible first | exact HB.out | apply below_alloc | apply pw_below_drewN | apply below_drew1) | exact HB.out)))); have n2_ := Aside0.mk (below_step (by repeat (first | (with_reducible first | exact HB.out | apply below_alloc | apply pw_below_drewN | apply below_drew1) | exact HB.out)) hb); clear HO0; clear HB; have HO0 := n0_; have HO173 := n1_; have HB := n2_; clear n0_ n1_ n2_; clear hb ho21; obtain ⟨Ao22, co22, eo22⟩ := Kd.R_slice HO173.out; subst eo22) | ((with_reducible refine gate_callee (f := 61) rfl ?_); refine goesL_ (some 44) rfl rfl Tryd.func61 (by kernel_rfl) rfl #[.slice A0 l0.length c0, .slice Ao22 y171.length co22] rfl (by (try simp only [List.map_toArray, List.map_cons, List.map_nil]); first | done | rfl | (simp only [List.length_drop, List.length_take]; rfl)) ?_; (with_reducible refine (rational_mulNat.calls k _ _ l0 _ _ y171 t174 _ ?side1 ?side2 ?side3 ?side4 A13.out).mono ?_); (case side1 => repeat (first | exact (Kd.V_reads' HO0.out).2.2 | (with_reducible refine Kd.C_alloc ?_ _) | (with_reducible refine Kd.C_drewN ?_ _) | (with_reducible refine Kd.C_drew ?_))); (case side2 => exact (Kd.V_reads' HO0.out).2.1); (case side3 => repeat (first | exact (Kd.R_reads' HO173.out).2.2 | (with_reducible refine Kd.C_alloc ?_ _) | (with_reducible refine Kd.C_drewN ?_ _) | (with_reducible refine Kd.C_drew ?_))); (case side4 => exact (Kd.R_reads' HO173.out).2.1); rintro e w23 ⟨v175, rfl, ho0, hb⟩; refine ⟨_, rfl, ?_⟩; have n0_ := Aside0.mk (Kd.V_below (by (with_reducible repeat (first | apply Kd.V_alloc | apply Kd.V_drewN | apply Kd.V_drew)); exact HO0.out) hb); have n1_ := Aside0.mk (Kd.R_below (by (with_reducible repeat (first | apply Kd.R_alloc | apply Kd.R_drewN | apply Kd.R_drew)); exact HO173.out) hb); have n2_ := Aside0.mk (Kd.V_lower (Kd.V_mono (ok' := fun k_ => (P0_ k_ ∨ w.heap.size ≤ k_) ∧ some k_ ≠ (.slice Ao22 y171.length co22 : Value).ownBlock) ho0 (fun k_ hk_ => ⟨(.inr (Nat.le_trans (below_size (by repeat (first | (with_reducible first | exact HB.out | apply below_alloc | apply pw_below_drewN | apply below_drew1) | exact HB.out))) hk_)), (Kd.fresh' (Kd.R_lt (by (with_reducible repeat (first | apply Kd.R_alloc | apply Kd.R_drewN | apply Kd.R_drew)); exact HO173.out)) k_ hk_)⟩)) (below_size (by repeat (first | (with_reducible first | exact HB.out | apply below_alloc | apply pw_below_drewN | apply below_drew1) | exact HB.out)))); have n3_ := Aside0.mk (below_step (by repeat (first | (with_reducible first | exact HB.out | apply below_alloc | apply pw_below_drewN | apply below_drew1) | exact HB.out)) hb); clear HO0; clear HO173; clear HB; have HO0 := n0_; have HO173 := n1_; have HO176 := n2_; have HB := n3_; clear n0_ n1_ n2_ n3_; (try clear hb); (try clear hb2); (try clear hk); (try clear hi); (try clear ho0)) | ((with_reducible refine gate_callee (f := 61) rfl ?_); refine goesL_ (some 47) rfl rfl Tryd.func61 (by kernel_rfl) rfl #[.slice (some ad170) l1.length c1, .slice Ao22 y171.length co22] rfl (by (try simp only [List.map_toArray, List.map_cons, List.map_nil]); first | done | rfl | (simp only [List.length_drop, List.length_take]; rfl)) ?_; (with_reducible refine (rational_mulNat.calls k _ _ l1 _ _ y171 t177 _ ?side1 ?side2 ?side3 ?side4 A14.out).mono ?_); (case side1 => repeat (first | exact (Kd.C_below HR1.out HB.out) | (with_reducible refine Kd.C_alloc ?_ _) | (with_reducible refine Kd.C_drewN ?_ _) | (with_reducible refine Kd.C_drew ?_))); (case side2 => exact HC1.out); (case side3 => repeat (first | exact (Kd.R_reads' HO173.out).2.2 | (with_reducible refine Kd.C_alloc ?_ _) | (with_reducible refine Kd.C_drewN ?_ _) | (with_reducible refine Kd.C_drew ?_))); (case side4 => exact (Kd.R_reads' HO173.out).2.1); rintro e w24 ⟨v178, rfl, ho0, hb⟩; refine ⟨_, rfl, ?_⟩; have n0_ := Aside0.mk (Kd.V_below (by (with_reducible repeat (first | apply Kd.V_alloc | apply Kd.V_drewN | apply Kd.V_drew)); exact HO0.out) hb); have n1_ := Aside0.mk (Kd.R_below (by (with_reducible repeat (first | apply Kd.R_alloc | apply Kd.R_drewN | apply Kd.R_drew)); exact HO173.out) hb); have n2_ := Aside0.mk (Kd.V_below (by (with_reducible repeat (first | apply Kd.V_alloc | apply Kd.V_drewN | apply Kd.V_drew)); exact HO176.out) hb); have n3_ := Aside0.mk (Kd.V_lower (Kd.V_mono (ok' := fun k_ => (P0_ k_ ∨ w.heap.size ≤ k_) ∧ some k_ ≠ (.slice Ao22 y171.length co22 : Value).ownBlock) ho0 (fun k_ hk_ => ⟨(.inr (Nat.le_trans (below_size (by repeat (first | (with_reducible first | exact HB.out | apply below_alloc | apply pw_below_drewN | apply below_drew1) | exact HB.out))) hk_)), (Kd.fresh' (Kd.R_lt (by (with_reducible repeat (first | apply Kd.R_alloc | apply Kd.R_drewN | apply Kd.R_drew)); exact HO173.out)) k_ hk_)⟩)) (below_size (by repeat (first | (with_reducible first | exact HB.out | apply below_alloc | apply pw_below_drewN | apply below_drew1) | exact HB.out)))); have n4_ := Aside0.mk (below_step (by repeat (first | (with_reducible first | exact HB.out | apply below_alloc | apply pw_below_drewN | apply below_drew1) | exact HB.out)) hb); clear HO0; clear HO173; clear HO176; clear HB; have HO0 := n0_; have HO173 := n1_; have HO176 := n2_; have HO179 := n3_; have HB := n4_; clear n0_ n1_ n2_ n3_ n4_; (try clear hb); (try clear hb2); (try clear hk); (try clear hi); (try clear ho0); obtain ⟨Ao25, co25, eo25⟩ := Kd.V_slice HO179.out; subst eo25; obtain ⟨Ao26, co26, eo26⟩ := Kd.V_slice HO176.out; subst eo26) | ((with_reducible refine gate_callee (f := 112) rfl ?_); refine goesL_ (some 51) rfl rfl Tryd.func112 (by kernel_rfl) rfl #[.slice Ao26 t174.length co26] rfl (by (try simp only [List.map_toArray, List.map_cons, List.map_nil]); first | done | rfl | (simp only [List.length_drop, List.length_take]; rfl)) ?_; (with_reducible refine (rational_natural_uint32.calls _ _ t174 t180 _ ?side1 ?side2 A15.out).mono ?_); (case side1 => repeat (first | exact (Kd.V_reads' HO176.out).2.2 | (with_reducible refine Kd.C_alloc ?_ _) | (with_reducible refine Kd.C_drewN ?_ _) | (with_reducible refine Kd.C_drew ?_))); (case side2 => exact (Kd.V_reads' HO176.out).2.1); rintro e w27 ⟨v181, rfl, ho0, hb⟩; refine ⟨_, rfl, ?_⟩; have n0_ := Aside0.mk (Kd.V_elder' (by (with_reducible repeat (first | apply Kd.V_alloc | apply Kd.V_drewN | apply Kd.V_drew)); exact HO0.out) (Kd.R_base ho0) hb); have n1_ := Aside0.mk (Kd.R_elder' (by (with_reducible repeat (first | apply Kd.R_alloc | apply Kd.R_drewN | apply Kd.R_drew)); exact HO173.out) (Kd.R_base ho0) hb); have n2_ := Aside0.mk (Kd.V_elder' (by (with_reducible repeat (first | apply Kd.V_alloc | apply Kd.V_drewN | apply Kd.V_drew)); exact HO176.out) (Kd.R_base ho0) hb); have n3_ := Aside0.mk (Kd.V_elder' (by (with_reducible repeat (first | apply Kd.V_alloc | apply Kd.V_drewN | apply Kd.V_drew)); exact HO179.out) (Kd.R_base ho0) hb); have n4_ := Aside0.mk (Kd.R_lower (Kd.R_new' (Kd.R_newM (M := fun k_ => (w.heap.size ≤ k_)) ho0 (below_size (by repeat (first | (with_reducible first | exact HB.out | apply below_alloc | apply pw_below_drewN | apply below_drew1) | exact HB.out))) (fun k_ h_ => h_)) (Kd.R_lt (by (with_reducible repeat (first | apply Kd.R_alloc | apply Kd.R_drewN | apply Kd.R_drew)); exact HO173.out))) (below_size (by repeat (first | (with_reducible first | exact HB.out | apply below_alloc | apply pw_below_drewN | apply below_drew1) | exact HB.out)))); have n5_ := Aside0.mk (below_step (by repeat (first | (with_reducible first | exact HB.out | apply below_alloc | apply pw_below_drewN | apply below_drew1) | exact HB.out)) hb); clear HO0; clear HO173; clear HO176; clear HO179; clear HB; have HO0 := n0_; have HO173 := n1_; have HO176 := n2_; have HO179 := n3_; have HO182 := n4_; have HB := n5_; clear n0_ n1_ n2_ n3_ n4_ n5_; (try clear hb); (try clear hb2); (try clear hk); (try clear hi); (try clear ho0)) | ((with_reducible refine gate_builtin (b := .append) (xs := #[.tmp 51, .tmp 52]) rfl ?_); at_builtin; refine Kd.R_append (Kd.int .u32) (w0 := w) w.heap.size rfl (.tmp 51) (.tmp 52) 80 90 (.int .u32 0) 4 rfl Tryd.underlying80 info90 rfl (by decide) (by omega) v181 t180 0 [.int .u32 0] (fun k_ => (w.heap.size ≤ k_) ∧ some k_ ≠ (.slice Ao22 y171.length co22 : Value).ownBlock) (fun _ => False) rfl rfl ?aP (fun _ hk => hk.elim) ?aF ?aO ?aB ?aS ?aL ?_; (case aP => exact rfl); (case aB => exact (by repeat (first | (with_reducible first | exact HB.out | apply below_alloc | apply pw_below_drewN | apply below_drew1) | exact HB.out))); (case aF => exact (fun k_ hk => ⟨(Nat.le_trans (below_size (by repeat (first | (with_reducible first | exact HB.out | apply below_alloc | apply pw_below_drewN | apply below_drew1) | exact HB.out))) hk), Kd.fresh' (Kd.R_lt (by (with_reducible repeat (first | apply Kd.R_alloc | apply Kd.R_drewN | apply Kd.R_drew)); exact HO173.out)) k_ hk⟩)); (case aO => exact (by (with_reducible repeat (first | apply Kd.R_alloc | apply Kd.R_drewN | apply Kd.R_drew)); exact Kd.R_mono HO182.out (fun _ hk => ⟨hk.1.1, hk.2⟩))); (case aS => exact (below_size (by repeat (first | (with_reducible first | exact HB.out | apply below_alloc | apply pw_below_drewN | apply below_drew1) | exact HB.out)))); (case aL => have := LMc16.out; omega); intro v184 w28 ho hb hg hat; rw [← Ny183.out] at ho; have n0_ := Aside0.mk (Kd.V_afterv (ok := (fun k_ => (P0_ k_ ∨ w.heap.size ≤ k_) ∧ some k_ ≠ (.slice Ao22 y171.length co22 : Value).ownBlock)) (by (with_reducible repeat (first | apply Kd.V_alloc | apply Kd.V_drewN | apply Kd.V_drew)); exact HO0.out) hg hat); have n1_ := Aside0.mk (Kd.R_after (ok := (fun k_ => (w.heap.size ≤ k_))) (by (with_reducible repeat (first | apply Kd.R_alloc | apply Kd.R_drewN | apply Kd.R_drew)); exact Kd.R_mono HO173.out (fun _ hk => ⟨hk.1.1, hk.2⟩)) hg hat); have n2_ := Aside0.mk (Kd.V_afterv (ok := (fun k_ => (P0_ k_ ∨ w.heap.size ≤ k_) ∧ some k_ ≠ (.slice Ao22 y171.length co22 : Value).ownBlock)) (by (with_reducible repeat (first | apply Kd.V_alloc | apply Kd.V_drewN | apply Kd.V_drew)); exact HO176.out) hg hat); have n3_ := Aside0.mk (Kd.V_afterv (ok := (fun k_ => (P0_ k_ ∨ w.heap.size ≤ k_) ∧ some k_ ≠ (.slice Ao22 y171.length co22 : Value).ownBlock)) (by (with_reducible repeat (first | apply Kd.V_alloc | apply Kd.V_drewN | apply Kd.V_drew)); exact HO179.out) hg hat); have n4_ := Aside0.mk (hb); have n5_ := Aside0.mk (ho); clear HO0; clear HO173; clear HO176; clear HO179; clear HB; clear HO182; have HO0 := n0_; have HO173 := n1_; have HO176 := n2_; have HO179 := n3_; have HB := n4_; have HO185 := n5_; clear n0_ n1_ n2_ n3_ n4_ n5_; clear ho hb hg hat) | ((with_reducible refine gate_dst (N := 59) rfl ?_); refine Kd.R_make (Kd.int .u32) _ 90 rfl (N := 59) rfl 80 _ _ rfl ji17 rfl rfl Tryd.underlying80 (.int .u32 0) 4 info90 rfl (by decide) (by omega) 0 (ok := fun _ => True) (okp := fun _ => True) rfl (fun _ hk => hk) trivial (of_decide_eq_true (by first | (with_reducible assumption) | assumption)) (Nat.le_trans (Nat.mul_le_mul_right _ (of_decide_eq_true (by first | (with_reducible assumption) | assumption) : ji17.toNat ≤ 70368744177664)) (by omega)) (Below.refl _ _) (Nat.le_refl _) ?_; intro v187 w29 ho30 hb hg_ hnew_; clear hg_ hnew_; (first | rw [← Ny186.out] at ho30 | (simp only [Int.reduceToNat] at ho30; rw [← Ny186.out] at ho30)); have n0_ := Aside0.mk (Kd.V_elder' (by (with_reducible repeat (first | apply Kd.V_alloc | apply Kd.V_drewN | apply Kd.V_drew)); exact HO0.out) (Kd.R_base ho30) hb); have n1_ := Aside0.mk (Kd.R_elder' (by (with_reducible repeat (first | apply Kd.R_alloc | apply Kd.R_drewN | apply Kd.R_drew)); exact HO173.out) (Kd.R_base ho30) hb); have n2_ := Aside0.mk (Kd.V_elder' (by (with_reducible repeat (first | apply Kd.V_alloc | apply Kd.V_drewN | apply Kd.V_drew)); exact HO176.out) (Kd.R_base ho30) hb); have n3_ := Aside0.mk (Kd.V_elder' (by (with_reducible repeat (first | apply Kd.V_alloc | apply Kd.V_drewN | apply Kd.V_drew)); exact HO179.out) (Kd.R_base ho30) hb); have n4_ := Aside0.mk (Kd.R_elder' (by (with_reducible repeat (first | apply Kd.R_alloc | apply Kd.R_drewN | apply Kd.R_drew)); exact HO185.out) (Kd.R_base ho30) hb); have n5_ := Aside0.mk (Kd.R_lower (Kd.R_new' (Kd.R_new' (Kd.R_newM (M := fun k_ => (w.heap.size ≤ k_)) ho30 (below_size (by repeat (first | (with_reducible first | exact HB.out | apply below_alloc | apply pw_below_drewN | apply below_drew1) | exact HB.out))) (fun k_ h_ => h_)) (Kd.R_lt (by (with_reducible repeat (first | apply Kd.R_alloc | apply Kd.R_drewN | apply Kd.R_drew)); exact HO173.out))) (Kd.R_lt (by (with_reducible repeat (first | apply Kd.R_alloc | apply Kd.R_drewN | apply Kd.R_drew)); exact HO185.out))) (below_size (by repeat (first | (with_reducible first | exact HB.out | apply below_alloc | apply pw_below_drewN | apply below_drew1) | exact HB.out)))); have n6_ := Aside0.mk (below_step (by repeat (first | (with_reducible first | exact HB.out | apply below_alloc | apply pw_below_drewN | apply below_drew1) | exact HB.out)) hb); clear HO0; clear HO173; clear HO176; clear HO179; clear HO185; clear HB; have HO0 := n0_; have HO173 := n1_; have HO176 := n2_; have HO179 := n3_; have HO185 := n4_; have HO188 := n5_; have HB := n6_; clear n0_ n1_ n2_ n3_ n4_ n5_ n6_; clear hb ho30))
         go_loopg [12] k (fun kq v12 w' => ∃ (x10_1 : List Int) (x11_1 : List Int) (x12_1 : Int), v12 = .int .i64 x12_1 ∧ Aside0 (rational_divNat.l0 kq y171 t177 (t177.length : Int) x10_1 x11_1 x12_1 = some (r1, r2)) ∧ Aside0 (kq ≤ k) ∧ Aside0 (Kd.R (Kd.int .u32) 90 w' w.heap.size (fun k_ => (w.heap.size ≤ k_) ∧ some k_ ≠ (v184 : Value).ownBlock ∧ some k_ ≠ (v187 : Value).ownBlock) (.slice Ao22 y171.length co22) y171) ∧ Aside0 (Kd.V (Kd.int .u32) 90 w' w.heap.size (fun k_ => (P0_ k_ ∨ w.heap.size ≤ k_) ∧ some k_ ≠ ((.slice Ao22 y171.length co22) : Value).ownBlock ∧ some k_ ≠ (v184 : Value).ownBlock ∧ some k_ ≠ (v187 : Value).ownBlock) (.slice Ao25 t177.length co25) t177) ∧ Aside0 (Kd.R (Kd.int .u32) 90 w' w.heap.size (fun k_ => (w.heap.size ≤ k_) ∧ some k_ ≠ ((.slice Ao22 y171.length co22) : Value).ownBlock ∧ some k_ ≠ (v187 : Value).ownBlock) v184 x10_1) ∧ Aside0 (Kd.R (Kd.int .u32) 90 w' w.heap.size (fun k_ => (w.heap.size ≤ k_) ∧ some k_ ≠ ((.slice Ao22 y171.length co22) : Value).ownBlock ∧ some k_ ≠ (v184 : Value).ownBlock) v187 x11_1) ∧ Aside0 (Below w.heap.size w w'))
         case atStart => exact ⟨(y183), (y186), (wrap64 ((t174.length : Int) - (t177.length : Int))), rfl, H', ⟨Nat.le_refl _⟩, ⟨by (with_reducible repeat (first | apply Kd.R_alloc | apply Kd.R_drewN | apply Kd.R_drew)); exact Kd.R_mono HO173.out (fun _ hk => ⟨hk.1.1, ⟨hk.1.2, hk.2⟩⟩)⟩, ⟨by (with_reducible repeat (first | apply Kd.V_alloc | apply Kd.V_drewN | apply Kd.V_drew)); exact Kd.V_mono HO179.out (fun _ hk => ⟨hk.1.1.1, ⟨hk.1.1.2, ⟨hk.1.2, hk.2⟩⟩⟩)⟩, ⟨by (with_reducible repeat (first | apply Kd.R_alloc | apply Kd.R_drewN | apply Kd.R_drew)); exact Kd.R_mono HO185.out (fun _ hk => ⟨hk.1.1, ⟨hk.1.2, hk.2⟩⟩)⟩, ⟨by (with_reducible repeat (first | apply Kd.R_alloc | apply Kd.R_drewN | apply Kd.R_drew)); exact Kd.R_mono HO188.out (fun _ hk => ⟨hk.1.1.1, ⟨hk.1.2, hk.2⟩⟩)⟩, ⟨HB.out⟩⟩
         case round =>
          clear H'
          try clear c1
          try clear p1
          try clear q1
          try clear hx1
          try clear qi1
          try clear p2
          try clear c4
          try clear c4b0
          try clear c5
          try clear c5b0
          try clear c5b1
          try clear c6
          try clear c6b0
          try clear c6b1
          try clear p6
          try clear c10
          try clear c10b0
          try clear c11
          try clear c11b0
          try clear c12
          try clear c12b0
          try clear c12b1
          try clear c16
          try clear p16
          try clear q16
          try clear hx16
          try clear qi16
          try clear p17
          try clear q17
          try clear hx17
          try clear c18
          try clear c18b0
          try clear c18b1
          try clear c19
          try clear c19b0
          try clear c19b1
          try clear hx163_0
          try clear hx170_0
          try clear p163
          try clear p170
          try clear q163
          try clear q170
          obtain ⟨x10_1, x11_1, x12_1, rfl, HA, HK1, HO_6, HO_8, HO_10, HO_11, HB⟩ := hrel
          cases gk with
          | zero => exact absurd HA.out (by simp [rational_divNat.l0])
          | succ k1 =>
           have H := HA.out
           clear HA
           simp only [rational_divNat.l0] at H
           by_cases c31 : x12_1 ≥ 0
           ·rw [if_pos c31] at H
            have c31b0 : decide (0 ≤ x12_1) = true := decide_eq_true c31
            clear c31
            obtain ⟨ji32, hji32⟩ : ∃ j_ : Int, (wrap64 (x12_1 + (t177.length : Int))) = j_ := ⟨_, rfl⟩
            replace H : (if 0 ≤ (ji32) then (if (ji32) < (x10_1.length : Int) then (if 0 ≤ (wrap64 ((ji32) - 1)) then (if (wrap64 ((ji32) - 1)) < (x10_1.length : Int) then (if 0 ≤ (wrap64 ((t177.length : Int) - 1)) then (if (wrap64 ((t177.length : Int) - 1)) < (t177.length : Int) then (if (IntKind.u64.wrap (rd t177 (wrap64 ((t177.length : Int) - 1)))) = 0 then (none) else (rational_divNat.l1 k1 y171 t177 (t177.length : Int) x10_1 x11_1 x12_1 (IntKind.u64.wrap (Int.tdiv (IntKind.u64.wrap ((IntKind.u64.wrap ((IntKind.u64.wrap (rd x10_1 (ji32))) * 1000000000)) + (IntKind.u64.wrap (rd x10_1 (wrap64 ((ji32) - 1)))))) (IntKind.u64.wrap (rd t177 (wrap64 ((t177.length : Int) - 1)))))) (Int.tmod (IntKind.u64.wrap ((IntKind.u64.wrap ((IntKind.u64.wrap (rd x10_1 (ji32))) * 1000000000)) + (IntKind.u64.wrap (rd x10_1 (wrap64 ((ji32) - 1)))))) (IntKind.u64.wrap (rd t177 (wrap64 ((t177.length : Int) - 1))))))) else (none)) else (none)) else (none)) else (none)) else (none)) else (none)) = some (r1, r2) := by first | (rw [hji32] at H; exact H) | (simp only [hji32] at H ⊢; exact H)
            have hji32w : (IntKind.i64.wrap (x12_1 + (t177.length : Int))) = ji32 := (i64_w _).trans hji32
            by_cases c33 : 0 ≤ (ji32)
            ·rw [if_pos c33] at H
             have c33b0 : decide (0 ≤ (ji32)) = true := decide_eq_true c33
             clear c33
             by_cases c34 : (ji32) < (x10_1.length : Int)
             ·rw [if_pos c34] at H
              have c34b0 : decide ((ji32) < (x10_1.length : Int)) = true := decide_eq_true c34
              clear c34
              obtain ⟨ji35, hji35⟩ : ∃ j_ : Int, (wrap64 ((ji32) - 1)) = j_ := ⟨_, rfl⟩
              replace H : (if 0 ≤ (ji35) then (if (ji35) < (x10_1.length : Int) then (if 0 ≤ (wrap64 ((t177.length : Int) - 1)) then (if (wrap64 ((t177.length : Int) - 1)) < (t177.length : Int) then (if (IntKind.u64.wrap (rd t177 (wrap64 ((t177.length : Int) - 1)))) = 0 then (none) else (rational_divNat.l1 k1 y171 t177 (t177.length : Int) x10_1 x11_1 x12_1 (IntKind.u64.wrap (Int.tdiv (IntKind.u64.wrap ((IntKind.u64.wrap ((IntKind.u64.wrap (rd x10_1 (ji32))) * 1000000000)) + (IntKind.u64.wrap (rd x10_1 (ji35))))) (IntKind.u64.wrap (rd t177 (wrap64 ((t177.length : Int) - 1)))))) (Int.tmod (IntKind.u64.wrap ((IntKind.u64.wrap ((IntKind.u64.wrap (rd x10_1 (ji32))) * 1000000000)) + (IntKind.u64.wrap (rd x10_1 (ji35))))) (IntKind.u64.wrap (rd t177 (wrap64 ((t177.length : Int) - 1))))))) else (none)) else (none)) else (none)) else (none)) = some (r1, r2) := by first | (rw [hji35] at H; exact H) | (simp only [hji35] at H ⊢; exact H)
              have hji35w : (IntKind.i64.wrap ((ji32) - 1)) = ji35 := (i64_w _).trans hji35
              by_cases c36 : 0 ≤ (ji35)
              ·rw [if_pos c36] at H
               have c36b0 : decide (0 ≤ (ji35)) = true := decide_eq_true c36
               clear c36
               by_cases c37 : (ji35) < (x10_1.length : Int)
               ·rw [if_pos c37] at H
                have c37b0 : decide ((ji35) < (x10_1.length : Int)) = true := decide_eq_true c37
                clear c37
                obtain ⟨ji38, hji38⟩ : ∃ j_ : Int, (wrap64 ((t177.length : Int) - 1)) = j_ := ⟨_, rfl⟩
                replace H : (if 0 ≤ (ji38) then (if (ji38) < (t177.length : Int) then (if (IntKind.u64.wrap (rd t177 (ji38))) = 0 then (none) else (rational_divNat.l1 k1 y171 t177 (t177.length : Int) x10_1 x11_1 x12_1 (IntKind.u64.wrap (Int.tdiv (IntKind.u64.wrap ((IntKind.u64.wrap ((IntKind.u64.wrap (rd x10_1 (ji32))) * 1000000000)) + (IntKind.u64.wrap (rd x10_1 (ji35))))) (IntKind.u64.wrap (rd t177 (ji38))))) (Int.tmod (IntKind.u64.wrap ((IntKind.u64.wrap ((IntKind.u64.wrap (rd x10_1 (ji32))) * 1000000000)) + (IntKind.u64.wrap (rd x10_1 (ji35))))) (IntKind.u64.wrap (rd t177 (ji38)))))) else (none)) else (none)) = some (r1, r2) := by first | (rw [hji38] at H; exact H) | (simp only [hji38] at H ⊢; exact H)
                have hji38w : (IntKind.i64.wrap ((t177.length : Int) - 1)) = ji38 := (i64_w _).trans hji38
                by_cases c39 : 0 ≤ (ji38)
                ·rw [if_pos c39] at H
                 have c39b0 : decide (0 ≤ (ji38)) = true := decide_eq_true c39
                 clear c39
                 by_cases c40 : (ji38) < (t177.length : Int)
                 ·rw [if_pos c40] at H
                  have c40b0 : decide ((ji38) < (t177.length : Int)) = true := decide_eq_true c40
                  clear c40
                  by_cases c41 : (IntKind.u64.wrap (rd t177 (ji38))) = 0
                  ·rw [if_pos c41] at H
                   exact absurd H (by simp)
                  ·rw [if_neg c41] at H
                   have c41b0 : ((IntKind.u64.wrap (rd t177 (ji38))) == 0) = false := beq_eq_false_iff_ne.mpr c41
                   have c41b1 : ((IntKind.u64.wrap (rd t177 (ji38))) != 0) = true := bne_iff_ne.mpr c41
                   have HC42 := Aside0.mk H
                   clear H
                   try go_wp2
                   have n0_ := Aside0.mk (Kd.R_drew HO_6.out)
                   have n1_ := Aside0.mk (Kd.V_drew HO_8.out)
                   have n2_ := Aside0.mk (Kd.R_drew HO_10.out)
                   have n3_ := Aside0.mk (Kd.R_drew HO_11.out)
                   have n4_ := Aside0.mk (below_drew1 HB.out)
                   clear HO_6
                   clear HO_8
                   clear HO_10
                   clear HO_11
                   clear HB
                   have HO_6 := n0_
                   have HO_8 := n1_
                   have HO_10 := n2_
                   have HO_11 := n3_
                   have HB := n4_
                   clear n0_ n1_ n2_ n3_ n4_
                   obtain ⟨Ao44, co44, eo44⟩ := Kd.R_slice HO_10.out
                   (first | subst eo44 | (injection eo44 with f1_ f2_ f3_; have f4_ := f1_.symm; have f5_ := f3_.symm; clear f1_ f2_ f3_; subst f4_; subst f5_))
                   have p202 : 0 ≤ ((ji32) : Int) := of_decide_eq_true (by assumption)
                   have q202 : (ji32) < (x10_1.length : Int) := of_decide_eq_true (by assumption)
                   obtain ⟨ad202, e202, hx202_0⟩ := Kd.at_int (Kd.R_reads' HO_10.out).2.2 (ji32) p202 q202
                   cases e202
                   replace p202 := eq_true p202
                   replace q202 := eq_true q202
                   have p203 : 0 ≤ ((ji35) : Int) := of_decide_eq_true (by assumption)
                   have q203 : (ji35) < (x10_1.length : Int) := of_decide_eq_true (by assumption)
                   obtain ⟨ad203, e203, hx203_0⟩ := Kd.at_int (Kd.R_reads' HO_10.out).2.2 (ji35) p203 q203
                   obtain rfl : ad202 = ad203 := (by injection e203)
                   replace p203 := eq_true p203
                   replace q203 := eq_true q203
                   refine start_ (n := 18) (S := fun w' => w'.cell? (ad202.add ((ji32)).toNat) = some (.int .u32 (rd x10_1 (ji32))) ∧ w'.cell? (ad202.add ((ji35)).toNat) = some (.int .u32 (rd x10_1 (ji35)))) (ds := []) #[false, false, false, false, false, false, false, false, false, false, false, false, false, false, false, false, false, false] (by kernel_rfl) rfl rfl ⟨hx202_0, hx203_0⟩ (fun hHeld => ?_); refine with_tabW rational_divNat.tab13 rational_divNat.bits13 (fun HT_ HW_ => ?_)
                   generalize wr.drew = w43 at HO_6 HO_8 HO_10 HO_11 HB hx202_0 hx203_0 hHeld ⊢
                   refine pure_ (i := 0) (N := some 68) (v := ?_) (a' := ?_) #[true, false, false, false, false, false, false, false, false, false, false, false, false, false, false, false, false, false] rfl rfl (any_of HT_.out (by kernel_rfl)) (fun _ _ _ h => h) (Or.inl ⟨by rfl, ?_⟩) ?_ ?_
                   rotate_left
                   ·intro w'
                    go_simp
                    with_reducible rfl
                   rotate_left
                   ·simp only [Act.put, List.setIfInBounds_toArray, List.set_cons_zero, List.set_cons_succ, i64_w, i32_w]
                    rfl
                   refine pure_ (i := 1) (N := some 69) (v := ?_) (a' := ?_) #[true, true, false, false, false, false, false, false, false, false, false, false, false, false, false, false, false, false] rfl rfl (any_of HT_.out (by kernel_rfl)) (fun _ _ _ h => h) (Or.inl ⟨by rfl, ?_⟩) ?_ ?_
                   rotate_left
                   ·intro w'
                    go_simp
                    with_reducible rfl
                   rotate_left
                   ·simp only [Act.put, List.setIfInBounds_toArray, List.set_cons_zero, List.set_cons_succ, i64_w, i32_w]
                    rfl
                   refine pure_ (i := 2) (N := some 70) (v := ?_) (a' := ?_) #[true, true, true, false, false, false, false, false, false, false, false, false, false, false, false, false, false, false] rfl rfl (any_of HT_.out (by kernel_rfl)) (fun _ _ _ h => h) (Or.inl ⟨by rfl, ?_⟩) ?_ ?_
                   rotate_left
                   ·intro w'
                    go_simp
                    with_reducible rfl
                   rotate_left
                   ·simp only [Act.put, List.setIfInBounds_toArray, List.set_cons_zero, List.set_cons_succ, i64_w, i32_w]
                    rfl
                   refine pure_ (i := 3) (N := some 71) (v := ?_) (a' := ?_) #[true, true, true, true, false, false, false, false, false, false, false, false, false, false, false, false, false, false] rfl rfl (any_of HT_.out (by kernel_rfl)) (fun _ _ _ h => h) (Or.inl ⟨by rfl, ?_⟩) ?_ ?_
                   rotate_left
                   ·intro w'
                    go_simp
                    with_reducible rfl
                   rotate_left
                   ·simp only [Act.put, List.setIfInBounds_toArray, List.set_cons_zero, List.set_cons_succ, i64_w, i32_w]
                    rfl
                   refine pure_ (i := 4) (N := some 72) (v := ?_) (a' := ?_) #[true, true, true, true, true, false, false, false, false, false, false, false, false, false, false, false, false, false] rfl rfl (any_of HT_.out (by kernel_rfl)) (fun _ _ _ h => h) (Or.inl ⟨by rfl, ?_⟩) ?_ ?_
                   rotate_left
                   ·intro w'
                    go_simp
                    with_reducible rfl
                   rotate_left
                   ·simp only [Act.put, List.setIfInBounds_toArray, List.set_cons_zero, List.set_cons_succ, i64_w, i32_w]
                    rfl
                   refine pure_ (i := 8) (N := some 76) (v := ?_) (a' := ?_) #[true, true, true, true, true, false, false, false, true, false, false, false, false, false, false, false, false, false] rfl rfl (any_of HT_.out (by kernel_rfl)) (fun _ _ _ h => h) (Or.inl ⟨by rfl, ?_⟩) ?_ ?_
                   rotate_left
                   ·intro w'
                    go_simp
                    with_reducible rfl
                   rotate_left
                   ·simp only [Act.put, List.setIfInBounds_toArray, List.set_cons_zero, List.set_cons_succ, i64_w, i32_w]
                    rfl
                   refine pure_ (i := 9) (N := some 77) (v := ?_) (a' := ?_) #[true, true, true, true, true, false, false, false, true, true, false, false, false, false, false, false, false, false] rfl rfl (any_of HT_.out (by kernel_rfl)) (fun _ _ _ h => h) (Or.inl ⟨by rfl, ?_⟩) ?_ ?_
                   rotate_left
                   ·intro w'
                    go_simp
                    with_reducible rfl
                   rotate_left
                   ·simp only [Act.put, List.setIfInBounds_toArray, List.set_cons_zero, List.set_cons_succ, i64_w, i32_w]
                    rfl
                   refine pure_ (i := 10) (N := some 78) (v := ?_) (a' := ?_) #[true, true, true, true, true, false, false, false, true, true, true, false, false, false, false, false, false, false] rfl rfl (any_of HT_.out (by kernel_rfl)) (fun _ _ _ h => h) (Or.inl ⟨by rfl, ?_⟩) ?_ ?_
                   rotate_left
                   ·intro w'
                    go_simp
                    with_reducible rfl
                   rotate_left
                   ·simp only [Act.put, List.setIfInBounds_toArray, List.set_cons_zero, List.set_cons_succ, i64_w, i32_w]
                    rfl
                   refine pure_ (i := 11) (N := some 79) (v := ?_) (a' := ?_) #[true, true, true, true, true, false, false, false, true, true, true, true, false, false, false, false, false, false] rfl rfl (any_of HT_.out (by kernel_rfl)) (fun _ _ _ h => h) (Or.inl ⟨by rfl, ?_⟩) ?_ ?_
                   rotate_left
                   ·intro w'
                    go_simp
                    with_reducible rfl
                   rotate_left
                   ·simp only [Act.put, List.setIfInBounds_toArray, List.set_cons_zero, List.set_cons_succ, i64_w, i32_w]
                    rfl
                   refine pure_ (i := 12) (N := some 80) (v := ?_) (a' := ?_) #[true, true, true, true, true, false, false, false, true, true, true, true, true, false, false, false, false, false] rfl rfl (any_of HT_.out (by kernel_rfl)) (fun _ _ _ h => h) (Or.inl ⟨by rfl, ?_⟩) ?_ ?_
                   rotate_left
                   ·intro w'
                    go_simp
                    with_reducible rfl
                   rotate_left
                   ·simp only [Act.put, List.setIfInBounds_toArray, List.set_cons_zero, List.set_cons_succ, i64_w, i32_w]
                    rfl
                   refine pure_ (i := 13) (N := some 81) (v := ?_) (a' := ?_) #[true, true, true, true, true, false, false, false, true, true, true, true, true, true, false, false, false, false] rfl rfl (any_of HT_.out (by kernel_rfl)) (fun _ _ _ h => h) (Or.inl ⟨by rfl, ?_⟩) ?_ ?_
                   rotate_left
                   ·intro w'
                    go_simp
                    with_reducible rfl
                   rotate_left
                   ·simp only [Act.put, List.setIfInBounds_toArray, List.set_cons_zero, List.set_cons_succ, i64_w, i32_w]
                    rfl
                   refine take_ (i := 5) (N := some 73) (v := ?_) (a' := ?_) #[true, true, true, true, true, true, false, false, true, true, true, true, true, true, false, false, false, false] rfl rfl (take_ofW HT_.out HW_.out (by kernel_rfl)) (fun _ _ _ h => h) (Or.inl ⟨by rfl, ?_⟩) hHeld ?_ ?_
                   rotate_left
                   ·rintro w' ⟨s0, s1⟩
                    go_simp
                    with_reducible rfl
                   rotate_left
                   ·simp only [Act.put, List.setIfInBounds_toArray, List.set_cons_zero, List.set_cons_succ, i64_w, i32_w]
                    rfl
                   refine pure_ (i := 6) (N := some 74) (v := ?_) (a' := ?_) #[true, true, true, true, true, true, true, false, true, true, true, true, true, true, false, false, false, false] rfl rfl (any_of HT_.out (by kernel_rfl)) (fun _ _ _ h => h) (Or.inl ⟨by rfl, ?_⟩) ?_ ?_
                   rotate_left
                   ·intro w'
                    go_simp
                    with_reducible rfl
                   rotate_left
                   ·simp only [Act.put, List.setIfInBounds_toArray, List.set_cons_zero, List.set_cons_succ, i64_w, i32_w]
                    rfl
                   refine pure_ (i := 7) (N := some 75) (v := ?_) (a' := ?_) #[true, true, true, true, true, true, true, true, true, true, true, true, true, true, false, false, false, false] rfl rfl (any_of HT_.out (by kernel_rfl)) (fun _ _ _ h => h) (Or.inl ⟨by rfl, ?_⟩) ?_ ?_
                   rotate_left
                   ·intro w'
                    go_simp
                    with_reducible rfl
                   rotate_left
                   ·simp only [Act.put, List.setIfInBounds_toArray, List.set_cons_zero, List.set_cons_succ, i64_w, i32_w]
                    rfl
                   refine take_ (i := 14) (N := some 82) (v := ?_) (a' := ?_) #[true, true, true, true, true, true, true, true, true, true, true, true, true, true, true, false, false, false] rfl rfl (take_ofW HT_.out HW_.out (by kernel_rfl)) (fun _ _ _ h => h) (Or.inl ⟨by rfl, ?_⟩) hHeld ?_ ?_
                   rotate_left
                   ·rintro w' ⟨s0, s1⟩
                    go_simp
                    with_reducible rfl
                   rotate_left
                   ·simp only [Act.put, List.setIfInBounds_toArray, List.set_cons_zero, List.set_cons_succ, i64_w, i32_w]
                    rfl
                   refine pure_ (i := 15) (N := some 83) (v := ?_) (a' := ?_) #[true, true, true, true, true, true, true, true, true, true, true, true, true, true, true, true, false, false] rfl rfl (any_of HT_.out (by kernel_rfl)) (fun _ _ _ h => h) (Or.inl ⟨by rfl, ?_⟩) ?_ ?_
                   rotate_left
                   ·intro w'
                    go_simp
                    with_reducible rfl
                   rotate_left
                   ·simp only [Act.put, List.setIfInBounds_toArray, List.set_cons_zero, List.set_cons_succ, i64_w, i32_w]
                    rfl
                   refine pure_ (i := 16) (N := some 84) (v := ?_) (a' := ?_) #[true, true, true, true, true, true, true, true, true, true, true, true, true, true, true, true, true, false] rfl rfl (any_of HT_.out (by kernel_rfl)) (fun _ _ _ h => h) (Or.inl ⟨by rfl, ?_⟩) ?_ ?_
                   rotate_left
                   ·intro w'
                    go_simp
                    with_reducible rfl
                   rotate_left
                   ·simp only [Act.put, List.setIfInBounds_toArray, List.set_cons_zero, List.set_cons_succ, i64_w, i32_w]
                    rfl
                   refine pure_ (i := 17) (N := some 13) (v := ?_) (a' := ?_) #[true, true, true, true, true, true, true, true, true, true, true, true, true, true, true, true, true, true] rfl rfl (any_of HT_.out (by kernel_rfl)) (fun _ _ _ h => h) (Or.inl ⟨by rfl, ?_⟩) ?_ ?_
                   rotate_left
                   ·intro w'
                    go_simp
                    with_reducible rfl
                   rotate_left
                   ·simp only [Act.put, List.setIfInBounds_toArray, List.set_cons_zero, List.set_cons_succ, i64_w, i32_w]
                    rfl
                   refine done_ (done_of HT_.out (by kernel_rfl)) ?_
                   try go_wp2
                   have n0_ := Aside0.mk (Kd.R_drew HO_6.out)
                   have n1_ := Aside0.mk (Kd.V_drew HO_8.out)
                   have n2_ := Aside0.mk (Kd.R_drew HO_10.out)
                   have n3_ := Aside0.mk (Kd.R_drew HO_11.out)
                   have n4_ := Aside0.mk (below_drew1 HB.out)
                   clear HO_6
                   clear HO_8
                   clear HO_10
                   clear HO_11
                   clear HB
                   have HO_6 := n0_
                   have HO_8 := n1_
                   have HO_10 := n2_
                   have HO_11 := n3_
                   have HB := n4_
                   clear n0_ n1_ n2_ n3_ n4_
                   have p204 : 0 ≤ ((ji38) : Int) := of_decide_eq_true (by assumption)
                   have q204 : (ji38) < (t177.length : Int) := of_decide_eq_true (by assumption)
                   obtain ⟨ad204, e204, hx204_0⟩ := Kd.at_int (Kd.V_reads' HO_8.out).2.2 (ji38) p204 q204
                   cases e204
                   replace p204 := eq_true p204
                   replace q204 := eq_true q204
                   have p205 : 0 ≤ ((ji38) : Int) := of_decide_eq_true (by assumption)
                   have q205 : (ji38) < (t177.length : Int) := of_decide_eq_true (by assumption)
                   obtain ⟨ad205, e205, hx205_0⟩ := Kd.at_int (Kd.V_reads' HO_8.out).2.2 (ji38) p205 q205
                   obtain rfl : ad204 = ad205 := (by injection e205)
                   replace p205 := eq_true p205
                   replace q205 := eq_true q205
                   refine start_ (n := 18) (S := fun w' => w'.cell? (ad204.add ((ji38)).toNat) = some (.int .u32 (rd t177 (ji38))) ∧ w'.cell? (ad204.add ((ji38)).toNat) = some (.int .u32 (rd t177 (ji38)))) (ds := []) #[false, false, false, false, false, false, false, false, false, false, false, false, false, false, false, false, false, false] (by kernel_rfl) rfl rfl ⟨hx204_0, hx205_0⟩ (fun hHeld => ?_); refine with_tabW rational_divNat.tab14 rational_divNat.bits14 (fun HT_ HW_ => ?_)
                   generalize w43.drew = w45 at HO_6 HO_8 HO_10 HO_11 HB hx204_0 hx205_0 hHeld ⊢
                   refine pure_ (i := 0) (N := some 85) (v := ?_) (a' := ?_) #[true, false, false, false, false, false, false, false, false, false, false, false, false, false, false, false, false, false] rfl rfl (any_of HT_.out (by kernel_rfl)) (fun _ _ _ h => h) (Or.inl ⟨by rfl, ?_⟩) ?_ ?_
                   rotate_left
                   ·intro w'
                    go_simp
                    with_reducible rfl
                   rotate_left
                   ·simp only [Act.put, List.setIfInBounds_toArray, List.set_cons_zero, List.set_cons_succ, i64_w, i32_w]
                    rfl
                   refine pure_ (i := 1) (N := some 86) (v := ?_) (a' := ?_) #[true, true, false, false, false, false, false, false, false, false, false, false, false, false, false, false, false, false] rfl rfl (any_of HT_.out (by kernel_rfl)) (fun _ _ _ h => h) (Or.inl ⟨by rfl, ?_⟩) ?_ ?_
                   rotate_left
                   ·intro w'
                    go_simp
                    with_reducible rfl
                   rotate_left
                   ·simp only [Act.put, List.setIfInBounds_toArray, List.set_cons_zero, List.set_cons_succ, i64_w, i32_w]
                    rfl
                   refine pure_ (i := 2) (N := some 87) (v := ?_) (a' := ?_) #[true, true, true, false, false, false, false, false, false, false, false, false, false, false, false, false, false, false] rfl rfl (any_of HT_.out (by kernel_rfl)) (fun _ _ _ h => h) (Or.inl ⟨by rfl, ?_⟩) ?_ ?_
                   rotate_left
                   ·intro w'
                    go_simp
                    with_reducible rfl
                   rotate_left
                   ·simp only [Act.put, List.setIfInBounds_toArray, List.set_cons_zero, List.set_cons_succ, i64_w, i32_w]
                    rfl
                   refine pure_ (i := 3) (N := some 88) (v := ?_) (a' := ?_) #[true, true, true, true, false, false, false, false, false, false, false, false, false, false, false, false, false, false] rfl rfl (any_of HT_.out (by kernel_rfl)) (fun _ _ _ h => h) (Or.inl ⟨by rfl, ?_⟩) ?_ ?_
                   rotate_left
                   ·intro w'
                    go_simp
                    with_reducible rfl
                   rotate_left
                   ·simp only [Act.put, List.setIfInBounds_toArray, List.set_cons_zero, List.set_cons_succ, i64_w, i32_w]
                    rfl
                   refine pure_ (i := 4) (N := some 89) (v := ?_) (a' := ?_) #[true, true, true, true, true, false, false, false, false, false, false, false, false, false, false, false, false, false] rfl rfl (any_of HT_.out (by kernel_rfl)) (fun _ _ _ h => h) (Or.inl ⟨by rfl, ?_⟩) ?_ ?_
                   rotate_left
                   ·intro w'
                    go_simp
                    with_reducible rfl
                   rotate_left
                   ·simp only [Act.put, List.setIfInBounds_toArray, List.set_cons_zero, List.set_cons_succ, i64_w, i32_w]
                    rfl
                   refine pure_ (i := 8) (N := some 93) (v := ?_) (a' := ?_) #[true, true, true, true, true, false, false, false, true, false, false, false, false, false, false, false, false, false] rfl rfl (any_of HT_.out (by kernel_rfl)) (fun _ _ _ h => h) (Or.inl ⟨by rfl, ?_⟩) ?_ ?_
                   rotate_left
                   ·intro w'
                    go_simp
                    with_reducible rfl
                   rotate_left
                   ·simp only [Act.put, List.setIfInBounds_toArray, List.set_cons_zero, List.set_cons_succ, i64_w, i32_w]
                    rfl
                   refine pure_ (i := 9) (N := some 94) (v := ?_) (a' := ?_) #[true, true, true, true, true, false, false, false, true, true, false, false, false, false, false, false, false, false] rfl rfl (any_of HT_.out (by kernel_rfl)) (fun _ _ _ h => h) (Or.inl ⟨by rfl, ?_⟩) ?_ ?_
                   rotate_left
                   ·intro w'
                    go_simp
                    with_reducible rfl
                   rotate_left
                   ·simp only [Act.put, List.setIfInBounds_toArray, List.set_cons_zero, List.set_cons_succ, i64_w, i32_w]
                    rfl
                   refine pure_ (i := 10) (N := some 95) (v := ?_) (a' := ?_) #[true, true, true, true, true, false, false, false, true, true, true, false, false, false, false, false, false, false] rfl rfl (any_of HT_.out (by kernel_rfl)) (fun _ _ _ h => h) (Or.inl ⟨by rfl, ?_⟩) ?_ ?_
                   rotate_left
                   ·intro w'
                    go_simp
                    with_reducible rfl
                   rotate_left
                   ·simp only [Act.put, List.setIfInBounds_toArray, List.set_cons_zero, List.set_cons_succ, i64_w, i32_w]
                    rfl
                   refine pure_ (i := 11) (N := some 96) (v := ?_) (a' := ?_) #[true, true, true, true, true, false, false, false, true, true, true, true, false, false, false, false, false, false] rfl rfl (any_of HT_.out (by kernel_rfl)) (fun _ _ _ h => h) (Or.inl ⟨by rfl, ?_⟩) ?_ ?_
                   rotate_left
                   ·intro w'
                    go_simp
                    with_reducible rfl
                   rotate_left
                   ·simp only [Act.put, List.setIfInBounds_toArray, List.set_cons_zero, List.set_cons_succ, i64_w, i32_w]
                    rfl
                   refine pure_ (i := 12) (N := some 97) (v := ?_) (a' := ?_) #[true, true, true, true, true, false, false, false, true, true, true, true, true, false, false, false, false, false] rfl rfl (any_of HT_.out (by kernel_rfl)) (fun _ _ _ h => h) (Or.inl ⟨by rfl, ?_⟩) ?_ ?_
                   rotate_left
                   ·intro w'
                    go_simp
                    with_reducible rfl
                   rotate_left
                   ·simp only [Act.put, List.setIfInBounds_toArray, List.set_cons_zero, List.set_cons_succ, i64_w, i32_w]
                    rfl
                   refine take_ (i := 5) (N := some 90) (v := ?_) (a' := ?_) #[true, true, true, true, true, true, false, false, true, true, true, true, true, false, false, false, false, false] rfl rfl (take_ofW HT_.out HW_.out (by kernel_rfl)) (fun _ _ _ h => h) (Or.inl ⟨by rfl, ?_⟩) hHeld ?_ ?_
                   rotate_left
                   ·rintro w' ⟨s0, s1⟩
                    go_simp
                    with_reducible rfl
                   rotate_left
                   ·simp only [Act.put, List.setIfInBounds_toArray, List.set_cons_zero, List.set_cons_succ, i64_w, i32_w]
                    rfl
                   refine pure_ (i := 6) (N := some 91) (v := ?_) (a' := ?_) #[true, true, true, true, true, true, true, false, true, true, true, true, true, false, false, false, false, false] rfl rfl (any_of HT_.out (by kernel_rfl)) (fun _ _ _ h => h) (Or.inl ⟨by rfl, ?_⟩) ?_ ?_
                   rotate_left
                   ·intro w'
                    go_simp
                    with_reducible rfl
                   rotate_left
                   ·simp only [Act.put, List.setIfInBounds_toArray, List.set_cons_zero, List.set_cons_succ, i64_w, i32_w]
                    rfl
                   refine pure_ (i := 7) (N := some 92) (v := ?_) (a' := ?_) #[true, true, true, true, true, true, true, true, true, true, true, true, true, false, false, false, false, false] rfl rfl (any_of HT_.out (by kernel_rfl)) (fun _ _ _ h => h) (Or.inl ⟨by rfl, ?_⟩) ?_ ?_
                   rotate_left
                   ·intro w'
                    go_simp
                    with_reducible rfl
                   rotate_left
                   ·simp only [Act.put, List.setIfInBounds_toArray, List.set_cons_zero, List.set_cons_succ, i64_w, i32_w]
                    rfl
                   refine pure_ (i := 16) (N := some 14) (v := ?_) (a' := ?_) #[true, true, true, true, true, true, true, true, true, true, true, true, true, false, false, false, true, false] rfl rfl (any_of HT_.out (by kernel_rfl)) (fun _ _ _ h => h) (Or.inl ⟨by rfl, ?_⟩) ?_ ?_
                   rotate_left
                   ·intro w'
                    go_simp
                    with_reducible rfl
                   rotate_left
                   ·simp only [Act.put, List.setIfInBounds_toArray, List.set_cons_zero, List.set_cons_succ, i64_w, i32_w]
                    rfl
                   refine take_ (i := 13) (N := some 98) (v := ?_) (a' := ?_) #[true, true, true, true, true, true, true, true, true, true, true, true, true, true, false, false, true, false] rfl rfl (take_ofW HT_.out HW_.out (by kernel_rfl)) (fun _ _ _ h => h) (Or.inl ⟨by rfl, ?_⟩) hHeld ?_ ?_
                   rotate_left
                   ·rintro w' ⟨s0, s1⟩
                    go_simp
                    with_reducible rfl
                   rotate_left
                   ·simp only [Act.put, List.setIfInBounds_toArray, List.set_cons_zero, List.set_cons_succ, i64_w, i32_w]
                    rfl
                   refine pure_ (i := 14) (N := some 99) (v := ?_) (a' := ?_) #[true, true, true, true, true, true, true, true, true, true, true, true, true, true, true, false, true, false] rfl rfl (any_of HT_.out (by kernel_rfl)) (fun _ _ _ h => h) (Or.inl ⟨by rfl, ?_⟩) ?_ ?_
                   rotate_left
                   ·intro w'
                    go_simp
                    with_reducible rfl
                   rotate_left
                   ·simp only [Act.put, List.setIfInBounds_toArray, List.set_cons_zero, List.set_cons_succ, i64_w, i32_w]
                    rfl
                   refine pure_ (i := 15) (N := some 100) (v := ?_) (a' := ?_) #[true, true, true, true, true, true, true, true, true, true, true, true, true, true, true, true, true, false] rfl rfl (any_of HT_.out (by kernel_rfl)) (fun _ _ _ h => h) (Or.inl ⟨by rfl, ?_⟩) ?_ ?_
                   rotate_left
                   ·intro w'
                    go_simp
                    with_reducible rfl
                   rotate_left
                   ·simp only [Act.put, List.setIfInBounds_toArray, List.set_cons_zero, List.set_cons_succ, i64_w, i32_w]
                    rfl
                   refine pure_ (i := 17) (N := some 15) (v := ?_) (a' := ?_) #[true, true, true, true, true, true, true, true, true, true, true, true, true, true, true, true, true, true] rfl rfl (any_of HT_.out (by kernel_rfl)) (fun _ _ _ h => h) (Or.inl ⟨by rfl, ?_⟩) ?_ ?_
                   rotate_left
                   ·intro w'
                    go_simp
                    with_reducible rfl
                   rotate_left
                   ·simp only [Act.put, List.setIfInBounds_toArray, List.set_cons_zero, List.set_cons_succ, i64_w, i32_w]
                    rfl
                   refine done_ (done_of HT_.out (by kernel_rfl)) ?_
                   go_upto_block 2 with (fail)
                   go_cut [14] (fun v14 wc => ∃ (kq : Nat) (x14_41 : Int), v14 = .int .u64 x14_41 ∧ Aside0 (rational_divNat.j3 kq y171 t177 (t177.length : Int) x10_1 x11_1 x12_1 x14_41 = some (r1, r2)) ∧ Aside0 (kq ≤ k1) ∧ Aside0 (Kd.R (Kd.int .u32) 90 wc w.heap.size (fun k_ => (w.heap.size ≤ k_) ∧ some k_ ≠ ((.slice (some ad202) x10_1.length co44) : Value).ownBlock ∧ some k_ ≠ (v187 : Value).ownBlock) (.slice Ao22 y171.length co22) y171) ∧ Aside0 (Kd.V (Kd.int .u32) 90 wc w.heap.size (fun k_ => (P0_ k_ ∨ w.heap.size ≤ k_) ∧ some k_ ≠ ((.slice Ao22 y171.length co22) : Value).ownBlock ∧ some k_ ≠ ((.slice (some ad202) x10_1.length co44) : Value).ownBlock ∧ some k_ ≠ (v187 : Value).ownBlock) (.slice (some ad204) t177.length co25) t177) ∧ Aside0 (Kd.R (Kd.int .u32) 90 wc w.heap.size (fun k_ => (w.heap.size ≤ k_) ∧ some k_ ≠ ((.slice Ao22 y171.length co22) : Value).ownBlock ∧ some k_ ≠ (v187 : Value).ownBlock) (.slice (some ad202) x10_1.length co44) x10_1) ∧ Aside0 (Kd.R (Kd.int .u32) 90 wc w.heap.size (fun k_ => (w.heap.size ≤ k_) ∧ some k_ ≠ ((.slice Ao22 y171.length co22) : Value).ownBlock ∧ some k_ ≠ ((.slice (some ad202) x10_1.length co44) : Value).ownBlock) v187 x11_1) ∧ Aside0 (Below w.heap.size w wc))
                   case first =>
                    have H := HC42.out
                    clear HC42
                    have H' := Aside0.mk H
                    clear H
                    go_wp2
                    go_loopg [14, 15] k1 (fun kq v14 v15 w' => ∃ (x14_2 : Int) (x15_2 : Int), v14 = .int .u64 x14_2 ∧ v15 = .int .u64 x15_2 ∧ Aside0 (rational_divNat.l1 kq y171 t177 (t177.length : Int) x10_1 x11_1 x12_1 x14_2 x15_2 = some (r1, r2)) ∧ Aside0 (kq ≤ k1) ∧ Aside0 (Kd.R (Kd.int .u32) 90 w' w.heap.size (fun k_ => (w.heap.size ≤ k_) ∧ some k_ ≠ ((.slice (some ad202) x10_1.length co44) : Value).ownBlock ∧ some k_ ≠ (v187 : Value).ownBlock) (.slice Ao22 y171.length co22) y171) ∧ Aside0 (Kd.V (Kd.int .u32) 90 w' w.heap.size (fun k_ => (P0_ k_ ∨ w.heap.size ≤ k_) ∧ some k_ ≠ ((.slice Ao22 y171.length co22) : Value).ownBlock ∧ some k_ ≠ ((.slice (some ad202) x10_1.length co44) : Value).ownBlock ∧ some k_ ≠ (v187 : Value).ownBlock) (.slice (some ad204) t177.length co25) t177) ∧ Aside0 (Kd.R (Kd.int .u32) 90 w' w.heap.size (fun k_ => (w.heap.size ≤ k_) ∧ some k_ ≠ ((.slice Ao22 y171.length co22) : Value).ownBlock ∧ some k_ ≠ (v187 : Value).ownBlock) (.slice (some ad202) x10_1.length co44) x10_1) ∧ Aside0 (Kd.R (Kd.int .u32) 90 w' w.heap.size (fun k_ => (w.heap.size ≤ k_) ∧ some k_ ≠ ((.slice Ao22 y171.length co22) : Value).ownBlock ∧ some k_ ≠ ((.slice (some ad202) x10_1.length co44) : Value).ownBlock) v187 x11_1) ∧ Aside0 (Below w.heap.size w w'))
                    case atStart => exact ⟨(IntKind.u64.wrap (Int.tdiv (IntKind.u64.wrap ((IntKind.u64.wrap ((IntKind.u64.wrap (rd x10_1 (ji32))) * 1000000000)) + (IntKind.u64.wrap (rd x10_1 (ji35))))) (IntKind.u64.wrap (rd t177 (ji38))))), (Int.tmod (IntKind.u64.wrap ((IntKind.u64.wrap ((IntKind.u64.wrap (rd x10_1 (ji32))) * 1000000000)) + (IntKind.u64.wrap (rd x10_1 (ji35))))) (IntKind.u64.wrap (rd t177 (ji38)))), (by first | rfl | (simp; done) | (simp only [← hji32, ← hji35, ← hji38] <;> (first | rfl | simp)) | (simp [*]; done)), (by first | rfl | (simp; done) | (simp only [← hji32, ← hji35, ← hji38] <;> (first | rfl | simp)) | (simp [*]; done)), H', ⟨Nat.le_refl _⟩, ⟨by (with_reducible repeat (first | apply Kd.R_alloc | apply Kd.R_drewN | apply Kd.R_drew)); exact HO_6.out⟩, ⟨by (with_reducible repeat (first | apply Kd.V_alloc | apply Kd.V_drewN | apply Kd.V_drew)); exact HO_8.out⟩, ⟨by (with_reducible repeat (first | apply Kd.R_alloc | apply Kd.R_drewN | apply Kd.R_drew)); exact HO_10.out⟩, ⟨by (with_reducible repeat (first | apply Kd.R_alloc | apply Kd.R_drewN | apply Kd.R_drew)); exact HO_11.out⟩, ⟨HB.out⟩⟩
                    case round =>
                     clear H'
                     try clear c1
                     try clear p1
                     try clear q1
                     try clear hx1
                     try clear qi1
                     try clear p2
                     try clear q2
                     try clear hx2
                     try clear c3
                     try clear c4
                     try clear c4b0
                     try clear c5
                     try clear c5b0
                     try clear c5b1
                     try clear c6
                     try clear c6b0
                     try clear c6b1
                     try clear p6
                     try clear c10
                     try clear c10b0
                     try clear c11
                     try clear c11b0
                     try clear c12
                     try clear c12b0
                     try clear c12b1
                     try clear c16
                     try clear p16
                     try clear q16
                     try clear hx16
                     try clear qi16
                     try clear p17
                     try clear q17
                     try clear hx17
                     try clear c18
                     try clear c18b0
                     try clear c18b1
                     try clear c19
                     try clear c19b0
                     try clear c19b1
                     try clear p20
                     try clear q20
                     try clear hx20
                     try clear c31
                     try clear c31b0
                     try clear c33
                     try clear c33b0
                     try clear c34
                     try clear c34b0
                     try clear c36
                     try clear c36b0
                     try clear c37
                     try clear c37b0
                     try clear c39
                     try clear c39b0
                     try clear c40
                     try clear c40b0
                     try clear c41
                     try clear c41b0
                     try clear c41b1
                     try clear hx163_0
                     try clear hx170_0
                     try clear hx202_0
                     try clear hx203_0
                     try clear hx204_0
                     try clear hx205_0
                     try clear p1
                     try clear p16
                     try clear p163
                     try clear p17
                     try clear p170
                     try clear p2
                     try clear p202
                     try clear p203
                     try clear p204
                     try clear p205
                     try clear p6
                     try clear q1
                     try clear q16
                     try clear q163
                     try clear q17
                     try clear q170
                     try clear q202
                     try clear q203
                     try clear q204
                     try clear q205
                     obtain ⟨x14_2, x15_2, rfl, rfl, HA, HK2, HO_6, HO_8, HO_10, HO_11, HB⟩ := hrel
                     cases gk with
                     | zero => exact absurd HA.out (by simp [rational_divNat.l1])
                     | succ k2 =>
                      have H := HA.out
                      clear HA
                      simp only [rational_divNat.l1] at H
                      (try simp only [hji32] at H)
                      have HC46 := Aside0.mk H
                      clear H
                      go_upto_region 15 with (fail)
                      go_cut [124] (fun v124 wc => ∃ (kq : Nat) (x124_45 : Bool), v124 = .bool x124_45 ∧ Aside0 (rational_divNat.j2 kq y171 t177 (t177.length : Int) x10_1 x11_1 x12_1 x14_2 x15_2 x124_45 = some (r1, r2)) ∧ Aside0 (kq ≤ k2) ∧ Aside0 (Kd.R (Kd.int .u32) 90 wc w.heap.size (fun k_ => (w.heap.size ≤ k_) ∧ some k_ ≠ ((.slice (some ad202) x10_1.length co44) : Value).ownBlock ∧ some k_ ≠ (v187 : Value).ownBlock) (.slice Ao22 y171.length co22) y171) ∧ Aside0 (Kd.V (Kd.int .u32) 90 wc w.heap.size (fun k_ => (P0_ k_ ∨ w.heap.size ≤ k_) ∧ some k_ ≠ ((.slice Ao22 y171.length co22) : Value).ownBlock ∧ some k_ ≠ ((.slice (some ad202) x10_1.length co44) : Value).ownBlock ∧ some k_ ≠ (v187 : Value).ownBlock) (.slice (some ad204) t177.length co25) t177) ∧ Aside0 (Kd.R (Kd.int .u32) 90 wc w.heap.size (fun k_ => (w.heap.size ≤ k_) ∧ some k_ ≠ ((.slice Ao22 y171.length co22) : Value).ownBlock ∧ some k_ ≠ (v187 : Value).ownBlock) (.slice (some ad202) x10_1.length co44) x10_1) ∧ Aside0 (Kd.R (Kd.int .u32) 90 wc w.heap.size (fun k_ => (w.heap.size ≤ k_) ∧ some k_ ≠ ((.slice Ao22 y171.length co22) : Value).ownBlock ∧ some k_ ≠ ((.slice (some ad202) x10_1.length co44) : Value).ownBlock) v187 x11_1) ∧ Aside0 (Below w.heap.size w wc))
                      case first =>
                       have H := HC46.out
                       clear HC46
                       by_cases c47 : x14_2 ≥ 1000000000
                       ·rw [if_pos c47] at H
                        have c47b0 : decide (1000000000 ≤ x14_2) = true := decide_eq_true c47
                        clear c47
                        (first | rw [c47b0] | (simp only [i64_w, i32_w]; rw [c47b0]) | skip)
                        have H' := Aside0.mk H
                        clear H
                        try go_wp2
                        have n0_ := Aside0.mk (Kd.R_drew HO_6.out)
                        have n1_ := Aside0.mk (Kd.V_drew HO_8.out)
                        have n2_ := Aside0.mk (Kd.R_drew HO_10.out)
                        have n3_ := Aside0.mk (Kd.R_drew HO_11.out)
                        have n4_ := Aside0.mk (below_drew1 HB.out)
                        clear HO_6
                        clear HO_8
                        clear HO_10
                        clear HO_11
                        clear HB
                        have HO_6 := n0_
                        have HO_8 := n1_
                        have HO_10 := n2_
                        have HO_11 := n3_
                        have HB := n4_
                        clear n0_ n1_ n2_ n3_ n4_
                        refine start_ (n := 24) (S := fun w' => True) (ds := []) #[false, false, false, false, false, false, false, false, false, false, false, false, false, false, false, false, false, false, false, false, false, false, false, false] (by kernel_rfl) rfl rfl trivial (fun hHeld => ?_); refine with_tabW rational_divNat.tab15 rational_divNat.bits15 (fun HT_ HW_ => ?_)
                        generalize wr.drew = w48 at HO_6 HO_8 HO_10 HO_11 HB hHeld ⊢
                        refine pure_ (i := 0) (N := some 101) (v := ?_) (a' := ?_) #[true, false, false, false, false, false, false, false, false, false, false, false, false, false, false, false, false, false, false, false, false, false, false, false] rfl rfl (any_of HT_.out (by kernel_rfl)) (fun _ _ _ h => h) (Or.inl ⟨by rfl, ?_⟩) ?_ ?_
                        rotate_left
                        ·intro w'
                         go_simp
                         with_reducible rfl
                        rotate_left
                        ·simp only [Act.put, List.setIfInBounds_toArray, List.set_cons_zero, List.set_cons_succ, i64_w, i32_w]
                         rfl
                        refine pure_ (i := 1) (N := some 102) (v := ?_) (a' := ?_) #[true, true, false, false, false, false, false, false, false, false, false, false, false, false, false, false, false, false, false, false, false, false, false, false] rfl rfl (any_of HT_.out (by kernel_rfl)) (fun _ _ _ h => h) (Or.inl ⟨by rfl, ?_⟩) ?_ ?_
                        rotate_left
                        ·intro w'
                         go_simp
                         with_reducible rfl
                        rotate_left
                        ·simp only [Act.put, List.setIfInBounds_toArray, List.set_cons_zero, List.set_cons_succ, i64_w, i32_w]
                         rfl
                        refine pure_ (i := 2) (N := some 103) (v := ?_) (a' := ?_) #[true, true, true, false, false, false, false, false, false, false, false, false, false, false, false, false, false, false, false, false, false, false, false, false] rfl rfl (any_of HT_.out (by kernel_rfl)) (fun _ _ _ h => h) (Or.inl ⟨by rfl, ?_⟩) ?_ ?_
                        rotate_left
                        ·intro w'
                         go_simp
                         with_reducible rfl
                        rotate_left
                        ·simp only [Act.put, List.setIfInBounds_toArray, List.set_cons_zero, List.set_cons_succ, i64_w, i32_w]
                         rfl
                        refine pure_ (i := 3) (N := some 104) (v := undef) (a' := ?_) #[true, true, true, true, false, false, false, false, false, false, false, false, false, false, false, false, false, false, false, false, false, false, false, false] rfl rfl (any_of HT_.out (by kernel_rfl)) (fun _ _ _ h => h) (Or.inr ⟨by rfl, rfl⟩) ?_ ?_
                        rotate_left
                        ·simp only [Act.put, List.setIfInBounds_toArray, List.set_cons_zero, List.set_cons_succ, i64_w, i32_w]
                         rfl
                        refine pure_ (i := 4) (N := some 105) (v := undef) (a' := ?_) #[true, true, true, true, true, false, false, false, false, false, false, false, false, false, false, false, false, false, false, false, false, false, false, false] rfl rfl (any_of HT_.out (by kernel_rfl)) (fun _ _ _ h => h) (Or.inr ⟨by rfl, rfl⟩) ?_ ?_
                        rotate_left
                        ·simp only [Act.put, List.setIfInBounds_toArray, List.set_cons_zero, List.set_cons_succ, i64_w, i32_w]
                         rfl
                        refine pure_ (i := 5) (N := some 106) (v := undef) (a' := ?_) #[true, true, true, true, true, true, false, false, false, false, false, false, false, false, false, false, false, false, false, false, false, false, false, false] rfl rfl (any_of HT_.out (by kernel_rfl)) (fun _ _ _ h => h) (Or.inr ⟨by rfl, rfl⟩) ?_ ?_
                        rotate_left
                        ·simp only [Act.put, List.setIfInBounds_toArray, List.set_cons_zero, List.set_cons_succ, i64_w, i32_w]
                         rfl
                        refine pure_ (i := 6) (N := some 107) (v := undef) (a' := ?_) #[true, true, true, true, true, true, true, false, false, false, false, false, false, false, false, false, false, false, false, false, false, false, false, false] rfl rfl (any_of HT_.out (by kernel_rfl)) (fun _ _ _ h => h) (Or.inr ⟨by rfl, rfl⟩) ?_ ?_
                        rotate_left
                        ·simp only [Act.put, List.setIfInBounds_toArray, List.set_cons_zero, List.set_cons_succ, i64_w, i32_w]
                         rfl
                        refine pure_ (i := 7) (N := some 108) (v := undef) (a' := ?_) #[true, true, true, true, true, true, true, true, false, false, false, false, false, false, false, false, false, false, false, false, false, false, false, false] rfl rfl (any_of HT_.out (by kernel_rfl)) (fun _ _ _ h => h) (Or.inr ⟨by rfl, rfl⟩) ?_ ?_
                        rotate_left
                        ·simp only [Act.put, List.setIfInBounds_toArray, List.set_cons_zero, List.set_cons_succ, i64_w, i32_w]
                         rfl
                        refine pure_ (i := 8) (N := some 109) (v := undef) (a' := ?_) #[true, true, true, true, true, true, true, true, true, false, false, false, false, false, false, false, false, false, false, false, false, false, false, false] rfl rfl (any_of HT_.out (by kernel_rfl)) (fun _ _ _ h => h) (Or.inr ⟨by rfl, rfl⟩) ?_ ?_
                        rotate_left
                        ·simp only [Act.put, List.setIfInBounds_toArray, List.set_cons_zero, List.set_cons_succ, i64_w, i32_w]
                         rfl
                        refine pure_ (i := 9) (N := some 110) (v := undef) (a' := ?_) #[true, true, true, true, true, true, true, true, true, true, false, false, false, false, false, false, false, false, false, false, false, false, false, false] rfl rfl (any_of HT_.out (by kernel_rfl)) (fun _ _ _ h => h) (Or.inr ⟨by rfl, rfl⟩) ?_ ?_
                        rotate_left
                        ·simp only [Act.put, List.setIfInBounds_toArray, List.set_cons_zero, List.set_cons_succ, i64_w, i32_w]
                         rfl
                        refine pure_ (i := 10) (N := some 111) (v := undef) (a' := ?_) #[true, true, true, true, true, true, true, true, true, true, true, false, false, false, false, false, false, false, false, false, false, false, false, false] rfl rfl (any_of HT_.out (by kernel_rfl)) (fun _ _ _ h => h) (Or.inr ⟨by rfl, rfl⟩) ?_ ?_
                        rotate_left
                        ·simp only [Act.put, List.setIfInBounds_toArray, List.set_cons_zero, List.set_cons_succ, i64_w, i32_w]
                         rfl
                        refine pure_ (i := 11) (N := some 112) (v := undef) (a' := ?_) #[true, true, true, true, true, true, true, true, true, true, true, true, false, false, false, false, false, false, false, false, false, false, false, false] rfl rfl (any_of HT_.out (by kernel_rfl)) (fun _ _ _ h => h) (Or.inr ⟨by rfl, rfl⟩) ?_ ?_
                        rotate_left
                        ·simp only [Act.put, List.setIfInBounds_toArray, List.set_cons_zero, List.set_cons_succ, i64_w, i32_w]
                         rfl
                        refine pure_ (i := 12) (N := some 113) (v := undef) (a' := ?_) #[true, true, true, true, true, true, true, true, true, true, true, true, true, false, false, false, false, false, false, false, false, false, false, false] rfl rfl (any_of HT_.out (by kernel_rfl)) (fun _ _ _ h => h) (Or.inr ⟨by rfl, rfl⟩) ?_ ?_
                        rotate_left
                        ·simp only [Act.put, List.setIfInBounds_toArray, List.set_cons_zero, List.set_cons_succ, i64_w, i32_w]
                         rfl
                        refine pure_ (i := 13) (N := some 114) (v := undef) (a' := ?_) #[true, true, true, true, true, true, true, true, true, true, true, true, true, true, false, false, false, false, false, false, false, false, false, false] rfl rfl (any_of HT_.out (by kernel_rfl)) (fun _ _ _ h => h) (Or.inr ⟨by rfl, rfl⟩) ?_ ?_
                        rotate_left
                        ·simp only [Act.put, List.setIfInBounds_toArray, List.set_cons_zero, List.set_cons_succ, i64_w, i32_w]
                         rfl
                        refine pure_ (i := 14) (N := some 115) (v := undef) (a' := ?_) #[true, true, true, true, true, true, true, true, true, true, true, true, true, true, true, false, false, false, false, false, false, false, false, false] rfl rfl (any_of HT_.out (by kernel_rfl)) (fun _ _ _ h => h) (Or.inr ⟨by rfl, rfl⟩) ?_ ?_
                        rotate_left
                        ·simp only [Act.put, List.setIfInBounds_toArray, List.set_cons_zero, List.set_cons_succ, i64_w, i32_w]
                         rfl
                        refine pure_ (i := 15) (N := some 116) (v := undef) (a' := ?_) #[true, true, true, true, true, true, true, true, true, true, true, true, true, true, true, true, false, false, false, false, false, false, false, false] rfl rfl (any_of HT_.out (by kernel_rfl)) (fun _ _ _ h => h) (Or.inr ⟨by rfl, rfl⟩) ?_ ?_
                        rotate_left
                        ·simp only [Act.put, List.setIfInBounds_toArray, List.set_cons_zero, List.set_cons_succ, i64_w, i32_w]
                         rfl
                        refine pure_ (i := 16) (N := some 117) (v := undef) (a' := ?_) #[true, true, true, true, true, true, true, true, true, true, true, true, true, true, true, true, true, false, false, false, false, false, false, false] rfl rfl (any_of HT_.out (by kernel_rfl)) (fun _ _ _ h => h) (Or.inr ⟨by rfl, rfl⟩) ?_ ?_
                        rotate_left
                        ·simp only [Act.put, List.setIfInBounds_toArray, List.set_cons_zero, List.set_cons_succ, i64_w, i32_w]
                         rfl
                        refine pure_ (i := 17) (N := some 118) (v := undef) (a' := ?_) #[true, true, true, true, true, true, true, true, true, true, true, true, true, true, true, true, true, true, false, false, false, false, false, false] rfl rfl (any_of HT_.out (by kernel_rfl)) (fun _ _ _ h => h) (Or.inr ⟨by rfl, rfl⟩) ?_ ?_
                        rotate_left
                        ·simp only [Act.put, List.setIfInBounds_toArray, List.set_cons_zero, List.set_cons_succ, i64_w, i32_w]
                         rfl
                        refine pure_ (i := 18) (N := some 119) (v := undef) (a' := ?_) #[true, true, true, true, true, true, true, true, true, true, true, true, true, true, true, true, true, true, true, false, false, false, false, false] rfl rfl (any_of HT_.out (by kernel_rfl)) (fun _ _ _ h => h) (Or.inr ⟨by rfl, rfl⟩) ?_ ?_
                        rotate_left
                        ·simp only [Act.put, List.setIfInBounds_toArray, List.set_cons_zero, List.set_cons_succ, i64_w, i32_w]
                         rfl
                        refine pure_ (i := 19) (N := some 120) (v := undef) (a' := ?_) #[true, true, true, true, true, true, true, true, true, true, true, true, true, true, true, true, true, true, true, true, false, false, false, false] rfl rfl (any_of HT_.out (by kernel_rfl)) (fun _ _ _ h => h) (Or.inr ⟨by rfl, rfl⟩) ?_ ?_
                        rotate_left
                        ·simp only [Act.put, List.setIfInBounds_toArray, List.set_cons_zero, List.set_cons_succ, i64_w, i32_w]
                         rfl
                        refine pure_ (i := 20) (N := some 121) (v := undef) (a' := ?_) #[true, true, true, true, true, true, true, true, true, true, true, true, true, true, true, true, true, true, true, true, true, false, false, false] rfl rfl (any_of HT_.out (by kernel_rfl)) (fun _ _ _ h => h) (Or.inr ⟨by rfl, rfl⟩) ?_ ?_
                        rotate_left
                        ·simp only [Act.put, List.setIfInBounds_toArray, List.set_cons_zero, List.set_cons_succ, i64_w, i32_w]
                         rfl
                        refine pure_ (i := 21) (N := some 122) (v := undef) (a' := ?_) #[true, true, true, true, true, true, true, true, true, true, true, true, true, true, true, true, true, true, true, true, true, true, false, false] rfl rfl (any_of HT_.out (by kernel_rfl)) (fun _ _ _ h => h) (Or.inr ⟨by rfl, rfl⟩) ?_ ?_
                        rotate_left
                        ·simp only [Act.put, List.setIfInBounds_toArray, List.set_cons_zero, List.set_cons_succ, i64_w, i32_w]
                         rfl
                        refine pure_ (i := 22) (N := some 123) (v := undef) (a' := ?_) #[true, true, true, true, true, true, true, true, true, true, true, true, true, true, true, true, true, true, true, true, true, true, true, false] rfl rfl (any_of HT_.out (by kernel_rfl)) (fun _ _ _ h => h) (Or.inr ⟨by rfl, rfl⟩) ?_ ?_
                        rotate_left
                        ·simp only [Act.put, List.setIfInBounds_toArray, List.set_cons_zero, List.set_cons_succ, i64_w, i32_w]
                         rfl
                        refine pure_ (i := 23) (N := some 124) (v := ?_) (a' := ?_) #[true, true, true, true, true, true, true, true, true, true, true, true, true, true, true, true, true, true, true, true, true, true, true, true] rfl rfl (any_of HT_.out (by kernel_rfl)) (fun _ _ _ h => h) (Or.inl ⟨by rfl, ?_⟩) ?_ ?_
                        rotate_left
                        ·intro w'
                         go_simp
                         with_reducible rfl
                        rotate_left
                        ·simp only [Act.put, List.setIfInBounds_toArray, List.set_cons_zero, List.set_cons_succ, i64_w, i32_w]
                         rfl
                        refine done_ (done_of HT_.out (by kernel_rfl)) ?_
                        try go_wp2
                        go_meet
                        case rel => exact ⟨_, (true), rfl, H', ⟨by have := HK1.out; have := HK2.out; first | omega | exact Nat.le_refl _⟩, ⟨by (with_reducible repeat (first | apply Kd.R_alloc | apply Kd.R_drewN | apply Kd.R_drew)); exact HO_6.out⟩, ⟨by (with_reducible repeat (first | apply Kd.V_alloc | apply Kd.V_drewN | apply Kd.V_drew)); exact HO_8.out⟩, ⟨by (with_reducible repeat (first | apply Kd.R_alloc | apply Kd.R_drewN | apply Kd.R_drew)); exact HO_10.out⟩, ⟨by (with_reducible repeat (first | apply Kd.R_alloc | apply Kd.R_drewN | apply Kd.R_drew)); exact HO_11.out⟩, ⟨HB.out⟩⟩
                       ·rw [if_neg c47] at H
                        have c47b0 : decide (1000000000 ≤ x14_2) = false := decide_eq_false c47
                        clear c47
                        (first | rw [c47b0] | (simp only [i64_w, i32_w]; rw [c47b0]) | skip)
                        obtain ⟨ji49, hji49⟩ : ∃ j_ : Int, (wrap64 ((t177.length : Int) - 2)) = j_ := ⟨_, rfl⟩
                        replace H : (if 0 ≤ (ji49) then (if (ji49) < (t177.length : Int) then (if 0 ≤ (wrap64 ((ji32) - 2)) then (if (wrap64 ((ji32) - 2)) < (x10_1.length : Int) then (rational_divNat.j2 k2 y171 t177 (t177.length : Int) x10_1 x11_1 x12_1 x14_2 x15_2 (decide ((IntKind.u64.wrap (x14_2 * (IntKind.u64.wrap (rd t177 (ji49))))) > (IntKind.u64.wrap ((IntKind.u64.wrap (x15_2 * 1000000000)) + (IntKind.u64.wrap (rd x10_1 (wrap64 ((ji32) - 2))))))))) else (none)) else (none)) else (none)) else (none)) = some (r1, r2) := by first | (rw [hji49] at H; exact H) | (simp only [hji49] at H ⊢; exact H)
                        have hji49w : (IntKind.i64.wrap ((t177.length : Int) - 2)) = ji49 := (i64_w _).trans hji49
                        by_cases c50 : 0 ≤ (ji49)
                        ·rw [if_pos c50] at H
                         have c50b0 : decide (0 ≤ (ji49)) = true := decide_eq_true c50
                         clear c50
                         by_cases c51 : (ji49) < (t177.length : Int)
                         ·rw [if_pos c51] at H
                          have c51b0 : decide ((ji49) < (t177.length : Int)) = true := decide_eq_true c51
                          clear c51
                          obtain ⟨ji52, hji52⟩ : ∃ j_ : Int, (wrap64 ((ji32) - 2)) = j_ := ⟨_, rfl⟩
                          replace H : (if 0 ≤ (ji52) then (if (ji52) < (x10_1.length : Int) then (rational_divNat.j2 k2 y171 t177 (t177.length : Int) x10_1 x11_1 x12_1 x14_2 x15_2 (decide ((IntKind.u64.wrap (x14_2 * (IntKind.u64.wrap (rd t177 (ji49))))) > (IntKind.u64.wrap ((IntKind.u64.wrap (x15_2 * 1000000000)) + (IntKind.u64.wrap (rd x10_1 (ji52)))))))) else (none)) else (none)) = some (r1, r2) := by first | (rw [hji52] at H; exact H) | (simp only [hji52] at H ⊢; exact H)
                          have hji52w : (IntKind.i64.wrap ((ji32) - 2)) = ji52 := (i64_w _).trans hji52
                          by_cases c53 : 0 ≤ (ji52)
                          ·rw [if_pos c53] at H
                           have c53b0 : decide (0 ≤ (ji52)) = true := decide_eq_true c53
                           clear c53
                           by_cases c54 : (ji52) < (x10_1.length : Int)
                           ·rw [if_pos c54] at H
                            have c54b0 : decide ((ji52) < (x10_1.length : Int)) = true := decide_eq_true c54
                            clear c54
                            have H' := Aside0.mk H
                            clear H
                            try go_wp2
                            have n0_ := Aside0.mk (Kd.R_drew HO_6.out)
                            have n1_ := Aside0.mk (Kd.V_drew HO_8.out)
                            have n2_ := Aside0.mk (Kd.R_drew HO_10.out)
                            have n3_ := Aside0.mk (Kd.R_drew HO_11.out)
                            have n4_ := Aside0.mk (below_drew1 HB.out)
                            clear HO_6
                            clear HO_8
                            clear HO_10
                            clear HO_11
                            clear HB
                            have HO_6 := n0_
                            have HO_8 := n1_
                            have HO_10 := n2_
                            have HO_11 := n3_
                            have HB := n4_
                            clear n0_ n1_ n2_ n3_ n4_
                            have p206 : 0 ≤ ((ji49) : Int) := of_decide_eq_true (by assumption)
                            have q206 : (ji49) < (t177.length : Int) := of_decide_eq_true (by assumption)
                            obtain ⟨ad206, e206, hx206_0⟩ := Kd.at_int (Kd.V_reads' HO_8.out).2.2 (ji49) p206 q206
                            obtain rfl : ad204 = ad206 := (by injection e206)
                            replace p206 := eq_true p206
                            replace q206 := eq_true q206
                            have p207 : 0 ≤ ((ji52) : Int) := of_decide_eq_true (by assumption)
                            have q207 : (ji52) < (x10_1.length : Int) := of_decide_eq_true (by assumption)
                            obtain ⟨ad207, e207, hx207_0⟩ := Kd.at_int (Kd.R_reads' HO_10.out).2.2 (ji52) p207 q207
                            obtain rfl : ad202 = ad207 := (by injection e207)
                            replace p207 := eq_true p207
                            replace q207 := eq_true q207
                            refine start_ (n := 24) (S := fun w' => w'.cell? (ad204.add ((ji49)).toNat) = some (.int .u32 (rd t177 (ji49))) ∧ w'.cell? (ad202.add ((ji52)).toNat) = some (.int .u32 (rd x10_1 (ji52)))) (ds := []) #[false, false, false, false, false, false, false, false, false, false, false, false, false, false, false, false, false, false, false, false, false, false, false, false] (by kernel_rfl) rfl rfl ⟨hx206_0, hx207_0⟩ (fun hHeld => ?_); refine with_tabW rational_divNat.tab15 rational_divNat.bits15 (fun HT_ HW_ => ?_)
                            generalize wr.drew = w55 at HO_6 HO_8 HO_10 HO_11 HB hx206_0 hx207_0 hHeld ⊢
                            refine pure_ (i := 0) (N := some 101) (v := ?_) (a' := ?_) #[true, false, false, false, false, false, false, false, false, false, false, false, false, false, false, false, false, false, false, false, false, false, false, false] rfl rfl (any_of HT_.out (by kernel_rfl)) (fun _ _ _ h => h) (Or.inl ⟨by rfl, ?_⟩) ?_ ?_
                            rotate_left
                            ·intro w'
                             go_simp
                             with_reducible rfl
                            rotate_left
                            ·simp only [Act.put, List.setIfInBounds_toArray, List.set_cons_zero, List.set_cons_succ, i64_w, i32_w]
                             rfl
                            refine pure_ (i := 1) (N := some 102) (v := ?_) (a' := ?_) #[true, true, false, false, false, false, false, false, false, false, false, false, false, false, false, false, false, false, false, false, false, false, false, false] rfl rfl (any_of HT_.out (by kernel_rfl)) (fun _ _ _ h => h) (Or.inl ⟨by rfl, ?_⟩) ?_ ?_
                            rotate_left
                            ·intro w'
                             go_simp
                             with_reducible rfl
                            rotate_left
                            ·simp only [Act.put, List.setIfInBounds_toArray, List.set_cons_zero, List.set_cons_succ, i64_w, i32_w]
                             rfl
                            refine pure_ (i := 2) (N := some 103) (v := ?_) (a' := ?_) #[true, true, true, false, false, false, false, false, false, false, false, false, false, false, false, false, false, false, false, false, false, false, false, false] rfl rfl (any_of HT_.out (by kernel_rfl)) (fun _ _ _ h => h) (Or.inl ⟨by rfl, ?_⟩) ?_ ?_
                            rotate_left
                            ·intro w'
                             go_simp
                             with_reducible rfl
                            rotate_left
                            ·simp only [Act.put, List.setIfInBounds_toArray, List.set_cons_zero, List.set_cons_succ, i64_w, i32_w]
                             rfl
                            refine pure_ (i := 3) (N := some 104) (v := ?_) (a' := ?_) #[true, true, true, true, false, false, false, false, false, false, false, false, false, false, false, false, false, false, false, false, false, false, false, false] rfl rfl (any_of HT_.out (by kernel_rfl)) (fun _ _ _ h => h) (Or.inl ⟨by rfl, ?_⟩) ?_ ?_
                            rotate_left
                            ·intro w'
                             go_simp
                             with_reducible rfl
                            rotate_left
                            ·simp only [Act.put, List.setIfInBounds_toArray, List.set_cons_zero, List.set_cons_succ, i64_w, i32_w]
                             rfl
                            refine pure_ (i := 4) (N := some 105) (v := ?_) (a' := ?_) #[true, true, true, true, true, false, false, false, false, false, false, false, false, false, false, false, false, false, false, false, false, false, false, false] rfl rfl (any_of HT_.out (by kernel_rfl)) (fun _ _ _ h => h) (Or.inl ⟨by rfl, ?_⟩) ?_ ?_
                            rotate_left
                            ·intro w'
                             go_simp
                             with_reducible rfl
                            rotate_left
                            ·simp only [Act.put, List.setIfInBounds_toArray, List.set_cons_zero, List.set_cons_succ, i64_w, i32_w]
                             rfl
                            refine pure_ (i := 5) (N := some 106) (v := ?_) (a' := ?_) #[true, true, true, true, true, true, false, false, false, false, false, false, false, false, false, false, false, false, false, false, false, false, false, false] rfl rfl (any_of HT_.out (by kernel_rfl)) (fun _ _ _ h => h) (Or.inl ⟨by rfl, ?_⟩) ?_ ?_
                            rotate_left
                            ·intro w'
                             go_simp
                             with_reducible rfl
                            rotate_left
                            ·simp only [Act.put, List.setIfInBounds_toArray, List.set_cons_zero, List.set_cons_succ, i64_w, i32_w]
                             rfl
                            refine pure_ (i := 6) (N := some 107) (v := ?_) (a' := ?_) #[true, true, true, true, true, true, true, false, false, false, false, false, false, false, false, false, false, false, false, false, false, false, false, false] rfl rfl (any_of HT_.out (by kernel_rfl)) (fun _ _ _ h => h) (Or.inl ⟨by rfl, ?_⟩) ?_ ?_
                            rotate_left
                            ·intro w'
                             go_simp
                             with_reducible rfl
                            rotate_left
                            ·simp only [Act.put, List.setIfInBounds_toArray, List.set_cons_zero, List.set_cons_succ, i64_w, i32_w]
                             rfl
                            refine pure_ (i := 7) (N := some 108) (v := ?_) (a' := ?_) #[true, true, true, true, true, true, true, true, false, false, false, false, false, false, false, false, false, false, false, false, false, false, false, false] rfl rfl (any_of HT_.out (by kernel_rfl)) (fun _ _ _ h => h) (Or.inl ⟨by rfl, ?_⟩) ?_ ?_
                            rotate_left
                            ·intro w'
                             go_simp
                             with_reducible rfl
                            rotate_left
                            ·simp only [Act.put, List.setIfInBounds_toArray, List.set_cons_zero, List.set_cons_succ, i64_w, i32_w]
                             rfl
                            refine pure_ (i := 11) (N := some 112) (v := ?_) (a' := ?_) #[true, true, true, true, true, true, true, true, false, false, false, true, false, false, false, false, false, false, false, false, false, false, false, false] rfl rfl (any_of HT_.out (by kernel_rfl)) (fun _ _ _ h => h) (Or.inl ⟨by rfl, ?_⟩) ?_ ?_
                            rotate_left
                            ·intro w'
                             go_simp
                             with_reducible rfl
                            rotate_left
                            ·simp only [Act.put, List.setIfInBounds_toArray, List.set_cons_zero, List.set_cons_succ, i64_w, i32_w]
                             rfl
                            refine pure_ (i := 12) (N := some 113) (v := ?_) (a' := ?_) #[true, true, true, true, true, true, true, true, false, false, false, true, true, false, false, false, false, false, false, false, false, false, false, false] rfl rfl (any_of HT_.out (by kernel_rfl)) (fun _ _ _ h => h) (Or.inl ⟨by rfl, ?_⟩) ?_ ?_
                            rotate_left
                            ·intro w'
                             go_simp
                             with_reducible rfl
                            rotate_left
                            ·simp only [Act.put, List.setIfInBounds_toArray, List.set_cons_zero, List.set_cons_succ, i64_w, i32_w]
                             rfl
                            refine pure_ (i := 13) (N := some 114) (v := ?_) (a' := ?_) #[true, true, true, true, true, true, true, true, false, false, false, true, true, true, false, false, false, false, false, false, false, false, false, false] rfl rfl (any_of HT_.out (by kernel_rfl)) (fun _ _ _ h => h) (Or.inl ⟨by rfl, ?_⟩) ?_ ?_
                            rotate_left
                            ·intro w'
                             go_simp
                             with_reducible rfl
                            rotate_left
                            ·simp only [Act.put, List.setIfInBounds_toArray, List.set_cons_zero, List.set_cons_succ, i64_w, i32_w]
                             rfl
                            refine pure_ (i := 14) (N := some 115) (v := ?_) (a' := ?_) #[true, true, true, true, true, true, true, true, false, false, false, true, true, true, true, false, false, false, false, false, false, false, false, false] rfl rfl (any_of HT_.out (by kernel_rfl)) (fun _ _ _ h => h) (Or.inl ⟨by rfl, ?_⟩) ?_ ?_
                            rotate_left
                            ·intro w'
                             go_simp
                             with_reducible rfl
                            rotate_left
                            ·simp only [Act.put, List.setIfInBounds_toArray, List.set_cons_zero, List.set_cons_succ, i64_w, i32_w]
                             rfl
                            refine pure_ (i := 15) (N := some 116) (v := ?_) (a' := ?_) #[true, true, true, true, true, true, true, true, false, false, false, true, true, true, true, true, false, false, false, false, false, false, false, false] rfl rfl (any_of HT_.out (by kernel_rfl)) (fun _ _ _ h => h) (Or.inl ⟨by rfl, ?_⟩) ?_ ?_
                            rotate_left
                            ·intro w'
                             go_simp
                             with_reducible rfl
                            rotate_left
                            ·simp only [Act.put, List.setIfInBounds_toArray, List.set_cons_zero, List.set_cons_succ, i64_w, i32_w]
                             rfl
                            refine pure_ (i := 16) (N := some 117) (v := ?_) (a' := ?_) #[true, true, true, true, true, true, true, true, false, false, false, true, true, true, true, true, true, false, false, false, false, false, false, false] rfl rfl (any_of HT_.out (by kernel_rfl)) (fun _ _ _ h => h) (Or.inl ⟨by rfl, ?_⟩) ?_ ?_
                            rotate_left
                            ·intro w'
                             go_simp
                             with_reducible rfl
                            rotate_left
                            ·simp only [Act.put, List.setIfInBounds_toArray, List.set_cons_zero, List.set_cons_succ, i64_w, i32_w]
                             rfl
                            refine pure_ (i := 17) (N := some 118) (v := ?_) (a' := ?_) #[true, true, true, true, true, true, true, true, false, false, false, true, true, true, true, true, true, true, false, false, false, false, false, false] rfl rfl (any_of HT_.out (by kernel_rfl)) (fun _ _ _ h => h) (Or.inl ⟨by rfl, ?_⟩) ?_ ?_
                            rotate_left
                            ·intro w'
                             go_simp
                             with_reducible rfl
                            rotate_left
                            ·simp only [Act.put, List.setIfInBounds_toArray, List.set_cons_zero, List.set_cons_succ, i64_w, i32_w]
                             rfl
                            refine pure_ (i := 18) (N := some 119) (v := ?_) (a' := ?_) #[true, true, true, true, true, true, true, true, false, false, false, true, true, true, true, true, true, true, true, false, false, false, false, false] rfl rfl (any_of HT_.out (by kernel_rfl)) (fun _ _ _ h => h) (Or.inl ⟨by rfl, ?_⟩) ?_ ?_
                            rotate_left
                            ·intro w'
                             go_simp
                             with_reducible rfl
                            rotate_left
                            ·simp only [Act.put, List.setIfInBounds_toArray, List.set_cons_zero, List.set_cons_succ, i64_w, i32_w]
                             rfl
                            refine take_ (i := 8) (N := some 109) (v := ?_) (a' := ?_) #[true, true, true, true, true, true, true, true, true, false, false, true, true, true, true, true, true, true, true, false, false, false, false, false] rfl rfl (take_ofW HT_.out HW_.out (by kernel_rfl)) (fun _ _ _ h => h) (Or.inl ⟨by rfl, ?_⟩) hHeld ?_ ?_
                            rotate_left
                            ·rintro w' ⟨s0, s1⟩
                             go_simp
                             with_reducible rfl
                            rotate_left
                            ·simp only [Act.put, List.setIfInBounds_toArray, List.set_cons_zero, List.set_cons_succ, i64_w, i32_w]
                             rfl
                            refine pure_ (i := 9) (N := some 110) (v := ?_) (a' := ?_) #[true, true, true, true, true, true, true, true, true, true, false, true, true, true, true, true, true, true, true, false, false, false, false, false] rfl rfl (any_of HT_.out (by kernel_rfl)) (fun _ _ _ h => h) (Or.inl ⟨by rfl, ?_⟩) ?_ ?_
                            rotate_left
                            ·intro w'
                             go_simp
                             with_reducible rfl
                            rotate_left
                            ·simp only [Act.put, List.setIfInBounds_toArray, List.set_cons_zero, List.set_cons_succ, i64_w, i32_w]
                             rfl
                            refine pure_ (i := 10) (N := some 111) (v := ?_) (a' := ?_) #[true, true, true, true, true, true, true, true, true, true, true, true, true, true, true, true, true, true, true, false, false, false, false, false] rfl rfl (any_of HT_.out (by kernel_rfl)) (fun _ _ _ h => h) (Or.inl ⟨by rfl, ?_⟩) ?_ ?_
                            rotate_left
                            ·intro w'
                             go_simp
                             with_reducible rfl
                            rotate_left
                            ·simp only [Act.put, List.setIfInBounds_toArray, List.set_cons_zero, List.set_cons_succ, i64_w, i32_w]
                             rfl
                            refine take_ (i := 19) (N := some 120) (v := ?_) (a' := ?_) #[true, true, true, true, true, true, true, true, true, true, true, true, true, true, true, true, true, true, true, true, false, false, false, false] rfl rfl (take_ofW HT_.out HW_.out (by kernel_rfl)) (fun _ _ _ h => h) (Or.inl ⟨by rfl, ?_⟩) hHeld ?_ ?_
                            rotate_left
                            ·rintro w' ⟨s0, s1⟩
                             go_simp
                             with_reducible rfl
                            rotate_left
                            ·simp only [Act.put, List.setIfInBounds_toArray, List.set_cons_zero, List.set_cons_succ, i64_w, i32_w]
                             rfl
                            refine pure_ (i := 20) (N := some 121) (v := ?_) (a' := ?_) #[true, true, true, true, true, true, true, true, true, true, true, true, true, true, true, true, true, true, true, true, true, false, false, false] rfl rfl (any_of HT_.out (by kernel_rfl)) (fun _ _ _ h => h) (Or.inl ⟨by rfl, ?_⟩) ?_ ?_
                            rotate_left
                            ·intro w'
                             go_simp
                             with_reducible rfl
                            rotate_left
                            ·simp only [Act.put, List.setIfInBounds_toArray, List.set_cons_zero, List.set_cons_succ, i64_w, i32_w]
                             rfl
                            refine pure_ (i := 21) (N := some 122) (v := ?_) (a' := ?_) #[true, true, true, true, true, true, true, true, true, true, true, true, true, true, true, true, true, true, true, true, true, true, false, false] rfl rfl (any_of HT_.out (by kernel_rfl)) (fun _ _ _ h => h) (Or.inl ⟨by rfl, ?_⟩) ?_ ?_
                            rotate_left
                            ·intro w'
                             go_simp
                             with_reducible rfl
                            rotate_left
                            ·simp only [Act.put, List.setIfInBounds_toArray, List.set_cons_zero, List.set_cons_succ, i64_w, i32_w]
                             rfl
                            refine pure_ (i := 22) (N := some 123) (v := ?_) (a' := ?_) #[true, true, true, true, true, true, true, true, true, true, true, true, true, true, true, true, true, true, true, true, true, true, true, false] rfl rfl (any_of HT_.out (by kernel_rfl)) (fun _ _ _ h => h) (Or.inl ⟨by rfl, ?_⟩) ?_ ?_
                            rotate_left
                            ·intro w'
                             go_simp
                             with_reducible rfl
                            rotate_left
                            ·simp only [Act.put, List.setIfInBounds_toArray, List.set_cons_zero, List.set_cons_succ, i64_w, i32_w]
                             rfl
                            refine pure_ (i := 23) (N := some 124) (v := ?_) (a' := ?_) #[true, true, true, true, true, true, true, true, true, true, true, true, true, true, true, true, true, true, true, true, true, true, true, true] rfl rfl (any_of HT_.out (by kernel_rfl)) (fun _ _ _ h => h) (Or.inl ⟨by rfl, ?_⟩) ?_ ?_
                            rotate_left
                            ·intro w'
                             go_simp
                             with_reducible rfl
                            rotate_left
                            ·simp only [Act.put, List.setIfInBounds_toArray, List.set_cons_zero, List.set_cons_succ, i64_w, i32_w]
                             rfl
                            refine done_ (done_of HT_.out (by kernel_rfl)) ?_
                            try go_wp2
                            go_meet
                            case rel => exact ⟨_, (decide ((IntKind.u64.wrap (x14_2 * (IntKind.u64.wrap (rd t177 (ji49))))) > (IntKind.u64.wrap ((IntKind.u64.wrap (x15_2 * 1000000000)) + (IntKind.u64.wrap (rd x10_1 (ji52))))))), (by first | rfl | (simp; done) | (simp only [← hji49, ← hji52] <;> (first | rfl | simp)) | (simp [*]; done)), H', ⟨by have := HK1.out; have := HK2.out; first | omega | exact Nat.le_refl _⟩, ⟨by (with_reducible repeat (first | apply Kd.R_alloc | apply Kd.R_drewN | apply Kd.R_drew)); exact HO_6.out⟩, ⟨by (with_reducible repeat (first | apply Kd.V_alloc | apply Kd.V_drewN | apply Kd.V_drew)); exact HO_8.out⟩, ⟨by (with_reducible repeat (first | apply Kd.R_alloc | apply Kd.R_drewN | apply Kd.R_drew)); exact HO_10.out⟩, ⟨by (with_reducible repeat (first | apply Kd.R_alloc | apply Kd.R_drewN | apply Kd.R_drew)); exact HO_11.out⟩, ⟨HB.out⟩⟩
                           ·rw [if_neg c54] at H
                            exact absurd H (by simp)
                          ·rw [if_neg c53] at H
                           exact absurd H (by simp)
                         ·rw [if_neg c51] at H
                          exact absurd H (by simp)
                        ·rw [if_neg c50] at H
                         exact absurd H (by simp)
                      case rest =>
                       clear HC46
                       try clear c1
                       try clear p1
                       try clear q1
                       try clear hx1
                       try clear qi1
                       try clear p2
                       try clear q2
                       try clear hx2
                       try clear c3
                       try clear c4
                       try clear c4b0
                       try clear c5
                       try clear c5b0
                       try clear c5b1
                       try clear c6
                       try clear c6b0
                       try clear c6b1
                       try clear p6
                       try clear c10
                       try clear c10b0
                       try clear c11
                       try clear c11b0
                       try clear c12
                       try clear c12b0
                       try clear c12b1
                       try clear c16
                       try clear p16
                       try clear q16
                       try clear hx16
                       try clear qi16
                       try clear p17
                       try clear q17
                       try clear hx17
                       try clear c18
                       try clear c18b0
                       try clear c18b1
                       try clear c19
                       try clear c19b0
                       try clear c19b1
                       try clear p20
                       try clear q20
                       try clear hx20
                       try clear c31
                       try clear c31b0
                       try clear c33
                       try clear c33b0
                       try clear c34
                       try clear c34b0
                       try clear c36
                       try clear c36b0
                       try clear c37
                       try clear c37b0
                       try clear c39
                       try clear c39b0
                       try clear c40
                       try clear c40b0
                       try clear c41
                       try clear c41b0
                       try clear c41b1
                       try clear c47
                       try clear c47b0
                       try clear c50
                       try clear c50b0
                       try clear c51
                       try clear c51b0
                       try clear c53
                       try clear c53b0
                       try clear c54
                       try clear c54b0
                       try clear hx163_0
                       try clear hx170_0
                       try clear hx202_0
                       try clear hx203_0
                       try clear hx204_0
                       try clear hx205_0
                       try clear hx206_0
                       try clear hx207_0
                       try clear p1
                       try clear p16
                       try clear p163
                       try clear p17
                       try clear p170
                       try clear p2
                       try clear p20
                       try clear p202
                       try clear p203
                       try clear p204
                       try clear p205
                       try clear p206
                       try clear p207
                       try clear p6
                       try clear q1
                       try clear q16
                       try clear q163
                       try clear q17
                       try clear q170
                       try clear q2
                       try clear q20
                       try clear q202
                       try clear q203
                       try clear q204
                       try clear q205
                       try clear q206
                       try clear q207
                       obtain ⟨kq, x124_45, rfl, HA, HJ45, HO_6, HO_8, HO_10, HO_11, HB⟩ := hcut
                       cases kq with
                       | zero => exact absurd HA.out (by simp [rational_divNat.j2])
                       | succ kj45 =>
                        have H := HA.out
                        clear HA
                        simp only [rational_divNat.j2] at H
                        (try simp only [hji32] at H)
                        by_cases c56 : x124_45 = true
                        ·subst c56
                         rw [if_pos rfl] at H
                         have hji57 : (wrap64 ((t177.length : Int) - 1)) = ji38 := hji38
                         replace H : (if 0 ≤ (ji38) then (if (ji38) < (t177.length : Int) then (if (IntKind.u64.wrap (x15_2 + (IntKind.u64.wrap (rd t177 (ji38))))) ≥ 1000000000 then (rational_divNat.j3 kj45 y171 t177 (t177.length : Int) x10_1 x11_1 x12_1 (IntKind.u64.wrap (x14_2 - 1))) else (rational_divNat.l1 kj45 y171 t177 (t177.length : Int) x10_1 x11_1 x12_1 (IntKind.u64.wrap (x14_2 - 1)) (IntKind.u64.wrap (x15_2 + (IntKind.u64.wrap (rd t177 (ji38))))))) else (none)) else (none)) = some (r1, r2) := by first | (rw [hji57] at H; exact H) | (simp only [hji57] at H ⊢; exact H)
                         have hji57w : (IntKind.i64.wrap ((t177.length : Int) - 1)) = ji38 := (i64_w _).trans hji57
                         by_cases c58 : 0 ≤ (ji38)
                         ·rw [if_pos c58] at H
                          have c58b0 : decide (0 ≤ (ji38)) = true := decide_eq_true c58
                          clear c58
                          by_cases c59 : (ji38) < (t177.length : Int)
                          ·rw [if_pos c59] at H
                           have c59b0 : decide ((ji38) < (t177.length : Int)) = true := decide_eq_true c59
                           clear c59
                           by_cases c60 : (IntKind.u64.wrap (x15_2 + (IntKind.u64.wrap (rd t177 (ji38))))) ≥ 1000000000
                           ·rw [if_pos c60] at H
                            have c60b0 : decide (1000000000 ≤ (IntKind.u64.wrap (x15_2 + (IntKind.u64.wrap (rd t177 (ji38)))))) = true := decide_eq_true c60
                            clear c60
                            have H' := Aside0.mk H
                            clear H
                            have p208 : 0 ≤ ((ji38) : Int) := of_decide_eq_true (by assumption)
                            have q208 : (ji38) < (t177.length : Int) := of_decide_eq_true (by assumption)
                            obtain ⟨ad208, e208, hx208_0⟩ := Kd.at_int (Kd.V_reads' HO_8.out).2.2 (ji38) p208 q208
                            obtain rfl : ad204 = ad208 := (by injection e208)
                            replace p208 := eq_true p208
                            replace q208 := eq_true q208
                            go_wp2
                            go_meet
                            case rel => exact ⟨_, (IntKind.u64.wrap (x14_2 - 1)), rfl, H', ⟨by have := HK1.out; have := HK2.out; have := HJ45.out; first | omega | exact Nat.le_refl _⟩, ⟨by (with_reducible repeat (first | apply Kd.R_alloc | apply Kd.R_drewN | apply Kd.R_drew)); exact HO_6.out⟩, ⟨by (with_reducible repeat (first | apply Kd.V_alloc | apply Kd.V_drewN | apply Kd.V_drew)); exact HO_8.out⟩, ⟨by (with_reducible repeat (first | apply Kd.R_alloc | apply Kd.R_drewN | apply Kd.R_drew)); exact HO_10.out⟩, ⟨by (with_reducible repeat (first | apply Kd.R_alloc | apply Kd.R_drewN | apply Kd.R_drew)); exact HO_11.out⟩, ⟨HB.out⟩⟩
                           ·rw [if_neg c60] at H
                            have c60b0 : decide (1000000000 ≤ (IntKind.u64.wrap (x15_2 + (IntKind.u64.wrap (rd t177 (ji38)))))) = false := decide_eq_false c60
                            clear c60
                            have H' := Aside0.mk H
                            clear H
                            have p208 : 0 ≤ ((ji38) : Int) := of_decide_eq_true (by assumption)
                            have q208 : (ji38) < (t177.length : Int) := of_decide_eq_true (by assumption)
                            obtain ⟨ad208, e208, hx208_0⟩ := Kd.at_int (Kd.V_reads' HO_8.out).2.2 (ji38) p208 q208
                            obtain rfl : ad204 = ad208 := (by injection e208)
                            replace p208 := eq_true p208
                            replace q208 := eq_true q208
                            go_wp2
                            go_roundg kj45
                            case measure => have := HK1.out; have := HK2.out; have := HJ45.out; omega
                            case rel => exact ⟨(IntKind.u64.wrap (x14_2 - 1)), (IntKind.u64.wrap (x15_2 + (IntKind.u64.wrap (rd t177 (ji38))))), rfl, (by first | rfl | (simp; done) | (simp only [← hji57] <;> (first | rfl | simp)) | (simp [*]; done)), H', ⟨by have := HK1.out; have := HK2.out; have := HJ45.out; omega⟩, ⟨by (with_reducible repeat (first | apply Kd.R_alloc | apply Kd.R_drewN | apply Kd.R_drew)); exact HO_6.out⟩, ⟨by (with_reducible repeat (first | apply Kd.V_alloc | apply Kd.V_drewN | apply Kd.V_drew)); exact HO_8.out⟩, ⟨by (with_reducible repeat (first | apply Kd.R_alloc | apply Kd.R_drewN | apply Kd.R_drew)); exact HO_10.out⟩, ⟨by (with_reducible repeat (first | apply Kd.R_alloc | apply Kd.R_drewN | apply Kd.R_drew)); exact HO_11.out⟩, ⟨HB.out⟩⟩
                          ·rw [if_neg c59] at H
                           exact absurd H (by simp)
                         ·rw [if_neg c58] at H
                          exact absurd H (by simp)
                        ·replace c56 := Bool.eq_false_iff.mpr c56
                         subst c56
                         rw [if_neg (show ¬ (false = true) by decide)] at H
                         have H' := Aside0.mk H
                         clear H
                         go_wp2
                         go_meet
                         case rel => exact ⟨_, (x14_2), rfl, H', ⟨by have := HK1.out; have := HK2.out; have := HJ45.out; first | omega | exact Nat.le_refl _⟩, ⟨by (with_reducible repeat (first | apply Kd.R_alloc | apply Kd.R_drewN | apply Kd.R_drew)); exact HO_6.out⟩, ⟨by (with_reducible repeat (first | apply Kd.V_alloc | apply Kd.V_drewN | apply Kd.V_drew)); exact HO_8.out⟩, ⟨by (with_reducible repeat (first | apply Kd.R_alloc | apply Kd.R_drewN | apply Kd.R_drew)); exact HO_10.out⟩, ⟨by (with_reducible repeat (first | apply Kd.R_alloc | apply Kd.R_drewN | apply Kd.R_drew)); exact HO_11.out⟩, ⟨HB.out⟩⟩
                   case rest =>
                    clear HC42
                    try clear c1
                    try clear p1
                    try clear q1
                    try clear hx1
                    try clear qi1
                    try clear p2
                    try clear q2
                    try clear hx2
                    try clear c3
                    try clear c4
                    try clear c4b0
                    try clear c5
                    try clear c5b0
                    try clear c5b1
                    try clear c6
                    try clear c6b0
                    try clear c6b1
                    try clear p6
                    try clear c10
                    try clear c10b0
                    try clear c11
                    try clear c11b0
                    try clear c12
                    try clear c12b0
                    try clear c12b1
                    try clear c16
                    try clear p16
                    try clear q16
                    try clear hx16
                    try clear qi16
                    try clear p17
                    try clear q17
                    try clear hx17
                    try clear c18
                    try clear c18b0
                    try clear c18b1
                    try clear c19
                    try clear c19b0
                    try clear c19b1
                    try clear p20
                    try clear q20
                    try clear hx20
                    try clear c31
                    try clear c31b0
                    try clear c33
                    try clear c33b0
                    try clear c34
                    try clear c34b0
                    try clear c36
                    try clear c36b0
                    try clear c37
                    try clear c37b0
                    try clear c39
                    try clear c39b0
                    try clear c40
                    try clear c40b0
                    try clear c41
                    try clear c41b0
                    try clear c41b1
                    try clear c47
                    try clear c47b0
                    try clear c50
                    try clear c50b0
                    try clear c51
                    try clear c51b0
                    try clear c53
                    try clear c53b0
                    try clear c54
                    try clear c54b0
                    try clear c56
                    try clear c58
                    try clear c58b0
                    try clear c59
                    try clear c59b0
                    try clear c60
                    try clear c60b0
                    try clear hx163_0
                    try clear hx170_0
                    try clear hx202_0
                    try clear hx203_0
                    try clear hx204_0
                    try clear hx205_0
                    try clear hx206_0
                    try clear hx207_0
                    try clear hx208_0
                    try clear p1
                    try clear p16
                    try clear p163
                    try clear p17
                    try clear p170
                    try clear p2
                    try clear p20
                    try clear p202
                    try clear p203
                    try clear p204
                    try clear p205
                    try clear p206
                    try clear p207
                    try clear p208
                    try clear p6
                    try clear q1
                    try clear q16
                    try clear q163
                    try clear q17
                    try clear q170
                    try clear q2
                    try clear q20
                    try clear q202
                    try clear q203
                    try clear q204
                    try clear q205
                    try clear q206
                    try clear q207
                    try clear q208
                    obtain ⟨kq, x14_41, rfl, HA, HJ41, HO_6, HO_8, HO_10, HO_11, HB⟩ := hcut
                    cases kq with
                    | zero => exact absurd HA.out (by simp [rational_divNat.j3])
                    | succ kj41 =>
                     have H := HA.out
                     clear HA
                     simp only [rational_divNat.j3] at H
                     (try simp only [hji32] at H)
                     by_cases c61 : 0 ≤ x12_1
                     ·rw [if_pos c61] at H
                      have c61b0 := eq_true c61
                      have c61b1 : decide (0 ≤ x12_1) = true := decide_eq_true c61
                      clear c61
                      by_cases c62 : x12_1 ≤ (wrap64 ((ji32) + 1))
                      ·rw [if_pos c62] at H
                       have c62b0 := eq_true c62
                       have c62b1 : decide (x12_1 ≤ (wrap64 ((ji32) + 1))) = true := decide_eq_true c62
                       by_cases c63 : (wrap64 ((ji32) + 1)) ≤ (x10_1.length : Int)
                       ·rw [if_pos c63] at H
                        have c63b0 := eq_true c63
                        have c63b1 : decide ((wrap64 ((ji32) + 1)) ≤ (x10_1.length : Int)) = true := decide_eq_true c63
                        obtain ⟨y209, hy209⟩ : ∃ y_ : List Int, y_ = ((x10_1.take ((wrap64 ((ji32) + 1)) : Int).toNat).drop (x12_1 : Int).toNat) := ⟨_, rfl⟩
                        replace H : ((rational_reduceSub.f kj41 x10_1 x12_1 (wrap64 ((ji32) + 1)) t177 x14_41).bind fun bt213 => (if bt213.1 = true then (if x12_1 < (x11_1.length : Int) then (rational_divNat.l0 kj41 y171 t177 (t177.length : Int) bt213.2 (x11_1.set (x12_1 : Int).toNat ((x14_41) % 4294967296)) (wrap64 (x12_1 - 1))) else (none)) else ((rational_restoreSub.f kj41 bt213.2 x12_1 (wrap64 ((ji32) + 1)) t177).bind fun t220 => (if x12_1 < (x11_1.length : Int) then (rational_divNat.l0 kj41 y171 t177 (t177.length : Int) t220 (x11_1.set (x12_1 : Int).toNat ((IntKind.u64.wrap (x14_41 - 1)) % 4294967296)) (wrap64 (x12_1 - 1))) else (none))))) = some (r1, r2) := by first | (rw [hy209]; with_reducible exact H) | (have H2_ := (Option.bind_some _ _).symm.trans H; rw [hy209]; with_reducible exact H2_) | (have H2_ := (Option.bind_some _ _).symm.trans H; with_reducible exact H2_) | with_reducible exact H | (rw [hy209]; exact H) | exact H
                        have Ny209 := Aside0.mk hy209
                        clear hy209
                        replace H := Option.bind_eq_some_iff.mp H
                        obtain ⟨⟨t213, t214⟩, A640, H⟩ := H
                        (try dsimp only at H)
                        have A64 := Aside0.mk A640
                        clear A640
                        by_cases c65 : t213 = true
                        ·subst c65
                         rw [if_pos rfl] at H
                         by_cases c66 : x12_1 < (x11_1.length : Int)
                         ·rw [if_pos c66] at H
                          have c66b0 : decide (x12_1 < (x11_1.length : Int)) = true := decide_eq_true c66
                          clear c66
                          obtain ⟨y215, hy215⟩ : ∃ y_ : List Int, y_ = (x11_1.set (x12_1 : Int).toNat ((x14_41) % 4294967296)) := ⟨_, rfl⟩
                          replace H : (rational_divNat.l0 kj41 y171 t177 (t177.length : Int) t214 y215 (wrap64 (x12_1 - 1))) = some (r1, r2) := by first | (rw [hy215]; with_reducible exact H) | (have H2_ := (Option.bind_some _ _).symm.trans H; rw [hy215]; with_reducible exact H2_) | (have H2_ := (Option.bind_some _ _).symm.trans H; with_reducible exact H2_) | with_reducible exact H | (rw [hy215]; exact H) | exact H
                          have Ny215 := Aside0.mk hy215
                          clear hy215
                          have H' := Aside0.mk H
                          clear H
                          have q68 : ((wrap64 ((ji32) + 1)) : Int) ≤ ((x10_1.length : Int) : Int) := of_decide_eq_true (by assumption)
                          obtain ⟨i068, hi068, _, hsz68, _⟩ := info_parts info90
                          have hroom68 : x10_1.length ≤ co44 := (Kd.R_reads' HO_10.out).2.1
                          have hC68 : Kd.C (Kd.int .u32) _ (some ad202) x10_1.length x10_1 := (Kd.R_reads' HO_10.out).2.2
                          have ql68 : (x12_1 : Int) ≤ ((wrap64 ((ji32) + 1)) : Int) := of_decide_eq_true (by assumption)
                          have q068 : (0 : Int) ≤ (x12_1 : Int) := of_decide_eq_true (by assumption)
                          have hcut68 := cut_mid (P := Tryd.prog) 80 90 .i64 .i64 Tryd.underlying80 hi068 1 hsz68 (some ad202) x10_1.length co44 x12_1 (wrap64 ((ji32) + 1)) q068 ql68 q68 hroom68
                          have hr68 := Kd.C_mid (lo := (x12_1 : Int).toNat) (hi := ((wrap64 ((ji32) + 1)) : Int).toNat) (c := co44) hC68 (by omega) (by omega) hroom68
                          obtain ⟨A68, hA68⟩ : ∃ A1, A1 = (if co44 = (x12_1 : Int).toNat then (some ad202) else ((some ad202) : Option Addr).map (·.add ((x12_1 : Int).toNat * 1))) := ⟨_, rfl⟩
                          obtain ⟨c68, hc68⟩ : ∃ c1, c1 = co44 - (x12_1 : Int).toNat := ⟨_, rfl⟩
                          have hy68 : y209.length = ((wrap64 ((ji32) + 1)) : Int).toNat - (x12_1 : Int).toNat := (by rw [Ny209.out, List.length_drop, List.length_take] <;> omega)
                          rw [show ((x10_1).take ((wrap64 ((ji32) + 1)) : Int).toNat).drop (x12_1 : Int).toNat = y209 from Ny209.out.symm] at hr68
                          replace hr68 : Kd.C (Kd.int .u32) _ A68 y209.length y209 := (by rw [hA68]; exact hr68)
                          rw [← hy68, ← hA68, ← hc68] at hcut68
                          have HR212 := Aside0.mk hr68
                          have HC212 := Aside0.mk (show y209.length ≤ c68 from by rw [hy68, hc68]; exact Nat.sub_le_sub_right (Nat.le_trans (by omega) hroom68) _)
                          clear hr68 hC68 hroom68 hi068 hsz68 hc68
                          have KY68 := Aside0.mk hy68
                          have KA68 := Aside0.mk hA68
                          clear hy68 hA68
                          have KL68 := Aside0.mk (show ((wrap64 ((ji32) + 1)) : Int).toNat ≤ x10_1.length from by omega)
                          have KM68 := Aside0.mk (show (x12_1 : Int).toNat ≤ ((wrap64 ((ji32) + 1)) : Int).toNat from by omega)
                          replace q68 := eq_true q68
                          go_wp2_with (first | ((with_reducible refine gate_callee (f := 113) rfl ?_); refine goesL_ (some 146) rfl rfl Tryd.func113 (by kernel_rfl) rfl #[.slice A68 y209.length c68, .slice (some ad204) t177.length co25, .int .u64 x14_41] rfl (by (try simp only [List.map_toArray, List.map_cons, List.map_nil]); first | done | rfl) ?_; (with_reducible refine (rational_reduceSub.calls kj41 (fun k_ => some k_ = (.slice (some ad202) x10_1.length co44 : Value).ownBlock) (.slice (some ad202) x10_1.length co44) x10_1 x12_1 (wrap64 ((ji32) + 1)) _ _ t177 x14_41 true t214 w _ ?side1 ?side2 ?side3 ?side4 A64.out (some ad202) co44 rfl A68 y209.length c68 KA68.out KY68.out HC212.out).mono ?_); (case side1 => repeat (first | (with_reducible first | exact HB.out | apply below_alloc | apply pw_below_drewN | apply below_drew1) | exact HB.out)); (case side2 => exact Kd.R_tight rfl HO_10.out); (case side3 => exact Kd.C_kept_ownV (HO_8.out) (fun k_ hk_ hs_ => (hk_.2.2.1) hs_)); (case side4 => exact (Kd.V_reads' HO_8.out).2.1); rintro e w69 ⟨rfl, hy0, hb, hkp⟩; refine ⟨_, rfl, ?_⟩; have n0_ := Aside0.mk (Kd.R_mono (ok' := fun k_ => (w.heap.size ≤ k_) ∧ some k_ ≠ (.slice (some ad202) x10_1.length co44 : Value).ownBlock ∧ some k_ ≠ (v187 : Value).ownBlock) (Kd.R_keptB (HO_6.out) hkp (fun k_ hk_ hs_ => (hk_.2.1) hs_)) (fun k_ hk_ => ⟨hk_.1.1, hk_.1.2.1, hk_.1.2.2⟩)); have n1_ := Aside0.mk (Kd.V_mono (ok' := fun k_ => (P0_ k_ ∨ w.heap.size ≤ k_) ∧ some k_ ≠ (.slice Ao22 y171.length co22 : Value).ownBlock ∧ some k_ ≠ (.slice (some ad202) x10_1.length co44 : Value).ownBlock ∧ some k_ ≠ (v187 : Value).ownBlock) (Kd.V_keptB (HO_8.out) hkp (fun k_ hk_ hs_ => (hk_.2.2.1) hs_)) (fun k_ hk_ => ⟨hk_.1.1, hk_.1.2.1, hk_.1.2.2.1, hk_.1.2.2.2⟩)); have n2_ := Aside0.mk (Kd.R_reok rfl hy0 (fun k_ e_ => HO_10.out.1 k_ e_)); have n3_ := Aside0.mk (Kd.R_mono (ok' := fun k_ => (w.heap.size ≤ k_) ∧ some k_ ≠ (.slice Ao22 y171.length co22 : Value).ownBlock ∧ some k_ ≠ (.slice (some ad202) x10_1.length co44 : Value).ownBlock) (Kd.R_keptB (HO_11.out) hkp (fun k_ hk_ hs_ => (hk_.2.2) hs_)) (fun k_ hk_ => ⟨hk_.1.1, hk_.1.2.1, hk_.1.2.2⟩)); have n4_ := Aside0.mk (hb); clear HO_6; clear HO_8; clear HO_10; clear HO_11; clear HB; have HO_6 := n0_; have HO_8 := n1_; have HO_10 := n2_; have HO_11 := n3_; have HB := n4_; clear n0_ n1_ n2_ n3_ n4_; (try clear hb); (try clear hkp); (try clear hy0); have p67 : 0 ≤ (x12_1 : Int) := of_decide_eq_true (by assumption); have q67 : (x12_1 : Int) < ((x11_1.length : Int) : Int) := of_decide_eq_true (by assumption); obtain ⟨go67, co67, eo67, gb67, gl67, cl67, HG67⟩ := Kd.R_form HO_11.out (by omega); (first | cases eo67 | (injection eo67 with ea_ en_ ec_; (first | subst ea_ | (injection ea_ with ea_; subst ea_)); subst ec_; clear en_)); have GB67 := Aside0.mk gb67; have GG67 := Aside0.mk HG67; clear gb67 gl67 HG67; obtain ⟨hx67_0, hf67_0⟩ := Kd.R_celln 0 HO_11.out (x12_1 : Int) p67 q67; replace p67 := eq_true p67; replace q67 := eq_true q67; obtain ⟨hy70_, hz70_⟩ := Kd.R_celln 0 HO_11.out (x12_1 : Int) (of_decide_eq_true (by assumption)) (of_decide_eq_true (by assumption)); have HP70 := Kd.R_putg HO_11.out (x12_1 : Int) ((x14_41) % 4294967296)) | ((with_reducible refine gate_store (t := 90) (p := 163) rfl ?_); refine store_event (t := 90) (p := 163) (v := ?vo_w71) (w1 := (w69.setCell ⟨go67, (x12_1 : Int).toNat, none⟩ (.int .u32 ((x14_41) % 4294967296)))) ?hg ?ho ?hn ?hr ?_; (case ho => rfl); (case hg => rfl); (case hn => rfl); (case hr => go_simp); intro w71 hw; have hg : w69.grownBy w71 (some go67) := (by rw [hw]; exact HP70.2); have hp_ : Kd.R (Kd.int .u32) 90 w71 w.heap.size (fun k_ => (w.heap.size ≤ k_) ∧ some k_ ≠ (.slice Ao22 y171.length co22 : Value).ownBlock ∧ some k_ ≠ (.slice (some ad202) x10_1.length co44 : Value).ownBlock) (.slice (some ⟨go67, 0, none⟩) x11_1.length co67) y215 := (by rw [hw, Ny215.out]; exact HP70.1); clear HP70; have n0_ := Aside0.mk (Kd.R_after (v := (.slice (some ⟨go67, 0, none⟩) x11_1.length co67)) (v1 := (.slice (some ⟨go67, 0, none⟩) x11_1.length co67)) (ok := (fun k_ => (w.heap.size ≤ k_) ∧ some k_ ≠ (.slice (some ad202) x10_1.length co44 : Value).ownBlock)) (by (with_reducible repeat (first | apply Kd.R_alloc | apply Kd.R_drewN | apply Kd.R_drew)); exact Kd.R_mono HO_6.out (fun _ hk => ⟨⟨hk.1, hk.2.1⟩, hk.2.2⟩)) hg (.inl rfl)); have n1_ := Aside0.mk (Kd.V_afterv (v := (.slice (some ⟨go67, 0, none⟩) x11_1.length co67)) (v1 := (.slice (some ⟨go67, 0, none⟩) x11_1.length co67)) (ok := (fun k_ => (P0_ k_ ∨ w.heap.size ≤ k_) ∧ some k_ ≠ (.slice Ao22 y171.length co22 : Value).ownBlock ∧ some k_ ≠ (.slice (some ad202) x10_1.length co44 : Value).ownBlock)) (by (with_reducible repeat (first | apply Kd.V_alloc | apply Kd.V_drewN | apply Kd.V_drew)); exact Kd.V_mono HO_8.out (fun _ hk => ⟨⟨hk.1, ⟨hk.2.1, hk.2.2.1⟩⟩, hk.2.2.2⟩)) hg (.inl rfl)); have n2_ := Aside0.mk (Kd.R_after (v := (.slice (some ⟨go67, 0, none⟩) x11_1.length co67)) (v1 := (.slice (some ⟨go67, 0, none⟩) x11_1.length co67)) (ok := (fun k_ => (w.heap.size ≤ k_) ∧ some k_ ≠ (.slice Ao22 y171.length co22 : Value).ownBlock)) (by (with_reducible repeat (first | apply Kd.R_alloc | apply Kd.R_drewN | apply Kd.R_drew)); exact Kd.R_mono HO_10.out (fun _ hk => ⟨⟨hk.1, hk.2.1⟩, hk.2.2⟩)) hg (.inl rfl)); have n3_ := Aside0.mk (hp_); have n4_ := Aside0.mk ((by rw [hw]; exact below_set (HB.out) GB67.out : Below w.heap.size w w71)); clear HO_6; clear HO_8; clear HO_10; clear HO_11; clear HB; have HO_6 := n0_; have HO_8 := n1_; have HO_10 := n2_; have HO_11 := n3_; have HB := n4_; clear n0_ n1_ n2_ n3_ n4_; clear hg hw hp_))
                          go_roundg kj41
                          case measure => have := HK1.out; have := HJ41.out; omega
                          case rel => exact ⟨(t214), (y215), (wrap64 (x12_1 - 1)), rfl, H', ⟨by have := HK1.out; have := HJ41.out; omega⟩, ⟨by (with_reducible repeat (first | apply Kd.R_alloc | apply Kd.R_drewN | apply Kd.R_drew)); exact Kd.R_mono HO_6.out (fun _ hk => ⟨hk.1.1, ⟨hk.1.2, hk.2⟩⟩)⟩, ⟨by (with_reducible repeat (first | apply Kd.V_alloc | apply Kd.V_drewN | apply Kd.V_drew)); exact Kd.V_mono HO_8.out (fun _ hk => ⟨hk.1.1, ⟨hk.1.2.1, ⟨hk.1.2.2, hk.2⟩⟩⟩)⟩, ⟨by (with_reducible repeat (first | apply Kd.R_alloc | apply Kd.R_drewN | apply Kd.R_drew)); exact Kd.R_mono HO_10.out (fun _ hk => ⟨hk.1.1, ⟨hk.1.2, hk.2⟩⟩)⟩, ⟨by (with_reducible repeat (first | apply Kd.R_alloc | apply Kd.R_drewN | apply Kd.R_drew)); exact HO_11.out⟩, ⟨HB.out⟩⟩
                         ·rw [if_neg c66] at H
                          exact absurd H (by simp)
                        ·replace c65 := Bool.eq_false_iff.mpr c65
                         subst c65
                         rw [if_neg (show ¬ (false = true) by decide)] at H
                         have c72b0 := eq_true (of_decide_eq_true (by assumption) : 0 ≤ x12_1)
                         have c73b0 := eq_true (of_decide_eq_true (by assumption) : x12_1 ≤ (wrap64 ((ji32) + 1)))
                         have c74b0 := eq_true (of_decide_eq_true (by assumption) : (wrap64 ((ji32) + 1)) ≤ (x10_1.length : Int))
                         obtain ⟨y216, hy216⟩ : ∃ y_ : List Int, y_ = ((t214.take ((wrap64 ((ji32) + 1)) : Int).toNat).drop (x12_1 : Int).toNat) := ⟨_, rfl⟩
                         replace H : ((rational_restoreSub.f kj41 t214 x12_1 (wrap64 ((ji32) + 1)) t177).bind fun t220 => (if x12_1 < (x11_1.length : Int) then (rational_divNat.l0 kj41 y171 t177 (t177.length : Int) t220 (x11_1.set (x12_1 : Int).toNat ((IntKind.u64.wrap (x14_41 - 1)) % 4294967296)) (wrap64 (x12_1 - 1))) else (none))) = some (r1, r2) := by first | (rw [hy216]; with_reducible exact H) | (have H2_ := (Option.bind_some _ _).symm.trans H; rw [hy216]; with_reducible exact H2_) | (have H2_ := (Option.bind_some _ _).symm.trans H; with_reducible exact H2_) | with_reducible exact H | (rw [hy216]; exact H) | exact H
                         have Ny216 := Aside0.mk hy216
                         clear hy216
                         replace H := Option.bind_eq_some_iff.mp H
                         obtain ⟨t220, A750, H⟩ := H
                         (try dsimp only at H)
                         have A75 := Aside0.mk A750
                         clear A750
                         by_cases c76 : x12_1 < (x11_1.length : Int)
                         ·rw [if_pos c76] at H
                          have c76b0 : decide (x12_1 < (x11_1.length : Int)) = true := decide_eq_true c76
                          clear c76
                          obtain ⟨y221, hy221⟩ : ∃ y_ : List Int, y_ = (x11_1.set (x12_1 : Int).toNat ((IntKind.u64.wrap (x14_41 - 1)) % 4294967296)) := ⟨_, rfl⟩
                          replace H : (rational_divNat.l0 kj41 y171 t177 (t177.length : Int) t220 y221 (wrap64 (x12_1 - 1))) = some (r1, r2) := by first | (rw [hy221]; with_reducible exact H) | (have H2_ := (Option.bind_some _ _).symm.trans H; rw [hy221]; with_reducible exact H2_) | (have H2_ := (Option.bind_some _ _).symm.trans H; with_reducible exact H2_) | with_reducible exact H | (rw [hy221]; exact H) | exact H
                          have Ny221 := Aside0.mk hy221
                          clear hy221
                          have H' := Aside0.mk H
                          clear H
                          have q78 : ((wrap64 ((ji32) + 1)) : Int) ≤ ((x10_1.length : Int) : Int) := of_decide_eq_true (by assumption)
                          obtain ⟨i078, hi078, _, hsz78, _⟩ := info_parts info90
                          have hroom78 : x10_1.length ≤ co44 := (Kd.R_reads' HO_10.out).2.1
                          have hC78 : Kd.C (Kd.int .u32) _ (some ad202) x10_1.length x10_1 := (Kd.R_reads' HO_10.out).2.2
                          have ql78 : (x12_1 : Int) ≤ ((wrap64 ((ji32) + 1)) : Int) := of_decide_eq_true (by assumption)
                          have q078 : (0 : Int) ≤ (x12_1 : Int) := of_decide_eq_true (by assumption)
                          have hcut78 := cut_mid (P := Tryd.prog) 80 90 .i64 .i64 Tryd.underlying80 hi078 1 hsz78 (some ad202) x10_1.length co44 x12_1 (wrap64 ((ji32) + 1)) q078 ql78 q78 hroom78
                          have hr78 := Kd.C_mid (lo := (x12_1 : Int).toNat) (hi := ((wrap64 ((ji32) + 1)) : Int).toNat) (c := co44) hC78 (by omega) (by omega) hroom78
                          obtain ⟨A78, hA78⟩ : ∃ A1, A1 = (if co44 = (x12_1 : Int).toNat then (some ad202) else ((some ad202) : Option Addr).map (·.add ((x12_1 : Int).toNat * 1))) := ⟨_, rfl⟩
                          obtain ⟨c78, hc78⟩ : ∃ c1, c1 = co44 - (x12_1 : Int).toNat := ⟨_, rfl⟩
                          have hy78 : y209.length = ((wrap64 ((ji32) + 1)) : Int).toNat - (x12_1 : Int).toNat := (by rw [Ny209.out, List.length_drop, List.length_take] <;> omega)
                          rw [show ((x10_1).take ((wrap64 ((ji32) + 1)) : Int).toNat).drop (x12_1 : Int).toNat = y209 from Ny209.out.symm] at hr78
                          replace hr78 : Kd.C (Kd.int .u32) _ A78 y209.length y209 := (by rw [hA78]; exact hr78)
                          rw [← hy78, ← hA78, ← hc78] at hcut78
                          have HR212 := Aside0.mk hr78
                          have HC212 := Aside0.mk (show y209.length ≤ c78 from by rw [hy78, hc78]; exact Nat.sub_le_sub_right (Nat.le_trans (by omega) hroom78) _)
                          clear hr78 hC78 hroom78 hi078 hsz78 hc78
                          have KY78 := Aside0.mk hy78
                          have KA78 := Aside0.mk hA78
                          clear hy78 hA78
                          have KL78 := Aside0.mk (show ((wrap64 ((ji32) + 1)) : Int).toNat ≤ x10_1.length from by omega)
                          have KM78 := Aside0.mk (show (x12_1 : Int).toNat ≤ ((wrap64 ((ji32) + 1)) : Int).toNat from by omega)
                          replace q78 := eq_true q78
                          go_wp2_with (first | ((with_reducible refine gate_callee (f := 113) rfl ?_); refine goesL_ (some 146) rfl rfl Tryd.func113 (by kernel_rfl) rfl #[.slice A78 y209.length c78, .slice (some ad204) t177.length co25, .int .u64 x14_41] rfl (by (try simp only [List.map_toArray, List.map_cons, List.map_nil]); first | done | rfl) ?_; (with_reducible refine (rational_reduceSub.calls kj41 (fun k_ => some k_ = (.slice (some ad202) x10_1.length co44 : Value).ownBlock) (.slice (some ad202) x10_1.length co44) x10_1 x12_1 (wrap64 ((ji32) + 1)) _ _ t177 x14_41 false t214 w _ ?side1 ?side2 ?side3 ?side4 A64.out (some ad202) co44 rfl A78 y209.length c78 KA78.out KY78.out HC212.out).mono ?_); (case side1 => repeat (first | (with_reducible first | exact HB.out | apply below_alloc | apply pw_below_drewN | apply below_drew1) | exact HB.out)); (case side2 => exact Kd.R_tight rfl HO_10.out); (case side3 => exact Kd.C_kept_ownV (HO_8.out) (fun k_ hk_ hs_ => (hk_.2.2.1) hs_)); (case side4 => exact (Kd.V_reads' HO_8.out).2.1); rintro e w79 ⟨rfl, hy0, hb, hkp⟩; refine ⟨_, rfl, ?_⟩; have n0_ := Aside0.mk (Kd.R_mono (ok' := fun k_ => (w.heap.size ≤ k_) ∧ some k_ ≠ (.slice (some ad202) x10_1.length co44 : Value).ownBlock ∧ some k_ ≠ (v187 : Value).ownBlock) (Kd.R_keptB (HO_6.out) hkp (fun k_ hk_ hs_ => (hk_.2.1) hs_)) (fun k_ hk_ => ⟨hk_.1.1, hk_.1.2.1, hk_.1.2.2⟩)); have n1_ := Aside0.mk (Kd.V_mono (ok' := fun k_ => (P0_ k_ ∨ w.heap.size ≤ k_) ∧ some k_ ≠ (.slice Ao22 y171.length co22 : Value).ownBlock ∧ some k_ ≠ (.slice (some ad202) x10_1.length co44 : Value).ownBlock ∧ some k_ ≠ (v187 : Value).ownBlock) (Kd.V_keptB (HO_8.out) hkp (fun k_ hk_ hs_ => (hk_.2.2.1) hs_)) (fun k_ hk_ => ⟨hk_.1.1, hk_.1.2.1, hk_.1.2.2.1, hk_.1.2.2.2⟩)); have n2_ := Aside0.mk (Kd.R_reok rfl hy0 (fun k_ e_ => HO_10.out.1 k_ e_)); have n3_ := Aside0.mk (Kd.R_mono (ok' := fun k_ => (w.heap.size ≤ k_) ∧ some k_ ≠ (.slice Ao22 y171.length co22 : Value).ownBlock ∧ some k_ ≠ (.slice (some ad202) x10_1.length co44 : Value).ownBlock) (Kd.R_keptB (HO_11.out) hkp (fun k_ hk_ hs_ => (hk_.2.2) hs_)) (fun k_ hk_ => ⟨hk_.1.1, hk_.1.2.1, hk_.1.2.2⟩)); have n4_ := Aside0.mk (hb); clear HO_6; clear HO_8; clear HO_10; clear HO_11; clear HB; have HO_6 := n0_; have HO_8 := n1_; have HO_10 := n2_; have HO_11 := n3_; have HB := n4_; clear n0_ n1_ n2_ n3_ n4_; (try clear hb); (try clear hkp); (try clear hy0); have hlx80 := (Kd.R_reads' HO_10.out).1; have q80 : ((wrap64 ((ji32) + 1)) : Int) ≤ ((x10_1.length : Int) : Int) := of_decide_eq_true (by assumption); obtain ⟨i080, hi080, _, hsz80, _⟩ := info_parts info90; have hroom80 : x10_1.length ≤ co44 := (Kd.R_reads' HO_10.out).2.1; have hroomc80 : t214.length ≤ co44 := (by rw [← hlx80]; exact hroom80); have hC80 : Kd.C (Kd.int .u32) _ (some ad202) t214.length t214 := (Kd.R_reads' HO_10.out).2.2; have ql80 : (x12_1 : Int) ≤ ((wrap64 ((ji32) + 1)) : Int) := of_decide_eq_true (by assumption); have q080 : (0 : Int) ≤ (x12_1 : Int) := of_decide_eq_true (by assumption); (try clear hcut78); have hcut80 := cut_mid (P := Tryd.prog) 80 90 .i64 .i64 Tryd.underlying80 hi080 1 hsz80 (some ad202) x10_1.length co44 x12_1 (wrap64 ((ji32) + 1)) q080 ql80 q80 hroom80; have hr80 := Kd.C_mid (lo := (x12_1 : Int).toNat) (hi := ((wrap64 ((ji32) + 1)) : Int).toNat) (c := co44) hC80 (by omega) (by omega) hroomc80; obtain ⟨A80, hA80⟩ : ∃ A1, A1 = (if co44 = (x12_1 : Int).toNat then (some ad202) else ((some ad202) : Option Addr).map (·.add ((x12_1 : Int).toNat * 1))) := ⟨_, rfl⟩; obtain ⟨c80, hc80⟩ : ∃ c1, c1 = co44 - (x12_1 : Int).toNat := ⟨_, rfl⟩; have hy80 : y216.length = ((wrap64 ((ji32) + 1)) : Int).toNat - (x12_1 : Int).toNat := (by rw [Ny216.out, List.length_drop, List.length_take] <;> omega); rw [show ((t214).take ((wrap64 ((ji32) + 1)) : Int).toNat).drop (x12_1 : Int).toNat = y216 from Ny216.out.symm] at hr80; replace hr80 : Kd.C (Kd.int .u32) _ A80 y216.length y216 := (by rw [hA80]; exact hr80); rw [← hy80, ← hA80, ← hc80] at hcut80; have HR219 := Aside0.mk hr80; have HC219 := Aside0.mk (show y216.length ≤ c80 from by rw [hy80, hc80]; exact Nat.sub_le_sub_right (Nat.le_trans (by omega) hroom80) _); clear hr80 hC80 hroom80 hi080 hsz80 hc80 hroomc80; have KY80 := Aside0.mk hy80; have KA80 := Aside0.mk hA80; clear hy80 hA80; have KE80 := Aside0.mk hlx80; have KL80 := Aside0.mk (show ((wrap64 ((ji32) + 1)) : Int).toNat ≤ t214.length from by omega); have KM80 := Aside0.mk (show (x12_1 : Int).toNat ≤ ((wrap64 ((ji32) + 1)) : Int).toNat from by omega); clear hlx80; replace q80 := eq_true q80) | ((with_reducible refine gate_callee (f := 114) rfl ?_); refine goesL_ (some 158) rfl rfl Tryd.func114 (by kernel_rfl) rfl #[.slice A80 y216.length c80, .slice (some ad204) t177.length co25] rfl (by (try simp only [List.map_toArray, List.map_cons, List.map_nil]); first | done | rfl) ?_; (with_reducible refine (rational_restoreSub.calls kj41 (fun k_ => some k_ = (.slice (some ad202) x10_1.length co44 : Value).ownBlock) (.slice (some ad202) x10_1.length co44) t214 x12_1 (wrap64 ((ji32) + 1)) _ _ t177 t220 w _ ?side1 ?side2 ?side3 ?side4 A75.out (some ad202) co44 rfl A80 y216.length c80 KA80.out KY80.out HC219.out).mono ?_); (case side1 => repeat (first | (with_reducible first | exact HB.out | apply below_alloc | apply pw_below_drewN | apply below_drew1) | exact HB.out)); (case side2 => exact Kd.R_tight rfl HO_10.out); (case side3 => exact Kd.C_kept_ownV (HO_8.out) (fun k_ hk_ hs_ => (hk_.2.2.1) hs_)); (case side4 => exact (Kd.V_reads' HO_8.out).2.1); rintro e w81 ⟨rfl, hy0, hb, hkp⟩; refine ⟨_, rfl, ?_⟩; have n0_ := Aside0.mk (Kd.R_mono (ok' := fun k_ => (w.heap.size ≤ k_) ∧ some k_ ≠ (.slice (some ad202) x10_1.length co44 : Value).ownBlock ∧ some k_ ≠ (v187 : Value).ownBlock) (Kd.R_keptB (HO_6.out) hkp (fun k_ hk_ hs_ => (hk_.2.1) hs_)) (fun k_ hk_ => ⟨hk_.1.1, hk_.1.2.1, hk_.1.2.2⟩)); have n1_ := Aside0.mk (Kd.V_mono (ok' := fun k_ => (P0_ k_ ∨ w.heap.size ≤ k_) ∧ some k_ ≠ (.slice Ao22 y171.length co22 : Value).ownBlock ∧ some k_ ≠ (.slice (some ad202) x10_1.length co44 : Value).ownBlock ∧ some k_ ≠ (v187 : Value).ownBlock) (Kd.V_keptB (HO_8.out) hkp (fun k_ hk_ hs_ => (hk_.2.2.1) hs_)) (fun k_ hk_ => ⟨hk_.1.1, hk_.1.2.1, hk_.1.2.2.1, hk_.1.2.2.2⟩)); have n2_ := Aside0.mk (Kd.R_reok rfl hy0 (fun k_ e_ => HO_10.out.1 k_ e_)); have n3_ := Aside0.mk (Kd.R_mono (ok' := fun k_ => (w.heap.size ≤ k_) ∧ some k_ ≠ (.slice Ao22 y171.length co22 : Value).ownBlock ∧ some k_ ≠ (.slice (some ad202) x10_1.length co44 : Value).ownBlock) (Kd.R_keptB (HO_11.out) hkp (fun k_ hk_ hs_ => (hk_.2.2) hs_)) (fun k_ hk_ => ⟨hk_.1.1, hk_.1.2.1, hk_.1.2.2⟩)); have n4_ := Aside0.mk (hb); clear HO_6; clear HO_8; clear HO_10; clear HO_11; clear HB; have HO_6 := n0_; have HO_8 := n1_; have HO_10 := n2_; have HO_11 := n3_; have HB := n4_; clear n0_ n1_ n2_ n3_ n4_; (try clear hb); (try clear hkp); (try clear hy0); have p77 : 0 ≤ (x12_1 : Int) := of_decide_eq_true (by assumption); have q77 : (x12_1 : Int) < ((x11_1.length : Int) : Int) := of_decide_eq_true (by assumption); obtain ⟨go77, co77, eo77, gb77, gl77, cl77, HG77⟩ := Kd.R_form HO_11.out (by omega); (first | cases eo77 | (injection eo77 with ea_ en_ ec_; (first | subst ea_ | (injection ea_ with ea_; subst ea_)); subst ec_; clear en_)); have GB77 := Aside0.mk gb77; have GG77 := Aside0.mk HG77; clear gb77 gl77 HG77; obtain ⟨hx77_0, hf77_0⟩ := Kd.R_celln 0 HO_11.out (x12_1 : Int) p77 q77; replace p77 := eq_true p77; replace q77 := eq_true q77; obtain ⟨hy82_, hz82_⟩ := Kd.R_celln 0 HO_11.out (x12_1 : Int) (of_decide_eq_true (by assumption)) (of_decide_eq_true (by assumption)); have HP82 := Kd.R_putg HO_11.out (x12_1 : Int) ((IntKind.u64.wrap (x14_41 - 1)) % 4294967296)) | ((with_reducible refine gate_store (t := 90) (p := 163) rfl ?_); refine store_event (t := 90) (p := 163) (v := ?vo_w83) (w1 := (w81.setCell ⟨go77, (x12_1 : Int).toNat, none⟩ (.int .u32 ((IntKind.u64.wrap (x14_41 - 1)) % 4294967296)))) ?hg ?ho ?hn ?hr ?_; (case ho => rfl); (case hg => rfl); (case hn => rfl); (case hr => go_simp); intro w83 hw; have hg : w81.grownBy w83 (some go77) := (by rw [hw]; exact HP82.2); have hp_ : Kd.R (Kd.int .u32) 90 w83 w.heap.size (fun k_ => (w.heap.size ≤ k_) ∧ some k_ ≠ (.slice Ao22 y171.length co22 : Value).ownBlock ∧ some k_ ≠ (.slice (some ad202) x10_1.length co44 : Value).ownBlock) (.slice (some ⟨go77, 0, none⟩) x11_1.length co77) y221 := (by rw [hw, Ny221.out]; exact HP82.1); clear HP82; have n0_ := Aside0.mk (Kd.R_after (v := (.slice (some ⟨go77, 0, none⟩) x11_1.length co77)) (v1 := (.slice (some ⟨go77, 0, none⟩) x11_1.length co77)) (ok := (fun k_ => (w.heap.size ≤ k_) ∧ some k_ ≠ (.slice (some ad202) x10_1.length co44 : Value).ownBlock)) (by (with_reducible repeat (first | apply Kd.R_alloc | apply Kd.R_drewN | apply Kd.R_drew)); exact Kd.R_mono HO_6.out (fun _ hk => ⟨⟨hk.1, hk.2.1⟩, hk.2.2⟩)) hg (.inl rfl)); have n1_ := Aside0.mk (Kd.V_afterv (v := (.slice (some ⟨go77, 0, none⟩) x11_1.length co77)) (v1 := (.slice (some ⟨go77, 0, none⟩) x11_1.length co77)) (ok := (fun k_ => (P0_ k_ ∨ w.heap.size ≤ k_) ∧ some k_ ≠ (.slice Ao22 y171.length co22 : Value).ownBlock ∧ some k_ ≠ (.slice (some ad202) x10_1.length co44 : Value).ownBlock)) (by (with_reducible repeat (first | apply Kd.V_alloc | apply Kd.V_drewN | apply Kd.V_drew)); exact Kd.V_mono HO_8.out (fun _ hk => ⟨⟨hk.1, ⟨hk.2.1, hk.2.2.1⟩⟩, hk.2.2.2⟩)) hg (.inl rfl)); have n2_ := Aside0.mk (Kd.R_after (v := (.slice (some ⟨go77, 0, none⟩) x11_1.length co77)) (v1 := (.slice (some ⟨go77, 0, none⟩) x11_1.length co77)) (ok := (fun k_ => (w.heap.size ≤ k_) ∧ some k_ ≠ (.slice Ao22 y171.length co22 : Value).ownBlock)) (by (with_reducible repeat (first | apply Kd.R_alloc | apply Kd.R_drewN | apply Kd.R_drew)); exact Kd.R_mono HO_10.out (fun _ hk => ⟨⟨hk.1, hk.2.1⟩, hk.2.2⟩)) hg (.inl rfl)); have n3_ := Aside0.mk (hp_); have n4_ := Aside0.mk ((by rw [hw]; exact below_set (HB.out) GB77.out : Below w.heap.size w w83)); clear HO_6; clear HO_8; clear HO_10; clear HO_11; clear HB; have HO_6 := n0_; have HO_8 := n1_; have HO_10 := n2_; have HO_11 := n3_; have HB := n4_; clear n0_ n1_ n2_ n3_ n4_; clear hg hw hp_))
                          go_roundg kj41
                          case measure => have := HK1.out; have := HJ41.out; omega
                          case rel => exact ⟨(t220), (y221), (wrap64 (x12_1 - 1)), rfl, H', ⟨by have := HK1.out; have := HJ41.out; omega⟩, ⟨by (with_reducible repeat (first | apply Kd.R_alloc | apply Kd.R_drewN | apply Kd.R_drew)); exact Kd.R_mono HO_6.out (fun _ hk => ⟨hk.1.1, ⟨hk.1.2, hk.2⟩⟩)⟩, ⟨by (with_reducible repeat (first | apply Kd.V_alloc | apply Kd.V_drewN | apply Kd.V_drew)); exact Kd.V_mono HO_8.out (fun _ hk => ⟨hk.1.1, ⟨hk.1.2.1, ⟨hk.1.2.2, hk.2⟩⟩⟩)⟩, ⟨by (with_reducible repeat (first | apply Kd.R_alloc | apply Kd.R_drewN | apply Kd.R_drew)); exact Kd.R_mono HO_10.out (fun _ hk => ⟨hk.1.1, ⟨hk.1.2, hk.2⟩⟩)⟩, ⟨by (with_reducible repeat (first | apply Kd.R_alloc | apply Kd.R_drewN | apply Kd.R_drew)); exact HO_11.out⟩, ⟨HB.out⟩⟩
                         ·rw [if_neg c76] at H
                          exact absurd H (by simp)
                       ·rw [if_neg c63] at H
                        exact absurd H (by simp)
                      ·rw [if_neg c62] at H
                       exact absurd H (by simp)
                     ·rw [if_neg c61] at H
                      exact absurd H (by simp)
                 ·rw [if_neg c40] at H
                  exact absurd H (by simp)
                ·rw [if_neg c39] at H
                 exact absurd H (by simp)
               ·rw [if_neg c37] at H
                exact absurd H (by simp)
              ·rw [if_neg c36] at H
               exact absurd H (by simp)
             ·rw [if_neg c34] at H
              exact absurd H (by simp)
            ·rw [if_neg c33] at H
             exact absurd H (by simp)
           ·rw [if_neg c31] at H
            have c31b0 : decide (0 ≤ x12_1) = false := decide_eq_false c31
            clear c31
            replace H := Option.bind_eq_some_iff.mp H
            obtain ⟨t189, A840, H⟩ := H
            (try dsimp only at H)
            have A84 := Aside0.mk A840
            clear A840
            by_cases c85 : 0 < (y171.length : Int)
            ·rw [if_pos c85] at H
             have c85b0 : decide (0 < (y171.length : Int)) = true := decide_eq_true c85
             have c85b1 : decide (0 < y171.length) = true := decide_eq_true (by omega)
             clear c85
             replace H := Option.bind_eq_some_iff.mp H
             obtain ⟨⟨t193, t196⟩, A860, H⟩ := H
             (try dsimp only at H)
             have A86 := Aside0.mk A860
             clear A860
             replace H := Option.bind_eq_some_iff.mp H
             obtain ⟨t199, A870, H⟩ := H
             (try dsimp only at H)
             have A87 := Aside0.mk A870
             clear A870
             simp only [Option.some.injEq, Prod.mk.injEq] at H
             obtain ⟨rfl, rfl⟩ := H
             try go_wp2
             have n0_ := Aside0.mk (Kd.R_drew HO_6.out)
             have n1_ := Aside0.mk (Kd.V_drew HO_8.out)
             have n2_ := Aside0.mk (Kd.R_drew HO_10.out)
             have n3_ := Aside0.mk (Kd.R_drew HO_11.out)
             have n4_ := Aside0.mk (below_drew1 HB.out)
             clear HO_6
             clear HO_8
             clear HO_10
             clear HO_11
             clear HB
             have HO_6 := n0_
             have HO_8 := n1_
             have HO_10 := n2_
             have HO_11 := n3_
             have HB := n4_
             clear n0_ n1_ n2_ n3_ n4_
             have p192 : 0 ≤ (0 : Int) := (by omega)
             have q192 : 0 < (y171.length : Int) := of_decide_eq_true (by assumption)
             obtain ⟨ad192, e192, hx192_0⟩ := Kd.at_int (Kd.R_reads' HO_6.out).2.2 0 p192 q192
             cases e192
             have qi192 : (0 < y171.length) = True := eq_true (by omega)
             (try rw [show ((0 : Int)).toNat = 0 from rfl] at hx192_0)
             (try rw [Addr.add_zero'] at hx192_0)
             replace p192 := eq_true p192
             replace q192 := eq_true q192
             obtain ⟨Ao89, co89, eo89⟩ := Kd.R_slice HO_10.out
             (first | subst eo89 | (injection eo89 with f1_ f2_ f3_; have f4_ := f1_.symm; have f5_ := f3_.symm; clear f1_ f2_ f3_; subst f4_; subst f5_))
             refine start_ (n := 11) (S := fun w' => w'.cell? ad192 = some (.int .u32 (rd y171 0))) (ds := []) #[false, false, false, false, false, false, false, false, false, false, false] (by kernel_rfl) rfl rfl (hx192_0) (fun hHeld => ?_); refine with_tabW rational_divNat.tab23 rational_divNat.bits23 (fun HT_ HW_ => ?_)
             generalize wr.drew = w88 at HO_6 HO_8 HO_10 HO_11 HB hx192_0 hHeld ⊢
             refine pure_ (i := 0) (N := some 165) (v := ?_) (a' := ?_) #[true, false, false, false, false, false, false, false, false, false, false] rfl rfl (any_of HT_.out (by kernel_rfl)) (fun _ _ _ h => h) (Or.inl ⟨by rfl, ?_⟩) ?_ ?_
             rotate_left
             ·intro w'
              go_simp
              with_reducible rfl
             rotate_left
             ·simp only [Act.put, List.setIfInBounds_toArray, List.set_cons_zero, List.set_cons_succ, i64_w, i32_w]
              rfl
             refine pure_ (i := 2) (N := some 167) (v := ?_) (a' := ?_) #[true, false, true, false, false, false, false, false, false, false, false] rfl rfl (any_of HT_.out (by kernel_rfl)) (fun _ _ _ h => h) (Or.inl ⟨by rfl, ?_⟩) ?_ ?_
             rotate_left
             ·intro w'
              go_simp
              with_reducible rfl
             rotate_left
             ·simp only [Act.put, List.setIfInBounds_toArray, List.set_cons_zero, List.set_cons_succ, i64_w, i32_w]
              rfl
             refine pure_ (i := 3) (N := some 168) (v := ?_) (a' := ?_) #[true, false, true, true, false, false, false, false, false, false, false] rfl rfl (any_of HT_.out (by kernel_rfl)) (fun _ _ _ h => h) (Or.inl ⟨by rfl, ?_⟩) ?_ ?_
             rotate_left
             ·intro w'
              go_simp
              with_reducible rfl
             rotate_left
             ·simp only [Act.put, List.setIfInBounds_toArray, List.set_cons_zero, List.set_cons_succ, i64_w, i32_w]
              rfl
             refine take_ (i := 4) (N := some 169) (v := ?_) (a' := ?_) #[true, false, true, true, true, false, false, false, false, false, false] rfl rfl (take_ofW HT_.out HW_.out (by kernel_rfl)) (fun _ _ _ h => h) (Or.inl ⟨by rfl, ?_⟩) hHeld ?_ ?_
             rotate_left
             ·intro w' s0
              go_simp
              with_reducible rfl
             rotate_left
             ·simp only [Act.put, List.setIfInBounds_toArray, List.set_cons_zero, List.set_cons_succ, i64_w, i32_w]
              rfl
             refine one_ (i := 1) (N := some 166) #[true, true, true, true, true, false, false, false, false, false, false] rfl rfl (one_of HT_.out (by kernel_rfl)) (by decide) (fun K hK => ?_)
             refine goes_ Tryd.func115 (by kernel_rfl) rfl #[.slice Ao89 x10_1.length co89] (by rfl) rfl rfl (by (try simp only [List.map_toArray, List.map_cons, List.map_nil]); first | done | rfl) ?_
             with_reducible refine (rational_trim.calls k1 (fun k_ => some k_ = (.slice Ao89 x10_1.length co89 : Value).ownBlock) _ _ x10_1 t189 _ ?side1 A84.out).mono ?_
             (case side1 => exact Kd.R_V (Kd.R_tight rfl (HO_10.out)))
             rintro e w90 ⟨v190, rfl, ho0, hb⟩
             have HS0_ := (hb.cell (World.block_lt_of_cell? _ _ (hHeld))).trans (hHeld)
             refine ⟨_, rfl, ?_⟩
             have n0_ := Aside0.mk (Kd.R_below HO_6.out hb)
             have n1_ := Aside0.mk (Kd.V_below (by (with_reducible repeat (first | apply Kd.V_alloc | apply Kd.V_drewN | apply Kd.V_drew)); exact HO_8.out) hb)
             have n2_ := Aside0.mk (Kd.R_below HO_10.out hb)
             have n3_ := Aside0.mk (Kd.R_below HO_11.out hb)
             have n4_ := Aside0.mk (Kd.V_lower (Kd.V_mono (ok' := fun k_ => (P0_ k_ ∨ w.heap.size ≤ k_) ∧ some k_ ≠ (.slice (some ad192) y171.length co22 : Value).ownBlock ∧ some k_ ≠ (v187 : Value).ownBlock) ho0 (fun k_ hk_ => ⟨Or.elim hk_ (fun hs_ => (.inr (((HO_10.out).1 k_ hs_.symm).1))) (fun hn_ => (.inr (Nat.le_trans (below_size HB.out) hn_))), Or.elim hk_ (fun hs_ => ((HO_10.out).1 k_ hs_.symm).2.1) (fun hn_ => (Kd.fresh' (Kd.R_lt HO_6.out) k_ hn_)), Or.elim hk_ (fun hs_ => ((HO_10.out).1 k_ hs_.symm).2.2) (fun hn_ => (Kd.fresh' (Kd.R_lt HO_11.out) k_ hn_))⟩)) (below_size HB.out))
             have n5_ := Aside0.mk (below_step HB.out hb)
             clear HO_6
             clear HO_8
             clear HO_10
             clear HO_11
             clear HB
             have HO_6 := n0_
             have HO_8 := n1_
             have HO_10 := n2_
             have HO_11 := n3_
             have HO191 := n4_
             have HB := n5_
             clear n0_ n1_ n2_ n3_ n4_ n5_
             (try clear hb)
             (try clear hb2)
             (try clear hk)
             (try clear hi)
             (try clear ho0)
             obtain ⟨Ao91, co91, eo91⟩ := Kd.V_slice HO191.out
             (first | subst eo91 | (injection eo91 with f1_ f2_ f3_; have f4_ := f1_.symm; have f5_ := f3_.symm; clear f1_ f2_ f3_; subst f4_; subst f5_))
             refine hK.out _ _ (HS0_) (fun hHeld => ?_)
             clear hK K
             refine norm_ (a' := ?_) ?_ ?_
             rotate_left
             ·show Act.put _ (some 166) _ = _
              simp only [Act.put, List.setIfInBounds_toArray, List.set_cons_zero, List.set_cons_succ, i64_w, i32_w]
              rfl
             refine one_ (i := 5) (N := some 170) #[true, true, true, true, true, true, false, false, false, false, false] rfl rfl (one_of HT_.out (by kernel_rfl)) (by decide) (fun K hK => ?_)
             refine goes_ Tryd.func111 (by kernel_rfl) rfl #[.slice Ao91 t189.length co91, .int .u32 (rd y171 0)] (by rfl) rfl rfl (by (try simp only [List.map_toArray, List.map_cons, List.map_nil]); first | done | rfl) ?_
             with_reducible refine (rational_small.calls k1 _ _ t189 (rd y171 0) t193 t196 _ ?side1 ?side2 A86.out).mono ?_
             (case side1 => repeat (first | exact (Kd.V_reads' HO191.out).2.2 | (with_reducible refine Kd.C_alloc ?_ _) | (with_reducible refine Kd.C_drewN ?_ _) | (with_reducible refine Kd.C_drew ?_)))
             (case side2 => exact (Kd.V_reads' HO191.out).2.1)
             rintro e w92 ⟨v194, v197, rfl, ho0, ho1, hb⟩
             have HS0_ := (hb.cell (World.block_lt_of_cell? _ _ (hHeld))).trans (hHeld)
             refine ⟨_, rfl, ?_⟩
             have n0_ := Aside0.mk (Kd.R_elder' HO_6.out (Kd.R_base ho1) hb)
             have n1_ := Aside0.mk (Kd.V_elder' (by (with_reducible repeat (first | apply Kd.V_alloc | apply Kd.V_drewN | apply Kd.V_drew)); exact HO_8.out) (Kd.R_base ho1) hb)
             have n2_ := Aside0.mk (Kd.R_elder' HO_10.out (Kd.R_base ho1) hb)
             have n3_ := Aside0.mk (Kd.R_elder' HO_11.out (Kd.R_base ho1) hb)
             have n4_ := Aside0.mk (Kd.V_elder' (by (with_reducible repeat (first | apply Kd.V_alloc | apply Kd.V_drewN | apply Kd.V_drew)); exact HO191.out) (Kd.R_base ho1) hb)
             have n5_ := Aside0.mk (Kd.V_lower (Kd.V_mono (ok' := fun k_ => (P0_ k_ ∨ w.heap.size ≤ k_) ∧ some k_ ≠ (v197 : Value).ownBlock ∧ some k_ ≠ (.slice (some ad192) y171.length co22 : Value).ownBlock ∧ some k_ ≠ (.slice Ao89 x10_1.length co89 : Value).ownBlock ∧ some k_ ≠ (v187 : Value).ownBlock) ho0 (fun k_ hk_ => ⟨(.inr (Nat.le_trans (below_size HB.out) hk_.1)), hk_.2, (Kd.fresh' (Kd.R_lt HO_6.out) k_ hk_.1), (Kd.fresh' (Kd.R_lt HO_10.out) k_ hk_.1), (Kd.fresh' (Kd.R_lt HO_11.out) k_ hk_.1)⟩)) (below_size HB.out))
             have n6_ := Aside0.mk (Kd.R_lower (Kd.R_new' (Kd.R_new' (Kd.R_new' (Kd.R_newM (M := fun k_ => (w.heap.size ≤ k_)) (Kd.R_mono (ok' := fun k_ => True) ho1 (fun _ hk_ => trivial)) (below_size HB.out) (fun k_ h_ => h_)) (Kd.R_lt HO_6.out)) (Kd.R_lt HO_10.out)) (Kd.R_lt HO_11.out)) (below_size HB.out))
             have n7_ := Aside0.mk (below_step HB.out hb)
             clear HO_6
             clear HO_8
             clear HO_10
             clear HO_11
             clear HO191
             clear HB
             have HO_6 := n0_
             have HO_8 := n1_
             have HO_10 := n2_
             have HO_11 := n3_
             have HO191 := n4_
             have HO195 := n5_
             have HO198 := n6_
             have HB := n7_
             clear n0_ n1_ n2_ n3_ n4_ n5_ n6_ n7_
             (try clear hb)
             (try clear hb2)
             (try clear hk)
             (try clear hi)
             (try clear ho0)
             (try clear ho1)
             refine hK.out _ _ (HS0_) (fun hHeld => ?_)
             clear hK K
             refine norm_ (a' := ?_) ?_ ?_
             rotate_left
             ·show Act.put _ (some 170) _ = _
              simp only [Act.put, List.setIfInBounds_toArray, List.set_cons_zero, List.set_cons_succ, i64_w, i32_w]
              rfl
             refine pure_ (i := 6) (N := some 164) (v := ?_) (a' := ?_) #[true, true, true, true, true, true, true, false, false, false, false] rfl rfl (any_of HT_.out (by kernel_rfl)) (fun _ _ _ h => h) (Or.inl ⟨by rfl, ?_⟩) ?_ ?_
             rotate_left
             ·intro w'
              go_simp
              with_reducible rfl
             rotate_left
             ·simp only [Act.put, List.setIfInBounds_toArray, List.set_cons_zero, List.set_cons_succ, i64_w, i32_w]
              rfl
             refine pure_ (i := 7) (N := some 171) (v := ?_) (a' := ?_) #[true, true, true, true, true, true, true, true, false, false, false] rfl rfl (any_of HT_.out (by kernel_rfl)) (fun _ _ _ h => h) (Or.inl ⟨by rfl, ?_⟩) ?_ ?_
             rotate_left
             ·intro w'
              go_simp
              with_reducible rfl
             rotate_left
             ·simp only [Act.put, List.setIfInBounds_toArray, List.set_cons_zero, List.set_cons_succ, i64_w, i32_w]
              rfl
             refine pure_ (i := 8) (N := some 172) (v := ?_) (a' := ?_) #[true, true, true, true, true, true, true, true, true, false, false] rfl rfl (any_of HT_.out (by kernel_rfl)) (fun _ _ _ h => h) (Or.inl ⟨by rfl, ?_⟩) ?_ ?_
             rotate_left
             ·intro w'
              go_simp
              with_reducible rfl
             rotate_left
             ·simp only [Act.put, List.setIfInBounds_toArray, List.set_cons_zero, List.set_cons_succ, i64_w, i32_w]
              rfl
             refine pure_ (i := 9) (N := some 16) (v := ?_) (a' := ?_) #[true, true, true, true, true, true, true, true, true, true, false] rfl rfl (any_of HT_.out (by kernel_rfl)) (fun _ _ _ h => h) (Or.inl ⟨by rfl, ?_⟩) ?_ ?_
             rotate_left
             ·intro w'
              go_simp
              with_reducible rfl
             rotate_left
             ·simp only [Act.put, List.setIfInBounds_toArray, List.set_cons_zero, List.set_cons_succ, i64_w, i32_w]
              rfl
             refine pure_ (i := 10) (N := some 17) (v := ?_) (a' := ?_) #[true, true, true, true, true, true, true, true, true, true, true] rfl rfl (any_of HT_.out (by kernel_rfl)) (fun _ _ _ h => h) (Or.inl ⟨by rfl, ?_⟩) ?_ ?_
             rotate_left
             ·intro w'
              go_simp
              with_reducible rfl
             rotate_left
             ·simp only [Act.put, List.setIfInBounds_toArray, List.set_cons_zero, List.set_cons_succ, i64_w, i32_w]
              rfl
             refine done_ (done_of HT_.out (by kernel_rfl)) ?_
             obtain ⟨Ao93, co93, eo93⟩ := Kd.R_slice HO_11.out
             subst eo93
             try go_wp2_with (first | ((with_reducible refine gate_callee (f := 115) rfl ?_); refine goesL_ (some 174) rfl rfl Tryd.func115 (by kernel_rfl) rfl #[.slice Ao93 x11_1.length co93] rfl (by (try simp only [List.map_toArray, List.map_cons, List.map_nil]); first | done | rfl) ?_; (with_reducible refine (rational_trim.calls k1 (fun k_ => some k_ = (.slice Ao93 x11_1.length co93 : Value).ownBlock) _ _ x11_1 t199 _ ?side1 A87.out).mono ?_); (case side1 => exact Kd.R_V (Kd.R_tight rfl (HO_11.out))); rintro e w94 ⟨v200, rfl, ho0, hb⟩; refine ⟨_, rfl, ?_⟩; have n0_ := Aside0.mk (Kd.R_below HO_6.out hb); have n1_ := Aside0.mk (Kd.V_below (by (with_reducible repeat (first | apply Kd.V_alloc | apply Kd.V_drewN | apply Kd.V_drew)); exact HO_8.out) hb); have n2_ := Aside0.mk (Kd.R_below HO_10.out hb); have n3_ := Aside0.mk (Kd.R_below HO_11.out hb); have n4_ := Aside0.mk (Kd.V_below (by (with_reducible repeat (first | apply Kd.V_alloc | apply Kd.V_drewN | apply Kd.V_drew)); exact HO191.out) hb); have n5_ := Aside0.mk (Kd.V_below (by (with_reducible repeat (first | apply Kd.V_alloc | apply Kd.V_drewN | apply Kd.V_drew)); exact HO195.out) hb); have n6_ := Aside0.mk (Kd.R_below HO198.out hb); have n7_ := Aside0.mk (Kd.V_lower (Kd.V_mono (ok' := fun k_ => (P0_ k_ ∨ w.heap.size ≤ k_) ∧ some k_ ≠ (.slice (some ad192) y171.length co22 : Value).ownBlock ∧ some k_ ≠ (.slice Ao89 x10_1.length co89 : Value).ownBlock ∧ some k_ ≠ (v197 : Value).ownBlock) ho0 (fun k_ hk_ => ⟨Or.elim hk_ (fun hs_ => (.inr (((HO_11.out).1 k_ hs_.symm).1.1))) (fun hn_ => (.inr (Nat.le_trans (below_size HB.out) hn_))), Or.elim hk_ (fun hs_ => ((HO_11.out).1 k_ hs_.symm).1.2.1) (fun hn_ => (Kd.fresh' (Kd.R_lt HO_6.out) k_ hn_)), Or.elim hk_ (fun hs_ => ((HO_11.out).1 k_ hs_.symm).1.2.2) (fun hn_ => (Kd.fresh' (Kd.R_lt HO_10.out) k_ hn_)), Or.elim hk_ (fun hs_ => ((HO_11.out).1 k_ hs_.symm).2) (fun hn_ => (Kd.fresh' (Kd.R_lt HO198.out) k_ hn_))⟩)) (below_size HB.out)); have n8_ := Aside0.mk (below_step HB.out hb); clear HO_6; clear HO_8; clear HO_10; clear HO_11; clear HO191; clear HO195; clear HO198; clear HB; have HO_6 := n0_; have HO_8 := n1_; have HO_10 := n2_; have HO_11 := n3_; have HO191 := n4_; have HO195 := n5_; have HO198 := n6_; have HO201 := n7_; have HB := n8_; clear n0_ n1_ n2_ n3_ n4_ n5_ n6_ n7_ n8_; (try clear hb); (try clear hb2); (try clear hk); (try clear hi); (try clear ho0)))
             go_ret2
             exact ⟨_, _, by first | rfl | (simp [errW_none, errW_some] <;> rfl) | (simp only [← hji9, ← hji17]; first | rfl | (simp [errW_none, errW_some] <;> rfl)) | (simp [*, errW_none, errW_some] <;> rfl), by (with_reducible repeat (first | apply Kd.V_alloc | apply Kd.V_drewN | apply Kd.V_drew)); exact Kd.V_mono HO201.out (fun _ hk => hk.1), by (with_reducible repeat (first | apply Kd.V_alloc | apply Kd.V_drewN | apply Kd.V_drew)); exact Kd.V_mono HO195.out (fun _ hk => hk.1), HB.out⟩
            ·rw [if_neg c85] at H
             exact absurd H (by simp)
        ·rw [if_neg c19] at H
         exact absurd H (by simp)
       ·rw [if_neg c18] at H
        exact absurd H (by simp)
      ·rw [if_neg c16] at H
       exact absurd H (by simp)
    ·rw [if_neg c11] at H
     exact absurd H (by simp)
   ·rw [if_neg c10] at H
    exact absurd H (by simp)
/-! ### rational_gcd: function 110 -/
def rational_gcd.l0 : Nat → List Int → List Int → Option (List Int)
 | 0, _, _ => none
 | k + 1, x0, x1 => if (x1.length : Int) > 0 then ((rational_divNat.f k x0 x1).bind fun bt222 => (rational_gcd.l0 k x1 bt222.2)) else (some x0)
def rational_gcd.f (k : Nat) (l0 : List Int) (l1 : List Int) : Option (List Int) := rational_gcd.l0 k l0 l1
theorem rational_gcd.mono_l : ∀ k, (∀ y0 y1, LeO (rational_gcd.l0 k y0 y1) (rational_gcd.l0 (k + 1) y0 y1))
 | 0 => fun _ _ r h => by simp [rational_gcd.l0] at h
 | k + 1 => by
  have ih0 := rational_gcd.mono_l k
  ·intro y0 y1
   unfold rational_gcd.l0
   repeat' first
   | (with_reducible exact ih0 _ _)
   | (with_reducible exact rational_divNat.mono _ _ _)
   | (with_reducible exact LeO.refl _)
   | (with_reducible exact LeO.none _)
   | (with_reducible refine LeO.ite ?_ ?_)
   | (with_reducible refine LeO.bind ?_ (fun _ => ?_))
   | exact ih0 _ _
   | exact rational_divNat.mono _ _ _
   | exact LeO.none _
   | refine LeO.ite ?_ ?_
   | refine LeO.bind ?_ (fun _ => ?_)
theorem rational_gcd.mono : ∀ a0 a1 k, LeO (rational_gcd.f k a0 a1) (rational_gcd.f (k + 1) a0 a1) := by
 intro a0 a1 k
 have ih0 := rational_gcd.mono_l k
 unfold rational_gcd.f
 repeat' first
   | (with_reducible exact ih0 _ _)
   | (with_reducible exact rational_divNat.mono _ _ _)
   | (with_reducible exact LeO.refl _)
   | (with_reducible exact LeO.none _)
   | (with_reducible refine LeO.ite ?_ ?_)
   | (with_reducible refine LeO.bind ?_ (fun _ => ?_))
   | exact ih0 _ _
   | exact rational_divNat.mono _ _ _
   | exact LeO.none _
   | refine LeO.ite ?_ ?_
   | refine LeO.bind ?_ (fun _ => ?_)
set_option maxHeartbeats 8000000 in
set_option maxRecDepth 100000 in
theorem rational_gcd.calls (k : Nat) (P0_ : Nat → Prop) (A0 : Option Addr) (c0 : Nat) (l0 : List Int) (P1_ : Nat → Prop) (A1 : Option Addr) (c1 : Nat) (l1 : List Int) (r : List Int) (w : World) (hs0 : Kd.V (Kd.int .u32) 90 w w.heap.size (fun k_ => P0_ k_) (.slice A0 l0.length c0) l0) (hs1 : Kd.V (Kd.int .u32) 90 w w.heap.size (fun k_ => P1_ k_) (.slice A1 l1.length c1) l1) (h : rational_gcd.f k l0 l1 = some r) :
  Calls Tryd.prog 110 #[.slice A0 l0.length c0, .slice A1 l1.length c1] w fun e w' => ∃ v0_ : Value, e = .returned (v0_) ∧ Kd.V (Kd.int .u32) 90 w' w.heap.size (fun k_ => ((P0_ k_ ∨ P1_ k_) ∨ w.heap.size ≤ k_)) v0_ r ∧ Below w.heap.size w w' := by
 have HO0 := Aside0.mk (show Kd.V (Kd.int .u32) 90 w w.heap.size (fun k_ => ((P0_ k_ ∨ P1_ k_) ∨ w.heap.size ≤ k_)) (.slice A0 l0.length c0) l0 from Kd.V_mono hs0 (fun k_ hk => .inl (.inl hk)))
 have HO1 := Aside0.mk (show Kd.V (Kd.int .u32) 90 w w.heap.size (fun k_ => ((P0_ k_ ∨ P1_ k_) ∨ w.heap.size ≤ k_)) (.slice A1 l1.length c1) l1 from Kd.V_mono hs1 (fun k_ hk => .inl (.inr hk)))
 have HB := Aside0.mk (Below.refl w.heap.size w)
 have H : (rational_gcd.l0 k l0 l1) = some r := h
 clear h
 have H' := Aside0.mk H
 clear H
 go_enter Tryd.func110, Tryd.ntmps110
 go_wp2
 go_loopg [0, 1] k (fun kq v0 v1 w' => ∃ (x0_1 : List Int) (x1_1 : List Int), Aside0 (rational_gcd.l0 kq x0_1 x1_1 = some r) ∧ Aside0 (kq ≤ k) ∧ Aside0 (Kd.V (Kd.int .u32) 90 w' w.heap.size (fun k_ => ((P0_ k_ ∨ P1_ k_) ∨ w.heap.size ≤ k_)) v0 x0_1) ∧ Aside0 (Kd.V (Kd.int .u32) 90 w' w.heap.size (fun k_ => ((P0_ k_ ∨ P1_ k_) ∨ w.heap.size ≤ k_)) v1 x1_1) ∧ Aside0 (Below w.heap.size w w'))
 case atStart => exact ⟨(l0), (l1), H', ⟨Nat.le_refl _⟩, ⟨by (with_reducible repeat (first | apply Kd.V_alloc | apply Kd.V_drewN | apply Kd.V_drew)); exact HO0.out⟩, ⟨by (with_reducible repeat (first | apply Kd.V_alloc | apply Kd.V_drewN | apply Kd.V_drew)); exact HO1.out⟩, ⟨HB.out⟩⟩
 case round =>
  clear H'
  try clear c1
  try clear p2
  obtain ⟨x0_1, x1_1, HA, HK1, HO_0, HO_1, HB⟩ := hrel
  cases gk with
  | zero => exact absurd HA.out (by simp [rational_gcd.l0])
  | succ k1 =>
   have H := HA.out
   clear HA
   simp only [rational_gcd.l0] at H
   by_cases c3 : (x1_1.length : Int) > 0
   ·rw [if_pos c3] at H
    have c3b0 : decide (0 < (x1_1.length : Int)) = true := decide_eq_true c3
    have c3b1 : decide (0 < x1_1.length) = true := decide_eq_true (by omega)
    clear c3
    replace H := Option.bind_eq_some_iff.mp H
    obtain ⟨⟨t222, t225⟩, A40, H⟩ := H
    (try dsimp only at H)
    have A4 := Aside0.mk A40
    clear A40
    have H' := Aside0.mk H
    clear H
    obtain ⟨Ao5, co5, eo5⟩ := Kd.V_slice HO_1.out
    subst eo5
    obtain ⟨Ao6, co6, eo6⟩ := Kd.V_slice HO_0.out
    subst eo6
    go_wp2_with (first | ((with_reducible refine gate_callee (f := 60) rfl ?_); refine goesL_ (some 13) rfl rfl Tryd.func60 (by kernel_rfl) rfl #[.slice Ao6 x0_1.length co6, .slice Ao5 x1_1.length co5] rfl (by (try simp only [List.map_toArray, List.map_cons, List.map_nil]); first | done | rfl) ?_; (with_reducible refine (rational_divNat.calls k1 (fun k_ => ((P0_ k_ ∨ P1_ k_) ∨ w.heap.size ≤ k_)) _ _ x0_1 _ _ x1_1 t222 t225 _ ?side1 ?side2 ?side3 A4.out).mono ?_); (case side1 => exact HO_0.out); (case side2 => repeat (first | exact (Kd.V_reads' HO_1.out).2.2 | (with_reducible refine Kd.C_alloc ?_ _) | (with_reducible refine Kd.C_drewN ?_ _) | (with_reducible refine Kd.C_drew ?_))); (case side3 => exact (Kd.V_reads' HO_1.out).2.1); rintro e w7 ⟨v223, v226, rfl, ho0, ho1, hb⟩; refine ⟨_, rfl, ?_⟩; have n0_ := Aside0.mk (Kd.V_below (by (with_reducible repeat (first | apply Kd.V_alloc | apply Kd.V_drewN | apply Kd.V_drew)); exact HO_0.out) hb); have n1_ := Aside0.mk (Kd.V_below (by (with_reducible repeat (first | apply Kd.V_alloc | apply Kd.V_drewN | apply Kd.V_drew)); exact HO_1.out) hb); have n2_ := Aside0.mk (Kd.V_lower (Kd.V_mono (ok' := fun k_ => ((P0_ k_ ∨ P1_ k_) ∨ w.heap.size ≤ k_)) ho0 (fun k_ hk_ => Or.elim hk_ (fun hs_ => hs_) (fun hn_ => (.inr (Nat.le_trans (below_size HB.out) hn_))))) (below_size HB.out)); have n3_ := Aside0.mk (Kd.V_lower (Kd.V_mono (ok' := fun k_ => ((P0_ k_ ∨ P1_ k_) ∨ w.heap.size ≤ k_)) ho1 (fun k_ hk_ => Or.elim hk_ (fun hs_ => hs_) (fun hn_ => (.inr (Nat.le_trans (below_size HB.out) hn_))))) (below_size HB.out)); have n4_ := Aside0.mk (below_step HB.out hb); clear HO_0; clear HO_1; clear HB; have HO_0 := n0_; have HO_1 := n1_; have HO224 := n2_; have HO227 := n3_; have HB := n4_; clear n0_ n1_ n2_ n3_ n4_; (try clear hb); (try clear hb2); (try clear hk); (try clear hi); (try clear ho0); (try clear ho1)))
    go_roundg k1
    case measure => have := HK1.out; omega
    case rel => exact ⟨(x1_1), (t225), H', ⟨by have := HK1.out; omega⟩, ⟨by (with_reducible repeat (first | apply Kd.V_alloc | apply Kd.V_drewN | apply Kd.V_drew)); exact HO_1.out⟩, ⟨by (with_reducible repeat (first | apply Kd.V_alloc | apply Kd.V_drewN | apply Kd.V_drew)); exact HO227.out⟩, ⟨HB.out⟩⟩
   ·rw [if_neg c3] at H
    have c3b0 : decide (0 < (x1_1.length : Int)) = false := decide_eq_false c3
    have c3b1 : decide (0 < x1_1.length) = false := decide_eq_false (by omega)
    clear c3
    obtain rfl := Option.some.inj H
    obtain ⟨Ao8, co8, eo8⟩ := Kd.V_slice HO_1.out
    subst eo8
    go_wp2
    go_ret
    exact ⟨_, rfl, by (with_reducible repeat (first | apply Kd.V_alloc | apply Kd.V_drewN | apply Kd.V_drew)); exact HO_0.out, HB.out⟩
end Go.Proofs.YtplpmndchdockaaDoor.Pr
