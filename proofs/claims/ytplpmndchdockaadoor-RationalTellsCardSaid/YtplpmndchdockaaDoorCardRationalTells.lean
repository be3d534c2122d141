/- RationalTells: for every input the law returns true, and its arguments read afterwards as before; the library's two tables that the row lists are tied to the program's text. -/
import Derived.Test.YtplpmndchdockaaDoorCards
import Derived.Test.YtplpmndchdockaaDoorTie
import Derived.Test.YtplpmndchdockaaDoorLawTells
import Derived.ProofKit
import Derived.OpenShut
import Derived.ShutString
import Derived.LaidMore
import Derived.Lay
import Derived.SevenTiedAt
import Derived.Stop.Joined
import Derived.SizedLaws
import Derived.Lib.SmallJoins
import Derived.Below
namespace Go.Proofs.YtplpmndchdockaaDoor.rationalTells
open Go.ChangeShapes Go.WideShapes Go.ChangeAt Go.RowKit Go.Joins
open Go.ChangeMaps (open_string shut_string)
set_option linter.unusedVariables false
theorem own : ownKnob Tryd.prog.godebug = none := by kernel_rfl
theorem cells23 : Tryd.prog.cellsOf 23 = 2 := by kernel_rfl
theorem bd_i64 {n : Int} (h : (Lit.int .i64 n).wf = true) : -9223372036854775808 ≤ n ∧ n ≤ 9223372036854775807 := by
  simp only [Lit.wf, IntKind.min, IntKind.max, IntKind.signed, IntKind.bits, Bool.and_eq_true] at h
  simpa using h
set_option maxRecDepth 100000 in
theorem lifted (os : Os) (started : os.Started) (H : Type) (enc : TypeId × Value → H) :
    ReturnsInHanded {} Tryd.checked os 9 .any (fun w args => (Rows.rationalTellsSpec.pre enc Tryd.prog Tryd.f9 Rows.rationalTellsRow.domain false w args ∧ laidMetH Tryd.prog Rows.rationalTellsRow.laid w) ∧ sizedMet enc Tryd.prog Tryd.f9 (OpenSpec.ofChange Rows.rationalTellsSpec) false w args)
      (Rows.rationalTellsSpec.post enc Tryd.prog Tryd.f9 false true false false) := by
  refine returnsInHanded_of_change_and (C := Tryd.checked) (X := fun w _ => laidMetH Tryd.prog Rows.rationalTellsRow.laid w) (fun _ _ _ hh h => h.of_heap hh) own started (by kernel_rfl) Tryd.func9
    (ChangeSpec.witness_shaped (enc := enc) (C := Tryd.checked) (os := os) (X := fun w _ => laidMetH Tryd.prog Rows.rationalTellsRow.laid w) false (World.laidAll Tryd.prog os Rows.rationalTellsRow.laid) #[.agg #[.string ByteArray.empty, .string ByteArray.empty], .agg #[.string ByteArray.empty, .string ByteArray.empty], .int .i64 0, .int .i64 0, .int .i64 0, .int .i64 0] 8 (World.laidAll_os _ _ _)
      (World.shaped_of_ZipB (by kernel_rfl) (by kernel_rfl)) (by kernel_rfl) (by kernel_rfl) (by kernel_rfl)
      (by rw [MakeChecks.laidMetH_plain _ _ _ (by kernel_rfl)]; exact laidMet_laidAll _ (by kernel_rfl) (by kernel_rfl))) ?_
  intro W base args ds gs before hval0 hW hcnd hsz0 hL _
  have hsz : (DataW.weightsEach Tryd.prog (Tryd.f9.params.toList ++ Rows.rationalTellsSpec.plain.varTypes Tryd.prog) (ds ++ gs)).all (· ≤ reachBytes) = true := hsz0
  have hval : ∀ (j : Nat) t v, Tryd.f9.params[j]? = some t → args[j]? = some v → Value.okWide Tryd.prog W .any base t v := hval0
  have hW' := hW
  obtain ⟨p, q, hA0, hV, rfl, hfz, hnd⟩ := hW
  have hA : DataW.TrodAll enc Tryd.prog W 0 (fun _ => true) true Tryd.f9.params.toList args.toList ds p := hA0
  rw [Tryd.params9] at hA hval hsz
  obtain ⟨v0, vs0, d0, ds0, p0, q0, hargs, rfl, rfl, h0, r0⟩ := trodAll_cons hA
  obtain ⟨v1, vs1, d1, ds1, p1, q1, rfl, rfl, rfl, h1, r1⟩ := trodAll_cons r0
  obtain ⟨v2, vs2, d2, ds2, p2, q2, rfl, rfl, rfl, h2, r2⟩ := trodAll_cons r1
  obtain ⟨v3, vs3, d3, ds3, p3, q3, rfl, rfl, rfl, h3, r3⟩ := trodAll_cons r2
  obtain ⟨v4, vs4, d4, ds4, p4, q4, rfl, rfl, rfl, h4, r4⟩ := trodAll_cons r3
  obtain ⟨v5, vs5, d5, ds5, p5, q5, rfl, rfl, rfl, h5, r5⟩ := trodAll_cons r4
  obtain ⟨rfl, rfl, rfl⟩ := trodAll_nil r5
  obtain rfl : args = #[v0, v1, v2, v3, v4, v5] := by cases args; simp_all
  obtain ⟨rfl, rfl⟩ := trodVars_none hV
  obtain ⟨c0_0, c0_1, y0_0, y0_1, m0, rfl, rfl, rfl, g0_0, g0_1⟩ := open_agg2 Tryd.underlying23 (by kernel_rfl) cells23 (hval 0 23 v0 rfl rfl) h0
  obtain ⟨a0_0, e0_0, rfl, w0_0⟩ := DataW.trod_string Tryd.underlying9 g0_0
  simp at e0_0
  subst e0_0
  obtain ⟨a0_1, e0_1, rfl, w0_1⟩ := DataW.trod_string Tryd.underlying9 g0_1
  simp at e0_1
  subst e0_1
  have b0_0 : a0_0.size ≤ 140737488355328 := by
    have := List.all_eq_true.1 hsz _ (DataW.weights_mem_each (j := 0) rfl rfl a0_0.data.toList.length (by rw [DataW.weights, Tryd.underlying23]; simp [DataW.weightsEach, DataW.weights]))
    rw [decide_eq_true_iff] at this
    have e : a0_0.data.toList.length = a0_0.size := Array.length_toList
    unfold reachBytes at this
    omega
  have b0_1 : a0_1.size ≤ 140737488355328 := by
    have := List.all_eq_true.1 hsz _ (DataW.weights_mem_each (j := 0) rfl rfl a0_1.data.toList.length (by rw [DataW.weights, Tryd.underlying23]; simp [DataW.weightsEach, DataW.weights]))
    rw [decide_eq_true_iff] at this
    have e : a0_1.data.toList.length = a0_1.size := Array.length_toList
    unfold reachBytes at this
    omega
  have s0 : ∀ (W' : World) (sp : Nat → Bool), DataW.Trod enc Tryd.prog W' 0 sp true 23 (.agg #[.string a0_0, .string a0_1]) (.agg [.lit (.string a0_0.data.toList), .lit (.string a0_1.data.toList)]) [] := fun W' sp => shut_agg2 (y0 := (.lit (.string a0_0.data.toList), [])) (y1 := (.lit (.string a0_1.data.toList), [])) Tryd.underlying23 (by kernel_rfl) cells23 ⟨1, by simp [DataW.trod, Tryd.underlying9, w0_0]⟩ ⟨1, by simp [DataW.trod, Tryd.underlying9, w0_1]⟩
  obtain ⟨c1_0, c1_1, y1_0, y1_1, m1, rfl, rfl, rfl, g1_0, g1_1⟩ := open_agg2 Tryd.underlying23 (by kernel_rfl) cells23 (hval 1 23 v1 rfl rfl) h1
  obtain ⟨a1_0, e1_0, rfl, w1_0⟩ := DataW.trod_string Tryd.underlying9 g1_0
  simp at e1_0
  subst e1_0
  obtain ⟨a1_1, e1_1, rfl, w1_1⟩ := DataW.trod_string Tryd.underlying9 g1_1
  simp at e1_1
  subst e1_1
  have b1_0 : a1_0.size ≤ 140737488355328 := by
    have := List.all_eq_true.1 hsz _ (DataW.weights_mem_each (j := 1) rfl rfl a1_0.data.toList.length (by rw [DataW.weights, Tryd.underlying23]; simp [DataW.weightsEach, DataW.weights]))
    rw [decide_eq_true_iff] at this
    have e : a1_0.data.toList.length = a1_0.size := Array.length_toList
    unfold reachBytes at this
    omega
  have b1_1 : a1_1.size ≤ 140737488355328 := by
    have := List.all_eq_true.1 hsz _ (DataW.weights_mem_each (j := 1) rfl rfl a1_1.data.toList.length (by rw [DataW.weights, Tryd.underlying23]; simp [DataW.weightsEach, DataW.weights]))
    rw [decide_eq_true_iff] at this
    have e : a1_1.data.toList.length = a1_1.size := Array.length_toList
    unfold reachBytes at this
    omega
  have s1 : ∀ (W' : World) (sp : Nat → Bool), DataW.Trod enc Tryd.prog W' 0 sp true 23 (.agg #[.string a1_0, .string a1_1]) (.agg [.lit (.string a1_0.data.toList), .lit (.string a1_1.data.toList)]) [] := fun W' sp => shut_agg2 (y0 := (.lit (.string a1_0.data.toList), [])) (y1 := (.lit (.string a1_1.data.toList), [])) Tryd.underlying23 (by kernel_rfl) cells23 ⟨1, by simp [DataW.trod, Tryd.underlying9, w1_0]⟩ ⟨1, by simp [DataW.trod, Tryd.underlying9, w1_1]⟩
  obtain ⟨a2, rfl, rfl, rfl, w2⟩ := open_int Tryd.underlying3 (hval 2 3 v2 rfl rfl) h2
  obtain ⟨a3, rfl, rfl, rfl, w3⟩ := open_int Tryd.underlying3 (hval 3 3 v3 rfl rfl) h3
  obtain ⟨a4, rfl, rfl, rfl, w4⟩ := open_int Tryd.underlying3 (hval 4 3 v4 rfl rfl) h4
  obtain ⟨a5, rfl, rfl, rfl, w5⟩ := open_int Tryd.underlying3 (hval 5 3 v5 rfl rfl) h5
  clear hA0 hval0 hsz0 hsz
  simp only [List.append_nil] at hW'
  refine (M.tells_c W a0_0 a0_1 a1_0 a1_1 a2 a3 a4 a5 b0_0 b0_1 b1_0 b1_1 (bd_i64 w2).1 (bd_i64 w2).2 (bd_i64 w3).1 (bd_i64 w3).2 (bd_i64 w4).1 (bd_i64 w4).2 (bd_i64 w5).1 (bd_i64 w5).2).mono fun e W' ⟨he, bel⟩ => ?_
  subst he
  exact ⟨_, rfl, _, _, _, [], _, [], hW', trodAll_mk1 (shut_bool Tryd.underlying4 _), (trodAll_cons_mk (s0 _ _) (trodAll_cons_mk (s1 _ _) (trodAll_cons_mk (shut_int Tryd.underlying3 w2) (trodAll_cons_mk (shut_int Tryd.underlying3 w3) (trodAll_cons_mk (shut_int Tryd.underlying3 w4) (trodAll_cons_mk (shut_int Tryd.underlying3 w5) trodAll_mk0)))))), rfl, bel.frame _, fun h => by cases h⟩
theorem and2 {a b : Bool} (h : a = true) (k : b = true) : (a && b) = true := by rw [h, k]; rfl
set_option maxHeartbeats 8000000 in
theorem closed : joinedFacts Tryd.pinned.checked.prog 9 Tryd.f9 Rows.rationalTellsSpec Rows.rationalTellsRow = true := by
  unfold joinedFacts
  repeat' (with_reducible refine and2 ?_ ?_)
  all_goals (as_aux_lemma => kernel_rfl)
set_option maxHeartbeats 8000000 in
theorem over : Rows.rationalTellsRow.holds Tryd.pinned (OpenSpec.ofChange Rows.rationalTellsSpec) :=
  OpenClaim.holds_of_wide 9 Tryd.f9 rfl rfl rfl rfl rfl rfl rfl ⟨rfl, rfl, rfl, rfl, rfl⟩ rfl rfl rfl rfl rfl (by as_aux_lemma => kernel_rfl) Tryd.func9 closed
    (of_decide_eq_true (by as_aux_lemma => kernel_rfl)) (by unfold Func.isWrapper; first | (rw [if_pos (by decide +kernel)]; kernel_rfl) | (rw [if_neg (by decide +kernel)]; exact ⟨rfl, rfl⟩))
    (fun os started H enc _ => lifted os started H enc)
set_option maxHeartbeats 8000000 in
theorem card_holds : Rows.RationalTellsCardSaid :=
  Claim7.holds_tied_plain_at .later [] [.data, .pinned] true (true, "9ccc2eb9d850de3f5cb57d3e76151f01792f281e9b3dae89400325c658ba51ae") false over (fun _ h => by cases h) (by as_aux_lemma => kernel_rfl) (fun _ h => by cases h) rationalTells_row_tie rfl ⟨rfl, rfl⟩ (by as_aux_lemma => kernel_rfl) rfl
    (fun f fn hf hfn => by
      obtain rfl : f = 9 := Option.some.inj ((show Tryd.prog.funcNamed "flagstone/flagstonelaw36.RationalTells" = some 9 by as_aux_lemma => kernel_rfl).symm.trans hf) |>.symm
      obtain rfl : fn = Tryd.f9 := (Option.some.inj (Tryd.func9.symm.trans hfn)).symm
      exact ⟨by kernel_rfl, fun j t ht => by
        rw [Tryd.params9] at ht
        have hm : t ∈ [23, 23, 3, 3, 3, 3] := by simpa using Array.mem_of_getElem? ht
        have hall : ([23, 23, 3, 3, 3, 3].all fun u => !Tryd.prog.wantsStandIn u) = true := by kernel_rfl
        exact (show Tryd.prog.wantsStandIn t = false by simpa using List.all_eq_true.1 hall t hm)⟩)
    (by as_aux_lemma => kernel_rfl)
#print axioms card_holds
end Go.Proofs.YtplpmndchdockaaDoor.rationalTells
namespace Go.Proofs.YtplpmndchdockaaDoor
/-- The card, under a short name, for the claim. -/
theorem rationalTells_holds : Rows.RationalTellsCardSaid := rationalTells.card_holds
end Go.Proofs.YtplpmndchdockaaDoor
