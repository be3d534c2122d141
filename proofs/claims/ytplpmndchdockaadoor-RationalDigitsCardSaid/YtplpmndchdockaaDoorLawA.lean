import Derived.Test.YtplpmndchdockaaDoorRatS
/-! The laws of chapter 36: the sanity check. -/
namespace Go.Proofs.YtplpmndchdockaaDoor.M
open Go Go.RowKit Go.Proofs.YtplpmndchdockaaDoorV.PrintWords
set_option autoImplicit false
set_option linter.unusedVariables false
set_option linter.unusedSimpArgs false

theorem tx3 : tx 3 = [51] := by decide +kernel
theorem tx2 : tx 2 = [50] := by decide +kernel
theorem q32 : (fr true 3 2).num = -3 ∧ (fr true 3 2).den = 2 := fr_coprime (by decide) (by decide)
theorem of32 : ofQ 6 (-4) = some (fr true 3 2) := by
  have h := fr_int 6 (-4) (by decide)
  unfold ofQ
  rw [if_neg (by decide), ← h]
  congr 1
theorem fits32 : Fits (fr true 3 2) := by
  obtain ⟨h1, h2⟩ := q32
  have h3 : 10 ^ 1 ≤ 10 ^ MD := Nat.pow_le_pow_right (by decide) (by unfold MD; decide)
  refine ⟨?_, ?_⟩
  · rw [h1]; exact Nat.lt_of_lt_of_le (by decide) h3
  · rw [h2]; exact Nat.lt_of_lt_of_le (by decide) h3
theorem b32 : bN (fr true 3 2) = ⟨#[45, 51]⟩ ∧ bD (fr true 3 2) = ⟨#[50]⟩ := by
  obtain ⟨h1, h2⟩ := q32
  unfold bN bD numTx denTx
  rw [h1, h2]
  exact ⟨by decide +kernel, by decide +kernel⟩
theorem rd32 : rdQ ⟨#[45, 51]⟩ ⟨#[50]⟩ = some (fr true 3 2) := by rw [← b32.1, ← b32.2]; exact rdQ_rt fits32
theorem of_awk (W : World) : Calls Tryd.prog 21 #[.int .i64 6, .int .i64 (-4)] W fun e w' => e = .returned (.tuple #[.agg #[.string ⟨#[45, 51]⟩, .string ⟨#[50]⟩], .bool true]) ∧ Below W.heap.size W w' :=
  (of_c W 6 (-4) (by decide) (by decide) (by decide) (by decide)).mono fun e w' ⟨he, hb⟩ => ⟨by
    obtain ⟨h1, h2, h3⟩ := wN_ok fits32
    rw [he, of32]; unfold wV; rw [h1, h2, h3, b32.1, b32.2], hb⟩
theorem sc_awk (W : World) : Calls Tryd.prog 19 #[.agg #[.string ⟨#[45, 51]⟩, .string ⟨#[50]⟩], .int .i64 1] W fun e w' => e = .returned (.tuple #[.int .i64 (-2), .int .i64 (-1), .bool true]) ∧ Below W.heap.size W w' :=
  (scale_c W ⟨#[45, 51]⟩ ⟨#[50]⟩ 1 (by decide) (by decide) (by decide)).mono fun e w' ⟨he, hb⟩ => ⟨by
    rw [he, rd32]; unfold scV scQ; dsimp only; rw [if_pos (by decide), q32.1, q32.2]; rfl, hb⟩
set_option maxHeartbeats 1000000 in
theorem awake_c (w : World) : Calls Tryd.prog 17 #[] w fun e w' => e = .returned (.bool true) ∧ Below w.heap.size w w' := by
  have HB := Aside0.mk (Below.refl w.heap.size w)
  go_enter Tryd.func17, Tryd.ntmps17
  go_wp2_with fail
  refine afterV (of_awk _) ?_; intro w1 b1 z1 hc1 hf1
  go_wp2_with fail
  refine afterV (sc_awk _) ?_; intro w2 b2 z2 hc2 hf2
  have y2 : w1.heap.size < w2.heap.size := (by simp at z2; omega)
  have B2 : Below w.heap.size w w2 := below_trans (below_alloc b1 _) b2
  go_wp2
  refine bodyPost_ret (v := .bool true) (by simp [results, Tryd.results17, go_sem]) rfl ⟨rfl, B2⟩
end Go.Proofs.YtplpmndchdockaaDoor.M
