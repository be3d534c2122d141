import Derived.Test.YtplpmndchdockaaDoorLawA
import Derived.Test.YtplpmndchdockaaDoorRefD
/-! The laws of chapter 36: 'of'. -/
namespace Go.Proofs.YtplpmndchdockaaDoor.M
open Go Go.RowKit Go.Proofs.YtplpmndchdockaaDoorV.PrintWords
set_option autoImplicit false
set_option linter.unusedVariables false
set_option linter.unusedSimpArgs false

/-- What the laws' own 'of' makes. -/
def ofL (a b : Int) : Option Rat := ofQ a (if b = 0 then 1 else b)
set_option maxHeartbeats 1000000 in
theorem ofL_c (w : World) (a b : Int) (a0 : -9223372036854775808 ≤ a) (a1 : a ≤ 9223372036854775807) (b0 : -9223372036854775808 ≤ b) (b1' : b ≤ 9223372036854775807) :
    Calls Tryd.prog 18 #[.int .i64 a, .int .i64 b] w fun e w' => e = .returned (.agg #[.string (wN (ofL a b)), .string (wD (ofL a b))]) ∧ Below w.heap.size w w' := by
  have HB := Aside0.mk (below_alloc (Below.refl w.heap.size w) (Obj.cells #[Value.string { data := #[] }, Value.string { data := #[] }] 23))
  by_cases hb : b = 0
  · subst hb
    obtain ⟨o, ho, F⟩ : ∃ o, o = ofL a 0 ∧ ∀ W, Calls Tryd.prog 22 #[.int .i64 a, .int .i64 1] W fun e w' => e = .returned (wV o) ∧ Below W.heap.size W w' := ⟨_, rfl, fun W => rof_c W a 1 a0 a1 (by omega) (by omega)⟩
    rw [← ho]
    clear ho
    replace F := Aside0.mk F
    go_enter Tryd.func18, Tryd.ntmps18
    go_wp2_with fail
    refine afterW (F.out _) ?_; intro w1 b1 z1 hc1 hf1; have y1 : w.heap.size < w1.heap.size := (by simp at z1; omega); have H1 := Aside0.mk (below_trans HB.out b1); clear b1 z1
    go_wp2
    refine bodyPost_ret (v := .agg #[.string (wN o), .string (wD o)]) (by simp [results, Tryd.results18, go_sem, hc1, y1]) rfl ⟨rfl, ?_⟩
    repeat first | exact H1.out | refine below_set ?_ (by omega) | refine below_alloc ?_ _
  · obtain ⟨o, ho, F⟩ : ∃ o, o = ofL a b ∧ ∀ W, Calls Tryd.prog 22 #[.int .i64 a, .int .i64 b] W fun e w' => e = .returned (wV o) ∧ Below W.heap.size W w' := ⟨_, rfl, fun W => by unfold ofL; rw [if_neg hb]; exact rof_c W a b a0 a1 b0 b1'⟩
    rw [← ho]
    clear ho
    replace F := Aside0.mk F
    go_enter Tryd.func18, Tryd.ntmps18
    go_wp2_with fail
    refine afterW (F.out _) ?_; intro w1 b1 z1 hc1 hf1; have y1 : w.heap.size < w1.heap.size := (by simp at z1; omega); have H1 := Aside0.mk (below_trans HB.out b1); clear b1 z1
    go_wp2
    refine bodyPost_ret (v := .agg #[.string (wN o), .string (wD o)]) (by simp [results, Tryd.results18, go_sem, hc1, y1]) rfl ⟨rfl, ?_⟩
    repeat first | exact H1.out | refine below_set ?_ (by omega) | refine below_alloc ?_ _
end Go.Proofs.YtplpmndchdockaaDoor.M
