import Derived.Test.YtplpmndchdockaaDoorRatR
/-! The program's fractions: Valid. -/
namespace Go.Proofs.YtplpmndchdockaaDoor.M
open Go Go.RowKit Go.Proofs.YtplpmndchdockaaDoorV.PrintWords
set_option autoImplicit false
set_option linter.unusedVariables false
set_option linter.unusedSimpArgs false

theorem afterS {P : Program} {f : FuncId} {args : Array Value} {W : World} {B : Nat} {o : Option Rat} {Q : Ending → World → Prop} (h : Calls P f args W (RetR B o W))
    (k : ∀ b A L c A' L' c' w1, Aside0 (∀ q, o = some q → b = decide (q.num < 0) ∧ Nf B W.heap.size w1 (.slice A L c) q.num.natAbs ∧ Nf B W.heap.size w1 (.slice A' L' c') q.den) → Below W.heap.size W w1 → W.heap.size ≤ w1.heap.size → (∀ b o, b < W.heap.size → w1.cell? ⟨b, o, none⟩ = W.cell? ⟨b, o, none⟩) → (∀ b o, b < W.heap.size → w1.frozen? ⟨b, o, none⟩ = W.frozen? ⟨b, o, none⟩) → Q (.returned (.tuple #[.agg #[.bool b, .slice A L c, .slice A' L' c'], .bool o.isSome])) w1) : Calls P f args W Q :=
  h.mono fun e w1 ⟨b, A, L, c, A', L', c', he, hb, hN⟩ => by subst he; exact k b A L c A' L' c' w1 ⟨hN⟩ hb hb.size (bcell hb).1 (bcell hb).2
set_option maxHeartbeats 1000000 in
theorem valid_c (w : World) (N D : ByteArray) (hN : N.size ≤ 140737488355328) : Calls Tryd.prog 23 #[.agg #[.string N, .string D]] w fun e w' => e = .returned (.bool (rdQ N D).isSome) ∧ Below w.heap.size w w' := by
  have HB := Aside0.mk (below_alloc (Below.refl w.heap.size w) (Obj.cells #[Value.string N, Value.string D] 23))
  go_enter Tryd.func23, Tryd.ntmps23
  go_wp2_with fail
  refine afterS (read_c _ N D hN) ?_; intro b A L c A' L' c' w1 hq b1 z1 hc1 hf1; have y1 : w.heap.size < w1.heap.size := (by simp at z1; omega); have H1 := Aside0.mk (below_trans HB.out b1); clear b1 z1
  go_wp2
  go_ret
  exact ⟨rfl, below_alloc H1.out _⟩
end Go.Proofs.YtplpmndchdockaaDoor.M
