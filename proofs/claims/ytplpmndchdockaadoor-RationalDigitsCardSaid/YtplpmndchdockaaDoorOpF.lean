import Derived.Test.YtplpmndchdockaaDoorRatW
import Derived.Test.YtplpmndchdockaaDoorLawOf
/-! Add, Sub, Mul, Div of fractions that fit, over their texts. -/
namespace Go.Proofs.YtplpmndchdockaaDoor.M
open Go Go.RowKit Go.Proofs.YtplpmndchdockaaDoorV.PrintWords
set_option autoImplicit false
set_option linter.unusedVariables false
set_option linter.unusedSimpArgs false

/-- A fraction's texts, as a value. -/
def tV (N D : ByteArray) : Value := .tuple #[.agg #[.string N, .string D], .bool true]
/-- A call on two fractions' texts that hands back a third one's. -/
def Op2 (f : FuncId) (N D N2 D2 N3 D3 : ByteArray) : Prop := ∀ W : World, Calls Tryd.prog f #[.agg #[.string N, .string D], .agg #[.string N2, .string D2]] W fun e w' => e = .returned (.tuple #[.agg #[.string N3, .string D3], .bool true]) ∧ Below W.heap.size W w'
theorem wV_fits {q : Rat} (h : Fits q) : wV (some q) = .tuple #[.agg #[.string (bN q), .string (bD q)], .bool true] := by
  obtain ⟨h1, h2, h3⟩ := wN_ok h
  unfold wV; rw [h1, h2, h3]
theorem bN_size {q : Rat} (h : Fits q) : (bN q).size ≤ 140737488355328 := by
  have := (wN_size (some q)).1
  rw [(wN_ok h).1] at this
  omega
theorem op2_of {f : FuncId} {g : Option Rat → Option Rat → Option Rat} (h : ∀ (w : World) (N D N2 D2 : ByteArray), N.size ≤ 140737488355328 → N2.size ≤ 140737488355328 → Calls Tryd.prog f #[.agg #[.string N, .string D], .agg #[.string N2, .string D2]] w fun e w' => e = .returned (wV (g (rdQ N D) (rdQ N2 D2))) ∧ Below w.heap.size w w')
    {p q r : Rat} (hp : Fits p) (hq : Fits q) (hr : Fits r) (hg : g (some p) (some q) = some r) : Op2 f (bN p) (bD p) (bN q) (bD q) (bN r) (bD r) := by
  intro W
  have := h W (bN p) (bD p) (bN q) (bD q) (bN_size hp) (bN_size hq)
  rw [rdQ_rt hp, rdQ_rt hq, hg, wV_fits hr] at this
  exact this
theorem add_f {p q r : Rat} (hp : Fits p) (hq : Fits q) (hr : Fits r) (e : p + q = r) : Op2 27 (bN p) (bD p) (bN q) (bD q) (bN r) (bD r) := op2_of padd_c hp hq hr (by rw [← e]; rfl)
theorem sub_f {p q r : Rat} (hp : Fits p) (hq : Fits q) (hr : Fits r) (e : p - q = r) : Op2 29 (bN p) (bD p) (bN q) (bD q) (bN r) (bD r) := op2_of psub_c hp hq hr (by rw [← e]; rfl)
theorem mul_f {p q r : Rat} (hp : Fits p) (hq : Fits q) (hr : Fits r) (e : p * q = r) : Op2 25 (bN p) (bD p) (bN q) (bD q) (bN r) (bD r) := op2_of pmul_c hp hq hr (by rw [← e]; rfl)
theorem div_f {p q r : Rat} (hp : Fits p) (hq : Fits q) (hr : Fits r) (h0 : q ≠ 0) (e : p / q = r) : Op2 30 (bN p) (bD p) (bN q) (bD q) (bN r) (bD r) := op2_of pdiv_c hp hq hr (by unfold divQ; dsimp only; rw [if_neg (fun h => h0 ((q0_iff q).mpr h)), e])
/-- A fraction of two numbers of 32 bits. -/
theorem ofL_some {a b : Int} (a0 : -2147483648 ≤ a) (a1 : a ≤ 2147483647) (b0 : -2147483648 ≤ b) (b1 : b ≤ 2147483647) : ∃ q, ofL a b = some q ∧ B2 q 31 := by
  have hb : (if b = 0 then 1 else b) ≠ 0 := by split <;> omega
  refine ⟨_, by unfold ofL ofQ; rw [if_neg hb], ?_⟩
  obtain ⟨h1, h2⟩ := q_parts (a := a) hb
  constructor
  · exact Nat.le_trans h1 (by omega)
  · exact Nat.le_trans h2 (by split <;> omega)
def Op0 (f : FuncId) (a b : Int) (N D : ByteArray) : Prop := ∀ W : World, Calls Tryd.prog f #[.int .i64 a, .int .i64 b] W fun e w' => e = .returned (.agg #[.string N, .string D]) ∧ Below W.heap.size W w'
theorem ofL_f {a b : Int} {q : Rat} (a0 : -2147483648 ≤ a) (a1 : a ≤ 2147483647) (b0 : -2147483648 ≤ b) (b1 : b ≤ 2147483647) (h : ofL a b = some q) (hq : Fits q) : Op0 18 a b (bN q) (bD q) := by
  intro W
  have := ofL_c W a b (by omega) (by omega) (by omega) (by omega)
  rw [h, (wN_ok hq).1, (wN_ok hq).2.1] at this
  exact this
/-- A struct of two texts in memory. -/
abbrev St (W : World) (g : Nat) (N D : ByteArray) : Prop := W.cell? ⟨g, 0, none⟩ = some (.string N) ∧ W.cell? ⟨g, 1, none⟩ = some (.string D) ∧ g < W.heap.size
theorem St.on {W w1 : World} {g : Nat} {N D : ByteArray} (h : St W g N D) (hb : Below W.heap.size W w1) : St w1 g N D := ⟨pw_cell_below hb h.1, pw_cell_below hb h.2.1, Nat.lt_of_lt_of_le h.2.2 hb.size⟩
theorem St.up {W w1 : World} {g : Nat} {N D : ByteArray} {o : Obj} (h : St W g N D) (hb : Below (W.alloc o).heap.size (W.alloc o) w1) : St w1 g N D := h.on (below_trans (below_alloc (Below.refl _ _) o) hb)
theorem St.up3 {W w1 : World} {g : Nat} {N D : ByteArray} {o o2 o3 : Obj} (h : St W g N D) (hb : Below (((W.alloc o).alloc o2).alloc o3).heap.size (((W.alloc o).alloc o2).alloc o3) w1) : St w1 g N D := h.on (below_trans (below_alloc (below_alloc (below_alloc (Below.refl _ _) o) o2) o3) hb)
theorem St.new {W w1 : World} {N D : ByteArray} {f : TypeId} (hb : Below (W.alloc (.cells #[.string N, .string D] f)).heap.size (W.alloc (.cells #[.string N, .string D] f)) w1) : St w1 W.heap.size N D :=
  ⟨pw_cell_below hb (blk_cell (blk_new W _) 0), pw_cell_below hb (blk_cell (blk_new W _) 1), Nat.lt_of_lt_of_le (by simp) hb.size⟩
end Go.Proofs.YtplpmndchdockaaDoor.M
