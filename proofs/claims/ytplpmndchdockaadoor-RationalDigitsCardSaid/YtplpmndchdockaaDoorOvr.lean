import Derived.Test.YtplpmndchdockaaDoorNv
import Derived.BigQuiet
/-! A region that draws its order and whose calls only make memory: one walk, in the order of the text. -/
namespace Go.Proofs.YtplpmndchdockaaDoor.M
open Go Go.RowKit Go.Proofs.YtplpmndchdockaaDoorV.PrintWords
set_option autoImplicit false
set_option linter.unusedVariables false

/-- The worlds over W: what stood in W stands. -/
structure Ov (W : World) where
  out : World
  is : Below W.heap.size W out
instance instOv (W : World) : Nonempty (Ov W) := ⟨⟨W, Below.refl _ _⟩⟩
theorem Ov.cell {W : World} (u : Ov W) (b o : Nat) (h : b < W.heap.size) : u.out.cell? ⟨b, o, none⟩ = W.cell? ⟨b, o, none⟩ := (bcell u.is).1 b o h
theorem Ov.call {P : Program} {f : FuncId} {args : Array Value} {W : World} {u : Ov W} {v : Value}
    (h : Calls P f args u.out fun e w' => e = .returned v ∧ Below u.out.heap.size u.out w') : Calls P f args u.out fun e w'' => e = .returned v ∧ ∃ u' : Ov W, w'' = u'.out :=
  h.mono fun _ _ ⟨he, hb⟩ => ⟨he, ⟨_, below_trans u.is hb⟩, rfl⟩
theorem Ov.callQ {P : Program} {f : FuncId} {args : Array Value} {W : World} {u : Ov W} {v : Value}
    (h : Calls P f args u.out fun e w' => e = .returned v ∧ ∃ q, w' = u.out.drewN q) : Calls P f args u.out fun e w'' => e = .returned v ∧ ∃ u' : Ov W, w'' = u'.out :=
  Ov.call (h.mono fun _ _ ⟨he, q, hq⟩ => ⟨he, by subst hq; exact pw_below_drewN (Below.refl _ _) q⟩)
theorem wp_region_ov {P : Program} {id : Nat} {Q : Exit → Act → World → Prop} {a : Act} {W : World} {l : List Oper} (hm : P.follows .mixedOrders = true) (hB : Region.lexB .any l.toArray = true)
    (h : wpQuiet P l.toArray (fun w' => ∃ u : Ov W, w' = u.out) (fun a' => ∀ w', (∃ u : Ov W, w' = u.out) → Q .normal a' w') l a) : (Code.region id l.toArray true).wp P Q a W :=
  wp_region_quiet (C := fun w' => ∃ u : Ov W, w' = u.out) hm hB ⟨⟨W.drew, below_drew (Below.refl _ _)⟩, rfl⟩ (by simpa using h)

/-! ### A region with calls that hand back numbers: the world at the region's begin is a letter -/
theorem region_letter {P : Program} {id : Nat} {ops : Array Oper} {Q : Exit → Act → World → Prop} {a : Act} {w : World} (h : ∀ W, W = w → (Code.region id ops true).wp P Q a W) : (Code.region id ops true).wp P Q a w := h w rfl
theorem wp_letter {P : Program} {c : Code} {Q : Exit → Act → World → Prop} {a : Act} {w : World} (h : ∀ W, W = w → c.wp P Q a W) : c.wp P Q a w := h w rfl
/-- What is kept in a region: what stood at its begin. -/
theorem keepS {W w' : World} (h : Below W.heap.size W w') : Below W.heap.size W w' ∧ ∀ b o, b < W.heap.size → w'.cell? ⟨b, o, none⟩ = W.cell? ⟨b, o, none⟩ := ⟨h, (bcell h).1⟩
/-- .. but for one block, that the region writes. -/
theorem keepS2 {W w' : World} {r : Nat} (h : Below W.heap.size W w') : ∀ b o, b < W.heap.size → b ≠ r → w'.cell? ⟨b, o, none⟩ = W.cell? ⟨b, o, none⟩ := fun b o hb _ => (bcell h).1 b o hb
theorem keepS2_set {W w' : World} {r j : Nat} {u : Value} (h : ∀ b o, b < W.heap.size → b ≠ r → w'.cell? ⟨b, o, none⟩ = W.cell? ⟨b, o, none⟩) : ∀ b o, b < W.heap.size → b ≠ r → (w'.setCell ⟨r, j, none⟩ u).cell? ⟨b, o, none⟩ = W.cell? ⟨b, o, none⟩ :=
  fun b o hb hr => (World.cell?_of_block (Below.heap_setCell w' ⟨r, j, none⟩ u b (fun e => hr e))).trans (h b o hb hr)
theorem Nf.on {B lo n : Nat} {w w1 X : World} {v : Value} (h : Nf B lo w v n) (hX : Below w.heap.size w X) (hb : Below X.heap.size X w1) : Nf B lo w1 v n := h.below (below_trans hX hb)
theorem afterO {P : Program} {f : FuncId} {args : Array Value} {W X : World} {B lo n : Nat} {Q : Ending → World → Prop} (hX : Below W.heap.size W X) (h : Calls P f args X (RetN B lo n X))
    (k : ∀ A L c w1, Nf B lo w1 (.slice A L c) n → Below W.heap.size W w1 → Below X.heap.size X w1 → W.heap.size ≤ w1.heap.size → Q (.returned (.slice A L c)) w1) : Calls P f args X Q :=
  h.mono fun e w1 ⟨A, L, c, he, hN, hb⟩ => by subst he; exact k A L c w1 hN (below_trans hX hb) hb (below_trans hX hb).size
theorem afterO2 {P : Program} {f : FuncId} {args : Array Value} {W X : World} {B lo n m : Nat} {Q : Ending → World → Prop} (hX : Below W.heap.size W X) (h : Calls P f args X (RetN2 B lo n m X))
    (k : ∀ A L c A' L' c' w1, Nf B lo w1 (.slice A L c) n → Nv B w1 (.slice A' L' c') m → Below W.heap.size W w1 → Below X.heap.size X w1 → W.heap.size ≤ w1.heap.size → Q (.returned (.tuple #[.slice A L c, .slice A' L' c'])) w1) : Calls P f args X Q :=
  h.mono fun e w1 ⟨A, L, c, A', L', c', he, hN, hM, hb⟩ => by subst he; exact k A L c A' L' c' w1 hN hM (below_trans hX hb) hb (below_trans hX hb).size
theorem afterOV {P : Program} {f : FuncId} {args : Array Value} {W X : World} {v : Value} {Q : Ending → World → Prop} (hX : Below W.heap.size W X) (h : Calls P f args X fun e w' => e = .returned v ∧ Below X.heap.size X w')
    (k : ∀ w1, Below W.heap.size W w1 → Below X.heap.size X w1 → W.heap.size ≤ w1.heap.size → Q (.returned v) w1) : Calls P f args X Q :=
  h.mono fun e w1 ⟨he, hb⟩ => by subst he; exact k w1 (below_trans hX hb) hb (below_trans hX hb).size
theorem afterOQ {P : Program} {f : FuncId} {args : Array Value} {W X : World} {v : Value} {Q : Ending → World → Prop} (hX : Below W.heap.size W X) (h : Calls P f args X fun e w' => e = .returned v ∧ ∃ q, w' = X.drewN q)
    (k : ∀ w1, Below W.heap.size W w1 → Below X.heap.size X w1 → W.heap.size ≤ w1.heap.size → Q (.returned v) w1) : Calls P f args X Q :=
  afterOV hX (h.mono fun e w1 ⟨he, q, hb⟩ => ⟨he, by subst hb; exact pw_below_drewN (Below.refl _ _) q⟩) k

/-! ### A number that stands apart from a block -/
/-- As Nf, but on other blocks than g. -/
def Ng (B lo g : Nat) (w : World) (v : Value) (n : Nat) : Prop := ∃ A c L, v = .slice A L c ∧ L ≤ c ∧ L = (digs B n).length ∧ Kd.F (Kd.int .u32) w (fun k => lo ≤ k ∧ k ≠ g) A L (digs B n)
section
variable {B lo g : Nat} {w w1 : World} {v : Value} {n : Nat}
theorem Nf.apart (h : Nf B lo w v n) (hg : g < lo ∨ w.heap.size ≤ g) : Ng B lo g w v n := by
  obtain ⟨A, c, L, e, h1, hL, hC⟩ := h
  exact ⟨A, c, L, e, h1, hL, Kd.F_mono (Kd.F_bound hC) (fun k hk => ⟨hk.1, by omega⟩)⟩
theorem Ng.toNf (h : Ng B lo g w v n) : Nf B lo w v n := by
  obtain ⟨A, c, L, e, h1, hL, hC⟩ := h
  exact ⟨A, c, L, e, h1, hL, Kd.F_mono hC (fun k hk => hk.1)⟩
theorem Ng.low {lo' : Nat} (h : Ng B lo g w v n) (hl : lo' ≤ lo) : Ng B lo' g w v n := by
  obtain ⟨A, c, L, e, h1, hL, hC⟩ := h
  exact ⟨A, c, L, e, h1, hL, Kd.F_mono hC (fun k hk => ⟨Nat.le_trans hl hk.1, hk.2⟩)⟩
theorem Ng.below (h : Ng B lo g w v n) (hb : Below w.heap.size w w1) : Ng B lo g w1 v n := by
  obtain ⟨A, c, L, e, h1, hL, hC⟩ := h
  exact ⟨A, c, L, e, h1, hL, Kd.F_below hC hb⟩
theorem Ng.alloc (h : Ng B lo g w v n) (o : Obj) : Ng B lo g (w.alloc o) v n := h.below (below_alloc (Below.refl _ _) o)
theorem Ng.set (h : Ng B lo g w v n) (j : Nat) (u : Value) : Ng B lo g (w.setCell ⟨g, j, none⟩ u) v n := by
  obtain ⟨A, c, L, e, h1, hL, hC⟩ := h
  exact ⟨A, c, L, e, h1, hL, Kd.F_far hC (fun k hk => hk.2) u⟩
theorem Ng.setLow (h : Ng B lo g w v n) {p : Addr} (hp : p.block < lo) (u : Value) : Ng B lo g (w.setCell p u) v n := by
  obtain ⟨A, c, L, e, h1, hL, hC⟩ := h
  exact ⟨A, c, L, e, h1, hL, Kd.F_far hC (fun k hk => by omega) u⟩
end
end Go.Proofs.YtplpmndchdockaaDoor.M
