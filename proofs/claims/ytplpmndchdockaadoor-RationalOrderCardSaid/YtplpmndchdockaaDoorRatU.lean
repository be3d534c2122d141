import Derived.Test.YtplpmndchdockaaDoorRatT
/-! The program's fractions: with, and what it is called with. -/
namespace Go.Proofs.YtplpmndchdockaaDoor.M
open Go Go.RowKit Go.Proofs.YtplpmndchdockaaDoorV.PrintWords
set_option autoImplicit false
set_option linter.unusedVariables false
set_option linter.unusedSimpArgs false

/-- What an operation on two fractions hands back: parts of a fraction, where there is one. -/
def RetW (o : Option (Bool × Nat × Nat)) (w : World) (e : Ending) (w' : World) : Prop := ∃ b A L c A' L' c', e = .returned (.tuple #[.agg #[.bool b, .slice A L c, .slice A' L' c'], .bool o.isSome]) ∧ Below w.heap.size w w' ∧
  ∀ t, o = some t → b = t.1 ∧ Nf 1000000000 0 w' (.slice A L c) t.2.1 ∧ Nf 1000000000 0 w' (.slice A' L' c') t.2.2
theorem afterOp {P : Program} {f : FuncId} {args : Array Value} {W : World} {o : Option (Bool × Nat × Nat)} {Q : Ending → World → Prop} (h : Calls P f args W (RetW o W))
    (k : ∀ b A L c A' L' c' w1, Aside0 (∀ t, o = some t → b = t.1 ∧ Nf 1000000000 0 w1 (.slice A L c) t.2.1 ∧ Nf 1000000000 0 w1 (.slice A' L' c') t.2.2) → Below W.heap.size W w1 → W.heap.size ≤ w1.heap.size → (∀ b o, b < W.heap.size → w1.cell? ⟨b, o, none⟩ = W.cell? ⟨b, o, none⟩) → (∀ b o, b < W.heap.size → w1.frozen? ⟨b, o, none⟩ = W.frozen? ⟨b, o, none⟩) → Q (.returned (.tuple #[.agg #[.bool b, .slice A L c, .slice A' L' c'], .bool o.isSome])) w1) : Calls P f args W Q :=
  h.mono fun e w1 ⟨b, A, L, c, A', L', c', he, hb, hN⟩ => by subst he; exact k b A L c A' L' c' w1 ⟨hN⟩ hb hb.size (bcell hb).1 (bcell hb).2
/-- The contract of an operation. -/
def OpC (f : FuncId) (g : Rat → Rat → Option (Bool × Nat × Nat)) : Prop := ∀ (X : World) (p q : Rat) (A : Option Addr) (L c : Nat) (A1 : Option Addr) (L1 c1 : Nat) (A2 : Option Addr) (L2 c2 : Nat) (A3 : Option Addr) (L3 c3 lo lo1 lo2 lo3 : Nat),
  Nf 1000000000 lo X (.slice A L c) p.num.natAbs → Nf 1000000000 lo1 X (.slice A1 L1 c1) p.den → Nf 1000000000 lo2 X (.slice A2 L2 c2) q.num.natAbs → Nf 1000000000 lo3 X (.slice A3 L3 c3) q.den → Fits p → Fits q →
  Calls Tryd.prog f #[.agg #[.bool (decide (p.num < 0)), .slice A L c, .slice A1 L1 c1], .agg #[.bool (decide (q.num < 0)), .slice A2 L2 c2, .slice A3 L3 c3]] X (RetW (g p q) X)
/-- Its answers are small. -/
def OpS (g : Rat → Rat → Option (Bool × Nat × Nat)) : Prop := ∀ p q t, Fits p → Fits q → g p q = some t → t.2.2 ≠ 0 ∧ Sm t.2.1 ∧ Sm t.2.2
def withQ (g : Rat → Rat → Option (Bool × Nat × Nat)) (a b : Option Rat) : Option Rat := match a, b with
  | some p, some q => (g p q).map fun t => fr t.1 t.2.1 t.2.2
  | _, _ => none
theorem withQ_none1 (g : Rat → Rat → Option (Bool × Nat × Nat)) (b : Option Rat) : withQ g none b = none := rfl
theorem withQ_none2 (g : Rat → Rat → Option (Bool × Nat × Nat)) (a : Option Rat) : withQ g a none = none := by cases a <;> rfl
theorem wV_none : wV none = .tuple #[.agg #[.string ⟨#[]⟩, .string ⟨#[]⟩], .bool false] := rfl
set_option maxHeartbeats 4000000 in
theorem with_c (w : World) (N D N2 D2 : ByteArray) (f : FuncId) (g : Rat → Rat → Option (Bool × Nat × Nat)) (hcl : ∀ args W, (callFunc f args).run Tryd.prog W = .ok (.enter f args) W) (hf : OpC f g) (hs : OpS g) (hN : N.size ≤ 140737488355328) (hN2 : N2.size ≤ 140737488355328) :
    Calls Tryd.prog 73 #[.agg #[.string N, .string D], .agg #[.string N2, .string D2], .func (.func f) #[] #[]] w fun e w' => e = .returned (wV (withQ g (rdQ N D) (rdQ N2 D2))) ∧ Below w.heap.size w w' := by
  have HB := Aside0.mk (below_alloc (below_alloc (below_alloc (Below.refl w.heap.size w) (Obj.cells #[Value.string N, Value.string D] 23)) (Obj.cells #[Value.string N2, Value.string D2] 23)) (Obj.cells #[Value.string ⟨#[]⟩, Value.string ⟨#[]⟩] 23))
  obtain ⟨o, ho⟩ : ∃ o, o = rdQ N D := ⟨_, rfl⟩
  obtain ⟨o2, ho2⟩ : ∃ o, o = rdQ N2 D2 := ⟨_, rfl⟩
  have F := fun W => read_c W N D hN
  have F2 := fun W => read_c W N2 D2 hN2
  rw [← ho] at F
  rw [← ho2] at F2
  rw [← ho, ← ho2]
  replace F := Aside0.mk F
  replace F2 := Aside0.mk F2
  cases o with
  | none =>
    clear ho ho2
    rw [withQ_none1]
    go_enter Tryd.func73, Tryd.ntmps73
    go_wp2_with fail
    refine afterR (F.out _) ?_; intro b A L c A' L' c' w1 hq b1 z1 hc1 hf1; have y1 : w.heap.size + 2 < w1.heap.size := (by simp at z1; omega); have x1 : w.heap.size + 1 < w1.heap.size := (by omega); have H1 := Aside0.mk (below_trans HB.out b1); clear b1 z1 hq
    go_wp2_with fail
    refine afterR (F2.out _) ?_; intro b' A2 L2 c2 A3 L3 c3 w2 hq b2 z2 hc2 hf2; have v2 : w1.heap.size < w2.heap.size := (by simp at z2; omega); have y2 : w.heap.size + 2 < w2.heap.size := (by omega); have x2 : w.heap.size + 1 < w2.heap.size := (by omega); have H2 := Aside0.mk (below_trans (below_alloc H1.out _) b2); clear b2 z2 hq
    go_wp2
    refine bodyPost_ret (v := wV none) (by rw [wV_none]; simp [results, Tryd.results73, go_sem, hc2, hc1, y1, y2, x1, x2, v2]) rfl ⟨rfl, ?_⟩
    repeat first | exact H2.out | refine below_set ?_ (by omega) | refine below_alloc ?_ _
  | some p =>
    have p1 := rdQ_fits ho.symm
    cases o2 with
    | none =>
      clear ho ho2
      rw [withQ_none2]
      go_enter Tryd.func73, Tryd.ntmps73
      go_wp2_with fail
      refine afterR (F.out _) ?_; intro b A L c A' L' c' w1 hq b1 z1 hc1 hf1; have y1 : w.heap.size + 2 < w1.heap.size := (by simp at z1; omega); have x1 : w.heap.size + 1 < w1.heap.size := (by omega); have H1 := Aside0.mk (below_trans HB.out b1); clear b1 z1 hq
      go_wp2_with fail
      refine afterR (F2.out _) ?_; intro b' A2 L2 c2 A3 L3 c3 w2 hq b2 z2 hc2 hf2; have v2 : w1.heap.size < w2.heap.size := (by simp at z2; omega); have y2 : w.heap.size + 2 < w2.heap.size := (by omega); have x2 : w.heap.size + 1 < w2.heap.size := (by omega); have H2 := Aside0.mk (below_trans (below_alloc H1.out _) b2); clear b2 z2 hq
      go_wp2
      refine bodyPost_ret (v := wV none) (by rw [wV_none]; simp [results, Tryd.results73, go_sem, hc2, hc1, y1, y2, x1, x2, v2]) rfl ⟨rfl, ?_⟩
      repeat first | exact H2.out | refine below_set ?_ (by omega) | refine below_alloc ?_ _
    | some q =>
      have q1 := rdQ_fits ho2.symm
      clear ho ho2
      obtain ⟨o3, ho3⟩ : ∃ o, o = g p q := ⟨_, rfl⟩
      have eq : withQ g (some p) (some q) = o3.map fun t => fr t.1 t.2.1 t.2.2 := by rw [ho3]; rfl
      rw [eq]
      clear eq
      have G : ∀ (X : World) (A : Option Addr) (L c : Nat) (A1 : Option Addr) (L1 c1 : Nat) (A2 : Option Addr) (L2 c2 : Nat) (A3 : Option Addr) (L3 c3 lo lo1 lo2 lo3 : Nat), Nf 1000000000 lo X (.slice A L c) p.num.natAbs → Nf 1000000000 lo1 X (.slice A1 L1 c1) p.den → Nf 1000000000 lo2 X (.slice A2 L2 c2) q.num.natAbs → Nf 1000000000 lo3 X (.slice A3 L3 c3) q.den →
          Calls Tryd.prog f #[.agg #[.bool (decide (p.num < 0)), .slice A L c, .slice A1 L1 c1], .agg #[.bool (decide (q.num < 0)), .slice A2 L2 c2, .slice A3 L3 c3]] X (RetW o3 X) := by
        intro X A L c A1 L1 c1 A2 L2 c2 A3 L3 c3 l0 l1 l2 l3 h0 h1 h2 h3
        rw [ho3]
        exact hf X p q A L c A1 L1 c1 A2 L2 c2 A3 L3 c3 l0 l1 l2 l3 h0 h1 h2 h3 p1 q1
      have S := fun t => hs p q t p1 q1
      rw [← ho3] at S
      replace G := Aside0.mk G
      replace S := Aside0.mk S
      clear ho3 hf hs
      go_enter Tryd.func73, Tryd.ntmps73
      go_wp2_with fail
      refine afterR (F.out _) ?_; intro b A L c A' L' c' w1 hq b1 z1 hc1 hf1; have y1 : w.heap.size + 2 < w1.heap.size := (by simp at z1; omega); have x1 : w.heap.size + 1 < w1.heap.size := (by omega); have H1 := Aside0.mk (below_trans HB.out b1); clear b1 z1
      obtain ⟨rfl, hn, hd⟩ := hq.out p rfl
      clear hq
      go_wp2_with fail
      refine afterR (F2.out _) ?_; intro b' A2 L2 c2 A3 L3 c3 w2 hq b2 z2 hc2 hf2; have v2 : w1.heap.size < w2.heap.size := (by simp at z2; omega); have y2 : w.heap.size + 2 < w2.heap.size := (by omega); have x2 : w.heap.size + 1 < w2.heap.size := (by omega); have H2 := Aside0.mk (below_trans (below_alloc H1.out _) b2)
      obtain ⟨rfl, hn2, hd2⟩ := hq.out q rfl
      replace hn := (hn.alloc _).below b2
      replace hd := (hd.alloc _).below b2
      clear hq b2 z2
      go_wp2_with fail
      refine afterOp (G.out _ _ _ _ _ _ _ _ _ _ _ _ _ _ _ _ _ (hn.alloc _) (hd.alloc _) (hn2.alloc _) (hd2.alloc _)) ?_; intro bb A5 L5 c5 A6 L6 c6 w3 hq b3 z3 hc3 hf3; have v3 : w2.heap.size < w3.heap.size := (by simp at z3; omega); have u3 : w1.heap.size < w3.heap.size := (by omega); have y3 : w.heap.size + 2 < w3.heap.size := (by omega); have x3 : w.heap.size + 1 < w3.heap.size := (by omega); have H3 := Aside0.mk (below_trans (below_alloc H2.out _) b3)
      clear b3 z3
      cases o3 with
      | none =>
        go_wp2
        refine bodyPost_ret (v := wV none) (by rw [wV_none]; simp [results, Tryd.results73, go_sem, hc3, hc2, hc1, y1, y2, y3, x1, x2, x3, v2, v3, u3]) rfl ⟨rfl, ?_⟩
        repeat first | exact H3.out | refine below_set ?_ (by omega) | refine below_alloc ?_ _
      | some t =>
        obtain ⟨rfl, h1, h2⟩ := hq.out t rfl
        obtain ⟨s1, s2, s3⟩ := S.out t rfl
        clear hq
        go_wp2_with fail
        refine afterW (write_c _ _ (h1.alloc _) (h2.alloc _) s1 s2 s3) ?_; intro w4 b4 z4 hc4 hf4; have v4 : w3.heap.size < w4.heap.size := (by simp at z4; omega); have u4 : w2.heap.size < w4.heap.size := (by omega); have y4 : w.heap.size + 2 < w4.heap.size := (by omega); have H4 := Aside0.mk (below_trans (below_alloc H3.out _) b4); clear b4 z4
        go_wp2
        refine bodyPost_ret (v := wV (some (fr t.1 t.2.1 t.2.2))) (by simp [results, Tryd.results73, go_sem, wV, hc4, hc3, hc2, hc1, y1, y2, y3, y4, x1, x2, x3, v2, v3, u3, v4, u4]) rfl ⟨rfl, ?_⟩
        repeat first | exact H4.out | refine below_set ?_ (by omega) | refine below_alloc ?_ _
end Go.Proofs.YtplpmndchdockaaDoor.M
