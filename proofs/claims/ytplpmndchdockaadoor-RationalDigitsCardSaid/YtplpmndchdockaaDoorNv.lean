import Derived.Test.YtplpmndchdockaaDoorVMore
import Derived.Test.YtplpmndchdockaaDoorBound
import Derived.Test.YtplpmndchdockaaDoorEvs
/-! Numbers in memory: a slice of digits. -/
namespace Go.Proofs.YtplpmndchdockaaDoor.M
open Go Go.RowKit Go.Proofs.YtplpmndchdockaaDoorV.PrintWords
set_option autoImplicit false
set_option linter.unusedVariables false

/-- The slice v reads as the digits of n to the base B; what it stands on are blocks from lo on. -/
def Nf (B lo : Nat) (w : World) (v : Value) (n : Nat) : Prop := ∃ A c L, v = .slice A L c ∧ L ≤ c ∧ L = (digs B n).length ∧ Kd.F (Kd.int .u32) w (fun k => lo ≤ k) A L (digs B n)
/-- The slice v reads as the digits of n to the base B. -/
abbrev Nv (B : Nat) (w : World) (v : Value) (n : Nat) : Prop := Nf B 0 w v n
section
variable {B lo : Nat} {w w1 : World} {v : Value} {n : Nat}
theorem Nf.below (h : Nf B lo w v n) (hb : Below w.heap.size w w1) : Nf B lo w1 v n := by
  obtain ⟨A, c, L, e, hl, hL, hC⟩ := h
  exact ⟨A, c, L, e, hl, hL, Kd.F_below hC hb⟩
theorem Nf.low {lo' : Nat} (h : Nf B lo w v n) (hl : lo' ≤ lo) : Nf B lo' w v n := by
  obtain ⟨A, c, L, e, h1, hL, hC⟩ := h
  exact ⟨A, c, L, e, h1, hL, Kd.F_mono hC (fun k hk => Nat.le_trans hl hk)⟩
theorem Nf.toNv (h : Nf B lo w v n) : Nv B w v n := h.low (Nat.zero_le _)
theorem Nf.set (h : Nf B lo w v n) {p : Addr} (hp : p.block < lo) (u : Value) : Nf B lo (w.setCell p u) v n := by
  obtain ⟨A, c, L, e, h1, hL, hC⟩ := h
  exact ⟨A, c, L, e, h1, hL, Kd.F_far hC (fun k hk => by omega) u⟩
theorem Nf.drew (h : Nf B lo w v n) : Nf B lo w.drew v n := h.below (below_drew (Below.refl _ _))
theorem Nf.drewN (h : Nf B lo w v n) (k : Nat) : Nf B lo (w.drewN k) v n := h.below (pw_below_drewN (Below.refl _ _) k)
theorem Nf.alloc (h : Nf B lo w v n) (o : Obj) : Nf B lo (w.alloc o) v n := h.below (below_alloc (Below.refl _ _) o)
theorem Nf.ofV {e b : Nat} {ok : Nat → Prop} (h : Kd.V (Kd.int .u32) e w b ok v (digs B n)) (hok : ∀ k, ok k → lo ≤ k) : Nf B lo w v n := by
  obtain ⟨A, c, rfl, hl, hF⟩ := h
  exact ⟨A, c, _, rfl, hl, rfl, Kd.F_mono hF hok⟩
theorem Nf.ofR {e b : Nat} {ok : Nat → Prop} (h : Kd.R (Kd.int .u32) e w b ok v (digs B n)) (hl : lo ≤ b) : Nf B lo w v n := Nf.ofV (e := e) (b := b) (Kd.R_V (Kd.R_bound h)) (fun k hk => Nat.le_trans hl hk.2.1)
theorem Nf.nil (B lo : Nat) (w : World) : Nf B lo w (.slice none 0 0) 0 := by
  have := Kd.V_nil (Kd.int .u32) 0 w 0 (fun k => lo ≤ k)
  rw [← digs_zero B] at this
  exact Nf.ofV this (fun k h => h)
theorem Nv.nil (B : Nat) (w : World) : Nv B w (.slice none 0 0) 0 := by
  have := Kd.V_nil (Kd.int .u32) 0 w 0 (fun _ => True)
  rw [← digs_zero B] at this
  exact Nf.ofV this (fun k _ => Nat.zero_le k)
end
section
variable {B lo : Nat} {w : World} {A : Option Addr} {L c n : Nat}
theorem Nf.len (h : Nf B lo w (.slice A L c) n) : L = (digs B n).length := by
  obtain ⟨A', c', L', e, hl, hL, hC⟩ := h
  injection e with _ e _
  rw [e, hL]
theorem Nf.cap (h : Nf B lo w (.slice A L c) n) : (digs B n).length ≤ c := by
  obtain ⟨A', c', L', e, hl, hL, hC⟩ := h
  injection e with _ e e2
  omega
theorem Nf.F (h : Nf B lo w (.slice A L c) n) : Kd.F (Kd.int .u32) w (fun k => lo ≤ k) A (digs B n).length (digs B n) := by
  obtain ⟨A', c', L', e, hl, hL, hC⟩ := h
  injection e with e1 e e2
  subst e1
  rw [hL] at hC; exact hC
theorem Nf.C (h : Nf B lo w (.slice A L c) n) : Kd.C (Kd.int .u32) w A (digs B n).length (digs B n) := Kd.F_now h.F
theorem Nf.V {e b : Nat} (h : Nf B lo w (.slice A L c) n) : Kd.V (Kd.int .u32) e w b (fun k => lo ≤ k) (.slice A (digs B n).length c) (digs B n) := Kd.V_mk h.cap h.F
theorem Nf.zero_iff (h : Nf B lo w (.slice A L c) n) (hB : 2 ≤ B) : 0 < L ↔ n ≠ 0 := by
  rw [h.len]
  have := digs_nil hB n
  rw [← List.length_eq_zero_iff] at this
  omega
end
/-- A new row of the one digit 1. -/
theorem Nf.one {B g : Nat} {w : World} {e : TypeId} (hB : 2 ≤ B) (h : w.heap[g]? = some (.cells #[.int .u32 1] e (0, 0))) : Nf B g w (.slice (some ⟨g, 0, none⟩) 1 1) 1 := by
  have hd : digs B 1 = [1] := by rw [digs_pos hB (by decide), Nat.mod_eq_of_lt (by omega), Nat.div_eq_of_lt (by omega), digs_zero]; rfl
  refine ⟨_, _, 1, rfl, Nat.le_refl _, by rw [hd]; rfl, ?_⟩
  rw [hd]
  intro W' hW
  have h2 : W'.heap[g]? = some (.cells #[.int .u32 1] e (0, 0)) := (hW g (Nat.le_refl _) (blk_lt h)).trans h
  refine ⟨rfl, by decide, fun _ => ⟨⟨g, 0, none⟩, rfl, fun j p hj => ?_⟩⟩
  cases j with
  | succ j => simp at hj
  | zero =>
    simp only [List.getElem?_cons_zero, Option.some.injEq] at hj
    subst hj
    refine ⟨[.int .u32 1], rfl, rfl, fun i u hu => ?_⟩
    cases i with
    | succ i => simp at hu
    | zero =>
      simp only [List.getElem?_cons_zero, Option.some.injEq] at hu
      subst hu
      rw [add_plain, blk_cell h2]; rfl
/-- A call that hands back a number (of blocks from lo on). -/
def RetN (B lo n : Nat) (w : World) (e : Ending) (w' : World) : Prop := ∃ A L c, e = .returned (.slice A L c) ∧ Nf B lo w' (.slice A L c) n ∧ Below w.heap.size w w'
theorem RetN.of {B lo n : Nat} {w w' : World} {e : Ending} {v : Value} (he : e = .returned v) (hv : Nf B lo w' v n) (hb : Below w.heap.size w w') : RetN B lo n w e w' := by
  obtain ⟨A, c, L, e', h⟩ := hv
  subst e'
  exact ⟨A, L, c, he, ⟨A, c, L, rfl, h⟩, hb⟩
/-- Two numbers; the first of new blocks. -/
def RetN2 (B lo n m : Nat) (w : World) (e : Ending) (w' : World) : Prop := ∃ A L c A' L' c', e = .returned (.tuple #[.slice A L c, .slice A' L' c']) ∧ Nf B lo w' (.slice A L c) n ∧ Nv B w' (.slice A' L' c') m ∧ Below w.heap.size w w'
theorem RetN2.of {B lo n m : Nat} {w w' : World} {e : Ending} {v u : Value} (he : e = .returned (.tuple #[v, u])) (hv : Nf B lo w' v n) (hu : Nv B w' u m) (hb : Below w.heap.size w w') : RetN2 B lo n m w e w' := by
  obtain ⟨A, c, L, e', h⟩ := hv
  obtain ⟨A', c', L', e'', h'⟩ := hu
  subst e'; subst e''
  exact ⟨A, L, c, A', L', c', he, ⟨A, c, L, rfl, h⟩, ⟨A', c', L', rfl, h'⟩, hb⟩
theorem below_trans {w w1 w2 : World} (h : Below w.heap.size w w1) (k : Below w1.heap.size w1 w2) : Below w.heap.size w w2 := below_then h h.size k

/-- Bytes out of numbers. -/
def bs (l : List Int) : ByteArray := ⟨(l.map fun x => UInt8.ofNat x.toNat).toArray⟩
/-- Numbers out of bytes. -/
def cs (s : ByteArray) : List Int := s.data.toList.map fun b => (b.toNat : Int)
theorem bs_size (l : List Int) : (bs l).size = l.length := by rw [bs]; show (List.toArray _).size = _; rw [List.size_toArray, List.length_map]
theorem cs_length (s : ByteArray) : (cs s).length = s.size := by rw [cs, List.length_map, Array.length_toList]; rfl
theorem bs_cs (s : ByteArray) : bs (cs s) = s := by
  unfold bs cs
  simp only [List.map_map]
  have : (fun x : Int => UInt8.ofNat x.toNat) ∘ (fun b : UInt8 => ((b.toNat : Nat) : Int)) = id := by funext b; simp only [Function.comp, Int.toNat_natCast, id, UInt8.ofNat_toNat]
  rw [this]; simp
theorem cs_bs {l : List Int} (h : ∀ x ∈ l, 0 ≤ x ∧ x < 256) : cs (bs l) = l := by
  unfold bs cs
  simp only [List.map_map]
  have : ∀ x ∈ l, ((fun b : UInt8 => ((b.toNat : Nat) : Int)) ∘ fun x : Int => UInt8.ofNat x.toNat) x = x := by
    intro x hx
    have := h x hx
    simp only [Function.comp, UInt8.toNat_ofNat']
    omega
  rw [List.map_congr_left this]; simp
theorem cs_inj {s t : ByteArray} (h : cs s = cs t) : s = t := by rw [← bs_cs s, h, bs_cs]
theorem cs_bound (s : ByteArray) : ∀ x ∈ cs s, 0 ≤ x ∧ x < 256 := by
  intro x hx
  unfold cs at hx
  rw [List.mem_map] at hx
  obtain ⟨b, _, rfl⟩ := hx
  have := b.toNat_lt; omega
theorem bs_append (l m : List Int) : bs l ++ bs m = bs (l ++ m) := by
  apply ByteArray.ext
  simp [bs]
theorem tx_byte (n : Nat) : ∀ x ∈ tx n, 0 ≤ x ∧ x < 256 := fun x hx => by have := (isDec_tx n).dig x hx; omega
theorem numTx_byte (q : Rat) : ∀ x ∈ numTx q, 0 ≤ x ∧ x < 256 := fun x hx => by
  unfold numTx at hx
  split at hx
  · rcases List.mem_cons.mp hx with rfl | hx
    · omega
    · exact tx_byte _ x hx
  · exact tx_byte _ x hx

/-! ### The results, as values -/
def bN (q : Rat) : ByteArray := bs (numTx q)
def bD (q : Rat) : ByteArray := bs (denTx q)
def rV (q : Rat) : Value := .agg #[.string (bN q), .string (bD q)]
def r0 : Value := .agg #[.string ⟨#[]⟩, .string ⟨#[]⟩]
/-- A result, where there is room. -/
def okQ (q : Rat) : Bool := decide (q.num.natAbs < 10 ^ MD) && decide (q.den < 10 ^ MD)
theorem okQ_iff (q : Rat) : okQ q = true ↔ Fits q := by simp [okQ, Fits]
def wN (o : Option Rat) : ByteArray := match o with | some q => if okQ q then bN q else ⟨#[]⟩ | none => ⟨#[]⟩
def wD (o : Option Rat) : ByteArray := match o with | some q => if okQ q then bD q else ⟨#[]⟩ | none => ⟨#[]⟩
def wO (o : Option Rat) : Bool := match o with | some q => okQ q | none => false
def wV (o : Option Rat) : Value := .tuple #[.agg #[.string (wN o), .string (wD o)], .bool (wO o)]

/-! ### Behind a call -/
theorem bcell {W w1 : World} (hb : Below W.heap.size W w1) : (∀ b o, b < W.heap.size → w1.cell? ⟨b, o, none⟩ = W.cell? ⟨b, o, none⟩) ∧ (∀ b o, b < W.heap.size → w1.frozen? ⟨b, o, none⟩ = W.frozen? ⟨b, o, none⟩) :=
  ⟨fun b o h => hb.cell (p := ⟨b, o, none⟩) h, fun b o h => hb.frozen (p := ⟨b, o, none⟩) h⟩
theorem cell_far {w : World} {p q : Addr} {u v : Value} (h : w.cell? q = some v) (hp : p.block ≠ q.block) : (w.setCell p u).cell? q = some v := (World.cell?_of_block (Below.heap_setCell w p u q.block (fun e => hp e.symm))).trans h
theorem cell_alloc {w : World} {q : Addr} {v : Value} (h : w.cell? q = some v) (o : Obj) : (w.alloc o).cell? q = some v := pw_cell_below (below_alloc (Below.refl _ _) o) h
theorem after {P : Program} {f : FuncId} {args : Array Value} {W : World} {B lo n : Nat} {Q : Ending → World → Prop} (h : Calls P f args W (RetN B lo n W))
    (k : ∀ A L c w1, Nf B lo w1 (.slice A L c) n → Below W.heap.size W w1 → W.heap.size ≤ w1.heap.size → (∀ b o, b < W.heap.size → w1.cell? ⟨b, o, none⟩ = W.cell? ⟨b, o, none⟩) → (∀ b o, b < W.heap.size → w1.frozen? ⟨b, o, none⟩ = W.frozen? ⟨b, o, none⟩) → Q (.returned (.slice A L c)) w1) : Calls P f args W Q :=
  h.mono fun e w1 ⟨A, L, c, he, hN, hb⟩ => by subst he; exact k A L c w1 hN hb hb.size (bcell hb).1 (bcell hb).2
theorem after2 {P : Program} {f : FuncId} {args : Array Value} {W : World} {B lo n m : Nat} {Q : Ending → World → Prop} (h : Calls P f args W (RetN2 B lo n m W))
    (k : ∀ A L c A' L' c' w1, Nf B lo w1 (.slice A L c) n → Nv B w1 (.slice A' L' c') m → Below W.heap.size W w1 → W.heap.size ≤ w1.heap.size → (∀ b o, b < W.heap.size → w1.cell? ⟨b, o, none⟩ = W.cell? ⟨b, o, none⟩) → (∀ b o, b < W.heap.size → w1.frozen? ⟨b, o, none⟩ = W.frozen? ⟨b, o, none⟩) → Q (.returned (.tuple #[.slice A L c, .slice A' L' c'])) w1) : Calls P f args W Q :=
  h.mono fun e w1 ⟨A, L, c, A', L', c', he, hN, hM, hb⟩ => by subst he; exact k A L c A' L' c' w1 hN hM hb hb.size (bcell hb).1 (bcell hb).2
theorem afterV {P : Program} {f : FuncId} {args : Array Value} {W : World} {v : Value} {Q : Ending → World → Prop} (h : Calls P f args W fun e w' => e = .returned v ∧ Below W.heap.size W w')
    (k : ∀ w1, Below W.heap.size W w1 → W.heap.size ≤ w1.heap.size → (∀ b o, b < W.heap.size → w1.cell? ⟨b, o, none⟩ = W.cell? ⟨b, o, none⟩) → (∀ b o, b < W.heap.size → w1.frozen? ⟨b, o, none⟩ = W.frozen? ⟨b, o, none⟩) → Q (.returned v) w1) : Calls P f args W Q :=
  h.mono fun e w1 ⟨he, hb⟩ => by subst he; exact k w1 hb hb.size (bcell hb).1 (bcell hb).2
theorem afterW {P : Program} {f : FuncId} {args : Array Value} {W : World} {o : Option Rat} {Q : Ending → World → Prop} (h : Calls P f args W fun e w' => e = .returned (wV o) ∧ Below W.heap.size W w')
    (k : ∀ w1, Below W.heap.size W w1 → W.heap.size ≤ w1.heap.size → (∀ b o, b < W.heap.size → w1.cell? ⟨b, o, none⟩ = W.cell? ⟨b, o, none⟩) → (∀ b o, b < W.heap.size → w1.frozen? ⟨b, o, none⟩ = W.frozen? ⟨b, o, none⟩) → Q (.returned (.tuple #[.agg #[.string (wN o), .string (wD o)], .bool (wO o)])) w1) : Calls P f args W Q := afterV h k
theorem afterQ {P : Program} {f : FuncId} {args : Array Value} {W : World} {v : Value} {Q : Ending → World → Prop} (h : Calls P f args W fun e w' => e = .returned v ∧ ∃ q, w' = W.drewN q)
    (k : ∀ w1, Below W.heap.size W w1 → W.heap.size ≤ w1.heap.size → (∀ b o, b < W.heap.size → w1.cell? ⟨b, o, none⟩ = W.cell? ⟨b, o, none⟩) → (∀ b o, b < W.heap.size → w1.frozen? ⟨b, o, none⟩ = W.frozen? ⟨b, o, none⟩) → Q (.returned v) w1) : Calls P f args W Q :=
  afterV (h.mono fun e w1 ⟨he, q, hb⟩ => ⟨he, by subst hb; exact pw_below_drewN (Below.refl _ _) q⟩) k

end Go.Proofs.YtplpmndchdockaaDoor.M
