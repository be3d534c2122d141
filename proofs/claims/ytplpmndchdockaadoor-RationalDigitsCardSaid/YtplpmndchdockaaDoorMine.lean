/- Words beside the print's: make with a capacity of its own (R_makecap); a part of a row that is handed to what writes it (Sg). -/
import Derived.Test.YtplpmndchdockaaDoorVMore
namespace Go.Proofs.YtplpmndchdockaaDoorV.PrintWords
open Go.RowKit
namespace Kd
section
variable {P : Program} {Q : Exit → Act → World → Prop} {ops : Array Oper} {o : Oper} {rest : List Oper} {a : Act}
variable {α : Type}
/-- make([]T, n, c). -/
theorem R_makecap (d : Kd α) {w0 W : World} (base e : Nat) (hgd : o.guard = none) {N : Tmp} (_hd : o.dst = some N) (t : TypeId) (x y : Operand) (ho : o.op = .makeSlice t x y) (n c : Int) (hx : a.eval x = .int .i64 n) (hy : a.eval y = .int .i64 c)
    (ht : P.underlying t = some (.slice e)) (z : Value) (bytes : Nat) (hinfo : (P.info? e).map (fun i => (i.zero, i.size, i.bytes)) = some (some z, d.sz, bytes)) (hz : z.cells.size = d.sz) (hs0 : 0 < d.sz) (hb0 : 0 < bytes)
    (z0 : α) {ok okp : Nat → Prop} (hzero : d.M W base okp z0 z.cells.toList) (hok : ∀ k, okp k → ok k) (hfresh : ok W.heap.size) (h0 : 0 ≤ n) (hnc : n ≤ c) (hl : c.toNat * bytes ≤ 281474976710656) (HB : Below base w0 W) (hbase : base ≤ W.heap.size)
    (h : ∀ v1 w1, d.R e w1 base ok v1 (List.replicate n.toNat z0) → Below base w0 w1 → W.grownBy w1 none → (∃ b, v1.ownBlock = some b ∧ W.heap.size ≤ b) → wpList P ops Q rest (a.put o.dst v1) w1) : wpList P ops Q (o :: rest) a W := by
  obtain ⟨m, rfl⟩ := Int.eq_ofNat_of_zero_le h0
  obtain ⟨q, rfl⟩ := Int.eq_ofNat_of_zero_le (Int.le_trans h0 hnc)
  simp only [Int.toNat_natCast] at hl h
  obtain ⟨i0, hi, hzz⟩ := Option.map_eq_some_iff.1 hinfo
  simp only [Prod.mk.injEq] at hzz
  obtain ⟨hz0, hz1, hz2⟩ := hzz
  have hm : q ≤ 281474976710656 := Nat.le_trans (Nat.le_mul_of_pos_right _ hb0) hl
  have hr := run_make (P := P) W t e i0 z ht hi hz0 .i64 .i64 (m : Int) (q : Int) (by omega) hnc
    (by
      have h3 : ((i0.bytes * q : Nat) : Int) ≤ 281474976710656 := by rw [hz2, Nat.mul_comm]; omega
      rwa [Int.natCast_mul] at h3) (by omega)
  simp only [Int.toNat_natCast] at hr
  rw [hz1] at hr
  have hrep : Reps (d.M W base okp) d.sz (List.replicate q z0) (madeCells z.cells (q * d.sz)).toList := reps_made hz hs0 hzero q
  have full : d.R e (W.alloc (.cells (madeCells z.cells (q * d.sz)) e)) base ok (.slice (some ⟨W.heap.size, 0, none⟩) q q) (List.replicate q z0) := by
    refine ⟨fun k hk => ?_, (madeCells z.cells (q * d.sz)).toList, ?_, ?_⟩
    · have : W.heap.size = k := by simpa [Value.ownBlock] using hk
      subst this
      exact hfresh
    · have h2 := World.ownsRow_lit (base := base) (e := e) (size := d.sz) W (madeCells z.cells (q * d.sz)) q hbase (by simp only [maxLen]; omega) (by simpa using hrep.1)
      simpa using h2
    · refine hrep.imp_ (fun p c hp => d.M_mono (fun k hk => ⟨hok k hk.1, fun he => ?_⟩) (M_below (d.M_bound hp) (below_alloc (Below.refl _ _) _)))
      have h3 : k = W.heap.size := by simpa [Value.ownBlock] using he
      have := hk.2.2.1
      omega
  refine event_run hgd (v := .slice (some ⟨W.heap.size, 0, none⟩) m q) (w1 := W.alloc (.cells (madeCells z.cells (q * d.sz)) e)) ?_ (h _ _ ?_ (HB.alloc hbase _) (World.grownBy_alloc W _ none) ⟨W.heap.size, by simp [Value.ownBlock], Nat.le_refl _⟩)
  · simp [execOp, ho, hx, hy, hr]
  · have := R_take full (m := m) (by simp; omega)
    rw [List.take_replicate, Nat.min_eq_left (by omega)] at this
    exact this
end
end Kd
namespace Kd
/-- A part of a row of u32 (that row: block g, N long, room for cap), between pre and post. -/
structure Pa where
  g : Nat
  N : Nat
  cap : Nat
  pre : List Int
  post : List Int
/-- What is told of the part: the whole row is one of the call's own. -/
def Sg (A : Pa) (e : Nat) (w : World) (base : Nat) (ok : Nat → Prop) (v : Value) (xs : List Int) : Prop :=
  (∀ k, v.ownBlock = some k → ok k) ∧ 0 < xs.length ∧ (∃ c, v = .slice (some ⟨A.g, A.pre.length, none⟩) xs.length c ∧ xs.length ≤ c) ∧
  (int .u32).R e w base ok (.slice (some ⟨A.g, 0, none⟩) A.N A.cap) (A.pre ++ (xs ++ A.post))
section
variable {S : Pa} {e : Nat} {w w1 W : World} {base : Nat} {ok ok' : Nat → Prop} {v : Value} {xs : List Int}
theorem Sg_mono (h : Sg S e w base ok v xs) (hok : ∀ k, ok k → ok' k) : Sg S e w base ok' v xs := ⟨fun k hk => hok k (h.1 k hk), h.2.1, h.2.2.1, R_mono h.2.2.2 hok⟩
theorem Sg_alloc (h : Sg S e w base ok v xs) (o : Obj) : Sg S e (w.alloc o) base ok v xs := ⟨h.1, h.2.1, h.2.2.1, R_alloc h.2.2.2 o⟩
theorem Sg_drew (h : Sg S e w base ok v xs) : Sg S e w.drew base ok v xs := ⟨h.1, h.2.1, h.2.2.1, R_drew h.2.2.2⟩
theorem Sg_drewN (h : Sg S e w base ok v xs) (m : Nat) : Sg S e (w.drewN m) base ok v xs := ⟨h.1, h.2.1, h.2.2.1, R_drewN h.2.2.2 m⟩
theorem Sg_slice (h : Sg S e w base ok v xs) : ∃ A c, v = .slice A xs.length c ∧ xs.length ≤ c := by
  obtain ⟨c, h1, h2⟩ := h.2.2.1
  exact ⟨_, c, h1, h2⟩
theorem Sg_C (h : (int .u32).R e w base ok (.slice (some ⟨S.g, 0, none⟩) S.N S.cap) (S.pre ++ (xs ++ S.post))) (hp : 0 < xs.length) : (int .u32).C w (some ⟨S.g, S.pre.length, none⟩) xs.length xs := by
  obtain ⟨h1, h2, h3⟩ := R_reads' h
  have hl : (S.pre ++ (xs ++ S.post)).length = S.pre.length + (xs.length + S.post.length) := by simp
  have := C_mid (lo := S.pre.length) (hi := S.pre.length + xs.length) h3 (by omega) (by omega) (Nat.le_refl _)
  rw [if_neg (by omega)] at this
  rw [show (S.pre ++ (xs ++ S.post)).take (S.pre.length + xs.length) = S.pre ++ xs by rw [List.take_append, List.take_of_length_le (by omega), Nat.add_sub_cancel_left, List.take_append, List.take_of_length_le (Nat.le_refl _)]; simp, List.drop_append_of_le_length (Nat.le_refl _), List.drop_length, List.nil_append] at this
  have e : ∀ m : Nat, (⟨S.g, 0, none⟩ : Addr).add (m * (int .u32).sz) = ⟨S.g, m, none⟩ := fun m => by cases m <;> simp [Addr.add, int, scalar]
  rw [Option.map_some, e] at this
  exact this
theorem Sg_reads' {A : Option Addr} {n c : Nat} (h : Sg S e w base ok (.slice A n c) xs) : n = xs.length ∧ n ≤ c ∧ (int .u32).C w A xs.length xs := by
  obtain ⟨h0, hp, ⟨c', h1, h2⟩, h3⟩ := h
  injection h1 with ha hn hc
  subst ha; subst hn; subst hc
  exact ⟨rfl, h2, Sg_C h3 hp⟩
theorem Sg_form (h : Sg S e w base ok v xs) (_hp : 0 < xs.length) : ∃ g o cap, v = .slice (some ⟨g, o, none⟩) xs.length cap ∧ base ≤ g ∧ g < w.heap.size ∧ ∃ cells, w.heap[g]? = some (.cells cells e (0, 0)) := by
  obtain ⟨h0, hp, ⟨c', h1, h2⟩, h3⟩ := h
  obtain ⟨g, cap, he, hb, hl, cells, hc⟩ := R_form h3 (by simp; omega)
  injection he with ha _ _
  injection ha with ha
  injection ha with ha _ _
  exact ⟨S.g, _, c', h1, by rw [ha]; exact hb, by rw [ha]; exact hl, cells, by rw [ha]; exact hc⟩
theorem Sg_cell {g o n cap : Nat} (d : Int) (h : Sg S e W base ok (.slice (some ⟨g, o, none⟩) n cap) xs) (i : Int) (h0 : 0 ≤ i) (hi : i < n) : W.cell? ⟨g, o + i.toNat, none⟩ = some (.int .u32 (rdOf d xs i)) ∧ W.frozen? ⟨g, o + i.toNat, none⟩ = false := by
  obtain ⟨_, hp, ⟨c', h1, h2⟩, h3⟩ := h
  injection h1 with ha hn hc
  injection ha with ha
  injection ha with ha ho _
  subst ha; subst hn; subst hc; subst ho
  obtain ⟨i, rfl⟩ := Int.eq_ofNat_of_zero_le h0
  have hN := (R_reads' h3).1
  have hl : (S.pre ++ (xs ++ S.post)).length = S.pre.length + (xs.length + S.post.length) := by simp
  obtain ⟨h4, h5⟩ := R_celln d h3 ((S.pre.length + i : Nat) : Int) (by omega) (by omega)
  rw [Int.toNat_natCast] at h4 h5 ⊢
  refine ⟨?_, h5⟩
  rw [h4]
  congr 2
  simp only [rdOf, Int.toNat_natCast, List.getD_eq_getElem?_getD]
  rw [List.getElem?_append_right (by omega), Nat.add_sub_cancel_left, List.getElem?_append_left (by omega)]
theorem Sg_putg {g o n cap : Nat} (h : Sg S e W base ok (.slice (some ⟨g, o, none⟩) n cap) xs) (i : Int) (h0 : 0 ≤ i) (hi : i < n) (x : Int) : Sg S e (W.setCell ⟨g, o + i.toNat, none⟩ (.int .u32 x)) base ok (.slice (some ⟨g, o, none⟩) n cap) (xs.set i.toNat x) ∧ W.grownBy (W.setCell ⟨g, o + i.toNat, none⟩ (.int .u32 x)) (some g) := by
  obtain ⟨hk, hp, ⟨c', h1, h2⟩, h3⟩ := h
  injection h1 with ha hn hc
  injection ha with ha
  injection ha with ha ho _
  subst ha; subst hn; subst hc; subst ho
  obtain ⟨i, rfl⟩ := Int.eq_ofNat_of_zero_le h0
  have := R_putg h3 ((S.pre.length + i : Nat) : Int) x
  simp only [Int.toNat_natCast] at this ⊢
  rw [List.set_append_right _ _ (by omega), Nat.add_sub_cancel_left, List.set_append_left _ _ (by omega)] at this
  exact ⟨⟨hk, by simpa using hp, ⟨_, by rw [List.length_set], by simpa using h2⟩, this.1⟩, this.2⟩
end
end Kd
end Go.Proofs.YtplpmndchdockaaDoorV.PrintWords
