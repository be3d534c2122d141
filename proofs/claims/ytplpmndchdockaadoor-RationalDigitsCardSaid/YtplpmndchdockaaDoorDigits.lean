/-! Digit lists, and their values. -/
namespace Go.Proofs.YtplpmndchdockaaDoor.M
set_option autoImplicit false

def vI (B : Int) : List Int → Int
  | [] => 0
  | x :: l => x + B * vI B l

def Dg (B : Int) (l : List Int) : Prop := ∀ x ∈ l, 0 ≤ x ∧ x < B

theorem Dg.nil {B : Int} : Dg B [] := by intro x h; cases h
theorem Dg.cons {B x : Int} {l : List Int} (h : 0 ≤ x ∧ x < B) (hl : Dg B l) : Dg B (x :: l) := by
  intro y hy; rcases List.mem_cons.mp hy with rfl | hy
  · exact h
  · exact hl y hy
theorem Dg.head {B x : Int} {l : List Int} (h : Dg B (x :: l)) : 0 ≤ x ∧ x < B := h x (by simp)
theorem Dg.tail {B x : Int} {l : List Int} (h : Dg B (x :: l)) : Dg B l := fun y hy => h y (by simp [hy])
theorem Dg.append {B : Int} {l m : List Int} (h : Dg B l) (g : Dg B m) : Dg B (l ++ m) := by
  intro x hx; rcases List.mem_append.mp hx with hx | hx
  · exact h x hx
  · exact g x hx
theorem Dg.left {B : Int} {l m : List Int} (h : Dg B (l ++ m)) : Dg B l := fun x hx => h x (by simp [hx])
theorem Dg.right {B : Int} {l m : List Int} (h : Dg B (l ++ m)) : Dg B m := fun x hx => h x (by simp [hx])
theorem Dg.take {B : Int} {l : List Int} (h : Dg B l) (n : Nat) : Dg B (l.take n) := fun x hx => h x (List.mem_of_mem_take hx)
theorem Dg.drop {B : Int} {l : List Int} (h : Dg B l) (n : Nat) : Dg B (l.drop n) := fun x hx => h x (List.mem_of_mem_drop hx)
theorem Dg.set {B x : Int} {l : List Int} (h : Dg B l) (n : Nat) (hx : 0 ≤ x ∧ x < B) : Dg B (l.set n x) := by
  intro y hy; rcases List.mem_or_eq_of_mem_set hy with hy | rfl
  · exact h y hy
  · exact hx
theorem Dg.get {B : Int} {l : List Int} (h : Dg B l) (hB : 0 < B) (n : Nat) : 0 ≤ l.getD n 0 ∧ l.getD n 0 < B := by
  rw [List.getD_eq_getElem?_getD]
  cases e : l[n]? with
  | none => simp; exact hB
  | some y => exact h y (List.mem_of_getElem? e)
theorem Dg.replicate {B : Int} (hB : 0 < B) (n : Nat) : Dg B (List.replicate n 0) := by
  intro x hx; rw [List.eq_of_mem_replicate hx]; exact ⟨Int.le_refl _, hB⟩

theorem vI_nil (B : Int) : vI B [] = 0 := rfl
theorem vI_cons (B x : Int) (l : List Int) : vI B (x :: l) = x + B * vI B l := rfl
theorem vI_append (B : Int) (l m : List Int) : vI B (l ++ m) = vI B l + B ^ l.length * vI B m := by
  induction l with
  | nil => simp [vI]
  | cons x l ih => simp only [List.cons_append, vI, ih, List.length_cons]; grind
theorem vI_replicate (B : Int) (n : Nat) : vI B (List.replicate n 0) = 0 := by
  induction n with
  | zero => rfl
  | succ n ih => rw [List.replicate_succ, vI, ih]; simp
theorem vI_nonneg {B : Int} {l : List Int} (hB : 0 < B) (h : Dg B l) : 0 ≤ vI B l := by
  induction l with
  | nil => exact Int.le_refl _
  | cons x l ih =>
    have := ih h.tail; have h0 := h.head
    have := Int.mul_nonneg (Int.le_of_lt hB) this
    simp only [vI]; omega
theorem pow_pos' {B : Int} (hB : 0 < B) (n : Nat) : 0 < B ^ n := Int.pow_pos hB
theorem vI_lt {B : Int} {l : List Int} (hB : 0 < B) (h : Dg B l) : vI B l < B ^ l.length := by
  induction l with
  | nil => simp [vI]
  | cons x l ih =>
    have h1 := ih h.tail; have h0 := h.head
    have h2 : B * (vI B l + 1) ≤ B * B ^ l.length := Int.mul_le_mul_of_nonneg_left (by omega) (Int.le_of_lt hB)
    simp only [vI, List.length_cons, Int.pow_succ]
    grind
theorem vI_split (B : Int) (l : List Int) (n : Nat) (h : n ≤ l.length) : vI B l = vI B (l.take n) + B ^ n * vI B (l.drop n) := by
  have e := vI_append B (l.take n) (l.drop n)
  rw [List.take_append_drop, List.length_take, Nat.min_eq_left h] at e; exact e
theorem take_snoc (l : List Int) (n : Nat) (h : n < l.length) : l.take (n + 1) = l.take n ++ [l.getD n 0] := by
  rw [List.take_succ_eq_append_getElem h]; simp [List.getD_eq_getElem?_getD, h]
theorem drop_cons' (l : List Int) (n : Nat) (h : n < l.length) : l.drop n = l.getD n 0 :: l.drop (n + 1) := by
  rw [List.drop_eq_getElem_cons h]; simp [List.getD_eq_getElem?_getD, h]
theorem vI_take_succ (B : Int) (l : List Int) (n : Nat) (h : n < l.length) : vI B (l.take (n + 1)) = vI B (l.take n) + B ^ n * l.getD n 0 := by
  rw [take_snoc l n h, vI_append, List.length_take, Nat.min_eq_left (by omega)]; simp [vI]
theorem vI_drop_succ (B : Int) (l : List Int) (n : Nat) (h : n < l.length) : vI B (l.drop n) = l.getD n 0 + B * vI B (l.drop (n + 1)) := by
  rw [drop_cons' l n h, vI]
theorem vI_set (B x : Int) (l : List Int) (n : Nat) (h : n < l.length) : vI B (l.set n x) = vI B l + B ^ n * (x - l.getD n 0) := by
  induction l generalizing n with
  | nil => simp at h
  | cons y l ih =>
    cases n with
    | zero => simp [vI]; omega
    | succ n =>
      simp only [List.set_cons_succ, vI, List.getD_cons_succ]
      rw [ih n (by simpa using h)]; grind

/-- No leading zero. -/
def Nm (l : List Int) : Prop := ∀ h : l ≠ [], l.getLast h ≠ 0
theorem Nm.nil : Nm [] := fun h => absurd rfl h
theorem Nm_snoc {l : List Int} {x : Int} : Nm (l ++ [x]) ↔ x ≠ 0 := by
  constructor
  · intro h; have := h (by simp); simpa using this
  · intro h _; simpa using h
theorem Nm.tail {x : Int} {l : List Int} (h : Nm (x :: l)) : Nm l := by
  intro hl; have := h (by simp); rwa [List.getLast_cons hl] at this
theorem Nm.low {B : Int} {l : List Int} (hB : 0 < B) (hd : Dg B l) (h : Nm l) (hl : l ≠ []) : B ^ (l.length - 1) ≤ vI B l := by
  obtain ⟨m, x, rfl⟩ : ∃ m x, l = m ++ [x] := ⟨l.dropLast, l.getLast hl, (List.dropLast_concat_getLast hl).symm⟩
  rw [Nm_snoc] at h
  have h0 := vI_nonneg hB hd.left
  have hx := hd.right x (by simp)
  have : B ^ m.length * 1 ≤ B ^ m.length * x := Int.mul_le_mul_of_nonneg_left (by omega) (Int.le_of_lt (pow_pos' hB _))
  rw [vI_append]; simp only [vI, List.length_append, List.length_cons, List.length_nil]
  simp only [Nat.zero_add, Nat.add_sub_cancel, Int.mul_zero, Int.add_zero]
  omega
theorem Nm.pos {B : Int} {l : List Int} (hB : 0 < B) (hd : Dg B l) (h : Nm l) (hl : l ≠ []) : 0 < vI B l :=
  Int.lt_of_lt_of_le (pow_pos' hB _) (h.low hB hd hl)
theorem Nm.zero {B : Int} {l : List Int} (hB : 0 < B) (hd : Dg B l) (h : Nm l) : vI B l = 0 ↔ l = [] := by
  constructor
  · intro h0; by_cases hl : l = []
    · exact hl
    · have := h.pos hB hd hl; omega
  · rintro rfl; rfl
theorem vI_inj {B : Int} (hB : 0 < B) : ∀ {a b : List Int}, Dg B a → Dg B b → Nm a → Nm b → vI B a = vI B b → a = b
  | [], b, _, db, _, nb, e => ((nb.zero hB db).mp e.symm).symm
  | a, [], da, _, na, _, e => (na.zero hB da).mp e
  | x :: a, y :: b, da, db, na, nb, e => by
    simp only [vI] at e
    have hx := da.head; have hy := db.head
    have e1 : x = y := by
      have h1 : (x + B * vI B a) % B = (y + B * vI B b) % B := by rw [e]
      rw [Int.add_mul_emod_self_left, Int.add_mul_emod_self_left, Int.emod_eq_of_lt hx.1 hx.2, Int.emod_eq_of_lt hy.1 hy.2] at h1; exact h1
    subst e1
    have e2 : vI B a = vI B b := Int.eq_of_mul_eq_mul_left (Int.ne_of_gt hB) (by omega : B * vI B a = B * vI B b)
    rw [vI_inj hB da.tail db.tail na.tail nb.tail e2]
theorem pow_mono {B : Int} (hB : 1 ≤ B) {m n : Nat} (h : m ≤ n) : B ^ m ≤ B ^ n := by
  obtain ⟨d, rfl⟩ : ∃ d, n = m + d := ⟨n - m, by omega⟩
  rw [Int.pow_add]
  have h1 : 0 < B ^ m := pow_pos' (by omega) _
  have h2 : 0 < B ^ d := pow_pos' (by omega) _
  have := Int.mul_le_mul_of_nonneg_left (show (1 : Int) ≤ B ^ d by omega) (Int.le_of_lt h1)
  omega
theorem vI_lt_of_len {B : Int} (hB : 1 ≤ B) {a b : List Int} (da : Dg B a) (db : Dg B b) (nb : Nm b) (h : a.length < b.length) : vI B a < vI B b := by
  have h1 := vI_lt (by omega) da
  have h2 := nb.low (by omega) db (by intro e; rw [e] at h; simp at h)
  have h3 := pow_mono hB (show a.length ≤ b.length - 1 by omega)
  omega

/-- The digits of a number to the base B, the least first. -/
def digs (B : Nat) (n : Nat) : List Int :=
  if _h : B ≤ 1 ∨ n = 0 then [] else ((n % B : Nat) : Int) :: digs B (n / B)
termination_by n
decreasing_by exact Nat.div_lt_self (by omega) (by omega)

theorem digs_zero (B : Nat) : digs B 0 = [] := by unfold digs; simp
theorem digs_pos {B n : Nat} (hB : 2 ≤ B) (hn : 0 < n) : digs B n = ((n % B : Nat) : Int) :: digs B (n / B) := by
  conv => lhs; unfold digs
  rw [dif_neg (by omega)]
theorem digs_Dg {B : Nat} (hB : 2 ≤ B) (n : Nat) : Dg B (digs B n) := by
  induction n using Nat.strongRecOn with
  | ind n ih =>
    rcases Nat.eq_zero_or_pos n with rfl | hn
    · rw [digs_zero]; exact Dg.nil
    · rw [digs_pos hB hn]
      have := Nat.mod_lt n (show B > 0 by omega)
      exact Dg.cons (by omega) (ih _ (Nat.div_lt_self hn (by omega)))
theorem digs_val {B : Nat} (hB : 2 ≤ B) (n : Nat) : vI B (digs B n) = n := by
  induction n using Nat.strongRecOn with
  | ind n ih =>
    rcases Nat.eq_zero_or_pos n with rfl | hn
    · rw [digs_zero]; rfl
    · rw [digs_pos hB hn, vI, ih _ (Nat.div_lt_self hn (by omega))]
      have := Nat.mod_add_div n B
      omega
theorem digs_nil {B : Nat} (hB : 2 ≤ B) (n : Nat) : digs B n = [] ↔ n = 0 := by
  constructor
  · intro h; have := digs_val hB n; rw [h] at this; simp only [vI] at this; omega
  · rintro rfl; exact digs_zero B
theorem digs_Nm {B : Nat} (hB : 2 ≤ B) (n : Nat) : Nm (digs B n) := by
  induction n using Nat.strongRecOn with
  | ind n ih =>
    rcases Nat.eq_zero_or_pos n with rfl | hn
    · rw [digs_zero]; exact Nm.nil
    · rw [digs_pos hB hn]
      intro hl
      by_cases e : digs B (n / B) = []
      · have e2 : n / B = 0 := (digs_nil hB _).mp e
        have : n < B := by rcases Nat.div_eq_zero_iff.mp e2 with h | h <;> omega
        simp only [e, List.getLast_singleton]
        rw [Nat.mod_eq_of_lt this]; omega
      · rw [List.getLast_cons e]; exact ih _ (Nat.div_lt_self hn (by omega)) e
theorem digs_unique {B : Nat} (hB : 2 ≤ B) {l : List Int} {n : Nat} (hd : Dg B l) (hn : Nm l) (hv : vI B l = n) : l = digs B n :=
  vI_inj (by omega) hd (digs_Dg hB n) hn (digs_Nm hB n) (by rw [hv, digs_val hB])
theorem digs_unique' {B : Nat} (hB : 2 ≤ B) {l : List Int} (hd : Dg B l) (hn : Nm l) : l = digs B (vI B l).toNat :=
  digs_unique hB hd hn (by have := vI_nonneg (by omega : (0:Int) < B) hd; omega)
theorem digs_inj {B : Nat} (hB : 2 ≤ B) {m n : Nat} (h : digs B m = digs B n) : m = n := by
  have := digs_val hB m; rw [h, digs_val hB] at this; omega
theorem digs_len_le {B : Nat} (hB : 2 ≤ B) {m n : Nat} (h : m < B ^ n) : (digs B m).length ≤ n := by
  by_cases e : digs B m = []
  · rw [e]; simp
  · have h1 := (digs_Nm hB m).low (by omega : (0:Int) < B) (digs_Dg hB m) e
    rw [digs_val hB] at h1
    by_cases hc : n < (digs B m).length
    · have h2 := pow_mono (show (1:Int) ≤ B by omega) (show n ≤ (digs B m).length - 1 by omega)
      have h3 : ((m : Nat) : Int) < ((B ^ n : Nat) : Int) := by exact_mod_cast h
      rw [Int.natCast_pow] at h3
      omega
    · omega
theorem digs_lt_pow {B : Nat} (hB : 2 ≤ B) (n : Nat) : n < B ^ (digs B n).length := by
  have h := vI_lt (by omega : (0:Int) < B) (digs_Dg hB n)
  rw [digs_val hB, ← Int.natCast_pow] at h
  exact_mod_cast h

/-- What is left of a list without its zeros at the end. -/
def trimL : List Int → List Int
  | [] => []
  | x :: l => if trimL l = [] then (if x = 0 then [] else [x]) else x :: trimL l
theorem trimL_snoc_zero (l : List Int) : trimL (l ++ [0]) = trimL l := by
  induction l with
  | nil => simp [trimL]
  | cons x l ih => simp only [List.cons_append, trimL, ih]
theorem trimL_nil : ∀ {l : List Int}, trimL l = [] → Nm l → l = []
  | [], _, _ => rfl
  | x :: l, h, hn => by
    unfold trimL at h
    by_cases e : trimL l = []
    · have el := trimL_nil e hn.tail
      subst el
      have h0 := hn (by simp)
      simp at h0
      simp [trimL, h0] at h
    · rw [if_neg e] at h; cases h
theorem trimL_of_Nm : ∀ {l : List Int}, Nm l → trimL l = l
  | [], _ => rfl
  | x :: l, h => by
    have ih := trimL_of_Nm h.tail
    unfold trimL
    rw [ih]
    by_cases e : l = []
    · subst e; have := h (by simp); simp at this; simp [this]
    · rw [if_neg e]
theorem trimL_Nm : ∀ (l : List Int), Nm (trimL l)
  | [] => Nm.nil
  | x :: l => by
    have ih := trimL_Nm l
    unfold trimL
    by_cases e : trimL l = []
    · rw [if_pos e]
      by_cases ex : x = 0
      · rw [if_pos ex]; exact Nm.nil
      · rw [if_neg ex]; intro _; simpa using ex
    · rw [if_neg e]; intro hl; rw [List.getLast_cons e]; exact ih e
theorem trimL_val (B : Int) : ∀ (l : List Int), vI B (trimL l) = vI B l
  | [] => rfl
  | x :: l => by
    have ih := trimL_val B l
    unfold trimL
    by_cases e : trimL l = []
    · rw [e] at ih; rw [if_pos e]
      by_cases ex : x = 0
      · rw [if_pos ex]; simp [vI, ← ih, ex]
      · rw [if_neg ex]; simp [vI, ← ih]
    · rw [if_neg e, vI, vI, ih]
theorem trimL_Dg {B : Int} : ∀ {l : List Int}, Dg B l → Dg B (trimL l)
  | [], h => h
  | x :: l, h => by
    have ih := trimL_Dg h.tail
    unfold trimL
    by_cases e : trimL l = []
    · rw [if_pos e]
      by_cases ex : x = 0
      · rw [if_pos ex]; exact Dg.nil
      · rw [if_neg ex]; exact Dg.cons h.head Dg.nil
    · rw [if_neg e]; exact Dg.cons h.head ih
theorem trimL_digs {B : Nat} (hB : 2 ≤ B) {l : List Int} (h : Dg B l) {n : Nat} (hv : vI B l = n) : trimL l = digs B n :=
  digs_unique hB (trimL_Dg h) (trimL_Nm l) (by rw [trimL_val]; exact hv)

/-- A number's decimal text, as bytes. -/
def tx (n : Nat) : List Int := if n = 0 then [48] else ((digs 10 n).map (· + 48)).reverse
/-- The number of a decimal text. -/
def numOf (l : List Int) : Int := vI 10 ((l.map (· - 48)).reverse)
structure IsDec (l : List Int) : Prop where
  ne : l ≠ []
  dig : ∀ c ∈ l, 48 ≤ c ∧ c ≤ 57
  lead : l.head? = some 48 → l.length = 1

theorem map_add_sub (l : List Int) : (l.map (· + 48)).map (· - 48) = l := by
  induction l with
  | nil => rfl
  | cons x l ih => simp only [List.map_cons, ih]; rw [Int.add_sub_cancel]
theorem map_sub_add (l : List Int) : (l.map (· - 48)).map (· + 48) = l := by
  induction l with
  | nil => rfl
  | cons x l ih => simp only [List.map_cons, ih]; rw [Int.sub_add_cancel]
theorem numOf_tx (n : Nat) : numOf (tx n) = n := by
  unfold numOf tx
  by_cases h : n = 0
  · subst h; rfl
  · rw [if_neg h, List.map_reverse, List.reverse_reverse, map_add_sub]
    exact digs_val (show 2 ≤ 10 by omega) n
theorem tx_inj {m n : Nat} (h : tx m = tx n) : m = n := by
  have e : ((n : Nat) : Int) = (m : Int) := by rw [← numOf_tx m, h, numOf_tx]
  omega
theorem isDec_tx (n : Nat) : IsDec (tx n) := by
  unfold tx
  by_cases h : n = 0
  · rw [if_pos h]; exact ⟨by simp, by simp, by simp⟩
  · rw [if_neg h]
    have hd := digs_Dg (show 2 ≤ 10 by omega) n
    have hn := digs_Nm (show 2 ≤ 10 by omega) n
    have he : digs 10 n ≠ [] := fun e => h ((digs_nil (by omega) n).mp e)
    refine ⟨?_, ?_, ?_⟩
    · simp [he]
    · intro c hc
      rw [List.mem_reverse, List.mem_map] at hc
      obtain ⟨x, hx, rfl⟩ := hc
      have := hd x hx; omega
    · intro hh
      rw [List.head?_reverse, List.getLast?_map, List.getLast?_eq_some_getLast he] at hh
      have := hn he
      simp at hh
      omega
theorem head_reverse_Nm {l : List Int} (h : l.head? ≠ some 0) : Nm l.reverse := by
  intro hl
  rw [List.getLast_reverse]
  intro e
  apply h
  rw [List.head?_eq_some_head (by simpa using hl), e]
theorem IsDec.eq {l : List Int} (h : IsDec l) : l = tx (numOf l).toNat := by
  have hdig : Dg 10 ((l.map (· - 48)).reverse) := by
    intro x hx
    rw [List.mem_reverse, List.mem_map] at hx
    obtain ⟨c, hc, rfl⟩ := hx
    have := h.dig c hc; omega
  by_cases h48 : l.head? = some 48
  · have := h.lead h48
    match l, h48, this with
    | [x], h48, _ => simp at h48; subst h48; rfl
  · have hnm : Nm ((l.map (· - 48)).reverse) := by
      apply head_reverse_Nm
      rw [List.head?_map]
      intro e
      apply h48
      cases hh : l.head? with
      | none => rw [hh] at e; cases e
      | some x => rw [hh] at e; simp at e; congr 1; omega
    have e := digs_unique' (show 2 ≤ 10 by omega) hdig hnm
    rw [show ((10 : Nat) : Int) = 10 from rfl] at e
    have hne : digs 10 (numOf l).toNat ≠ [] := by
      unfold numOf
      rw [← e]; simp [h.ne]
    unfold tx
    rw [if_neg (fun h0 => hne ((digs_nil (by omega) _).mpr h0))]
    unfold numOf
    rw [← e, List.map_reverse, List.reverse_reverse, map_sub_add]
theorem tx_zero : tx 0 = [48] := rfl
theorem tx_eq_zero {n : Nat} : tx n = [48] ↔ n = 0 := ⟨fun h => tx_inj (h.trans tx_zero.symm), fun h => by rw [h, tx_zero]⟩
theorem tx_len {n m : Nat} (hm : 1 ≤ m) : (tx n).length ≤ m ↔ n < 10 ^ m := by
  unfold tx
  by_cases h : n = 0
  · subst h; simp; constructor
    · intro _; exact Nat.pow_pos (by omega)
    · intro _; omega
  · rw [if_neg h, List.length_reverse, List.length_map]
    constructor
    · intro hl
      exact Nat.lt_of_lt_of_le (digs_lt_pow (by omega) n) (Nat.pow_le_pow_right (by omega) hl)
    · exact digs_len_le (by omega)
theorem tx_pos (n : Nat) : 1 ≤ (tx n).length := by
  have := (isDec_tx n).ne
  rcases h : tx n with _ | ⟨x, l⟩
  · exact absurd h this
  · simp
end Go.Proofs.YtplpmndchdockaaDoor.M
