import Derived.Test.YtplpmndchdockaaDoorOpF
import Derived.Test.YtplpmndchdockaaDoorRefK
import Derived.Deep.LoopGhost
/-! RationalDigits: the walk. -/
namespace Go.Proofs.YtplpmndchdockaaDoor.M
open Go Go.RowKit Go.Proofs.YtplpmndchdockaaDoorV.PrintWords
set_option autoImplicit false
set_option linter.unusedVariables false
set_option linter.unusedSimpArgs false

/-- A digit that is not 0, and k times the digit 1. -/
def dgt (c : Int) (k : Nat) : List Int := c :: List.replicate k 49
theorem dgt_succ (c : Int) (k : Nat) : bs (dgt c k) ++ ⟨#[49]⟩ = bs (dgt c (k + 1)) := by
  have h : (⟨#[49]⟩ : ByteArray) = bs [49] := by rfl
  rw [h, bs_append]
  unfold dgt
  rw [List.replicate_succ']
  rfl
theorem dgt_len (c : Int) (k : Nat) : (dgt c k).length = k + 1 := by unfold dgt; simp
theorem dgt_size (c : Int) (k : Nat) : (bs (dgt c k)).size = k + 1 := by rw [bs_size, dgt_len]
theorem dgt_dec {c : Int} (k : Nat) (h : 49 ≤ c ∧ c ≤ 57) : IsDec (dgt c k) := by
  unfold dgt
  refine ⟨by simp, fun x hx => ?_, fun hx => ?_⟩
  · rcases List.mem_cons.mp hx with rfl | hx
    · omega
    · have := List.eq_of_mem_replicate hx; omega
  · injection hx with hx; omega
theorem dgt_cs {c : Int} (k : Nat) (h : 49 ≤ c ∧ c ≤ 57) : cs (bs (dgt c k)) = dgt c k := cs_bs fun x hx => by have := (dgt_dec k h).dig x hx; omega
theorem dgt_ne {c : Int} (k : Nat) (h : 49 ≤ c ∧ c ≤ 57) : dgt c k ≠ [48] := by
  unfold dgt; intro hc; have := (List.cons.inj hc).1; omega
theorem mB_dgt {c : Int} (k : Nat) (h : 49 ≤ c ∧ c ≤ 57) : mB (bs (dgt c k)) = false := by
  unfold mB; rw [dgt_cs k h]; unfold dgt; rw [List.head?_cons]; simp; omega
theorem one_dec : IsDec [49] := ⟨by simp, by intro x hx; simp at hx; omega, by simp⟩
theorem valid_of {N D : ByteArray} {l m : List Int} (hl : cs (aft N) = l) (hm : cs D = m) (dl : IsDec l) (dm : IsDec m) (l0 : l ≠ [48]) (m0 : m ≠ [48]) (hg : Nat.gcd (numOf m).toNat (numOf l).toNat = 1) :
    (rdQ N D).isSome = decide (l.length ≤ 400 ∧ m.length ≤ 400) := by
  have hf : fmB N D = true ↔ l.length ≤ 400 ∧ m.length ≤ 400 := by
    unfold fmB
    rw [hl, hm]
    simp only [Bool.and_eq_true, Bool.not_eq_true', Bool.and_eq_false_iff, decide_eq_false_iff_not, dgB_iff]
    exact ⟨fun h => ⟨h.1.1.1.2, h.1.1.2.2⟩, fun h => ⟨⟨⟨⟨dl, h.1⟩, dm, h.2⟩, .inr l0⟩, m0⟩⟩
  unfold rdQ
  rw [hl, hm]
  by_cases h : l.length ≤ 400 ∧ m.length ≤ 400
  · rw [if_pos ⟨hf.mpr h, hg⟩, decide_eq_true h]; rfl
  · rw [if_neg (fun hc => h (hf.mp hc.1)), decide_eq_false h]; rfl
theorem aft_plain {N : ByteArray} (h : mB N = false) : cs (aft N) = cs N := by rw [cs_aft, if_neg (by rw [h]; decide)]
theorem aft_minus (l : List Int) (hb : ∀ x ∈ l, 0 ≤ x ∧ x < 256) : cs (aft (⟨#[45]⟩ ++ bs l)) = l := by
  have h : (⟨#[45]⟩ : ByteArray) ++ bs l = bs (45 :: l) := by
    have h1 : (⟨#[45]⟩ : ByteArray) = bs [45] := by rfl
    rw [h1, bs_append]; rfl
  have h2 : cs (bs (45 :: l)) = 45 :: l := cs_bs (fun x hx => by
    rcases List.mem_cons.mp hx with rfl | hx
    · omega
    · exact hb x hx)
  rw [h, cs_aft, h2]
  have : mB (bs (45 :: l)) = true := by unfold mB; rw [h2]; rfl
  rw [if_pos this]; rfl
theorem one_bs : bs [49] = ⟨#[49]⟩ := rfl
/-- The four texts of the law: valid where there is room. -/
theorem dig_valid {c : Int} {z : Nat} (h : 49 ≤ c ∧ c ≤ 57) (hz : 398 ≤ z ∧ z ≤ 402) : (rdQ (bs (dgt c (z - 1))) ⟨#[49]⟩).isSome = decide ((z : Int) ≤ 400) ∧ (rdQ (⟨#[45]⟩ ++ bs (dgt c (z - 1))) ⟨#[49]⟩).isSome = decide ((z : Int) ≤ 400) ∧
    (rdQ ⟨#[49]⟩ (bs (dgt c (z - 1)))).isSome = decide ((z : Int) ≤ 400) ∧ (rdQ (⟨#[45]⟩ ++ ⟨#[49]⟩) (bs (dgt c (z - 1)))).isSome = decide ((z : Int) ≤ 400) := by
  have hb : ∀ x ∈ dgt c (z - 1), 0 ≤ x ∧ x < 256 := fun x hx => by have := (dgt_dec (z - 1) h).dig x hx; omega
  have e1 : decide ((dgt c (z - 1)).length ≤ 400 ∧ [(49 : Int)].length ≤ 400) = decide ((z : Int) ≤ 400) := by
    rw [dgt_len]; congr 1; simp only [List.length_singleton, eq_iff_iff]; omega
  have e2 : decide ([(49 : Int)].length ≤ 400 ∧ (dgt c (z - 1)).length ≤ 400) = decide ((z : Int) ≤ 400) := by
    rw [dgt_len]; congr 1; simp only [List.length_singleton, eq_iff_iff]; omega
  have c1 : cs (⟨#[49]⟩ : ByteArray) = [49] := by rfl
  have n1 : (numOf [49]).toNat = 1 := by rfl
  have m1 : mB (⟨#[49]⟩ : ByteArray) = false := by rfl
  have d := dgt_dec (z - 1) h
  have dn := dgt_ne (z - 1) h
  refine ⟨?_, ?_, ?_, ?_⟩
  · rw [← e1]; exact valid_of ((aft_plain (mB_dgt _ h)).trans (dgt_cs _ h)) c1 d one_dec dn (by decide) (by rw [n1, Nat.gcd_one_left])
  · rw [← e1]; exact valid_of (aft_minus _ hb) c1 d one_dec dn (by decide) (by rw [n1, Nat.gcd_one_left])
  · rw [← e2]; exact valid_of ((aft_plain m1).trans c1) (dgt_cs _ h) one_dec d (by decide) dn (by rw [n1, Nat.gcd_one_right])
  · rw [← e2]; exact valid_of (by rw [← one_bs]; exact aft_minus [49] (by intro x hx; simp at hx; omega)) (dgt_cs _ h) one_dec d (by decide) dn (by rw [n1, Nat.gcd_one_right])
def Alike' (f g : FuncId) (N D N2 D2 : ByteArray) : Prop := ∃ (N3 D3 : ByteArray) (ok : Bool), (∀ W : World, Calls Tryd.prog f #[.agg #[.string N, .string D], .agg #[.string N2, .string D2]] W fun e w' => e = .returned (.tuple #[.agg #[.string N3, .string D3], .bool ok]) ∧ Below W.heap.size W w') ∧
  (∀ W : World, Calls Tryd.prog g #[.agg #[.string N, .string D], .agg #[.string N2, .string D2]] W fun e w' => e = .returned (.tuple #[.agg #[.string N3, .string D3], .bool ok]) ∧ Below W.heap.size W w')
theorem dig_calls {N D M : ByteArray} {z : Int} (h : N.size ≤ 140737488355328) (hM : M.size ≤ 140737488355328) (v : (rdQ N D).isSome = decide (z ≤ 400)) (v2 : (rdQ M D).isSome = decide (z ≤ 400)) :
    Alike' 25 26 N D ⟨#[49, 48]⟩ ⟨#[49]⟩ ∧ Alike' 27 28 N D N D ∧ (∀ W : World, Calls Tryd.prog 23 #[.agg #[.string N, .string D]] W fun e w' => e = .returned (.bool (decide (z ≤ 400))) ∧ Below W.heap.size W w') ∧
    (∀ W : World, Calls Tryd.prog 23 #[.agg #[.string M, .string D]] W fun e w' => e = .returned (.bool (decide (z ≤ 400))) ∧ Below W.heap.size W w') :=
  ⟨⟨_, _, _, fun W => pmul_c W N D _ _ h (by decide), fun W => qmul_c W N D _ _ h (by decide)⟩, ⟨_, _, _, fun W => padd_c W N D N D h h, fun W => qadd_c W N D N D h h⟩, fun W => by rw [← v]; exact valid_c W N D h, fun W => by rw [← v2]; exact valid_c W M D hM⟩
theorem sz1 : (⟨#[49]⟩ : ByteArray).size ≤ 140737488355328 := by have : (⟨#[49]⟩ : ByteArray).size = 1 := rfl; omega
theorem sz3 : (⟨#[49]⟩ : ByteArray).size ≤ 1000 := by have : (⟨#[49]⟩ : ByteArray).size = 1 := rfl; omega
theorem sz2 (l : ByteArray) (h : l.size ≤ 1000) : ((⟨#[45]⟩ : ByteArray) ++ l).size ≤ 140737488355328 := by
  rw [ByteArray.size_append]; have : (⟨#[45]⟩ : ByteArray).size = 1 := rfl; omega
def DCalls (N D M : ByteArray) (z : Int) : Prop := Alike' 25 26 N D ⟨#[49, 48]⟩ ⟨#[49]⟩ ∧ Alike' 27 28 N D N D ∧ (∀ W : World, Calls Tryd.prog 23 #[.agg #[.string N, .string D]] W fun e w' => e = .returned (.bool (decide (z ≤ 400))) ∧ Below W.heap.size W w') ∧
    (∀ W : World, Calls Tryd.prog 23 #[.agg #[.string M, .string D]] W fun e w' => e = .returned (.bool (decide (z ≤ 400))) ∧ Below W.heap.size W w')
theorem dig_den {c : Int} {k z : Nat} (h : 49 ≤ c ∧ c ≤ 57) (hz : 398 ≤ z ∧ z ≤ 402) (hk : k = z - 1) : ∃ T M : ByteArray, bs (dgt c k) = T ∧ (⟨#[45]⟩ : ByteArray) ++ ⟨#[49]⟩ = M ∧ DCalls ⟨#[49]⟩ T M z := by
  subst hk
  have dv := dig_valid h hz
  exact ⟨_, _, rfl, rfl, dig_calls sz1 (sz2 _ sz3) dv.2.2.1 dv.2.2.2⟩
theorem dig_num {c : Int} {k z : Nat} (h : 49 ≤ c ∧ c ≤ 57) (hz : 398 ≤ z ∧ z ≤ 402) (hk : k = z - 1) : ∃ T M : ByteArray, bs (dgt c k) = T ∧ (⟨#[45]⟩ : ByteArray) ++ T = M ∧ DCalls T ⟨#[49]⟩ M z := by
  have hs := dgt_size c k
  subst hk
  have dv := dig_valid h hz
  exact ⟨_, _, rfl, rfl, dig_calls (by omega) (sz2 _ (by omega)) dv.1 dv.2.1⟩
set_option maxRecDepth 20000 in
set_option maxHeartbeats 8000000 in
theorem digits_law (w : World) (n d : Int) (den : Bool) (n0 : 0 ≤ n) (n1 : n ≤ 255) (d0 : 0 ≤ d) (d1 : d ≤ 255) :
    Calls Tryd.prog 6 #[.int .u8 n, .int .u8 d, .bool den] w fun e w' => e = .returned (.bool true) ∧ Below w.heap.size w w' := by
  go_enter Tryd.func6, Tryd.ntmps6
  go_wp2_with fail
  refine afterV (awake_c _) ?_; intro w1 b1 zz1 hc1 hf1; have H1 := Aside0.mk b1; clear b1 zz1 hc1 hf1
  have hcv : (convert 36 9 (.slice (some ⟨w1.heap.size, 0, none⟩) 1 1)).run Tryd.prog (w1.alloc (.cells #[.int .u8 (49 + d % 9)] 5)) = .ok (.string (bs (dgt (49 + d % 9) 0))) (w1.alloc (.cells #[.int .u8 (49 + d % 9)] 5)) :=
    run_convert_bytes_arg _ 36 5 Tryd.underlying36 Tryd.underlying5 _ 0 1 1 [49 + d % 9] rfl (fun i hi => by
      obtain rfl : i = 0 := by omega
      simp [go_sem]) 9 Tryd.underlying9
  go_wp2_with fail
  clear hcv
  obtain ⟨c, hc⟩ : ∃ c, c = 49 + d % 9 := ⟨_, rfl⟩
  obtain ⟨z, hz⟩ : ∃ z : Nat, (z : Int) = 398 + n % 5 := ⟨(398 + n % 5).toNat, by omega⟩
  rw [← hc, ← hz]
  have hcb : 49 ≤ c ∧ c ≤ 57 := by omega
  have hzb : 398 ≤ z ∧ z ≤ 402 := by omega
  clear hc hz
  replace hcb := Aside0.mk hcb
  replace hzb := Aside0.mk hzb
  refine wp_letter ?_; intro W hW
  have BW : Below w1.heap.size w1 W := by rw [hW]; exact (by (repeat first | (with_reducible exact Below.refl _ _) | (with_reducible refine below_drew ?_) | (with_reducible refine below_alloc ?_ _) | ((with_reducible refine below_set ?_ ?hh); (case hh => omega))); done)
  have HW := Aside0.mk (below_trans H1.out BW)
  clear hW BW H1
  go_loopg [8] (z - 1) (fun g v wr => ∃ k : Nat, k + 1 + g = z ∧ v = .string (bs (dgt c k)) ∧ wr = W)
  case atStart => exact ⟨0, by have := hzb.out; omega, rfl, rfl⟩
  case round =>
    obtain ⟨k, hk, rfl, rfl⟩ := hrel
    have hsz := dgt_size c k
    have hk2 : k < 1000 := by have := hzb.out; omega
    have hap := dgt_succ c k
    have hk' := Aside0.mk hk
    clear hk
    go_wp2_with fail
    · have hlt : (k : Int) + 1 < (z : Int) := by assumption
      go_roundg (gk - 1)
      case rel => exact ⟨k + 1, by have := hk'.out; omega, rfl, rfl⟩
      case measure => have := hk'.out; omega
    · have hkz : k = z - 1 := by have := hk'.out; omega
      clear hap hsz
      obtain ⟨T, M, hT, hM, ⟨Na, Da, oa, A1, A2⟩, ⟨Nb, Db, ob, B1', B2'⟩, V1, V2⟩ := dig_den hcb.out hzb.out hkz
      rw [hT, hM]
      clear hT hM
      replace A1 := Aside0.mk A1
      replace A2 := Aside0.mk A2
      replace B1' := Aside0.mk B1'
      replace B2' := Aside0.mk B2'
      replace V1 := Aside0.mk V1
      replace V2 := Aside0.mk V2
      refine afterV (A1.out _) ?_; intro v1 b zz _ _
      have sr : St v1 wr.heap.size (⟨#[49]⟩) T := ⟨pw_cell_below b (by simp [go_sem]), pw_cell_below b (by simp [go_sem]), Nat.lt_of_lt_of_le (by first | (simp; done) | (simp; omega)) b.size⟩
      have sm : St v1 (wr.heap.size + 1) M T := ⟨pw_cell_below b (by simp [go_sem]), pw_cell_below b (by simp [go_sem]), Nat.lt_of_lt_of_le (by first | (simp; done) | (simp; omega)) b.size⟩
      have H := Aside0.mk (below_trans (below_alloc (below_alloc (Below.refl wr.heap.size wr) _) _) b)
      clear b zz
      go_wp2_with fail
      refine afterV (A2.out _) ?_; intro v2 b zz _ _
      replace sr := sr.up b
      replace sm := sm.up b
      have s2 := St.new b
      replace H := Aside0.mk (below_trans (below_alloc H.out _) b)
      clear b zz
      go_wp2_with fail
      refine afterV (B1'.out _) ?_; intro v3 b zz _ _
      replace sr := sr.up b
      replace sm := sm.up b
      replace s2 := s2.up b
      have s3 := St.new b
      replace H := Aside0.mk (below_trans (below_alloc H.out _) b)
      clear b zz
      go_wp2_with fail
      refine afterV (B2'.out _) ?_; intro v4 b zz _ _
      replace sr := sr.up b
      replace sm := sm.up b
      replace s2 := s2.up b
      replace s3 := s3.up b
      have s4 := St.new b
      replace H := Aside0.mk (below_trans (below_alloc H.out _) b)
      clear b zz
      go_wp2_with fail
      refine afterV (V1.out _) ?_; intro v5 b zz _ _
      replace sr := sr.up b
      replace sm := sm.up b
      replace s2 := s2.up b
      replace s3 := s3.up b
      replace s4 := s4.up b
      have s5 := St.new b
      replace H := Aside0.mk (below_trans (below_alloc H.out _) b)
      clear b zz
      go_wp2_with fail
      refine afterV (V2.out _) ?_; intro v6 b zz _ _
      replace sr := sr.on b
      replace sm := sm.on b
      replace s2 := s2.on b
      replace s3 := s3.on b
      replace s4 := s4.on b
      replace s5 := s5.on b
      replace H := Aside0.mk (below_trans H.out b)
      clear b zz
      go_wp2
      refine bodyPost_ret (v := .bool true) (by simp [results, Tryd.results6, go_sem]) rfl ⟨rfl, below_trans HW.out H.out⟩
    · have hkz : k = z - 1 := by have := hk'.out; omega
      clear hap hsz
      obtain ⟨T, M, hT, hM, ⟨Na, Da, oa, A1, A2⟩, ⟨Nb, Db, ob, B1', B2'⟩, V1, V2⟩ := dig_num hcb.out hzb.out hkz
      rw [hT, hM]
      clear hT hM
      replace A1 := Aside0.mk A1
      replace A2 := Aside0.mk A2
      replace B1' := Aside0.mk B1'
      replace B2' := Aside0.mk B2'
      replace V1 := Aside0.mk V1
      replace V2 := Aside0.mk V2
      refine afterV (A1.out _) ?_; intro v1 b zz _ _
      have sr : St v1 wr.heap.size T (⟨#[49]⟩) := ⟨pw_cell_below b (by simp [go_sem]), pw_cell_below b (by simp [go_sem]), Nat.lt_of_lt_of_le (by first | (simp; done) | (simp; omega)) b.size⟩
      have sm : St v1 (wr.heap.size + 1) M (⟨#[49]⟩) := ⟨pw_cell_below b (by simp [go_sem]), pw_cell_below b (by simp [go_sem]), Nat.lt_of_lt_of_le (by first | (simp; done) | (simp; omega)) b.size⟩
      have H := Aside0.mk (below_trans (below_alloc (below_alloc (Below.refl wr.heap.size wr) _) _) b)
      clear b zz
      go_wp2_with fail
      refine afterV (A2.out _) ?_; intro v2 b zz _ _
      replace sr := sr.up b
      replace sm := sm.up b
      have s2 := St.new b
      replace H := Aside0.mk (below_trans (below_alloc H.out _) b)
      clear b zz
      go_wp2_with fail
      refine afterV (B1'.out _) ?_; intro v3 b zz _ _
      replace sr := sr.up b
      replace sm := sm.up b
      replace s2 := s2.up b
      have s3 := St.new b
      replace H := Aside0.mk (below_trans (below_alloc H.out _) b)
      clear b zz
      go_wp2_with fail
      refine afterV (B2'.out _) ?_; intro v4 b zz _ _
      replace sr := sr.up b
      replace sm := sm.up b
      replace s2 := s2.up b
      replace s3 := s3.up b
      have s4 := St.new b
      replace H := Aside0.mk (below_trans (below_alloc H.out _) b)
      clear b zz
      go_wp2_with fail
      refine afterV (V1.out _) ?_; intro v5 b zz _ _
      replace sr := sr.up b
      replace sm := sm.up b
      replace s2 := s2.up b
      replace s3 := s3.up b
      replace s4 := s4.up b
      have s5 := St.new b
      replace H := Aside0.mk (below_trans (below_alloc H.out _) b)
      clear b zz
      go_wp2_with fail
      refine afterV (V2.out _) ?_; intro v6 b zz _ _
      replace sr := sr.on b
      replace sm := sm.on b
      replace s2 := s2.on b
      replace s3 := s3.on b
      replace s4 := s4.on b
      replace s5 := s5.on b
      replace H := Aside0.mk (below_trans H.out b)
      clear b zz
      go_wp2
      refine bodyPost_ret (v := .bool true) (by simp [results, Tryd.results6, go_sem]) rfl ⟨rfl, below_trans HW.out H.out⟩
end Go.Proofs.YtplpmndchdockaaDoor.M
