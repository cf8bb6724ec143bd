/- THE WALKS of tags: short ones; are two rows of bytes one? -/
import Derived.Test.YtfcmjlbfoindaaaMac12b
namespace Go.Fp
open Go Go.RowKit
theorem or_zero (a b : UInt8) : a ||| b = 0 ↔ a = 0 ∧ b = 0 := by
  constructor
  · intro h
    have h1 := congrArg UInt8.toNat h
    rw [UInt8.toNat_or] at h1
    have ha : a.toNat = 0 := Nat.eq_zero_of_le_zero (by rw [← show (a.toNat ||| b.toNat) = 0 from h1]; exact Nat.left_le_or)
    have hb : b.toNat = 0 := Nat.eq_zero_of_le_zero (by rw [← show (a.toNat ||| b.toNat) = 0 from h1]; exact Nat.right_le_or)
    exact ⟨UInt8.toNat_inj.1 ha, UInt8.toNat_inj.1 hb⟩
  · rintro ⟨rfl, rfl⟩; rfl
theorem xor_zero (a b : UInt8) : a ^^^ b = 0 ↔ a = b := UInt8.xor_eq_zero_iff
theorem take_eq {a b : List UInt8} {i : Nat} (h : i < a.length) (hl : a.length = b.length) : a.take (i + 1) = b.take (i + 1) ↔ a.take i = b.take i ∧ gb a i = gb b i := by
  rw [List.take_add_one, List.take_add_one, gb_get h, gb_get (by omega : i < b.length)]
  constructor
  · intro h1
    obtain ⟨h2, h3⟩ := List.append_inj h1 (by rw [List.length_take, List.length_take]; omega)
    exact ⟨h2, by simpa using h3⟩
  · rintro ⟨h1, h2⟩; rw [h1, h2]
end Go.Fp
namespace Go.Proofs.Ytfcmjlbfoindaaa
open Go.RowKit Go.Fp
attribute [local irreducible] Go.Calls
set_option maxRecDepth 100000
set_option maxHeartbeats 16000000
attribute [local irreducible] macP
theorem mac_Tag (x : Option Addr) (n c : Nat) (k : List UInt8) (hkn : k.length = n) (hk : n ≤ 64) (y : Option Addr) (d : Nat) (ps : List UInt8) (hy : y = none → ps.length = 0 ∧ d = 0) (hps : ps.length ≤ 900000) (w : World) {m : List Ob} (hm1 : Ob.rd x n 1 (u8s k) ∈ m) (hm2 : Ob.rd y ps.length 1 (u8s ps) ∈ m) (hT : Tk [] w w [] m) :
    Calls Try.prog 62 #[.slice x n c, .slice y ps.length d] w fun e w' => e = .returned (.agg (u8s (tagP k ps)).toArray) ∧ Tk [] w w' [] m := by
  subst hkn
  have hl := tagP_len k ps
  have cM := fun ww h => mac_Mac x c k hk y d ps hy hps ww (m := m) hm1 hm2 h
  have cF := fun ww => mac_first (macP k ps) (macP_len k ps) ww
  rw [show (macP k ps).take 16 = tagP k ps from rfl] at cF
  generalize tagP k ps = r at *
  refine enter [(0, _), (1, _)] Try.func62 rfl Try.ntmps62 (Nat.le_of_ble_eq_true rfl) rfl ?_; intro a0 hN
  repeat' (first
    | (refine isT ?_; (first | (refine T_move hN rfl (by first | exact .inr trivial | exact .inl rfl) ?_) | (refine T_nil ?_) | (refine is_call ?_; (first | (refine is_call ?_; obtain ⟨hP, hK⟩ := hT.call0m; refine T_call (f := 80) hN rfl (by decide) (cM _ hP) ?_; rintro e ww ⟨rfl, h1⟩; clear hT hP; replace hT := hK _ _ _ h1; clear hK h1; refine ⟨_, rfl, (by first | exact trivial | ((repeat' (first | exact hT.has 0 rfl | exact hT.has 1 rfl | exact hT.has 2 rfl | exact hT.has 3 rfl | exact hT.has 4 rfl | exact hT.has 5 rfl | exact hT.ord 0 rfl | exact hT.ord 1 rfl | exact hT.ord 2 rfl | exact hT.ord 3 rfl | exact hT.ord 4 rfl | exact hT.ord 5 rfl | exact hT.mrd (by assumption) | refine And.intro ?_ ?_)); done)), ?_⟩) | (refine is_call ?_; refine T_call (f := 79) hN rfl (by decide) (cF _) ?_; rintro e ww ⟨rfl, hf⟩; replace hT := hT.same hf; clear hf; refine ⟨_, rfl, (by first | exact trivial | ((repeat' (first | exact hT.has 0 rfl | exact hT.has 1 rfl | exact hT.has 2 rfl | exact hT.has 3 rfl | exact hT.has 4 rfl | exact hT.has 5 rfl | exact hT.ord 0 rfl | exact hT.ord 1 rfl | exact hT.ord 2 rfl | exact hT.ord 3 rfl | exact hT.ord 4 rfl | exact hT.ord 5 rfl | exact hT.mrd (by assumption) | refine And.intro ?_ ?_)); done)), ?_⟩))) | (refine is_store ?_; (first | (refine T_storeAll hN hT 0 (us := u8s r) rfl rfl rfl (by rw [u8s_length, hl]; rfl) rfl (List.all_eq_true.2 (u8s_all1 r)) (by decide) ?_; clear hT; intro ww hT; refine ⟨trivial, ?_⟩))) | (refine is_alloc ?_; (first | (refine T_alloc hN hT (by decide) ?_; clear hT; intro g ww hT; refine ⟨(by first | exact trivial), ?_⟩)))))
    | (refine isC ?_; (first | (refine C_seq ?_) | (refine C_rgnk (id := 0) hN [(0, _), (1, _)] ⟨rfl, rfl, trivial⟩ ?_; clear hN; intro a0 hN) | (refine C_rgnk (id := 1) hN [(0, _), (1, _), (4, _)] ⟨rfl, rfl, rfl, trivial⟩ ?_; clear hN; intro a0 hN) | (refine C_ret ?_)))
    | (refine isE ?_; (first | (refine E_ret hN Try.results62 (.cell rfl (run_loadAll (hT.has 0 rfl) (us := u8s r) (by rw [List.drop_zero, List.take_of_length_le (by rw [u8s_length, hl]; exact Nat.le_refl _)]) (by rw [u8s_length, hl])) .nil) ?_) | (refine E_thn ?_))))
  all_goals exact ⟨rfl, hT.sel [] rfl⟩
theorem mac_Equal (x : Option Addr) (n c : Nat) (a : List UInt8) (ha : a.length = n) (hn : n ≤ 1000000) (y : Option Addr) (k d : Nat) (b : List UInt8) (hbk : b.length = k) (w : World) {m : List Ob} (hm1 : Ob.rd x n 1 (u8s a) ∈ m) (hm2 : Ob.rd y k 1 (u8s b) ∈ m) (hT : Tk [] w w [] m) :
    Calls Try.prog 82 #[.slice x n c, .slice y k d] w fun e w' => e = .returned (.bool (bdec (a = b))) ∧ Tk [] w w' [] m := by
  subst ha hbk
  refine enter [(0, _), (1, _)] Try.func82 rfl Try.ntmps82 (Nat.le_of_ble_eq_true rfl) rfl ?_; intro a0 hN
  repeat' (first
    | (refine isT ?_; (first | (refine T_assign hN rfl (by first | exact .inr trivial | exact .inl rfl) ?_) | (refine T_move hN rfl (by first | exact .inr trivial | exact .inl rfl) ?_) | (refine T_nil ?_) | (refine is_binOp ?_; (first | (refine T_neq hN rfl rfl (by first | exact .inr trivial | exact .inl rfl) ?_))) | (refine is_call ?_; (first | (refine T_len hN rfl (by first | exact .inr trivial | exact .inl rfl) ?_)))))
    | (refine isC ?_; (first | (refine C_seq ?_) | (refine C_rgnk (id := 0) hN [(0, _), (1, _)] ⟨rfl, rfl, trivial⟩ ?_; clear hN; intro a0 hN) | (refine C_rgnk (id := 1) hN [(0, _), (1, _), (4, _)] ⟨rfl, rfl, rfl, trivial⟩ ?_; clear hN; intro a0 hN) | (refine C_rgnk (id := 2) hN [(0, _), (1, _), (4, _), (11, _)] ⟨rfl, rfl, rfl, rfl, trivial⟩ ?_; clear hN; intro a0 hN) | (refine C_rgnk (id := 3) hN [(0, _), (1, _), (4, _), (11, _)] ⟨rfl, rfl, rfl, rfl, trivial⟩ ?_; clear hN; intro a0 hN) | (refine C_rgnk (id := 4) hN [(0, _), (1, _), (4, _), (5, _), (11, _)] ⟨rfl, rfl, rfl, rfl, rfl, trivial⟩ ?_; clear hN; intro a0 hN) | (refine C_if hN rfl (fun hb => ?_) (fun hb => ?_) <;> ((first | (exfalso; omega) | (exfalso; exact hb rfl) | (exfalso; exact hb (fun h => h rfl)) | ((with_reducible refine absurd ?_ hb); (repeat' (first | exact trivial | refine And.intro rfl ?_)); done) | (replace hb := Classical.not_not.1 hb) | skip))) | (refine C_skip ?_) | (refine C_ret ?_) | (refine C_block ?_)))
    | (refine isE ?_; (first | (refine E_thn ?_) | (refine E_thn_ret ?_) | (refine E_ret hN Try.results82 (.tmp rfl .nil) ?_))))
  all_goals first
    | exact ⟨ret_bf (fun h => by subst h; omega), hT.sel [] rfl⟩
    | skip
  all_goals
    have hl : a.length = b.length := by omega
    refine C_loop hN (X := Nat × UInt8) (fun z => [(0, .slice x a.length c), (1, .slice y b.length d), (5, .int .u8 (z.2.toNat : Int)), (13, .int .i64 a.length), (14, .int .i64 z.1)])
      (fun z w1 => z.1 ≤ a.length ∧ (z.2 = 0 ↔ a.take z.1 = b.take z.1) ∧ Tk [] w w1 [] m) (fun z => a.length - z.1) (0, 0) ⟨rfl, rfl, rfl, rfl, rfl, trivial⟩ ⟨Nat.zero_le _, by simp, hT⟩ ?_
    clear hN hT
    rintro ⟨i, D⟩ a0 ww hN ⟨hi, hD, hT⟩
    dsimp only at hi hD hT ⊢
    by_cases hi0 : i = a.length
    · have hDe : (D.toNat : Int) = 0 ↔ a = b := by
        rw [hi0, List.take_length, hl, List.take_length] at hD
        rw [← hD]
        constructor
        · intro h; exact UInt8.toNat_inj.1 (by have : (0 : UInt8).toNat = 0 := rfl; omega)
        · rintro rfl; rfl
      repeat' (first
        | (refine isT ?_; (first | (refine T_assign hN rfl (by first | exact .inr trivial | exact .inl rfl) ?_) | (refine T_move hN rfl (by first | exact .inr trivial | exact .inl rfl) ?_) | (refine T_nil ?_) | (refine is_binOp ?_; (first | (refine T_eql hN rfl rfl (by first | exact .inr trivial | exact .inl rfl) ?_) | (refine T_lss hN rfl rfl (by first | exact .inr trivial | exact .inl rfl) ?_)))))
        | (refine isC ?_; (first | (refine C_seq ?_) | (refine C_rgn ?_) | (refine C_if hN rfl (fun hb => ?_) (fun hb => ?_) <;> ((first | (exfalso; omega) | (exfalso; exact hb rfl) | (exfalso; exact hb (fun h => h rfl)) | ((with_reducible refine absurd ?_ hb); (repeat' (first | exact trivial | refine And.intro rfl ?_)); done) | (replace hb := Classical.not_not.1 hb) | skip))) | (refine C_ret ?_) | (refine C_exit ?_)))
        | (refine isE ?_; (first | (refine E_thn ?_) | (refine E_thn_exit ?_) | (refine E_blk_hit ?_) | (refine E_lp_exit ?_) | (refine E_ret hN Try.results82 (.tmp rfl .nil) ?_))))
      all_goals exact ⟨ret_bb hDe, hT.sel [] rfl⟩
    · have hb1 := hT.mrd hm1
      have hb2 := hT.mrd hm2
      obtain ⟨B1, o1, rfl⟩ := hb1.addr (by omega)
      obtain ⟨B2, o2, rfl⟩ := hb2.addr (by omega)
      repeat' (first
        | (refine isT ?_; (first | (refine T_assign hN rfl (by first | exact .inr trivial | exact .inl rfl) ?_) | (refine T_move hN rfl (by first | exact .inr trivial | exact .inl rfl) ?_) | (refine T_nil ?_) | (refine T_nild ?_) | (refine is_load ?_; (first | (refine T_loadc hN rfl (byte_cell (hT.mrd hm1) (by omega)) (by first | exact .inl rfl | exact .inr ⟨by decide, trivial⟩) ?_) | (refine T_loadc hN rfl (byte_cell (hT.mrd hm2) (by omega)) (by first | exact .inl rfl | exact .inr ⟨by decide, trivial⟩) ?_))) | (refine is_binOp ?_; (first | (refine T_xor (r := ((gb a i ^^^ gb b i : UInt8).toNat : Int)) hN rfl rfl (b_xor (gb a i) (gb b i)) (by first | exact .inr trivial | exact .inl rfl) ?_) | (refine T_or (r := ((D ||| (gb a i ^^^ gb b i) : UInt8).toNat : Int)) hN rfl rfl (b_or D (gb a i ^^^ gb b i)) (by first | exact .inr trivial | exact .inl rfl) ?_) | (refine T_addi64 hN rfl rfl (by omega) (by first | exact .inr trivial | exact .inl rfl) ?_) | (refine T_lss hN rfl rfl (by first | exact .inr trivial | exact .inl rfl) ?_))) | (refine is_indexAddr ?_; (first | (refine T_indexAddr hN rfl rfl (by omega) (by first | exact .inr trivial | exact .inl rfl) ?_)))))
        | (refine isC ?_; (first | (refine C_seq ?_) | (refine C_rgn ?_) | (refine C_if hN rfl (fun hb => ?_) (fun hb => ?_) <;> ((first | (exfalso; omega) | (exfalso; exact hb rfl) | (exfalso; exact hb (fun h => h rfl)) | ((with_reducible refine absurd ?_ hb); (repeat' (first | exact trivial | refine And.intro rfl ?_)); done) | (replace hb := Classical.not_not.1 hb) | skip))) | (refine C_skip ?_) | (refine C_block ?_) | (refine C_draw (id := 7) [0, 0, 0, 0, 1, 0, 0, 0, 1] Any Try.mixed (by kernel_rfl) trivial ?_; replace hT := hT.drew)))
        | (refine isE ?_; (first | (refine E_thn ?_) | (refine E_blk ?_))))
      all_goals exact E_mk hN (i + 1, D ||| (gb a i ^^^ gb b i)) ⟨rfl, rfl, rfl, rfl, evI rfl (by omega), trivial⟩ ⟨⟨by dsimp only; omega, by dsimp only; rw [or_zero, xor_zero, hD, take_eq (by omega) hl], hT⟩, by dsimp only; omega⟩
end Go.Proofs.Ytfcmjlbfoindaaa
