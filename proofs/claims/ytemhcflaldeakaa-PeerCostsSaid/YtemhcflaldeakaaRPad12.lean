/- THE WALKS of a sum, the document's. -/
import Derived.Test.YtemhcflaldeakaaRMix12
namespace Go.Fp
open Go Go.RowKit
/-- A number's bytes, laid from the last. -/
def lowC (n i : Nat) : List Value := u8s (List.replicate i 0 ++ (be 8 n).drop i)
theorem lowC_len (n : Nat) {i : Nat} (h : i ≤ 8) : (lowC n i).length = 8 := by
  unfold lowC; rw [u8s_length, List.length_append, List.length_drop, be_length, List.length_replicate]; omega
theorem lowC_8 (n : Nat) : lowC n 8 = List.replicate 8 (.int .u8 0) := by
  unfold lowC
  rw [List.drop_eq_nil_of_le (by rw [be_length]; exact Nat.le_refl _), List.append_nil]; simp [u8s, u8]
theorem lowC_0 (n : Nat) : lowC n 0 = u8s (be 8 n) := by simp [lowC]
theorem lowC_step (n : Nat) {i : Nat} (h0 : ¬ i = 0) (h : i ≤ 8) : (lowC n i).set (0 + (i - 1) * 1) (u8 (UInt8.ofNat (n / 256 ^ (8 - i) % 256))) = lowC n (i - 1) := by
  obtain ⟨k, rfl⟩ : ∃ k, i = k + 1 := ⟨i - 1, by omega⟩
  unfold lowC
  rw [u8s_set, Nat.zero_add, Nat.mul_one, Nat.add_sub_cancel, List.replicate_succ', List.append_assoc]
  congr 1
  have hk : k < (be 8 n).length := by rw [be_length]; omega
  have hg := be_get 8 n k (by omega)
  rw [List.getElem?_eq_getElem hk] at hg
  have hg := Option.some.inj hg
  rw [List.drop_eq_getElem_cons hk, hg, set_app _ _ _ 0 _ (by simp)]
  have e : UInt8.ofNat (n / 256 ^ (8 - (k + 1)) % 256) = UInt8.ofNat (n / 256 ^ (8 - 1 - k)) := by
    apply UInt8.toNat_inj.1
    rw [UInt8.toNat_ofNat', UInt8.toNat_ofNat', show 8 - (k + 1) = 8 - 1 - k by omega]
    omega
  rw [e]; rfl
end Go.Fp
namespace Go.Proofs.Ytemhcflaldeakaa
open Go.RowKit Go.Fp
attribute [local irreducible] Go.Calls
set_option maxRecDepth 100000
set_option maxHeartbeats 16000000
attribute [local irreducible] S8.mix sh0 S8.blks be
def pq (p : List UInt8) (j : Nat) : List UInt8 := p ++ 0x80 :: List.replicate j 0
theorem pq_succ (p : List UInt8) (j : Nat) : pq p (j + 1) = pq p j ++ [0] := by unfold pq; rw [List.replicate_succ']; simp
theorem pq_pad (p : List UInt8) : pq p (padN p.length) ++ be 8 (p.length * 8) = p ++ padT p.length := by unfold pq padT; simp
theorem pq_len (p : List UInt8) (j : Nat) : (pq p j).length = p.length + 1 + j := by unfold pq; rw [List.length_append]; simp; omega
theorem ref_Pad (x : Option Addr) (c : Nat) (p : List UInt8) (hx : x = none → p.length = 0 ∧ c = 0) (hn : p.length ≤ 2000000) (w : World) {m : List Ob} (hm : Ob.rd x p.length 1 (u8s p) ∈ m) (hT : Tk [] w w [] m) :
    Calls Try.prog 70 #[.slice x p.length c] w fun e w' => ∃ (x' : Option Addr) (c' : Nat), e = .returned (.slice x' (p ++ padT p.length).length c') ∧ Tk [] w w' [Ob.own 5 1 (.slice x' (p ++ padT p.length).length c') (p ++ padT p.length).length (u8s (p ++ padT p.length))] m := by
  have hpp := pq_pad p
  have hz : padN p.length = (119 - p.length % 64) % 64 := rfl
  generalize padN p.length = z at *
  refine enter [(0, _)] Try.func70 rfl Try.ntmps70 (Nat.le_of_ble_eq_true rfl) rfl ?_; intro a0 hN
  repeat' (first
    | (refine isT ?_; (first | (refine T_assign hN rfl (by first | exact .inr trivial | exact .inl rfl) ?_) | (refine T_move hN rfl (by first | exact .inr trivial | exact .inl rfl) ?_) | (refine T_nil ?_) | (refine is_call ?_; (first | (refine T_append hN hT 0 (by rfl) (by rfl) rfl rfl rfl hx (hT.mrd hm) (u8s_all1 _) (by unfold maxLen; omega) (by omega) (by decide) ?_; clear hT; intro x1 c1 ww hT; refine ⟨trivial, ?_⟩) | (refine T_append hN hT 1 (by rfl) (by rfl) rfl rfl rfl (fun h => by cases h) (blk_rdz (sz := 1) (hT.has 0 rfl) rfl rfl) (all1_sing rfl) (by unfold maxLen; omega) (by omega) (by decide) ?_; clear hT; intro x2 c2 ww hT; refine ⟨trivial, ?_⟩))) | (refine is_buildSlice ?_; (first | (refine T_slice0 hN hT (by decide) ?_; clear hT; intro g ww hT; refine ⟨(by first | exact trivial), ?_⟩) | (refine T_slice1 hN hT rfl rfl (by decide) ?_; clear hT; intro g ww hT; refine ⟨(by first | exact trivial), ?_⟩)))))
    | (refine isC ?_; (first | (refine C_seq ?_) | (refine C_rgnk (id := 0) hN [(0, _)] ⟨rfl, trivial⟩ ?_; clear hN; intro a0 hN) | (refine C_rgnk (id := 1) hN [(0, _), (2, _)] ⟨rfl, rfl, trivial⟩ ?_; clear hN; intro a0 hN) | (refine C_rgnk (id := 2) hN [(0, _), (2, _), (3, _)] ⟨rfl, rfl, rfl, trivial⟩ ?_; clear hN; intro a0 hN) | (refine C_block ?_)))
    | (refine isE ?_; (first | (refine E_thn ?_))))
  all_goals
    have hT1 : Tk [] w ww [Ob.own 5 1 (.slice x2 (pq p 0).length c2) (pq p 0).length (u8s (pq p 0))] m := by
      have e1 : (pq p 0).length = 0 + p.length + 1 := by rw [pq_len]; omega
      have e2 : u8s (pq p 0) = [] ++ u8s p ++ List.take (1 * 1) (List.drop 0 [Value.int IntKind.u8 128]) := by unfold pq; rw [u8s_append]; rfl
      rw [e1, e2]
      exact hT.drop
    clear hT
    refine C_loop hN (X := Nat × Option Addr × Nat) (fun t => [(0, .slice x p.length c), (3, .slice t.2.1 (pq p t.1).length t.2.2)])
      (fun t w1 => t.1 ≤ z ∧ Tk [] w w1 [Ob.own 5 1 (.slice t.2.1 (pq p t.1).length t.2.2) (pq p t.1).length (u8s (pq p t.1))] m) (fun t => z - t.1) (0, x2, c2) ⟨rfl, evV rfl (by rw [pq_len]; dsimp only; congr 1; omega), trivial⟩ ⟨Nat.zero_le _, hT1⟩ ?_
    clear hN hT1
    rintro ⟨j, x1, c1⟩ a0 ww hN ⟨hj, hT⟩
    dsimp only at hj hT ⊢
    have hpj := pq_len p j
    by_cases hj0 : j = z
    · subst hj0
      generalize pq p j = B0 at *
      repeat' (first
        | (refine isT ?_; (first | (refine T_assign hN rfl (by first | exact .inr trivial | exact .inl rfl) ?_) | (refine T_move hN rfl (by first | exact .inr trivial | exact .inl rfl) ?_) | (refine T_nil ?_) | (refine is_binOp ?_; (first | (refine T_mul (r := ((p.length * 8 : Nat) : Int)) hN rfl rfl (by rw [Go.IntWalk.u64_in _ (by omega)]; omega) (by first | exact .inr trivial | exact .inl rfl) ?_) | (refine T_neq hN rfl rfl (by first | exact .inr trivial | exact .inl rfl) ?_) | (refine T_rem (r := ?_) hN rfl rfl (by omega) ?_ (by first | exact .inr trivial | exact .inl rfl) ?_; rotate_left; (focus (first | (refine Go.IntWalk.rem_in _ _ ?_; omega) | exact rfl))))) | (refine is_call ?_; (first | (refine T_len hN rfl (by first | exact .inr trivial | exact .inl rfl) ?_))) | (refine is_alloc ?_; (first | (refine T_alloc (d := 5) hN hT (by decide) ?_; clear hT; intro g5 ww hT; refine ⟨trivial, ?_⟩))) | (refine is_convert ?_; (first | (refine T_conv (r := ?_) hN rfl ?_ (by first | exact .inr trivial | exact .inl rfl) ?_; rotate_left; (focus (first | (refine Eq.trans (Go.IntWalk.i64_in _ (by omega)) ?_; (first | (simp only [Int.reduceAdd, Int.reduceSub, Int.reduceMul, Int.reduceNeg, Int.reduceDiv, Int.reduceMod]; rfl) | rfl)) | (refine Eq.trans (Go.IntWalk.u64_in _ (by omega)) ?_; (first | (simp only [Int.reduceAdd, Int.reduceSub, Int.reduceMul, Int.reduceNeg, Int.reduceDiv, Int.reduceMod]; rfl) | rfl)) | (refine Go.IntWalk.u32_in _ ?_; omega) | (refine Go.IntWalk.u8_in _ ?_; omega) | exact rfl)))))))
        | (refine isC ?_; (first | (refine C_seq ?_) | (refine C_rgn ?_) | (refine C_if hN rfl (fun hb => ?_) (fun hb => ?_) <;> ((first | (exfalso; omega) | (exfalso; exact hb rfl) | (exfalso; exact hb (fun h => h rfl)) | ((with_reducible refine absurd ?_ hb); (repeat' (first | exact trivial | refine And.intro rfl ?_)); done) | (replace hb := Classical.not_not.1 hb) | skip))) | (refine C_block ?_) | (refine C_exit ?_)))
        | (refine isE ?_; (first | (refine E_thn ?_) | (refine E_thn_exit ?_) | (refine E_blk_hit ?_) | (refine E_lp_exit ?_))))
      all_goals
        have hT1 : Tk [] w ww [Ob.blk g5 149 (lowC (p.length * 8) 8), Ob.own 5 1 (.slice x1 B0.length c1) B0.length (u8s B0)] m := by rw [lowC_8]; exact hT
        clear hT
        refine C_loop hN (X := Nat) (fun i => [(3, .slice x1 B0.length c1), (4, .int .u64 ((p.length * 8 / 256 ^ (8 - i) : Nat) : Int)), (5, .pointer (some ⟨g5, 0, none⟩)), (6, .int .i64 ((i : Int) - 1))])
          (fun i w1 => i ≤ 8 ∧ Tk [] w w1 [Ob.blk g5 149 (lowC (p.length * 8) i), Ob.own 5 1 (.slice x1 B0.length c1) B0.length (u8s B0)] m) (fun i => i) 8 ⟨rfl, evI rfl (by simp), rfl, evI rfl (by omega), trivial⟩ ⟨Nat.le_refl _, hT1⟩ ?_
        clear hN hT1 hj
        rintro i a0 ww hN ⟨hi, hT⟩
        by_cases hi0 : i = 0
        · subst hi0
          rw [lowC_0] at hT
          repeat' (first
            | (refine isT ?_; (first | (refine T_assign hN rfl (by first | exact .inr trivial | exact .inl rfl) ?_) | (refine T_move hN rfl (by first | exact .inr trivial | exact .inl rfl) ?_) | (refine T_nil ?_) | (refine is_binOp ?_; (first | (refine T_geq hN rfl rfl (by first | exact .inr trivial | exact .inl rfl) ?_))) | (refine is_call ?_; (first | (refine T_append hN hT 1 (by rfl) (by rfl) rfl rfl rfl (fun h => by cases h) (blk_rdz (n := 8) (sz := 1) (hT.has 0 rfl) (by rw [u8s_length, be_length]) (by rw [List.drop_zero, List.take_of_length_le (by rw [u8s_length, be_length]; exact Nat.le_refl _)])) (u8s_all1 (be 8 (p.length * 8))) (by unfold maxLen; omega) (by omega) (by decide) ?_; clear hT; intro x2 c2 ww hT; refine ⟨trivial, ?_⟩))) | (refine is_slice ?_; (first | (refine T_slcA hN rfl (by first | exact .inr trivial | exact .inl rfl) ?_)))))
            | (refine isC ?_; (first | (refine C_seq ?_) | (refine C_rgn ?_) | (refine C_if hN rfl (fun hb => ?_) (fun hb => ?_) <;> ((first | (exfalso; omega) | (exfalso; exact hb rfl) | (exfalso; exact hb (fun h => h rfl)) | ((with_reducible refine absurd ?_ hb); (repeat' (first | exact trivial | refine And.intro rfl ?_)); done) | (replace hb := Classical.not_not.1 hb) | skip))) | (refine C_ret ?_) | (refine C_exit ?_)))
            | (refine isE ?_; (first | (refine E_thn ?_) | (refine E_thn_exit ?_) | (refine E_blk_hit ?_) | (refine E_lp_exit ?_) | (refine E_ret hN Try.results70 (.tmp rfl .nil) ?_))))
          all_goals
            rw [← hpp, List.length_append, be_length, u8s_append]
            exact ⟨x2, c2, rfl, hT.sel [1] rfl⟩
        · have hcl : (lowC (p.length * 8) i).length = 8 := lowC_len _ hi
          have hq : p.length * 8 / 256 ^ (8 - (i - 1)) = p.length * 8 / 256 ^ (8 - i) / 256 := by
            rw [show 8 - (i - 1) = (8 - i) + 1 by omega, Nat.pow_succ, Nat.div_div_eq_div_mul]
          have hle : p.length * 8 / 256 ^ (8 - i) ≤ p.length * 8 := Nat.div_le_self _ _
          have hst := lowC_step (p.length * 8) (i := i) (by omega) hi
          generalize p.length * 8 / 256 ^ (8 - i) = V at *
          have hwb := wrap_byte (V % 256)
          repeat' (first
            | (refine isT ?_; (first | (refine T_assign hN rfl (by first | exact .inr trivial | exact .inl rfl) ?_) | (refine T_move hN rfl (by first | exact .inr trivial | exact .inl rfl) ?_) | (refine T_nil ?_) | (refine is_binOp ?_; (first | (refine T_rem (r := ((V % 256 : Nat) : Int)) hN rfl rfl (by omega) rfl (by first | exact .inr trivial | exact .inl rfl) ?_) | (refine T_quo (r := ((V / 256 : Nat) : Int)) hN rfl rfl (by omega) (Go.IntWalk.u64_in _ (by show 0 ≤ ((V / 256 : Nat) : Int) ∧ ((V / 256 : Nat) : Int) ≤ _; omega)) (by first | exact .inr trivial | exact .inl rfl) ?_) | (refine T_geq hN rfl rfl (by first | exact .inr trivial | exact .inl rfl) ?_) | (refine T_subi64 hN rfl rfl (by omega) (by first | exact .inr trivial | exact .inl rfl) ?_))) | (refine is_store ?_; (first | (refine T_store hN hT 0 rfl rfl rfl (List.getElem?_eq_getElem (by rw [hcl]; omega)) rfl (by decide) ?_; clear hT; intro ww hT; refine ⟨trivial, ?_⟩))) | (refine is_convert ?_; (first | (refine T_conv hN rfl hwb (by first | exact .inr trivial | exact .inl rfl) ?_))) | (refine is_indexAddr ?_; (first | (refine T_indexAddrA (j := i - 1) hN rfl (evI rfl (by omega)) (by omega) (by first | exact .inr trivial | exact .inl rfl) ?_)))))
            | (refine isC ?_; (first | (refine C_seq ?_) | (refine C_rgn ?_) | (refine C_if hN rfl (fun hb => ?_) (fun hb => ?_) <;> ((first | (exfalso; omega) | (exfalso; exact hb rfl) | (exfalso; exact hb (fun h => h rfl)) | ((with_reducible refine absurd ?_ hb); (repeat' (first | exact trivial | refine And.intro rfl ?_)); done) | (replace hb := Classical.not_not.1 hb) | skip))) | (refine C_skip ?_) | (refine C_block ?_)))
            | (refine isE ?_; (first | (refine E_thn ?_) | (refine E_blk ?_))))
          all_goals exact E_mk hN (i - 1) ⟨rfl, evI rfl (by rw [hq]), rfl, evI rfl (by omega), trivial⟩ ⟨⟨by omega, by rw [← hst]; exact hT⟩, by omega⟩
    · have hps := pq_succ p j
      generalize pq p j = B0 at *
      repeat' (first
        | (refine isT ?_; (first | (refine T_assign hN rfl (by first | exact .inr trivial | exact .inl rfl) ?_) | (refine T_move hN rfl (by first | exact .inr trivial | exact .inl rfl) ?_) | (refine T_nil ?_) | (refine is_binOp ?_; (first | (refine T_neq hN rfl rfl (by first | exact .inr trivial | exact .inl rfl) ?_) | (refine T_rem (r := ?_) hN rfl rfl (by omega) ?_ (by first | exact .inr trivial | exact .inl rfl) ?_; rotate_left; (focus (first | (refine Go.IntWalk.rem_in _ _ ?_; omega) | exact rfl))))) | (refine is_call ?_; (first | (refine T_append hN hT 1 (by rfl) (by rfl) rfl rfl rfl (fun h => by cases h) (blk_rdz (sz := 1) (hT.has 0 rfl) rfl rfl) (all1_sing rfl) (by unfold maxLen; omega) (by omega) (by decide) ?_; clear hT; intro x2 c2 ww hT; refine ⟨trivial, ?_⟩) | (refine T_len hN rfl (by first | exact .inr trivial | exact .inl rfl) ?_))) | (refine is_buildSlice ?_; (first | (refine T_slice1 hN hT rfl rfl (by decide) ?_; clear hT; intro g ww hT; refine ⟨(by first | exact trivial), ?_⟩)))))
        | (refine isC ?_; (first | (refine C_seq ?_) | (refine C_rgn ?_) | (refine C_if hN rfl (fun hb => ?_) (fun hb => ?_) <;> ((first | (exfalso; omega) | (exfalso; exact hb rfl) | (exfalso; exact hb (fun h => h rfl)) | ((with_reducible refine absurd ?_ hb); (repeat' (first | exact trivial | refine And.intro rfl ?_)); done) | (replace hb := Classical.not_not.1 hb) | skip))) | (refine C_skip ?_) | (refine C_block ?_)))
        | (refine isE ?_; (first | (refine E_thn ?_) | (refine E_blk ?_))))
      all_goals
        refine E_mk hN (j + 1, x2, c2) ⟨rfl, evV rfl (by dsimp only; rw [hps, List.length_append]; rfl), trivial⟩ ⟨⟨by dsimp only; omega, ?_⟩, by dsimp only; omega⟩
        dsimp only
        rw [hps, List.length_append, u8s_append]
        exact hT.drop
end Go.Proofs.Ytemhcflaldeakaa
