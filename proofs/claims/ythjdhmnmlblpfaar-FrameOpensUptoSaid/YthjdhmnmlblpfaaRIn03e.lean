/- THE WALKS of what takes fields: short sums. -/
import Derived.Test.YthjdhmnmlblpfaaRIn03d
import Derived.Test.YthjdhmnmlblpfaaRPU21
namespace Go.Proofs.YthjdhmnmlblpfaaR
open Go.RowKit Go.Fp
attribute [local irreducible] Go.Calls
set_option maxRecDepth 100000
set_option maxHeartbeats 2000000
/-- So many short sums, while nothing is wrong. -/
def smN : Nat → List UInt8 × Int → List (List UInt8) × (List UInt8 × Int)
  | 0, s => ([], s)
  | k + 1, s => if s.2 = 0 then (sm s :: (smN k (nxt 16 s)).1, (smN k (nxt 16 s)).2) else ([], s)
def ss0 (most : Int) (s : List UInt8 × Int) : List UInt8 × Int := if max most 0 < (nm 1 s : Int) then fl 8 (nxt 1 s) else nxt 1 s
def ss (most : Int) (s : List UInt8 × Int) : List (List UInt8) := if (smN (nm 1 s) (ss0 most s)).2.2 = 0 then (smN (nm 1 s) (ss0 most s)).1 else []
def sst (most : Int) (s : List UInt8 × Int) : List UInt8 × Int := (smN (nm 1 s) (ss0 most s)).2
theorem In_Sums (q : Nat) (s : List UInt8 × Int) (most : Int) (hm : -9223372036854775808 ≤ most ∧ most ≤ 9223372036854775807) (f : List Nat) (w : World) {m : List Ob} (hT : Tk f w w [In q s.1 s.2] m) :
    Calls Try.prog 68 #[.pointer (some ⟨q, 0, none⟩), .int .i64 most] w fun en w' => ∃ x c, en = .returned (.slice x (ss most s).length c) ∧ Tk f w w' [In q (sst most s).1 (sst most s).2, Ob.own 87 16 (.slice x (ss most s).length c) (ss most s).length (u8s (ss most s).flatten)] m := by
  have hlt := nm_lt 1 s
  have hU := In_U8 q s
  have hF := In_Fail q (nxt 1 s).1 (nxt 1 s).2
  have hs0 : ss0 most s = if max most 0 < (nm 1 s : Int) then fl 8 (nxt 1 s) else nxt 1 s := rfl
  unfold ss sst
  generalize ss0 most s = s1 at *
  generalize nm 1 s = v at *
  refine enter [(0, _), (1, _)] Try.func68 rfl Try.ntmps68 (Nat.le_of_ble_eq_true rfl) rfl ?_; intro a0 hN
  repeat' (first
    | (refine isT ?_; (first | (refine T_assign hN rfl (by first | exact .inr trivial | exact .inl rfl) ?_) | (refine T_move hN rfl (by first | exact .inr trivial | exact .inl rfl) ?_) | (refine T_nil ?_) | (refine is_binOp ?_; (first | (refine T_gtr hN rfl rfl (by first | exact .inr trivial | exact .inl rfl) ?_))) | (refine is_call ?_; (first | (refine is_call ?_; obtain ⟨f1, hP, hK⟩ := hT.call1m 0 rfl; refine T_call (f := 48) hN rfl (by decide) (hU f1 _ hP) ?_; rintro e ww ⟨rfl, h1⟩; clear hT hP; replace hT := hK _ _ _ _ h1; clear hK h1; refine ⟨_, rfl, (by first | exact trivial | ((repeat' (first | exact hT.has 0 rfl | exact hT.has 1 rfl | exact hT.has 2 rfl | exact hT.has 3 rfl | exact hT.has 4 rfl | exact hT.has 5 rfl | exact hT.ord 0 rfl | exact hT.ord 1 rfl | exact hT.ord 2 rfl | exact hT.ord 3 rfl | exact hT.ord 4 rfl | exact hT.ord 5 rfl | exact hT.mrd (by assumption) | refine And.intro ?_ ?_)); done)), ?_⟩) | (refine is_call ?_; obtain ⟨f1, hP, hK⟩ := hT.call1m 0 rfl; refine T_call (f := 49) hN rfl (by decide) (hF f1 _ hP 8) ?_; rintro e ww ⟨rfl, h1⟩; clear hT hP; replace hT := hK _ _ _ _ h1; clear hK h1; refine ⟨_, rfl, (by first | exact trivial | ((repeat' (first | exact hT.has 0 rfl | exact hT.has 1 rfl | exact hT.has 2 rfl | exact hT.has 3 rfl | exact hT.has 4 rfl | exact hT.has 5 rfl | exact hT.ord 0 rfl | exact hT.ord 1 rfl | exact hT.ord 2 rfl | exact hT.ord 3 rfl | exact hT.ord 4 rfl | exact hT.ord 5 rfl | exact hT.mrd (by assumption) | refine And.intro ?_ ?_)); done)), ?_⟩) | (refine T_max hN rfl rfl (by first | exact .inr trivial | exact .inl rfl) ?_))) | (refine is_convert ?_; (first | (refine T_conv (r := ?_) hN rfl ?_ (by first | exact .inr trivial | exact .inl rfl) ?_; rotate_left; (focus (first | (refine Eq.trans (Go.IntWalk.i64_in _ (by omega)) ?_; (first | (simp only [Int.reduceAdd, Int.reduceSub, Int.reduceMul, Int.reduceNeg, Int.reduceDiv, Int.reduceMod]; rfl) | rfl)) | (refine Eq.trans (Go.IntWalk.u64_in _ (by omega)) ?_; (first | (simp only [Int.reduceAdd, Int.reduceSub, Int.reduceMul, Int.reduceNeg, Int.reduceDiv, Int.reduceMod]; rfl) | rfl)) | (refine Go.IntWalk.u32_in _ ?_; omega) | (refine Go.IntWalk.u8_in _ ?_; omega) | exact rfl)))))))
    | (refine isC ?_; (first | (refine C_seq ?_) | (refine C_rgnk (id := 0) hN [(0, _), (1, _)] ⟨rfl, rfl, trivial⟩ ?_; clear hN; intro a0 hN) | (refine C_rgnk (id := 1) hN [(0, _), (1, _), (4, _)] ⟨rfl, rfl, rfl, trivial⟩ ?_; clear hN; intro a0 hN) | (refine C_rgnk (id := 2) hN [(0, _), (1, _), (4, _), (5, _)] ⟨rfl, rfl, rfl, rfl, trivial⟩ ?_; clear hN; intro a0 hN) | (refine C_rgnk (id := 3) hN [(0, _), (1, _), (4, _), (5, _), (13, _)] ⟨rfl, rfl, rfl, rfl, rfl, trivial⟩ ?_; clear hN; intro a0 hN) | (refine C_rgnk (id := 4) hN [(0, _), (1, _), (4, _), (5, _), (13, _)] ⟨rfl, rfl, rfl, rfl, rfl, trivial⟩ ?_; clear hN; intro a0 hN) | (refine C_if hN rfl (fun hb => ?_) (fun hb => ?_) <;> ((first | (exfalso; omega) | (exfalso; exact hb rfl) | (exfalso; exact hb (fun h => h rfl)) | ((with_reducible refine absurd ?_ hb); (repeat' (first | exact trivial | refine And.intro rfl ?_)); done) | (replace hb := Classical.not_not.1 hb) | skip))) | (refine C_skip ?_) | (refine C_block ?_)))
    | (refine isE ?_; (first | (refine E_thn ?_))))
  all_goals
    have hT0 : Tk f w ww [In q s1.1 s1.2, Ob.own 87 16 (.slice none 0 0) 0 []] m := by
      first
        | (rw [if_pos (by omega)] at hs0; rw [hs0]; exact (hT.addnil 87 16).swap)
        | (rw [if_neg (by omega)] at hs0; rw [hs0]; exact (hT.addnil 87 16).swap)
    clear hT
    refine C_loop hN (X := Nat × List (List UInt8) × (List UInt8 × Int) × Option Addr × Nat) (fun y => [(0, .pointer (some ⟨q, 0, none⟩)), (5, .int .u64 y.1), (6, .slice y.2.2.2.1 y.2.1.length y.2.2.2.2)]) (fun y w1 => y.2.1.length + y.1 ≤ 255 ∧ smN v s1 = (y.2.1 ++ (smN y.1 y.2.2.1).1, (smN y.1 y.2.2.1).2) ∧ Tk f w w1 [In q y.2.2.1.1 y.2.2.1.2, Ob.own 87 16 (.slice y.2.2.2.1 y.2.1.length y.2.2.2.2) y.2.1.length (u8s y.2.1.flatten)] m) (fun y => y.1) (v, [], s1, none, 0) ⟨rfl, rfl, rfl, trivial⟩ ⟨by simp only [List.length_nil]; omega, rfl, hT0⟩ ?_
    clear hN hT0
    rintro ⟨n, acc, st, x, c⟩ a0 ww hN ⟨hle, hinv, hT⟩
    dsimp only at hle hinv hT ⊢
    have hE := In_Err q st.1 st.2
    have hS := In_Sum q st
    have hsl := sm_length st
    cases n with
    | zero =>
      have e1 : smN 0 st = ([], st) := rfl
      rw [e1, List.append_nil] at hinv
      rw [hinv]
      by_cases hst : st.2 = 0
      · rw [if_pos hst]
        repeat' (first
          | (refine isT ?_; (first | (refine isGuard ?_; (first | (refine T_no hN rfl rfl rfl rfl ?_) | (refine T_guardD hN rfl rfl rfl (fun hb => ?_) (fun hb => ?_) <;> ((first | (exfalso; omega) | (exfalso; exact hb rfl) | (exfalso; exact hb (fun h => h rfl)) | ((with_reducible refine absurd ?_ hb); (repeat' (first | exact trivial | refine And.intro rfl ?_)); done) | (replace hb := Classical.not_not.1 hb) | skip))))) | (refine T_assign hN rfl (by first | exact .inr trivial | exact .inl rfl) ?_) | (refine T_move hN rfl (by first | exact .inr trivial | exact .inl rfl) ?_) | (refine T_nil ?_) | (refine is_binOp ?_; (first | (refine T_gtr hN rfl rfl (by first | exact .inr trivial | exact .inl rfl) ?_) | (refine T_neq hN rfl rfl (by first | exact .inr trivial | exact .inl rfl) ?_))) | (refine is_pick ?_; (first | (refine T_pick0 hN rfl rfl (by first | exact .inr trivial | exact .inl rfl) ?_))) | (refine is_call ?_; (first | (refine is_call ?_; obtain ⟨f1, hP, hK⟩ := hT.call1m 0 rfl; refine T_call (f := 50) hN rfl (by decide) (hE f1 _ hP) ?_; rintro e ww ⟨rfl, h1⟩; clear hT hP; replace hT := hK _ _ _ _ h1; clear hK h1; refine ⟨_, rfl, (by first | exact trivial | ((repeat' (first | exact hT.has 0 rfl | exact hT.has 1 rfl | exact hT.has 2 rfl | exact hT.has 3 rfl | exact hT.has 4 rfl | exact hT.has 5 rfl | exact hT.ord 0 rfl | exact hT.ord 1 rfl | exact hT.ord 2 rfl | exact hT.ord 3 rfl | exact hT.ord 4 rfl | exact hT.ord 5 rfl | exact hT.mrd (by assumption) | refine And.intro ?_ ?_)); done)), ?_⟩)))))
          | (refine isC ?_; (first | (refine C_seq ?_) | (refine C_rgn ?_) | (refine C_false hN rfl ?_) | (refine C_if hN rfl (fun hb => ?_) (fun hb => ?_) <;> ((first | (exfalso; omega) | (exfalso; exact hb rfl) | (exfalso; exact hb (fun h => h rfl)) | ((with_reducible refine absurd ?_ hb); (repeat' (first | exact trivial | refine And.intro rfl ?_)); done) | (replace hb := Classical.not_not.1 hb) | skip))) | (refine C_skip ?_) | (refine C_ret ?_) | (refine C_exit ?_)))
          | (refine isE ?_; (first | (refine E_thn ?_) | (refine E_thn_exit ?_) | (refine E_blk_hit ?_) | (refine E_lp_exit ?_) | (refine E_ret hN Try.results68 (.tmp rfl .nil) ?_))))
        all_goals exact ⟨x, c, rfl, hT⟩
      · rw [if_neg hst]
        repeat' (first
          | (refine isT ?_; (first | (refine isGuard ?_; (first | (refine T_no hN rfl rfl rfl rfl ?_) | (refine T_guardD hN rfl rfl rfl (fun hb => ?_) (fun hb => ?_) <;> ((first | (exfalso; omega) | (exfalso; exact hb rfl) | (exfalso; exact hb (fun h => h rfl)) | ((with_reducible refine absurd ?_ hb); (repeat' (first | exact trivial | refine And.intro rfl ?_)); done) | (replace hb := Classical.not_not.1 hb) | skip))))) | (refine T_assign hN rfl (by first | exact .inr trivial | exact .inl rfl) ?_) | (refine T_move hN rfl (by first | exact .inr trivial | exact .inl rfl) ?_) | (refine T_nil ?_) | (refine is_binOp ?_; (first | (refine T_gtr hN rfl rfl (by first | exact .inr trivial | exact .inl rfl) ?_) | (refine T_neq hN rfl rfl (by first | exact .inr trivial | exact .inl rfl) ?_))) | (refine is_pick ?_; (first | (refine T_pick0 hN rfl rfl (by first | exact .inr trivial | exact .inl rfl) ?_))) | (refine is_call ?_; (first | (refine is_call ?_; obtain ⟨f1, hP, hK⟩ := hT.call1m 0 rfl; refine T_call (f := 50) hN rfl (by decide) (hE f1 _ hP) ?_; rintro e ww ⟨rfl, h1⟩; clear hT hP; replace hT := hK _ _ _ _ h1; clear hK h1; refine ⟨_, rfl, (by first | exact trivial | ((repeat' (first | exact hT.has 0 rfl | exact hT.has 1 rfl | exact hT.has 2 rfl | exact hT.has 3 rfl | exact hT.has 4 rfl | exact hT.has 5 rfl | exact hT.ord 0 rfl | exact hT.ord 1 rfl | exact hT.ord 2 rfl | exact hT.ord 3 rfl | exact hT.ord 4 rfl | exact hT.ord 5 rfl | exact hT.mrd (by assumption) | refine And.intro ?_ ?_)); done)), ?_⟩)))))
          | (refine isC ?_; (first | (refine C_seq ?_) | (refine C_rgn ?_) | (refine C_false hN rfl ?_) | (refine C_if hN rfl (fun hb => ?_) (fun hb => ?_) <;> ((first | (exfalso; omega) | (exfalso; exact hb rfl) | (exfalso; exact hb (fun h => h rfl)) | ((with_reducible refine absurd ?_ hb); (repeat' (first | exact trivial | refine And.intro rfl ?_)); done) | (replace hb := Classical.not_not.1 hb) | skip))) | (refine C_ret ?_) | (refine C_exit ?_)))
          | (refine isE ?_; (first | (refine E_thn ?_) | (refine E_thn_ret ?_) | (refine E_thn_exit ?_) | (refine E_blk_hit ?_) | (refine E_lp_exit ?_) | (refine E_ret hN Try.results68 (.tmp rfl .nil) ?_))))
        all_goals exact ⟨none, 0, rfl, ((hT.swap.drop).addnil 87 16).swap⟩
    | succ n =>
      by_cases hst : st.2 = 0
      · have e1 : smN (n + 1) st = (sm st :: (smN n (nxt 16 st)).1, (smN n (nxt 16 st)).2) := if_pos hst
        rw [e1] at hinv
        repeat' (first
          | (refine isT ?_; (first | (refine isGuard ?_; (first | (refine T_yes hN rfl rfl rfl ?_) | (refine T_guardD hN rfl rfl rfl (fun hb => ?_) (fun hb => ?_) <;> ((first | (exfalso; omega) | (exfalso; exact hb rfl) | (exfalso; exact hb (fun h => h rfl)) | ((with_reducible refine absurd ?_ hb); (repeat' (first | exact trivial | refine And.intro rfl ?_)); done) | (replace hb := Classical.not_not.1 hb) | skip))))) | (refine T_assign hN rfl (by first | exact .inr trivial | exact .inl rfl) ?_) | (refine T_move hN rfl (by first | exact .inr trivial | exact .inl rfl) ?_) | (refine T_nil ?_) | (refine is_binOp ?_; (first | (refine T_eql hN rfl rfl (by first | exact .inr trivial | exact .inl rfl) ?_) | (refine T_gtr hN rfl rfl (by first | exact .inr trivial | exact .inl rfl) ?_) | (refine T_subu64 hN rfl rfl (by omega) (by first | exact .inr trivial | exact .inl rfl) ?_))) | (refine is_pick ?_; (first | (refine T_pick1 hN rfl rfl (by first | exact .inr trivial | exact .inl rfl) ?_))) | (refine is_call ?_; (first | (refine is_call ?_; obtain ⟨f1, hP, hK⟩ := hT.call1m 0 rfl; refine T_call (f := 50) hN rfl (by decide) (hE f1 _ hP) ?_; rintro e ww ⟨rfl, h1⟩; clear hT hP; replace hT := hK _ _ _ _ h1; clear hK h1; refine ⟨_, rfl, (by first | exact trivial | ((repeat' (first | exact hT.has 0 rfl | exact hT.has 1 rfl | exact hT.has 2 rfl | exact hT.has 3 rfl | exact hT.has 4 rfl | exact hT.has 5 rfl | exact hT.ord 0 rfl | exact hT.ord 1 rfl | exact hT.ord 2 rfl | exact hT.ord 3 rfl | exact hT.ord 4 rfl | exact hT.ord 5 rfl | exact hT.mrd (by assumption) | refine And.intro ?_ ?_)); done)), ?_⟩) | (refine is_call ?_; obtain ⟨f1, hP, hK⟩ := hT.call1m 0 rfl; refine T_call (f := 67) hN rfl (by decide) (hS f1 _ hP) ?_; rintro e ww ⟨rfl, h1⟩; clear hT hP; replace hT := hK _ _ _ _ h1; clear hK h1; refine ⟨_, rfl, (by first | exact trivial | ((repeat' (first | exact hT.has 0 rfl | exact hT.has 1 rfl | exact hT.has 2 rfl | exact hT.has 3 rfl | exact hT.has 4 rfl | exact hT.has 5 rfl | exact hT.ord 0 rfl | exact hT.ord 1 rfl | exact hT.ord 2 rfl | exact hT.ord 3 rfl | exact hT.ord 4 rfl | exact hT.ord 5 rfl | exact hT.mrd (by assumption) | refine And.intro ?_ ?_)); done)), ?_⟩) | (refine T_append hN hT 2 (by rfl) (by rfl) rfl rfl rfl (fun h => by cases h) (blk_rdz (sz := 16) (hT.has 0 rfl) (by rw [u8s_length, hsl]) (by rw [List.drop_zero, List.take_of_length_le (by rw [u8s_length, hsl]; exact Nat.le_refl _)])) (u8s_all1 _) (by unfold maxLen; omega) (by omega) (by decide) ?_; clear hT; intro x1 c1 ww hT; refine ⟨trivial, ?_⟩))) | (refine is_buildSlice ?_; (first | (refine T_slicen (n := 16) hN hT (us := u8s (sm st)) (by rw [u8s_length, hsl]) (by rfl) (by rfl) (by rfl) rfl (by decide) ?_; clear hT; intro g ww hT; refine ⟨trivial, ?_⟩)))))
          | (refine isC ?_; (first | (refine C_seq ?_) | (refine C_rgn ?_) | (refine C_if hN rfl (fun hb => ?_) (fun hb => ?_) <;> ((first | (exfalso; omega) | (exfalso; exact hb rfl) | (exfalso; exact hb (fun h => h rfl)) | ((with_reducible refine absurd ?_ hb); (repeat' (first | exact trivial | refine And.intro rfl ?_)); done) | (replace hb := Classical.not_not.1 hb) | skip))) | (refine C_skip ?_) | (refine C_block ?_)))
          | (refine isE ?_; (first | (refine E_thn ?_) | (refine E_blk ?_))))
        all_goals
          have hlen : (acc ++ [sm st]).length = acc.length + 1 := by rw [List.length_append]; rfl
          have hfl : u8s (acc ++ [sm st]).flatten = u8s acc.flatten ++ u8s (sm st) := by rw [List.flatten_append, u8s_append]; simp
          have hT2 : Tk f w ww [In q (nxt 16 st).1 (nxt 16 st).2, Ob.own 87 16 (.slice x1 (acc ++ [sm st]).length c1) (acc ++ [sm st]).length (u8s (acc ++ [sm st]).flatten)] m := by
            rw [hlen, hfl]; exact hT.drop
          exact E_mk hN (n, acc ++ [sm st], nxt 16 st, x1, c1) ⟨rfl, evI rfl (by omega), by rw [hlen]; rfl, trivial⟩ ⟨⟨by rw [hlen]; omega, by rw [hinv, List.append_assoc]; rfl, hT2⟩, Nat.lt_succ_self n⟩
      · have e1 : smN (n + 1) st = ([], st) := if_neg hst
        rw [e1, List.append_nil] at hinv
        rw [hinv]
        rw [if_neg hst]
        repeat' (first
          | (refine isT ?_; (first | (refine isGuard ?_; (first | (refine T_yes hN rfl rfl rfl ?_) | (refine T_guardD hN rfl rfl rfl (fun hb => ?_) (fun hb => ?_) <;> ((first | (exfalso; omega) | (exfalso; exact hb rfl) | (exfalso; exact hb (fun h => h rfl)) | ((with_reducible refine absurd ?_ hb); (repeat' (first | exact trivial | refine And.intro rfl ?_)); done) | (replace hb := Classical.not_not.1 hb) | skip))))) | (refine T_assign hN rfl (by first | exact .inr trivial | exact .inl rfl) ?_) | (refine T_move hN rfl (by first | exact .inr trivial | exact .inl rfl) ?_) | (refine T_nil ?_) | (refine is_binOp ?_; (first | (refine T_eql hN rfl rfl (by first | exact .inr trivial | exact .inl rfl) ?_) | (refine T_gtr hN rfl rfl (by first | exact .inr trivial | exact .inl rfl) ?_) | (refine T_neq hN rfl rfl (by first | exact .inr trivial | exact .inl rfl) ?_))) | (refine is_pick ?_; (first | (refine T_pick1 hN rfl rfl (by first | exact .inr trivial | exact .inl rfl) ?_))) | (refine is_call ?_; (first | (refine is_call ?_; obtain ⟨f1, hP, hK⟩ := hT.call1m 0 rfl; refine T_call (f := 50) hN rfl (by decide) (hE f1 _ hP) ?_; rintro e ww ⟨rfl, h1⟩; clear hT hP; replace hT := hK _ _ _ _ h1; clear hK h1; refine ⟨_, rfl, (by first | exact trivial | ((repeat' (first | exact hT.has 0 rfl | exact hT.has 1 rfl | exact hT.has 2 rfl | exact hT.has 3 rfl | exact hT.has 4 rfl | exact hT.has 5 rfl | exact hT.ord 0 rfl | exact hT.ord 1 rfl | exact hT.ord 2 rfl | exact hT.ord 3 rfl | exact hT.ord 4 rfl | exact hT.ord 5 rfl | exact hT.mrd (by assumption) | refine And.intro ?_ ?_)); done)), ?_⟩)))))
          | (refine isC ?_; (first | (refine C_seq ?_) | (refine C_rgn ?_) | (refine C_if hN rfl (fun hb => ?_) (fun hb => ?_) <;> ((first | (exfalso; omega) | (exfalso; exact hb rfl) | (exfalso; exact hb (fun h => h rfl)) | ((with_reducible refine absurd ?_ hb); (repeat' (first | exact trivial | refine And.intro rfl ?_)); done) | (replace hb := Classical.not_not.1 hb) | skip))) | (refine C_ret ?_) | (refine C_exit ?_)))
          | (refine isE ?_; (first | (refine E_thn ?_) | (refine E_thn_ret ?_) | (refine E_thn_exit ?_) | (refine E_blk_hit ?_) | (refine E_lp_exit ?_) | (refine E_ret hN Try.results68 (.tmp rfl .nil) ?_))))
        all_goals exact ⟨none, 0, rfl, ((hT.swap.drop).addnil 87 16).swap⟩
end Go.Proofs.YthjdhmnmlblpfaaR
/- AN UPDATE THAT BYTES ARE, plainly. -/
namespace Go.Proofs.YthjdhmnmlblpfaaR
open Go.RowKit Go.Fp
/-- What is left behind each field of an entry. -/
def gs1 (s : List UInt8 × Int) := nxt 1 s
def gs2 (s : List UInt8 × Int) := nxt 4 (gs1 s)
def gs3 (s : List UInt8 × Int) := nxt 1 (gs2 s)
def gs4 (s : List UInt8 × Int) := nxt 1 (gs3 s)
def gs5 (s : List UInt8 × Int) := nxt 16 (gs4 s)
def gs6 (s : List UInt8 × Int) := sst 3 (gs5 s)
def gs7 (s : List UInt8 × Int) := sst 6 (gs6 s)
/-- The entry that bytes are. -/
def gEn (s : List UInt8 × Int) : En := ⟨(nm 1 s : Nat), nm 4 (gs1 s), nm 1 (gs2 s), (nm 1 (gs3 s) : Nat), sm (gs4 s), none, 0, ss 3 (gs5 s), none, 0, ss 6 (gs6 s)⟩
def gBad (last : Int) (s : List UInt8 × Int) : Prop := ((nm 1 s : Nat) : Int) ≤ last ∨ 8 ≤ ((nm 1 s : Nat) : Int) ∨ ¬ kOk (nm 4 (gs1 s)) (nm 1 (gs2 s)) ((nm 1 (gs3 s) : Nat) : Int)
instance (last : Int) (s : List UInt8 × Int) : Decidable (gBad last s) := by unfold gBad; infer_instance
def gs8 (last : Int) (s : List UInt8 × Int) : List UInt8 × Int := if (gs7 s).2 = 0 ∧ gBad last s then fl 10 (gs7 s) else gs7 s
/-- Entries, while nothing is wrong. -/
def gL : Nat → Int → List UInt8 × Int → List En × (List UInt8 × Int)
  | 0, _, s => ([], s)
  | n + 1, last, s => if s.2 = 0 then (gEn s :: (gL n ((nm 1 s : Nat) : Int) (gs8 last s)).1, (gL n ((nm 1 s : Nat) : Int) (gs8 last s)).2) else ([], s)
def gH1 (bs : List UInt8) : List UInt8 × Int := if 1 < nm 1 (bs, 0) then fl 10 (nxt 1 (bs, 0)) else nxt 1 (bs, 0)
def gH2 (bs : List UInt8) : List UInt8 × Int := if 8 < nm 1 (gH1 bs) then fl 8 (nxt 1 (gH1 bs)) else nxt 1 (gH1 bs)
def gR (bs : List UInt8) : List En × (List UInt8 × Int) := gL (nm 1 (gH1 bs)) (-1) (gH2 bs)
def gErr (bs : List UInt8) : Int := if (gR bs).2.1 = [] ∨ ¬ (gR bs).2.2 = 0 then (gR bs).2.2 else 10
/-- The update that bytes are, or why there is none. -/
def getU (bs : List UInt8) : Bool × List En × Int := if gErr bs = 0 then (decide (nm 1 (bs, 0) = 1), (gR bs).1, 0) else (false, [], gErr bs)
end Go.Proofs.YthjdhmnmlblpfaaR
/- THE SHORT SUMS THAT ARE TAKEN: their lengths. -/
namespace Go.Proofs.YthjdhmnmlblpfaaR
open Go.RowKit Go.Fp
theorem smN_rows : ∀ (n : Nat) (s : List UInt8 × Int), (∀ l, l ∈ (smN n s).1 → l.length = 16) ∧ (smN n s).1.length ≤ n
  | 0, s => ⟨fun l h => by simp [smN] at h, by simp [smN]⟩
  | n + 1, s => by
    obtain ⟨h1, h2⟩ := smN_rows n (nxt 16 s)
    unfold smN
    split
    · refine ⟨fun l h => ?_, by simp only [List.length_cons]; omega⟩
      rcases List.mem_cons.1 h with rfl | h
      · exact sm_length s
      · exact h1 l h
    · exact ⟨fun l h => by simp at h, by simp⟩
theorem ss_rows (most : Int) (s : List UInt8 × Int) : (∀ l, l ∈ ss most s → l.length = 16) ∧ (ss most s).length ≤ 255 := by
  have := nm_lt 1 s
  obtain ⟨h1, h2⟩ := smN_rows (nm 1 s) (ss0 most s)
  unfold ss
  split
  · exact ⟨h1, by omega⟩
  · exact ⟨fun l h => by simp at h, by simp⟩
end Go.Proofs.YthjdhmnmlblpfaaR
