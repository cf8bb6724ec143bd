/- THE WALK of the document's answer: short sums taken; are they the same? -/
import Derived.Test.YthjdhmnmlblpfaaRRefE03
namespace Go.Proofs.YthjdhmnmlblpfaaR
open Go.RowKit Go.Fp
attribute [local irreducible] Go.Calls
set_option maxRecDepth 100000
set_option maxHeartbeats 4000000
theorem ref_InSums (x : Option Addr) (c : Nat) (bs : List UInt8) (hbs : bs.length ≤ 140737488355328) (q : Nat) (s : List UInt8 × Int) (most : Int) (hm : -9223372036854775808 ≤ most ∧ most ≤ 9223372036854775807) (f : List Nat) (w : World) {m : List Ob} (hT : Tk f w w [RI x c bs q s] (Ob.rd x bs.length 1 (u8s bs) :: m)) :
    Calls Try.prog 69 #[.pointer (some ⟨q, 0, none⟩), .int .i64 most] w fun e w' => ∃ x' c', e = .returned (.slice x' (ss most s).length c') ∧ Tk f w w' [RI x c bs q (sst most s), Ob.own 57 16 (.slice x' (ss most s).length c') (ss most s).length (u8s (ss most s).flatten)] (Ob.rd x bs.length 1 (u8s bs) :: m) := by
  have hlt := nm_lt 1 s
  have hNum := fun f1 ww (h) => ref_InNum x c bs hbs q s 1 (by omega) f1 ww (m := m) h
  have hs0 : ss0 most s = if max most 0 < (nm 1 s : Int) then fl 8 (nxt 1 s) else nxt 1 s := rfl
  unfold ss sst
  generalize ss0 most s = s1 at *
  generalize nm 1 s = v at *
  generalize nxt 1 s = s0 at *
  obtain ⟨y0, e0⟩ := s0
  refine enter [(0, _), (1, _)] Try.func69 rfl Try.ntmps69 (Nat.le_of_ble_eq_true rfl) rfl ?_; intro a0 hN
  repeat' (first
    | (refine isT ?_; (first | (refine isGuard ?_; (first | (refine T_nou hN rfl rfl rfl ?_) | (refine T_yes hN rfl rfl rfl ?_) | (refine T_no hN rfl rfl rfl rfl ?_) | (refine T_nou hN rfl rfl rfl ?_) | (refine T_guardD hN rfl rfl rfl (fun hb => ?_) (fun hb => ?_) <;> ((first | (exfalso; omega) | (exfalso; exact hb rfl) | (exfalso; exact hb (fun h => h rfl)) | ((with_reducible refine absurd ?_ hb); (repeat' (first | exact trivial | refine And.intro rfl ?_)); done) | (replace hb := Classical.not_not.1 hb) | skip))))) | (refine T_assign hN rfl (by first | exact .inr trivial | exact .inl rfl) ?_) | (refine T_fieldAddr hN rfl (by first | exact .inr trivial | exact .inl rfl) ?_) | (refine T_move hN rfl (by first | exact .inr trivial | exact .inl rfl) ?_) | (refine T_nilCheck hN rfl (by first | exact .inr trivial | exact .inl rfl) ?_) | (refine T_nil ?_) | (refine is_load ?_; (first | (refine T_load hN rfl (hT.has 0 rfl) rfl (by first | exact .inl rfl | exact .inr ⟨by decide, trivial⟩) ?_))) | (refine is_binOp ?_; (first | (refine T_eql hN rfl rfl (by first | exact .inr trivial | exact .inl rfl) ?_) | (refine T_geq hN rfl rfl (by first | exact .inr trivial | exact .inl rfl) ?_) | (refine T_gtr hN rfl rfl (by first | exact .inr trivial | exact .inl rfl) ?_) | (refine T_lss hN rfl rfl (by first | exact .inr trivial | exact .inl rfl) ?_))) | (refine is_pick ?_; (first | (refine T_pick1 hN rfl rfl (by first | exact .inr trivial | exact .inl rfl) ?_) | (refine T_pick0 hN rfl rfl (by first | exact .inr trivial | exact .inl rfl) ?_))) | (refine is_call ?_; (first | ((refine is_call ?_; obtain ⟨f1, hP, hK⟩ := hT.call1m 0 rfl; refine T_call (f := 53) hN rfl (by decide) (hNum f1 _ hP) ?_; rintro e ww ⟨rfl, h1⟩; clear hT hP; replace hT := hK _ _ _ _ h1; clear hK h1; refine ⟨_, rfl, (by first | exact trivial | ((repeat' (first | exact hT.has 0 rfl | exact hT.has 1 rfl | exact hT.has 2 rfl | exact hT.has 3 rfl | exact hT.has 4 rfl | exact hT.has 5 rfl | exact hT.ord 0 rfl | exact hT.ord 1 rfl | exact hT.ord 2 rfl | exact hT.ord 3 rfl | exact hT.ord 4 rfl | exact hT.ord 5 rfl | exact hT.mrd (by assumption) | refine And.intro ?_ ?_)); done)), ?_⟩); obtain ⟨a, ⟨i1, i2⟩, hT1⟩ := RI.open hT; clear hT; have hT := hT1; clear hT1; dsimp only at i2 hT))) | (refine is_store ?_; (first | (refine T_store hN hT 0 rfl rfl rfl rfl rfl (by decide) ?_; clear hT; intro ww hT; refine ⟨(by first | exact trivial), ?_⟩))) | (refine is_convert ?_; (first | (refine T_conv (r := ?_) hN rfl ?_ (by first | exact .inr trivial | exact .inl rfl) ?_; rotate_left; (focus (first | (refine Eq.trans (Go.IntWalk.i64_in _ (by omega)) ?_; (first | (simp only [Int.reduceAdd, Int.reduceSub, Int.reduceMul, Int.reduceNeg, Int.reduceDiv, Int.reduceMod]; rfl) | rfl)) | (refine Eq.trans (Go.IntWalk.u64_in _ (by omega)) ?_; (first | (simp only [Int.reduceAdd, Int.reduceSub, Int.reduceMul, Int.reduceNeg, Int.reduceDiv, Int.reduceMod]; rfl) | rfl)) | (refine Go.IntWalk.u32_in _ ?_; omega) | (refine Go.IntWalk.u8_in _ ?_; omega) | exact rfl)))))))
    | (refine isC ?_; (first | (refine C_seq ?_) | (refine C_rgnk (id := 0) hN [(0, _), (1, _)] ⟨rfl, rfl, trivial⟩ ?_; clear hN; intro a0 hN) | (refine C_rgnk (id := 1) hN [(0, _), (1, _), (4, _)] ⟨rfl, rfl, rfl, trivial⟩ ?_; clear hN; intro a0 hN) | (refine C_rgnk (id := 2) hN [(0, _), (1, _), (4, _), (5, _)] ⟨rfl, rfl, rfl, rfl, trivial⟩ ?_; clear hN; intro a0 hN) | (refine C_rgnk (id := 3) hN [(0, _), (1, _), (4, _), (5, _), (32, _)] ⟨rfl, rfl, rfl, rfl, rfl, trivial⟩ ?_; clear hN; intro a0 hN) | (refine C_rgnk (id := 4) hN [(0, _), (1, _), (4, _), (5, _), (32, _)] ⟨rfl, rfl, rfl, rfl, rfl, trivial⟩ ?_; clear hN; intro a0 hN) | (refine C_rgnk (id := 5) hN [(0, _), (1, _), (4, _), (5, _), (6, _), (32, _)] ⟨rfl, rfl, rfl, rfl, rfl, rfl, trivial⟩ ?_; clear hN; intro a0 hN) | (refine C_true hN rfl ?_) | (refine C_false hN rfl ?_) | (refine C_if hN rfl (fun hb => ?_) (fun hb => ?_) <;> ((first | (exfalso; omega) | (exfalso; exact hb rfl) | (exfalso; exact hb (fun h => h rfl)) | ((with_reducible refine absurd ?_ hb); (repeat' (first | exact trivial | refine And.intro rfl ?_)); done) | (replace hb := Classical.not_not.1 hb) | skip))) | (refine C_skip ?_) | (refine C_block ?_)))
    | (refine isE ?_; (first | (refine E_thn ?_))))
  all_goals
    have hT0 : Tk f w ww [RI x c bs q s1, Ob.own 57 16 (.slice none 0 0) 0 []] (Ob.rd x bs.length 1 (u8s bs) :: m) := by
      first
        | (have hs1 : s1 = (y0, e0) := by
             rw [hs0]
             split
             · simp only [fl]
               rw [if_neg (by rintro ⟨h, _⟩; omega), if_neg (by rintro ⟨h, _⟩; omega)]
             · rfl
           rw [hs1]
           exact ((RI.shut (s := (y0, e0)) hT rfl rfl i1 i2).addnil 57 16).swap)
        | (have hs1 : s1 = ([], 8) := by
             rw [hs0, if_pos (by omega)]
             simp only [fl]
             rw [if_pos ⟨by omega, by decide⟩, if_pos ⟨by omega, by decide⟩]
           rw [hs1]
           exact ((RI.shut (s := ([], 8)) hT rfl rfl i1 rfl).addnil 57 16).swap)
    clear hT hs0 i1 i2
    refine C_loop hN (X := Nat × List (List UInt8) × (List UInt8 × Int) × Option Addr × Nat) (fun y => [(0, .pointer (some ⟨q, 0, none⟩)), (5, .int .i64 v), (6, .slice y.2.2.2.1 y.2.1.length y.2.2.2.2), (7, .int .i64 ((v : Int) - y.1))]) (fun y w1 => y.2.1.length + y.1 ≤ 255 ∧ y.1 ≤ v ∧ smN v s1 = (y.2.1 ++ (smN y.1 y.2.2.1).1, (smN y.1 y.2.2.1).2) ∧ Tk f w w1 [RI x c bs q y.2.2.1, Ob.own 57 16 (.slice y.2.2.2.1 y.2.1.length y.2.2.2.2) y.2.1.length (u8s y.2.1.flatten)] (Ob.rd x bs.length 1 (u8s bs) :: m)) (fun y => y.1) (v, [], s1, none, 0) ⟨rfl, rfl, rfl, evI rfl (by omega), trivial⟩ ⟨by simp only [List.length_nil]; omega, Nat.le_refl _, rfl, hT0⟩ ?_
    clear hN hT0
    rintro ⟨n, acc, st, xl, cl⟩ a0 ww hN ⟨hle, hnv, hinv, hT⟩
    dsimp only at hle hnv hinv hT ⊢
    have hS := fun f1 ww (h) => ref_InSum x c bs hbs q st f1 ww (m := m) h
    have hsl := sm_length st
    obtain ⟨a, ⟨i1, i2⟩, hT1⟩ := RI.open hT
    clear hT
    have hT := hT1
    clear hT1
    obtain ⟨xs, es⟩ := st
    dsimp only at i2 hT
    cases n with
    | zero =>
      have e1 : smN 0 (xs, es) = ([], (xs, es)) := rfl
      rw [e1, List.append_nil] at hinv
      rw [hinv]
      by_cases hst : es = 0
      · simp only [if_pos hst]
        repeat' (first
          | (refine isT ?_; (first | (refine isGuard ?_; (first | (refine T_no hN rfl rfl rfl rfl ?_) | (refine T_guardD hN rfl rfl rfl (fun hb => ?_) (fun hb => ?_) <;> ((first | (exfalso; omega) | (exfalso; exact hb rfl) | (exfalso; exact hb (fun h => h rfl)) | ((with_reducible refine absurd ?_ hb); (repeat' (first | exact trivial | refine And.intro rfl ?_)); done) | (replace hb := Classical.not_not.1 hb) | skip))))) | (refine T_assign hN rfl (by first | exact .inr trivial | exact .inl rfl) ?_) | (refine T_fieldAddr hN rfl (by first | exact .inr trivial | exact .inl rfl) ?_) | (refine T_move hN rfl (by first | exact .inr trivial | exact .inl rfl) ?_) | (refine T_nilCheck hN rfl (by first | exact .inr trivial | exact .inl rfl) ?_) | (refine T_nil ?_) | (refine is_load ?_; (first | (refine T_load hN rfl (hT.has 0 rfl) rfl (by first | exact .inl rfl | exact .inr ⟨by decide, trivial⟩) ?_))) | (refine is_binOp ?_; (first | (refine T_lss hN rfl rfl (by first | exact .inr trivial | exact .inl rfl) ?_) | (refine T_neq hN rfl rfl (by first | exact .inr trivial | exact .inl rfl) ?_))) | (refine is_pick ?_; (first | (refine T_pick0 hN rfl rfl (by first | exact .inr trivial | exact .inl rfl) ?_)))))
          | (refine isC ?_; (first | (refine C_seq ?_) | (refine C_rgn ?_) | (refine C_false hN rfl ?_) | (refine C_if hN rfl (fun hb => ?_) (fun hb => ?_) <;> ((first | (exfalso; omega) | (exfalso; exact hb rfl) | (exfalso; exact hb (fun h => h rfl)) | ((with_reducible refine absurd ?_ hb); (repeat' (first | exact trivial | refine And.intro rfl ?_)); done) | (replace hb := Classical.not_not.1 hb) | skip))) | (refine C_skip ?_) | (refine C_ret ?_) | (refine C_exit ?_)))
          | (refine isE ?_; (first | (refine E_thn ?_) | (refine E_thn_exit ?_) | (refine E_blk_hit ?_) | (refine E_lp_exit ?_) | (refine E_ret hN Try.results69 (.tmp rfl .nil) ?_))))
        all_goals exact ⟨xl, cl, rfl, RI.shut (s := (xs, es)) hT rfl rfl i1 i2⟩
      · simp only [if_neg hst]
        repeat' (first
          | (refine isT ?_; (first | (refine isGuard ?_; (first | (refine T_no hN rfl rfl rfl rfl ?_) | (refine T_guardD hN rfl rfl rfl (fun hb => ?_) (fun hb => ?_) <;> ((first | (exfalso; omega) | (exfalso; exact hb rfl) | (exfalso; exact hb (fun h => h rfl)) | ((with_reducible refine absurd ?_ hb); (repeat' (first | exact trivial | refine And.intro rfl ?_)); done) | (replace hb := Classical.not_not.1 hb) | skip))))) | (refine T_assign hN rfl (by first | exact .inr trivial | exact .inl rfl) ?_) | (refine T_fieldAddr hN rfl (by first | exact .inr trivial | exact .inl rfl) ?_) | (refine T_move hN rfl (by first | exact .inr trivial | exact .inl rfl) ?_) | (refine T_nilCheck hN rfl (by first | exact .inr trivial | exact .inl rfl) ?_) | (refine T_nil ?_) | (refine is_load ?_; (first | (refine T_load hN rfl (hT.has 0 rfl) rfl (by first | exact .inl rfl | exact .inr ⟨by decide, trivial⟩) ?_))) | (refine is_binOp ?_; (first | (refine T_lss hN rfl rfl (by first | exact .inr trivial | exact .inl rfl) ?_) | (refine T_neq hN rfl rfl (by first | exact .inr trivial | exact .inl rfl) ?_))) | (refine is_pick ?_; (first | (refine T_pick0 hN rfl rfl (by first | exact .inr trivial | exact .inl rfl) ?_)))))
          | (refine isC ?_; (first | (refine C_seq ?_) | (refine C_rgn ?_) | (refine C_false hN rfl ?_) | (refine C_if hN rfl (fun hb => ?_) (fun hb => ?_) <;> ((first | (exfalso; omega) | (exfalso; exact hb rfl) | (exfalso; exact hb (fun h => h rfl)) | ((with_reducible refine absurd ?_ hb); (repeat' (first | exact trivial | refine And.intro rfl ?_)); done) | (replace hb := Classical.not_not.1 hb) | skip))) | (refine C_ret ?_) | (refine C_exit ?_)))
          | (refine isE ?_; (first | (refine E_thn ?_) | (refine E_thn_ret ?_) | (refine E_thn_exit ?_) | (refine E_blk_hit ?_) | (refine E_lp_exit ?_) | (refine E_ret hN Try.results69 (.tmp rfl .nil) ?_))))
        all_goals exact ⟨none, 0, rfl, (((RI.shut (s := (xs, es)) hT rfl rfl i1 i2).fst).addnil 57 16).swap⟩
    | succ n =>
      by_cases hst : es = 0
      · have e1 : smN (n + 1) (xs, es) = (sm (xs, es) :: (smN n (nxt 16 (xs, es))).1, (smN n (nxt 16 (xs, es))).2) := if_pos hst
        rw [e1] at hinv
        repeat' (first
          | (have hT1 := RI.shut (s := (xs, es)) hT rfl rfl i1 i2; clear hT; have hT := hT1; clear hT1; (refine is_call ?_; obtain ⟨f1, hP, hK⟩ := hT.call1m 0 rfl; refine T_call (f := 58) hN rfl (by decide) (hS f1 _ hP) ?_; rintro e ww ⟨rfl, h1⟩; clear hT hP; replace hT := hK _ _ _ _ h1; clear hK h1; refine ⟨_, rfl, (by first | exact trivial | ((repeat' (first | exact hT.has 0 rfl | exact hT.has 1 rfl | exact hT.has 2 rfl | exact hT.has 3 rfl | exact hT.has 4 rfl | exact hT.has 5 rfl | exact hT.ord 0 rfl | exact hT.ord 1 rfl | exact hT.ord 2 rfl | exact hT.ord 3 rfl | exact hT.ord 4 rfl | exact hT.ord 5 rfl | exact hT.mrd (by assumption) | refine And.intro ?_ ?_)); done)), ?_⟩))
          | (refine isT ?_; (first | (refine isGuard ?_; (first | (refine T_yes hN rfl rfl rfl ?_) | (refine T_guardD hN rfl rfl rfl (fun hb => ?_) (fun hb => ?_) <;> ((first | (exfalso; omega) | (exfalso; exact hb rfl) | (exfalso; exact hb (fun h => h rfl)) | ((with_reducible refine absurd ?_ hb); (repeat' (first | exact trivial | refine And.intro rfl ?_)); done) | (replace hb := Classical.not_not.1 hb) | skip))))) | (refine T_assign hN rfl (by first | exact .inr trivial | exact .inl rfl) ?_) | (refine T_fieldAddr hN rfl (by first | exact .inr trivial | exact .inl rfl) ?_) | (refine T_move hN rfl (by first | exact .inr trivial | exact .inl rfl) ?_) | (refine T_nilCheck hN rfl (by first | exact .inr trivial | exact .inl rfl) ?_) | (refine T_nil ?_) | (refine is_load ?_; (first | (refine T_load hN rfl (hT.has 0 rfl) rfl (by first | exact .inl rfl | exact .inr ⟨by decide, trivial⟩) ?_))) | (refine is_binOp ?_; (first | (refine T_addi64 hN rfl rfl (by omega) (by first | exact .inr trivial | exact .inl rfl) ?_) | (refine T_eql hN rfl rfl (by first | exact .inr trivial | exact .inl rfl) ?_) | (refine T_lss hN rfl rfl (by first | exact .inr trivial | exact .inl rfl) ?_))) | (refine is_pick ?_; (first | (refine T_pick1 hN rfl rfl (by first | exact .inr trivial | exact .inl rfl) ?_))) | (refine is_call ?_; (first | (refine T_append hN hT 2 (by rfl) (by rfl) rfl rfl rfl (fun h => by cases h) (blk_rdz (sz := 16) (hT.has 0 rfl) (by rw [u8s_length, hsl]) (by rw [List.drop_zero, List.take_of_length_le (by rw [u8s_length, hsl]; exact Nat.le_refl _)])) (u8s_all1 _) (by unfold maxLen; omega) (by omega) (by decide) ?_; clear hT; intro x1 c1 ww hT; refine ⟨trivial, ?_⟩))) | (refine is_buildSlice ?_; (first | (refine T_slicen (n := 16) hN hT (us := u8s (sm (xs, es))) (by rw [u8s_length, hsl]) (by rfl) (by rfl) (by rfl) rfl (by decide) ?_; clear hT; intro g ww hT; refine ⟨trivial, ?_⟩)))))
          | (refine isC ?_; (first | (refine C_seq ?_) | (refine C_rgn ?_) | (refine C_if hN rfl (fun hb => ?_) (fun hb => ?_) <;> ((first | (exfalso; omega) | (exfalso; exact hb rfl) | (exfalso; exact hb (fun h => h rfl)) | ((with_reducible refine absurd ?_ hb); (repeat' (first | exact trivial | refine And.intro rfl ?_)); done) | (replace hb := Classical.not_not.1 hb) | skip))) | (refine C_skip ?_) | (refine C_block ?_)))
          | (refine isE ?_; (first | (refine E_thn ?_) | (refine E_blk ?_))))
        all_goals
          have hlen : (acc ++ [sm (xs, es)]).length = acc.length + 1 := by rw [List.length_append]; rfl
          have hfl : u8s (acc ++ [sm (xs, es)]).flatten = u8s acc.flatten ++ u8s (sm (xs, es)) := by rw [List.flatten_append, u8s_append]; simp
          have hT2 : Tk f w ww [RI x c bs q (nxt 16 (xs, es)), Ob.own 57 16 (.slice x1 (acc ++ [sm (xs, es)]).length c1) (acc ++ [sm (xs, es)]).length (u8s (acc ++ [sm (xs, es)]).flatten)] (Ob.rd x bs.length 1 (u8s bs) :: m) := by
            rw [hlen, hfl]; exact hT.drop
          exact E_mk hN (n, acc ++ [sm (xs, es)], nxt 16 (xs, es), x1, c1) ⟨rfl, rfl, by rw [hlen]; rfl, evI rfl (by omega), trivial⟩ ⟨⟨by rw [hlen]; omega, by dsimp only; omega, by rw [hinv, List.append_assoc]; rfl, hT2⟩, Nat.lt_succ_self n⟩
      · have e1 : smN (n + 1) (xs, es) = ([], (xs, es)) := if_neg hst
        rw [e1, List.append_nil] at hinv
        rw [hinv]
        simp only [if_neg hst]
        repeat' (first
          | (refine isT ?_; (first | (refine isGuard ?_; (first | (refine T_yes hN rfl rfl rfl ?_) | (refine T_guardD hN rfl rfl rfl (fun hb => ?_) (fun hb => ?_) <;> ((first | (exfalso; omega) | (exfalso; exact hb rfl) | (exfalso; exact hb (fun h => h rfl)) | ((with_reducible refine absurd ?_ hb); (repeat' (first | exact trivial | refine And.intro rfl ?_)); done) | (replace hb := Classical.not_not.1 hb) | skip))))) | (refine T_assign hN rfl (by first | exact .inr trivial | exact .inl rfl) ?_) | (refine T_fieldAddr hN rfl (by first | exact .inr trivial | exact .inl rfl) ?_) | (refine T_move hN rfl (by first | exact .inr trivial | exact .inl rfl) ?_) | (refine T_nilCheck hN rfl (by first | exact .inr trivial | exact .inl rfl) ?_) | (refine T_nil ?_) | (refine is_load ?_; (first | (refine T_load hN rfl (hT.has 0 rfl) rfl (by first | exact .inl rfl | exact .inr ⟨by decide, trivial⟩) ?_))) | (refine is_binOp ?_; (first | (refine T_eql hN rfl rfl (by first | exact .inr trivial | exact .inl rfl) ?_) | (refine T_lss hN rfl rfl (by first | exact .inr trivial | exact .inl rfl) ?_) | (refine T_neq hN rfl rfl (by first | exact .inr trivial | exact .inl rfl) ?_))) | (refine is_pick ?_; (first | (refine T_pick1 hN rfl rfl (by first | exact .inr trivial | exact .inl rfl) ?_)))))
          | (refine isC ?_; (first | (refine C_seq ?_) | (refine C_rgn ?_) | (refine C_if hN rfl (fun hb => ?_) (fun hb => ?_) <;> ((first | (exfalso; omega) | (exfalso; exact hb rfl) | (exfalso; exact hb (fun h => h rfl)) | ((with_reducible refine absurd ?_ hb); (repeat' (first | exact trivial | refine And.intro rfl ?_)); done) | (replace hb := Classical.not_not.1 hb) | skip))) | (refine C_ret ?_) | (refine C_exit ?_)))
          | (refine isE ?_; (first | (refine E_thn ?_) | (refine E_thn_ret ?_) | (refine E_thn_exit ?_) | (refine E_blk_hit ?_) | (refine E_lp_exit ?_) | (refine E_ret hN Try.results69 (.tmp rfl .nil) ?_))))
        all_goals exact ⟨none, 0, rfl, (((RI.shut (s := (xs, es)) hT rfl rfl i1 i2).fst).addnil 57 16).swap⟩
end Go.Proofs.YthjdhmnmlblpfaaR
