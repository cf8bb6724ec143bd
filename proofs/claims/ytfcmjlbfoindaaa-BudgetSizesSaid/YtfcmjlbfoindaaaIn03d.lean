/- THE WALKS of what takes fields: a short sum, a blob. -/
import Derived.Test.YtfcmjlbfoindaaaIn03c
namespace Go.Proofs.Ytfcmjlbfoindaaa
open Go.RowKit Go.Fp
attribute [local irreducible] Go.Calls
set_option maxRecDepth 100000
set_option maxHeartbeats 2000000
/-- The next short sum. -/
def sm (s : List UInt8 × Int) : List UInt8 := if s.2 = 0 ∧ 16 ≤ s.1.length then s.1.take 16 else List.replicate 16 0
theorem sm_length (s : List UInt8 × Int) : (sm s).length = 16 := by
  unfold sm; split
  · rw [List.length_take]; omega
  · rfl
theorem sm_spl (s : List UInt8 × Int) : spl (u8s (List.replicate 16 0)) 0 (u8s (nx 16 s)) = u8s (sm s) := by
  unfold sm nx
  split
  · rename_i h
    have hl : (s.1.take 16).length = 16 := by rw [List.length_take]; omega
    generalize s.1.take 16 = l at *
    unfold spl
    have : (u8s (List.replicate 16 0)).drop (0 + (u8s l).length) = [] := by rw [List.drop_eq_nil_iff, u8s_length, u8s_length, hl]; decide
    rw [this]; simp
  · rfl
theorem In_Sum (q : Nat) (s : List UInt8 × Int) (f : List Nat) (w : World) {m : List Ob} (hT : Tk f w w [In q s.1 s.2] m) :
    Calls Try.prog 98 #[.pointer (some ⟨q, 0, none⟩)] w fun en w' => en = .returned (.agg (u8s (sm s)).toArray) ∧ Tk f w w' [In q (nxt 16 s).1 (nxt 16 s).2] m := by
  have hn := In_next q s 16 (by omega)
  have hl := nx_len 16 s
  have hsp := sm_spl s
  have hsl := sm_length s
  generalize nx 16 s = ps at *
  generalize nxt 16 s = s' at *
  generalize sm s = r at *
  refine enter [(0, _)] Try.func98 rfl Try.ntmps98 (Nat.le_of_ble_eq_true rfl) rfl ?_; intro a0 hN
  repeat' (first
    | (refine isT ?_; (first | (refine T_move hN rfl (by first | exact .inr trivial | exact .inl rfl) ?_) | (refine T_nil ?_) | (refine T_nild ?_) | (refine is_load ?_; (first | (refine T_loadn hN rfl (hT.has 0 rfl) (us := u8s r) (by rw [List.drop_zero]; refine Eq.trans (congrArg _ hsp) ?_; rw [List.take_of_length_le (by rw [u8s_length, hsl]; exact Nat.le_refl _)]) (by rw [u8s_length, hsl]) (by first | exact .inl rfl | exact .inr ⟨by decide, trivial⟩) ?_))) | (refine is_call ?_; (first | (refine is_call ?_; obtain ⟨f1, hP, hK⟩ := hT.call1m 2 rfl; refine T_call (f := 106) hN rfl (by decide) (hn f1 _ hP) ?_; rintro e ww ⟨⟨x, c, rfl, hx0, hrd⟩, h1⟩; clear hT hP; replace hT := hK _ _ _ _ h1; clear hK h1; refine ⟨_, rfl, (by first | exact trivial | ((repeat' (first | exact hT.has 0 rfl | exact hT.has 1 rfl | exact hT.has 2 rfl | exact hT.has 3 rfl | exact hT.has 4 rfl | exact hT.has 5 rfl | exact hT.ord 0 rfl | exact hT.ord 1 rfl | exact hT.ord 2 rfl | exact hT.ord 3 rfl | exact hT.ord 4 rfl | exact hT.ord 5 rfl | exact hT.mrd (by assumption) | refine And.intro ?_ ?_)); done)), ?_⟩) | (refine T_copy hN hT 0 rfl rfl rfl hrd (u8s_all1 ps) hl (by simpa using hl) (by decide) ?_; clear hT; intro ww hT; refine ⟨trivial, ?_⟩))) | (refine is_store ?_; (first | (refine T_storeAll hN hT 1 (us := u8s r) rfl rfl rfl (by rw [u8s_length, hsl]; rfl) rfl (List.all_eq_true.2 (u8s_all1 r)) (by decide) ?_; clear hT; intro ww hT; refine ⟨trivial, ?_⟩))) | (refine is_alloc ?_; (first | (refine T_alloc hN hT (by decide) ?_; clear hT; intro g ww hT; refine ⟨(by first | exact trivial), ?_⟩))) | (refine is_slice ?_; (first | (refine T_slcA hN rfl (by first | exact .inr trivial | exact .inl rfl) ?_)))))
    | (refine isC ?_; (first | (refine C_seq ?_) | (refine C_rgnk (id := 0) hN [(0, _)] ⟨rfl, trivial⟩ ?_; clear hN; intro a0 hN) | (refine C_rgnk (id := 1) hN [(0, _), (2, _)] ⟨rfl, rfl, trivial⟩ ?_; clear hN; intro a0 hN) | (refine C_rgnk (id := 3) hN [(0, _), (2, _), (3, _)] ⟨rfl, rfl, rfl, trivial⟩ ?_; clear hN; intro a0 hN) | (refine C_ret ?_) | (refine C_drawk (id := 2) hN [(0, _), (2, _), (3, _)] ⟨rfl, rfl, rfl, trivial⟩ [0, 0] Any Try.mixed (by kernel_rfl) trivial ?_; replace hT := hT.drew; clear hN; intro a0 hN)))
    | (refine isE ?_; (first | (refine E_ret hN Try.results98 (.cell rfl (run_loadAll (hT.has 1 rfl) (us := u8s r) (by rw [List.drop_zero, List.take_of_length_le (by rw [u8s_length, hsl]; exact Nat.le_refl _)]) (by rw [u8s_length, hsl])) .nil) ?_) | (refine E_thn ?_))))
  all_goals exact ⟨rfl, hT.drop.drop⟩
/-- A fault noted. -/
def fl (z : Int) (s : List UInt8 × Int) : List UInt8 × Int := (if s.2 = 0 ∧ ¬ z = 0 then [] else s.1, if s.2 = 0 ∧ ¬ z = 0 then z else s.2)
theorem nm_lt (k : Nat) (s : List UInt8 × Int) : nm k s < 256 ^ k := by
  unfold nm
  exact Nat.lt_of_lt_of_le (beN_lt _) (Nat.pow_le_pow_right (by decide) (nx_len k s))
/-- The next bytes with their number. -/
def bl0 (most : Int) (s : List UInt8 × Int) : List UInt8 × Int := if max (min most 4096) 0 < (nm 2 s : Int) then fl 8 (nxt 2 s) else nxt 2 s
def bl (most : Int) (s : List UInt8 × Int) : List UInt8 := nx (nm 2 s) (bl0 most s)
def blt (most : Int) (s : List UInt8 × Int) : List UInt8 × Int := nxt (nm 2 s) (bl0 most s)
theorem In_Blob (q : Nat) (s : List UInt8 × Int) (most : Int) (f : List Nat) (w : World) {m : List Ob} (hT : Tk f w w [In q s.1 s.2] m) :
    Calls Try.prog 96 #[.pointer (some ⟨q, 0, none⟩), .int .i64 most] w fun en w' => ∃ x c, en = .returned (.slice x (bl most s).length c) ∧ Tk f w w' [In q (blt most s).1 (blt most s).2, Ob.own 5 1 (.slice x (bl most s).length c) (bl most s).length (u8s (bl most s))] m := by
  have hlt := nm_lt 2 s
  have hU := In_U16 q s
  by_cases h : max (min most 4096) 0 < (nm 2 s : Int)
  · have e0 : bl0 most s = fl 8 (nxt 2 s) := if_pos h
    unfold bl blt
    rw [e0]
    have hF := In_Fail q (nxt 2 s).1 (nxt 2 s).2
    have hN2 := In_next q (fl 8 (nxt 2 s)) (nm 2 s) (by omega)
    have hl := nx_len (nm 2 s) (fl 8 (nxt 2 s))
    generalize nx (nm 2 s) (fl 8 (nxt 2 s)) = ps at *
    generalize nxt (nm 2 s) (fl 8 (nxt 2 s)) = s' at *
    generalize nm 2 s = v at *
    refine enter [(0, _), (1, _)] Try.func96 rfl Try.ntmps96 (Nat.le_of_ble_eq_true rfl) rfl ?_; intro a0 hN
    repeat' (first
      | (refine isT ?_; (first | (refine T_assign hN rfl (by first | exact .inr trivial | exact .inl rfl) ?_) | (refine T_move hN rfl (by first | exact .inr trivial | exact .inl rfl) ?_) | (refine T_nil ?_) | (refine is_binOp ?_; (first | (refine T_gtr hN rfl rfl (by first | exact .inr trivial | exact .inl rfl) ?_))) | (refine is_call ?_; (first | (refine is_call ?_; obtain ⟨f1, hP, hK⟩ := hT.call1m 0 rfl; refine T_call (f := 105) hN rfl (by decide) (hU f1 _ hP) ?_; rintro e ww ⟨rfl, h1⟩; clear hT hP; replace hT := hK _ _ _ _ h1; clear hK h1; refine ⟨_, rfl, (by first | exact trivial | ((repeat' (first | exact hT.has 0 rfl | exact hT.has 1 rfl | exact hT.has 2 rfl | exact hT.has 3 rfl | exact hT.has 4 rfl | exact hT.has 5 rfl | exact hT.ord 0 rfl | exact hT.ord 1 rfl | exact hT.ord 2 rfl | exact hT.ord 3 rfl | exact hT.ord 4 rfl | exact hT.ord 5 rfl | exact hT.mrd (by assumption) | refine And.intro ?_ ?_)); done)), ?_⟩) | (refine is_call ?_; obtain ⟨f1, hP, hK⟩ := hT.call1m 0 rfl; refine T_call (f := 94) hN rfl (by decide) (hF f1 _ hP 8) ?_; rintro e ww ⟨rfl, h1⟩; clear hT hP; replace hT := hK _ _ _ _ h1; clear hK h1; refine ⟨_, rfl, (by first | exact trivial | ((repeat' (first | exact hT.has 0 rfl | exact hT.has 1 rfl | exact hT.has 2 rfl | exact hT.has 3 rfl | exact hT.has 4 rfl | exact hT.has 5 rfl | exact hT.ord 0 rfl | exact hT.ord 1 rfl | exact hT.ord 2 rfl | exact hT.ord 3 rfl | exact hT.ord 4 rfl | exact hT.ord 5 rfl | exact hT.mrd (by assumption) | refine And.intro ?_ ?_)); done)), ?_⟩) | (refine is_call ?_; obtain ⟨f1, hP, hK⟩ := hT.call1m 1 rfl; refine T_call (f := 106) hN rfl (by decide) (hN2 f1 _ hP) ?_; rintro e ww ⟨⟨x, c, rfl, hx0, hrd⟩, h1⟩; clear hT hP; replace hT := hK _ _ _ _ h1; clear hK h1; refine ⟨_, rfl, (by first | exact trivial | ((repeat' (first | exact hT.has 0 rfl | exact hT.has 1 rfl | exact hT.has 2 rfl | exact hT.has 3 rfl | exact hT.has 4 rfl | exact hT.has 5 rfl | exact hT.ord 0 rfl | exact hT.ord 1 rfl | exact hT.ord 2 rfl | exact hT.ord 3 rfl | exact hT.ord 4 rfl | exact hT.ord 5 rfl | exact hT.mrd (by assumption) | refine And.intro ?_ ?_)); done)), ?_⟩) | (refine T_append hN hT 0 (by rfl) (by rfl) rfl rfl rfl hx0 hrd (u8s_all1 ps) (by unfold maxLen; omega) (by omega) (by decide) ?_; clear hT; intro x1 c1 ww hT; refine ⟨trivial, ?_⟩) | (refine T_max hN rfl rfl (by first | exact .inr trivial | exact .inl rfl) ?_) | (refine T_min hN rfl rfl (by first | exact .inr trivial | exact .inl rfl) ?_))) | (refine is_buildSlice ?_; (first | (refine T_slice0 hN hT (by decide) ?_; clear hT; intro g ww hT; refine ⟨(by first | exact trivial), ?_⟩))) | (refine is_convert ?_; (first | (refine T_conv (r := ?_) hN rfl ?_ (by first | exact .inr trivial | exact .inl rfl) ?_; rotate_left; (focus (first | (refine Eq.trans (Go.IntWalk.i64_in _ (by omega)) ?_; (first | (simp only [Int.reduceAdd, Int.reduceSub, Int.reduceMul, Int.reduceNeg, Int.reduceDiv, Int.reduceMod]; rfl) | rfl)) | (refine Eq.trans (Go.IntWalk.u64_in _ (by omega)) ?_; (first | (simp only [Int.reduceAdd, Int.reduceSub, Int.reduceMul, Int.reduceNeg, Int.reduceDiv, Int.reduceMod]; rfl) | rfl)) | (refine Go.IntWalk.u32_in _ ?_; omega) | (refine Go.IntWalk.u8_in _ ?_; omega) | exact rfl)))))))
      | (refine isC ?_; (first | (refine C_seq ?_) | (refine C_rgnk (id := 0) hN [(0, _), (1, _)] ⟨rfl, rfl, trivial⟩ ?_; clear hN; intro a0 hN) | (refine C_rgnk (id := 1) hN [(0, _), (1, _), (4, _)] ⟨rfl, rfl, rfl, trivial⟩ ?_; clear hN; intro a0 hN) | (refine C_rgnk (id := 2) hN [(0, _), (1, _), (4, _), (5, _)] ⟨rfl, rfl, rfl, rfl, trivial⟩ ?_; clear hN; intro a0 hN) | (refine C_rgnk (id := 3) hN [(0, _), (1, _), (4, _), (5, _), (13, _)] ⟨rfl, rfl, rfl, rfl, rfl, trivial⟩ ?_; clear hN; intro a0 hN) | (refine C_rgnk (id := 4) hN [(0, _), (1, _), (4, _), (5, _), (13, _)] ⟨rfl, rfl, rfl, rfl, rfl, trivial⟩ ?_; clear hN; intro a0 hN) | (refine C_if hN rfl (fun hb => ?_) (fun hb => ?_) <;> ((first | (exfalso; omega) | (exfalso; exact hb rfl) | (exfalso; exact hb (fun h => h rfl)) | ((with_reducible refine absurd ?_ hb); (repeat' (first | exact trivial | refine And.intro rfl ?_)); done) | (replace hb := Classical.not_not.1 hb) | skip))) | (refine C_ret ?_)))
      | (refine isE ?_; (first | (refine E_thn ?_) | (refine E_ret hN Try.results96 (.tmp rfl .nil) ?_))))
    all_goals
      simp only [Nat.zero_add, List.nil_append] at hT ⊢
      exact ⟨x1, c1, rfl, hT.swap⟩
  · have e0 : bl0 most s = nxt 2 s := if_neg h
    unfold bl blt
    rw [e0]
    have hN2 := In_next q (nxt 2 s) (nm 2 s) (by omega)
    have hl := nx_len (nm 2 s) (nxt 2 s)
    generalize nx (nm 2 s) (nxt 2 s) = ps at *
    generalize nxt (nm 2 s) (nxt 2 s) = s' at *
    generalize nm 2 s = v at *
    refine enter [(0, _), (1, _)] Try.func96 rfl Try.ntmps96 (Nat.le_of_ble_eq_true rfl) rfl ?_; intro a0 hN
    repeat' (first
      | (refine isT ?_; (first | (refine T_assign hN rfl (by first | exact .inr trivial | exact .inl rfl) ?_) | (refine T_move hN rfl (by first | exact .inr trivial | exact .inl rfl) ?_) | (refine T_nil ?_) | (refine is_binOp ?_; (first | (refine T_gtr hN rfl rfl (by first | exact .inr trivial | exact .inl rfl) ?_))) | (refine is_call ?_; (first | (refine is_call ?_; obtain ⟨f1, hP, hK⟩ := hT.call1m 0 rfl; refine T_call (f := 105) hN rfl (by decide) (hU f1 _ hP) ?_; rintro e ww ⟨rfl, h1⟩; clear hT hP; replace hT := hK _ _ _ _ h1; clear hK h1; refine ⟨_, rfl, (by first | exact trivial | ((repeat' (first | exact hT.has 0 rfl | exact hT.has 1 rfl | exact hT.has 2 rfl | exact hT.has 3 rfl | exact hT.has 4 rfl | exact hT.has 5 rfl | exact hT.ord 0 rfl | exact hT.ord 1 rfl | exact hT.ord 2 rfl | exact hT.ord 3 rfl | exact hT.ord 4 rfl | exact hT.ord 5 rfl | exact hT.mrd (by assumption) | refine And.intro ?_ ?_)); done)), ?_⟩) | (refine is_call ?_; obtain ⟨f1, hP, hK⟩ := hT.call1m 1 rfl; refine T_call (f := 106) hN rfl (by decide) (hN2 f1 _ hP) ?_; rintro e ww ⟨⟨x, c, rfl, hx0, hrd⟩, h1⟩; clear hT hP; replace hT := hK _ _ _ _ h1; clear hK h1; refine ⟨_, rfl, (by first | exact trivial | ((repeat' (first | exact hT.has 0 rfl | exact hT.has 1 rfl | exact hT.has 2 rfl | exact hT.has 3 rfl | exact hT.has 4 rfl | exact hT.has 5 rfl | exact hT.ord 0 rfl | exact hT.ord 1 rfl | exact hT.ord 2 rfl | exact hT.ord 3 rfl | exact hT.ord 4 rfl | exact hT.ord 5 rfl | exact hT.mrd (by assumption) | refine And.intro ?_ ?_)); done)), ?_⟩) | (refine T_append hN hT 0 (by rfl) (by rfl) rfl rfl rfl hx0 hrd (u8s_all1 ps) (by unfold maxLen; omega) (by omega) (by decide) ?_; clear hT; intro x1 c1 ww hT; refine ⟨trivial, ?_⟩) | (refine T_max hN rfl rfl (by first | exact .inr trivial | exact .inl rfl) ?_) | (refine T_min hN rfl rfl (by first | exact .inr trivial | exact .inl rfl) ?_))) | (refine is_buildSlice ?_; (first | (refine T_slice0 hN hT (by decide) ?_; clear hT; intro g ww hT; refine ⟨(by first | exact trivial), ?_⟩))) | (refine is_convert ?_; (first | (refine T_conv (r := ?_) hN rfl ?_ (by first | exact .inr trivial | exact .inl rfl) ?_; rotate_left; (focus (first | (refine Eq.trans (Go.IntWalk.i64_in _ (by omega)) ?_; (first | (simp only [Int.reduceAdd, Int.reduceSub, Int.reduceMul, Int.reduceNeg, Int.reduceDiv, Int.reduceMod]; rfl) | rfl)) | (refine Eq.trans (Go.IntWalk.u64_in _ (by omega)) ?_; (first | (simp only [Int.reduceAdd, Int.reduceSub, Int.reduceMul, Int.reduceNeg, Int.reduceDiv, Int.reduceMod]; rfl) | rfl)) | (refine Go.IntWalk.u32_in _ ?_; omega) | (refine Go.IntWalk.u8_in _ ?_; omega) | exact rfl)))))))
      | (refine isC ?_; (first | (refine C_seq ?_) | (refine C_rgnk (id := 0) hN [(0, _), (1, _)] ⟨rfl, rfl, trivial⟩ ?_; clear hN; intro a0 hN) | (refine C_rgnk (id := 1) hN [(0, _), (1, _), (4, _)] ⟨rfl, rfl, rfl, trivial⟩ ?_; clear hN; intro a0 hN) | (refine C_rgnk (id := 2) hN [(0, _), (1, _), (4, _), (5, _)] ⟨rfl, rfl, rfl, rfl, trivial⟩ ?_; clear hN; intro a0 hN) | (refine C_rgnk (id := 4) hN [(0, _), (1, _), (4, _), (5, _), (13, _)] ⟨rfl, rfl, rfl, rfl, rfl, trivial⟩ ?_; clear hN; intro a0 hN) | (refine C_if hN rfl (fun hb => ?_) (fun hb => ?_) <;> ((first | (exfalso; omega) | (exfalso; exact hb rfl) | (exfalso; exact hb (fun h => h rfl)) | ((with_reducible refine absurd ?_ hb); (repeat' (first | exact trivial | refine And.intro rfl ?_)); done) | (replace hb := Classical.not_not.1 hb) | skip))) | (refine C_skip ?_) | (refine C_ret ?_)))
      | (refine isE ?_; (first | (refine E_thn ?_) | (refine E_ret hN Try.results96 (.tmp rfl .nil) ?_))))
    all_goals
      simp only [Nat.zero_add, List.nil_append] at hT ⊢
      exact ⟨x1, c1, rfl, hT.swap⟩
end Go.Proofs.Ytfcmjlbfoindaaa
/- THE WALKS of what takes fields: short sums. -/
namespace Go.Proofs.Ytfcmjlbfoindaaa
open Go.RowKit Go.Fp
attribute [local irreducible] Go.Calls
set_option maxRecDepth 100000
set_option maxHeartbeats 2000000
/-- So many short sums, while nothing is wrong. -/
def smN : Nat → List UInt8 × Int → List (List UInt8) × (List UInt8 × Int)
  | 0, s => ([], s)
  | k + 1, s => if s.2 = 0 then (sm s :: (smN k (nxt 16 s)).1, (smN k (nxt 16 s)).2) else ([], s)
def ss0 (most : Int) (s : List UInt8 × Int) : List UInt8 × Int := if max most 0 < (nm 1 s : Int) then fl 8 (nxt 1 s) else nxt 1 s
def ss (most : Int) (s : List UInt8 × Int) : List (List UInt8) := if (smN (nm 1 s) (ss0 most s)).2.2 = 0 then (smN (nm 1 s) (ss0 most s)).1 else []
def sst (most : Int) (s : List UInt8 × Int) : List UInt8 × Int := (smN (nm 1 s) (ss0 most s)).2
end Go.Proofs.Ytfcmjlbfoindaaa
