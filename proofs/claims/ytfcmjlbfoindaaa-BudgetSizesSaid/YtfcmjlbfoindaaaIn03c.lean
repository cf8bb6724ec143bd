/- THE WALKS of what takes fields: numbers. -/
import Derived.Test.YtfcmjlbfoindaaaIn03b
namespace Go.Proofs.Ytfcmjlbfoindaaa
open Go.RowKit Go.Fp
attribute [local irreducible] Go.Calls
set_option maxRecDepth 100000
set_option maxHeartbeats 2000000
/-- The next number. -/
def nm (k : Nat) (s : List UInt8 × Int) : Nat := beN (nx k s)
theorem nx_len (k : Nat) (s : List UInt8 × Int) : (nx k s).length ≤ k := by
  unfold nx; split
  · rw [List.length_take]; omega
  · simp
theorem In_num (q : Nat) (s : List UInt8 × Int) (k : Nat) (hk : k ≤ 8) (f : List Nat) (w : World) {m : List Ob} (hT : Tk f w w [In q s.1 s.2] m) :
    Calls Try.prog 104 #[.pointer (some ⟨q, 0, none⟩), .int .i64 k] w fun en w' => en = .returned (.int .u64 (nm k s)) ∧ Tk f w w' [In q (nxt k s).1 (nxt k s).2] m := by
  have hn := In_next q s k (by omega)
  have hl := nx_len k s
  unfold nm
  generalize nx k s = ps at *
  generalize nxt k s = s' at *
  refine enter [(0, _), (1, _)] Try.func104 rfl Try.ntmps104 (Nat.le_of_ble_eq_true rfl) rfl ?_; intro a0 hN
  repeat' (first
    | (refine isT ?_; (first | (refine T_assign hN rfl (by first | exact .inr trivial | exact .inl rfl) ?_) | (refine T_move hN rfl (by first | exact .inr trivial | exact .inl rfl) ?_) | (refine T_nil ?_) | (refine is_call ?_; (first | (refine is_call ?_; obtain ⟨f1, hP, hK⟩ := hT.call1m 0 rfl; refine T_call (f := 106) hN rfl (by decide) (hn f1 _ hP) ?_; rintro e ww ⟨⟨x, c, rfl, hx0, hrd⟩, h1⟩; clear hT hP; replace hT := hK _ _ _ _ h1; clear hK h1; refine ⟨_, rfl, (by first | exact trivial | ((repeat' (first | exact hT.has 0 rfl | exact hT.has 1 rfl | exact hT.has 2 rfl | exact hT.has 3 rfl | exact hT.has 4 rfl | exact hT.has 5 rfl | exact hT.ord 0 rfl | exact hT.ord 1 rfl | exact hT.ord 2 rfl | exact hT.ord 3 rfl | exact hT.ord 4 rfl | exact hT.ord 5 rfl | exact hT.mrd (by assumption) | refine And.intro ?_ ?_)); done)), ?_⟩) | (refine T_len hN rfl (by first | exact .inr trivial | exact .inl rfl) ?_)))))
    | (refine isC ?_; (first | (refine C_seq ?_) | (refine C_rgnk (id := 0) hN [(0, _), (1, _)] ⟨rfl, rfl, trivial⟩ ?_; clear hN; intro a0 hN) | (refine C_rgnk (id := 1) hN [(0, _), (1, _), (4, _)] ⟨rfl, rfl, rfl, trivial⟩ ?_; clear hN; intro a0 hN) | (refine C_rgnk (id := 2) hN [(0, _), (1, _), (4, _), (5, _)] ⟨rfl, rfl, rfl, rfl, trivial⟩ ?_; clear hN; intro a0 hN) | (refine C_block ?_)))
    | (refine isE ?_; (first | (refine E_thn ?_))))
  all_goals
    refine C_loop hN (X := Nat) (fun j => [(5, .int .u64 (beN (ps.take j))), (10, .slice x ps.length c), (11, .int .i64 ps.length), (12, .int .i64 j)]) (fun j w1 => j ≤ ps.length ∧ w1 = ww) (fun j => ps.length - j) 0 ⟨rfl, rfl, rfl, rfl, trivial⟩ ⟨Nat.zero_le _, rfl⟩ ?_
    clear hN
    rintro j a0 w1 hN ⟨hj, rfl⟩
    by_cases hj0 : j = ps.length
    · subst hj0
      repeat' (first
        | (refine isT ?_; (first | (refine T_assign hN rfl (by first | exact .inr trivial | exact .inl rfl) ?_) | (refine T_move hN rfl (by first | exact .inr trivial | exact .inl rfl) ?_) | (refine T_nil ?_) | (refine is_binOp ?_; (first | (refine T_lss hN rfl rfl (by first | exact .inr trivial | exact .inl rfl) ?_)))))
        | (refine isC ?_; (first | (refine C_seq ?_) | (refine C_rgn ?_) | (refine C_if hN rfl (fun hb => ?_) (fun hb => ?_) <;> ((first | (exfalso; omega) | (exfalso; exact hb rfl) | (exfalso; exact hb (fun h => h rfl)) | ((with_reducible refine absurd ?_ hb); (repeat' (first | exact trivial | refine And.intro rfl ?_)); done) | (replace hb := Classical.not_not.1 hb) | skip))) | (refine C_ret ?_) | (refine C_exit ?_)))
        | (refine isE ?_; (first | (refine E_thn ?_) | (refine E_thn_exit ?_) | (refine E_blk_hit ?_) | (refine E_lp_exit ?_) | (refine E_ret hN Try.results104 (.tmp rfl .nil) ?_))))
      all_goals exact ⟨by rw [List.take_length]; rfl, hT⟩
    · obtain ⟨B, off, rfl⟩ := hrd.addr (by omega)
      have hjl : j < ps.length := by omega
      have hcell : w1.cell? ⟨B, off + j * 1, none⟩ = some (u8 ps[j]) := by rw [Nat.mul_one]; exact hrd.cell rfl (j := j) (u := u8 ps[j]) (by rw [u8s_get, List.getElem?_eq_getElem hjl]; rfl)
      have hv : beN (ps.take j) < 72057594037927936 := by
        have h1 := beN_lt (ps.take j)
        have h2 : 256 ^ (ps.take j).length ≤ 256 ^ 7 := Nat.pow_le_pow_right (by decide) (by rw [List.length_take]; omega)
        exact Nat.lt_of_lt_of_le h1 h2
      have hbl := ps[j].toNat_lt
      repeat' (first
        | (refine isT ?_; (first | (refine T_assign hN rfl (by first | exact .inr trivial | exact .inl rfl) ?_) | (refine T_move hN rfl (by first | exact .inr trivial | exact .inl rfl) ?_) | (refine T_nil ?_) | (refine is_load ?_; (first | (refine T_loadc hN rfl hcell (by first | exact .inl rfl | exact .inr ⟨by decide, trivial⟩) ?_))) | (refine is_binOp ?_; (first | (refine T_shl hN rfl rfl (by decide) (shl_byte hv) (.inr trivial) ?_) | (refine T_or hN rfl rfl (or_byte hv hbl) (.inr trivial) ?_) | (refine T_addi64 hN rfl rfl (by omega) (by first | exact .inr trivial | exact .inl rfl) ?_) | (refine T_lss hN rfl rfl (by first | exact .inr trivial | exact .inl rfl) ?_))) | (refine is_convert ?_; (first | (refine T_conv hN rfl (conv_byte ps[j]) (.inr trivial) ?_))) | (refine is_indexAddr ?_; (first | (refine T_indexAddr hN rfl rfl (by omega) (by first | exact .inr trivial | exact .inl rfl) ?_)))))
        | (refine isC ?_; (first | (refine C_seq ?_) | (refine C_rgn ?_) | (refine C_if hN rfl (fun hb => ?_) (fun hb => ?_) <;> ((first | (exfalso; omega) | (exfalso; exact hb rfl) | (exfalso; exact hb (fun h => h rfl)) | ((with_reducible refine absurd ?_ hb); (repeat' (first | exact trivial | refine And.intro rfl ?_)); done) | (replace hb := Classical.not_not.1 hb) | skip))) | (refine C_skip ?_) | (refine C_block ?_)))
        | (refine isE ?_; (first | (refine E_thn ?_) | (refine E_blk ?_))))
      all_goals exact E_mk hN (j + 1) ⟨evI rfl (by rw [List.take_succ_eq_append_getElem hjl, beN_snoc]), rfl, rfl, evI rfl (by omega), trivial⟩ ⟨⟨by omega, rfl⟩, by omega⟩
section
variable (q : Nat) (s : List UInt8 × Int) (f : List Nat) (w : World) {m : List Ob} (hT : Tk f w w [In q s.1 s.2] m)
include hT
theorem In_U8 : Calls Try.prog 92 #[.pointer (some ⟨q, 0, none⟩)] w fun en w' => en = .returned (.int .u64 (nm 1 s)) ∧ Tk f w w' [In q (nxt 1 s).1 (nxt 1 s).2] m := by
  refine enter [(0, _)] Try.func92 rfl Try.ntmps92 (Nat.le_of_ble_eq_true rfl) rfl ?_; intro a0 hN
  repeat' (first
    | (refine isT ?_; (first | (refine T_assign hN rfl (by first | exact .inr trivial | exact .inl rfl) ?_) | (refine T_move hN rfl (by first | exact .inr trivial | exact .inl rfl) ?_) | (refine T_nil ?_) | (refine is_call ?_; (first | (refine is_call ?_; obtain ⟨f1, hP, hK⟩ := hT.call1m 0 rfl; refine T_call (f := 104) hN rfl (by decide) (In_num q s 1 (by omega) f1 _ hP) ?_; rintro e ww ⟨rfl, h1⟩; clear hT hP; replace hT := hK _ _ _ _ h1; clear hK h1; refine ⟨_, rfl, (by first | exact trivial | ((repeat' (first | exact hT.has 0 rfl | exact hT.has 1 rfl | exact hT.has 2 rfl | exact hT.has 3 rfl | exact hT.has 4 rfl | exact hT.has 5 rfl | exact hT.ord 0 rfl | exact hT.ord 1 rfl | exact hT.ord 2 rfl | exact hT.ord 3 rfl | exact hT.ord 4 rfl | exact hT.ord 5 rfl | exact hT.mrd (by assumption) | refine And.intro ?_ ?_)); done)), ?_⟩)))))
    | (refine isC ?_; (first | (refine C_seq ?_) | (refine C_rgnk (id := 0) hN [(0, _)] ⟨rfl, trivial⟩ ?_; clear hN; intro a0 hN) | (refine C_rgnk (id := 1) hN [(0, _), (2, _)] ⟨rfl, rfl, trivial⟩ ?_; clear hN; intro a0 hN) | (refine C_ret ?_)))
    | (refine isE ?_; (first | (refine E_thn ?_) | (refine E_ret hN Try.results92 (.tmp rfl .nil) ?_))))
  all_goals exact ⟨rfl, hT⟩
theorem In_U16 : Calls Try.prog 105 #[.pointer (some ⟨q, 0, none⟩)] w fun en w' => en = .returned (.int .u64 (nm 2 s)) ∧ Tk f w w' [In q (nxt 2 s).1 (nxt 2 s).2] m := by
  refine enter [(0, _)] Try.func105 rfl Try.ntmps105 (Nat.le_of_ble_eq_true rfl) rfl ?_; intro a0 hN
  repeat' (first
    | (refine isT ?_; (first | (refine T_assign hN rfl (by first | exact .inr trivial | exact .inl rfl) ?_) | (refine T_move hN rfl (by first | exact .inr trivial | exact .inl rfl) ?_) | (refine T_nil ?_) | (refine is_call ?_; (first | (refine is_call ?_; obtain ⟨f1, hP, hK⟩ := hT.call1m 0 rfl; refine T_call (f := 104) hN rfl (by decide) (In_num q s 2 (by omega) f1 _ hP) ?_; rintro e ww ⟨rfl, h1⟩; clear hT hP; replace hT := hK _ _ _ _ h1; clear hK h1; refine ⟨_, rfl, (by first | exact trivial | ((repeat' (first | exact hT.has 0 rfl | exact hT.has 1 rfl | exact hT.has 2 rfl | exact hT.has 3 rfl | exact hT.has 4 rfl | exact hT.has 5 rfl | exact hT.ord 0 rfl | exact hT.ord 1 rfl | exact hT.ord 2 rfl | exact hT.ord 3 rfl | exact hT.ord 4 rfl | exact hT.ord 5 rfl | exact hT.mrd (by assumption) | refine And.intro ?_ ?_)); done)), ?_⟩)))))
    | (refine isC ?_; (first | (refine C_seq ?_) | (refine C_rgnk (id := 0) hN [(0, _)] ⟨rfl, trivial⟩ ?_; clear hN; intro a0 hN) | (refine C_rgnk (id := 1) hN [(0, _), (2, _)] ⟨rfl, rfl, trivial⟩ ?_; clear hN; intro a0 hN) | (refine C_ret ?_)))
    | (refine isE ?_; (first | (refine E_thn ?_) | (refine E_ret hN Try.results105 (.tmp rfl .nil) ?_))))
  all_goals exact ⟨rfl, hT⟩
theorem In_U64 : Calls Try.prog 95 #[.pointer (some ⟨q, 0, none⟩)] w fun en w' => en = .returned (.int .u64 (nm 8 s)) ∧ Tk f w w' [In q (nxt 8 s).1 (nxt 8 s).2] m := by
  refine enter [(0, _)] Try.func95 rfl Try.ntmps95 (Nat.le_of_ble_eq_true rfl) rfl ?_; intro a0 hN
  repeat' (first
    | (refine isT ?_; (first | (refine T_assign hN rfl (by first | exact .inr trivial | exact .inl rfl) ?_) | (refine T_move hN rfl (by first | exact .inr trivial | exact .inl rfl) ?_) | (refine T_nil ?_) | (refine is_call ?_; (first | (refine is_call ?_; obtain ⟨f1, hP, hK⟩ := hT.call1m 0 rfl; refine T_call (f := 104) hN rfl (by decide) (In_num q s 8 (by omega) f1 _ hP) ?_; rintro e ww ⟨rfl, h1⟩; clear hT hP; replace hT := hK _ _ _ _ h1; clear hK h1; refine ⟨_, rfl, (by first | exact trivial | ((repeat' (first | exact hT.has 0 rfl | exact hT.has 1 rfl | exact hT.has 2 rfl | exact hT.has 3 rfl | exact hT.has 4 rfl | exact hT.has 5 rfl | exact hT.ord 0 rfl | exact hT.ord 1 rfl | exact hT.ord 2 rfl | exact hT.ord 3 rfl | exact hT.ord 4 rfl | exact hT.ord 5 rfl | exact hT.mrd (by assumption) | refine And.intro ?_ ?_)); done)), ?_⟩)))))
    | (refine isC ?_; (first | (refine C_seq ?_) | (refine C_rgnk (id := 0) hN [(0, _)] ⟨rfl, trivial⟩ ?_; clear hN; intro a0 hN) | (refine C_rgnk (id := 1) hN [(0, _), (2, _)] ⟨rfl, rfl, trivial⟩ ?_; clear hN; intro a0 hN) | (refine C_ret ?_)))
    | (refine isE ?_; (first | (refine E_thn ?_) | (refine E_ret hN Try.results95 (.tmp rfl .nil) ?_))))
  all_goals exact ⟨rfl, hT⟩
theorem In_End : Calls Try.prog 99 #[.pointer (some ⟨q, 0, none⟩)] w fun en w' => en = .returned (.int .i64 (if s.1 = [] ∨ ¬ s.2 = 0 then s.2 else 10)) ∧ Tk f w w' [In q [] (if s.1 = [] ∨ ¬ s.2 = 0 then s.2 else 10)] m := by
  obtain ⟨xs, e⟩ := s
  by_cases hx : xs = []
  · subst hx
    rw [if_pos (.inl rfl)]
    have hL := In_Left q [] e
    rw [List.length_nil] at hL
    have hE := In_Err q [] e
    refine enter [(0, _)] Try.func99 rfl Try.ntmps99 (Nat.le_of_ble_eq_true rfl) rfl ?_; intro a0 hN
    repeat' (first
      | (refine isT ?_; (first | (refine T_assign hN rfl (by first | exact .inr trivial | exact .inl rfl) ?_) | (refine T_move hN rfl (by first | exact .inr trivial | exact .inl rfl) ?_) | (refine T_nil ?_) | (refine is_binOp ?_; (first | (refine T_gtr hN rfl rfl (by first | exact .inr trivial | exact .inl rfl) ?_))) | (refine is_call ?_; (first | (refine is_call ?_; obtain ⟨f1, hP, hK⟩ := hT.call1m 0 rfl; refine T_call (f := 97) hN rfl (by decide) (hL f1 _ hP) ?_; rintro e ww ⟨rfl, h1⟩; clear hT hP; replace hT := hK _ _ _ _ h1; clear hK h1; refine ⟨_, rfl, (by first | exact trivial | ((repeat' (first | exact hT.has 0 rfl | exact hT.has 1 rfl | exact hT.has 2 rfl | exact hT.has 3 rfl | exact hT.has 4 rfl | exact hT.has 5 rfl | exact hT.ord 0 rfl | exact hT.ord 1 rfl | exact hT.ord 2 rfl | exact hT.ord 3 rfl | exact hT.ord 4 rfl | exact hT.ord 5 rfl | exact hT.mrd (by assumption) | refine And.intro ?_ ?_)); done)), ?_⟩) | (refine is_call ?_; obtain ⟨f1, hP, hK⟩ := hT.call1m 0 rfl; refine T_call (f := 93) hN rfl (by decide) (hE f1 _ hP) ?_; rintro e ww ⟨rfl, h1⟩; clear hT hP; replace hT := hK _ _ _ _ h1; clear hK h1; refine ⟨_, rfl, (by first | exact trivial | ((repeat' (first | exact hT.has 0 rfl | exact hT.has 1 rfl | exact hT.has 2 rfl | exact hT.has 3 rfl | exact hT.has 4 rfl | exact hT.has 5 rfl | exact hT.ord 0 rfl | exact hT.ord 1 rfl | exact hT.ord 2 rfl | exact hT.ord 3 rfl | exact hT.ord 4 rfl | exact hT.ord 5 rfl | exact hT.mrd (by assumption) | refine And.intro ?_ ?_)); done)), ?_⟩)))))
      | (refine isC ?_; (first | (refine C_seq ?_) | (refine C_rgnk (id := 0) hN [(0, _)] ⟨rfl, trivial⟩ ?_; clear hN; intro a0 hN) | (refine C_rgnk (id := 1) hN [(0, _), (2, _)] ⟨rfl, rfl, trivial⟩ ?_; clear hN; intro a0 hN) | (refine C_rgnk (id := 3) hN [(0, _), (2, _), (5, _)] ⟨rfl, rfl, rfl, trivial⟩ ?_; clear hN; intro a0 hN) | (refine C_if hN rfl (fun hb => ?_) (fun hb => ?_) <;> ((first | (exfalso; omega) | (exfalso; exact hb rfl) | (exfalso; exact hb (fun h => h rfl)) | ((with_reducible refine absurd ?_ hb); (repeat' (first | exact trivial | refine And.intro rfl ?_)); done) | (replace hb := Classical.not_not.1 hb) | skip))) | (refine C_skip ?_) | (refine C_ret ?_)))
      | (refine isE ?_; (first | (refine E_thn ?_) | (refine E_ret hN Try.results99 (.tmp rfl .nil) ?_))))
    all_goals exact ⟨rfl, hT⟩
  · have he : e = 0 := by
      obtain ⟨x, c, ⟨i1, i2, i3, i4, i5⟩, hT⟩ := In.open hT
      exact Classical.not_not.1 fun h => hx (i3 h)
    subst he
    rw [if_neg (fun h => by rcases h with h | h; exact hx h; exact h rfl)]
    have hxl : 0 < xs.length := List.length_pos_iff.2 hx
    have hL := In_Left q xs 0
    have hF := In_Fail q xs 0
    have hE := In_Err q [] 10
    refine enter [(0, _)] Try.func99 rfl Try.ntmps99 (Nat.le_of_ble_eq_true rfl) rfl ?_; intro a0 hN
    repeat' (first
      | (refine isT ?_; (first | (refine T_assign hN rfl (by first | exact .inr trivial | exact .inl rfl) ?_) | (refine T_move hN rfl (by first | exact .inr trivial | exact .inl rfl) ?_) | (refine T_nil ?_) | (refine is_binOp ?_; (first | (refine T_gtr hN rfl rfl (by first | exact .inr trivial | exact .inl rfl) ?_))) | (refine is_call ?_; (first | (refine is_call ?_; obtain ⟨f1, hP, hK⟩ := hT.call1m 0 rfl; refine T_call (f := 97) hN rfl (by decide) (hL f1 _ hP) ?_; rintro e ww ⟨rfl, h1⟩; clear hT hP; replace hT := hK _ _ _ _ h1; clear hK h1; refine ⟨_, rfl, (by first | exact trivial | ((repeat' (first | exact hT.has 0 rfl | exact hT.has 1 rfl | exact hT.has 2 rfl | exact hT.has 3 rfl | exact hT.has 4 rfl | exact hT.has 5 rfl | exact hT.ord 0 rfl | exact hT.ord 1 rfl | exact hT.ord 2 rfl | exact hT.ord 3 rfl | exact hT.ord 4 rfl | exact hT.ord 5 rfl | exact hT.mrd (by assumption) | refine And.intro ?_ ?_)); done)), ?_⟩) | (refine is_call ?_; obtain ⟨f1, hP, hK⟩ := hT.call1m 0 rfl; refine T_call (f := 94) hN rfl (by decide) (hF f1 _ hP 10) ?_; rintro e ww ⟨rfl, h1⟩; clear hT hP; replace hT := hK _ _ _ _ h1; clear hK h1; refine ⟨_, rfl, (by first | exact trivial | ((repeat' (first | exact hT.has 0 rfl | exact hT.has 1 rfl | exact hT.has 2 rfl | exact hT.has 3 rfl | exact hT.has 4 rfl | exact hT.has 5 rfl | exact hT.ord 0 rfl | exact hT.ord 1 rfl | exact hT.ord 2 rfl | exact hT.ord 3 rfl | exact hT.ord 4 rfl | exact hT.ord 5 rfl | exact hT.mrd (by assumption) | refine And.intro ?_ ?_)); done)), ?_⟩) | (refine is_call ?_; obtain ⟨f1, hP, hK⟩ := hT.call1m 0 rfl; refine T_call (f := 93) hN rfl (by decide) (hE f1 _ hP) ?_; rintro e ww ⟨rfl, h1⟩; clear hT hP; replace hT := hK _ _ _ _ h1; clear hK h1; refine ⟨_, rfl, (by first | exact trivial | ((repeat' (first | exact hT.has 0 rfl | exact hT.has 1 rfl | exact hT.has 2 rfl | exact hT.has 3 rfl | exact hT.has 4 rfl | exact hT.has 5 rfl | exact hT.ord 0 rfl | exact hT.ord 1 rfl | exact hT.ord 2 rfl | exact hT.ord 3 rfl | exact hT.ord 4 rfl | exact hT.ord 5 rfl | exact hT.mrd (by assumption) | refine And.intro ?_ ?_)); done)), ?_⟩)))))
      | (refine isC ?_; (first | (refine C_seq ?_) | (refine C_rgnk (id := 0) hN [(0, _)] ⟨rfl, trivial⟩ ?_; clear hN; intro a0 hN) | (refine C_rgnk (id := 1) hN [(0, _), (2, _)] ⟨rfl, rfl, trivial⟩ ?_; clear hN; intro a0 hN) | (refine C_rgnk (id := 2) hN [(0, _), (2, _), (5, _)] ⟨rfl, rfl, rfl, trivial⟩ ?_; clear hN; intro a0 hN) | (refine C_rgnk (id := 3) hN [(0, _), (2, _), (5, _)] ⟨rfl, rfl, rfl, trivial⟩ ?_; clear hN; intro a0 hN) | (refine C_if hN rfl (fun hb => ?_) (fun hb => ?_) <;> ((first | (exfalso; omega) | (exfalso; exact hb rfl) | (exfalso; exact hb (fun h => h rfl)) | ((with_reducible refine absurd ?_ hb); (repeat' (first | exact trivial | refine And.intro rfl ?_)); done) | (replace hb := Classical.not_not.1 hb) | skip))) | (refine C_ret ?_)))
      | (refine isE ?_; (first | (refine E_thn ?_) | (refine E_ret hN Try.results99 (.tmp rfl .nil) ?_))))
    all_goals exact ⟨rfl, hT⟩
end
end Go.Proofs.Ytfcmjlbfoindaaa
