/- THE WALKS of the document's answer: what is taken. -/
import Derived.Test.YthjdhmnmlblpfaaRIn03e
namespace Go.Proofs.YthjdhmnmlblpfaaR
open Go.RowKit Go.Fp
attribute [local irreducible] Go.Calls
set_option maxRecDepth 100000
set_option maxHeartbeats 2000000
/-- The document's In: its bytes are read where they lie. -/
def RI (x : Option Addr) (c : Nat) (bs : List UInt8) (q : Nat) (s : List UInt8 × Int) : Ob :=
  Ob.ex fun a : Nat => Ob.so (a ≤ bs.length ∧ s.1 = if s.2 = 0 then bs.drop a else []) (Ob.blk q 103 [.slice x bs.length c, .int .i64 a, .int .i64 s.2])
theorem RI.open {S : List Nat} {w0 w : World} {l m : List Ob} {q : Nat} {x : Option Addr} {c : Nat} {bs : List UInt8} {s : List UInt8 × Int} (h : Tk S w0 w (RI x c bs q s :: l) m) :
    ∃ a, (a ≤ bs.length ∧ s.1 = if s.2 = 0 then bs.drop a else []) ∧ Tk S w0 w (Ob.blk q 103 [.slice x bs.length c, .int .i64 a, .int .i64 s.2] :: l) m := by
  obtain ⟨a, h⟩ := h.exE
  obtain ⟨h1, h⟩ := h.soE
  exact ⟨a, h1, h⟩
theorem RI.shut {S : List Nat} {w0 w : World} {l m : List Ob} {q a n : Nat} {x : Option Addr} {c : Nat} {bs : List UInt8} {s : List UInt8 × Int} {e : Int} (h : Tk S w0 w (Ob.blk q 103 [.slice x n c, .int .i64 a, .int .i64 e] :: l) m) (hn : n = bs.length) (he : e = s.2) (h1 : a ≤ bs.length) (h2 : s.1 = if s.2 = 0 then bs.drop a else []) : Tk S w0 w (RI x c bs q s :: l) m := by
  subst hn he
  exact Tk.exI a (Tk.soI ⟨h1, h2⟩ h)
theorem ref_InRaw (x : Option Addr) (c : Nat) (bs : List UInt8) (hbs : bs.length ≤ 140737488355328) (q : Nat) (s : List UInt8 × Int) (k : Nat) (hk : k ≤ 1000000000) (f : List Nat) (w : World) {m : List Ob} (hT : Tk f w w [RI x c bs q s] (Ob.rd x bs.length 1 (u8s bs) :: m)) :
    Calls Try.prog 83 #[.pointer (some ⟨q, 0, none⟩), .int .i64 k] w fun e w' => ∃ x' c', e = .returned (.slice x' (nx k s).length c') ∧ Tk f w w' [RI x c bs q (nxt k s), Ob.own 5 1 (.slice x' (nx k s).length c') (nx k s).length (u8s (nx k s))] (Ob.rd x bs.length 1 (u8s bs) :: m) := by
  obtain ⟨xs, e⟩ := s
  obtain ⟨a, ⟨i1, i2⟩, hT1⟩ := RI.open hT
  clear hT
  have hT := hT1
  clear hT1
  dsimp only at i2 hT
  by_cases he : e = 0
  · subst he
    rw [if_pos rfl] at i2
    subst i2
    have hdl : (bs.drop a).length = bs.length - a := List.length_drop
    by_cases hkl : k ≤ bs.length - a
    · have e1 : nx k (bs.drop a, 0) = (bs.drop a).take k := if_pos ⟨rfl, by dsimp only; omega⟩
      have e2 : nxt k (bs.drop a, 0) = ((bs.drop a).drop k, 0) := by simp [nxt]; omega
      have e3 : ((bs.drop a).take k).length = k := by rw [List.length_take]; omega
      rw [e1, e2, e3]
      refine enter [(0, _), (1, _)] Try.func83 rfl Try.ntmps83 (Nat.le_of_ble_eq_true rfl) rfl ?_; intro a0 hN
      repeat' (first
        | (refine isT ?_; (first | (refine T_assign hN rfl (by first | exact .inr trivial | exact .inl rfl) ?_) | (refine T_fieldAddr hN rfl (by first | exact .inr trivial | exact .inl rfl) ?_) | (refine T_move hN rfl (by first | exact .inr trivial | exact .inl rfl) ?_) | (refine T_nilCheck hN rfl (by first | exact .inr trivial | exact .inl rfl) ?_) | (refine T_nil ?_) | (refine T_nild ?_) | (refine is_load ?_; (first | (refine T_load hN rfl (hT.has 0 rfl) rfl (by first | exact .inl rfl | exact .inr ⟨by decide, trivial⟩) ?_))) | (refine is_binOp ?_; (first | (refine T_lss hN rfl rfl (by first | exact .inr trivial | exact .inl rfl) ?_) | (refine T_neq hN rfl rfl (by first | exact .inr trivial | exact .inl rfl) ?_) | (refine T_subi64 hN rfl rfl (by omega) (by first | exact .inr trivial | exact .inl rfl) ?_))) | (refine is_call ?_; (first | (refine T_len hN rfl (by first | exact .inr trivial | exact .inl rfl) ?_)))))
        | (refine isC ?_; (first | (refine C_seq ?_) | (refine C_rgnk (id := 0) hN [(0, _), (1, _)] ⟨rfl, rfl, trivial⟩ ?_; clear hN; intro a0 hN) | (refine C_rgnk (id := 1) hN [(0, _), (1, _), (4, _)] ⟨rfl, rfl, rfl, trivial⟩ ?_; clear hN; intro a0 hN) | (refine C_rgnk (id := 6) hN [(0, _), (1, _), (4, _), (11, _), (23, _)] ⟨rfl, rfl, rfl, rfl, rfl, trivial⟩ ?_; clear hN; intro a0 hN) | (refine C_rgnk (id := 7) hN [(0, _), (1, _), (4, _), (5, _), (11, _), (23, _)] ⟨rfl, rfl, rfl, rfl, rfl, rfl, trivial⟩ ?_; clear hN; intro a0 hN) | (refine C_if hN rfl (fun hb => ?_) (fun hb => ?_) <;> ((first | (exfalso; omega) | (exfalso; exact hb rfl) | (exfalso; exact hb (fun h => h rfl)) | ((with_reducible refine absurd ?_ hb); (repeat' (first | exact trivial | refine And.intro rfl ?_)); done) | (replace hb := Classical.not_not.1 hb) | skip))) | (refine C_skip ?_) | (refine C_block ?_) | (refine C_drawk (id := 3) hN [(0, _), (1, _), (4, _), (11, _)] ⟨rfl, rfl, rfl, rfl, trivial⟩ [0, 0, 0, 1, 0, 0, 0, 0, 1, 0, 0] Any Try.mixed (by kernel_rfl) trivial ?_; replace hT := hT.drew; clear hN; intro a0 hN)))
        | (refine isE ?_; (first | (refine E_thn ?_))))
      all_goals
        refine C_loop hN (X := Nat × Option Addr × Nat) (fun z => [(0, .pointer (some ⟨q, 0, none⟩)), (1, .int .i64 k), (5, .slice z.2.1 z.1 z.2.2), (6, .int .i64 z.1)]) (fun z w1 => z.1 ≤ k ∧ Tk f w w1 [Ob.own 5 1 (.slice z.2.1 z.1 z.2.2) z.1 (u8s ((bs.drop a).take z.1)), Ob.blk q 103 [.slice x bs.length c, .int .i64 a, .int .i64 0]] (Ob.rd x bs.length 1 (u8s bs) :: m)) (fun z => k - z.1) (0, none, 0) ⟨rfl, rfl, rfl, rfl, trivial⟩ ⟨Nat.zero_le _, hT.addnil 5 1⟩ ?_
        clear hN hT
        rintro ⟨j, x1, c1⟩ a0 ww hN ⟨hj, hT⟩
        dsimp only at hj hT ⊢
        by_cases hj0 : j = k
        · subst hj0
          repeat' (first
            | (refine isT ?_; (first | (refine T_assign hN rfl (by first | exact .inr trivial | exact .inl rfl) ?_) | (refine T_fieldAddr hN rfl (by first | exact .inr trivial | exact .inl rfl) ?_) | (refine T_move hN rfl (by first | exact .inr trivial | exact .inl rfl) ?_) | (refine T_nilCheck hN rfl (by first | exact .inr trivial | exact .inl rfl) ?_) | (refine T_nil ?_) | (refine is_load ?_; (first | (refine T_load hN rfl (hT.has 1 rfl) rfl (by first | exact .inl rfl | exact .inr ⟨by decide, trivial⟩) ?_))) | (refine is_binOp ?_; (first | (refine T_addi64 hN rfl rfl (by omega) (by first | exact .inr trivial | exact .inl rfl) ?_) | (refine T_lss hN rfl rfl (by first | exact .inr trivial | exact .inl rfl) ?_))) | (refine is_store ?_; (first | (refine T_store hN hT 1 rfl rfl rfl rfl rfl (by decide) ?_; clear hT; intro ww hT; refine ⟨(by first | exact trivial), ?_⟩)))))
            | (refine isC ?_; (first | (refine C_seq ?_) | (refine C_rgn ?_) | (refine C_if hN rfl (fun hb => ?_) (fun hb => ?_) <;> ((first | (exfalso; omega) | (exfalso; exact hb rfl) | (exfalso; exact hb (fun h => h rfl)) | ((with_reducible refine absurd ?_ hb); (repeat' (first | exact trivial | refine And.intro rfl ?_)); done) | (replace hb := Classical.not_not.1 hb) | skip))) | (refine C_ret ?_) | (refine C_exit ?_)))
            | (refine isE ?_; (first | (refine E_thn ?_) | (refine E_thn_exit ?_) | (refine E_blk_hit ?_) | (refine E_lp_exit ?_) | (refine E_ret hN Try.results83 (.tmp rfl .nil) ?_))))
          all_goals exact ⟨x1, c1, rfl, (RI.shut (a := a + j) hT.swap rfl rfl (by omega) (by simp [List.drop_drop]))⟩
        · obtain ⟨B, off, rfl⟩ := (hT.rrd 0 rfl).addr (by omega)
          have haj : a + j < bs.length := by omega
          have hcell : ∀ w : World, Rdz w (some ⟨B, off, none⟩) bs.length 1 (u8s bs) → w.cell? ⟨B, off + ((a : Int) + (j : Int)).toNat * 1, none⟩ = some (u8 bs[a + j]) := fun w h => by
            rw [Nat.mul_one, show ((a : Int) + (j : Int)).toNat = a + j by omega]
            exact h.cell rfl (by rw [u8s_get, List.getElem?_eq_getElem haj]; rfl)
          have htk : (bs.drop a).take (j + 1) = (bs.drop a).take j ++ [bs[a + j]] := by
            rw [List.take_succ_eq_append_getElem (by omega), List.getElem_drop]
          repeat' (first
            | (refine isT ?_; (first | (refine T_assign hN rfl (by first | exact .inr trivial | exact .inl rfl) ?_) | (refine T_fieldAddr hN rfl (by first | exact .inr trivial | exact .inl rfl) ?_) | (refine T_move hN rfl (by first | exact .inr trivial | exact .inl rfl) ?_) | (refine T_nilCheck hN rfl (by first | exact .inr trivial | exact .inl rfl) ?_) | (refine T_nil ?_) | (refine T_nild ?_) | (refine is_load ?_; (first | (refine T_loadc hN rfl (hcell _ (hT.rrd 0 rfl)) (by first | exact .inl rfl | exact .inr ⟨by decide, trivial⟩) ?_) | (refine T_load hN rfl (hT.has 1 rfl) rfl (by first | exact .inl rfl | exact .inr ⟨by decide, trivial⟩) ?_))) | (refine is_binOp ?_; (first | (refine T_addi64 hN rfl rfl (by omega) (by first | exact .inr trivial | exact .inl rfl) ?_) | (refine T_lss hN rfl rfl (by first | exact .inr trivial | exact .inl rfl) ?_))) | (refine is_call ?_; (first | (refine T_append hN hT 1 (by rfl) (by rfl) rfl rfl rfl (fun h => by cases h) (blk_rdz (sz := 1) (hT.has 0 rfl) rfl rfl) (u8s_all1 [_]) (by unfold maxLen; omega) (by omega) (by decide) ?_; clear hT; intro x2 c2 ww hT; refine ⟨trivial, ?_⟩))) | (refine is_indexAddr ?_; (first | (refine T_indexAddrz hN rfl rfl (by omega) (.inr trivial) ?_))) | (refine is_buildSlice ?_; (first | (refine T_slice1 hN hT rfl rfl (by decide) ?_; clear hT; intro g ww hT; refine ⟨(by first | exact trivial), ?_⟩)))))
            | (refine isC ?_; (first | (refine C_seq ?_) | (refine C_rgn ?_) | (refine C_if hN rfl (fun hb => ?_) (fun hb => ?_) <;> ((first | (exfalso; omega) | (exfalso; exact hb rfl) | (exfalso; exact hb (fun h => h rfl)) | ((with_reducible refine absurd ?_ hb); (repeat' (first | exact trivial | refine And.intro rfl ?_)); done) | (replace hb := Classical.not_not.1 hb) | skip))) | (refine C_skip ?_) | (refine C_block ?_) | (refine C_draw (id := 10) [0, 0, 0, 0, 1, 0, 0, 0, 1, 0, 0, 0, 1] Any Try.mixed (by kernel_rfl) trivial ?_; replace hT := hT.drew)))
            | (refine isE ?_; (first | (refine E_thn ?_) | (refine E_blk ?_))))
          all_goals exact E_mk hN (j + 1, x2, c2) ⟨rfl, rfl, rfl, evI rfl (by omega), trivial⟩ ⟨⟨by omega, by dsimp only; rw [htk, u8s_append]; exact hT.drop⟩, by omega⟩
    · have e1 : nx k (bs.drop a, 0) = [] := if_neg (fun h => by have := h.2; dsimp only at this; omega)
      have e2 : nxt k (bs.drop a, 0) = ([], 9) := by simp [nxt]; omega
      rw [e1, e2]
      refine enter [(0, _), (1, _)] Try.func83 rfl Try.ntmps83 (Nat.le_of_ble_eq_true rfl) rfl ?_; intro a0 hN
      repeat' (first
        | (refine isT ?_; (first | (refine T_assign hN rfl (by first | exact .inr trivial | exact .inl rfl) ?_) | (refine T_fieldAddr hN rfl (by first | exact .inr trivial | exact .inl rfl) ?_) | (refine T_move hN rfl (by first | exact .inr trivial | exact .inl rfl) ?_) | (refine T_nilCheck hN rfl (by first | exact .inr trivial | exact .inl rfl) ?_) | (refine T_nil ?_) | (refine T_nild ?_) | (refine is_load ?_; (first | (refine T_load hN rfl (hT.has 0 rfl) rfl (by first | exact .inl rfl | exact .inr ⟨by decide, trivial⟩) ?_))) | (refine is_binOp ?_; (first | (refine T_lss hN rfl rfl (by first | exact .inr trivial | exact .inl rfl) ?_) | (refine T_neq hN rfl rfl (by first | exact .inr trivial | exact .inl rfl) ?_) | (refine T_subi64 hN rfl rfl (by omega) (by first | exact .inr trivial | exact .inl rfl) ?_))) | (refine is_call ?_; (first | (refine T_len hN rfl (by first | exact .inr trivial | exact .inl rfl) ?_))) | (refine is_store ?_; (first | (refine T_store hN hT 0 rfl rfl rfl rfl rfl (by decide) ?_; clear hT; intro ww hT; refine ⟨(by first | exact trivial), ?_⟩)))))
        | (refine isC ?_; (first | (refine C_seq ?_) | (refine C_rgnk (id := 0) hN [(0, _), (1, _)] ⟨rfl, rfl, trivial⟩ ?_; clear hN; intro a0 hN) | (refine C_rgnk (id := 1) hN [(0, _), (1, _), (4, _)] ⟨rfl, rfl, rfl, trivial⟩ ?_; clear hN; intro a0 hN) | (refine C_rgnk (id := 4) hN [(0, _), (1, _), (4, _), (11, _), (23, _)] ⟨rfl, rfl, rfl, rfl, rfl, trivial⟩ ?_; clear hN; intro a0 hN) | (refine C_rgnk (id := 5) hN [(0, _), (1, _), (4, _), (11, _), (23, _)] ⟨rfl, rfl, rfl, rfl, rfl, trivial⟩ ?_; clear hN; intro a0 hN) | (refine C_if hN rfl (fun hb => ?_) (fun hb => ?_) <;> ((first | (exfalso; omega) | (exfalso; exact hb rfl) | (exfalso; exact hb (fun h => h rfl)) | ((with_reducible refine absurd ?_ hb); (repeat' (first | exact trivial | refine And.intro rfl ?_)); done) | (replace hb := Classical.not_not.1 hb) | skip))) | (refine C_skip ?_) | (refine C_ret ?_) | (refine C_drawk (id := 3) hN [(0, _), (1, _), (4, _), (11, _)] ⟨rfl, rfl, rfl, rfl, trivial⟩ [0, 0, 0, 1, 0, 0, 0, 0, 1, 0, 0] Any Try.mixed (by kernel_rfl) trivial ?_; replace hT := hT.drew; clear hN; intro a0 hN)))
        | (refine isE ?_; (first | (refine E_thn ?_) | (refine E_thn_ret ?_) | (refine E_ret hN Try.results83 (.tmp rfl .nil) ?_))))
      all_goals exact ⟨none, 0, rfl, (RI.shut hT rfl rfl i1 rfl).addnil 5 1 |>.swap⟩
  · have e1 : nx k (xs, e) = [] := if_neg (fun h => he h.1)
    have e2 : nxt k (xs, e) = (xs, e) := if_neg he
    rw [e1, e2]
    refine enter [(0, _), (1, _)] Try.func83 rfl Try.ntmps83 (Nat.le_of_ble_eq_true rfl) rfl ?_; intro a0 hN
    repeat' (first
      | (refine isT ?_; (first | (refine T_assign hN rfl (by first | exact .inr trivial | exact .inl rfl) ?_) | (refine T_fieldAddr hN rfl (by first | exact .inr trivial | exact .inl rfl) ?_) | (refine T_move hN rfl (by first | exact .inr trivial | exact .inl rfl) ?_) | (refine T_nilCheck hN rfl (by first | exact .inr trivial | exact .inl rfl) ?_) | (refine T_nil ?_) | (refine is_load ?_; (first | (refine T_load hN rfl (hT.has 0 rfl) rfl (by first | exact .inl rfl | exact .inr ⟨by decide, trivial⟩) ?_))) | (refine is_binOp ?_; (first | (refine T_neq hN rfl rfl (by first | exact .inr trivial | exact .inl rfl) ?_)))))
      | (refine isC ?_; (first | (refine C_seq ?_) | (refine C_rgnk (id := 0) hN [(0, _), (1, _)] ⟨rfl, rfl, trivial⟩ ?_; clear hN; intro a0 hN) | (refine C_rgnk (id := 1) hN [(0, _), (1, _), (4, _)] ⟨rfl, rfl, rfl, trivial⟩ ?_; clear hN; intro a0 hN) | (refine C_rgnk (id := 2) hN [(0, _), (1, _), (4, _), (11, _)] ⟨rfl, rfl, rfl, rfl, trivial⟩ ?_; clear hN; intro a0 hN) | (refine C_if hN rfl (fun hb => ?_) (fun hb => ?_) <;> ((first | (exfalso; omega) | (exfalso; exact hb rfl) | (exfalso; exact hb (fun h => h rfl)) | ((with_reducible refine absurd ?_ hb); (repeat' (first | exact trivial | refine And.intro rfl ?_)); done) | (replace hb := Classical.not_not.1 hb) | skip))) | (refine C_ret ?_)))
      | (refine isE ?_; (first | (refine E_thn ?_) | (refine E_thn_ret ?_) | (refine E_ret hN Try.results83 (.tmp rfl .nil) ?_))))
    all_goals exact ⟨none, 0, rfl, (RI.shut (s := (xs, e)) hT rfl rfl i1 i2).addnil 5 1 |>.swap⟩
end Go.Proofs.YthjdhmnmlblpfaaR
/- THE WALKS of the document's answer: what is taken, numbers, short sums. -/
namespace Go.Proofs.YthjdhmnmlblpfaaR
open Go.RowKit Go.Fp
attribute [local irreducible] Go.Calls
set_option maxRecDepth 100000
set_option maxHeartbeats 2000000
section
variable (x : Option Addr) (c : Nat) (bs : List UInt8) (hbs : bs.length ≤ 140737488355328) (q : Nat) (s : List UInt8 × Int)
include hbs
theorem ref_InNum (k : Nat) (hk : k ≤ 8) (f : List Nat) (w : World) {m : List Ob} (hT : Tk f w w [RI x c bs q s] (Ob.rd x bs.length 1 (u8s bs) :: m)) :
    Calls Try.prog 53 #[.pointer (some ⟨q, 0, none⟩), .int .i64 k] w fun e w' => e = .returned (.int .u64 (nm k s)) ∧ Tk f w w' [RI x c bs q (nxt k s)] (Ob.rd x bs.length 1 (u8s bs) :: m) := by
  have hR := fun f1 ww (h) => ref_InRaw x c bs hbs q s k (by omega) f1 ww (m := m) h
  have hl := nx_len k s
  unfold nm
  generalize nx k s = ps at *
  generalize nxt k s = s' at *
  refine enter [(0, _), (1, _)] Try.func53 rfl Try.ntmps53 (Nat.le_of_ble_eq_true rfl) rfl ?_; intro a0 hN
  repeat' (first
    | (refine isT ?_; (first | (refine T_assign hN rfl (by first | exact .inr trivial | exact .inl rfl) ?_) | (refine T_move hN rfl (by first | exact .inr trivial | exact .inl rfl) ?_) | (refine T_nil ?_) | (refine is_call ?_; (first | (refine is_call ?_; obtain ⟨f1, hP, hK⟩ := hT.call1m 0 rfl; refine T_call (f := 83) hN rfl (by decide) (hR f1 _ hP) ?_; rintro e ww ⟨x1, c1, rfl, h1⟩; clear hT hP; replace hT := hK _ _ _ _ h1; clear hK h1; refine ⟨_, rfl, (by first | exact trivial | ((repeat' (first | exact hT.has 0 rfl | exact hT.has 1 rfl | exact hT.has 2 rfl | exact hT.has 3 rfl | exact hT.has 4 rfl | exact hT.has 5 rfl | exact hT.ord 0 rfl | exact hT.ord 1 rfl | exact hT.ord 2 rfl | exact hT.ord 3 rfl | exact hT.ord 4 rfl | exact hT.ord 5 rfl | exact hT.mrd (by assumption) | refine And.intro ?_ ?_)); done)), ?_⟩)))))
    | (refine isC ?_; (first | (refine C_seq ?_) | (refine C_rgnk (id := 0) hN [(0, _), (1, _)] ⟨rfl, rfl, trivial⟩ ?_; clear hN; intro a0 hN) | (refine C_rgnk (id := 1) hN [(0, _), (1, _), (4, _)] ⟨rfl, rfl, rfl, trivial⟩ ?_; clear hN; intro a0 hN) | (refine C_rgnk (id := 2) hN [(0, _), (1, _), (4, _), (5, _)] ⟨rfl, rfl, rfl, rfl, trivial⟩ ?_; clear hN; intro a0 hN) | (refine C_rgnk (id := 3) hN [(0, _), (1, _), (4, _), (5, _), (6, _)] ⟨rfl, rfl, rfl, rfl, rfl, trivial⟩ ?_; clear hN; intro a0 hN) | (refine C_block ?_)))
    | (refine isE ?_; (first | (refine E_thn ?_))))
  all_goals
    refine C_loop hN (X := Nat) (fun j => [(5, .slice x1 ps.length c1), (6, .int .u64 (beN (ps.take j))), (7, .int .i64 j)]) (fun j w1 => j ≤ ps.length ∧ w1 = ww) (fun j => ps.length - j) 0 ⟨rfl, rfl, rfl, trivial⟩ ⟨Nat.zero_le _, rfl⟩ ?_
    clear hN
    rintro j a0 w1 hN ⟨hj, rfl⟩
    by_cases hj0 : j = ps.length
    · subst hj0
      repeat' (first
        | (refine isT ?_; (first | (refine T_assign hN rfl (by first | exact .inr trivial | exact .inl rfl) ?_) | (refine T_move hN rfl (by first | exact .inr trivial | exact .inl rfl) ?_) | (refine T_nil ?_) | (refine is_binOp ?_; (first | (refine T_lss hN rfl rfl (by first | exact .inr trivial | exact .inl rfl) ?_))) | (refine is_call ?_; (first | (refine T_len hN rfl (by first | exact .inr trivial | exact .inl rfl) ?_)))))
        | (refine isC ?_; (first | (refine C_seq ?_) | (refine C_rgn ?_) | (refine C_if hN rfl (fun hb => ?_) (fun hb => ?_) <;> ((first | (exfalso; omega) | (exfalso; exact hb rfl) | (exfalso; exact hb (fun h => h rfl)) | ((with_reducible refine absurd ?_ hb); (repeat' (first | exact trivial | refine And.intro rfl ?_)); done) | (replace hb := Classical.not_not.1 hb) | skip))) | (refine C_ret ?_) | (refine C_exit ?_)))
        | (refine isE ?_; (first | (refine E_thn ?_) | (refine E_thn_exit ?_) | (refine E_blk_hit ?_) | (refine E_lp_exit ?_) | (refine E_ret hN Try.results53 (.tmp rfl .nil) ?_))))
      all_goals exact ⟨by rw [List.take_length]; rfl, hT.drop⟩
    · have hrd := hT.ord 0 rfl
      obtain ⟨B, off, rfl⟩ := hrd.addr (by omega)
      have hjl : j < ps.length := by omega
      have hcell : w1.cell? ⟨B, off + j * 1, none⟩ = some (u8 ps[j]) := by rw [Nat.mul_one]; exact hrd.cell rfl (j := j) (u := u8 ps[j]) (by rw [u8s_get, List.getElem?_eq_getElem hjl]; rfl)
      have hv : beN (ps.take j) < 72057594037927936 := by
        have h1 := beN_lt (ps.take j)
        have h2 : 256 ^ (ps.take j).length ≤ 256 ^ 7 := Nat.pow_le_pow_right (by decide) (by rw [List.length_take]; omega)
        exact Nat.lt_of_lt_of_le h1 h2
      have hbl := ps[j].toNat_lt
      have hm : IntKind.u64.wrap ((beN (ps.take j) : Int) * 256) = ((beN (ps.take j) * 256 : Nat) : Int) := by
        rw [show ((beN (ps.take j) : Int) * 256) = ((beN (ps.take j) * 256 : Nat) : Int) by omega]
        exact Go.IntWalk.u64_in _ (by omega)
      have ha : IntKind.u64.wrap (((beN (ps.take j) * 256 : Nat) : Int) + (ps[j].toNat : Int)) = ((beN (ps.take j) * 256 + ps[j].toNat : Nat) : Int) := by
        rw [show (((beN (ps.take j) * 256 : Nat) : Int) + (ps[j].toNat : Int)) = ((beN (ps.take j) * 256 + ps[j].toNat : Nat) : Int) by omega]
        exact Go.IntWalk.u64_in _ (by omega)
      repeat' (first
        | (refine isT ?_; (first | (refine T_assign hN rfl (by first | exact .inr trivial | exact .inl rfl) ?_) | (refine T_move hN rfl (by first | exact .inr trivial | exact .inl rfl) ?_) | (refine T_nil ?_) | (refine is_load ?_; (first | (refine T_loadc hN rfl hcell (by first | exact .inl rfl | exact .inr ⟨by decide, trivial⟩) ?_))) | (refine is_binOp ?_; (first | (refine T_mul hN rfl rfl hm (.inr trivial) ?_) | (refine T_add hN rfl rfl ha (.inr trivial) ?_) | (refine T_addi64 hN rfl rfl (by omega) (by first | exact .inr trivial | exact .inl rfl) ?_) | (refine T_lss hN rfl rfl (by first | exact .inr trivial | exact .inl rfl) ?_))) | (refine is_call ?_; (first | (refine T_len hN rfl (by first | exact .inr trivial | exact .inl rfl) ?_))) | (refine is_convert ?_; (first | (refine T_conv hN rfl (conv_byte ps[j]) (.inr trivial) ?_))) | (refine is_indexAddr ?_; (first | (refine T_indexAddr hN rfl rfl (by omega) (by first | exact .inr trivial | exact .inl rfl) ?_)))))
        | (refine isC ?_; (first | (refine C_seq ?_) | (refine C_rgn ?_) | (refine C_if hN rfl (fun hb => ?_) (fun hb => ?_) <;> ((first | (exfalso; omega) | (exfalso; exact hb rfl) | (exfalso; exact hb (fun h => h rfl)) | ((with_reducible refine absurd ?_ hb); (repeat' (first | exact trivial | refine And.intro rfl ?_)); done) | (replace hb := Classical.not_not.1 hb) | skip))) | (refine C_skip ?_) | (refine C_block ?_)))
        | (refine isE ?_; (first | (refine E_thn ?_) | (refine E_blk ?_))))
      all_goals exact E_mk hN (j + 1) ⟨rfl, evI rfl (by rw [List.take_succ_eq_append_getElem hjl, beN_snoc]), evI rfl (by omega), trivial⟩ ⟨⟨by omega, rfl⟩, by omega⟩
theorem ref_InLeft (f : List Nat) (w : World) {m : List Ob} (hT : Tk f w w [RI x c bs q s] m) :
    Calls Try.prog 84 #[.pointer (some ⟨q, 0, none⟩)] w fun e w' => e = .returned (.int .i64 s.1.length) ∧ Tk f w w' [RI x c bs q s] m := by
  obtain ⟨a, ⟨i1, i2⟩, hT1⟩ := RI.open hT
  clear hT
  have hT := hT1
  clear hT1
  obtain ⟨xs, e⟩ := s
  dsimp only at i2 hT
  by_cases he : e = 0
  · subst he
    rw [if_pos rfl] at i2
    subst i2
    have hdl : (bs.drop a).length = bs.length - a := List.length_drop
    refine enter [(0, _)] Try.func84 rfl Try.ntmps84 (Nat.le_of_ble_eq_true rfl) rfl ?_; intro a0 hN
    repeat' (first
      | (refine isT ?_; (first | (refine T_assign hN rfl (by first | exact .inr trivial | exact .inl rfl) ?_) | (refine T_fieldAddr hN rfl (by first | exact .inr trivial | exact .inl rfl) ?_) | (refine T_move hN rfl (by first | exact .inr trivial | exact .inl rfl) ?_) | (refine T_nilCheck hN rfl (by first | exact .inr trivial | exact .inl rfl) ?_) | (refine T_nil ?_) | (refine T_nild ?_) | (refine is_load ?_; (first | (refine T_load hN rfl (hT.has 0 rfl) rfl (by first | exact .inl rfl | exact .inr ⟨by decide, trivial⟩) ?_))) | (refine is_binOp ?_; (first | (refine T_neq hN rfl rfl (by first | exact .inr trivial | exact .inl rfl) ?_) | (refine T_subi64 hN rfl rfl (by omega) (by first | exact .inr trivial | exact .inl rfl) ?_))) | (refine is_call ?_; (first | (refine T_len hN rfl (by first | exact .inr trivial | exact .inl rfl) ?_)))))
      | (refine isC ?_; (first | (refine C_seq ?_) | (refine C_rgnk (id := 0) hN [(0, _)] ⟨rfl, trivial⟩ ?_; clear hN; intro a0 hN) | (refine C_rgnk (id := 1) hN [(0, _), (2, _)] ⟨rfl, rfl, trivial⟩ ?_; clear hN; intro a0 hN) | (refine C_if hN rfl (fun hb => ?_) (fun hb => ?_) <;> ((first | (exfalso; omega) | (exfalso; exact hb rfl) | (exfalso; exact hb (fun h => h rfl)) | ((with_reducible refine absurd ?_ hb); (repeat' (first | exact trivial | refine And.intro rfl ?_)); done) | (replace hb := Classical.not_not.1 hb) | skip))) | (refine C_skip ?_) | (refine C_ret ?_) | (refine C_drawk (id := 3) hN [(0, _), (2, _), (7, _)] ⟨rfl, rfl, rfl, trivial⟩ [0, 0, 0, 1, 0, 0, 0, 0, 1] Any Try.mixed (by kernel_rfl) trivial ?_; replace hT := hT.drew; clear hN; intro a0 hN)))
      | (refine isE ?_; (first | (refine E_thn ?_) | (refine E_ret hN Try.results84 (.tmp rfl .nil) ?_))))
    all_goals exact ⟨ret_i (by dsimp only; omega), RI.shut hT rfl rfl i1 rfl⟩
  · have i3 := i2
    rw [if_neg he] at i3
    subst i3
    refine enter [(0, _)] Try.func84 rfl Try.ntmps84 (Nat.le_of_ble_eq_true rfl) rfl ?_; intro a0 hN
    repeat' (first
      | (refine isT ?_; (first | (refine T_assign hN rfl (by first | exact .inr trivial | exact .inl rfl) ?_) | (refine T_fieldAddr hN rfl (by first | exact .inr trivial | exact .inl rfl) ?_) | (refine T_move hN rfl (by first | exact .inr trivial | exact .inl rfl) ?_) | (refine T_nilCheck hN rfl (by first | exact .inr trivial | exact .inl rfl) ?_) | (refine T_nil ?_) | (refine is_load ?_; (first | (refine T_load hN rfl (hT.has 0 rfl) rfl (by first | exact .inl rfl | exact .inr ⟨by decide, trivial⟩) ?_))) | (refine is_binOp ?_; (first | (refine T_neq hN rfl rfl (by first | exact .inr trivial | exact .inl rfl) ?_)))))
      | (refine isC ?_; (first | (refine C_seq ?_) | (refine C_rgnk (id := 0) hN [(0, _)] ⟨rfl, trivial⟩ ?_; clear hN; intro a0 hN) | (refine C_rgnk (id := 1) hN [(0, _), (2, _)] ⟨rfl, rfl, trivial⟩ ?_; clear hN; intro a0 hN) | (refine C_rgnk (id := 2) hN [(0, _), (2, _), (7, _)] ⟨rfl, rfl, rfl, trivial⟩ ?_; clear hN; intro a0 hN) | (refine C_if hN rfl (fun hb => ?_) (fun hb => ?_) <;> ((first | (exfalso; omega) | (exfalso; exact hb rfl) | (exfalso; exact hb (fun h => h rfl)) | ((with_reducible refine absurd ?_ hb); (repeat' (first | exact trivial | refine And.intro rfl ?_)); done) | (replace hb := Classical.not_not.1 hb) | skip))) | (refine C_ret ?_)))
      | (refine isE ?_; (first | (refine E_thn ?_) | (refine E_thn_ret ?_) | (refine E_ret hN Try.results84 (.tmp rfl .nil) ?_))))
    all_goals exact ⟨rfl, RI.shut (s := ([], e)) hT rfl rfl i1 i2⟩
end
end Go.Proofs.YthjdhmnmlblpfaaR
