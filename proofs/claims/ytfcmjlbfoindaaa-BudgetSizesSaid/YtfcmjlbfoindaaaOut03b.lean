/- THE WALKS of what lays fields: Lay, Bytes, Blob. -/
import Derived.Test.YtfcmjlbfoindaaaOut03
namespace Go.Proofs.Ytfcmjlbfoindaaa
open Go.RowKit Go.Fp
attribute [local irreducible] Go.Calls
set_option maxRecDepth 100000
set_option maxHeartbeats 2000000

theorem Out_Lay (w : World) : Calls Try.prog 45 #[] w fun e w' => ∃ q, e = .returned (.pointer (some ⟨q, 0, none⟩)) ∧ Tk [] w w' [Out q [] false] [] := by
  have hT := Tk.start0 w
  refine enter [] Try.func45 rfl Try.ntmps45 (Nat.le_of_ble_eq_true rfl) rfl ?_; intro a0 hN
  repeat' (first
    | (refine isT ?_; (first | (refine T_assign hN rfl (by first | exact .inr trivial | exact .inl rfl) ?_) | (refine T_nil ?_) | (refine is_box ?_; (first | (refine T_box hN hT rfl (by decide) ?_; clear hT; intro g ww hT; refine ⟨(by first | exact trivial), ?_⟩))) | (refine is_build ?_; (first | (refine T_build (t := 161) (us := [_, _]) hN rfl rfl (by first | exact .inr trivial | exact .inl rfl) ?_)))))
    | (refine isC ?_; (first | (refine C_seq ?_) | (refine C_rgnk (id := 0) hN [] trivial ?_; clear hN; intro a0 hN) | (refine C_rgnk (id := 1) hN [(0, _)] ⟨rfl, trivial⟩ ?_; clear hN; intro a0 hN) | (refine C_ret ?_)))
    | (refine isE ?_; (first | (refine E_thn ?_) | (refine E_ret hN Try.results45 (.tmp rfl .nil) ?_))))
  all_goals exact ⟨g, rfl, Out.shut (x := none) (c := 0) (n := 0) (ys := []) ((hT.addnil 5 1).swap) rfl rfl⟩
theorem Out_Bytes_full (q : Nat) (bs : List UInt8) (f : List Nat) (w : World) {m : List Ob} (hT : Tk f w w [Out q bs true] m) :
    Calls Try.prog 51 #[.pointer (some ⟨q, 0, none⟩)] w fun e w' => e = .returned (.tuple #[.slice none 0 0, .int .i64 8]) ∧ Tk f w w' [Out q bs true] m := by
  obtain ⟨x, c, hT⟩ := Out.open hT
  refine enter [(0, _)] Try.func51 rfl Try.ntmps51 (Nat.le_of_ble_eq_true rfl) rfl ?_; intro a0 hN
  repeat' (first
    | (refine isT ?_; (first | (refine T_assign hN rfl (by first | exact .inr trivial | exact .inl rfl) ?_) | (refine T_fieldAddr hN rfl (by first | exact .inr trivial | exact .inl rfl) ?_) | (refine T_move hN rfl (by first | exact .inr trivial | exact .inl rfl) ?_) | (refine T_nilCheck hN rfl (by first | exact .inr trivial | exact .inl rfl) ?_) | (refine T_nil ?_) | (refine is_load ?_; (first | (refine T_load hN rfl (hT.has 0 rfl) rfl (by first | exact .inl rfl | exact .inr ⟨by decide, trivial⟩) ?_))) | (refine is_binOp ?_; (first | (refine T_eqlnil hN rfl rfl (by first | exact .inr trivial | exact .inl rfl) ?_)))))
    | (refine isC ?_; (first | (refine C_seq ?_) | (refine C_rgnk (id := 0) hN [(0, _)] ⟨rfl, trivial⟩ ?_; clear hN; intro a0 hN) | (refine C_rgnk (id := 1) hN [(0, _), (2, _), (3, _)] ⟨rfl, rfl, rfl, trivial⟩ ?_; clear hN; intro a0 hN) | (refine C_rgnk (id := 3) hN [(0, _), (2, _), (3, _), (4, _)] ⟨rfl, rfl, rfl, rfl, trivial⟩ ?_; clear hN; intro a0 hN) | (refine C_rgnk (id := 4) hN [(0, _), (2, _), (3, _), (4, _), (7, _)] ⟨rfl, rfl, rfl, rfl, rfl, trivial⟩ ?_; clear hN; intro a0 hN) | (refine C_true hN rfl ?_) | (refine C_false hN rfl ?_) | (refine C_ret ?_) | (refine C_block ?_)))
    | (refine isE ?_; (first | (refine E_thn ?_) | (refine E_thn_ret ?_) | (refine E_blk_ret ?_) | (refine E_ret hN Try.results51 (.tmp rfl (.tmp rfl .nil)) ?_))))
  all_goals exact ⟨rfl, Out.shut hT rfl rfl⟩
theorem Out_Bytes (q : Nat) (bs : List UInt8) (hlen : bs.length ≤ 1000000000) (f : List Nat) (w : World) {m : List Ob} (hT : Tk f w w [Out q bs false] m) :
    Calls Try.prog 51 #[.pointer (some ⟨q, 0, none⟩)] w fun e w' => ∃ x c, e = .returned (.tuple #[.slice x bs.length c, .int .i64 0]) ∧ Tk f w w' [Out q bs false, Ob.own 5 1 (.slice x bs.length c) bs.length (u8s bs)] m := by
  obtain ⟨x, c, hT⟩ := Out.open hT
  refine enter [(0, _)] Try.func51 rfl Try.ntmps51 (Nat.le_of_ble_eq_true rfl) rfl ?_; intro a0 hN
  repeat' (first
    | (refine isT ?_; (first | (refine T_assign hN rfl (by first | exact .inr trivial | exact .inl rfl) ?_) | (refine T_fieldAddr hN rfl (by first | exact .inr trivial | exact .inl rfl) ?_) | (refine T_move hN rfl (by first | exact .inr trivial | exact .inl rfl) ?_) | (refine T_nilCheck hN rfl (by first | exact .inr trivial | exact .inl rfl) ?_) | (refine T_nil ?_) | (refine is_load ?_; (first | (refine T_load hN rfl (hT.has 0 rfl) rfl (by first | exact .inl rfl | exact .inr ⟨by decide, trivial⟩) ?_) | (refine T_load hN rfl (hT.has 1 rfl) rfl (by first | exact .inl rfl | exact .inr ⟨by decide, trivial⟩) ?_))) | (refine is_binOp ?_; (first | (refine T_eqlnil hN rfl rfl (by first | exact .inr trivial | exact .inl rfl) ?_))) | (refine is_call ?_; (first | (refine T_append hN hT 0 (by rfl) (by rfl) rfl rfl rfl (own_nil (hT.owns 2 rfl)) (hT.ord 2 rfl) (u8s_all1 bs) (by unfold maxLen; omega) (by omega) (by decide) ?_; clear hT; intro x1 c1 ww hT; refine ⟨trivial, ?_⟩))) | (refine is_buildSlice ?_; (first | (refine T_slice0 hN hT (by decide) ?_; clear hT; intro g ww hT; refine ⟨(by first | exact trivial), ?_⟩)))))
    | (refine isC ?_; (first | (refine C_seq ?_) | (refine C_rgnk (id := 0) hN [(0, _)] ⟨rfl, trivial⟩ ?_; clear hN; intro a0 hN) | (refine C_rgnk (id := 1) hN [(0, _), (2, _), (3, _)] ⟨rfl, rfl, rfl, trivial⟩ ?_; clear hN; intro a0 hN) | (refine C_rgnk (id := 3) hN [(0, _), (2, _), (3, _), (4, _)] ⟨rfl, rfl, rfl, rfl, trivial⟩ ?_; clear hN; intro a0 hN) | (refine C_rgnk (id := 5) hN [(0, _), (2, _), (3, _), (4, _), (7, _)] ⟨rfl, rfl, rfl, rfl, rfl, trivial⟩ ?_; clear hN; intro a0 hN) | (refine C_false hN rfl ?_) | (refine C_skip ?_) | (refine C_ret ?_) | (refine C_block ?_)))
    | (refine isE ?_; (first | (refine E_thn ?_) | (refine E_blk ?_) | (refine E_ret hN Try.results51 (.tmp rfl (.tmp rfl .nil)) ?_))))
  all_goals
    simp only [Nat.zero_add, List.nil_append] at hT ⊢
    exact ⟨x1, c1, rfl, Out.shut hT.rot rfl rfl⟩
/-- A blob more. -/
def blobO (ps : List UInt8) (o : List UInt8 × Bool) : List UInt8 × Bool := if 4096 < ps.length then (o.1, true) else ((numO 2 ps.length o).1 ++ ps, (numO 2 ps.length o).2)
theorem Out_Blob (q : Nat) (o : List UInt8 × Bool) (hlen : o.1.length ≤ 900000000) (x : Option Addr) (n c : Nat) (ps : List UInt8) (hx : x = none → n = 0 ∧ c = 0) (hn : n ≤ 1000000000) (f : List Nat) (w : World) {m : List Ob} (hT : Tk f w w [Out q o.1 o.2] (Ob.rd x n 1 (u8s ps) :: m)) :
    Calls Try.prog 61 #[.pointer (some ⟨q, 0, none⟩), .slice x n c] w fun e w' => e = .returned (.tuple #[]) ∧ Tk f w w' [Out q (blobO ps o).1 (blobO ps o).2] (Ob.rd x n 1 (u8s ps) :: m) := by
  have hpn : ps.length = n := by have := (hT.rrd 0 rfl).1; rw [u8s_length] at this; omega
  by_cases h : 4096 < n
  · have e : blobO ps o = (o.1, true) := if_pos (by omega)
    rw [e]
    obtain ⟨x1, c1, hT⟩ := Out.open hT
    refine enter [(0, _), (1, _)] Try.func61 rfl Try.ntmps61 (Nat.le_of_ble_eq_true rfl) rfl ?_; intro a0 hN
    repeat' (first
      | (refine isT ?_; (first | (refine T_fieldAddr hN rfl (by first | exact .inr trivial | exact .inl rfl) ?_) | (refine T_move hN rfl (by first | exact .inr trivial | exact .inl rfl) ?_) | (refine T_nilCheck hN rfl (by first | exact .inr trivial | exact .inl rfl) ?_) | (refine T_nil ?_) | (refine is_binOp ?_; (first | (refine T_eqlnil hN rfl rfl (by first | exact .inr trivial | exact .inl rfl) ?_) | (refine T_gtr hN rfl rfl (by first | exact .inr trivial | exact .inl rfl) ?_))) | (refine is_call ?_; (first | (refine T_len hN rfl (by first | exact .inr trivial | exact .inl rfl) ?_))) | (refine is_store ?_; (first | (refine T_store hN hT 0 rfl rfl rfl rfl rfl (by decide) ?_; clear hT; intro ww hT; refine ⟨(by first | exact trivial), ?_⟩)))))
      | (refine isC ?_; (first | (refine C_seq ?_) | (refine C_rgnk (id := 0) hN [(0, _), (1, _)] ⟨rfl, rfl, trivial⟩ ?_; clear hN; intro a0 hN) | (refine C_rgnk (id := 1) hN [(0, _), (1, _), (5, _)] ⟨rfl, rfl, rfl, trivial⟩ ?_; clear hN; intro a0 hN) | (refine C_rgnk (id := 2) hN [(0, _), (1, _), (5, _), (8, _)] ⟨rfl, rfl, rfl, rfl, trivial⟩ ?_; clear hN; intro a0 hN) | (refine C_false hN rfl ?_) | (refine C_if hN rfl (fun hb => ?_) (fun hb => ?_) <;> ((first | (exfalso; omega) | (exfalso; exact hb rfl) | (exfalso; exact hb (fun h => h rfl)) | ((with_reducible refine absurd ?_ hb); (repeat' (first | exact trivial | refine And.intro rfl ?_)); done) | (replace hb := Classical.not_not.1 hb) | skip))) | (refine C_skip ?_) | (refine C_ret ?_)))
      | (refine isE ?_; (first | (refine E_thn ?_) | (refine E_thn_ret ?_) | (refine E_ret hN Try.results61 .nil ?_))))
    all_goals exact ⟨rfl, Out.shut hT rfl rfl⟩
  · have e : blobO ps o = ((numO 2 ps.length o).1 ++ ps, (numO 2 ps.length o).2) := if_neg (by omega)
    have hl := numO_len 2 ps.length o
    rw [e]
    rw [hpn] at hl ⊢
    refine enter [(0, _), (1, _)] Try.func61 rfl Try.ntmps61 (Nat.le_of_ble_eq_true rfl) rfl ?_; intro a0 hN
    repeat' (first
      | (refine isT ?_; (first | (refine T_fieldAddr hN rfl (by first | exact .inr trivial | exact .inl rfl) ?_) | (refine T_move hN rfl (by first | exact .inr trivial | exact .inl rfl) ?_) | (refine T_nilCheck hN rfl (by first | exact .inr trivial | exact .inl rfl) ?_) | (refine T_nil ?_) | (refine is_load ?_; (first | (refine T_load hN rfl (hT.has 0 rfl) rfl (by first | exact .inl rfl | exact .inr ⟨by decide, trivial⟩) ?_))) | (refine is_binOp ?_; (first | (refine T_eqlnil hN rfl rfl (by first | exact .inr trivial | exact .inl rfl) ?_) | (refine T_gtr hN rfl rfl (by first | exact .inr trivial | exact .inl rfl) ?_))) | (refine is_call ?_; (first | ((refine is_call ?_; obtain ⟨f1, hP, hK⟩ := hT.call1m 0 rfl; refine T_call (f := 78) hN rfl (by decide) (Out_U16 q o n (by omega) f1 _ hP) ?_; rintro e ww ⟨rfl, h1⟩; clear hT hP; replace hT := hK _ _ _ _ h1; clear hK h1; refine ⟨_, rfl, (by first | exact trivial | ((repeat' (first | exact hT.has 0 rfl | exact hT.has 1 rfl | exact hT.has 2 rfl | exact hT.has 3 rfl | exact hT.has 4 rfl | exact hT.has 5 rfl | exact hT.ord 0 rfl | exact hT.ord 1 rfl | exact hT.ord 2 rfl | exact hT.ord 3 rfl | exact hT.ord 4 rfl | exact hT.ord 5 rfl | exact hT.mrd (by assumption) | refine And.intro ?_ ?_)); done)), ?_⟩); obtain ⟨x2, c2, hT⟩ := Out.open hT) | (refine T_append hN hT 1 (by rfl) (by rfl) rfl rfl rfl hx (hT.rrd 0 rfl) (u8s_all1 ps) (by unfold maxLen; omega) (by omega) (by decide) ?_; clear hT; intro x1 c1 ww hT; refine ⟨trivial, ?_⟩) | (refine T_len hN rfl (by first | exact .inr trivial | exact .inl rfl) ?_))) | (refine is_store ?_; (first | (refine T_store hN hT 0 rfl rfl rfl rfl rfl (by decide) ?_; clear hT; intro ww hT; refine ⟨(by first | exact trivial), ?_⟩))) | (refine is_convert ?_; (first | (refine T_conv (r := ?_) hN rfl ?_ (by first | exact .inr trivial | exact .inl rfl) ?_; rotate_left; (focus (first | (refine Eq.trans (Go.IntWalk.i64_in _ (by omega)) ?_; (first | (simp only [Int.reduceAdd, Int.reduceSub, Int.reduceMul, Int.reduceNeg, Int.reduceDiv, Int.reduceMod]; rfl) | rfl)) | (refine Eq.trans (Go.IntWalk.u64_in _ (by omega)) ?_; (first | (simp only [Int.reduceAdd, Int.reduceSub, Int.reduceMul, Int.reduceNeg, Int.reduceDiv, Int.reduceMod]; rfl) | rfl)) | (refine Go.IntWalk.u32_in _ ?_; omega) | (refine Go.IntWalk.u8_in _ ?_; omega) | exact rfl)))))))
      | (refine isC ?_; (first | (refine C_seq ?_) | (refine C_rgnk (id := 0) hN [(0, _), (1, _)] ⟨rfl, rfl, trivial⟩ ?_; clear hN; intro a0 hN) | (refine C_rgnk (id := 1) hN [(0, _), (1, _), (5, _)] ⟨rfl, rfl, rfl, trivial⟩ ?_; clear hN; intro a0 hN) | (refine C_rgnk (id := 3) hN [(0, _), (1, _), (5, _), (8, _)] ⟨rfl, rfl, rfl, rfl, trivial⟩ ?_; clear hN; intro a0 hN) | (refine C_rgnk (id := 4) hN [(0, _), (1, _), (5, _), (8, _)] ⟨rfl, rfl, rfl, rfl, trivial⟩ ?_; clear hN; intro a0 hN) | (refine C_false hN rfl ?_) | (refine C_if hN rfl (fun hb => ?_) (fun hb => ?_) <;> ((first | (exfalso; omega) | (exfalso; exact hb rfl) | (exfalso; exact hb (fun h => h rfl)) | ((with_reducible refine absurd ?_ hb); (repeat' (first | exact trivial | refine And.intro rfl ?_)); done) | (replace hb := Classical.not_not.1 hb) | skip))) | (refine C_skip ?_)))
      | (refine isE ?_; (first | (refine E_thn ?_) | (refine E_end hN Try.results61 .nil ?_))))
    all_goals exact ⟨rfl, Out.shut hT (u8s_append _ _).symm (by simp [hpn])⟩
end Go.Proofs.Ytfcmjlbfoindaaa
