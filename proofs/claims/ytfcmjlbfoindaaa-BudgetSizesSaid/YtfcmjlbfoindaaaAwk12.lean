/- THE WALK: a frame without a body has 38 bytes. -/
import Derived.Test.YtfcmjlbfoindaaaSeal12
import Derived.Test.YtfcmjlbfoindaaaRefO03
namespace Go.Proofs.Ytfcmjlbfoindaaa
open Go.RowKit Go.Fp
attribute [local irreducible] Go.Calls
set_option maxRecDepth 100000
set_option maxHeartbeats 16000000
theorem seal_len (k : List UInt8) (r : Fm) : (r.seal k).length = 38 + r.body.length := by
  unfold Fm.seal Fm.bytes
  rw [List.length_append, frB_len, tagP_len]; omega
end Go.Proofs.Ytfcmjlbfoindaaa
/- THE WALKS of hellos: their bytes, of both. -/
namespace Go.Fp
open Go Go.RowKit
/-- A hello's bytes. -/
def helP (h : Nat) (l : List UInt32) : List UInt8 := be 1 h ++ be 1 (l.take 8).length ++ wbs (l.take 8)
theorem helP_len (h : Nat) (l : List UInt32) : (helP h l).length ≤ 34 := by
  unfold helP
  rw [List.length_append, List.length_append, be_length, be_length, wbs_len, List.length_take]; omega
theorem word_cell {w : World} {B off n : Nat} {p : List UInt32} (h : Rdz w (some ⟨B, off, none⟩) n 1 (w32s p)) {j : Nat} (hj : j < p.length) : w.cell? ⟨B, off + j * 1, none⟩ = some (w32 (gw p j)) :=
  h.cell rfl (by unfold w32s; rw [Nat.mul_one, List.getElem?_map, gw_get hj]; rfl)
theorem w32s_append (a b : List UInt32) : w32s (a ++ b) = w32s a ++ w32s b := by simp [w32s]
theorem wbs_take {l : List UInt32} {i : Nat} (h : i < l.length) : wbs (l.take (i + 1)) = wbs (l.take i) ++ be 4 (gw l i).toNat := by
  rw [List.take_add_one, gw_get h]
  unfold wbs
  rw [List.flatMap_append]; simp
theorem gw_take {l : List UInt32} {i n : Nat} (h : i < (l.take n).length) : gw (l.take n) i = gw l i := by
  rw [List.length_take] at h
  have h1 := gw_get (ws := l.take n) (i := i) (by rw [List.length_take]; exact h)
  rw [List.getElem?_take, if_pos (by omega), gw_get (by omega)] at h1
  exact (Option.some.inj h1).symm
end Go.Fp
namespace Go.Proofs.Ytfcmjlbfoindaaa
open Go.RowKit Go.Fp
attribute [local irreducible] Go.Calls
set_option maxRecDepth 100000
set_option maxHeartbeats 16000000
attribute [local irreducible] be wbs
theorem O_32 (q : Nat) (bs : List UInt8) (n : Nat) (hlen : bs.length ≤ 1000000) (f : List Nat) (w : World) {m : List Ob} (hT : Tk f w w [Out q bs false] m) (h : n < 4294967296) : Calls Try.prog 48 #[.pointer (some ⟨q, 0, none⟩), .int .u64 n] w fun e w' => e = .returned (.tuple #[]) ∧ Tk f w w' [Out q (bs ++ be 4 n) false] m := by
  have h1 := Out_U32 q (bs, false) n (by dsimp only; omega) f w hT
  rwa [numO_f (Nat.div_eq_of_lt (by omega))] at h1
attribute [local irreducible] Out
section
variable (h : Nat) (hh : h < 256) (x : Option Addr) (c : Nat) (l : List UInt32) (hlc : l.length ≤ c) (hlm : l.length ≤ 1000000) (w : World) {m : List Ob} (hm : Ob.rd x l.length 1 (w32s l) ∈ m) (hT : Tk [] w w [] m)
include hh hlc hlm hm hT
theorem frm_PutHello : Calls Try.prog 27 #[.agg #[.int .u8 h, .slice x l.length c]] w fun e w' => ∃ (x' : Option Addr) (c' : Nat), e = .returned (.slice x' (helP h l).length c') ∧ Tk [] w w' [Ob.own 5 1 (.slice x' (helP h l).length c') (helP h l).length (u8s (helP h l))] m := by
  have hP0 : helP h l = [] ++ be 1 h ++ be 1 (l.take 8).length ++ wbs (l.take 8) := rfl
  have hLl : (l.take 8).length = min 8 l.length := List.length_take ..
  have hl34 := helP_len h l
  have cB : ∀ (q : Nat) (f : List Nat) (ww : World) {m : List Ob}, Tk f ww ww [Out q ([] ++ be 1 h ++ be 1 (l.take 8).length ++ wbs (l.take 8)) false] m → Calls Try.prog 51 #[.pointer (some ⟨q, 0, none⟩)] ww fun e w' => ∃ x c, e = .returned (.tuple #[.slice x (helP h l).length c, .int .i64 0]) ∧ Tk f ww w' [Out q (helP h l) false, Ob.own 5 1 (.slice x (helP h l).length c) (helP h l).length (u8s (helP h l))] m := by
    intro q f ww m h1
    rw [← hP0] at h1
    exact Out_Bytes q _ (by omega) f ww h1
  generalize helP h l = R at *
  refine enter [(0, _)] Try.func27 rfl Try.ntmps27 (Nat.le_of_ble_eq_true rfl) rfl ?_; intro a0 hN
  repeat' (first
    | (refine isT ?_; (first | (refine T_assign hN rfl (by first | exact .inr trivial | exact .inl rfl) ?_) | (refine T_fieldAddr hN rfl (by first | exact .inr trivial | exact .inl rfl) ?_) | (refine T_move hN rfl (by first | exact .inr trivial | exact .inl rfl) ?_) | (refine T_nil ?_) | (refine is_load ?_; (first | (refine T_load hN rfl (hT.has 1 rfl) rfl (by first | exact .inl rfl | exact .inr ⟨by decide, trivial⟩) ?_))) | (refine is_call ?_; (first | (refine is_call ?_; obtain ⟨hP, hK⟩ := hT.call0m; refine T_call (f := 45) hN rfl (by decide) (Out_Lay _) ?_; rintro e ww ⟨q, rfl, h1⟩; clear hT hP; replace hT := hK _ _ _ h1; clear hK h1; refine ⟨_, rfl, (by first | exact trivial | ((repeat' (first | exact hT.has 0 rfl | exact hT.has 1 rfl | exact hT.has 2 rfl | exact hT.has 3 rfl | exact hT.has 4 rfl | exact hT.has 5 rfl | exact hT.ord 0 rfl | exact hT.ord 1 rfl | exact hT.ord 2 rfl | exact hT.ord 3 rfl | exact hT.ord 4 rfl | exact hT.ord 5 rfl | exact hT.mrd (by assumption) | refine And.intro ?_ ?_)); done)), ?_⟩) | (refine is_call ?_; obtain ⟨f1, hP, hK⟩ := hT.call1m 0 rfl; refine T_call (f := 46) hN rfl (by decide) (O_8 q [] h (by decide) f1 _ hP hh) ?_; rintro e ww ⟨rfl, h1⟩; clear hT hP; replace hT := hK _ _ _ _ h1; clear hK h1; refine ⟨_, rfl, (by first | exact trivial | ((repeat' (first | exact hT.has 0 rfl | exact hT.has 1 rfl | exact hT.has 2 rfl | exact hT.has 3 rfl | exact hT.has 4 rfl | exact hT.has 5 rfl | exact hT.ord 0 rfl | exact hT.ord 1 rfl | exact hT.ord 2 rfl | exact hT.ord 3 rfl | exact hT.ord 4 rfl | exact hT.ord 5 rfl | exact hT.mrd (by assumption) | refine And.intro ?_ ?_)); done)), ?_⟩) | (refine is_call ?_; obtain ⟨f1, hP, hK⟩ := hT.call1m 0 rfl; refine T_call (f := 46) hN rfl (by decide) (O_8 q ([] ++ be 1 h) (l.take 8).length (by simp [be_length]) f1 _ hP (by omega)) ?_; rintro e ww ⟨rfl, h1⟩; clear hT hP; replace hT := hK _ _ _ _ h1; clear hK h1; refine ⟨_, rfl, (by first | exact trivial | ((repeat' (first | exact hT.has 0 rfl | exact hT.has 1 rfl | exact hT.has 2 rfl | exact hT.has 3 rfl | exact hT.has 4 rfl | exact hT.has 5 rfl | exact hT.ord 0 rfl | exact hT.ord 1 rfl | exact hT.ord 2 rfl | exact hT.ord 3 rfl | exact hT.ord 4 rfl | exact hT.ord 5 rfl | exact hT.mrd (by assumption) | refine And.intro ?_ ?_)); done)), ?_⟩) | (refine T_len hN rfl (by first | exact .inr trivial | exact .inl rfl) ?_) | (refine T_min hN rfl rfl (by first | exact .inr trivial | exact .inl rfl) ?_))) | (refine is_slice ?_; (first | (refine T_slcHi (j := (l.take 8).length) hN rfl (evI rfl (by omega)) (by omega) (by first | exact .inr trivial | exact .inl rfl) ?_))) | (refine is_box ?_; (first | (refine T_box hN hT rfl (by decide) ?_; clear hT; intro g ww hT; refine ⟨(by first | exact trivial), ?_⟩))) | (refine is_convert ?_; (first | (refine T_conv (r := ?_) hN rfl ?_ (by first | exact .inr trivial | exact .inl rfl) ?_; rotate_left; (focus (first | (refine Eq.trans (Go.IntWalk.i64_in _ (by omega)) ?_; (first | (simp only [Int.reduceAdd, Int.reduceSub, Int.reduceMul, Int.reduceNeg, Int.reduceDiv, Int.reduceMod]; rfl) | rfl)) | (refine Eq.trans (Go.IntWalk.u64_in _ (by omega)) ?_; (first | (simp only [Int.reduceAdd, Int.reduceSub, Int.reduceMul, Int.reduceNeg, Int.reduceDiv, Int.reduceMod]; rfl) | rfl)) | (refine Go.IntWalk.u32_in _ ?_; omega) | (refine Go.IntWalk.u8_in _ ?_; omega) | exact rfl)))))))
    | (refine isC ?_; (first | (refine C_seq ?_) | (refine C_rgnk (id := 0) hN [(0, _)] ⟨rfl, trivial⟩ ?_; clear hN; intro a0 hN) | (refine C_rgnk (id := 1) hN [(0, _), (1, _), (2, _)] ⟨rfl, rfl, rfl, trivial⟩ ?_; clear hN; intro a0 hN) | (refine C_rgnk (id := 2) hN [(0, _), (1, _), (2, _), (3, _)] ⟨rfl, rfl, rfl, rfl, trivial⟩ ?_; clear hN; intro a0 hN) | (refine C_rgnk (id := 3) hN [(0, _), (1, _), (2, _), (3, _)] ⟨rfl, rfl, rfl, rfl, trivial⟩ ?_; clear hN; intro a0 hN) | (refine C_rgnk (id := 4) hN [(0, _), (1, _), (2, _), (3, _), (4, _)] ⟨rfl, rfl, rfl, rfl, rfl, trivial⟩ ?_; clear hN; intro a0 hN) | (refine C_rgnk (id := 5) hN [(0, _), (1, _), (2, _), (3, _), (4, _)] ⟨rfl, rfl, rfl, rfl, rfl, trivial⟩ ?_; clear hN; intro a0 hN) | (refine C_block ?_)))
    | (refine isE ?_; (first | (refine E_thn ?_))))
  all_goals
    generalize hL : l.take 8 = L at *
    have hgw : ∀ i, i < L.length → gw L i = gw l i := fun i hi => by subst hL; exact gw_take hi
    have hBl : ([] ++ be 1 h ++ be 1 L.length).length = 2 := by simp [be_length]
    generalize [] ++ be 1 h ++ be 1 L.length = B0 at *
    have hT1 : Tk [] w ww [Out q (B0 ++ wbs (L.take 0)) false] m := by
      have e : B0 ++ wbs (L.take 0) = B0 := by rw [List.take_zero]; unfold wbs; simp
      rw [e]; exact hT.sel [0] rfl
    clear hT
    refine C_loop hN (X := Nat) (fun i => [(3, .pointer (some ⟨q, 0, none⟩)), (27, .slice x L.length c), (28, .int .i64 L.length), (29, .int .i64 i)])
      (fun i w1 => i ≤ L.length ∧ Tk [] w w1 [Out q (B0 ++ wbs (L.take i)) false] m) (fun i => L.length - i) 0 ⟨rfl, rfl, rfl, rfl, trivial⟩ ⟨Nat.zero_le _, hT1⟩ ?_
    clear hN hT1
    rintro i a0 ww hN ⟨hi, hT⟩
    by_cases hi0 : i = L.length
    · subst hi0
      rw [List.take_length] at hT
      repeat' (first
        | (refine isT ?_; (first | (refine T_assign hN rfl (by first | exact .inr trivial | exact .inl rfl) ?_) | (refine T_extract hN rfl rfl (by first | exact .inr trivial | exact .inl rfl) ?_) | (refine T_move hN rfl (by first | exact .inr trivial | exact .inl rfl) ?_) | (refine T_nil ?_) | (refine is_binOp ?_; (first | (refine T_lss hN rfl rfl (by first | exact .inr trivial | exact .inl rfl) ?_))) | (refine is_call ?_; (first | (refine is_call ?_; obtain ⟨f1, hP, hK⟩ := hT.call1m 0 rfl; refine T_call (f := 51) hN rfl (by decide) (cB q f1 _ hP) ?_; rintro e ww ⟨x1, c1, rfl, h1⟩; clear hT hP; replace hT := hK _ _ _ _ h1; clear hK h1; refine ⟨_, rfl, (by first | exact trivial | ((repeat' (first | exact hT.has 0 rfl | exact hT.has 1 rfl | exact hT.has 2 rfl | exact hT.has 3 rfl | exact hT.has 4 rfl | exact hT.has 5 rfl | exact hT.ord 0 rfl | exact hT.ord 1 rfl | exact hT.ord 2 rfl | exact hT.ord 3 rfl | exact hT.ord 4 rfl | exact hT.ord 5 rfl | exact hT.mrd (by assumption) | refine And.intro ?_ ?_)); done)), ?_⟩)))))
        | (refine isC ?_; (first | (refine C_seq ?_) | (refine C_rgn ?_) | (refine C_if hN rfl (fun hb => ?_) (fun hb => ?_) <;> ((first | (exfalso; omega) | (exfalso; exact hb rfl) | (exfalso; exact hb (fun h => h rfl)) | ((with_reducible refine absurd ?_ hb); (repeat' (first | exact trivial | refine And.intro rfl ?_)); done) | (replace hb := Classical.not_not.1 hb) | skip))) | (refine C_ret ?_) | (refine C_exit ?_)))
        | (refine isE ?_; (first | (refine E_thn ?_) | (refine E_thn_exit ?_) | (refine E_blk_hit ?_) | (refine E_lp_exit ?_) | (refine E_ret hN Try.results27 (.tmp rfl .nil) ?_))))
      all_goals exact ⟨x1, c1, rfl, hT.sel [0] rfl⟩
    · have hwl : (wbs (L.take i)).length = 4 * i := by rw [wbs_len, List.length_take]; omega
      have hbl : (B0 ++ wbs (L.take i)).length ≤ 1000000 := by rw [List.length_append]; omega
      have hwt := wbs_take (l := L) (i := i) (by omega)
      have hg := (gw l i).toNat_lt
      rw [hgw i (by omega)] at hwt
      have hrd := hT.mrd hm
      obtain ⟨B, off, rfl⟩ := hrd.addr (by omega)
      repeat' (first
        | (refine isT ?_; (first | (refine T_assign hN rfl (by first | exact .inr trivial | exact .inl rfl) ?_) | (refine T_move hN rfl (by first | exact .inr trivial | exact .inl rfl) ?_) | (refine T_nil ?_) | (refine is_load ?_; (first | (refine T_loadc hN rfl (word_cell (hT.mrd hm) (by omega)) (by first | exact .inl rfl | exact .inr ⟨by decide, trivial⟩) ?_))) | (refine is_binOp ?_; (first | (refine T_addi64 hN rfl rfl (by omega) (by first | exact .inr trivial | exact .inl rfl) ?_) | (refine T_lss hN rfl rfl (by first | exact .inr trivial | exact .inl rfl) ?_))) | (refine is_call ?_; (first | (refine is_call ?_; obtain ⟨f1, hP, hK⟩ := hT.call1m 0 rfl; refine T_call (f := 48) hN rfl (by decide) (O_32 q (B0 ++ wbs (L.take i)) (gw l i).toNat hbl f1 _ hP (by omega)) ?_; rintro e ww ⟨rfl, h1⟩; clear hT hP; replace hT := hK _ _ _ _ h1; clear hK h1; refine ⟨_, rfl, (by first | exact trivial | ((repeat' (first | exact hT.has 0 rfl | exact hT.has 1 rfl | exact hT.has 2 rfl | exact hT.has 3 rfl | exact hT.has 4 rfl | exact hT.has 5 rfl | exact hT.ord 0 rfl | exact hT.ord 1 rfl | exact hT.ord 2 rfl | exact hT.ord 3 rfl | exact hT.ord 4 rfl | exact hT.ord 5 rfl | exact hT.mrd (by assumption) | refine And.intro ?_ ?_)); done)), ?_⟩))) | (refine is_convert ?_; (first | (refine T_conv (r := ?_) hN rfl ?_ (by first | exact .inr trivial | exact .inl rfl) ?_; rotate_left; (focus (first | (refine Eq.trans (Go.IntWalk.i64_in _ (by omega)) ?_; (first | (simp only [Int.reduceAdd, Int.reduceSub, Int.reduceMul, Int.reduceNeg, Int.reduceDiv, Int.reduceMod]; rfl) | rfl)) | (refine Eq.trans (Go.IntWalk.u64_in _ (by omega)) ?_; (first | (simp only [Int.reduceAdd, Int.reduceSub, Int.reduceMul, Int.reduceNeg, Int.reduceDiv, Int.reduceMod]; rfl) | rfl)) | (refine Go.IntWalk.u32_in _ ?_; omega) | (refine Go.IntWalk.u8_in _ ?_; omega) | exact rfl))))) | (refine is_indexAddr ?_; (first | (refine T_indexAddr hN rfl rfl (by omega) (by first | exact .inr trivial | exact .inl rfl) ?_)))))
        | (refine isC ?_; (first | (refine C_seq ?_) | (refine C_rgn ?_) | (refine C_if hN rfl (fun hb => ?_) (fun hb => ?_) <;> ((first | (exfalso; omega) | (exfalso; exact hb rfl) | (exfalso; exact hb (fun h => h rfl)) | ((with_reducible refine absurd ?_ hb); (repeat' (first | exact trivial | refine And.intro rfl ?_)); done) | (replace hb := Classical.not_not.1 hb) | skip))) | (refine C_skip ?_) | (refine C_block ?_)))
        | (refine isE ?_; (first | (refine E_thn ?_) | (refine E_blk ?_))))
      all_goals exact E_mk hN (i + 1) ⟨rfl, rfl, rfl, evI rfl (by omega), trivial⟩ ⟨⟨by omega, by rw [hwt, ← List.append_assoc]; exact hT⟩, by omega⟩
end
end Go.Proofs.Ytfcmjlbfoindaaa
