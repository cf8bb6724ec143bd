/- THE WALKS of signed records: their bytes. -/
import Derived.Test.YtfcmjlbfoindaaaRnw31
namespace Go.Proofs.Ytfcmjlbfoindaaa
open Go.RowKit Go.Fp
attribute [local irreducible] Go.Calls
set_option maxRecDepth 100000
set_option maxHeartbeats 8000000
set_option maxRecDepth 20000
theorem and255 : ∀ n : Nat, n < 8 → IntKind.u64.wrap (((((n : Int) % 2 ^ IntKind.u64.bits).toNat &&& ((255 : Int) % 2 ^ IntKind.u64.bits).toNat : Nat)) : Int) = (n : Int) := by decide
attribute [local irreducible] sgC Out be cut16
theorem renew_Put (q : Nat) (dest ep : Nat) (rs : List UInt8) (h : rs.length = 1120) (hd : dest < 8) (he : ep < 4294967296) (f : List Nat) (w : World) {m : List Ob} (hT : Tk f w w [Out q [] false] m) : Calls Try.prog 54 #[.pointer (some ⟨q, 0, none⟩), .agg (sgC dest ep rs).toArray] w fun e w' => e = .returned (.tuple #[]) ∧ Tk f w w' [Out q ([] ++ be 1 dest ++ be 4 ep ++ rs) false] m := by
  have hl := sgC_len (dest := dest) (ep := ep) h
  have hr : ((rs.drop 0).take 16).length = 16 := by rw [List.length_take, List.length_drop]; omega
  have hn : ((rs.drop 16).take 16).length = 16 := by rw [List.length_take, List.length_drop]; omega
  have hs : ((rs.drop 32).take 1088).length = 1088 := by rw [List.length_take, List.length_drop]; omega
  have hcut := rs_cut h
  have p1 := sgC_part dest ep rs 0 16
  have p2 := sgC_part dest ep rs 16 16
  have p3 := sgC_part dest ep rs 32 1088
  have hr2 : (u8s ((rs.drop 0).take 16)).length = 16 := by rw [u8s_length]; exact hr
  have hn2 : (u8s ((rs.drop 16).take 16)).length = 16 := by rw [u8s_length]; exact hn
  have hs2 : (u8s ((rs.drop 32).take 1088)).length = 1088 := by rw [u8s_length]; exact hs
  generalize (rs.drop 0).take 16 = r at *
  generalize (rs.drop 16).take 16 = n at *
  generalize (rs.drop 32).take 1088 = s at *
  obtain ⟨B0, hB0⟩ : ∃ B, B = [] ++ be 1 dest := ⟨_, rfl⟩
  have l0 : B0.length = 1 := by rw [hB0]; simp [be_length]
  obtain ⟨B1, hB1⟩ : ∃ B, B = B0 ++ be 4 ep := ⟨_, rfl⟩
  have l1 : B1.length = 5 := by rw [hB1]; simp [be_length]; omega
  have hfin : [] ++ be 1 dest ++ be 4 ep ++ rs = B1 ++ r ++ n ++ s := by
    rw [hB1, hB0]
    conv => lhs; rw [hcut]
    simp only [List.append_assoc]
  rw [hfin]
  clear hfin hcut
  have c0 := fun f1 (ww : World) h => oU8 q [] (by simp) f1 ww (m := m) h dest (by omega)
  rw [← hB0] at c0
  have c1 := fun f1 (ww : World) h => oU32 q B0 (by omega) f1 ww (m := m) h ep he
  rw [← hB1] at c1
  have c2 := fun f1 (ww : World) h => oSum q B1 (by omega) f1 ww (m := m) h r hr
  have c3 := fun f1 (ww : World) h => oSum q (B1 ++ r) (by rw [List.length_append]; omega) f1 ww (m := m) h n hn
  have l3 : (B1 ++ r ++ n).length = 37 := by rw [List.length_append, List.length_append]; omega
  generalize B1 ++ r ++ n = B3 at *
  have hand := and255 dest hd
  refine enter [(0, _), (1, _)] Try.func54 rfl Try.ntmps54 (Nat.le_of_ble_eq_true rfl) rfl ?_; intro a0 hN
  repeat' (first
    | (refine isT ?_; (first | (refine T_fieldAddr hN rfl (by first | exact .inr trivial | exact .inl rfl) ?_) | (refine T_move hN rfl (by first | exact .inr trivial | exact .inl rfl) ?_) | (refine T_nil ?_) | (refine is_load ?_; (first | (refine T_load (d := 9) hN rfl (hT.has 0 rfl) (sgC_0 _ _ _) (by first | exact .inl rfl | exact .inr ⟨by decide, trivial⟩) ?_) | (refine T_load (d := 16) hN rfl (hT.has 0 rfl) (sgC_1 _ _ _) (by first | exact .inl rfl | exact .inr ⟨by decide, trivial⟩) ?_) | (refine T_loadn (d := 22) hN rfl (hT.has 0 rfl) (us := u8s r) p1 hr2 (by first | exact .inl rfl | exact .inr ⟨by decide, trivial⟩) ?_) | (refine T_loadn (d := 27) hN rfl (hT.has 0 rfl) (us := u8s n) p2 hn2 (by first | exact .inl rfl | exact .inr ⟨by decide, trivial⟩) ?_) | (refine T_loadn (d := 30) hN rfl (hT.has 0 rfl) (us := u8s s) p3 hs2 (by first | exact .inl rfl | exact .inr ⟨by decide, trivial⟩) ?_))) | (refine is_binOp ?_; (first | (refine T_and (d := 11) (r := (dest : Int)) hN rfl rfl hand (by first | exact .inr trivial | exact .inl rfl) ?_))) | (refine is_call ?_; (first | ((refine is_call ?_; obtain ⟨f1, hP, hK⟩ := hT.call1m 1 rfl; refine T_call (f := 46) hN rfl (by decide) (c0 f1 _ hP) ?_; rintro e ww ⟨rfl, h1⟩; clear hT hP; replace hT := hK _ _ _ _ h1; clear hK h1; refine ⟨_, rfl, (by first | exact trivial | ((repeat' (first | exact hT.has 0 rfl | exact hT.has 1 rfl | exact hT.has 2 rfl | exact hT.has 3 rfl | exact hT.has 4 rfl | exact hT.has 5 rfl | exact hT.ord 0 rfl | exact hT.ord 1 rfl | exact hT.ord 2 rfl | exact hT.ord 3 rfl | exact hT.ord 4 rfl | exact hT.ord 5 rfl | exact hT.mrd (by assumption) | refine And.intro ?_ ?_)); done)), ?_⟩); replace hT := hT.sel [0, 0] rfl) | ((refine is_call ?_; obtain ⟨f1, hP, hK⟩ := hT.call1m 1 rfl; refine T_call (f := 48) hN rfl (by decide) (c1 f1 _ hP) ?_; rintro e ww ⟨rfl, h1⟩; clear hT hP; replace hT := hK _ _ _ _ h1; clear hK h1; refine ⟨_, rfl, (by first | exact trivial | ((repeat' (first | exact hT.has 0 rfl | exact hT.has 1 rfl | exact hT.has 2 rfl | exact hT.has 3 rfl | exact hT.has 4 rfl | exact hT.has 5 rfl | exact hT.ord 0 rfl | exact hT.ord 1 rfl | exact hT.ord 2 rfl | exact hT.ord 3 rfl | exact hT.ord 4 rfl | exact hT.ord 5 rfl | exact hT.mrd (by assumption) | refine And.intro ?_ ?_)); done)), ?_⟩); replace hT := hT.sel [0, 0] rfl) | ((refine is_call ?_; obtain ⟨f1, hP, hK⟩ := hT.call1m 1 rfl; refine T_call (f := 49) hN rfl (by decide) (c2 f1 _ hP) ?_; rintro e ww ⟨rfl, h1⟩; clear hT hP; replace hT := hK _ _ _ _ h1; clear hK h1; refine ⟨_, rfl, (by first | exact trivial | ((repeat' (first | exact hT.has 0 rfl | exact hT.has 1 rfl | exact hT.has 2 rfl | exact hT.has 3 rfl | exact hT.has 4 rfl | exact hT.has 5 rfl | exact hT.ord 0 rfl | exact hT.ord 1 rfl | exact hT.ord 2 rfl | exact hT.ord 3 rfl | exact hT.ord 4 rfl | exact hT.ord 5 rfl | exact hT.mrd (by assumption) | refine And.intro ?_ ?_)); done)), ?_⟩); replace hT := hT.sel [0, 0] rfl) | ((refine is_call ?_; obtain ⟨f1, hP, hK⟩ := hT.call1m 1 rfl; refine T_call (f := 49) hN rfl (by decide) (c3 f1 _ hP) ?_; rintro e ww ⟨rfl, h1⟩; clear hT hP; replace hT := hK _ _ _ _ h1; clear hK h1; refine ⟨_, rfl, (by first | exact trivial | ((repeat' (first | exact hT.has 0 rfl | exact hT.has 1 rfl | exact hT.has 2 rfl | exact hT.has 3 rfl | exact hT.has 4 rfl | exact hT.has 5 rfl | exact hT.ord 0 rfl | exact hT.ord 1 rfl | exact hT.ord 2 rfl | exact hT.ord 3 rfl | exact hT.ord 4 rfl | exact hT.ord 5 rfl | exact hT.mrd (by assumption) | refine And.intro ?_ ?_)); done)), ?_⟩); replace hT := hT.sel [0, 0] rfl))) | (refine is_box ?_; (first | (refine T_box (d := 3) hN hT (vs := sgC dest ep rs) rfl (by decide) ?_; clear hT; intro g3 ww hT; refine ⟨trivial, ?_⟩))) | (refine is_convert ?_; (first | (refine T_conv (r := ?_) hN rfl ?_ (by first | exact .inr trivial | exact .inl rfl) ?_; rotate_left; (focus (first | (refine Eq.trans (Go.IntWalk.i64_in _ (by omega)) ?_; (first | (simp only [Int.reduceAdd, Int.reduceSub, Int.reduceMul, Int.reduceNeg, Int.reduceDiv, Int.reduceMod]; rfl) | rfl)) | (refine Eq.trans (Go.IntWalk.u64_in _ (by omega)) ?_; (first | (simp only [Int.reduceAdd, Int.reduceSub, Int.reduceMul, Int.reduceNeg, Int.reduceDiv, Int.reduceMod]; rfl) | rfl)) | (refine Go.IntWalk.u32_in _ ?_; omega) | (refine Go.IntWalk.u8_in _ ?_; omega) | exact rfl)))))))
    | (refine isC ?_; (first | (refine C_seq ?_) | (refine C_rgnk (id := 0) hN [(0, _), (1, _)] ⟨rfl, rfl, trivial⟩ ?_; clear hN; intro a0 hN) | (refine C_rgnk (id := 1) hN [(0, _), (1, _), (3, _)] ⟨rfl, rfl, rfl, trivial⟩ ?_; clear hN; intro a0 hN) | (refine C_rgnk (id := 2) hN [(0, _), (1, _), (3, _)] ⟨rfl, rfl, rfl, trivial⟩ ?_; clear hN; intro a0 hN) | (refine C_rgnk (id := 3) hN [(0, _), (1, _), (3, _)] ⟨rfl, rfl, rfl, trivial⟩ ?_; clear hN; intro a0 hN) | (refine C_rgnk (id := 4) hN [(0, _), (1, _), (3, _)] ⟨rfl, rfl, rfl, trivial⟩ ?_; clear hN; intro a0 hN) | (refine C_rgnk (id := 5) hN [(0, _), (1, _), (3, _)] ⟨rfl, rfl, rfl, trivial⟩ ?_; clear hN; intro a0 hN) | (refine C_block ?_)))
    | (refine isE ?_; (first | (refine E_thn ?_))))
  refine C_loop hN (X := Nat) (fun j => [(0, .pointer (some ⟨q, 0, none⟩)), (30, .agg (u8s s).toArray), (31, .int .i64 j)])
    (fun j w1 => j ≤ 68 ∧ Tk f w w1 [Ob.blk g3 92 (sgC dest ep rs), Out q (B3 ++ s.take (j * 16)) false] m) (fun j => 68 - j) 0 ⟨rfl, rfl, rfl, trivial⟩ ⟨Nat.zero_le _, by rw [Nat.zero_mul, List.take_zero, List.append_nil]; exact hT⟩ ?_
  clear hN hT
  rintro j a0 ww hN ⟨hj, hT⟩
  by_cases hj0 : j = 68
  · subst hj0
    rw [List.take_of_length_le (by omega)] at hT
    repeat' (first
      | (refine isT ?_; (first | (refine T_nil ?_) | (refine is_binOp ?_; (first | (refine T_lss hN rfl rfl (by first | exact .inr trivial | exact .inl rfl) ?_)))))
      | (refine isC ?_; (first | (refine C_seq ?_) | (refine C_rgn ?_) | (refine C_if hN rfl (fun hb => ?_) (fun hb => ?_) <;> ((first | (exfalso; omega) | (exfalso; exact hb rfl) | (exfalso; exact hb (fun h => h rfl)) | ((with_reducible refine absurd ?_ hb); (repeat' (first | exact trivial | refine And.intro rfl ?_)); done) | (replace hb := Classical.not_not.1 hb) | skip))) | (refine C_exit ?_)))
      | (refine isE ?_; (first | (refine E_thn ?_) | (refine E_thn_exit ?_) | (refine E_blk_hit ?_) | (refine E_lp_exit ?_) | (refine E_end hN Try.results54 .nil ?_))))
    all_goals first
      | exact ⟨rfl, hT.drop⟩
      | fail "A"
  · have hc := cut16_len (s := s) (j := j) (by omega)
    have hcl : (u8s (cut16 s j)).length = 16 := by rw [u8s_length]; exact hc
    have hct : ((u8s (cut16 s j)).drop 0).take 16 = u8s (cut16 s j) := tk_all hc
    have cS := fun f1 (ww : World) h => oSum q (B3 ++ s.take (j * 16)) (by rw [List.length_append, List.length_take]; omega) f1 ww (m := m) h (cut16 s j) hc
    rw [List.append_assoc, ← take_cut] at cS
    repeat' (first
      | (refine isT ?_; (first | (refine T_move hN rfl (by first | exact .inr trivial | exact .inl rfl) ?_) | (refine T_nil ?_) | (refine is_load ?_; (first | (refine T_loadn (d := 35) hN rfl (hT.has 0 rfl) (us := u8s (cut16 s j)) hct hcl (by first | exact .inl rfl | exact .inr ⟨by decide, trivial⟩) ?_))) | (refine is_binOp ?_; (first | (refine T_addi64 hN rfl rfl (by omega) (by first | exact .inr trivial | exact .inl rfl) ?_) | (refine T_lss hN rfl rfl (by first | exact .inr trivial | exact .inl rfl) ?_))) | (refine is_call ?_; (first | ((refine is_call ?_; obtain ⟨f1, hP, hK⟩ := hT.call1m 2 rfl; refine T_call (f := 49) hN rfl (by decide) (cS f1 _ hP) ?_; rintro e ww ⟨rfl, h1⟩; clear hT hP; replace hT := hK _ _ _ _ h1; clear hK h1; refine ⟨_, rfl, (by first | exact trivial | ((repeat' (first | exact hT.has 0 rfl | exact hT.has 1 rfl | exact hT.has 2 rfl | exact hT.has 3 rfl | exact hT.has 4 rfl | exact hT.has 5 rfl | exact hT.ord 0 rfl | exact hT.ord 1 rfl | exact hT.ord 2 rfl | exact hT.ord 3 rfl | exact hT.ord 4 rfl | exact hT.ord 5 rfl | exact hT.mrd (by assumption) | refine And.intro ?_ ?_)); done)), ?_⟩); replace hT := hT.sel [1, 1] rfl))) | (refine is_store ?_; (first | (refine T_storeAll hN hT 0 (us := u8s (cut16 s j)) rfl rfl rfl hcl rfl (List.all_eq_true.2 (u8s_all1 _)) (by decide) ?_; clear hT; intro ww hT; refine ⟨trivial, ?_⟩))) | (refine is_index ?_; (first | (refine T_indexn (d := 33) (us := u8s (cut16 s j)) hN rfl rfl (by omega) (u8s_cut s j) (by first | exact .inr trivial | exact .inl rfl) ?_))) | (refine is_alloc ?_; (first | (refine T_alloc (d := 5) hN hT (by decide) ?_; clear hT; intro g5 ww hT; refine ⟨trivial, ?_⟩)))))
      | (refine isC ?_; (first | (refine C_seq ?_) | (refine C_rgn ?_) | (refine C_if hN rfl (fun hb => ?_) (fun hb => ?_) <;> ((first | (exfalso; omega) | (exfalso; exact hb rfl) | (exfalso; exact hb (fun h => h rfl)) | ((with_reducible refine absurd ?_ hb); (repeat' (first | exact trivial | refine And.intro rfl ?_)); done) | (replace hb := Classical.not_not.1 hb) | skip))) | (refine C_skip ?_) | (refine C_block ?_)))
      | (refine isE ?_; (first | (refine E_thn ?_) | (refine E_blk ?_))))
    all_goals first
      | exact E_mk hN (j + 1) ⟨rfl, rfl, evI rfl (by omega), trivial⟩ ⟨⟨by omega, hT⟩, by omega⟩
      | fail "B"
theorem frm_PutRenewal (dest : Int) (ep : Nat) (rs : List UInt8) (h : rs.length = 1120) (he : ep < 4294967296) (w : World) {m : List Ob} (hT : Tk [] w w [] m) : Calls Try.prog 28 #[.agg (sgC dest ep rs).toArray] w fun e w' => ∃ (x' : Option Addr) (n c : Nat) (z : Int), n ≤ 1125 ∧ e = .returned (.tuple #[.slice x' n c, .int .i64 z]) ∧ Fr [] w w' := by
  by_cases hd : 0 ≤ dest ∧ dest < 8
  · obtain ⟨d, rfl⟩ : ∃ n : Nat, dest = n := ⟨dest.toNat, by omega⟩
    have cP := fun q f1 (ww : World) h2 => renew_Put q d ep rs h (by omega) he f1 ww (m := m) h2
    have hbl : ([] ++ be 1 d ++ be 4 ep ++ rs).length = 1125 := by simp [be_length, h]
    generalize [] ++ be 1 d ++ be 4 ep ++ rs = B at *
    have cB := fun q f1 (ww : World) h2 => Out_Bytes q B (by omega) f1 ww (m := m) h2
    have hall := sgC_all (dest := d) (ep := ep) h
    have hl := sgC_len (dest := d) (ep := ep) h
    refine enter [(0, _)] Try.func28 rfl Try.ntmps28 (Nat.le_of_ble_eq_true rfl) rfl ?_; intro a0 hN
    repeat' (first
      | (refine isT ?_; (first | (refine isGuard ?_; (first | (refine T_yes hN rfl rfl rfl ?_) | (refine T_guardD hN rfl rfl rfl (fun hb => ?_) (fun hb => ?_) <;> ((first | (exfalso; omega) | (exfalso; exact hb rfl) | (exfalso; exact hb (fun h => h rfl)) | ((with_reducible refine absurd ?_ hb); (repeat' (first | exact trivial | refine And.intro rfl ?_)); done) | (replace hb := Classical.not_not.1 hb) | skip))))) | (refine T_assign hN rfl (by first | exact .inr trivial | exact .inl rfl) ?_) | (refine T_extract hN rfl rfl (by first | exact .inr trivial | exact .inl rfl) ?_) | (refine T_fieldAddr hN rfl (by first | exact .inr trivial | exact .inl rfl) ?_) | (refine T_move hN rfl (by first | exact .inr trivial | exact .inl rfl) ?_) | (refine T_nil ?_) | (refine is_load ?_; (first | (refine T_load (d := 7) hN rfl (hT.has 0 rfl) (sgC_0 _ _ _) (by first | exact .inl rfl | exact .inr ⟨by decide, trivial⟩) ?_) | (refine T_load (d := 12) hN rfl (hT.has 0 rfl) (sgC_0 _ _ _) (by first | exact .inl rfl | exact .inr ⟨by decide, trivial⟩) ?_) | (refine T_loadn (d := 17) hN rfl (hT.has 1 rfl) (us := sgC d ep rs) hall hl (by first | exact .inl rfl | exact .inr ⟨by decide, trivial⟩) ?_))) | (refine is_binOp ?_; (first | (refine T_geq hN rfl rfl (by first | exact .inr trivial | exact .inl rfl) ?_) | (refine T_lss hN rfl rfl (by first | exact .inr trivial | exact .inl rfl) ?_))) | (refine is_pick ?_; (first | (refine T_pick0 hN rfl rfl (by first | exact .inr trivial | exact .inl rfl) ?_))) | (refine is_call ?_; (first | ((refine is_call ?_; obtain ⟨hP, hK⟩ := hT.call0m; refine T_call (f := 45) hN rfl (by decide) (Out_Lay _) ?_; rintro e ww ⟨q, rfl, h1⟩; clear hT hP; replace hT := hK _ _ _ h1; clear hK h1; refine ⟨_, rfl, (by first | exact trivial | ((repeat' (first | exact hT.has 0 rfl | exact hT.has 1 rfl | exact hT.has 2 rfl | exact hT.has 3 rfl | exact hT.has 4 rfl | exact hT.has 5 rfl | exact hT.ord 0 rfl | exact hT.ord 1 rfl | exact hT.ord 2 rfl | exact hT.ord 3 rfl | exact hT.ord 4 rfl | exact hT.ord 5 rfl | exact hT.mrd (by assumption) | refine And.intro ?_ ?_)); done)), ?_⟩); replace hT := hT.sel [0, 0] rfl) | ((refine is_call ?_; obtain ⟨f1, hP, hK⟩ := hT.call1m 0 rfl; refine T_call (f := 54) hN rfl (by decide) (cP q f1 _ hP) ?_; rintro e ww ⟨rfl, h1⟩; clear hT hP; replace hT := hK _ _ _ _ h1; clear hK h1; refine ⟨_, rfl, (by first | exact trivial | ((repeat' (first | exact hT.has 0 rfl | exact hT.has 1 rfl | exact hT.has 2 rfl | exact hT.has 3 rfl | exact hT.has 4 rfl | exact hT.has 5 rfl | exact hT.ord 0 rfl | exact hT.ord 1 rfl | exact hT.ord 2 rfl | exact hT.ord 3 rfl | exact hT.ord 4 rfl | exact hT.ord 5 rfl | exact hT.mrd (by assumption) | refine And.intro ?_ ?_)); done)), ?_⟩); replace hT := hT.sel [0, 0] rfl) | (refine is_call ?_; obtain ⟨f1, hP, hK⟩ := hT.call1m 0 rfl; refine T_call (f := 51) hN rfl (by decide) (cB q f1 _ hP) ?_; rintro e ww ⟨x1, c1, rfl, h1⟩; clear hT hP; replace hT := hK _ _ _ _ h1; clear hK h1; refine ⟨_, rfl, (by first | exact trivial | ((repeat' (first | exact hT.has 0 rfl | exact hT.has 1 rfl | exact hT.has 2 rfl | exact hT.has 3 rfl | exact hT.has 4 rfl | exact hT.has 5 rfl | exact hT.ord 0 rfl | exact hT.ord 1 rfl | exact hT.ord 2 rfl | exact hT.ord 3 rfl | exact hT.ord 4 rfl | exact hT.ord 5 rfl | exact hT.mrd (by assumption) | refine And.intro ?_ ?_)); done)), ?_⟩))) | (refine is_box ?_; (first | (refine T_box (d := 1) hN hT (vs := sgC d ep rs) rfl (by decide) ?_; clear hT; intro g1 ww hT; refine ⟨trivial, ?_⟩)))))
      | (refine isC ?_; (first | (refine C_seq ?_) | (refine C_rgnk (id := 0) hN [(0, _)] ⟨rfl, trivial⟩ ?_; clear hN; intro a0 hN) | (refine C_rgnk (id := 1) hN [(0, _), (1, _), (2, _), (3, _)] ⟨rfl, rfl, rfl, rfl, trivial⟩ ?_; clear hN; intro a0 hN) | (refine C_rgnk (id := 3) hN [(0, _), (1, _), (2, _), (3, _), (14, _)] ⟨rfl, rfl, rfl, rfl, rfl, trivial⟩ ?_; clear hN; intro a0 hN) | (refine C_rgnk (id := 4) hN [(0, _), (1, _), (2, _), (3, _), (4, _), (14, _)] ⟨rfl, rfl, rfl, rfl, rfl, rfl, trivial⟩ ?_; clear hN; intro a0 hN) | (refine C_rgnk (id := 5) hN [(0, _), (1, _), (2, _), (3, _), (4, _), (14, _)] ⟨rfl, rfl, rfl, rfl, rfl, rfl, trivial⟩ ?_; clear hN; intro a0 hN) | (refine C_if hN rfl (fun hb => ?_) (fun hb => ?_) <;> ((first | (exfalso; omega) | (exfalso; exact hb rfl) | (exfalso; exact hb (fun h => h rfl)) | ((with_reducible refine absurd ?_ hb); (repeat' (first | exact trivial | refine And.intro rfl ?_)); done) | (replace hb := Classical.not_not.1 hb) | skip))) | (refine C_skip ?_) | (refine C_ret ?_)))
      | (refine isE ?_; (first | (refine E_thn ?_) | (refine E_ret hN Try.results28 (.tmp rfl (.tmp rfl .nil)) ?_))))
    all_goals first
      | (exfalso; omega)
      | exact ⟨x1, _, c1, 0, Nat.le_of_eq hbl, rfl, hT.fr⟩
      | fail "P"
  · refine enter [(0, _)] Try.func28 rfl Try.ntmps28 (Nat.le_of_ble_eq_true rfl) rfl ?_; intro a0 hN
    repeat' (first
      | (refine isT ?_; (first | (refine isGuard ?_; (first | (refine T_yes hN rfl rfl rfl ?_) | (refine T_no hN rfl rfl rfl rfl ?_) | (refine T_guardD hN rfl rfl rfl (fun hb => ?_) (fun hb => ?_) <;> ((first | (exfalso; omega) | (exfalso; exact hb rfl) | (exfalso; exact hb (fun h => h rfl)) | ((with_reducible refine absurd ?_ hb); (repeat' (first | exact trivial | refine And.intro rfl ?_)); done) | (replace hb := Classical.not_not.1 hb) | skip))))) | (refine T_assign hN rfl (by first | exact .inr trivial | exact .inl rfl) ?_) | (refine T_fieldAddr hN rfl (by first | exact .inr trivial | exact .inl rfl) ?_) | (refine T_move hN rfl (by first | exact .inr trivial | exact .inl rfl) ?_) | (refine T_nil ?_) | (refine is_load ?_; (first | (refine T_load (d := 7) hN rfl (hT.has 0 rfl) (sgC_0 _ _ _) (by first | exact .inl rfl | exact .inr ⟨by decide, trivial⟩) ?_) | (refine T_load (d := 12) hN rfl (hT.has 0 rfl) (sgC_0 _ _ _) (by first | exact .inl rfl | exact .inr ⟨by decide, trivial⟩) ?_))) | (refine is_binOp ?_; (first | (refine T_geq hN rfl rfl (by first | exact .inr trivial | exact .inl rfl) ?_) | (refine T_lss hN rfl rfl (by first | exact .inr trivial | exact .inl rfl) ?_))) | (refine is_pick ?_; (first | (refine T_pick1 hN rfl rfl (by first | exact .inr trivial | exact .inl rfl) ?_) | (refine T_pick0 hN rfl rfl (by first | exact .inr trivial | exact .inl rfl) ?_))) | (refine is_box ?_; (first | (refine T_box (d := 1) hN hT (vs := sgC dest ep rs) rfl (by decide) ?_; clear hT; intro g1 ww hT; refine ⟨trivial, ?_⟩)))))
      | (refine isC ?_; (first | (refine C_seq ?_) | (refine C_rgnk (id := 0) hN [(0, _)] ⟨rfl, trivial⟩ ?_; clear hN; intro a0 hN) | (refine C_rgnk (id := 1) hN [(0, _), (1, _), (2, _), (3, _)] ⟨rfl, rfl, rfl, rfl, trivial⟩ ?_; clear hN; intro a0 hN) | (refine C_rgnk (id := 2) hN [(0, _), (1, _), (2, _), (3, _), (14, _)] ⟨rfl, rfl, rfl, rfl, rfl, trivial⟩ ?_; clear hN; intro a0 hN) | (refine C_true hN rfl ?_) | (refine C_if hN rfl (fun hb => ?_) (fun hb => ?_) <;> ((first | (exfalso; omega) | (exfalso; exact hb rfl) | (exfalso; exact hb (fun h => h rfl)) | ((with_reducible refine absurd ?_ hb); (repeat' (first | exact trivial | refine And.intro rfl ?_)); done) | (replace hb := Classical.not_not.1 hb) | skip))) | (refine C_ret ?_)))
      | (refine isE ?_; (first | (refine E_thn ?_) | (refine E_thn_ret ?_) | (refine E_ret hN Try.results28 (.tmp rfl (.tmp rfl .nil)) ?_))))
    all_goals first
      | (exfalso; omega)
      | exact ⟨none, 0, 0, 1, by omega, rfl, hT.fr⟩
      | fail "Q"
end Go.Proofs.Ytfcmjlbfoindaaa
