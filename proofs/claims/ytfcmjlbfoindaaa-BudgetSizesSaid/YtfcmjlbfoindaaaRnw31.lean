/- THE WALKS of signed records: as the program's; their bytes. -/
import Derived.Test.YtfcmjlbfoindaaaPU21
import Derived.Test.YtfcmjlbfoindaaaAwk12
namespace Go.Proofs.Ytfcmjlbfoindaaa
open Go.RowKit Go.Fp
attribute [local irreducible] Go.Calls
set_option maxRecDepth 100000
set_option maxHeartbeats 8000000
set_option maxRecDepth 20000
instance zeroSig : Zero Try.prog 90 (u8s (List.replicate 1088 0)) := mk_zero (by kernel_rfl)
instance zeroSgn : Zero Try.prog 92 ([.int .i64 0, .int .u32 0] ++ u8s (List.replicate 1120 0)) := mk_zero (by kernel_rfl)
/-- A signed record's cells. -/
def sgC (dest : Int) (ep : Nat) (rs : List UInt8) : List Value := [.int .i64 dest, .int .u32 ep] ++ u8s rs
/-- The j-th sum. -/
def cut16 (s : List UInt8) (j : Nat) : List UInt8 := (s.drop (j * 16)).take 16
theorem cut16_len {s : List UInt8} {j : Nat} (h : j * 16 + 16 ≤ s.length) : (cut16 s j).length = 16 := by unfold cut16; rw [List.length_take, List.length_drop]; omega
theorem u8s_cut (s : List UInt8) (j : Nat) : ((u8s s).drop (j * 16)).take 16 = u8s (cut16 s j) := by unfold cut16 u8s; rw [← List.map_drop, ← List.map_take]
theorem take_cut {s : List UInt8} {j : Nat} : s.take ((j + 1) * 16) = s.take (j * 16) ++ cut16 s j := by
  unfold cut16
  rw [Nat.add_mul, Nat.one_mul, List.take_add]
/-- What is copied of a signature when j sums are. -/
def half (s : List UInt8) (j : Nat) : List UInt8 := s.take (j * 16) ++ List.replicate (1088 - j * 16) 0
theorem half_len {s : List UInt8} (h : s.length = 1088) {j : Nat} (hj : j ≤ 68) : (half s j).length = 1088 := by unfold half; rw [List.length_append, List.length_take, List.length_replicate]; omega
theorem half_all {s : List UInt8} (h : s.length = 1088) : half s 68 = s := by unfold half; rw [List.take_of_length_le (by omega)]; simp
theorem half_step {s : List UInt8} (h : s.length = 1088) {j : Nat} (hj : j < 68) : spl (u8s (half s j)) (0 + j * 16) (u8s (cut16 s j)) = u8s (half s (j + 1)) := by
  have hc := cut16_len (s := s) (j := j) (by omega)
  have ht : (s.take (j * 16)).length = j * 16 := by rw [List.length_take]; omega
  unfold spl half
  rw [u8s_length, hc, take_cut, Nat.zero_add]
  unfold u8s
  rw [← List.map_take, ← List.map_drop, ← List.map_append, ← List.map_append, List.take_left' ht, List.drop_append, List.drop_eq_nil_of_le (by omega), List.nil_append, List.drop_replicate, ht]
  congr 3
  omega
theorem tk_all {s : List UInt8} {n : Nat} (h : s.length = n) : ((u8s s).drop 0).take n = u8s s := by rw [List.drop_zero, List.take_of_length_le (by rw [u8s_length]; omega)]
attribute [local irreducible] half cut16
theorem law10_ToSig (s : List UInt8) (hs : s.length = 1088) (w : World) {m : List Ob} (hT : Tk [] w w [] m) : Calls Try.prog 55 #[.agg (u8s s).toArray] w fun e w' => e = .returned (.agg (u8s s).toArray) ∧ Tk [] w w' [] m := by
  have hs2 : (u8s s).length = 1088 := by rw [u8s_length]; exact hs
  have hz : u8s (List.replicate 1088 0) = u8s (half s 0) := by unfold half; simp
  refine enter [(0, _)] Try.func55 rfl Try.ntmps55 (Nat.le_of_ble_eq_true rfl) rfl ?_; intro a0 hN
  repeat' (first
    | (refine isT ?_; (first | (refine T_move hN rfl (by first | exact .inr trivial | exact .inl rfl) ?_) | (refine T_nil ?_) | (refine is_box ?_; (first | (refine T_box (d := 1) hN hT (vs := u8s s) rfl (by decide) ?_; clear hT; intro g1 ww hT; refine ⟨trivial, ?_⟩))) | (refine is_alloc ?_; (first | (refine T_alloc (d := 2) hN hT (by decide) ?_; clear hT; intro g2 ww hT; refine ⟨trivial, ?_⟩) | (refine T_alloc (d := 3) hN hT (by decide) ?_; clear hT; intro g3 ww hT; refine ⟨trivial, ?_⟩)))))
    | (refine isC ?_; (first | (refine C_seq ?_) | (refine C_rgnk (id := 0) hN [(0, _)] ⟨rfl, trivial⟩ ?_; clear hN; intro a0 hN) | (refine C_rgnk (id := 1) hN [(0, _), (1, _), (2, _)] ⟨rfl, rfl, rfl, trivial⟩ ?_; clear hN; intro a0 hN) | (refine C_rgnk (id := 2) hN [(0, _), (1, _), (2, _), (3, _)] ⟨rfl, rfl, rfl, rfl, trivial⟩ ?_; clear hN; intro a0 hN) | (refine C_block ?_)))
    | (refine isE ?_; (first | (refine E_thn ?_))))
  have hT2 : Tk [] w ww [Ob.blk g3 90 (u8s (half s 0)), Ob.blk g2 90 (u8s (List.replicate 1088 0)), Ob.blk g1 65 (u8s s)] m := by rw [← hz]; exact hT
  refine C_loop hN (X := Nat) (fun j => [(1, .pointer (some ⟨g1, 0, none⟩)), (2, .pointer (some ⟨g2, 0, none⟩)), (3, .pointer (some ⟨g3, 0, none⟩)), (5, .int .i64 j)])
    (fun j w1 => j ≤ 68 ∧ Tk [] w w1 [Ob.blk g3 90 (u8s (half s j)), Ob.blk g2 90 (u8s (List.replicate 1088 0)), Ob.blk g1 65 (u8s s)] m) (fun j => 68 - j) 0 ⟨rfl, rfl, rfl, rfl, trivial⟩ ⟨Nat.zero_le _, hT2⟩ ?_
  clear hN hT hT2
  rintro j a0 ww hN ⟨hj, hT⟩
  by_cases hj0 : j = 68
  · subst hj0
    rw [half_all hs] at hT
    repeat' (first
      | (refine isT ?_; (first | (refine T_nil ?_) | (refine is_load ?_; (first | (refine T_loadn (d := 14) hN rfl (hT.has 0 rfl) (us := u8s s) (tk_all hs) hs2 (by first | exact .inl rfl | exact .inr ⟨by decide, trivial⟩) ?_))) | (refine is_binOp ?_; (first | (refine T_lss hN rfl rfl (by first | exact .inr trivial | exact .inl rfl) ?_))) | (refine is_store ?_; (first | (refine T_storeAll hN hT 1 (us := u8s s) rfl rfl rfl hs2 (by simp [u8s]) (List.all_eq_true.2 (u8s_all1 _)) (by decide) ?_; clear hT; intro ww hT; refine ⟨trivial, ?_⟩)))))
      | (refine isC ?_; (first | (refine C_seq ?_) | (refine C_rgn ?_) | (refine C_if hN rfl (fun hb => ?_) (fun hb => ?_) <;> ((first | (exfalso; omega) | (exfalso; exact hb rfl) | (exfalso; exact hb (fun h => h rfl)) | ((with_reducible refine absurd ?_ hb); (repeat' (first | exact trivial | refine And.intro rfl ?_)); done) | (replace hb := Classical.not_not.1 hb) | skip))) | (refine C_ret ?_) | (refine C_exit ?_)))
      | (refine isE ?_; (first | (refine E_ret hN Try.results55 (.cell rfl (run_loadAll (hT.has 1 rfl) (us := u8s s) (tk_all hs) hs2) .nil) ?_) | (refine E_thn ?_) | (refine E_thn_exit ?_) | (refine E_blk_hit ?_) | (refine E_lp_exit ?_))))
    all_goals first
      | exact ⟨rfl, hT.nil⟩
      | fail "A"
  · have hc := cut16_len (s := s) (j := j) (by omega)
    have hcl : (u8s (cut16 s j)).length = 16 := by rw [u8s_length]; exact hc
    have hhl := half_len hs hj
    repeat' (first
      | (refine isT ?_; (first | (refine T_assign hN rfl (by first | exact .inr trivial | exact .inl rfl) ?_) | (refine T_move hN rfl (by first | exact .inr trivial | exact .inl rfl) ?_) | (refine T_nil ?_) | (refine is_load ?_; (first | (refine T_loadn (d := 11) hN rfl (hT.has 2 rfl) (us := u8s (cut16 s j)) (by rw [Nat.zero_add]; exact u8s_cut s j) hcl (by first | exact .inl rfl | exact .inr ⟨by decide, trivial⟩) ?_))) | (refine is_binOp ?_; (first | (refine T_addi64 hN rfl rfl (by omega) (by first | exact .inr trivial | exact .inl rfl) ?_) | (refine T_lss hN rfl rfl (by first | exact .inr trivial | exact .inl rfl) ?_))) | (refine is_store ?_; (first | (refine T_storen hN hT 0 rfl rfl rfl hcl (Nat.ble_eq_true_of_le (by rw [u8s_length, hhl]; omega)) (List.all_eq_true.2 (u8s_all1 _)) (by decide) ?_; clear hT; intro ww hT; refine ⟨trivial, ?_⟩; rw [half_step hs (by omega)] at hT))) | (refine is_indexAddr ?_; (first | (refine T_indexAddrA hN rfl rfl (by omega) (by first | exact .inr trivial | exact .inl rfl) ?_)))))
      | (refine isC ?_; (first | (refine C_seq ?_) | (refine C_rgn ?_) | (refine C_if hN rfl (fun hb => ?_) (fun hb => ?_) <;> ((first | (exfalso; omega) | (exfalso; exact hb rfl) | (exfalso; exact hb (fun h => h rfl)) | ((with_reducible refine absurd ?_ hb); (repeat' (first | exact trivial | refine And.intro rfl ?_)); done) | (replace hb := Classical.not_not.1 hb) | skip))) | (refine C_skip ?_) | (refine C_block ?_)))
      | (refine isE ?_; (first | (refine E_thn ?_) | (refine E_blk ?_))))
    all_goals first
      | exact E_mk hN (j + 1) ⟨rfl, rfl, rfl, evI rfl (by omega), trivial⟩ ⟨⟨by omega, hT⟩, by omega⟩
      | fail "B"
end Go.Proofs.Ytfcmjlbfoindaaa
/- THE WALKS of signed records: as the program's, whole; their bytes. -/
namespace Go.Proofs.Ytfcmjlbfoindaaa
open Go.RowKit Go.Fp
attribute [local irreducible] Go.Calls
set_option maxRecDepth 100000
set_option maxHeartbeats 8000000
set_option maxRecDepth 20000
theorem sgC_len {dest : Int} {ep : Nat} {rs : List UInt8} (h : rs.length = 1120) : (sgC dest ep rs).length = 1122 := by unfold sgC; rw [List.length_append, u8s_length, h]; rfl
theorem sgC_all1 (dest : Int) (ep : Nat) (rs : List UInt8) : (sgC dest ep rs).all (·.oneCell') = true := by
  unfold sgC
  rw [List.all_append, show (u8s rs).all (·.oneCell') = true from List.all_eq_true.2 (u8s_all1 _)]; rfl
theorem sgC_0 (dest : Int) (ep : Nat) (rs : List UInt8) : (sgC dest ep rs)[0]? = some (.int .i64 dest) := rfl
theorem sgC_1 (dest : Int) (ep : Nat) (rs : List UInt8) : (sgC dest ep rs)[1]? = some (.int .u32 ep) := rfl
theorem sgC_part (dest : Int) (ep : Nat) (rs : List UInt8) (a n : Nat) : ((sgC dest ep rs).drop (2 + a)).take n = u8s ((rs.drop a).take n) := by
  unfold sgC
  rw [List.drop_append, List.drop_eq_nil_of_le (by simp), List.nil_append]
  unfold u8s
  rw [show 2 + a - [Value.int IntKind.i64 dest, Value.int IntKind.u32 ep].length = a from Nat.add_sub_cancel_left .., ← List.map_drop, ← List.map_take]
theorem sgC_all {dest : Int} {ep : Nat} {rs : List UInt8} (h : rs.length = 1120) : ((sgC dest ep rs).drop 0).take 1122 = sgC dest ep rs := by rw [List.drop_zero, List.take_of_length_le (by rw [sgC_len h]; omega)]
theorem rs_cut {rs : List UInt8} (h : rs.length = 1120) : rs = (rs.drop 0).take 16 ++ ((rs.drop 16).take 16 ++ (rs.drop 32).take 1088) := by
  rw [List.drop_zero, List.take_of_length_le (l := rs.drop 32) (by rw [List.length_drop]; omega), show rs.drop 32 = (rs.drop 16).drop 16 by rw [List.drop_drop], List.take_append_drop, List.take_append_drop]
theorem bfillN {pl : List (Nat × Nat)} {zs us : List Value} {ps : List (Nat × Value)} {i off size : Nat} {v : Value} (h : pl[i]? = some (off, size)) (hu : v.cells.toList = us) (hs : us.length = size) (hz : off + size ≤ zs.length) : bfill pl zs ((i, v) :: ps) = bfill pl (spl zs off us) ps := by
  simp only [bfill, h, hu]
  rw [show (Nat.beq us.length size && Nat.ble (off + size) zs.length) = true by simp [hs, hz]]
  rfl
/-- A record's cells. -/
def rcC (dest : Int) (ep : Nat) (r n : List UInt8) : List Value := [.int .i64 dest, .int .u32 ep] ++ (u8s r ++ u8s n)
def z16 : List Value := [.int .u8 0, .int .u8 0, .int .u8 0, .int .u8 0, .int .u8 0, .int .u8 0, .int .u8 0, .int .u8 0, .int .u8 0, .int .u8 0, .int .u8 0, .int .u8 0, .int .u8 0, .int .u8 0, .int .u8 0, .int .u8 0]
theorem rc_fill {dest : Int} {ep : Nat} {r n : List UInt8} (hr : r.length = 16) (hn : n.length = 16) : bfill [(0, 1), (1, 1), (2, 16), (18, 16)] ([.int .i64 0, .int .u32 0] ++ (z16 ++ z16)) [(0, .int .i64 dest), (1, .int .u32 ep), (2, .agg (u8s r).toArray), (3, .agg (u8s n).toArray)] = some (rcC dest ep r n) := by
  have l1 : (u8s r).length = 16 := by rw [u8s_length]; exact hr
  have l2 : (u8s n).length = 16 := by rw [u8s_length]; exact hn
  rw [bfillN rfl (us := [.int .i64 dest]) rfl rfl (by simp [z16]), bfillN rfl (us := [.int .u32 ep]) rfl rfl (by simp [spl, z16])]
  rw [show spl (spl ([.int .i64 0, .int .u32 0] ++ (z16 ++ z16)) 0 [.int .i64 dest]) 1 [.int .u32 ep] = [.int .i64 dest, .int .u32 ep] ++ (z16 ++ z16) from rfl]
  rw [bfillN rfl (us := u8s r) (by simp [Value.cells]) l1 (by simp [z16])]
  rw [show spl ([Value.int .i64 dest, .int .u32 ep] ++ (z16 ++ z16)) 2 (u8s r) = [Value.int .i64 dest, .int .u32 ep] ++ (u8s r ++ z16) by unfold spl; rw [l1]; simp [z16]]
  rw [bfillN rfl (us := u8s n) (by simp [Value.cells]) l2 (by simp [z16, l1])]
  have e : spl ([Value.int .i64 dest, .int .u32 ep] ++ (u8s r ++ z16)) 18 (u8s n) = rcC dest ep r n := by
    unfold spl rcC
    rw [l2, List.take_append, List.take_append, List.drop_append, List.drop_append]
    simp [l1, z16]
    rw [List.take_of_length_le (by rw [l1]; omega), List.drop_eq_nil_of_le (by rw [l1]; omega)]
    simp
  rw [e]; rfl
theorem sg_fill {dest : Int} {ep : Nat} {r n s : List UInt8} (hr : r.length = 16) (hn : n.length = 16) (hs : s.length = 1088) : bfill [(0, 34), (34, 1088)] ([.int .i64 0, .int .u32 0] ++ u8s (List.replicate 1120 0)) [(0, .agg (rcC dest ep r n).toArray), (1, .agg (u8s s).toArray)] = some (sgC dest ep (r ++ (n ++ s))) := by
  have l1 : (u8s r).length = 16 := by rw [u8s_length]; exact hr
  have l2 : (u8s n).length = 16 := by rw [u8s_length]; exact hn
  have l3 : (u8s s).length = 1088 := by rw [u8s_length]; exact hs
  have l4 : (rcC dest ep r n).length = 34 := by unfold rcC; rw [List.length_append, List.length_append, l1, l2]; rfl
  have lz : ([Value.int .i64 0, .int .u32 0] ++ u8s (List.replicate 1120 0)).length = 1122 := by rw [List.length_append, u8s_length, List.length_replicate]; rfl
  rw [bfillN rfl (us := rcC dest ep r n) (by simp [Value.cells]) l4 (by rw [lz]; omega)]
  have e1 : spl ([Value.int .i64 0, .int .u32 0] ++ u8s (List.replicate 1120 0)) 0 (rcC dest ep r n) = rcC dest ep r n ++ u8s (List.replicate 1088 0) := by
    unfold spl
    rw [List.take_zero, List.nil_append, l4]
    have e0 : ([Value.int .i64 0, .int .u32 0] ++ u8s (List.replicate 1120 0)).drop (0 + 34) = u8s (List.replicate 1088 0) := by
      rw [List.drop_append, List.drop_eq_nil_of_le (by simp), List.nil_append]
      unfold u8s
      rw [← List.map_drop, List.drop_replicate]
      rfl
    rw [e0]
  rw [e1, bfillN rfl (us := u8s s) (by simp [Value.cells]) l3 (by rw [List.length_append, l4, u8s_length, List.length_replicate]; omega)]
  have e2 : spl (rcC dest ep r n ++ u8s (List.replicate 1088 0)) 34 (u8s s) = sgC dest ep (r ++ (n ++ s)) := by
    unfold spl
    rw [List.take_left' l4, List.drop_eq_nil_of_le (by rw [List.length_append, l4, l3, u8s_length, List.length_replicate]; omega), List.append_nil]
    unfold rcC sgC
    rw [u8s_append, u8s_append, List.append_assoc, List.append_assoc]
  rw [e2]; rfl
attribute [local irreducible] sgC rcC
theorem law11_To (dest : Int) (ep : Nat) (rs : List UInt8) (h : rs.length = 1120) (w : World) {m : List Ob} (hT : Tk [] w w [] m) : Calls Try.prog 29 #[.agg (sgC dest ep rs).toArray] w fun e w' => e = .returned (.agg (sgC dest ep rs).toArray) ∧ Tk [] w w' [] m := by
  have hl := sgC_len (dest := dest) (ep := ep) h
  have hr : ((rs.drop 0).take 16).length = 16 := by rw [List.length_take, List.length_drop]; omega
  have hn : ((rs.drop 16).take 16).length = 16 := by rw [List.length_take, List.length_drop]; omega
  have hs : ((rs.drop 32).take 1088).length = 1088 := by rw [List.length_take, List.length_drop]; omega
  have cS := fun (ww : World) h => law10_ToSig ((rs.drop 32).take 1088) hs ww (m := m) h
  have hcut := rs_cut h
  have p1 := sgC_part dest ep rs 0 16
  have p2 := sgC_part dest ep rs 16 16
  have p3 := sgC_part dest ep rs 32 1088
  have hall := sgC_all (dest := dest) (ep := ep) h
  have ha1 := sgC_all1 dest ep rs
  have hf := sg_fill (dest := dest) (ep := ep) hr hn hs
  rw [← hcut] at hf
  have hrc := rc_fill (dest := dest) (ep := ep) hr hn
  have hr2 : (u8s ((rs.drop 0).take 16)).length = 16 := by rw [u8s_length]; exact hr
  have hn2 : (u8s ((rs.drop 16).take 16)).length = 16 := by rw [u8s_length]; exact hn
  have hs2 : (u8s ((rs.drop 32).take 1088)).length = 1088 := by rw [u8s_length]; exact hs
  generalize (rs.drop 0).take 16 = r at *
  generalize (rs.drop 16).take 16 = n at *
  generalize (rs.drop 32).take 1088 = s at *
  refine enter [(0, _)] Try.func29 rfl Try.ntmps29 (Nat.le_of_ble_eq_true rfl) rfl ?_; intro a0 hN
  repeat' (first
    | (refine isT ?_; (first | (refine T_fieldAddr hN rfl (by first | exact .inr trivial | exact .inl rfl | (refine .inr ?_; (repeat' (first | exact hT.has 0 rfl | exact hT.has 1 rfl | exact hT.ord 0 rfl | exact hT.ord 1 rfl | refine And.intro ?_ ?_)); done)) ?_) | (refine T_nil ?_) | (refine T_nild ?_) | (refine is_load ?_; (first | (refine T_loadH (d := 5) hN rfl (fun _ h => h) (sgC_0 _ _ _) rfl ?_) | (refine T_loadH (d := 8) hN rfl (fun _ h => h) (sgC_1 _ _ _) rfl ?_) | (refine T_loadnH (d := 11) hN rfl (fun _ h => h) (us := u8s r) p1 hr2 rfl ?_) | (refine T_loadnH (d := 14) hN rfl (fun _ h => h) (us := u8s n) p2 hn2 rfl ?_) | (refine T_loadnH (d := 17) hN rfl (fun _ h => h) (us := u8s s) p3 hs2 rfl ?_))) | (refine is_call ?_; (first | ((refine is_call ?_; obtain ⟨hP, hK⟩ := hT.call0m; refine T_call (f := 55) hN rfl (by decide) (cS _ hP) ?_; rintro e ww ⟨rfl, h1⟩; clear hT hP; replace hT := hK _ _ _ h1; clear hK h1; refine ⟨_, rfl, (by first | exact trivial | ((repeat' (first | exact hT.has 0 rfl | exact hT.has 1 rfl | exact hT.has 2 rfl | exact hT.has 3 rfl | exact hT.has 4 rfl | exact hT.has 5 rfl | exact hT.ord 0 rfl | exact hT.ord 1 rfl | exact hT.ord 2 rfl | exact hT.ord 3 rfl | exact hT.ord 4 rfl | exact hT.ord 5 rfl | exact hT.mrd (by assumption) | refine And.intro ?_ ?_)); done)), ?_⟩); replace hT := hT.sel [0, 0] rfl))) | (refine is_store ?_; (first | (refine T_storeAll hN hT 0 (us := sgC dest ep rs) rfl rfl rfl hl (by simp [u8s]) ha1 (by decide) ?_; clear hT; intro ww hT; refine ⟨hT.has 1 rfl, ?_⟩))) | (refine is_box ?_; (first | (refine T_box (d := 1) hN hT (vs := sgC dest ep rs) rfl (by decide) ?_; clear hT; intro g1 ww hT; refine ⟨trivial, ?_⟩))) | (refine is_alloc ?_; (first | (refine T_alloc (d := 2) hN hT (by decide) ?_; clear hT; intro g2 ww hT; refine ⟨trivial, ?_⟩))) | (refine is_build ?_; (first | (refine T_build (d := 15) (us := rcC dest ep r n) hN rfl hrc (by first | exact .inr trivial | exact .inl rfl) ?_) | (refine T_build (d := 19) (us := sgC dest ep rs) hN rfl hf (by first | exact .inr trivial | exact .inl rfl) ?_)))))
    | (refine isC ?_; (first | (refine C_seq ?_) | (refine C_rgnk (id := 0) hN [(0, _)] ⟨rfl, trivial⟩ ?_; clear hN; intro a0 hN) | (refine C_ret ?_) | (refine C_drawk (id := 1) hN [(0, _), (1, _), (2, _)] ⟨rfl, rfl, rfl, trivial⟩ [0, 0, 0, 0, 0, 0, 0, 0, 0, 0, 0, 0, 0, 0, 0, 2, 0, 2] (fun w1 => Has w1 _ _ (List.toArray _)) Try.mixed (by kernel_rfl) (hT.drew.has 1 rfl) ?_; replace hT := hT.drew; clear hN; intro a0 hN)))
    | (refine isE ?_; (first | (refine E_ret hN Try.results29 (.cell rfl (run_loadAll (hT.has 0 rfl) (us := sgC dest ep rs) hall hl) .nil) ?_) | (refine E_thn ?_))))
  all_goals first
    | exact ⟨rfl, hT.nil⟩
    | fail "T"
end Go.Proofs.Ytfcmjlbfoindaaa
