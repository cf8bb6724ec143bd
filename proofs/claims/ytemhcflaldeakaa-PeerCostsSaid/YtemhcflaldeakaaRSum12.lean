/- THE WALKS of a sum, the document's: the whole. -/
import Derived.Test.YtemhcflaldeakaaRPad12
import Derived.Test.YtemhcflaldeakaaOpen12
namespace Go.Fp
open Go Go.RowKit
theorem w_rem256 (x : UInt32) : ((x.toNat : Int)).tmod 256 = ((x % 256).toNat : Int) := by rw [UInt32.toNat_mod]; rfl
theorem w_quo256 (x : UInt32) : IntKind.u32.wrap (((x.toNat : Int)).tdiv 256) = ((x / 256).toNat : Int) := by
  have e : ((x.toNat : Int)).tdiv 256 = ((x.toNat / 256 : Nat) : Int) := rfl
  rw [e, IntKind.wrap_u32, UInt32.toNat_div]
  have := x.toNat_lt
  show ((x.toNat / 256 : Nat) : Int) % 4294967296 = ((x.toNat / 256 : Nat) : Int)
  omega
theorem shK_len : (w32s shK).length = 64 := by rw [w32s_length]; rfl
theorem shK_all : ((w32s shK).drop 0).take 64 = w32s shK := by rw [List.drop_zero, List.take_of_length_le (by rw [shK_len]; exact Nat.le_refl _)]
theorem S8.cells_all (G : S8) : (G.cells.drop 0).take 8 = G.cells := rfl
theorem dcells_step2 (G : S8) {i : Nat} (h : i < 8) (x : UInt32) (hx : x = gw G.ws i) :
    ((((dcells G i).set (0 + (4 * i + 3) * 1) (u8 (x % 256).toUInt8)).set (0 + (4 * i + 2) * 1) (u8 (x / 256 % 256).toUInt8)).set (0 + (4 * i + 1) * 1) (u8 (x / 256 / 256 % 256).toUInt8)).set (0 + (4 * i) * 1) (u8 (x / 256 / 256 / 256 % 256).toUInt8) = dcells G (i + 1) := by
  subst hx
  unfold dcells
  have hl : (wbs (G.ws.take i)).length = 4 * i := by rw [wbs_len, List.length_take]; show 4 * min i 8 = _; omega
  have ht : wbs (G.ws.take (i + 1)) = wbs (G.ws.take i) ++ be 4 (gw G.ws i).toNat := by
    rw [List.take_add_one, gw_get (by exact h)]
    unfold wbs
    rw [List.flatMap_append]; simp
  rw [u8s_set, u8s_set, u8s_set, u8s_set, show 32 - 4 * i = (32 - 4 * (i + 1)) + 1 + 1 + 1 + 1 by omega, List.replicate_succ, List.replicate_succ, List.replicate_succ, List.replicate_succ]
  rw [set_app _ _ _ 3 _ (by omega), set_app _ _ _ 2 _ (by omega), set_app _ _ _ 1 _ (by omega), set_app _ _ _ 0 _ (by omega), ht, be4', List.append_assoc]
  rfl
end Go.Fp
namespace Go.Proofs.Ytemhcflaldeakaa
open Go.RowKit Go.Fp
attribute [local irreducible] Go.Calls
set_option maxRecDepth 100000
set_option maxHeartbeats 16000000
attribute [local irreducible] S8.mix sh0 S8.blks be shK w32s
theorem sumB (G : S8) (r : List UInt8) (hsh : r = G.bytes) (hsl : r.length = 32) (M : List UInt8) (x1 : Option Addr) (c1 g2 g4 g5 : Nat) (w w1 : World) {m : List Ob} (hT : Tk [] w w1 [Ob.blk g5 139 (w32s shK), Ob.blk g4 137 G.cells, Ob.own 5 1 (.slice x1 M.length c1) M.length (u8s M), Ob.blk g2 24 z32] m) :
    ∀ a0, Base 51 a0 → wpC Try.prog (restQ 4 (bodyM Try.f56)) (.base (bodyPost Try.prog Try.f56 fun e w' => e = .returned (.agg (u8s r).toArray) ∧ Tk [] w w' [] m)) (puts a0 [(2, .pointer (some ⟨g2, 0, none⟩)), (4, .pointer (some ⟨g4, 0, none⟩))]) w1 := by
  intro a0 hN
  repeat' (first
    | (refine isT ?_; (first | (refine T_assign hN rfl (by first | exact .inr trivial | exact .inl rfl) ?_) | (refine T_nil ?_) | (refine is_alloc ?_; (first | (refine T_alloc (d := 7) hN hT (by decide) ?_; clear hT; intro g7 ww hT; refine ⟨trivial, ?_⟩)))))
    | (refine isC ?_; (first | (refine C_seq ?_) | (refine C_rgn ?_) | (refine C_block ?_)))
    | (refine isE ?_; (first | (refine E_thn ?_))))
  all_goals
    have hT1 : Tk [] w ww [Ob.blk g7 24 (dcells G 0), Ob.blk g4 137 G.cells, Ob.blk g2 24 z32] m := by
      rw [dcells_zero]; exact hT.sel [0, 1, 2] rfl
    clear hT
    refine C_loop hN (X := Nat) (fun i => [(2, .pointer (some ⟨g2, 0, none⟩)), (4, .pointer (some ⟨g4, 0, none⟩)), (7, .pointer (some ⟨g7, 0, none⟩)), (8, .int .i64 i)])
      (fun i w1 => i ≤ 8 ∧ Tk [] w w1 [Ob.blk g7 24 (dcells G i), Ob.blk g4 137 G.cells, Ob.blk g2 24 z32] m) (fun i => 8 - i) 0 ⟨rfl, rfl, rfl, rfl, trivial⟩ ⟨Nat.zero_le _, hT1⟩ ?_
    clear hN hT1
    rintro i a0 ww hN ⟨hi8, hT⟩
    by_cases hi9 : i = 8
    · subst hi9
      rw [dcells_all, ← hsh] at hT
      repeat' (first
        | (refine isT ?_; (first | (refine T_move hN rfl (by first | exact .inr trivial | exact .inl rfl) ?_) | (refine T_nil ?_) | (refine is_load ?_; (first | (refine T_loadn hN rfl (hT.has 0 rfl) (us := u8s r) (by rw [List.drop_zero, List.take_of_length_le (by rw [u8s_length, hsl]; exact Nat.le_refl _)]) (by rw [u8s_length, hsl]) (by first | exact .inl rfl | exact .inr ⟨by decide, trivial⟩) ?_))) | (refine is_binOp ?_; (first | (refine T_lss hN rfl rfl (by first | exact .inr trivial | exact .inl rfl) ?_))) | (refine is_store ?_; (first | (refine T_storeAll hN hT 2 (us := u8s r) rfl rfl rfl (by rw [u8s_length, hsl]; rfl) rfl (List.all_eq_true.2 (u8s_all1 r)) (by decide) ?_; clear hT; intro ww hT; refine ⟨trivial, ?_⟩)))))
        | (refine isC ?_; (first | (refine C_seq ?_) | (refine C_rgn ?_) | (refine C_if hN rfl (fun hb => ?_) (fun hb => ?_) <;> ((first | (exfalso; omega) | (exfalso; exact hb rfl) | (exfalso; exact hb (fun h => h rfl)) | ((with_reducible refine absurd ?_ hb); (repeat' (first | exact trivial | refine And.intro rfl ?_)); done) | (replace hb := Classical.not_not.1 hb) | skip))) | (refine C_ret ?_) | (refine C_exit ?_)))
        | (refine isE ?_; (first | (refine E_ret hN Try.results56 (.cell rfl (run_loadAll (hT.has 2 rfl) (us := u8s r) (by rw [List.drop_zero, List.take_of_length_le (by rw [u8s_length, hsl]; exact Nat.le_refl _)]) (by rw [u8s_length, hsl])) .nil) ?_) | (refine E_thn ?_) | (refine E_thn_exit ?_) | (refine E_blk_hit ?_) | (refine E_lp_exit ?_))))
      all_goals exact ⟨rfl, hT.sel [] rfl⟩
    · have hds := dcells_step2 G (i := i) (by omega) _ rfl
      have hdl := dcells_len G hi8
      repeat' (first
        | (refine isT ?_; (first | (refine T_assign hN rfl (by first | exact .inr trivial | exact .inl rfl) ?_) | (refine T_move hN rfl (by first | exact .inr trivial | exact .inl rfl) ?_) | (refine T_nil ?_) | (refine is_load ?_; (first | (refine T_load hN rfl (hT.has 1 rfl) (S8.cell_get0 G (by omega)) (by first | exact .inl rfl | exact .inr ⟨by decide, trivial⟩) ?_))) | (refine is_binOp ?_; (first | (refine T_rem (r := ((_ % 256 : UInt32).toNat : Int)) hN rfl rfl (by decide) (w_rem256 _) (by first | exact .inr trivial | exact .inl rfl) ?_) | (refine T_quo (r := ((_ / 256 : UInt32).toNat : Int)) hN rfl rfl (by decide) (w_quo256 _) (by first | exact .inr trivial | exact .inl rfl) ?_) | (refine T_addi64 hN rfl rfl (by omega) (by first | exact .inr trivial | exact .inl rfl) ?_) | (refine T_geq hN rfl rfl (by first | exact .inr trivial | exact .inl rfl) ?_) | (refine T_lss hN rfl rfl (by first | exact .inr trivial | exact .inl rfl) ?_) | (refine T_muli64 hN rfl rfl (by omega) (by first | exact .inr trivial | exact .inl rfl) ?_) | (refine T_sub (r := ?_) hN rfl rfl ?_ (by first | exact .inr trivial | exact .inl rfl) ?_; rotate_left; (focus (refine Eq.trans (Go.IntWalk.i64_in _ ?_) ?_; (focus decide); (simp only [Int.reduceSub]; rfl)))))) | (refine is_store ?_; (first | (refine T_store hN hT 0 rfl rfl rfl (List.getElem?_eq_getElem (by simp only [List.length_set, hdl]; omega)) rfl (by decide) ?_; clear hT; intro ww hT; refine ⟨trivial, ?_⟩))) | (refine is_convert ?_; (first | (refine T_conv328 hN rfl (by first | exact .inr trivial | exact .inl rfl) ?_))) | (refine is_indexAddr ?_; (first | (refine T_indexAddrA (j := 4 * i + 3) hN rfl (evI rfl (by omega)) (by omega) (by first | exact .inr trivial | exact .inl rfl) ?_) | (refine T_indexAddrA (j := 4 * i + 2) hN rfl (evI rfl (by omega)) (by omega) (by first | exact .inr trivial | exact .inl rfl) ?_) | (refine T_indexAddrA (j := 4 * i + 1) hN rfl (evI rfl (by omega)) (by omega) (by first | exact .inr trivial | exact .inl rfl) ?_) | (refine T_indexAddrA (j := 4 * i) hN rfl (evI rfl (by omega)) (by omega) (by first | exact .inr trivial | exact .inl rfl) ?_) | (refine T_indexAddrA hN rfl rfl (by omega) (by first | exact .inr trivial | exact .inl rfl) ?_)))))
        | (refine isC ?_; (first | (refine C_unroll 4 ?_) | (refine C_seq ?_) | (refine C_rgn ?_) | (refine C_if hN rfl (fun hb => ?_) (fun hb => ?_) <;> ((first | (exfalso; omega) | (exfalso; exact hb rfl) | (exfalso; exact hb (fun h => h rfl)) | ((with_reducible refine absurd ?_ hb); (repeat' (first | exact trivial | refine And.intro rfl ?_)); done) | (replace hb := Classical.not_not.1 hb) | skip))) | (refine C_skip ?_) | (refine C_block ?_) | (refine C_exit ?_)))
        | (refine isE ?_; (first | (refine E_unroll ?_) | (refine E_thn ?_) | (refine E_blk ?_) | (refine E_thn_exit ?_) | (refine E_blk_hit ?_) | (refine E_lp_exit ?_) | (refine E_unroll ?_))))
      all_goals first
        | exact E_mk hN (i + 1) ⟨rfl, rfl, rfl, evI rfl (by omega), trivial⟩ ⟨⟨by omega, by rw [← hds]; exact hT⟩, by omega⟩
        | fail "U"
theorem ref_Sum (x : Option Addr) (n c : Nat) (p : List UInt8) (hpn : p.length = n) (hx : x = none → n = 0 ∧ c = 0) (hn : n ≤ 1900000) (w : World) {m : List Ob} (hm : Ob.rd x n 1 (u8s p) ∈ m) (hT : Tk [] w w [] m) :
    Calls Try.prog 56 #[.slice x n c] w fun e w' => e = .returned (.agg (u8s (shaP p)).toArray) ∧ Tk [] w w' [] m := by
  subst hpn
  have cP := fun ww h => ref_Pad x c p hx (by omega) ww (m := m) hm h
  have hpl := padT_len p.length
  have hM64 : (p ++ padT p.length).length % 64 = 0 := by
    have := (padN_spec p.length).1
    rw [List.length_append]; omega
  have hMl : (p ++ padT p.length).length ≤ 2000000 := by
    have : padN p.length < 64 := Nat.mod_lt _ (by decide)
    rw [List.length_append]; omega
  have hsh : shaP p = (sh0.blks (p ++ padT p.length) ((p ++ padT p.length).length / 64)).bytes := rfl
  have hsl := shaP_len p
  generalize shaP p = r at *
  generalize p ++ padT p.length = M at *
  refine enter [(0, _)] Try.func56 rfl Try.ntmps56 (Nat.le_of_ble_eq_true rfl) rfl ?_; intro a0 hN
  repeat' (first
    | (refine isT ?_; (first | (refine T_assign hN rfl (by first | exact .inr trivial | exact .inl rfl) ?_) | (refine T_move hN rfl (by first | exact .inr trivial | exact .inl rfl) ?_) | (refine T_nil ?_) | (refine is_call ?_; (first | (refine is_call ?_; obtain ⟨hP, hK⟩ := hT.call0m; refine T_call (f := 70) hN rfl (by decide) (cP _ hP) ?_; rintro e ww ⟨x1, c1, rfl, h1⟩; clear hT hP; replace hT := hK _ _ _ h1; clear hK h1; refine ⟨_, rfl, (by first | exact trivial | ((repeat' (first | exact hT.has 0 rfl | exact hT.has 1 rfl | exact hT.has 2 rfl | exact hT.has 3 rfl | exact hT.has 4 rfl | exact hT.has 5 rfl | exact hT.ord 0 rfl | exact hT.ord 1 rfl | exact hT.ord 2 rfl | exact hT.ord 3 rfl | exact hT.ord 4 rfl | exact hT.ord 5 rfl | exact hT.mrd (by assumption) | refine And.intro ?_ ?_)); done)), ?_⟩) | (refine is_call ?_; refine T_call (f := 71) hN rfl (by decide) (ref_First _) ?_; rintro e ww ⟨rfl, hf⟩; replace hT := hT.same hf; clear hf; refine ⟨_, rfl, (by first | exact trivial | ((repeat' (first | exact hT.has 0 rfl | exact hT.has 1 rfl | exact hT.has 2 rfl | exact hT.has 3 rfl | exact hT.has 4 rfl | exact hT.has 5 rfl | exact hT.ord 0 rfl | exact hT.ord 1 rfl | exact hT.ord 2 rfl | exact hT.ord 3 rfl | exact hT.ord 4 rfl | exact hT.ord 5 rfl | exact hT.mrd (by assumption) | refine And.intro ?_ ?_)); done)), ?_⟩) | (refine is_call ?_; refine T_call (f := 72) hN rfl (by decide) (ref_K _) ?_; rintro e ww ⟨rfl, hf⟩; replace hT := hT.same hf; clear hf; refine ⟨_, rfl, (by first | exact trivial | ((repeat' (first | exact hT.has 0 rfl | exact hT.has 1 rfl | exact hT.has 2 rfl | exact hT.has 3 rfl | exact hT.has 4 rfl | exact hT.has 5 rfl | exact hT.ord 0 rfl | exact hT.ord 1 rfl | exact hT.ord 2 rfl | exact hT.ord 3 rfl | exact hT.ord 4 rfl | exact hT.ord 5 rfl | exact hT.mrd (by assumption) | refine And.intro ?_ ?_)); done)), ?_⟩))) | (refine is_store ?_; (first | (refine T_storeAll hN hT 0 (us := w32s shK) rfl rfl rfl (by rw [shK_len]; rfl) rfl (w32s_one _) (by decide) ?_; clear hT; intro ww hT; refine ⟨trivial, ?_⟩) | (refine T_storeAll hN hT 0 (us := sh0.cells) rfl rfl rfl (by rfl) rfl (by rfl) (by decide) ?_; clear hT; intro ww hT; refine ⟨trivial, ?_⟩))) | (refine is_alloc ?_; (first | (refine T_alloc (d := 2) hN hT (by decide) ?_; clear hT; intro g2 ww hT; refine ⟨trivial, ?_⟩) | (refine T_alloc (d := 4) hN hT (by decide) ?_; clear hT; intro g4 ww hT; refine ⟨trivial, ?_⟩) | (refine T_alloc (d := 5) hN hT (by decide) ?_; clear hT; intro g5 ww hT; refine ⟨trivial, ?_⟩)))))
    | (refine isC ?_; (first | (refine C_cutQ (id := 4) (X := Unit) 51 (fun _ => [(2, .pointer (some ⟨g2, 0, none⟩)), (4, .pointer (some ⟨g4, 0, none⟩))]) (fun _ w1 => Tk [] w w1 [Ob.blk g5 139 (w32s shK), Ob.blk g4 137 (sh0.blks M (M.length / 64)).cells, Ob.own 5 1 (.slice x1 M.length c1) M.length (u8s M), Ob.blk g2 24 z32] m) ?_ ?_) | (refine C_seq ?_) | (refine C_rgnk (id := 0) hN [(0, _)] ⟨rfl, trivial⟩ ?_; clear hN; intro a0 hN) | (refine C_rgnk (id := 1) hN [(0, _), (2, _)] ⟨rfl, rfl, trivial⟩ ?_; clear hN; intro a0 hN) | (refine C_rgnk (id := 2) hN [(0, _), (2, _), (3, _)] ⟨rfl, rfl, rfl, trivial⟩ ?_; clear hN; intro a0 hN) | (refine C_rgnk (id := 3) hN [(0, _), (2, _), (3, _), (4, _)] ⟨rfl, rfl, rfl, rfl, trivial⟩ ?_; clear hN; intro a0 hN) | (refine C_rgnk (id := 4) hN [(0, _), (2, _), (3, _), (4, _), (5, _)] ⟨rfl, rfl, rfl, rfl, rfl, trivial⟩ ?_; clear hN; intro a0 hN) | (refine C_block ?_)))
    | (refine isE ?_; (first | (refine E_thn ?_))))
  rotate_left
  · exact fun _ a0 ww hN hT => sumB _ r hsh hsl M x1 c1 g2 g4 g5 w ww hT a0 hN
  all_goals
    have hcc := own_cap (hT.owns 2 rfl)
    have hxn := own_nil (hT.owns 2 rfl)
    have hT1 : Tk [] w ww [Ob.blk g5 139 (w32s shK), Ob.blk g4 137 (sh0.blks M 0).cells, Ob.own 5 1 (.slice x1 M.length c1) M.length (u8s M), Ob.blk g2 24 z32] m := by
      rw [S8.blks_zero]; exact hT
    clear hT
    refine C_loop hN (X := Nat) (fun i => [(2, .pointer (some ⟨g2, 0, none⟩)), (3, .slice x1 M.length c1), (4, .pointer (some ⟨g4, 0, none⟩)), (5, .pointer (some ⟨g5, 0, none⟩)), (6, .int .i64 (64 * (i : Int)))])
      (fun i w1 => 64 * i ≤ M.length ∧ Tk [] w w1 [Ob.blk g5 139 (w32s shK), Ob.blk g4 137 (sh0.blks M i).cells, Ob.own 5 1 (.slice x1 M.length c1) M.length (u8s M), Ob.blk g2 24 z32] m) (fun i => M.length - 64 * i) 0 ⟨rfl, rfl, rfl, rfl, evI rfl (by omega), trivial⟩ ⟨by omega, hT1⟩ ?_
    clear hN hT1
    rintro i a0 ww hN ⟨hi, hT⟩
    by_cases hi0 : M.length - 64 * i = 0
    · have hi1 : i = M.length / 64 := by omega
      subst hi1
      repeat' (first
        | (refine isT ?_; (first | (refine T_move hN rfl (by first | exact .inr trivial | exact .inl rfl) ?_) | (refine T_nil ?_) | (refine is_binOp ?_; (first | (refine T_lss hN rfl rfl (by first | exact .inr trivial | exact .inl rfl) ?_))) | (refine is_call ?_; (first | (refine T_len hN rfl (by first | exact .inr trivial | exact .inl rfl) ?_)))))
        | (refine isC ?_; (first | (refine C_seq ?_) | (refine C_rgn ?_) | (refine C_if hN rfl (fun hb => ?_) (fun hb => ?_) <;> ((first | (exfalso; omega) | (exfalso; exact hb rfl) | (exfalso; exact hb (fun h => h rfl)) | ((with_reducible refine absurd ?_ hb); (repeat' (first | exact trivial | refine And.intro rfl ?_)); done) | (replace hb := Classical.not_not.1 hb) | skip))) | (refine C_exit ?_)))
        | (refine isE ?_; (first | (refine E_thn ?_) | (refine E_thn_exit ?_) | (refine E_blk_hit ?_) | (refine E_lp_exit ?_))))
      all_goals exact E_mk hN () ⟨rfl, rfl, trivial⟩ hT
    · have hB1 : sh0.blks M (i + 1) = (sh0.blks M i).mix ((M.drop (64 * i)).take 64) := by
        rw [S8.blks_succ]
        refine S8.mix_take _ fun k hk => ?_
        unfold gb
        rw [List.getD_eq_getElem?_getD, List.getD_eq_getElem?_getD, List.getElem?_take, if_pos hk]
      have hul : ((M.drop (64 * i)).take 64).length = 64 := by rw [List.length_take, List.length_drop]; omega
      have hu : u8s ((M.drop (64 * i)).take 64) = ((u8s M).drop (64 * i * 1)).take (64 * 1) := by unfold u8s; simp only [List.map_take, List.map_drop, Nat.mul_one]
      generalize sh0.blks M i = G at *
      repeat' (first
        | (refine isT ?_; (first | (refine T_assign hN rfl (by first | exact .inr trivial | exact .inl rfl) ?_) | (refine T_move hN rfl (by first | exact .inr trivial | exact .inl rfl) ?_) | (refine T_nil ?_) | (refine T_nild ?_) | (refine is_load ?_; (first | (refine T_loadn (t := 139) hN rfl (hT.has 0 rfl) (us := w32s shK) shK_all shK_len (by first | exact .inl rfl | exact .inr ⟨by decide, trivial⟩) ?_) | (refine T_loadn (t := 137) hN rfl (hT.has 1 rfl) (us := G.cells) G.cells_all (by rfl) (by first | exact .inl rfl | exact .inr ⟨by decide, trivial⟩) ?_))) | (refine is_binOp ?_; (first | (refine T_addi64 hN rfl rfl (by omega) (by first | exact .inr trivial | exact .inl rfl) ?_) | (refine T_lss hN rfl rfl (by first | exact .inr trivial | exact .inl rfl) ?_))) | (refine is_call ?_; (first | ((refine is_call ?_; obtain ⟨hP, hK⟩ := hT.call0 [Ob.rd (lo x1 1 c1 (64 * i)) (64 * i + 64 - 64 * i) 1 (u8s ((M.drop (64 * i)).take 64))] (fun o' ho => by rw [List.mem_singleton] at ho; subst ho; rw [hu]; exact ⟨Ob.own 5 1 (.slice x1 M.length c1) M.length (u8s M), List.mem_append_left _ (List.mem_of_getElem? (i := 2) rfl), (Ent.own_rd _ _ _ _ _ _).trans ((Ent.lo _ _ _ _ _ _ (by omega) hcc).trans (by rw [show 64 * i + 64 - 64 * i = 64 by omega]; exact Ent.hi _ _ _ _ _ (by omega)))⟩); refine T_call (f := 73) hN rfl (by decide) (ref_Block G (lo x1 1 c1 (64 * i)) (64 * i + 64 - 64 * i) (c1 - 64 * i) ((M.drop (64 * i)).take 64) (by omega) (by omega) _ hP) ?_; rintro e ww ⟨rfl, h1⟩; clear hT hP; replace hT := hK _ _ _ h1; clear hK h1; refine ⟨_, rfl, (by first | exact trivial | ((repeat' (first | exact hT.has 0 rfl | exact hT.has 1 rfl | exact hT.has 2 rfl | exact hT.has 3 rfl | exact hT.has 4 rfl | exact hT.has 5 rfl | exact hT.ord 0 rfl | exact hT.ord 1 rfl | exact hT.ord 2 rfl | exact hT.ord 3 rfl | exact hT.ord 4 rfl | exact hT.ord 5 rfl | exact hT.mrd (by assumption) | refine And.intro ?_ ?_)); done)), ?_⟩)) | (refine T_len hN rfl (by first | exact .inr trivial | exact .inl rfl) ?_))) | (refine is_store ?_; (first | (refine T_storen hN hT 1 rfl rfl rfl rfl rfl rfl (by decide) ?_; clear hT; intro ww hT; refine ⟨(by first | exact trivial), ?_⟩))) | (refine is_slice ?_; (first | (refine T_slcAB (j := 64 * i) (k := 64 * i + 64) hN rfl (evI rfl (by omega)) (evI rfl (by omega)) (by omega) (by omega) (by first | exact .inr trivial | exact .inl rfl) ?_)))))
        | (refine isC ?_; (first | (refine C_seq ?_) | (refine C_rgn ?_) | (refine C_if hN rfl (fun hb => ?_) (fun hb => ?_) <;> ((first | (exfalso; omega) | (exfalso; exact hb rfl) | (exfalso; exact hb (fun h => h rfl)) | ((with_reducible refine absurd ?_ hb); (repeat' (first | exact trivial | refine And.intro rfl ?_)); done) | (replace hb := Classical.not_not.1 hb) | skip))) | (refine C_skip ?_) | (refine C_block ?_) | (refine C_draw (id := 7) [1, 0, 0, 0, 0, 0, 1] Any Try.mixed (by kernel_rfl) trivial ?_; replace hT := hT.drew)))
        | (refine isE ?_; (first | (refine E_thn ?_) | (refine E_blk ?_))))
      all_goals first
        | exact E_mk hN (i + 1) ⟨rfl, rfl, rfl, rfl, evI rfl (by omega), trivial⟩ ⟨⟨by omega, by rw [hB1]; exact hT⟩, by omega⟩
        | fail "V"
end Go.Proofs.Ytemhcflaldeakaa
