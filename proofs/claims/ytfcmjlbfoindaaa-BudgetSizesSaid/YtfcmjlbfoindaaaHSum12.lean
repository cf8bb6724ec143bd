/- THE WALK of a sum's end. -/
import Derived.Test.YtfcmjlbfoindaaaHash12
namespace Go.Fp
open Go Go.RowKit
def S8.ws (G : S8) : List UInt32 := [G.a, G.b, G.c, G.d, G.e, G.f, G.g, G.z]
def wbs (l : List UInt32) : List UInt8 := l.flatMap fun x => be 4 x.toNat
theorem wbs_len (l : List UInt32) : (wbs l).length = 4 * l.length := by
  induction l with
  | nil => rfl
  | cons a l ih => unfold wbs at ih ⊢; rw [List.flatMap_cons, List.length_append, ih, be_length, List.length_cons]; omega
theorem S8.bytes_ws (G : S8) : wbs G.ws = G.bytes := by simp [wbs, S8.ws, S8.bytes]
theorem S8.cell_get (G : S8) {i : Nat} (h : i < 8) : G.cells[i]? = some (w32 (gw G.ws i)) := by
  have e : G.cells = w32s G.ws := rfl
  rw [e]
  unfold w32s
  rw [List.getElem?_map, gw_get (by exact h)]; rfl
/-- A digest's cells behind so many words. -/
def dcells (G : S8) (i : Nat) : List Value := u8s (wbs (G.ws.take i) ++ List.replicate (32 - 4 * i) 0)
theorem dcells_len (G : S8) {i : Nat} (h : i ≤ 8) : (dcells G i).length = 32 := by
  unfold dcells
  rw [u8s_length, List.length_append, wbs_len, List.length_take, List.length_replicate]
  show 4 * min i 8 + (32 - 4 * i) = 32
  omega
theorem dcells_zero (G : S8) : dcells G 0 = List.replicate 32 (.int .u8 0) := by simp [dcells, wbs, u8s, u8]
theorem dcells_all (G : S8) : dcells G 8 = u8s G.bytes := by
  unfold dcells
  rw [← S8.bytes_ws]
  simp [S8.ws]
theorem u8s_set (l : List UInt8) (j : Nat) (b : UInt8) : (u8s l).set j (u8 b) = u8s (l.set j b) := by unfold u8s; rw [List.map_set]
theorem set_app {α : Type} (A R : List α) (j k : Nat) (b : α) (h : j = A.length + k) : (A ++ R).set j b = A ++ R.set k b := by
  subst h; rw [List.set_append, if_neg (by omega), Nat.add_sub_cancel_left]
theorem dcells_step (G : S8) {i : Nat} (h : i < 8) :
    ((((dcells G i).set (0 + 4 * i * 1) (u8 (gw G.ws i >>> UInt32.ofNat 24).toUInt8)).set (0 + (4 * i + 1) * 1) (u8 (gw G.ws i >>> UInt32.ofNat 16).toUInt8)).set (0 + (4 * i + 2) * 1) (u8 (gw G.ws i >>> UInt32.ofNat 8).toUInt8)).set (0 + (4 * i + 3) * 1) (u8 (gw G.ws i).toUInt8) = dcells G (i + 1) := by
  unfold dcells
  have hl : (wbs (G.ws.take i)).length = 4 * i := by rw [wbs_len, List.length_take]; show 4 * min i 8 = _; omega
  have ht : wbs (G.ws.take (i + 1)) = wbs (G.ws.take i) ++ be 4 (gw G.ws i).toNat := by
    rw [List.take_add_one, gw_get (by exact h)]
    unfold wbs
    rw [List.flatMap_append]; simp
  rw [u8s_set, u8s_set, u8s_set, u8s_set, show 32 - 4 * i = (32 - 4 * (i + 1)) + 1 + 1 + 1 + 1 by omega, List.replicate_succ, List.replicate_succ, List.replicate_succ, List.replicate_succ]
  rw [set_app _ _ _ 0 _ (by omega), set_app _ _ _ 1 _ (by omega), set_app _ _ _ 2 _ (by omega), set_app _ _ _ 3 _ (by omega), ht, be4, List.append_assoc]
  rfl
end Go.Fp
namespace Go.Proofs.Ytfcmjlbfoindaaa
open Go.RowKit Go.Fp
attribute [local irreducible] Go.Calls
set_option maxRecDepth 100000
set_option maxHeartbeats 16000000
attribute [local irreducible] S8.mix sh0 S8.blks
def pz (p : List UInt8) (j : Nat) : List UInt8 := shR p ++ 0x80 :: List.replicate j 0
theorem pz_succ (p : List UInt8) (j : Nat) : pz p (j + 1) = pz p j ++ [0] := by unfold pz; rw [List.replicate_succ']; simp
theorem pz_pad (p : List UInt8) : pz p (padN p.length) ++ be 8 (p.length * 8) = shR p ++ padT p.length := by unfold pz padT; simp
theorem pz_len (p : List UInt8) (j : Nat) : (pz p j).length = p.length % 64 + 1 + j := by unfold pz; rw [List.length_append, shR_len]; simp; omega
def z32 : List Value := List.replicate 32 (.int .u8 0)
theorem sha_Sum (q : Nat) (p : List UInt8) (hn : p.length ≤ 2000000) (f : List Nat) (w : World) {m : List Ob} (hT : Tk f w w [Hs q p] m) :
    Calls Try.prog 90 #[.pointer (some ⟨q, 0, none⟩)] w fun e w' => e = .returned (.agg (u8s (shaP p)).toArray) ∧ Tk f w w' [Hs q p] m := by
  have hl := shR_len p
  have hrest := sha_rest p
  have hpp := pz_pad p
  have hpl := padT_len p.length
  have hz : padN p.length = (119 - p.length % 64) % 64 := rfl
  obtain ⟨x, c, hT⟩ := HK.open hT
  generalize hH : sh0.blks p (p.length / 64) = H at *
  generalize padN p.length = z at *
  refine enter [(0, _)] Try.func90 rfl Try.ntmps90 (Nat.le_of_ble_eq_true rfl) rfl ?_; intro a0 hN
  repeat' (first
    | (refine isT ?_; (first | (refine T_assign hN rfl (by first | exact .inr trivial | exact .inl rfl) ?_) | (refine T_fieldAddr hN rfl (by first | exact .inr trivial | exact .inl rfl) ?_) | (refine T_move hN rfl (by first | exact .inr trivial | exact .inl rfl) ?_) | (refine T_nilCheck hN rfl (by first | exact .inr trivial | exact .inl rfl) ?_) | (refine T_nil ?_) | (refine is_load ?_; (first | (refine T_load hN rfl (hT.has 3 rfl) rfl (by first | exact .inl rfl | exact .inr ⟨by decide, trivial⟩) ?_))) | (refine is_binOp ?_; (first | (refine T_eqlnil hN rfl rfl (by first | exact .inr trivial | exact .inl rfl) ?_))) | (refine is_call ?_; (first | (refine T_append hN hT 0 (by rfl) (by rfl) rfl rfl rfl (own_nil (hT.owns 4 rfl)) (hT.ord 4 rfl) (u8s_all1 _) (by unfold maxLen; omega) (by omega) (by decide) ?_; clear hT; intro x1 c1 ww hT; refine ⟨trivial, ?_⟩) | (refine T_append hN hT 1 (by rfl) (by rfl) rfl rfl rfl (fun h => by cases h) (blk_rdz (sz := 1) (hT.has 0 rfl) rfl rfl) (all1_sing rfl) (by unfold maxLen; omega) (by omega) (by decide) ?_; clear hT; intro x2 c2 ww hT; refine ⟨trivial, ?_⟩))) | (refine is_alloc ?_; (first | (refine T_alloc (d := 2) hN hT (by decide) ?_; clear hT; intro g2 ww hT; refine ⟨trivial, ?_⟩) | (refine T_alloc (d := 3) hN hT (by decide) ?_; clear hT; intro g3 ww hT; refine ⟨trivial, ?_⟩))) | (refine is_buildSlice ?_; (first | (refine T_slice0 hN hT (by decide) ?_; clear hT; intro g ww hT; refine ⟨(by first | exact trivial), ?_⟩) | (refine T_slice1 hN hT rfl rfl (by decide) ?_; clear hT; intro g ww hT; refine ⟨(by first | exact trivial), ?_⟩)))))
    | (refine isC ?_; (first | (refine C_seq ?_) | (refine C_rgnk (id := 0) hN [(0, _)] ⟨rfl, trivial⟩ ?_; clear hN; intro a0 hN) | (refine C_rgnk (id := 1) hN [(0, _), (2, _)] ⟨rfl, rfl, trivial⟩ ?_; clear hN; intro a0 hN) | (refine C_rgnk (id := 2) hN [(0, _), (2, _), (3, _)] ⟨rfl, rfl, rfl, trivial⟩ ?_; clear hN; intro a0 hN) | (refine C_rgnk (id := 4) hN [(0, _), (2, _), (3, _), (10, _)] ⟨rfl, rfl, rfl, rfl, trivial⟩ ?_; clear hN; intro a0 hN) | (refine C_false hN rfl ?_) | (refine C_skip ?_) | (refine C_block ?_)))
    | (refine isE ?_; (first | (refine E_thn ?_))))
  all_goals
    have hT1 : Tk f w ww [Ob.own 5 1 (.slice x2 (pz p 0).length c2) (pz p 0).length (u8s (pz p 0)), Ob.blk g3 140 z32, Ob.blk g2 140 z32, Ob.blk q 191 (hcells H x (shR p).length c p.length (p.length / 64)), Ob.own 5 1 (.slice x (shR p).length c) (shR p).length (u8s (shR p))] m := by
      have e1 : (pz p 0).length = 0 + (shR p).length + 1 := by rw [pz_len]; omega
      have e2 : u8s (pz p 0) = [] ++ u8s (shR p) ++ List.take (1 * 1) (List.drop 0 [Value.int IntKind.u8 128]) := by unfold pz; rw [u8s_append]; rfl
      rw [e1, e2]
      exact hT.drop
    clear hT
    refine C_loop hN (X := Nat × Option Addr × Nat) (fun t => [(0, .pointer (some ⟨q, 0, none⟩)), (2, .pointer (some ⟨g2, 0, none⟩)), (3, .pointer (some ⟨g3, 0, none⟩)), (4, .slice t.2.1 (pz p t.1).length t.2.2)])
      (fun t w1 => t.1 ≤ z ∧ Tk f w w1 [Ob.own 5 1 (.slice t.2.1 (pz p t.1).length t.2.2) (pz p t.1).length (u8s (pz p t.1)), Ob.blk g3 140 z32, Ob.blk g2 140 z32, Ob.blk q 191 (hcells H x (shR p).length c p.length (p.length / 64)), Ob.own 5 1 (.slice x (shR p).length c) (shR p).length (u8s (shR p))] m) (fun t => z - t.1) (0, x2, c2) ⟨rfl, rfl, rfl, evV rfl (by rw [pz_len]; dsimp only; congr 1; omega), trivial⟩ ⟨Nat.zero_le _, hT1⟩ ?_
    clear hN hT1
    rintro ⟨j, x1, c1⟩ a0 ww hN ⟨hj, hT⟩
    dsimp only at hj hT ⊢
    have hpj := pz_len p j
    by_cases hj0 : j = z
    · subst hj0
      generalize pz p j = B0 at *
      repeat' (first
        | (refine isT ?_; (first | (refine T_assign hN rfl (by first | exact .inr trivial | exact .inl rfl) ?_) | (refine T_move hN rfl (by first | exact .inr trivial | exact .inl rfl) ?_) | (refine T_nil ?_) | (refine is_binOp ?_; (first | (refine T_neq hN rfl rfl (by first | exact .inr trivial | exact .inl rfl) ?_) | (refine T_rem (r := ?_) hN rfl rfl (by omega) ?_ (by first | exact .inr trivial | exact .inl rfl) ?_; rotate_left; (focus (first | (refine Go.IntWalk.rem_in _ _ ?_; omega) | exact rfl))))) | (refine is_call ?_; (first | (refine T_len hN rfl (by first | exact .inr trivial | exact .inl rfl) ?_)))))
        | (refine isC ?_; (first | (refine C_seq ?_) | (refine C_rgn ?_) | (refine C_if hN rfl (fun hb => ?_) (fun hb => ?_) <;> ((first | (exfalso; omega) | (exfalso; exact hb rfl) | (exfalso; exact hb (fun h => h rfl)) | ((with_reducible refine absurd ?_ hb); (repeat' (first | exact trivial | refine And.intro rfl ?_)); done) | (replace hb := Classical.not_not.1 hb) | skip))) | (refine C_block ?_) | (refine C_exit ?_)))
        | (refine isE ?_; (first | (refine E_thn ?_) | (refine E_thn_exit ?_) | (refine E_blk_hit ?_) | (refine E_lp_exit ?_))))
      all_goals
        have hT1 : Tk f w ww [Ob.own 5 1 (.slice x1 (B0 ++ (be 8 (p.length * 8)).take (8 - 8)).length c1) (B0 ++ (be 8 (p.length * 8)).take (8 - 8)).length (u8s (B0 ++ (be 8 (p.length * 8)).take (8 - 8))), Ob.blk g3 140 z32, Ob.blk g2 140 z32, Ob.blk q 191 (hcells H x (shR p).length c p.length (p.length / 64)), Ob.own 5 1 (.slice x (shR p).length c) (shR p).length (u8s (shR p))] m := by
          rw [Nat.sub_self, List.take_zero, List.append_nil]; exact hT
        clear hT
        refine C_loop hN (X := Nat × Option Addr × Nat) (fun t => [(0, .pointer (some ⟨q, 0, none⟩)), (2, .pointer (some ⟨g2, 0, none⟩)), (3, .pointer (some ⟨g3, 0, none⟩)), (4, .slice t.2.1 (B0 ++ (be 8 (p.length * 8)).take (8 - t.1)).length t.2.2), (5, .int .i64 (8 * (t.1 : Int) - 8))])
          (fun t w1 => t.1 ≤ 8 ∧ Tk f w w1 [Ob.own 5 1 (.slice t.2.1 (B0 ++ (be 8 (p.length * 8)).take (8 - t.1)).length t.2.2) (B0 ++ (be 8 (p.length * 8)).take (8 - t.1)).length (u8s (B0 ++ (be 8 (p.length * 8)).take (8 - t.1))), Ob.blk g3 140 z32, Ob.blk g2 140 z32, Ob.blk q 191 (hcells H x (shR p).length c p.length (p.length / 64)), Ob.own 5 1 (.slice x (shR p).length c) (shR p).length (u8s (shR p))] m) (fun t => t.1) (8, x1, c1) ⟨rfl, rfl, rfl, evV rfl (by simp), evI rfl (by dsimp only; omega), trivial⟩ ⟨by dsimp only; omega, hT1⟩ ?_
        clear hN hT1 hj
        rintro ⟨i, x1, c1⟩ a0 ww hN ⟨hi, hT⟩
        dsimp only at hi hT ⊢
        have hbl : (B0 ++ (be 8 (p.length * 8)).take (8 - i)).length = B0.length + (8 - i) := by rw [List.length_append, List.length_take, be_length]; omega
        by_cases hi0 : i = 0
        · subst hi0
          have hM : B0 ++ (be 8 (p.length * 8)).take (8 - 0) = shR p ++ padT p.length := by rw [← hpp, Nat.sub_zero, List.take_of_length_le (by rw [be_length]; omega)]
          rw [hM] at hT ⊢
          clear hpp hM hbl
          repeat' (first
            | (refine isT ?_; (first | (refine T_fieldAddr hN rfl (by first | exact .inr trivial | exact .inl rfl) ?_) | (refine T_move hN rfl (by first | exact .inr trivial | exact .inl rfl) ?_) | (refine T_nilCheck hN rfl (by first | exact .inr trivial | exact .inl rfl) ?_) | (refine T_nil ?_) | (refine is_load ?_; (first | (refine T_loadn (t := 189) (us := [_, _, _, _, _, _, _, _]) hN rfl (hT.has 3 rfl) rfl rfl (by first | exact .inl rfl | exact .inr ⟨by decide, trivial⟩) ?_))) | (refine is_binOp ?_; (first | (refine T_geq hN rfl rfl (by first | exact .inr trivial | exact .inl rfl) ?_))) | (refine is_store ?_; (first | (refine T_storen hN hT 0 rfl rfl rfl rfl rfl rfl (by decide) ?_; clear hT; intro ww hT; refine ⟨(by first | exact trivial), ?_⟩))) | (refine is_alloc ?_; (first | (refine T_alloc (d := 6) hN hT (by decide) ?_; clear hT; intro g6 ww hT; refine ⟨trivial, ?_⟩)))))
            | (refine isC ?_; (first | (refine C_seq ?_) | (refine C_rgn ?_) | (refine C_if hN rfl (fun hb => ?_) (fun hb => ?_) <;> ((first | (exfalso; omega) | (exfalso; exact hb rfl) | (exfalso; exact hb (fun h => h rfl)) | ((with_reducible refine absurd ?_ hb); (repeat' (first | exact trivial | refine And.intro rfl ?_)); done) | (replace hb := Classical.not_not.1 hb) | skip))) | (refine C_block ?_) | (refine C_exit ?_)))
            | (refine isE ?_; (first | (refine E_thn ?_) | (refine E_thn_exit ?_) | (refine E_blk_hit ?_) | (refine E_lp_exit ?_))))
          all_goals
            have hM64 : (shR p ++ padT p.length).length % 64 = 0 := by rw [List.length_append]; omega
            have hMl : (shR p ++ padT p.length).length ≤ 1000 := by rw [List.length_append]; omega
            generalize shR p ++ padT p.length = M at *
            have hcc := own_cap (hT.owns 1 rfl)
            have hT1 : Tk f w ww [Ob.blk g6 189 (H.blks M 0).cells, Ob.own 5 1 (.slice x1 M.length c1) M.length (u8s M), Ob.blk g3 140 z32, Ob.blk g2 140 z32, Ob.blk q 191 (hcells H x (shR p).length c p.length (p.length / 64)), Ob.own 5 1 (.slice x (shR p).length c) (shR p).length (u8s (shR p))] m := by
              rw [S8.blks_zero]; exact hT
            clear hT
            refine C_loop hN (X := Nat × Option Addr × Nat) (fun t => [(0, .pointer (some ⟨q, 0, none⟩)), (2, .pointer (some ⟨g2, 0, none⟩)), (3, .pointer (some ⟨g3, 0, none⟩)), (4, .slice t.2.1 (M.drop (64 * t.1)).length t.2.2), (6, .pointer (some ⟨g6, 0, none⟩))])
              (fun t w1 => (64 * t.1 ≤ M.length ∧ (M.drop (64 * t.1)).length ≤ t.2.2) ∧ Ob.Ent (Ob.own 5 1 (.slice x1 M.length c1) M.length (u8s M)) (Ob.rd t.2.1 (M.drop (64 * t.1)).length 1 (u8s (M.drop (64 * t.1)))) ∧ Tk f w w1 [Ob.blk g6 189 (H.blks M t.1).cells, Ob.own 5 1 (.slice x1 M.length c1) M.length (u8s M), Ob.blk g3 140 z32, Ob.blk g2 140 z32, Ob.blk q 191 (hcells H x (shR p).length c p.length (p.length / 64)), Ob.own 5 1 (.slice x (shR p).length c) (shR p).length (u8s (shR p))] m) (fun t => M.length - 64 * t.1) (0, x1, c1) ⟨rfl, rfl, rfl, rfl, rfl, trivial⟩ ⟨⟨Nat.zero_le _, hcc⟩, Ent.own_rd _ _ _ _ _ _, hT1⟩ ?_
            clear hN hT1
            rintro ⟨i, y, d⟩ a0 ww hN ⟨⟨hi, hd⟩, hE, hT⟩
            dsimp only at hi hd hE hT ⊢
            have hdl : (M.drop (64 * i)).length = M.length - 64 * i := List.length_drop ..
            by_cases hi0 : M.length - 64 * i = 0
            · have hi1 : i = M.length / 64 := by omega
              subst hi1
              generalize H.blks M (M.length / 64) = G at *
              repeat' (first
                | (refine isT ?_; (first | (refine T_move hN rfl (by first | exact .inr trivial | exact .inl rfl) ?_) | (refine T_nil ?_) | (refine is_load ?_; (first | (refine T_loadn (t := 189) (us := [_, _, _, _, _, _, _, _]) hN rfl (hT.has 0 rfl) rfl rfl (by first | exact .inl rfl | exact .inr ⟨by decide, trivial⟩) ?_))) | (refine is_binOp ?_; (first | (refine T_gtr hN rfl rfl (by first | exact .inr trivial | exact .inl rfl) ?_))) | (refine is_call ?_; (first | (refine T_len hN rfl (by first | exact .inr trivial | exact .inl rfl) ?_)))))
                | (refine isC ?_; (first | (refine C_seq ?_) | (refine C_rgn ?_) | (refine C_if hN rfl (fun hb => ?_) (fun hb => ?_) <;> ((first | (exfalso; omega) | (exfalso; exact hb rfl) | (exfalso; exact hb (fun h => h rfl)) | ((with_reducible refine absurd ?_ hb); (repeat' (first | exact trivial | refine And.intro rfl ?_)); done) | (replace hb := Classical.not_not.1 hb) | skip))) | (refine C_block ?_) | (refine C_exit ?_)))
                | (refine isE ?_; (first | (refine E_thn ?_) | (refine E_thn_exit ?_) | (refine E_blk_hit ?_) | (refine E_lp_exit ?_))))
              all_goals
                have hT1 : Tk f w ww [Ob.blk g3 140 (dcells G 0), Ob.blk g2 140 z32, Ob.blk q 191 (hcells H x (shR p).length c p.length (p.length / 64)), Ob.own 5 1 (.slice x (shR p).length c) (shR p).length (u8s (shR p))] m := by
                  rw [dcells_zero]; exact hT.drop.drop
                clear hT
                refine C_loop hN (X := Nat) (fun i => [(2, .pointer (some ⟨g2, 0, none⟩)), (3, .pointer (some ⟨g3, 0, none⟩)), (54, .agg G.cells.toArray), (55, .int .i64 i)])
                  (fun i w1 => i ≤ 8 ∧ Tk f w w1 [Ob.blk g3 140 (dcells G i), Ob.blk g2 140 z32, Ob.blk q 191 (hcells H x (shR p).length c p.length (p.length / 64)), Ob.own 5 1 (.slice x (shR p).length c) (shR p).length (u8s (shR p))] m) (fun i => 8 - i) 0 ⟨rfl, rfl, rfl, rfl, trivial⟩ ⟨Nat.zero_le _, hT1⟩ ?_
                clear hN hT1
                rintro i a0 ww hN ⟨hi, hT⟩
                by_cases hi0 : i = 8
                · subst hi0
                  rw [dcells_all, hrest] at hT
                  have hsl := shaP_len p
                  generalize shaP p = r at *
                  repeat' (first
                    | (refine isT ?_; (first | (refine T_nil ?_) | (refine is_load ?_; (first | (refine T_loadn hN rfl (hT.has 0 rfl) (us := u8s r) (by rw [List.drop_zero, List.take_of_length_le (by rw [u8s_length, hsl]; exact Nat.le_refl _)]) (by rw [u8s_length, hsl]) (by first | exact .inl rfl | exact .inr ⟨by decide, trivial⟩) ?_))) | (refine is_binOp ?_; (first | (refine T_lss hN rfl rfl (by first | exact .inr trivial | exact .inl rfl) ?_))) | (refine is_store ?_; (first | (refine T_storeAll hN hT 1 (us := u8s r) rfl rfl rfl (by rw [u8s_length, hsl]; rfl) rfl (List.all_eq_true.2 (u8s_all1 r)) (by decide) ?_; clear hT; intro ww hT; refine ⟨trivial, ?_⟩)))))
                    | (refine isC ?_; (first | (refine C_seq ?_) | (refine C_rgn ?_) | (refine C_if hN rfl (fun hb => ?_) (fun hb => ?_) <;> ((first | (exfalso; omega) | (exfalso; exact hb rfl) | (exfalso; exact hb (fun h => h rfl)) | ((with_reducible refine absurd ?_ hb); (repeat' (first | exact trivial | refine And.intro rfl ?_)); done) | (replace hb := Classical.not_not.1 hb) | skip))) | (refine C_ret ?_) | (refine C_exit ?_)))
                    | (refine isE ?_; (first | (refine E_ret hN Try.results90 (.cell rfl (run_loadAll (hT.has 1 rfl) (us := u8s r) (by rw [List.drop_zero, List.take_of_length_le (by rw [u8s_length, hsl]; exact Nat.le_refl _)]) (by rw [u8s_length, hsl])) .nil) ?_) | (refine E_thn ?_) | (refine E_thn_exit ?_) | (refine E_blk_hit ?_) | (refine E_lp_exit ?_))))
                  all_goals exact ⟨rfl, by subst hH; exact HK.shut hT.drop.drop⟩
                · have hds := dcells_step G (i := i) (by omega)
                  have hdl := dcells_len G hi
                  repeat' (first
                    | (refine isT ?_; (first | (refine T_assign hN rfl (by first | exact .inr trivial | exact .inl rfl) ?_) | (refine T_move hN rfl (by first | exact .inr trivial | exact .inl rfl) ?_) | (refine T_nil ?_) | (refine is_binOp ?_; (first | (refine T_shr32 24 hN rfl rfl rfl (by decide) (by first | exact .inr trivial | exact .inl rfl) ?_) | (refine T_shr32 16 hN rfl rfl rfl (by decide) (by first | exact .inr trivial | exact .inl rfl) ?_) | (refine T_shr32 8 hN rfl rfl rfl (by decide) (by first | exact .inr trivial | exact .inl rfl) ?_) | (refine T_addi64 hN rfl rfl (by omega) (by first | exact .inr trivial | exact .inl rfl) ?_) | (refine T_lss hN rfl rfl (by first | exact .inr trivial | exact .inl rfl) ?_) | (refine T_muli64 hN rfl rfl (by omega) (by first | exact .inr trivial | exact .inl rfl) ?_))) | (refine is_store ?_; (first | (refine T_store hN hT 0 rfl rfl rfl (List.getElem?_eq_getElem (by simp only [List.length_set, hdl]; omega)) rfl (by decide) ?_; clear hT; intro ww hT; refine ⟨trivial, ?_⟩))) | (refine is_index ?_; (first | (refine T_index1 hN rfl rfl (by omega) (G.cell_get (by omega)) (by first | exact .inr trivial | exact .inl rfl) ?_))) | (refine is_convert ?_; (first | (refine T_conv328 hN rfl (by first | exact .inr trivial | exact .inl rfl) ?_))) | (refine is_indexAddr ?_; (first | (refine T_indexAddrA (j := 4 * i) hN rfl (evI rfl (by omega)) (by omega) (by first | exact .inr trivial | exact .inl rfl) ?_) | (refine T_indexAddrA (j := 4 * i + 1) hN rfl (evI rfl (by omega)) (by omega) (by first | exact .inr trivial | exact .inl rfl) ?_) | (refine T_indexAddrA (j := 4 * i + 2) hN rfl (evI rfl (by omega)) (by omega) (by first | exact .inr trivial | exact .inl rfl) ?_) | (refine T_indexAddrA (j := 4 * i + 3) hN rfl (evI rfl (by omega)) (by omega) (by first | exact .inr trivial | exact .inl rfl) ?_)))))
                    | (refine isC ?_; (first | (refine C_seq ?_) | (refine C_rgn ?_) | (refine C_if hN rfl (fun hb => ?_) (fun hb => ?_) <;> ((first | (exfalso; omega) | (exfalso; exact hb rfl) | (exfalso; exact hb (fun h => h rfl)) | ((with_reducible refine absurd ?_ hb); (repeat' (first | exact trivial | refine And.intro rfl ?_)); done) | (replace hb := Classical.not_not.1 hb) | skip))) | (refine C_skip ?_) | (refine C_block ?_)))
                    | (refine isE ?_; (first | (refine E_thn ?_) | (refine E_blk ?_))))
                  all_goals exact E_mk hN (i + 1) ⟨rfl, rfl, rfl, evI rfl (by omega), trivial⟩ ⟨⟨by omega, by rw [← hds]; exact hT⟩, by omega⟩
            · have hB1 : H.blks M (i + 1) = (H.blks M i).mix (M.drop (64 * i)) := S8.blks_succ _ _ _
              have hR1 : M.drop (64 * (i + 1)) = (M.drop (64 * i)).drop 64 := by rw [List.drop_drop]; congr 1
              have hl1 : (M.drop (64 * (i + 1))).length = (M.drop (64 * i)).length - 64 := by rw [hR1, List.length_drop]
              generalize hR : M.drop (64 * i) = R at *
              generalize H.blks M i = G at *
              repeat' (first
                | (refine isT ?_; (first | (refine T_slcLoP (j := 64) hN rfl rfl (by omega) hd (by first | exact .inr trivial | exact .inl rfl) ?_) | (refine T_assign hN rfl (by first | exact .inr trivial | exact .inl rfl) ?_) | (refine T_move hN rfl (by first | exact .inr trivial | exact .inl rfl) ?_) | (refine T_nil ?_) | (refine is_load ?_; (first | (refine T_loadn (t := 189) (us := [_, _, _, _, _, _, _, _]) hN rfl (hT.has 0 rfl) rfl rfl (by first | exact .inl rfl | exact .inr ⟨by decide, trivial⟩) ?_))) | (refine is_binOp ?_; (first | (refine T_gtr hN rfl rfl (by first | exact .inr trivial | exact .inl rfl) ?_))) | (refine is_call ?_; (first | ((refine is_call ?_; obtain ⟨hP, hK⟩ := hT.call0 [Ob.rd y R.length 1 (u8s R)] (fun o' ho => by rw [List.mem_singleton] at ho; subst ho; exact ⟨_, List.mem_append_left _ (List.mem_cons_of_mem _ (List.mem_cons_self ..)), hE⟩); refine T_call (f := 103) hN rfl (by decide) (sha_mix G y d R (by omega) _ hP) ?_; rintro e ww ⟨rfl, h1⟩; clear hT hP; replace hT := hK _ _ _ h1; clear hK h1; refine ⟨_, rfl, (by first | exact trivial | ((repeat' (first | exact hT.has 0 rfl | exact hT.has 1 rfl | exact hT.has 2 rfl | exact hT.has 3 rfl | exact hT.has 4 rfl | exact hT.has 5 rfl | exact hT.ord 0 rfl | exact hT.ord 1 rfl | exact hT.ord 2 rfl | exact hT.ord 3 rfl | exact hT.ord 4 rfl | exact hT.ord 5 rfl | exact hT.mrd (by assumption) | refine And.intro ?_ ?_)); done)), ?_⟩)) | (refine T_len hN rfl (by first | exact .inr trivial | exact .inl rfl) ?_))) | (refine is_store ?_; (first | (refine T_storen hN hT 0 rfl rfl rfl rfl rfl rfl (by decide) ?_; clear hT; intro ww hT; refine ⟨(by first | exact trivial), ?_⟩)))))
                | (refine isC ?_; (first | (refine C_seq ?_) | (refine C_rgn ?_) | (refine C_if hN rfl (fun hb => ?_) (fun hb => ?_) <;> ((first | (exfalso; omega) | (exfalso; exact hb rfl) | (exfalso; exact hb (fun h => h rfl)) | ((with_reducible refine absurd ?_ hb); (repeat' (first | exact trivial | refine And.intro rfl ?_)); done) | (replace hb := Classical.not_not.1 hb) | skip))) | (refine C_skip ?_) | (refine C_block ?_)))
                | (refine isE ?_; (first | (refine E_thn ?_) | (refine E_blk ?_))))
              all_goals
                have hE2 := Ob.Ent.trans hE (Ent.lo y R.length d 1 64 (u8s R) (by omega) hd)
                refine E_mk hN (i + 1, _, _) ⟨rfl, rfl, rfl, evV rfl (by dsimp only; rw [hl1]), rfl, trivial⟩ ⟨⟨by dsimp only; omega, ?_, ?_⟩, by dsimp only; omega⟩
                · dsimp only
                  rw [hl1, hR1, show u8s (List.drop 64 R) = List.drop (64 * 1) (u8s R) by unfold u8s; rw [List.map_drop]]
                  exact hE2
                · dsimp only; rw [hB1]; exact hT
        · have hmul : IntKind.u64.wrap ((p.length : Int) * 8) = ((p.length * 8 : Nat) : Int) := by rw [Go.IntWalk.u64_in _ (by omega)]; omega
          have hq := shr_byte2 (n := p.length * 8) (k := i - 1) (z := 8 * (i : Int) - 8) (by omega) (by omega)
          have hB := wrap_byte (p.length * 8 / 256 ^ (i - 1))
          have hnx := be_take 8 (p.length * 8) i (by omega) hi
          generalize (be 8 (p.length * 8)).take (8 - i) = B1 at *
          repeat' (first
            | (refine isT ?_; (first | (refine T_assign hN rfl (by first | exact .inr trivial | exact .inl rfl) ?_) | (refine T_fieldAddr hN rfl (by first | exact .inr trivial | exact .inl rfl) ?_) | (refine T_move hN rfl (by first | exact .inr trivial | exact .inl rfl) ?_) | (refine T_nilCheck hN rfl (by first | exact .inr trivial | exact .inl rfl) ?_) | (refine T_nil ?_) | (refine is_load ?_; (first | (refine T_load hN rfl (hT.has 3 rfl) rfl (by first | exact .inl rfl | exact .inr ⟨by decide, trivial⟩) ?_))) | (refine is_binOp ?_; (first | (refine T_mul hN rfl rfl hmul (by first | exact .inr trivial | exact .inl rfl) ?_) | (refine T_shr hN rfl rfl (by omega) hq (by first | exact .inr trivial | exact .inl rfl) ?_) | (refine T_geq hN rfl rfl (by first | exact .inr trivial | exact .inl rfl) ?_) | (refine T_subi64 hN rfl rfl (by omega) (by first | exact .inr trivial | exact .inl rfl) ?_))) | (refine is_call ?_; (first | (refine T_append hN hT 1 (by rfl) (by rfl) rfl rfl rfl (fun h => by cases h) (blk_rdz (sz := 1) (hT.has 0 rfl) rfl rfl) (all1_sing rfl) (by unfold maxLen; omega) (by omega) (by decide) ?_; clear hT; intro x2 c2 ww hT; refine ⟨trivial, ?_⟩))) | (refine is_convert ?_; (first | (refine T_conv hN rfl hB (by first | exact .inr trivial | exact .inl rfl) ?_))) | (refine is_buildSlice ?_; (first | (refine T_slice1 hN hT rfl rfl (by decide) ?_; clear hT; intro g ww hT; refine ⟨(by first | exact trivial), ?_⟩)))))
            | (refine isC ?_; (first | (refine C_seq ?_) | (refine C_rgn ?_) | (refine C_if hN rfl (fun hb => ?_) (fun hb => ?_) <;> ((first | (exfalso; omega) | (exfalso; exact hb rfl) | (exfalso; exact hb (fun h => h rfl)) | ((with_reducible refine absurd ?_ hb); (repeat' (first | exact trivial | refine And.intro rfl ?_)); done) | (replace hb := Classical.not_not.1 hb) | skip))) | (refine C_skip ?_) | (refine C_block ?_)))
            | (refine isE ?_; (first | (refine E_thn ?_) | (refine E_blk ?_))))
          all_goals
            refine E_mk hN (i - 1, x2, c2) ⟨rfl, rfl, rfl, evV rfl (by dsimp only; rw [hnx, ← List.append_assoc, List.length_append (bs := [_])]; rfl), evI rfl (by omega), trivial⟩ ⟨⟨by dsimp only; omega, ?_⟩, by dsimp only; omega⟩
            dsimp only
            rw [hnx, ← List.append_assoc, List.length_append (bs := [_]), u8s_append (B0 ++ B1)]
            exact hT.drop
    · have hps := pz_succ p j
      generalize pz p j = B0 at *
      repeat' (first
        | (refine isT ?_; (first | (refine T_assign hN rfl (by first | exact .inr trivial | exact .inl rfl) ?_) | (refine T_move hN rfl (by first | exact .inr trivial | exact .inl rfl) ?_) | (refine T_nil ?_) | (refine is_binOp ?_; (first | (refine T_neq hN rfl rfl (by first | exact .inr trivial | exact .inl rfl) ?_) | (refine T_rem (r := ?_) hN rfl rfl (by omega) ?_ (by first | exact .inr trivial | exact .inl rfl) ?_; rotate_left; (focus (first | (refine Go.IntWalk.rem_in _ _ ?_; omega) | exact rfl))))) | (refine is_call ?_; (first | (refine T_append hN hT 1 (by rfl) (by rfl) rfl rfl rfl (fun h => by cases h) (blk_rdz (sz := 1) (hT.has 0 rfl) rfl rfl) (all1_sing rfl) (by unfold maxLen; omega) (by omega) (by decide) ?_; clear hT; intro x2 c2 ww hT; refine ⟨trivial, ?_⟩) | (refine T_len hN rfl (by first | exact .inr trivial | exact .inl rfl) ?_))) | (refine is_buildSlice ?_; (first | (refine T_slice1 hN hT rfl rfl (by decide) ?_; clear hT; intro g ww hT; refine ⟨(by first | exact trivial), ?_⟩)))))
        | (refine isC ?_; (first | (refine C_seq ?_) | (refine C_rgn ?_) | (refine C_if hN rfl (fun hb => ?_) (fun hb => ?_) <;> ((first | (exfalso; omega) | (exfalso; exact hb rfl) | (exfalso; exact hb (fun h => h rfl)) | ((with_reducible refine absurd ?_ hb); (repeat' (first | exact trivial | refine And.intro rfl ?_)); done) | (replace hb := Classical.not_not.1 hb) | skip))) | (refine C_skip ?_) | (refine C_block ?_)))
        | (refine isE ?_; (first | (refine E_thn ?_) | (refine E_blk ?_))))
      all_goals
        refine E_mk hN (j + 1, x2, c2) ⟨rfl, rfl, rfl, evV rfl (by dsimp only; rw [hps, List.length_append]; rfl), trivial⟩ ⟨⟨by dsimp only; omega, ?_⟩, by dsimp only; omega⟩
        dsimp only
        rw [hps, List.length_append, u8s_append]
        exact hT.drop
end Go.Proofs.Ytfcmjlbfoindaaa
