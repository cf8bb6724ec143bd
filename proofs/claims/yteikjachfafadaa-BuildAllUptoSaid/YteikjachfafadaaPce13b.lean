/- THE WALKS: the document's Split; where there are no pieces. -/
import Derived.Test.YteikjachfafadaaPce13
namespace Go.Proofs.Yteikjachfafadaa
open Go.RowKit Go.Fp
attribute [local irreducible] Go.Calls
set_option maxRecDepth 100000
set_option maxHeartbeats 4000000
theorem manyP_eq {n sz : Nat} (hs : 1 ≤ sz) : ((¬ n % sz = 0 ∨ n / sz = 0) → manyP n sz = n / sz + 1) ∧ ((n % sz = 0 ∧ ¬ n / sz = 0) → manyP n sz = n / sz) := by
  have hd := Nat.div_add_mod n sz
  have hr := Nat.mod_lt n hs
  have e1 : n % sz = 0 → (n + sz - 1) / sz = n / sz := fun h => by
    apply Nat.div_eq_of_lt_le
    · rw [Nat.mul_comm]; omega
    · rw [Nat.add_mul, Nat.mul_comm, Nat.one_mul]; omega
  have e2 : ¬ n % sz = 0 → (n + sz - 1) / sz = n / sz + 1 := fun h => by
    apply Nat.div_eq_of_lt_le
    · rw [Nat.add_mul, Nat.mul_comm, Nat.one_mul]; omega
    · rw [Nat.add_mul, Nat.add_mul, Nat.mul_comm, Nat.one_mul]; omega
  have e3 : n % sz = 0 ∨ ¬ n % sz = 0 := Decidable.em _
  unfold manyP
  clear hd hr hs
  generalize (n + sz - 1) / sz = X at *
  generalize n / sz = D at *
  generalize n % sz = E at *
  constructor
  · intro h
    rcases e3 with h0 | h0
    · have := e1 h0; omega
    · have := e2 h0; omega
  · rintro ⟨h0, h1⟩
    have := e1 h0; omega
theorem manyP_gt {n sz : Nat} (hs : 1 ≤ sz) (h : sz * 32 < n) : 32 < manyP n sz := by
  unfold manyP
  have : 33 ≤ (n + sz - 1) / sz := by rw [Nat.le_div_iff_mul_le hs]; omega
  omega
theorem rpc_Split (id : Nat) (x : Option Addr) (c : Nat) (bs : List UInt8) (sz : Nat) (hs : 1 ≤ sz ∧ sz ≤ 4096) (hb : bs.length ≤ 16384) (hl : bs.length ≤ sz * 32) (w : World) {m : List Ob} (hT : Tk [] w w [] (Ob.rd x bs.length 1 (u8s bs) :: m)) :
    Calls Try.prog 21 #[.int .u32 id, .slice x bs.length c, .int .i64 sz] w fun e w' => ∃ (x' : Option Addr) (c' : Nat) (ps : List Pr), e = .returned (.tuple #[.slice x' (manyP bs.length sz) c', .int .i64 0]) ∧ ps.length = manyP bs.length sz ∧ ps.map Pr.p = splitP id bs sz (manyP bs.length sz) ∧
      Tk [] w w' [Ob.own 77 4 (.slice x' (manyP bs.length sz) c') (manyP bs.length sz) (ps.map Pr.cells).flatten, Ob.all (ps.map Pr.ob)] (Ob.rd x bs.length 1 (u8s bs) :: m) := by
  obtain ⟨hM1, hM2⟩ := manyP_le hs.1 hl
  obtain ⟨hM3, hM4⟩ := manyP_eq (n := bs.length) hs.1
  have hq : ((bs.length : Int).tdiv (sz : Int)) = ((bs.length / sz : Nat) : Int) := rfl
  have hr : ((bs.length : Int).tmod (sz : Int)) = ((bs.length % sz : Nat) : Int) := rfl
  have hD0 := Nat.div_le_self bs.length sz
  generalize hm0 : manyP bs.length sz = M at *
  generalize bs.length / sz = D at *
  generalize bs.length % sz = E at *
  have hD : IntKind.i64.wrap (D : Int) = D := Go.IntWalk.i64_in _ (by omega)
  refine enter [(0, _), (1, _), (2, _)] Try.func21 rfl Try.ntmps21 (Nat.le_of_ble_eq_true rfl) rfl ?_; intro a0 hN
  repeat' (first
    | (refine isT ?_; (first | (refine isGuard ?_; (first | (refine T_yes hN rfl rfl rfl ?_) | (refine T_no hN rfl rfl rfl rfl ?_) | (refine T_guardD hN rfl rfl rfl (fun hb => ?_) (fun hb => ?_) <;> ((first | (exfalso; omega) | (exfalso; exact hb rfl) | (exfalso; exact hb (fun h => h rfl)) | ((with_reducible refine absurd ?_ hb); (repeat' (first | exact trivial | refine And.intro rfl ?_)); done) | (replace hb := Classical.not_not.1 hb) | skip))))) | (refine T_assign hN rfl (by first | exact .inr trivial | exact .inl rfl) ?_) | (refine T_move hN rfl (by first | exact .inr trivial | exact .inl rfl) ?_) | (refine T_nil ?_) | (refine is_binOp ?_; (first | (refine T_quo hN rfl rfl (by omega) ((congrArg _ hq).trans hD) (by first | exact .inr trivial | exact .inl rfl) ?_) | (refine T_rem hN rfl rfl (by omega) hr (by first | exact .inr trivial | exact .inl rfl) ?_) | (refine T_addi64 hN rfl rfl (by omega) (by first | exact .inr trivial | exact .inl rfl) ?_) | (refine T_eql hN rfl rfl (by first | exact .inr trivial | exact .inl rfl) ?_) | (refine T_gtr hN rfl rfl (by first | exact .inr trivial | exact .inl rfl) ?_) | (refine T_lss hN rfl rfl (by first | exact .inr trivial | exact .inl rfl) ?_) | (refine T_neq hN rfl rfl (by first | exact .inr trivial | exact .inl rfl) ?_))) | (refine is_pick ?_; (first | (refine T_pick1 hN rfl rfl (by first | exact .inr trivial | exact .inl rfl) ?_) | (refine T_pick0 hN rfl rfl (by first | exact .inr trivial | exact .inl rfl) ?_))) | (refine is_call ?_; (first | (refine T_len hN rfl (by first | exact .inr trivial | exact .inl rfl) ?_)))))
    | (refine isC ?_; (first | (refine C_seq ?_) | (refine C_rgnk (id := 0) hN [(0, _), (1, _), (2, _)] ⟨rfl, rfl, rfl, trivial⟩ ?_; clear hN; intro a0 hN) | (refine C_rgnk (id := 1) hN [(0, _), (1, _), (2, _), (6, _), (7, _)] ⟨rfl, rfl, rfl, rfl, rfl, trivial⟩ ?_; clear hN; intro a0 hN) | (refine C_rgnk (id := 3) hN [(0, _), (1, _), (2, _), (6, _), (7, _), (23, _)] ⟨rfl, rfl, rfl, rfl, rfl, rfl, trivial⟩ ?_; clear hN; intro a0 hN) | (refine C_rgnk (id := 4) hN [(0, _), (1, _), (2, _), (6, _), (7, _), (8, _), (23, _)] ⟨rfl, rfl, rfl, rfl, rfl, rfl, rfl, trivial⟩ ?_; clear hN; intro a0 hN) | (refine C_rgnk (id := 5) hN [(0, _), (1, _), (2, _), (6, _), (7, _), (8, _), (23, _), (36, _)] ⟨rfl, rfl, rfl, rfl, rfl, rfl, rfl, rfl, trivial⟩ ?_; clear hN; intro a0 hN) | (refine C_rgnk (id := 6) hN [(0, _), (1, _), (2, _), (6, _), (7, _), (8, _), (23, _), (36, _)] ⟨rfl, rfl, rfl, rfl, rfl, rfl, rfl, rfl, trivial⟩ ?_; clear hN; intro a0 hN) | (refine C_rgnk (id := 8) hN [(0, _), (1, _), (2, _), (6, _), (7, _), (8, _), (23, _), (36, _), (40, _)] ⟨rfl, rfl, rfl, rfl, rfl, rfl, rfl, rfl, rfl, trivial⟩ ?_; clear hN; intro a0 hN) | (refine C_rgnk (id := 9) hN [(0, _), (1, _), (2, _), (6, _), (7, _), (8, _), (9, _), (23, _), (36, _), (40, _)] ⟨rfl, rfl, rfl, rfl, rfl, rfl, rfl, rfl, rfl, rfl, trivial⟩ ?_; clear hN; intro a0 hN) | (refine C_true hN rfl ?_) | (refine C_if hN rfl (fun hb => ?_) (fun hb => ?_) <;> ((first | (exfalso; omega) | (exfalso; exact hb rfl) | (exfalso; exact hb (fun h => h rfl)) | ((with_reducible refine absurd ?_ hb); (repeat' (first | exact trivial | refine And.intro rfl ?_)); done) | (replace hb := Classical.not_not.1 hb) | skip))) | (refine C_skip ?_) | (refine C_block ?_)))
    | (refine isE ?_; (first | (refine E_thn ?_))))
  all_goals
    refine C_loop hN (X := Nat × List Pr × Option Addr × Nat) (fun y => [(0, .int .u32 id), (1, .slice x bs.length c), (2, .int .i64 sz), (8, .int .i64 M), (9, .slice y.2.2.1 y.1 y.2.2.2), (10, .int .i64 y.1)])
      (fun y w1 => y.1 ≤ M ∧ y.2.1.length = y.1 ∧ y.2.1.map Pr.p = splitP id bs sz y.1 ∧ Tk [] w w1 [Ob.own 77 4 (.slice y.2.2.1 y.1 y.2.2.2) y.1 (y.2.1.map Pr.cells).flatten, Ob.all (y.2.1.map Pr.ob)] (Ob.rd x bs.length 1 (u8s bs) :: m)) (fun y => M - y.1) (0, [], none, 0) ⟨rfl, rfl, rfl, evI rfl (by omega), rfl, rfl, trivial⟩ ⟨Nat.zero_le _, rfl, rfl, (hT.nilAll).addnil 77 4⟩ ?_
    clear hN hT
    rintro ⟨j, ps, x9, c9⟩ a0 ww hN ⟨hj, hpl, hpe, hT⟩
    dsimp only at hj hpl hpe hT ⊢
    by_cases hj0 : j = M
    · subst hj0
      repeat' (first
        | (refine isT ?_; (first | (refine T_assign hN rfl (by first | exact .inr trivial | exact .inl rfl) ?_) | (refine T_move hN rfl (by first | exact .inr trivial | exact .inl rfl) ?_) | (refine T_nil ?_) | (refine is_binOp ?_; (first | (refine T_lss hN rfl rfl (by first | exact .inr trivial | exact .inl rfl) ?_)))))
        | (refine isC ?_; (first | (refine C_seq ?_) | (refine C_rgn ?_) | (refine C_if hN rfl (fun hb => ?_) (fun hb => ?_) <;> ((first | (exfalso; omega) | (exfalso; exact hb rfl) | (exfalso; exact hb (fun h => h rfl)) | ((with_reducible refine absurd ?_ hb); (repeat' (first | exact trivial | refine And.intro rfl ?_)); done) | (replace hb := Classical.not_not.1 hb) | skip))) | (refine C_ret ?_) | (refine C_exit ?_)))
        | (refine isE ?_; (first | (refine E_thn ?_) | (refine E_thn_exit ?_) | (refine E_blk_hit ?_) | (refine E_lp_exit ?_) | (refine E_ret hN Try.results21 (.tmp rfl (.tmp rfl .nil)) ?_))))
      all_goals exact ⟨x9, c9, ps, rfl, hpl, hpe, hT⟩
    · have hA1 : j * sz ≤ 131072 := by have := Nat.mul_le_mul (show j ≤ 32 by omega) hs.2; omega
      have hA : IntKind.i64.wrap ((j : Int) * (sz : Int)) = ((j * sz : Nat) : Int) := by rw [← Int.natCast_mul]; exact Go.IntWalk.i64_in _ (by omega)
      have hps : splitP id bs sz (j + 1) = splitP id bs sz j ++ [⟨id, (j : Nat), (M : Nat), cutP bs sz j⟩] := by rw [splitP_succ, hm0]
      have hcut : cutP bs sz j = (bs.drop (j * sz)).take sz := rfl
      have hcl : (cutP bs sz j).length = min sz (bs.length - j * sz) := by rw [hcut, List.length_take, List.length_drop]
      generalize j * sz = A at *
      generalize cutP bs sz j = cut at *
      repeat' (first
        | (refine isT ?_; (first | (refine T_assign hN rfl (by first | exact .inr trivial | exact .inl rfl) ?_) | (refine T_move hN rfl (by first | exact .inr trivial | exact .inl rfl) ?_) | (refine T_nil ?_) | (refine is_binOp ?_; (first | (refine T_mul hN rfl rfl hA (by first | exact .inr trivial | exact .inl rfl) ?_) | (refine T_lss hN rfl rfl (by first | exact .inr trivial | exact .inl rfl) ?_)))))
        | (refine isC ?_; (first | (refine C_seq ?_) | (refine C_rgn ?_) | (refine C_if hN rfl (fun hb => ?_) (fun hb => ?_) <;> ((first | (exfalso; omega) | (exfalso; exact hb rfl) | (exfalso; exact hb (fun h => h rfl)) | ((with_reducible refine absurd ?_ hb); (repeat' (first | exact trivial | refine And.intro rfl ?_)); done) | (replace hb := Classical.not_not.1 hb) | skip))) | (refine C_skip ?_) | (refine C_block ?_)))
        | (refine isE ?_; (first | (refine E_thn ?_))))
      all_goals
        refine C_loop hN (X := Nat × Option Addr × Nat) (fun y => [(0, .int .u32 id), (1, .slice x bs.length c), (2, .int .i64 sz), (8, .int .i64 M), (9, .slice x9 j c9), (10, .int .i64 j), (11, .slice y.2.1 y.1 y.2.2), (12, .int .i64 ((A + y.1 : Nat) : Int))])
          (fun y w1 => y.1 ≤ cut.length ∧ Tk [] w w1 [Ob.own 5 1 (.slice y.2.1 y.1 y.2.2) y.1 (u8s (cut.take y.1)), Ob.own 77 4 (.slice x9 j c9) j (ps.map Pr.cells).flatten, Ob.all (ps.map Pr.ob)] (Ob.rd x bs.length 1 (u8s bs) :: m)) (fun y => cut.length - y.1) (0, none, 0) ⟨rfl, rfl, rfl, rfl, rfl, rfl, rfl, evI rfl (by omega), trivial⟩ ⟨Nat.zero_le _, hT.addnil 5 1⟩ ?_
        clear hN hT
        rintro ⟨i, x1, c1⟩ a0 ww hN ⟨hi, hT⟩
        dsimp only at hi hT ⊢
        by_cases hi0 : i = cut.length
        · rw [hi0, List.take_length] at hT
          repeat' (first
            | (refine isT ?_; (first | (refine isGuard ?_; (first | (refine T_yes hN rfl rfl rfl ?_) | (refine T_no hN rfl rfl rfl rfl ?_) | (refine T_guardD hN rfl rfl rfl (fun hb => ?_) (fun hb => ?_) <;> ((first | (exfalso; omega) | (exfalso; exact hb rfl) | (exfalso; exact hb (fun h => h rfl)) | ((with_reducible refine absurd ?_ hb); (repeat' (first | exact trivial | refine And.intro rfl ?_)); done) | (replace hb := Classical.not_not.1 hb) | skip))))) | (refine T_assign hN rfl (by first | exact .inr trivial | exact .inl rfl) ?_) | (refine T_move hN rfl (by first | exact .inr trivial | exact .inl rfl) ?_) | (refine T_nil ?_) | (refine is_binOp ?_; (first | (refine T_mul hN rfl rfl hA (by first | exact .inr trivial | exact .inl rfl) ?_) | (refine T_addi64 hN rfl rfl (by omega) (by first | exact .inr trivial | exact .inl rfl) ?_) | (refine T_lss hN rfl rfl (by first | exact .inr trivial | exact .inl rfl) ?_))) | (refine is_pick ?_; (first | (refine T_pick1 hN rfl rfl (by first | exact .inr trivial | exact .inl rfl) ?_) | (refine T_pick0 hN rfl rfl (by first | exact .inr trivial | exact .inl rfl) ?_))) | (refine is_call ?_; (first | (refine T_append hN hT 2 (by rfl) (by rfl) rfl rfl rfl (fun h => by cases h) (blk_rdz (sz := 4) (hT.has 0 rfl) rfl rfl) (pr_one _ _ _ _ _ _) (by unfold maxLen; omega) (by omega) (by decide) ?_; clear hT; intro x2 c2 ww hT; refine ⟨trivial, ?_⟩) | (refine T_len hN rfl (by first | exact .inr trivial | exact .inl rfl) ?_))) | (refine is_buildSlice ?_; (first | (refine T_slicen (n := 4) hN hT (us := [_, _, _, _]) (by rfl) (by rfl) (by rfl) (by rfl) rfl (by decide) ?_; clear hT; intro g ww hT; refine ⟨trivial, ?_⟩))) | (refine is_build ?_; (first | (refine T_build (t := 77) (us := [_, _, _, _]) hN rfl rfl (by first | exact .inr trivial | exact .inl rfl) ?_)))))
            | (refine isC ?_; (first | (refine C_seq ?_) | (refine C_rgn ?_) | (refine C_false hN rfl ?_) | (refine C_if hN rfl (fun hb => ?_) (fun hb => ?_) <;> ((first | (exfalso; omega) | (exfalso; exact hb rfl) | (exfalso; exact hb (fun h => h rfl)) | ((with_reducible refine absurd ?_ hb); (repeat' (first | exact trivial | refine And.intro rfl ?_)); done) | (replace hb := Classical.not_not.1 hb) | skip))) | (refine C_exit ?_)))
            | (refine isE ?_; (first | (refine E_thn ?_) | (refine E_blk ?_) | (refine E_thn_exit ?_) | (refine E_blk_hit ?_) | (refine E_lp_exit ?_))))
          all_goals
            have hT2 := hT.drop.swap.rot.snocAll.swap
            refine E_mk hN (j + 1, ps ++ [⟨⟨id, (j : Nat), (M : Nat), cut⟩, x1, c1⟩], x2, c2) ⟨rfl, rfl, rfl, rfl, rfl, evI rfl (by omega), trivial⟩ ⟨⟨by omega, by simp [hpl], ?_, ?_⟩, by omega⟩
            · dsimp only; rw [List.map_append, hpe, hps]; rfl
            · dsimp only; rw [List.map_append, List.map_append, List.flatten_append]; rw [hi0] at hT2; exact hT2
        · obtain ⟨B, off, rfl⟩ := (hT.rrd 0 rfl).addr (by omega)
          have hil : i < cut.length := by omega
          have hbl : A + i < bs.length := by omega
          have hgb : cut[i] = bs[A + i] := by simp [hcut]
          have hcell : ∀ w : World, Rdz w (some ⟨B, off, none⟩) bs.length 1 (u8s bs) → w.cell? ⟨B, off + ((A + i : Nat) : Int).toNat * 1, none⟩ = some (u8 bs[A + i]) := fun w h => by
            rw [Nat.mul_one, Int.toNat_natCast]
            exact h.cell rfl (by rw [u8s_get, List.getElem?_eq_getElem hbl]; rfl)
          have htk : cut.take (i + 1) = cut.take i ++ [bs[A + i]] := by rw [List.take_succ_eq_append_getElem hil, hgb]
          repeat' (first
            | (refine isT ?_; (first | (refine isGuard ?_; (first | (refine T_yes hN rfl rfl rfl ?_) | (refine T_guardD hN rfl rfl rfl (fun hb => ?_) (fun hb => ?_) <;> ((first | (exfalso; omega) | (exfalso; exact hb rfl) | (exfalso; exact hb (fun h => h rfl)) | ((with_reducible refine absurd ?_ hb); (repeat' (first | exact trivial | refine And.intro rfl ?_)); done) | (replace hb := Classical.not_not.1 hb) | skip))))) | (refine T_assign hN rfl (by first | exact .inr trivial | exact .inl rfl) ?_) | (refine T_move hN rfl (by first | exact .inr trivial | exact .inl rfl) ?_) | (refine T_nil ?_) | (refine is_load ?_; (first | (refine T_loadc hN rfl (hcell _ (hT.rrd 0 rfl)) (by first | exact .inl rfl | exact .inr ⟨by decide, trivial⟩) ?_))) | (refine is_binOp ?_; (first | (refine T_mul hN rfl rfl hA (by first | exact .inr trivial | exact .inl rfl) ?_) | (refine T_addi64 hN rfl rfl (by omega) (by first | exact .inr trivial | exact .inl rfl) ?_) | (refine T_lss hN rfl rfl (by first | exact .inr trivial | exact .inl rfl) ?_))) | (refine is_pick ?_; (first | (refine T_pick1 hN rfl rfl (by first | exact .inr trivial | exact .inl rfl) ?_))) | (refine is_call ?_; (first | (refine T_append hN hT 1 (by rfl) (by rfl) rfl rfl rfl (fun h => by cases h) (blk_rdz (sz := 1) (hT.has 0 rfl) rfl rfl) (u8s_all1 [_]) (by unfold maxLen; omega) (by omega) (by decide) ?_; clear hT; intro x2 c2 ww hT; refine ⟨trivial, ?_⟩) | (refine T_len hN rfl (by first | exact .inr trivial | exact .inl rfl) ?_))) | (refine is_indexAddr ?_; (first | (refine T_indexAddrz hN rfl rfl (by omega) (by first | exact .inr trivial | exact .inl rfl) ?_) | (refine T_indexAddrz hN rfl rfl (by omega) (by first | exact .inr trivial | exact .inl rfl) ?_))) | (refine is_buildSlice ?_; (first | (refine T_slice1 hN hT rfl rfl (by decide) ?_; clear hT; intro g ww hT; refine ⟨(by first | exact trivial), ?_⟩)))))
            | (refine isC ?_; (first | (refine C_seq ?_) | (refine C_rgn ?_) | (refine C_if hN rfl (fun hb => ?_) (fun hb => ?_) <;> ((first | (exfalso; omega) | (exfalso; exact hb rfl) | (exfalso; exact hb (fun h => h rfl)) | ((with_reducible refine absurd ?_ hb); (repeat' (first | exact trivial | refine And.intro rfl ?_)); done) | (replace hb := Classical.not_not.1 hb) | skip))) | (refine C_skip ?_) | (refine C_block ?_)))
            | (refine isE ?_; (first | (refine E_thn ?_) | (refine E_blk ?_))))
          all_goals exact E_mk hN (i + 1, x2, c2) ⟨rfl, rfl, rfl, rfl, rfl, rfl, rfl, evI rfl (by omega), trivial⟩ ⟨⟨by omega, by dsimp only; rw [htk, u8s_append]; exact hT.drop⟩, by omega⟩
/-- Why there are no pieces. -/
def splitE (n : Nat) (size : Int) : Int := if size < 1 ∨ 4096 < size ∨ 16384 < n then 1 else if size * 32 < n then 8 else 0
theorem pce_SplitE (id : Nat) (x : Option Addr) (c n : Nat) (size : Int) (h : ¬ splitE n size = 0) (w : World) :
    Calls Try.prog 19 #[.int .u32 id, .slice x n c, .int .i64 size] w fun e w' => e = .returned (.tuple #[.slice none 0 0, .int .i64 (splitE n size)]) ∧ Fr [] w w' := by
  have hT := Tk.start0 w
  unfold splitE at *
  by_cases h1 : size < 1 ∨ 4096 < size ∨ 16384 < n
  · rw [if_pos h1]
    refine enter [(0, _), (1, _), (2, _)] Try.func19 rfl Try.ntmps19 (Nat.le_of_ble_eq_true rfl) rfl ?_; intro a0 hN
    repeat' (first
      | (refine isT ?_; (first | (refine isGuard ?_; (first | (refine T_yes hN rfl rfl rfl ?_) | (refine T_no hN rfl rfl rfl rfl ?_) | (refine T_guardD hN rfl rfl rfl (fun hb => ?_) (fun hb => ?_) <;> ((first | (exfalso; omega) | (exfalso; exact hb rfl) | (exfalso; exact hb (fun h => h rfl)) | ((with_reducible refine absurd ?_ hb); (repeat' (first | exact trivial | refine And.intro rfl ?_)); done) | (replace hb := Classical.not_not.1 hb) | skip))))) | (refine T_assign hN rfl (by first | exact .inr trivial | exact .inl rfl) ?_) | (refine T_move hN rfl (by first | exact .inr trivial | exact .inl rfl) ?_) | (refine T_nil ?_) | (refine is_binOp ?_; (first | (refine T_gtr hN rfl rfl (by first | exact .inr trivial | exact .inl rfl) ?_) | (refine T_lss hN rfl rfl (by first | exact .inr trivial | exact .inl rfl) ?_))) | (refine is_pick ?_; (first | (refine T_pick1 hN rfl rfl (by first | exact .inr trivial | exact .inl rfl) ?_) | (refine T_pick0 hN rfl rfl (by first | exact .inr trivial | exact .inl rfl) ?_))) | (refine is_call ?_; (first | (refine T_len hN rfl (by first | exact .inr trivial | exact .inl rfl) ?_)))))
      | (refine isC ?_; (first | (refine C_seq ?_) | (refine C_rgnk (id := 0) hN [(0, _), (1, _), (2, _)] ⟨rfl, rfl, rfl, trivial⟩ ?_; clear hN; intro a0 hN) | (refine C_rgnk (id := 1) hN [(0, _), (1, _), (2, _), (6, _), (7, _)] ⟨rfl, rfl, rfl, rfl, rfl, trivial⟩ ?_; clear hN; intro a0 hN) | (refine C_rgnk (id := 2) hN [(0, _), (1, _), (2, _), (6, _), (7, _), (12, _)] ⟨rfl, rfl, rfl, rfl, rfl, rfl, trivial⟩ ?_; clear hN; intro a0 hN) | (refine C_true hN rfl ?_) | (refine C_if hN rfl (fun hb => ?_) (fun hb => ?_) <;> ((first | (exfalso; omega) | (exfalso; exact hb rfl) | (exfalso; exact hb (fun h => h rfl)) | ((with_reducible refine absurd ?_ hb); (repeat' (first | exact trivial | refine And.intro rfl ?_)); done) | (replace hb := Classical.not_not.1 hb) | skip))) | (refine C_ret ?_) | (refine C_block ?_)))
      | (refine isE ?_; (first | (refine E_thn ?_) | (refine E_thn_ret ?_) | (refine E_blk_ret ?_) | (refine E_ret hN Try.results19 (.tmp rfl (.tmp rfl .nil)) ?_))))
    all_goals first
      | exact ⟨rfl, hT.fr⟩
      | (exfalso; omega)
  · rw [if_neg h1] at *
    by_cases h2 : size * 32 < n
    · rw [if_pos h2]
      refine enter [(0, _), (1, _), (2, _)] Try.func19 rfl Try.ntmps19 (Nat.le_of_ble_eq_true rfl) rfl ?_; intro a0 hN
      repeat' (first
        | (refine isT ?_; (first | (refine isGuard ?_; (first | (refine T_yes hN rfl rfl rfl ?_) | (refine T_guardD hN rfl rfl rfl (fun hb => ?_) (fun hb => ?_) <;> ((first | (exfalso; omega) | (exfalso; exact hb rfl) | (exfalso; exact hb (fun h => h rfl)) | ((with_reducible refine absurd ?_ hb); (repeat' (first | exact trivial | refine And.intro rfl ?_)); done) | (replace hb := Classical.not_not.1 hb) | skip))))) | (refine T_assign hN rfl (by first | exact .inr trivial | exact .inl rfl) ?_) | (refine T_move hN rfl (by first | exact .inr trivial | exact .inl rfl) ?_) | (refine T_nil ?_) | (refine is_binOp ?_; (first | (refine T_gtr hN rfl rfl (by first | exact .inr trivial | exact .inl rfl) ?_) | (refine T_lss hN rfl rfl (by first | exact .inr trivial | exact .inl rfl) ?_) | (refine T_muli64 hN rfl rfl (by omega) (by first | exact .inr trivial | exact .inl rfl) ?_))) | (refine is_pick ?_; (first | (refine T_pick0 hN rfl rfl (by first | exact .inr trivial | exact .inl rfl) ?_))) | (refine is_call ?_; (first | (refine T_len hN rfl (by first | exact .inr trivial | exact .inl rfl) ?_)))))
        | (refine isC ?_; (first | (refine C_seq ?_) | (refine C_rgnk (id := 0) hN [(0, _), (1, _), (2, _)] ⟨rfl, rfl, rfl, trivial⟩ ?_; clear hN; intro a0 hN) | (refine C_rgnk (id := 1) hN [(0, _), (1, _), (2, _), (6, _), (7, _)] ⟨rfl, rfl, rfl, rfl, rfl, trivial⟩ ?_; clear hN; intro a0 hN) | (refine C_rgnk (id := 3) hN [(0, _), (1, _), (2, _), (6, _), (7, _), (12, _)] ⟨rfl, rfl, rfl, rfl, rfl, rfl, trivial⟩ ?_; clear hN; intro a0 hN) | (refine C_rgnk (id := 4) hN [(0, _), (1, _), (2, _), (6, _), (7, _), (12, _), (24, _)] ⟨rfl, rfl, rfl, rfl, rfl, rfl, rfl, trivial⟩ ?_; clear hN; intro a0 hN) | (refine C_if hN rfl (fun hb => ?_) (fun hb => ?_) <;> ((first | (exfalso; omega) | (exfalso; exact hb rfl) | (exfalso; exact hb (fun h => h rfl)) | ((with_reducible refine absurd ?_ hb); (repeat' (first | exact trivial | refine And.intro rfl ?_)); done) | (replace hb := Classical.not_not.1 hb) | skip))) | (refine C_ret ?_) | (refine C_block ?_)))
        | (refine isE ?_; (first | (refine E_thn ?_) | (refine E_thn_ret ?_) | (refine E_blk_ret ?_) | (refine E_ret hN Try.results19 (.tmp rfl (.tmp rfl .nil)) ?_))))
      all_goals first
        | exact ⟨rfl, hT.fr⟩
        | (exfalso; omega)
    · rw [if_neg h2] at h; exact absurd rfl h
theorem rpc_SplitE (id : Nat) (x : Option Addr) (c n : Nat) (size : Int) (h : ¬ splitE n size = 0) (w : World) :
    Calls Try.prog 21 #[.int .u32 id, .slice x n c, .int .i64 size] w fun e w' => e = .returned (.tuple #[.slice none 0 0, .int .i64 (splitE n size)]) ∧ Fr [] w w' := by
  have hT := Tk.start0 w
  unfold splitE at *
  by_cases h1 : size < 1 ∨ 4096 < size ∨ 16384 < n
  · rw [if_pos h1]
    refine enter [(0, _), (1, _), (2, _)] Try.func21 rfl Try.ntmps21 (Nat.le_of_ble_eq_true rfl) rfl ?_; intro a0 hN
    repeat' (first
      | (refine isT ?_; (first | (refine isGuard ?_; (first | (refine T_yes hN rfl rfl rfl ?_) | (refine T_no hN rfl rfl rfl rfl ?_) | (refine T_guardD hN rfl rfl rfl (fun hb => ?_) (fun hb => ?_) <;> ((first | (exfalso; omega) | (exfalso; exact hb rfl) | (exfalso; exact hb (fun h => h rfl)) | ((with_reducible refine absurd ?_ hb); (repeat' (first | exact trivial | refine And.intro rfl ?_)); done) | (replace hb := Classical.not_not.1 hb) | skip))))) | (refine T_assign hN rfl (by first | exact .inr trivial | exact .inl rfl) ?_) | (refine T_move hN rfl (by first | exact .inr trivial | exact .inl rfl) ?_) | (refine T_nil ?_) | (refine is_binOp ?_; (first | (refine T_gtr hN rfl rfl (by first | exact .inr trivial | exact .inl rfl) ?_) | (refine T_lss hN rfl rfl (by first | exact .inr trivial | exact .inl rfl) ?_))) | (refine is_pick ?_; (first | (refine T_pick1 hN rfl rfl (by first | exact .inr trivial | exact .inl rfl) ?_) | (refine T_pick0 hN rfl rfl (by first | exact .inr trivial | exact .inl rfl) ?_))) | (refine is_call ?_; (first | (refine T_len hN rfl (by first | exact .inr trivial | exact .inl rfl) ?_)))))
      | (refine isC ?_; (first | (refine C_seq ?_) | (refine C_rgnk (id := 0) hN [(0, _), (1, _), (2, _)] ⟨rfl, rfl, rfl, trivial⟩ ?_; clear hN; intro a0 hN) | (refine C_rgnk (id := 1) hN [(0, _), (1, _), (2, _), (6, _), (7, _)] ⟨rfl, rfl, rfl, rfl, rfl, trivial⟩ ?_; clear hN; intro a0 hN) | (refine C_rgnk (id := 2) hN [(0, _), (1, _), (2, _), (6, _), (7, _), (23, _)] ⟨rfl, rfl, rfl, rfl, rfl, rfl, trivial⟩ ?_; clear hN; intro a0 hN) | (refine C_true hN rfl ?_) | (refine C_if hN rfl (fun hb => ?_) (fun hb => ?_) <;> ((first | (exfalso; omega) | (exfalso; exact hb rfl) | (exfalso; exact hb (fun h => h rfl)) | ((with_reducible refine absurd ?_ hb); (repeat' (first | exact trivial | refine And.intro rfl ?_)); done) | (replace hb := Classical.not_not.1 hb) | skip))) | (refine C_ret ?_)))
      | (refine isE ?_; (first | (refine E_thn ?_) | (refine E_thn_ret ?_) | (refine E_ret hN Try.results21 (.tmp rfl (.tmp rfl .nil)) ?_))))
    all_goals first
      | exact ⟨rfl, hT.fr⟩
      | (exfalso; omega)
  · rw [if_neg h1] at *
    by_cases h2 : size * 32 < n
    · rw [if_pos h2]
      obtain ⟨sz, rfl⟩ : ∃ sz : Nat, size = sz := ⟨size.toNat, by omega⟩
      have hg := manyP_gt (n := n) (sz := sz) (by omega) (by omega)
      obtain ⟨hM3, hM4⟩ := manyP_eq (n := n) (sz := sz) (by omega)
      have hq : ((n : Int).tdiv (sz : Int)) = ((n / sz : Nat) : Int) := rfl
      have hr : ((n : Int).tmod (sz : Int)) = ((n % sz : Nat) : Int) := rfl
      have hD0 := Nat.div_le_self n sz
      generalize manyP n sz = M at *
      generalize n / sz = D at *
      generalize n % sz = E at *
      have hD : IntKind.i64.wrap (D : Int) = D := Go.IntWalk.i64_in _ (by omega)
      refine enter [(0, _), (1, _), (2, _)] Try.func21 rfl Try.ntmps21 (Nat.le_of_ble_eq_true rfl) rfl ?_; intro a0 hN
      repeat' (first
        | (refine isT ?_; (first | (refine isGuard ?_; (first | (refine T_yes hN rfl rfl rfl ?_) | (refine T_no hN rfl rfl rfl rfl ?_) | (refine T_guardD hN rfl rfl rfl (fun hb => ?_) (fun hb => ?_) <;> ((first | (exfalso; omega) | (exfalso; exact hb rfl) | (exfalso; exact hb (fun h => h rfl)) | ((with_reducible refine absurd ?_ hb); (repeat' (first | exact trivial | refine And.intro rfl ?_)); done) | (replace hb := Classical.not_not.1 hb) | skip))))) | (refine T_assign hN rfl (by first | exact .inr trivial | exact .inl rfl) ?_) | (refine T_move hN rfl (by first | exact .inr trivial | exact .inl rfl) ?_) | (refine T_nil ?_) | (refine is_binOp ?_; (first | (refine T_quo hN rfl rfl (by omega) ((congrArg _ hq).trans hD) (by first | exact .inr trivial | exact .inl rfl) ?_) | (refine T_rem hN rfl rfl (by omega) hr (by first | exact .inr trivial | exact .inl rfl) ?_) | (refine T_addi64 hN rfl rfl (by omega) (by first | exact .inr trivial | exact .inl rfl) ?_) | (refine T_eql hN rfl rfl (by first | exact .inr trivial | exact .inl rfl) ?_) | (refine T_gtr hN rfl rfl (by first | exact .inr trivial | exact .inl rfl) ?_) | (refine T_lss hN rfl rfl (by first | exact .inr trivial | exact .inl rfl) ?_) | (refine T_neq hN rfl rfl (by first | exact .inr trivial | exact .inl rfl) ?_))) | (refine is_pick ?_; (first | (refine T_pick1 hN rfl rfl (by first | exact .inr trivial | exact .inl rfl) ?_) | (refine T_pick0 hN rfl rfl (by first | exact .inr trivial | exact .inl rfl) ?_))) | (refine is_call ?_; (first | (refine T_len hN rfl (by first | exact .inr trivial | exact .inl rfl) ?_)))))
        | (refine isC ?_; (first | (refine C_seq ?_) | (refine C_rgnk (id := 0) hN [(0, _), (1, _), (2, _)] ⟨rfl, rfl, rfl, trivial⟩ ?_; clear hN; intro a0 hN) | (refine C_rgnk (id := 1) hN [(0, _), (1, _), (2, _), (6, _), (7, _)] ⟨rfl, rfl, rfl, rfl, rfl, trivial⟩ ?_; clear hN; intro a0 hN) | (refine C_rgnk (id := 3) hN [(0, _), (1, _), (2, _), (6, _), (7, _), (23, _)] ⟨rfl, rfl, rfl, rfl, rfl, rfl, trivial⟩ ?_; clear hN; intro a0 hN) | (refine C_rgnk (id := 4) hN [(0, _), (1, _), (2, _), (6, _), (7, _), (8, _), (23, _)] ⟨rfl, rfl, rfl, rfl, rfl, rfl, rfl, trivial⟩ ?_; clear hN; intro a0 hN) | (refine C_rgnk (id := 5) hN [(0, _), (1, _), (2, _), (6, _), (7, _), (8, _), (23, _), (36, _)] ⟨rfl, rfl, rfl, rfl, rfl, rfl, rfl, rfl, trivial⟩ ?_; clear hN; intro a0 hN) | (refine C_rgnk (id := 6) hN [(0, _), (1, _), (2, _), (6, _), (7, _), (8, _), (23, _), (36, _)] ⟨rfl, rfl, rfl, rfl, rfl, rfl, rfl, rfl, trivial⟩ ?_; clear hN; intro a0 hN) | (refine C_rgnk (id := 7) hN [(0, _), (1, _), (2, _), (6, _), (7, _), (8, _), (23, _), (36, _), (40, _)] ⟨rfl, rfl, rfl, rfl, rfl, rfl, rfl, rfl, rfl, trivial⟩ ?_; clear hN; intro a0 hN) | (refine C_true hN rfl ?_) | (refine C_if hN rfl (fun hb => ?_) (fun hb => ?_) <;> ((first | (exfalso; omega) | (exfalso; exact hb rfl) | (exfalso; exact hb (fun h => h rfl)) | ((with_reducible refine absurd ?_ hb); (repeat' (first | exact trivial | refine And.intro rfl ?_)); done) | (replace hb := Classical.not_not.1 hb) | skip))) | (refine C_skip ?_) | (refine C_ret ?_)))
        | (refine isE ?_; (first | (refine E_thn ?_) | (refine E_thn_ret ?_) | (refine E_ret hN Try.results21 (.tmp rfl (.tmp rfl .nil)) ?_))))
      all_goals first
        | exact ⟨rfl, hT.fr⟩
        | (exfalso; omega)
    · rw [if_neg h2] at h; exact absurd rfl h
end Go.Proofs.Yteikjachfafadaa
