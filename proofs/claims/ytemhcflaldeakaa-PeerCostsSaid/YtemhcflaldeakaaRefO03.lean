/- THE WALKS of the document's answer: what is laid. -/
import Derived.Test.YtemhcflaldeakaaOut03b
namespace Go.Proofs.Ytemhcflaldeakaa
open Go.RowKit Go.Fp
attribute [local irreducible] Go.Calls
set_option maxRecDepth 100000
set_option maxHeartbeats 2000000
def le (k n : Nat) : List UInt8 := (List.range k).map fun j => UInt8.ofNat (n / 256 ^ j)
theorem le_length (k n : Nat) : (le k n).length = k := by simp [le]
theorem le_succ (k n : Nat) : le (k + 1) n = le k n ++ [UInt8.ofNat (n / 256 ^ k)] := by simp [le, List.range_succ]
theorem le_get (k n j : Nat) (h : j < k) : (le k n)[j]? = some (UInt8.ofNat (n / 256 ^ j)) := by simp [le, h]
theorem ref_Num (x : Option Addr) (c : Nat) (o : List UInt8 × Bool) (n k : Nat) (hn : n < 18446744073709551616) (hk : k = 1 ∨ k = 2 ∨ k = 4 ∨ k = 8) (hlen : o.1.length ≤ 900000000) (f : List Nat) (w : World) {m : List Ob} (hT : Tk f w w [Ob.own 5 1 (.slice x o.1.length c) o.1.length (u8s o.1)] m) :
    Calls Try.prog 40 #[.agg #[.slice x o.1.length c, .bool o.2], .int .u64 n, .int .i64 k] w fun e w' => ∃ x' c', e = .returned (.agg #[.slice x' (numO k n o).1.length c', .bool (numO k n o).2]) ∧ Tk f w w' [Ob.own 5 1 (.slice x' (numO k n o).1.length c') (numO k n o).1.length (u8s (numO k n o).1)] m := by
  refine enter [(0, _), (1, _), (2, _)] Try.func40 rfl Try.ntmps40 (Nat.le_of_ble_eq_true rfl) rfl ?_; intro a0 hN
  repeat' (first
    | (refine isT ?_; (first | (refine T_assign hN rfl (by first | exact .inr trivial | exact .inl rfl) ?_) | (refine T_move hN rfl (by first | exact .inr trivial | exact .inl rfl) ?_) | (refine T_nil ?_) | (refine is_alloc ?_; (first | (refine T_alloc hN hT (by decide) ?_; clear hT; intro g ww hT; refine ⟨(by first | exact trivial), ?_⟩))) | (refine is_box ?_; (first | (refine T_box hN hT rfl (by decide) ?_; clear hT; intro g ww hT; refine ⟨(by first | exact trivial), ?_⟩)))))
    | (refine isC ?_; (first | (refine C_seq ?_) | (refine C_rgnk (id := 0) hN [(0, _), (1, _), (2, _)] ⟨rfl, rfl, rfl, trivial⟩ ?_; clear hN; intro a0 hN) | (refine C_rgnk (id := 1) hN [(0, _), (1, _), (2, _), (3, _), (6, _)] ⟨rfl, rfl, rfl, rfl, rfl, trivial⟩ ?_; clear hN; intro a0 hN) | (refine C_rgnk (id := 2) hN [(0, _), (1, _), (2, _), (3, _), (6, _), (7, _)] ⟨rfl, rfl, rfl, rfl, rfl, rfl, trivial⟩ ?_; clear hN; intro a0 hN) | (refine C_rgnk (id := 3) hN [(0, _), (1, _), (2, _), (3, _), (6, _), (7, _), (8, _)] ⟨rfl, rfl, rfl, rfl, rfl, rfl, rfl, trivial⟩ ?_; clear hN; intro a0 hN) | (refine C_block ?_)))
    | (refine isE ?_; (first | (refine E_thn ?_))))
  all_goals
    rename_i g1 _ _ _
    refine C_loop hN (X := Nat × Option Addr × Nat) (fun y => [(2, .int .i64 k), (3, .pointer (some ⟨g1, 0, none⟩)), (6, .pointer (some ⟨g, 0, none⟩)), (7, .slice y.2.1 y.1 y.2.2), (8, .int .u64 (n / 256 ^ y.1 : Nat)), (9, .int .i64 y.1)]) (fun y w1 => y.1 ≤ k ∧ Tk f w w1 [Ob.own 5 1 (.slice y.2.1 y.1 y.2.2) y.1 (u8s (le y.1 n)), Ob.blk g 102 [.slice none 0 0, .bool false], Ob.blk g1 102 [.slice x o.1.length c, .bool o.2], Ob.own 5 1 (.slice x o.1.length c) o.1.length (u8s o.1)] m) (fun y => k - y.1) (0, none, 0) ⟨rfl, rfl, rfl, rfl, evI rfl (by simp), rfl, trivial⟩ ⟨Nat.zero_le _, hT.addnil 5 1⟩ ?_
    clear hN hT
    rintro ⟨i, xl, cl⟩ a0 ww hN ⟨hi, hT⟩
    dsimp only at hi hT ⊢
    have hq : n / 256 ^ i < 18446744073709551616 := Nat.lt_of_le_of_lt (Nat.div_le_self _ _) hn
    by_cases hik : i < k
    · have hr : (((n / 256 ^ i : Nat) : Int).tmod 256) = ((n / 256 ^ i % 256 : Nat) : Int) := rfl
      have hB : IntKind.u8.wrap ((n / 256 ^ i % 256 : Nat) : Int) = ((UInt8.ofNat (n / 256 ^ i)).toNat : Int) := by
        rw [IntKind.wrap_u8]; simp
      have hd : IntKind.u64.wrap (((n / 256 ^ i : Nat) : Int).tdiv 256) = ((n / 256 ^ (i + 1) : Nat) : Int) := by
        rw [show (((n / 256 ^ i : Nat) : Int).tdiv 256) = ((n / 256 ^ i / 256 : Nat) : Int) from rfl, show n / 256 ^ i / 256 = n / 256 ^ (i + 1) by rw [Nat.div_div_eq_div_mul, Nat.pow_succ]]
        have h5 := Nat.div_le_self n (256 ^ (i + 1))
        generalize n / 256 ^ (i + 1) = v at h5 ⊢
        exact Go.IntWalk.u64_in _ (by omega)
      repeat' (first
        | (refine isT ?_; (first | (refine T_assign hN rfl (by first | exact .inr trivial | exact .inl rfl) ?_) | (refine T_move hN rfl (by first | exact .inr trivial | exact .inl rfl) ?_) | (refine T_nil ?_) | (refine is_binOp ?_; (first | (refine T_rem hN rfl rfl (by decide) hr (.inr trivial) ?_) | (refine T_quo hN rfl rfl (by decide) hd (.inr trivial) ?_) | (refine T_addi64 hN rfl rfl (by omega) (by first | exact .inr trivial | exact .inl rfl) ?_) | (refine T_lss hN rfl rfl (by first | exact .inr trivial | exact .inl rfl) ?_))) | (refine is_call ?_; (first | (refine T_append hN hT 1 (by rfl) (by rfl) rfl rfl rfl (fun h => by cases h) (blk_rdz (sz := 1) (hT.has 0 rfl) rfl rfl) (u8s_all1 [_]) (by unfold maxLen; omega) (by omega) (by decide) ?_; clear hT; intro x1 c1 ww hT; refine ⟨trivial, ?_⟩))) | (refine is_convert ?_; (first | (refine T_conv hN rfl hB (.inr trivial) ?_))) | (refine is_buildSlice ?_; (first | (refine T_slice1 hN hT rfl rfl (by decide) ?_; clear hT; intro g ww hT; refine ⟨(by first | exact trivial), ?_⟩)))))
        | (refine isC ?_; (first | (refine C_seq ?_) | (refine C_rgn ?_) | (refine C_if hN rfl (fun hb => ?_) (fun hb => ?_) <;> ((first | (exfalso; omega) | (exfalso; exact hb rfl) | (exfalso; exact hb (fun h => h rfl)) | ((with_reducible refine absurd ?_ hb); (repeat' (first | exact trivial | refine And.intro rfl ?_)); done) | (replace hb := Classical.not_not.1 hb) | skip))) | (refine C_skip ?_) | (refine C_block ?_)))
        | (refine isE ?_; (first | (refine E_thn ?_) | (refine E_blk ?_))))
      all_goals exact E_mk hN (i + 1, x1, c1) ⟨rfl, rfl, rfl, rfl, rfl, evI rfl (by omega), trivial⟩ ⟨⟨by omega, by rw [le_succ, u8s_append]; exact hT.drop⟩, by omega⟩
    · obtain rfl : i = k := by omega
      clear hik
      by_cases hz : n / 256 ^ i = 0
      · have e0 : numO i n o = (o.1 ++ be i n, o.2) := if_neg (fun h => h.2 hz)
        rw [e0]
        have hbl := be_length i n
        rw [hz]
        repeat' (first
          | (refine isT ?_; (first | (refine T_assign hN rfl (by first | exact .inr trivial | exact .inl rfl) ?_) | (refine T_fieldAddr hN rfl (by first | exact .inr trivial | exact .inl rfl) ?_) | (refine T_move hN rfl (by first | exact .inr trivial | exact .inl rfl) ?_) | (refine T_nil ?_) | (refine is_load ?_; (first | (refine T_load hN rfl (hT.has 2 rfl) rfl (by first | exact .inl rfl | exact .inr ⟨by decide, trivial⟩) ?_))) | (refine is_binOp ?_; (first | (refine T_gtr hN rfl rfl (by first | exact .inr trivial | exact .inl rfl) ?_) | (refine T_lss hN rfl rfl (by first | exact .inr trivial | exact .inl rfl) ?_) | (refine T_subi64 hN rfl rfl (by omega) (by first | exact .inr trivial | exact .inl rfl) ?_))) | (refine is_call ?_; (first | (refine T_append hN (hT.addnil 5 1) 0 (by rfl) (by rfl) rfl rfl rfl (own_nil (hT.owns 3 rfl)) (hT.ord 3 rfl) (u8s_all1 _) (by unfold maxLen; omega) (by omega) (by decide) ?_; clear hT; intro x1 c1 ww hT; refine ⟨trivial, ?_⟩)))))
          | (refine isC ?_; (first | (refine C_seq ?_) | (refine C_rgn ?_) | (refine C_if hN rfl (fun hb => ?_) (fun hb => ?_) <;> ((first | (exfalso; omega) | (exfalso; exact hb rfl) | (exfalso; exact hb (fun h => h rfl)) | ((with_reducible refine absurd ?_ hb); (repeat' (first | exact trivial | refine And.intro rfl ?_)); done) | (replace hb := Classical.not_not.1 hb) | skip))) | (refine C_skip ?_) | (refine C_block ?_) | (refine C_exit ?_)))
          | (refine isE ?_; (first | (refine E_thn ?_) | (refine E_thn_exit ?_) | (refine E_blk_hit ?_) | (refine E_lp_exit ?_))))
        all_goals
          simp only [Nat.zero_add, List.nil_append] at hT ⊢
          refine C_loop hN (X := Nat × Option Addr × Nat) (fun y => [(3, .pointer (some ⟨g1, 0, none⟩)), (6, .pointer (some ⟨g, 0, none⟩)), (7, .slice xl i cl), (10, .slice y.2.1 (o.1.length + (i - y.1)) y.2.2), (11, .int .i64 ((y.1 : Int) - 1))]) (fun y w1 => y.1 ≤ i ∧ Tk f w w1 [Ob.own 5 1 (.slice y.2.1 (o.1.length + (i - y.1)) y.2.2) (o.1.length + (i - y.1)) (u8s (o.1 ++ (be i n).take (i - y.1))), Ob.own 5 1 (.slice xl i cl) i (u8s (le i n)), Ob.blk g 102 [.slice none 0 0, .bool false], Ob.blk g1 102 [.slice x o.1.length c, .bool o.2], Ob.own 5 1 (.slice x o.1.length c) o.1.length (u8s o.1)] m) (fun y => y.1) (i, x1, c1) ⟨rfl, rfl, rfl, by dsimp only; rw [Nat.sub_self]; rfl, rfl, trivial⟩ ⟨Nat.le_refl _, by dsimp only; rw [Nat.sub_self, List.take_zero, List.append_nil]; exact hT⟩ ?_
          clear hN hT x1 c1
          rintro ⟨j, x1, c1⟩ a0 ww hN ⟨hj, hT⟩
          dsimp only at hj hT ⊢
          by_cases hj0 : j = 0
          · subst hj0
            repeat' (first
              | (refine isT ?_; (first | (refine T_fieldAddr hN rfl (by first | exact .inr trivial | exact .inl rfl) ?_) | (refine T_move hN rfl (by first | exact .inr trivial | exact .inl rfl) ?_) | (refine T_nil ?_) | (refine is_load ?_; (first | (refine T_loadn (t := 102) (us := [_, _]) hN rfl (hT.has 3 rfl) rfl rfl (by first | exact .inl rfl | exact .inr ⟨by decide, trivial⟩) ?_))) | (refine is_binOp ?_; (first | (refine T_geq hN rfl rfl (by first | exact .inr trivial | exact .inl rfl) ?_))) | (refine is_store ?_; (first | (refine T_store hN hT 3 rfl rfl rfl rfl rfl (by decide) ?_; clear hT; intro ww hT; refine ⟨(by first | exact trivial), ?_⟩) | (refine T_storen hN hT 2 rfl rfl rfl rfl rfl rfl (by decide) ?_; clear hT; intro ww hT; refine ⟨(by first | exact trivial), ?_⟩)))))
              | (refine isC ?_; (first | (refine C_seq ?_) | (refine C_rgn ?_) | (refine C_if hN rfl (fun hb => ?_) (fun hb => ?_) <;> ((first | (exfalso; omega) | (exfalso; exact hb rfl) | (exfalso; exact hb (fun h => h rfl)) | ((with_reducible refine absurd ?_ hb); (repeat' (first | exact trivial | refine And.intro rfl ?_)); done) | (replace hb := Classical.not_not.1 hb) | skip))) | (refine C_ret ?_) | (refine C_exit ?_)))
              | (refine isE ?_; (first | (refine E_thn ?_) | (refine E_thn_exit ?_) | (refine E_blk_hit ?_) | (refine E_lp_exit ?_) | (refine E_ret hN Try.results40 (.cell rfl (run_loadAll (hT.has 2 rfl) rfl rfl) .nil) ?_))))
            all_goals
              have h0 := hT.fst
              have e5 : (be i n).take (i - 0) = be i n := by rw [Nat.sub_zero, List.take_of_length_le (by omega)]
              have e6 : o.1.length + (i - 0) = (o.1 ++ be i n).length := by rw [List.length_append, hbl, Nat.sub_zero]
              rw [e5, e6] at h0
              exact ⟨x1, c1, by rw [e6]; rfl, h0⟩
          · obtain ⟨B, off, rfl⟩ := (hT.ord 1 rfl).addr (by omega)
            have hcell : ∀ w : World, Rdz w (some ⟨B, off, none⟩) i 1 (u8s (le i n)) → w.cell? ⟨B, off + ((j : Int) - 1).toNat * 1, none⟩ = some (u8 (UInt8.ofNat (n / 256 ^ (j - 1)))) := fun w h => by
              rw [Nat.mul_one, show ((j : Int) - 1).toNat = j - 1 by omega]
              exact h.cell rfl (by rw [u8s_get, le_get i n (j - 1) (by omega)]; rfl)
            repeat' (first
              | (refine isT ?_; (first | (refine T_assign hN rfl (by first | exact .inr trivial | exact .inl rfl) ?_) | (refine T_move hN rfl (by first | exact .inr trivial | exact .inl rfl) ?_) | (refine T_nil ?_) | (refine is_load ?_; (first | (refine T_loadc hN rfl (hcell _ (hT.ord 1 rfl)) (by first | exact .inl rfl | exact .inr ⟨by decide, trivial⟩) ?_))) | (refine is_binOp ?_; (first | (refine T_geq hN rfl rfl (by first | exact .inr trivial | exact .inl rfl) ?_) | (refine T_subi64 hN rfl rfl (by omega) (by first | exact .inr trivial | exact .inl rfl) ?_))) | (refine is_call ?_; (first | (refine T_append hN hT 1 (by rfl) (by rfl) rfl rfl rfl (fun h => by cases h) (blk_rdz (sz := 1) (hT.has 0 rfl) rfl rfl) (u8s_all1 [_]) (by unfold maxLen; omega) (by omega) (by decide) ?_; clear hT; intro x2 c2 ww hT; refine ⟨trivial, ?_⟩))) | (refine is_indexAddr ?_; (first | (refine T_indexAddrz hN rfl rfl (by omega) (.inr trivial) ?_))) | (refine is_buildSlice ?_; (first | (refine T_slice1 hN hT rfl rfl (by decide) ?_; clear hT; intro g ww hT; refine ⟨(by first | exact trivial), ?_⟩)))))
              | (refine isC ?_; (first | (refine C_seq ?_) | (refine C_rgn ?_) | (refine C_if hN rfl (fun hb => ?_) (fun hb => ?_) <;> ((first | (exfalso; omega) | (exfalso; exact hb rfl) | (exfalso; exact hb (fun h => h rfl)) | ((with_reducible refine absurd ?_ hb); (repeat' (first | exact trivial | refine And.intro rfl ?_)); done) | (replace hb := Classical.not_not.1 hb) | skip))) | (refine C_skip ?_) | (refine C_block ?_)))
              | (refine isE ?_; (first | (refine E_thn ?_) | (refine E_blk ?_))))
            all_goals
              have hbt := be_take i n j (by omega) hj
              have e4 : o.1.length + (i - (j - 1)) = o.1.length + (i - j) + 1 := by omega
              exact E_mk hN (j - 1, x2, c2) ⟨rfl, rfl, rfl, by dsimp only; rw [e4]; rfl, evI rfl (by omega), trivial⟩ ⟨⟨by omega, by dsimp only; rw [e4, hbt, ← List.append_assoc, u8s_append (o.1 ++ _)]; exact hT.drop⟩, by omega⟩
      · have h8 : i < 8 := by
          rcases Nat.lt_or_ge i 8 with h | h
          · exact h
          · have : i = 8 := by omega
            subst this
            exact absurd (Nat.div_eq_of_lt hn) hz
        have e0 : numO i n o = (o.1, true) := if_pos ⟨h8, hz⟩
        rw [e0]
        have hz0 : 0 < n / 256 ^ i := Nat.pos_of_ne_zero hz
        repeat' (first
          | (refine isT ?_; (first | (refine T_fieldAddr hN rfl (by first | exact .inr trivial | exact .inl rfl) ?_) | (refine T_move hN rfl (by first | exact .inr trivial | exact .inl rfl) ?_) | (refine T_nil ?_) | (refine is_load ?_; (first | (refine T_loadn (t := 102) (us := [_, _]) hN rfl (hT.has 2 rfl) rfl rfl (by first | exact .inl rfl | exact .inr ⟨by decide, trivial⟩) ?_))) | (refine is_binOp ?_; (first | (refine T_gtr hN rfl rfl (by first | exact .inr trivial | exact .inl rfl) ?_) | (refine T_lss hN rfl rfl (by first | exact .inr trivial | exact .inl rfl) ?_))) | (refine is_store ?_; (first | (refine T_store hN hT 2 rfl rfl rfl rfl rfl (by decide) ?_; clear hT; intro ww hT; refine ⟨(by first | exact trivial), ?_⟩) | (refine T_storen hN hT 1 rfl rfl rfl rfl rfl rfl (by decide) ?_; clear hT; intro ww hT; refine ⟨(by first | exact trivial), ?_⟩)))))
          | (refine isC ?_; (first | (refine C_seq ?_) | (refine C_rgn ?_) | (refine C_if hN rfl (fun hb => ?_) (fun hb => ?_) <;> ((first | (exfalso; omega) | (exfalso; exact hb rfl) | (exfalso; exact hb (fun h => h rfl)) | ((with_reducible refine absurd ?_ hb); (repeat' (first | exact trivial | refine And.intro rfl ?_)); done) | (replace hb := Classical.not_not.1 hb) | skip))) | (refine C_ret ?_) | (refine C_exit ?_)))
          | (refine isE ?_; (first | (refine E_thn ?_) | (refine E_thn_ret ?_) | (refine E_thn_exit ?_) | (refine E_blk_hit ?_) | (refine E_lp_exit ?_) | (refine E_ret hN Try.results40 (.cell rfl (run_loadAll (hT.has 1 rfl) rfl rfl) .nil) ?_))))
        all_goals exact ⟨x, c, rfl, hT.drop.drop.drop⟩
end Go.Proofs.Ytemhcflaldeakaa
/- THE WALKS of the document's answer: raw bytes, a blob, all bytes. -/
namespace Go.Proofs.Ytemhcflaldeakaa
open Go.RowKit Go.Fp
attribute [local irreducible] Go.Calls
set_option maxRecDepth 100000
set_option maxHeartbeats 2000000
theorem ref_Raw (x : Option Addr) (c : Nat) (o : List UInt8 × Bool) (hlen : o.1.length ≤ 900000000) (y : Option Addr) (n d : Nat) (ps : List UInt8) (hpn : ps.length = n) (hy : y = none → n = 0 ∧ d = 0) (hn : n ≤ 1000000000) (f : List Nat) (w : World) {m : List Ob} (hT : Tk f w w [Ob.own 5 1 (.slice x o.1.length c) o.1.length (u8s o.1)] (Ob.rd y n 1 (u8s ps) :: m)) :
    Calls Try.prog 55 #[.agg #[.slice x o.1.length c, .bool o.2], .slice y n d] w fun e w' => ∃ x' c', e = .returned (.agg #[.slice x' (o.1 ++ ps).length c', .bool o.2]) ∧ Tk f w w' [Ob.own 5 1 (.slice x' (o.1 ++ ps).length c') (o.1 ++ ps).length (u8s (o.1 ++ ps))] (Ob.rd y n 1 (u8s ps) :: m) := by
  refine enter [(0, _), (1, _)] Try.func55 rfl Try.ntmps55 (Nat.le_of_ble_eq_true rfl) rfl ?_; intro a0 hN
  repeat' (first
    | (refine isT ?_; (first | (refine T_assign hN rfl (by first | exact .inr trivial | exact .inl rfl) ?_) | (refine T_fieldAddr hN rfl (by first | exact .inr trivial | exact .inl rfl) ?_) | (refine T_move hN rfl (by first | exact .inr trivial | exact .inl rfl) ?_) | (refine T_nil ?_) | (refine is_load ?_; (first | (refine T_load hN rfl (hT.has 1 rfl) rfl (by first | exact .inl rfl | exact .inr ⟨by decide, trivial⟩) ?_) | (refine T_loadn (t := 102) (us := [_, _]) hN rfl (hT.has 2 rfl) rfl rfl (by first | exact .inl rfl | exact .inr ⟨by decide, trivial⟩) ?_))) | (refine is_call ?_; (first | (refine T_append hN (hT.addnil 5 1) 0 (by rfl) (by rfl) rfl rfl rfl (own_nil (hT.owns 2 rfl)) (hT.ord 2 rfl) (u8s_all1 _) (by unfold maxLen; omega) (by omega) (by decide) ?_; clear hT; intro x1 c1 ww hT; refine ⟨trivial, ?_⟩) | (refine T_append hN hT 0 (by rfl) (by rfl) rfl rfl rfl hy (hT.rrd 0 rfl) (u8s_all1 _) (by unfold maxLen; omega) (by omega) (by decide) ?_; clear hT; intro x2 c2 ww hT; refine ⟨trivial, ?_⟩))) | (refine is_store ?_; (first | (refine T_store hN hT 2 rfl rfl rfl rfl rfl (by decide) ?_; clear hT; intro ww hT; refine ⟨(by first | exact trivial), ?_⟩) | (refine T_storen hN hT 1 rfl rfl rfl rfl rfl rfl (by decide) ?_; clear hT; intro ww hT; refine ⟨(by first | exact trivial), ?_⟩))) | (refine is_alloc ?_; (first | (refine T_alloc hN hT (by decide) ?_; clear hT; intro g ww hT; refine ⟨(by first | exact trivial), ?_⟩))) | (refine is_box ?_; (first | (refine T_box hN hT rfl (by decide) ?_; clear hT; intro g ww hT; refine ⟨(by first | exact trivial), ?_⟩)))))
    | (refine isC ?_; (first | (refine C_seq ?_) | (refine C_rgnk (id := 0) hN [(0, _), (1, _)] ⟨rfl, rfl, trivial⟩ ?_; clear hN; intro a0 hN) | (refine C_rgnk (id := 1) hN [(0, _), (1, _), (2, _), (4, _)] ⟨rfl, rfl, rfl, rfl, trivial⟩ ?_; clear hN; intro a0 hN) | (refine C_rgnk (id := 2) hN [(0, _), (1, _), (2, _), (4, _), (5, _)] ⟨rfl, rfl, rfl, rfl, rfl, trivial⟩ ?_; clear hN; intro a0 hN) | (refine C_rgnk (id := 3) hN [(0, _), (1, _), (2, _), (4, _), (5, _)] ⟨rfl, rfl, rfl, rfl, rfl, trivial⟩ ?_; clear hN; intro a0 hN) | (refine C_rgnk (id := 4) hN [(0, _), (1, _), (2, _), (4, _), (5, _)] ⟨rfl, rfl, rfl, rfl, rfl, trivial⟩ ?_; clear hN; intro a0 hN) | (refine C_ret ?_)))
    | (refine isE ?_; (first | (refine E_thn ?_) | (refine E_ret hN Try.results55 (.cell rfl (run_loadAll (hT.has 1 rfl) rfl rfl) .nil) ?_))))
  all_goals
    have e1 : (o.1 ++ ps).length = 0 + o.1.length + n := by rw [List.length_append, hpn, Nat.zero_add]
    exact ⟨x2, c2, by rw [e1]; rfl, by rw [e1, u8s_append]; exact hT.fst⟩
theorem ref_Blob (x : Option Addr) (c : Nat) (o : List UInt8 × Bool) (hlen : o.1.length ≤ 800000000) (y : Option Addr) (n d : Nat) (ps : List UInt8) (hpn : ps.length = n) (hy : y = none → n = 0 ∧ d = 0) (hn : n ≤ 1000000000) (f : List Nat) (w : World) {m : List Ob} (hT : Tk f w w [Ob.own 5 1 (.slice x o.1.length c) o.1.length (u8s o.1)] (Ob.rd y n 1 (u8s ps) :: m)) :
    Calls Try.prog 41 #[.agg #[.slice x o.1.length c, .bool o.2], .slice y n d] w fun e w' => ∃ x' c', e = .returned (.agg #[.slice x' (blobO ps o).1.length c', .bool (blobO ps o).2]) ∧ Tk f w w' [Ob.own 5 1 (.slice x' (blobO ps o).1.length c') (blobO ps o).1.length (u8s (blobO ps o).1)] (Ob.rd y n 1 (u8s ps) :: m) := by
  by_cases h : 4096 < n
  · have e : blobO ps o = (o.1, true) := if_pos (by omega)
    rw [e]
    refine enter [(0, _), (1, _)] Try.func41 rfl Try.ntmps41 (Nat.le_of_ble_eq_true rfl) rfl ?_; intro a0 hN
    repeat' (first
      | (refine isT ?_; (first | (refine T_fieldAddr hN rfl (by first | exact .inr trivial | exact .inl rfl) ?_) | (refine T_move hN rfl (by first | exact .inr trivial | exact .inl rfl) ?_) | (refine T_nil ?_) | (refine is_load ?_; (first | (refine T_loadn (t := 102) (us := [_, _]) hN rfl (hT.has 1 rfl) rfl rfl (by first | exact .inl rfl | exact .inr ⟨by decide, trivial⟩) ?_))) | (refine is_binOp ?_; (first | (refine T_gtr hN rfl rfl (by first | exact .inr trivial | exact .inl rfl) ?_))) | (refine is_call ?_; (first | (refine T_len hN rfl (by first | exact .inr trivial | exact .inl rfl) ?_))) | (refine is_store ?_; (first | (refine T_store hN hT 1 rfl rfl rfl rfl rfl (by decide) ?_; clear hT; intro ww hT; refine ⟨(by first | exact trivial), ?_⟩) | (refine T_storen hN hT 0 rfl rfl rfl rfl rfl rfl (by decide) ?_; clear hT; intro ww hT; refine ⟨(by first | exact trivial), ?_⟩))) | (refine is_alloc ?_; (first | (refine T_alloc hN hT (by decide) ?_; clear hT; intro g ww hT; refine ⟨(by first | exact trivial), ?_⟩))) | (refine is_box ?_; (first | (refine T_box hN hT rfl (by decide) ?_; clear hT; intro g ww hT; refine ⟨(by first | exact trivial), ?_⟩)))))
      | (refine isC ?_; (first | (refine C_seq ?_) | (refine C_rgnk (id := 0) hN [(0, _), (1, _)] ⟨rfl, rfl, trivial⟩ ?_; clear hN; intro a0 hN) | (refine C_rgnk (id := 1) hN [(0, _), (1, _), (2, _), (4, _)] ⟨rfl, rfl, rfl, rfl, trivial⟩ ?_; clear hN; intro a0 hN) | (refine C_rgnk (id := 2) hN [(0, _), (1, _), (2, _), (4, _), (7, _)] ⟨rfl, rfl, rfl, rfl, rfl, trivial⟩ ?_; clear hN; intro a0 hN) | (refine C_rgnk (id := 3) hN [(0, _), (1, _), (2, _), (4, _), (7, _)] ⟨rfl, rfl, rfl, rfl, rfl, trivial⟩ ?_; clear hN; intro a0 hN) | (refine C_if hN rfl (fun hb => ?_) (fun hb => ?_) <;> ((first | (exfalso; omega) | (exfalso; exact hb rfl) | (exfalso; exact hb (fun h => h rfl)) | ((with_reducible refine absurd ?_ hb); (repeat' (first | exact trivial | refine And.intro rfl ?_)); done) | (replace hb := Classical.not_not.1 hb) | skip))) | (refine C_ret ?_)))
      | (refine isE ?_; (first | (refine E_thn ?_) | (refine E_thn_ret ?_) | (refine E_ret hN Try.results41 (.cell rfl (run_loadAll (hT.has 0 rfl) rfl rfl) .nil) ?_))))
    all_goals exact ⟨x, c, rfl, hT.drop.drop⟩
  · have e : blobO ps o = ((numO 2 ps.length o).1 ++ ps, (numO 2 ps.length o).2) := if_neg (by omega)
    have hl := numO_len 2 ps.length o
    rw [e]
    rw [hpn] at hl ⊢
    have hNum := fun f1 ww (h) => ref_Num x c o n 2 (by omega) (by omega) (by omega) f1 ww (m := Ob.rd y n 1 (u8s ps) :: m) h
    generalize numO 2 n o = o1 at *
    have hRaw := fun x1 c1 f1 ww (h) => ref_Raw x1 c1 o1 (by omega) y n d ps hpn hy hn f1 ww (m := m) h
    refine enter [(0, _), (1, _)] Try.func41 rfl Try.ntmps41 (Nat.le_of_ble_eq_true rfl) rfl ?_; intro a0 hN
    repeat' (first
      | (refine isT ?_; (first | (refine T_move hN rfl (by first | exact .inr trivial | exact .inl rfl) ?_) | (refine T_nil ?_) | (refine is_load ?_; (first | (refine T_loadn (t := 102) (us := [_, _]) hN rfl (hT.has 1 rfl) rfl rfl (by first | exact .inl rfl | exact .inr ⟨by decide, trivial⟩) ?_))) | (refine is_binOp ?_; (first | (refine T_gtr hN rfl rfl (by first | exact .inr trivial | exact .inl rfl) ?_))) | (refine is_call ?_; (first | (refine is_call ?_; obtain ⟨f1, hP, hK⟩ := hT.call1m 2 rfl; refine T_call (f := 40) hN rfl (by decide) (hNum f1 _ hP) ?_; rintro e ww ⟨x1, c1, rfl, h1⟩; clear hT hP; replace hT := hK _ _ _ _ h1; clear hK h1; refine ⟨_, rfl, (by first | exact trivial | ((repeat' (first | exact hT.has 0 rfl | exact hT.has 1 rfl | exact hT.has 2 rfl | exact hT.has 3 rfl | exact hT.has 4 rfl | exact hT.has 5 rfl | exact hT.ord 0 rfl | exact hT.ord 1 rfl | exact hT.ord 2 rfl | exact hT.ord 3 rfl | exact hT.ord 4 rfl | exact hT.ord 5 rfl | exact hT.mrd (by assumption) | refine And.intro ?_ ?_)); done)), ?_⟩) | (refine is_call ?_; obtain ⟨f1, hP, hK⟩ := hT.call1m 2 rfl; refine T_call (f := 55) hN rfl (by decide) (hRaw x1 c1 f1 _ hP) ?_; rintro e ww ⟨x2, c2, rfl, h1⟩; clear hT hP; replace hT := hK _ _ _ _ h1; clear hK h1; refine ⟨_, rfl, (by first | exact trivial | ((repeat' (first | exact hT.has 0 rfl | exact hT.has 1 rfl | exact hT.has 2 rfl | exact hT.has 3 rfl | exact hT.has 4 rfl | exact hT.has 5 rfl | exact hT.ord 0 rfl | exact hT.ord 1 rfl | exact hT.ord 2 rfl | exact hT.ord 3 rfl | exact hT.ord 4 rfl | exact hT.ord 5 rfl | exact hT.mrd (by assumption) | refine And.intro ?_ ?_)); done)), ?_⟩) | (refine T_len hN rfl (by first | exact .inr trivial | exact .inl rfl) ?_))) | (refine is_store ?_; (first | (refine T_storen hN hT 0 rfl rfl rfl rfl rfl rfl (by decide) ?_; clear hT; intro ww hT; refine ⟨(by first | exact trivial), ?_⟩))) | (refine is_alloc ?_; (first | (refine T_alloc hN hT (by decide) ?_; clear hT; intro g ww hT; refine ⟨(by first | exact trivial), ?_⟩))) | (refine is_box ?_; (first | (refine T_box hN hT rfl (by decide) ?_; clear hT; intro g ww hT; refine ⟨(by first | exact trivial), ?_⟩))) | (refine is_convert ?_; (first | (refine T_conv (r := ?_) hN rfl ?_ (by first | exact .inr trivial | exact .inl rfl) ?_; rotate_left; (focus (first | (refine Eq.trans (Go.IntWalk.i64_in _ (by omega)) ?_; (first | (simp only [Int.reduceAdd, Int.reduceSub, Int.reduceMul, Int.reduceNeg, Int.reduceDiv, Int.reduceMod]; rfl) | rfl)) | (refine Eq.trans (Go.IntWalk.u64_in _ (by omega)) ?_; (first | (simp only [Int.reduceAdd, Int.reduceSub, Int.reduceMul, Int.reduceNeg, Int.reduceDiv, Int.reduceMod]; rfl) | rfl)) | (refine Go.IntWalk.u32_in _ ?_; omega) | (refine Go.IntWalk.u8_in _ ?_; omega) | exact rfl)))))))
      | (refine isC ?_; (first | (refine C_seq ?_) | (refine C_rgnk (id := 0) hN [(0, _), (1, _)] ⟨rfl, rfl, trivial⟩ ?_; clear hN; intro a0 hN) | (refine C_rgnk (id := 1) hN [(0, _), (1, _), (2, _), (4, _)] ⟨rfl, rfl, rfl, rfl, trivial⟩ ?_; clear hN; intro a0 hN) | (refine C_rgnk (id := 4) hN [(0, _), (1, _), (2, _), (4, _), (7, _)] ⟨rfl, rfl, rfl, rfl, rfl, trivial⟩ ?_; clear hN; intro a0 hN) | (refine C_if hN rfl (fun hb => ?_) (fun hb => ?_) <;> ((first | (exfalso; omega) | (exfalso; exact hb rfl) | (exfalso; exact hb (fun h => h rfl)) | ((with_reducible refine absurd ?_ hb); (repeat' (first | exact trivial | refine And.intro rfl ?_)); done) | (replace hb := Classical.not_not.1 hb) | skip))) | (refine C_skip ?_) | (refine C_ret ?_)))
      | (refine isE ?_; (first | (refine E_thn ?_) | (refine E_ret hN Try.results41 (.cell rfl (run_loadAll (hT.has 0 rfl) rfl rfl) .nil) ?_))))
    all_goals exact ⟨x2, c2, rfl, hT.drop.drop⟩
end Go.Proofs.Ytemhcflaldeakaa
/- THE WALK of the document's answer: short sums. -/
namespace Go.Proofs.Ytemhcflaldeakaa
open Go.RowKit Go.Fp
attribute [local irreducible] Go.Calls
set_option maxRecDepth 100000
set_option maxHeartbeats 2000000
theorem Ent.blk_rd (g T n sz : Nat) (vs : List Value) (hn : vs.length = n * sz) : Ob.Ent (Ob.blk g T vs) (Ob.rd (some ⟨g, 0, none⟩) n sz vs) := by
  rintro f w ⟨rfl, h⟩
  obtain ⟨f', h3, h4⟩ := of_rd (blk_rdz (o := 0) h hn (by rw [List.drop_zero, List.take_of_length_le (by omega)]))
  refine ⟨f', h3, fun k hk => ?_⟩
  obtain ⟨off, h5, _⟩ := h4 k hk
  simp only [Option.some.injEq, Addr.mk.injEq] at h5
  simp [h5.1]
end Go.Proofs.Ytemhcflaldeakaa
