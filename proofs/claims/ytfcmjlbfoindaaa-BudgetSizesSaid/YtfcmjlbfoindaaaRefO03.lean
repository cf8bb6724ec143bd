/- THE WALKS of the document's answer: what is laid. -/
import Derived.Test.YtfcmjlbfoindaaaOut03c
namespace Go.Proofs.Ytfcmjlbfoindaaa
open Go.RowKit Go.Fp
attribute [local irreducible] Go.Calls
set_option maxRecDepth 100000
set_option maxHeartbeats 2000000
def le (k n : Nat) : List UInt8 := (List.range k).map fun j => UInt8.ofNat (n / 256 ^ j)
theorem le_length (k n : Nat) : (le k n).length = k := by simp [le]
theorem le_succ (k n : Nat) : le (k + 1) n = le k n ++ [UInt8.ofNat (n / 256 ^ k)] := by simp [le, List.range_succ]
theorem le_get (k n j : Nat) (h : j < k) : (le k n)[j]? = some (UInt8.ofNat (n / 256 ^ j)) := by simp [le, h]
end Go.Proofs.Ytfcmjlbfoindaaa
/- THE WALKS of the document's answer: raw bytes, a blob, all bytes. -/
namespace Go.Proofs.Ytfcmjlbfoindaaa
open Go.RowKit Go.Fp
attribute [local irreducible] Go.Calls
set_option maxRecDepth 100000
set_option maxHeartbeats 2000000
end Go.Proofs.Ytfcmjlbfoindaaa
/- THE WALK of the document's answer: short sums. -/
namespace Go.Proofs.Ytfcmjlbfoindaaa
open Go.RowKit Go.Fp
attribute [local irreducible] Go.Calls
set_option maxRecDepth 100000
set_option maxHeartbeats 2000000
theorem Ent.blk_rd (g T n sz : Nat) (vs : List Value) (hn : vs.length = n * sz) : Ob.Ent (Ob.blk g T vs) (Ob.rd (some ⟨g, 0, none⟩) n sz vs) := by
  rintro f w ⟨rfl, h⟩
  obtain ⟨f', h3, h4⟩ := of_rd (blk_rdz (o := 0) h hn (by rw [List.drop_zero, List.take_of_length_le (by omega)]))
  refine ⟨f', h3, fun k hk => ?_⟩
  obtain ⟨off, h5, _⟩ := h4 k hk
  simp only [Option.some.injEq, Addr.mk.injEq] at h5
  simp [h5.1]
end Go.Proofs.Ytfcmjlbfoindaaa
/- THE WALKS: short sums as the program's, as the document's. -/
namespace Go.Proofs.Ytfcmjlbfoindaaa
open Go.RowKit Go.Fp
attribute [local irreducible] Go.Calls
set_option maxRecDepth 100000
set_option maxHeartbeats 2000000
theorem law03_To (y : Option Addr) (n d : Nat) (ls : List (List UInt8)) (hls : ∀ l, l ∈ ls → l.length = 16) (hln : ls.length = n) (hn : n ≤ 2000000) (w : World) {m : List Ob} (hT : Tk [] w w [] (Ob.rd y n 16 (u8s ls.flatten) :: m)) :
    Calls Try.prog 77 #[.slice y n d] w fun e w' => ∃ x' c', e = .returned (.slice x' n c') ∧ Tk [] w w' [Ob.own 86 16 (.slice x' n c') n (u8s ls.flatten)] (Ob.rd y n 16 (u8s ls.flatten) :: m) := by
  refine enter [(0, _)] Try.func77 rfl Try.ntmps77 (Nat.le_of_ble_eq_true rfl) rfl ?_; intro a0 hN
  repeat' (first
    | (refine isT ?_; (first | (refine T_assign hN rfl (by first | exact .inr trivial | exact .inl rfl) ?_) | (refine T_move hN rfl (by first | exact .inr trivial | exact .inl rfl) ?_) | (refine T_nil ?_) | (refine is_call ?_; (first | (refine T_len hN rfl (by first | exact .inr trivial | exact .inl rfl) ?_)))))
    | (refine isC ?_; (first | (refine C_seq ?_) | (refine C_rgnk (id := 0) hN [(0, _)] ⟨rfl, trivial⟩ ?_; clear hN; intro a0 hN) | (refine C_rgnk (id := 1) hN [(0, _), (2, _)] ⟨rfl, rfl, trivial⟩ ?_; clear hN; intro a0 hN) | (refine C_rgnk (id := 2) hN [(0, _), (2, _), (3, _)] ⟨rfl, rfl, rfl, trivial⟩ ?_; clear hN; intro a0 hN) | (refine C_block ?_)))
    | (refine isE ?_; (first | (refine E_thn ?_))))
  all_goals
    refine C_loop hN (X := Nat × Option Addr × Nat) (fun z => [(3, .slice z.2.1 z.1 z.2.2), (6, .slice y n d), (7, .int .i64 n), (8, .int .i64 z.1)]) (fun z w1 => z.1 ≤ n ∧ Tk [] w w1 [Ob.own 86 16 (.slice z.2.1 z.1 z.2.2) z.1 (u8s (ls.take z.1).flatten)] (Ob.rd y n 16 (u8s ls.flatten) :: m)) (fun z => n - z.1) (0, none, 0) ⟨rfl, rfl, rfl, rfl, trivial⟩ ⟨Nat.zero_le _, hT.addnil 86 16⟩ ?_
    clear hN hT
    rintro ⟨j, x1, c1⟩ a0 ww hN ⟨hj, hT⟩
    dsimp only at hj hT ⊢
    by_cases hj0 : j = n
    · subst hj0
      repeat' (first
        | (refine isT ?_; (first | (refine T_assign hN rfl (by first | exact .inr trivial | exact .inl rfl) ?_) | (refine T_move hN rfl (by first | exact .inr trivial | exact .inl rfl) ?_) | (refine T_nil ?_) | (refine is_binOp ?_; (first | (refine T_lss hN rfl rfl (by first | exact .inr trivial | exact .inl rfl) ?_)))))
        | (refine isC ?_; (first | (refine C_seq ?_) | (refine C_rgn ?_) | (refine C_if hN rfl (fun hb => ?_) (fun hb => ?_) <;> ((first | (exfalso; omega) | (exfalso; exact hb rfl) | (exfalso; exact hb (fun h => h rfl)) | ((with_reducible refine absurd ?_ hb); (repeat' (first | exact trivial | refine And.intro rfl ?_)); done) | (replace hb := Classical.not_not.1 hb) | skip))) | (refine C_ret ?_) | (refine C_exit ?_)))
        | (refine isE ?_; (first | (refine E_thn ?_) | (refine E_thn_exit ?_) | (refine E_blk_hit ?_) | (refine E_lp_exit ?_) | (refine E_ret hN Try.results77 (.tmp rfl .nil) ?_))))
      all_goals exact ⟨x1, c1, rfl, by rw [← hln, List.take_length] at hT; rw [← hln]; exact hT⟩
    · obtain ⟨B, off, rfl⟩ := (hT.rrd 0 rfl).addr (by omega)
      have hjl : j < ls.length := by omega
      obtain ⟨a, ha⟩ : ∃ a, ls[j]? = some a := ⟨_, List.getElem?_eq_getElem hjl⟩
      have ha16 := hls a (List.mem_of_getElem? ha)
      have htk : (ls.take (j + 1)).flatten = (ls.take j).flatten ++ a := by rw [List.take_add_one, ha, Option.toList_some, List.flatten_append]; simp
      generalize (ls.take j).flatten = bs at *
      repeat' (first
        | (refine isT ?_; (first | (refine T_assign hN rfl (by first | exact .inr trivial | exact .inl rfl) ?_) | (refine T_move hN rfl (by first | exact .inr trivial | exact .inl rfl) ?_) | (refine T_nil ?_) | (refine is_load ?_; (first | (refine T_loadnc hN rfl (us := u8s a) (by rw [u8s_length, ha16]) (row_cell (hT.rrd 0 rfl) hls ha) (by first | exact .inl rfl | exact .inr ⟨by decide, trivial⟩) ?_) | (refine T_loadn hN rfl (hT.has 0 rfl) (us := u8s a) (by rw [List.drop_zero, List.take_of_length_le (by rw [u8s_length, ha16]; exact Nat.le_refl _)]) (by rw [u8s_length, ha16]) (by first | exact .inl rfl | exact .inr ⟨by decide, trivial⟩) ?_))) | (refine is_binOp ?_; (first | (refine T_addi64 hN rfl rfl (by omega) (by first | exact .inr trivial | exact .inl rfl) ?_) | (refine T_lss hN rfl rfl (by first | exact .inr trivial | exact .inl rfl) ?_))) | (refine is_call ?_; (first | (refine T_append hN hT 2 (by rfl) (by rfl) rfl rfl rfl (fun h => by cases h) (blk_rdz (sz := 16) (hT.has 0 rfl) (by rw [u8s_length, ha16]) (by rw [List.drop_zero, List.take_of_length_le (by rw [u8s_length, ha16]; exact Nat.le_refl _)])) (u8s_all1 _) (by unfold maxLen; omega) (by omega) (by decide) ?_; clear hT; intro x2 c2 ww hT; refine ⟨trivial, ?_⟩))) | (refine is_store ?_; (first | (refine T_storeAll hN hT 0 (us := u8s a) rfl rfl rfl (by rw [u8s_length, ha16]; rfl) rfl (List.all_eq_true.2 (u8s_all1 a)) (by decide) ?_; clear hT; intro ww hT; refine ⟨trivial, ?_⟩))) | (refine is_buildSlice ?_; (first | (refine T_slicen (n := 16) hN hT (us := u8s a) (by rw [u8s_length, ha16]) (by rfl) (by rfl) (by rfl) rfl (by decide) ?_; clear hT; intro g ww hT; refine ⟨trivial, ?_⟩))) | (refine is_alloc ?_; (first | (refine T_alloc hN hT (by decide) ?_; clear hT; intro g ww hT; refine ⟨(by first | exact trivial), ?_⟩))) | (refine is_indexAddr ?_; (first | (refine T_indexAddr hN rfl rfl (by omega) (by first | exact .inr trivial | exact .inl rfl) ?_)))))
        | (refine isC ?_; (first | (refine C_seq ?_) | (refine C_rgn ?_) | (refine C_if hN rfl (fun hb => ?_) (fun hb => ?_) <;> ((first | (exfalso; omega) | (exfalso; exact hb rfl) | (exfalso; exact hb (fun h => h rfl)) | ((with_reducible refine absurd ?_ hb); (repeat' (first | exact trivial | refine And.intro rfl ?_)); done) | (replace hb := Classical.not_not.1 hb) | skip))) | (refine C_skip ?_) | (refine C_block ?_)))
        | (refine isE ?_; (first | (refine E_thn ?_) | (refine E_blk ?_))))
      all_goals first
        | exact E_mk hN (j + 1, x2, c2) ⟨rfl, rfl, rfl, evI rfl (by omega), trivial⟩ ⟨⟨by omega, by dsimp only; rw [htk, u8s_append]; exact hT.drop.drop⟩, by omega⟩
        | exact E_mk hN (j + 1, x2, c2) ⟨rfl, rfl, rfl, evI rfl (by omega), trivial⟩ ⟨⟨by omega, by dsimp only; rw [htk, u8s_append]; exact hT.drop⟩, by omega⟩
end Go.Proofs.Ytfcmjlbfoindaaa
/- THE WALKS: short sums as the program's, as the document's. -/
namespace Go.Proofs.Ytfcmjlbfoindaaa
open Go.RowKit Go.Fp
attribute [local irreducible] Go.Calls
set_option maxRecDepth 100000
set_option maxHeartbeats 2000000
end Go.Proofs.Ytfcmjlbfoindaaa
