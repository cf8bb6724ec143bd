/- THE WALK: equal short sums are the same. -/
import Derived.Test.YteikjachfafadaaOut03c
import Derived.Test.YteikjachfafadaaFb
import Derived.Test.YteikjachfafadaaFc
namespace Go.Proofs.Yteikjachfafadaa
open Go.RowKit Go.Fp
attribute [local irreducible] Go.Calls
set_option maxRecDepth 100000
set_option maxHeartbeats 4000000
theorem take_eq_succ {α : Type} {ls ms : List α} {j : Nat} {a b : α} (ha : ls[j]? = some a) (hb : ms[j]? = some b) (h : ls.take j = ms.take j) (e : a = b) : ls.take (j + 1) = ms.take (j + 1) := by
  rw [List.take_add_one, List.take_add_one, ha, hb, h, e]
theorem ref_SameSums (x y : Option Addr) (c d : Nat) (ls ms : List (List UInt8)) (hls : ∀ l, l ∈ ls → l.length = 16) (hms : ∀ l, l ∈ ms → l.length = 16) (hl1 : ls.length ≤ 100000) (w : World) {m : List Ob} (hT : Tk [] w w [] (Ob.rd x ls.length 16 (u8s ls.flatten) :: Ob.rd y ms.length 16 (u8s ms.flatten) :: m)) :
    Calls Try.prog 59 #[.slice x ls.length c, .slice y ms.length d] w fun e w' => e = .returned (.bool (bdec (ls = ms))) ∧ Tk [] w w' [] [] := by
  by_cases hlen : ls.length = ms.length
  · refine enter [(0, _), (1, _)] Try.func59 rfl Try.ntmps59 (Nat.le_of_ble_eq_true rfl) rfl ?_; intro a0 hN
    repeat' (first
      | (refine isT ?_; (first | (refine T_assign hN rfl (by first | exact .inr trivial | exact .inl rfl) ?_) | (refine T_move hN rfl (by first | exact .inr trivial | exact .inl rfl) ?_) | (refine T_nil ?_) | (refine is_binOp ?_; (first | (refine T_neq hN rfl rfl (by first | exact .inr trivial | exact .inl rfl) ?_))) | (refine is_call ?_; (first | (refine T_len hN rfl (by first | exact .inr trivial | exact .inl rfl) ?_)))))
      | (refine isC ?_; (first | (refine C_seq ?_) | (refine C_rgnk (id := 0) hN [(0, _), (1, _)] ⟨rfl, rfl, trivial⟩ ?_; clear hN; intro a0 hN) | (refine C_rgnk (id := 1) hN [(0, _), (1, _), (4, _)] ⟨rfl, rfl, rfl, trivial⟩ ?_; clear hN; intro a0 hN) | (refine C_rgnk (id := 3) hN [(0, _), (1, _), (4, _), (10, _)] ⟨rfl, rfl, rfl, rfl, trivial⟩ ?_; clear hN; intro a0 hN) | (refine C_if hN rfl (fun hb => ?_) (fun hb => ?_) <;> ((first | (exfalso; omega) | (exfalso; exact hb rfl) | (exfalso; exact hb (fun h => h rfl)) | ((with_reducible refine absurd ?_ hb); (repeat' (first | exact trivial | refine And.intro rfl ?_)); done) | (replace hb := Classical.not_not.1 hb) | skip))) | (refine C_skip ?_) | (refine C_block ?_)))
      | (refine isE ?_; (first | (refine E_thn ?_))))
    all_goals
      refine C_loop hN (X := Nat) (fun j => [(0, .slice x ls.length c), (1, .slice y ms.length d), (5, .int .i64 j)]) (fun j w1 => j ≤ ls.length ∧ ls.take j = ms.take j ∧ Tk [] w w1 [] (Ob.rd x ls.length 16 (u8s ls.flatten) :: Ob.rd y ms.length 16 (u8s ms.flatten) :: m)) (fun j => ls.length - j) 0 ⟨rfl, rfl, rfl, trivial⟩ ⟨Nat.zero_le _, by simp, hT⟩ ?_
      clear hN hT
      rintro j a0 ww hN ⟨hj, he, hT⟩
      by_cases hj0 : j = ls.length
      · subst hj0
        repeat' (first
          | (refine isT ?_; (first | (refine T_assign hN rfl (by first | exact .inr trivial | exact .inl rfl) ?_) | (refine T_move hN rfl (by first | exact .inr trivial | exact .inl rfl) ?_) | (refine T_nil ?_) | (refine is_binOp ?_; (first | (refine T_lss hN rfl rfl (by first | exact .inr trivial | exact .inl rfl) ?_))) | (refine is_call ?_; (first | (refine T_len hN rfl (by first | exact .inr trivial | exact .inl rfl) ?_)))))
          | (refine isC ?_; (first | (refine C_seq ?_) | (refine C_rgn ?_) | (refine C_if hN rfl (fun hb => ?_) (fun hb => ?_) <;> ((first | (exfalso; omega) | (exfalso; exact hb rfl) | (exfalso; exact hb (fun h => h rfl)) | ((with_reducible refine absurd ?_ hb); (repeat' (first | exact trivial | refine And.intro rfl ?_)); done) | (replace hb := Classical.not_not.1 hb) | skip))) | (refine C_ret ?_) | (refine C_exit ?_)))
          | (refine isE ?_; (first | (refine E_thn ?_) | (refine E_thn_exit ?_) | (refine E_blk_hit ?_) | (refine E_lp_exit ?_) | (refine E_ret hN Try.results59 (.tmp rfl .nil) ?_))))
        all_goals exact ⟨ret_bt (by rw [List.take_length, List.take_of_length_le (by omega)] at he; exact he), hT.nil.forget (fun _ h => by cases h)⟩
      · obtain ⟨B, off, rfl⟩ := (hT.rrd 0 rfl).addr (by omega)
        obtain ⟨B2, off2, rfl⟩ := (hT.rrd 1 rfl).addr (by omega)
        have hjl : j < ls.length := by omega
        obtain ⟨a, ha⟩ : ∃ a, ls[j]? = some a := ⟨_, List.getElem?_eq_getElem hjl⟩
        obtain ⟨b, hm1⟩ : ∃ b, ms[j]? = some b := ⟨_, List.getElem?_eq_getElem (by omega)⟩
        have ha16 := hls a (List.mem_of_getElem? ha)
        have hb16 := hms b (List.mem_of_getElem? hm1)
        repeat' (first
          | (refine isT ?_; (first | (refine T_assign hN rfl (by first | exact .inr trivial | exact .inl rfl) ?_) | (refine T_move hN rfl (by first | exact .inr trivial | exact .inl rfl) ?_) | (refine T_nil ?_) | (refine T_nild ?_) | (refine is_load ?_; (first | (refine T_loadnc hN rfl (us := u8s a) (by rw [u8s_length, ha16]) (row_cell (hT.rrd 0 rfl) hls ha) (by first | exact .inl rfl | exact .inr ⟨by decide, trivial⟩) ?_) | (refine T_loadnc hN rfl (us := u8s b) (by rw [u8s_length, hb16]) (row_cell (hT.rrd 1 rfl) hms hm1) (by first | exact .inl rfl | exact .inr ⟨by decide, trivial⟩) ?_))) | (refine is_binOp ?_; (first | (refine T_neqA (b := a) (c := b) hN (by decide +kernel) rfl rfl ha16 hb16 (by first | exact .inr trivial | exact .inl rfl) ?_) | (refine T_addi64 hN rfl rfl (by omega) (by first | exact .inr trivial | exact .inl rfl) ?_) | (refine T_lss hN rfl rfl (by first | exact .inr trivial | exact .inl rfl) ?_))) | (refine is_call ?_; (first | (refine T_len hN rfl (by first | exact .inr trivial | exact .inl rfl) ?_))) | (refine is_indexAddr ?_; (first | (refine T_indexAddr hN rfl rfl (by omega) (by first | exact .inr trivial | exact .inl rfl) ?_)))))
          | (refine isC ?_; (first | (refine C_seq ?_) | (refine C_rgn ?_) | (refine C_if hN rfl (fun hb => ?_) (fun hb => ?_) <;> ((first | (exfalso; omega) | (exfalso; exact hb rfl) | (exfalso; exact hb (fun h => h rfl)) | ((with_reducible refine absurd ?_ hb); (repeat' (first | exact trivial | refine And.intro rfl ?_)); done) | (replace hb := Classical.not_not.1 hb) | skip))) | (refine C_skip ?_) | (refine C_ret ?_) | (refine C_block ?_) | (refine C_draw (id := 6) [0, 0, 0, 1, 0, 0, 0, 1] Any Try.mixed (by kernel_rfl) trivial ?_; replace hT := hT.drew)))
          | (refine isE ?_; (first | (refine E_thn ?_) | (refine E_thn_ret ?_) | (refine E_blk ?_) | (refine E_blk_ret ?_) | (refine E_lp_ret ?_) | (refine E_ret hN Try.results59 (.tmp rfl .nil) ?_))))
        all_goals first
          | exact E_mk hN (j + 1) ⟨rfl, rfl, evI rfl (by omega), trivial⟩ ⟨⟨by omega, take_eq_succ ha hm1 he (by assumption), hT⟩, by omega⟩
          | exact ⟨ret_bf (fun h => by subst h; rw [ha] at hm1; exact absurd (Option.some.inj hm1) (by assumption)), hT.nil.forget (fun _ h => by cases h)⟩
  · refine enter [(0, _), (1, _)] Try.func59 rfl Try.ntmps59 (Nat.le_of_ble_eq_true rfl) rfl ?_; intro a0 hN
    repeat' (first
      | (refine isT ?_; (first | (refine T_assign hN rfl (by first | exact .inr trivial | exact .inl rfl) ?_) | (refine T_move hN rfl (by first | exact .inr trivial | exact .inl rfl) ?_) | (refine T_nil ?_) | (refine is_binOp ?_; (first | (refine T_neq hN rfl rfl (by first | exact .inr trivial | exact .inl rfl) ?_))) | (refine is_call ?_; (first | (refine T_len hN rfl (by first | exact .inr trivial | exact .inl rfl) ?_)))))
      | (refine isC ?_; (first | (refine C_seq ?_) | (refine C_rgnk (id := 0) hN [(0, _), (1, _)] ⟨rfl, rfl, trivial⟩ ?_; clear hN; intro a0 hN) | (refine C_rgnk (id := 1) hN [(0, _), (1, _), (4, _)] ⟨rfl, rfl, rfl, trivial⟩ ?_; clear hN; intro a0 hN) | (refine C_rgnk (id := 2) hN [(0, _), (1, _), (4, _), (10, _)] ⟨rfl, rfl, rfl, rfl, trivial⟩ ?_; clear hN; intro a0 hN) | (refine C_if hN rfl (fun hb => ?_) (fun hb => ?_) <;> ((first | (exfalso; omega) | (exfalso; exact hb rfl) | (exfalso; exact hb (fun h => h rfl)) | ((with_reducible refine absurd ?_ hb); (repeat' (first | exact trivial | refine And.intro rfl ?_)); done) | (replace hb := Classical.not_not.1 hb) | skip))) | (refine C_ret ?_)))
      | (refine isE ?_; (first | (refine E_thn ?_) | (refine E_thn_ret ?_) | (refine E_ret hN Try.results59 (.tmp rfl .nil) ?_))))
    all_goals exact ⟨ret_bf (fun h => hlen (by rw [h])), hT.nil.forget (fun _ h => by cases h)⟩
end Go.Proofs.Yteikjachfafadaa
