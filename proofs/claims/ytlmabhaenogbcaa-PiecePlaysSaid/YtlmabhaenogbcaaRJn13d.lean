/- THE WALK of the document's joiner: Take of a part that is not there. -/
import Derived.Test.YtlmabhaenogbcaaRJn13m
import Derived.Test.YtlmabhaenogbcaaJn13f
namespace Go.Proofs.Ytlmabhaenogbcaa
open Go.RowKit Go.Fp
attribute [local irreducible] Go.Calls
set_option maxRecDepth 100000
set_option maxHeartbeats 8000000
theorem sumL_take (l : List (Nat × List UInt8)) (i : Nat) : sumL (l.take i) ≤ sumL l := by
  have h : sumL l = sumL (l.take i) + sumL (l.drop i) := by
    conv => lhs; rw [← List.take_append_drop i l]
    simp only [sumL, List.map_append, List.sum_append]
  omega
section
variable (g2 g3 g7 id k a : Nat) (x : Option Addr) (part : List UInt8) (c : Nat) (xr : Option Addr) (cr : Nat) (rs : List Pr) (f : List Nat) (w w1 : World) {m : List Ob}
  (hT : Tk f w w1 (RMidO g2 g3 g7 id k a k x part c xr cr rs) m) (hok : RJok m ⟨true, false, id, k, rs.map kvR⟩ rs)
include hT hok
theorem rmid_big (hf : rs.find? (fun r => r.p.at_ == (a : Int)) = none) (hp : part.length ≤ 4096) (hs : sumL (rs.map kvR) ≤ 16384) (hbig : 16384 < sumL (rs.map kvR) + part.length) : RMid g2 g3 g7 id k a k (rs.map kvR) part f w w1 m := by
  have hpv : partV rs a = (zeroPc, false) := by unfold partV; rw [hf]
  have hf2 := find_kvR a hok.at_
  rw [hf] at hf2
  have hfew := hok.few
  have cP := fun ww h => rpc_Part true false id k xr cr rs (by omega) a ww h
  rw [hpv] at cP
  have hgo : goJ ⟨true, false, id, k, rs.map kvR⟩ ⟨id, a, k, part⟩ = ([], false, 8, ⟨true, true, id, k, rs.map kvR⟩) := by
    simp [goJ, hf2, hbig]
  intro a0 hN
  rw [hgo]
  refine C_seq ?_
  repeat' (first
    | (refine isT ?_; (first | (refine T_assign hN rfl (by first | exact .inr trivial | exact .inl rfl) ?_) | (refine T_extract hN rfl rfl (by first | exact .inr trivial | exact .inl rfl) ?_) | (refine T_fieldAddr hN rfl (by first | exact .inr trivial | exact .inl rfl) ?_) | (refine T_move hN rfl (by first | exact .inr trivial | exact .inl rfl) ?_) | (refine T_nil ?_) | (refine is_load ?_; (first | (refine T_load hN rfl (hT.has 1 rfl) rfl (by first | exact .inl rfl | exact .inr ⟨by decide, trivial⟩) ?_) | (refine T_load hN rfl (hT.has 2 rfl) rfl (by first | exact .inl rfl | exact .inr ⟨by decide, trivial⟩) ?_) | (refine T_loadn (t := 41) (us := [_, _, _, _, _]) hN rfl (hT.has 2 rfl) rfl rfl (by first | exact .inl rfl | exact .inr ⟨by decide, trivial⟩) ?_))) | (refine is_binOp ?_; (first | (refine T_neq hN rfl rfl (by first | exact .inr trivial | exact .inl rfl) ?_))) | (refine is_call ?_; (first | (refine is_call ?_; refine T_call (f := 26) hN rfl (by decide) (cP _ (hT.ord 3 rfl)) ?_; rintro e ww ⟨rfl, hf⟩; replace hT := hT.same hf; clear hf; refine ⟨_, rfl, (by first | exact trivial | ((repeat' (first | exact hT.has 0 rfl | exact hT.has 1 rfl | exact hT.has 2 rfl | exact hT.has 3 rfl | exact hT.has 4 rfl | exact hT.has 5 rfl | exact hT.ord 0 rfl | exact hT.ord 1 rfl | exact hT.ord 2 rfl | exact hT.ord 3 rfl | exact hT.ord 4 rfl | exact hT.ord 5 rfl | exact hT.mrd (by assumption) | refine And.intro ?_ ?_)); done)), ?_⟩) | (refine T_len hN rfl (by first | exact .inr trivial | exact .inl rfl) ?_))) | (refine is_store ?_; (first | (refine T_storen hN hT 0 rfl rfl rfl rfl rfl rfl (by decide) ?_; clear hT; intro ww hT; refine ⟨(by first | exact trivial), ?_⟩))) | (refine is_alloc ?_; (first | (refine T_alloc hN hT (by decide) ?_; clear hT; intro g ww hT; refine ⟨(by first | exact trivial), ?_⟩)))))
    | (refine isC ?_; (first | (refine C_seq ?_) | (refine C_rgn ?_) | (refine C_false hN rfl ?_) | (refine C_if hN rfl (fun hb => ?_) (fun hb => ?_) <;> ((first | (exfalso; omega) | (exfalso; exact hb rfl) | (exfalso; exact hb (fun h => h rfl)) | ((with_reducible refine absurd ?_ hb); (repeat' (first | exact trivial | refine And.intro rfl ?_)); done) | (replace hb := Classical.not_not.1 hb) | skip))) | (refine C_skip ?_) | (refine C_block ?_)))
    | (refine isE ?_; (first | (refine E_thn ?_))))
  all_goals
    refine C_loop hN (X := Nat) (fun i => [(2, .pointer (some ⟨g2, 0, none⟩)), (3, .pointer (some ⟨g3, 0, none⟩)), (7, .pointer (some ⟨g7, 0, none⟩)), (10, .int .i64 ((part.length + sumL ((rs.map kvR).take i) : Nat) : Int)), (11, .int .i64 i)])
      (fun i w1 => i ≤ rs.length ∧ Tk f w w1 (RMidO g2 g3 g7 id k a k x part c xr cr rs) m) (fun i => rs.length - i) 0 ⟨rfl, rfl, rfl, evI rfl (by simp [sumL]), rfl, trivial⟩ ⟨Nat.zero_le _, hT.drop⟩ ?_
    clear hN hT
    rintro i a0 ww hN ⟨hi, hT⟩
    by_cases hi0 : i = rs.length
    · subst hi0
      have e : (rs.map kvR).take rs.length = rs.map kvR := List.take_of_length_le (by simp)
      simp only [e] at *
      repeat' (first
        | (refine isT ?_; (first | (refine T_assign hN rfl (by first | exact .inr trivial | exact .inl rfl) ?_) | (refine T_fieldAddr hN rfl (by first | exact .inr trivial | exact .inl rfl) ?_) | (refine T_move hN rfl (by first | exact .inr trivial | exact .inl rfl) ?_) | (refine T_nil ?_) | (refine T_nild ?_) | (refine is_load ?_; (first | (refine T_load hN rfl (hT.has 2 rfl) rfl (by first | exact .inl rfl | exact .inr ⟨by decide, trivial⟩) ?_) | (refine T_loadn (t := 41) (us := [_, _, _, _, _]) hN rfl (hT.has 2 rfl) rfl rfl (by first | exact .inl rfl | exact .inr ⟨by decide, trivial⟩) ?_))) | (refine is_binOp ?_; (first | (refine T_gtr hN rfl rfl (by first | exact .inr trivial | exact .inl rfl) ?_) | (refine T_lss hN rfl rfl (by first | exact .inr trivial | exact .inl rfl) ?_))) | (refine is_call ?_; (first | (refine T_len hN rfl (by first | exact .inr trivial | exact .inl rfl) ?_))) | (refine is_store ?_; (first | (refine T_store hN hT 2 rfl rfl rfl rfl rfl (by decide) ?_; clear hT; intro ww hT; refine ⟨(by first | exact trivial), ?_⟩) | (refine T_storen hN hT 0 rfl rfl rfl rfl rfl rfl (by decide) ?_; clear hT; intro ww hT; refine ⟨(by first | exact trivial), ?_⟩)))))
        | (refine isC ?_; (first | (refine C_seq ?_) | (refine C_rgn ?_) | (refine C_if hN rfl (fun hb => ?_) (fun hb => ?_) <;> ((first | (exfalso; omega) | (exfalso; exact hb rfl) | (exfalso; exact hb (fun h => h rfl)) | ((with_reducible refine absurd ?_ hb); (repeat' (first | exact trivial | refine And.intro rfl ?_)); done) | (replace hb := Classical.not_not.1 hb) | skip))) | (refine C_ret ?_) | (refine C_exit ?_) | (refine C_draw (id := 21) [1, 0, 0, 0] Any Try.mixed (by kernel_rfl) trivial ?_; replace hT := hT.drew)))
        | (refine isE ?_; (first | (refine E_thn ?_) | (refine E_thn_ret ?_) | (refine E_thn_exit ?_) | (refine E_blk_hit ?_) | (refine E_lp_exit ?_) | (refine E_ret hN Try.results16 (.tmp rfl (.tmp rfl (.tmp rfl (.cell rfl (run_loadAll (hT.has 0 rfl) rfl rfl) .nil)))) ?_))))
      all_goals exact ⟨none, 0, xr, cr, rs, rfl, ⟨hok.kv, hok.at_, hok.mem, hok.few⟩, (hT.sel [3] rfl).addnil 5 1 |>.swap⟩
    · obtain ⟨B, rfl⟩ := hT.own_addr 3 rfl (by omega)
      obtain ⟨r, hr⟩ : ∃ r, rs[i]? = some r := ⟨_, List.getElem?_eq_getElem (by omega)⟩
      have hcell : ∀ w : World, Rdz w (some ⟨B, 0, none⟩) rs.length 4 (rs.map Pr.cells).flatten → w.cell? ⟨B, 0 + i * 4 + 3, none⟩ = some (.slice r.x r.p.part.length r.c) := fun w h => pr_load h hr 3 _ rfl
      have hsn : sumL ((rs.map kvR).take (i + 1)) = sumL ((rs.map kvR).take i) + r.p.part.length := by
        rw [List.take_add_one, List.getElem?_map, hr]
        exact sumL_add _ _
      have hle := sumL_take (rs.map kvR) (i + 1)
      repeat' (first
        | (refine isT ?_; (first | (refine T_assign hN rfl (by first | exact .inr trivial | exact .inl rfl) ?_) | (refine T_fieldAddr hN rfl (by first | exact .inr trivial | exact .inl rfl) ?_) | (refine T_move hN rfl (by first | exact .inr trivial | exact .inl rfl) ?_) | (refine T_nil ?_) | (refine is_load ?_; (first | (refine T_loadc hN rfl (hcell _ (hT.ord 3 rfl)) (by first | exact .inl rfl | exact .inr ⟨by decide, trivial⟩) ?_) | (refine T_load hN rfl (hT.has 2 rfl) rfl (by first | exact .inl rfl | exact .inr ⟨by decide, trivial⟩) ?_))) | (refine is_binOp ?_; (first | (refine T_addi64 hN rfl rfl (by omega) (by first | exact .inr trivial | exact .inl rfl) ?_) | (refine T_lss hN rfl rfl (by first | exact .inr trivial | exact .inl rfl) ?_))) | (refine is_call ?_; (first | (refine T_len hN rfl (by first | exact .inr trivial | exact .inl rfl) ?_))) | (refine is_indexAddr ?_; (first | (refine T_indexAddr hN rfl rfl (by omega) (by first | exact .inr trivial | exact .inl rfl) ?_)))))
        | (refine isC ?_; (first | (refine C_seq ?_) | (refine C_rgn ?_) | (refine C_if hN rfl (fun hb => ?_) (fun hb => ?_) <;> ((first | (exfalso; omega) | (exfalso; exact hb rfl) | (exfalso; exact hb (fun h => h rfl)) | ((with_reducible refine absurd ?_ hb); (repeat' (first | exact trivial | refine And.intro rfl ?_)); done) | (replace hb := Classical.not_not.1 hb) | skip))) | (refine C_skip ?_) | (refine C_block ?_)))
        | (refine isE ?_; (first | (refine E_thn ?_) | (refine E_blk ?_))))
      all_goals exact E_mk hN (i + 1) ⟨rfl, rfl, rfl, evI rfl (by rw [hsn]; omega), evI rfl (by omega), trivial⟩ ⟨⟨by omega, hT⟩, by omega⟩
end
end Go.Proofs.Ytlmabhaenogbcaa
