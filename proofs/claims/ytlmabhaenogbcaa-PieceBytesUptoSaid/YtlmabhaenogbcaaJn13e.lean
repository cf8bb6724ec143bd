/- THE WALK of a joiner: Take, a part that is too long, one more part. -/
import Derived.Test.YtlmabhaenogbcaaJn13m
namespace Go.Proofs.Ytlmabhaenogbcaa
open Go.RowKit Go.Fp
attribute [local irreducible] Go.Calls
set_option maxRecDepth 100000
set_option maxHeartbeats 8000000
theorem ptOk_add {P : List Pt} {k a c1 : Nat} {x1 : Option Addr} {part : List UInt8} (h : PtOk P k) (hg : gotB P a = false) (hak : a < k) (hf : P.length + 1 < k) (hs : sumL (P.map Pt.kv) + part.length ≤ 16384) (hn : x1 = none → part.length = 0 ∧ c1 = 0) : PtOk (P ++ [⟨a, x1, c1, part⟩]) k where
  nodup := by
    rw [List.map_append, List.nodup_append]
    refine ⟨h.nodup, by simp, fun b hb c hc => ?_⟩
    simp only [List.map_cons, List.map_nil, List.mem_singleton] at hc
    subst hc
    intro e
    subst e
    rw [gotB_mem.2 hb] at hg
    cases hg
  lt := fun q hq => by
    rcases List.mem_append.1 hq with hq | hq
    · exact h.lt q hq
    · rw [List.mem_singleton] at hq; subst hq; exact hak
  few := by simp; omega
  k32 := h.k32
  sum := by rw [List.map_append]; exact Nat.le_trans (Nat.le_of_eq (sumL_add (P.map Pt.kv) (a, part))) hs
  nn := fun q hq => by
    rcases List.mem_append.1 hq with hq | hq
    · exact h.nn q hq
    · rw [List.mem_singleton] at hq; subst hq; exact hn
section
variable (q g id k a : Nat) (P : List Pt) (x : Option Addr) (part : List UInt8) (c : Nat) (f : List Nat) (w w1 : World) {m : List Ob}
theorem mid_big (hak : a < k) (hg : gotB P a = false) (hbig : 16384 < sumL (P.map Pt.kv) + part.length) (hp : part.length ≤ 4096) (hT : Tk f w w1 (MidO q g id k a P k x part c) (Ob.rd x part.length 1 (u8s part) :: m)) : Mid q g id k a P k x part c f w w1 m := by
  obtain ⟨xp, cp, xg, cg, hok, hT2⟩ := JOn.open hT
  clear hT
  have hT := hT2
  clear hT2
  obtain ⟨G, rfl⟩ := hT.own_addr 2 rfl (by omega)
  obtain ⟨B, rfl⟩ := hT.own_addr 1 rfl (by omega)
  have e1 : (0 + (a : Int).toNat * 1) = a := by omega
  have hat : ((a : Int)).toNat = a := by omega
  have hf : (P.map Pt.kv).find? (fun q => q.1 == a) = none := by rw [find_kv, find_none hg]; rfl
  have hcG : ∀ w : World, Rdz w (some ⟨G, 0, none⟩) k 1 (rowG P k) → w.cell? ⟨G, 0 + (a : Int).toNat * 1, none⟩ = some (.bool false) := fun w h => by
    rw [e1]; have := h.cell rfl (j := a) (rowG_get hak); rw [Nat.zero_add, hg] at this; exact this
  have hsum := hok.sum
  have hfew := hok.few
  have hk32 := hok.k32
  have hgo : goJ ⟨true, false, id, k, P.map Pt.kv⟩ ⟨id, a, k, part⟩ = ([], false, 8, ⟨true, true, id, k, P.map Pt.kv⟩) := by
    simp [goJ, hat, hf, hbig]
  intro a0 hN
  rw [hgo]
  refine C_seq ?_
  repeat' (first
    | (refine isT ?_; (first | (refine isGuard ?_; (first | (refine T_no hN rfl rfl rfl rfl ?_))) | (refine T_assign hN rfl (by first | exact .inr trivial | exact .inl rfl) ?_) | (refine T_fieldAddr hN rfl (by first | exact .inr trivial | exact .inl rfl) ?_) | (refine T_move hN rfl (by first | exact .inr trivial | exact .inl rfl) ?_) | (refine T_nilCheck hN rfl (by first | exact .inr trivial | exact .inl rfl) ?_) | (refine T_nil ?_) | (refine T_nild ?_) | (refine is_load ?_; (first | (refine T_loadc hN rfl (hcG _ (hT.ord 2 rfl)) (by first | exact .inl rfl | exact .inr ⟨by decide, trivial⟩) ?_) | (refine T_load hN rfl (hT.has 0 rfl) rfl (by first | exact .inl rfl | exact .inr ⟨by decide, trivial⟩) ?_) | (refine T_load hN rfl (hT.has 4 rfl) rfl (by first | exact .inl rfl | exact .inr ⟨by decide, trivial⟩) ?_))) | (refine is_binOp ?_; (first | (refine T_addi64 hN rfl rfl (by omega) (by first | exact .inr trivial | exact .inl rfl) ?_) | (refine T_gtr hN rfl rfl (by first | exact .inr trivial | exact .inl rfl) ?_) | (refine T_neq hN rfl rfl (by first | exact .inr trivial | exact .inl rfl) ?_))) | (refine is_pick ?_; (first | (refine T_pick0 hN rfl rfl (by first | exact .inr trivial | exact .inl rfl) ?_))) | (refine is_call ?_; (first | (refine T_len hN rfl (by first | exact .inr trivial | exact .inl rfl) ?_))) | (refine is_store ?_; (first | (refine T_store hN hT 0 rfl rfl rfl rfl rfl (by decide) ?_; clear hT; intro ww hT; refine ⟨(by first | exact trivial), ?_⟩))) | (refine is_indexAddr ?_; (first | (refine T_indexAddrz hN rfl rfl (by omega) (by first | exact .inr trivial | exact .inl rfl) ?_) | (refine T_indexAddrz hN rfl rfl (by omega) (by first | exact .inr trivial | exact .inl rfl) ?_)))))
    | (refine isC ?_; (first | (refine C_seq ?_) | (refine C_rgn ?_) | (refine C_false hN rfl ?_) | (refine C_if hN rfl (fun hb => ?_) (fun hb => ?_) <;> ((first | (exfalso; omega) | (exfalso; exact hb rfl) | (exfalso; exact hb (fun h => h rfl)) | ((with_reducible refine absurd ?_ hb); (repeat' (first | exact trivial | refine And.intro rfl ?_)); done) | (replace hb := Classical.not_not.1 hb) | skip))) | (refine C_ret ?_) | (refine C_block ?_) | (refine C_draw (id := 9) [0, 1, 0, 0, 0, 1] Any Try.mixed (by kernel_rfl) trivial ?_; replace hT := hT.drew) | (refine C_draw (id := 11) [0, 0, 0, 1, 0, 1, 0, 1, 0, 0, 0, 0, 1, 0, 1, 0, 1, 1, 0, 1, 1] Any Try.mixed (by kernel_rfl) trivial ?_; replace hT := hT.drew) | (refine C_draw (id := 13) [0, 0, 0, 1, 0, 1] Any Try.mixed (by kernel_rfl) trivial ?_; replace hT := hT.drew) | (refine C_draw (id := 15) [0, 0, 0, 1, 0, 1, 0] Any Try.mixed (by kernel_rfl) trivial ?_; replace hT := hT.drew)))
    | (refine isE ?_; (first | (refine E_thn ?_) | (refine E_thn_ret ?_) | (refine E_blk_ret ?_) | (refine E_ret hN Try.results15 (.tmp rfl (.tmp rfl (.tmp rfl .nil))) ?_))))
  all_goals exact ⟨none, 0, rfl, ((J.shutOff (s := ⟨true, true, id, k, P.map Pt.kv⟩) (JOff.shut hT.fst) (fun h => by cases h.2)).addnil 5 1).swap⟩
theorem mid_add (hak : a < k) (hg : gotB P a = false) (hbig : ¬ 16384 < sumL (P.map Pt.kv) + part.length) (hp : part.length ≤ 4096) (hx : x = none → part.length = 0 ∧ c = 0) (hfull : P.length + 1 < k) (hT : Tk f w w1 (MidO q g id k a P k x part c) (Ob.rd x part.length 1 (u8s part) :: m)) : Mid q g id k a P k x part c f w w1 m := by
  obtain ⟨xp, cp, xg, cg, hok, hT2⟩ := JOn.open hT
  clear hT
  have hT := hT2
  clear hT2
  obtain ⟨G, rfl⟩ := hT.own_addr 2 rfl (by omega)
  obtain ⟨B, rfl⟩ := hT.own_addr 1 rfl (by omega)
  have e1 : (0 + (a : Int).toNat * 1) = a := by omega
  have hat : ((a : Int)).toNat = a := by omega
  have hf : (P.map Pt.kv).find? (fun q => q.1 == a) = none := by rw [find_kv, find_none hg]; rfl
  have hcG : ∀ w : World, Rdz w (some ⟨G, 0, none⟩) k 1 (rowG P k) → w.cell? ⟨G, 0 + (a : Int).toNat * 1, none⟩ = some (.bool false) := fun w h => by
    rw [e1]; have := h.cell rfl (j := a) (rowG_get hak); rw [Nat.zero_add, hg] at this; exact this
  have hsum := hok.sum
  have hfew := hok.few
  have hk32 := hok.k32
  have hgo : goJ ⟨true, false, id, k, P.map Pt.kv⟩ ⟨id, a, k, part⟩ = ([], false, 0, ⟨true, false, id, k, P.map Pt.kv ++ [(a, part)]⟩) := by
    simp [goJ, hat, hf, hbig, hfull]
  intro a0 hN
  rw [hgo]
  refine C_seq ?_
  repeat' (first
    | (refine isT ?_; (first | (refine isGuard ?_; (first | (refine T_no hN rfl rfl rfl rfl ?_))) | (refine T_assign hN rfl (by first | exact .inr trivial | exact .inl rfl | (refine .inr ?_; (repeat' (first | exact hT.has 0 rfl | exact hT.has 1 rfl | exact hT.has 2 rfl | exact hT.has 3 rfl | exact hT.has 4 rfl | exact hT.has 5 rfl | exact hT.ord 0 rfl | exact hT.ord 1 rfl | exact hT.ord 2 rfl | exact hT.ord 3 rfl | exact hT.ord 4 rfl | exact hT.ord 5 rfl | refine And.intro ?_ ?_)); done)) ?_) | (refine T_fieldAddr hN rfl (by first | exact .inr trivial | exact .inl rfl | (refine .inr ?_; (repeat' (first | exact hT.has 0 rfl | exact hT.has 1 rfl | exact hT.has 2 rfl | exact hT.has 3 rfl | exact hT.has 4 rfl | exact hT.has 5 rfl | exact hT.ord 0 rfl | exact hT.ord 1 rfl | exact hT.ord 2 rfl | exact hT.ord 3 rfl | exact hT.ord 4 rfl | exact hT.ord 5 rfl | refine And.intro ?_ ?_)); done)) ?_) | (refine T_move hN rfl (by first | exact .inr trivial | exact .inl rfl | (refine .inr ?_; (repeat' (first | exact hT.has 0 rfl | exact hT.has 1 rfl | exact hT.has 2 rfl | exact hT.has 3 rfl | exact hT.has 4 rfl | exact hT.has 5 rfl | exact hT.ord 0 rfl | exact hT.ord 1 rfl | exact hT.ord 2 rfl | exact hT.ord 3 rfl | exact hT.ord 4 rfl | exact hT.ord 5 rfl | refine And.intro ?_ ?_)); done)) ?_) | (refine T_nilCheck hN rfl (by first | exact .inr trivial | exact .inl rfl | (refine .inr ?_; (repeat' (first | exact hT.has 0 rfl | exact hT.has 1 rfl | exact hT.has 2 rfl | exact hT.has 3 rfl | exact hT.has 4 rfl | exact hT.has 5 rfl | exact hT.ord 0 rfl | exact hT.ord 1 rfl | exact hT.ord 2 rfl | exact hT.ord 3 rfl | exact hT.ord 4 rfl | exact hT.ord 5 rfl | refine And.intro ?_ ?_)); done)) ?_) | (refine T_nil ?_) | (refine T_nild ?_) | (refine is_load ?_; (first | (refine T_loadc hN rfl (hcG _ (hT.ord 2 rfl)) (by first | exact .inl rfl | exact .inr ⟨by decide, trivial⟩) ?_) | (refine T_loadH hN rfl (fun _ h => h.1) rfl rfl ?_) | (refine T_loadH hN rfl (fun _ h => h.2) rfl rfl ?_) | (refine T_load hN rfl (hT.has 0 rfl) rfl (by first | exact .inl rfl | exact .inr ⟨by decide, trivial⟩ | (refine .inr ⟨by decide, ?_⟩; (repeat' (first | exact hT.has 0 rfl | exact hT.has 1 rfl | exact hT.has 2 rfl | exact hT.has 3 rfl | exact hT.has 4 rfl | exact hT.has 5 rfl | exact hT.ord 0 rfl | exact hT.ord 1 rfl | exact hT.ord 2 rfl | exact hT.ord 3 rfl | exact hT.ord 4 rfl | exact hT.ord 5 rfl | refine And.intro ?_ ?_)); done)) ?_) | (refine T_load hN rfl (hT.has 1 rfl) rfl (by first | exact .inl rfl | exact .inr ⟨by decide, trivial⟩ | (refine .inr ⟨by decide, ?_⟩; (repeat' (first | exact hT.has 0 rfl | exact hT.has 1 rfl | exact hT.has 2 rfl | exact hT.has 3 rfl | exact hT.has 4 rfl | exact hT.has 5 rfl | exact hT.ord 0 rfl | exact hT.ord 1 rfl | exact hT.ord 2 rfl | exact hT.ord 3 rfl | exact hT.ord 4 rfl | exact hT.ord 5 rfl | refine And.intro ?_ ?_)); done)) ?_) | (refine T_load hN rfl (hT.has 4 rfl) rfl (by first | exact .inl rfl | exact .inr ⟨by decide, trivial⟩ | (refine .inr ⟨by decide, ?_⟩; (repeat' (first | exact hT.has 0 rfl | exact hT.has 1 rfl | exact hT.has 2 rfl | exact hT.has 3 rfl | exact hT.has 4 rfl | exact hT.has 5 rfl | exact hT.ord 0 rfl | exact hT.ord 1 rfl | exact hT.ord 2 rfl | exact hT.ord 3 rfl | exact hT.ord 4 rfl | exact hT.ord 5 rfl | refine And.intro ?_ ?_)); done)) ?_) | (refine T_load hN rfl (hT.has 5 rfl) rfl (by first | exact .inl rfl | exact .inr ⟨by decide, trivial⟩ | (refine .inr ⟨by decide, ?_⟩; (repeat' (first | exact hT.has 0 rfl | exact hT.has 1 rfl | exact hT.has 2 rfl | exact hT.has 3 rfl | exact hT.has 4 rfl | exact hT.has 5 rfl | exact hT.ord 0 rfl | exact hT.ord 1 rfl | exact hT.ord 2 rfl | exact hT.ord 3 rfl | exact hT.ord 4 rfl | exact hT.ord 5 rfl | refine And.intro ?_ ?_)); done)) ?_))) | (refine is_binOp ?_; (first | (refine T_addi64 hN rfl rfl (by omega) (by first | exact .inr trivial | exact .inl rfl | (refine .inr ?_; (repeat' (first | exact hT.has 0 rfl | exact hT.has 1 rfl | exact hT.has 2 rfl | exact hT.has 3 rfl | exact hT.has 4 rfl | exact hT.has 5 rfl | exact hT.ord 0 rfl | exact hT.ord 1 rfl | exact hT.ord 2 rfl | exact hT.ord 3 rfl | exact hT.ord 4 rfl | exact hT.ord 5 rfl | refine And.intro ?_ ?_)); done)) ?_) | (refine T_gtr hN rfl rfl (by first | exact .inr trivial | exact .inl rfl | (refine .inr ?_; (repeat' (first | exact hT.has 0 rfl | exact hT.has 1 rfl | exact hT.has 2 rfl | exact hT.has 3 rfl | exact hT.has 4 rfl | exact hT.has 5 rfl | exact hT.ord 0 rfl | exact hT.ord 1 rfl | exact hT.ord 2 rfl | exact hT.ord 3 rfl | exact hT.ord 4 rfl | exact hT.ord 5 rfl | refine And.intro ?_ ?_)); done)) ?_) | (refine T_lss hN rfl rfl (by first | exact .inr trivial | exact .inl rfl | (refine .inr ?_; (repeat' (first | exact hT.has 0 rfl | exact hT.has 1 rfl | exact hT.has 2 rfl | exact hT.has 3 rfl | exact hT.has 4 rfl | exact hT.has 5 rfl | exact hT.ord 0 rfl | exact hT.ord 1 rfl | exact hT.ord 2 rfl | exact hT.ord 3 rfl | exact hT.ord 4 rfl | exact hT.ord 5 rfl | refine And.intro ?_ ?_)); done)) ?_) | (refine T_neq hN rfl rfl (by first | exact .inr trivial | exact .inl rfl | (refine .inr ?_; (repeat' (first | exact hT.has 0 rfl | exact hT.has 1 rfl | exact hT.has 2 rfl | exact hT.has 3 rfl | exact hT.has 4 rfl | exact hT.has 5 rfl | exact hT.ord 0 rfl | exact hT.ord 1 rfl | exact hT.ord 2 rfl | exact hT.ord 3 rfl | exact hT.ord 4 rfl | exact hT.ord 5 rfl | refine And.intro ?_ ?_)); done)) ?_))) | (refine is_pick ?_; (first | (refine T_pick0 hN rfl rfl (by first | exact .inr trivial | exact .inl rfl | (refine .inr ?_; (repeat' (first | exact hT.has 0 rfl | exact hT.has 1 rfl | exact hT.has 2 rfl | exact hT.has 3 rfl | exact hT.has 4 rfl | exact hT.has 5 rfl | exact hT.ord 0 rfl | exact hT.ord 1 rfl | exact hT.ord 2 rfl | exact hT.ord 3 rfl | exact hT.ord 4 rfl | exact hT.ord 5 rfl | refine And.intro ?_ ?_)); done)) ?_))) | (refine is_call ?_; (first | (refine T_append hN hT 0 (by rfl) (by rfl) rfl rfl rfl hx (hT.rrd 0 rfl) (u8s_all1 part) (by unfold maxLen; omega) (by omega) (by decide) ?_; clear hT; intro x1 c1 ww hT; refine ⟨⟨hT.has 1 rfl, hT.has 5 rfl⟩, ?_⟩; simp only [Nat.zero_add, List.nil_append] at hT ⊢) | (refine T_len hN rfl (by first | exact .inr trivial | exact .inl rfl | (refine .inr ?_; (repeat' (first | exact hT.has 0 rfl | exact hT.has 1 rfl | exact hT.has 2 rfl | exact hT.has 3 rfl | exact hT.has 4 rfl | exact hT.has 5 rfl | exact hT.ord 0 rfl | exact hT.ord 1 rfl | exact hT.ord 2 rfl | exact hT.ord 3 rfl | exact hT.ord 4 rfl | exact hT.ord 5 rfl | refine And.intro ?_ ?_)); done)) ?_))) | (refine is_store ?_; (first | (refine T_storeo hN hT 3 rfl rfl rfl (by omega) rfl (by decide) ?_; clear hT; intro ww hT; refine ⟨⟨hT.has 1 rfl, hT.has 5 rfl⟩, ?_⟩) | (refine T_storeo hN hT 2 rfl rfl rfl (by omega) rfl (by decide) ?_; clear hT; intro ww hT; refine ⟨⟨hT.has 1 rfl, hT.has 5 rfl⟩, ?_⟩) | (refine T_store hN hT 1 rfl rfl rfl rfl rfl (by decide) ?_; clear hT; intro ww hT; refine ⟨(by first | exact trivial | ((repeat' (first | exact hT.has 0 rfl | exact hT.has 1 rfl | exact hT.has 2 rfl | exact hT.has 3 rfl | exact hT.has 4 rfl | exact hT.has 5 rfl | exact hT.ord 0 rfl | exact hT.ord 1 rfl | exact hT.ord 2 rfl | exact hT.ord 3 rfl | exact hT.ord 4 rfl | exact hT.ord 5 rfl | refine And.intro ?_ ?_)); done)), ?_⟩))) | (refine is_indexAddr ?_; (first | (refine T_indexAddrz hN rfl rfl (by omega) (by first | exact .inr trivial | exact .inl rfl) ?_))) | (refine is_buildSlice ?_; (first | (refine T_slice0 hN hT (by decide) ?_; clear hT; intro g ww hT; refine ⟨(by first | exact trivial | ((repeat' (first | exact hT.has 0 rfl | exact hT.has 1 rfl | exact hT.has 2 rfl | exact hT.has 3 rfl | exact hT.has 4 rfl | exact hT.has 5 rfl | exact hT.ord 0 rfl | exact hT.ord 1 rfl | exact hT.ord 2 rfl | exact hT.ord 3 rfl | exact hT.ord 4 rfl | exact hT.ord 5 rfl | refine And.intro ?_ ?_)); done)), ?_⟩)))))
    | (refine isC ?_; (first | (refine C_seq ?_) | (refine C_rgn ?_) | (refine C_false hN rfl ?_) | (refine C_if hN rfl (fun hb => ?_) (fun hb => ?_) <;> ((first | (exfalso; omega) | (exfalso; exact hb rfl) | (exfalso; exact hb (fun h => h rfl)) | ((with_reducible refine absurd ?_ hb); (repeat' (first | exact trivial | refine And.intro rfl ?_)); done) | (replace hb := Classical.not_not.1 hb) | skip))) | (refine C_skip ?_) | (refine C_ret ?_) | (refine C_block ?_) | (refine C_draw (id := 9) [0, 1, 0, 0, 0, 1] Any Try.mixed (by kernel_rfl) trivial ?_; replace hT := hT.drew) | (refine C_draw (id := 11) [0, 0, 0, 1, 0, 1, 0, 1, 0, 0, 0, 0, 1, 0, 1, 0, 1, 1, 0, 1, 1] Any Try.mixed (by kernel_rfl) trivial ?_; replace hT := hT.drew) | (refine C_draw (id := 13) [0, 0, 0, 1, 0, 1] Any Try.mixed (by kernel_rfl) trivial ?_; replace hT := hT.drew) | (refine C_draw (id := 15) [0, 0, 0, 1, 0, 1, 0] Any Try.mixed (by kernel_rfl) trivial ?_; replace hT := hT.drew) | (refine C_draw (id := 18) [0, 0, 0, 0, 0, 0, 0, 0, 0, 0, 0, 0, 2, 0, 0, 2, 0, 2, 0, 2] (fun w1 => Has w1 _ _ (List.toArray _) ∧ Has w1 _ _ (List.toArray _)) Try.mixed (by kernel_rfl) ⟨hT.drew.has 0 rfl, hT.drew.has 4 rfl⟩ ?_; replace hT := hT.drew) | (refine C_draw (id := 19) [0, 0, 0, 1, 0, 1, 0, 0, 0, 0] Any Try.mixed (by kernel_rfl) trivial ?_; replace hT := hT.drew) | (refine C_draw (id := 21) [0, 0, 0, 1, 0, 0, 0, 1] Any Try.mixed (by kernel_rfl) trivial ?_; replace hT := hT.drew)))
    | (refine isE ?_; (first | (refine E_thn ?_) | (refine E_thn_ret ?_) | (refine E_blk ?_) | (refine E_ret hN Try.results15 (.tmp rfl (.tmp rfl (.tmp rfl .nil))) ?_))))
  all_goals
    rw [e1] at hT
    have hrP := rowP_add (P := P) (q := ⟨a, x1, c1, part⟩) (k := k) hg hak
    have hrG := rowG_add (P := P) (q := ⟨a, x1, c1, part⟩) (k := k) hak
    have hnn : x1 = none → part.length = 0 ∧ c1 = 0 := own_nil (hT.owns 0 rfl)
    have hT2 := ((hT.sel [0, 3, 0, 0, 0] rfl).snocAll).rot
    exact ⟨none, 0, rfl, ((J.shutOn (s := ⟨true, false, id, k, P.map Pt.kv ++ [(a, part)]⟩) (P := P ++ [⟨a, x1, c1, part⟩]) (JOn.shut (n := P.length + 1) (t := sumL (P.map Pt.kv) + part.length) (by
      rw [← hrP, ← hrG, List.map_append]; exact hT2) (by simp) (by rw [List.map_append]; exact (sumL_add (P.map Pt.kv) (a, part)).symm) (ptOk_add hok hg hak hfull (by omega) hnn)) ⟨rfl, rfl⟩ (by simp [Pt.kv])).addnil 5 1).swap⟩
end
end Go.Proofs.Ytlmabhaenogbcaa
