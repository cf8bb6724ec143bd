/- THE WALK of a joiner: Take, another number of pieces, a part that is there. -/
import Derived.Test.YtlmabhaenogbcaaJn13m
namespace Go.Proofs.Ytlmabhaenogbcaa
open Go.RowKit Go.Fp
attribute [local irreducible] Go.Calls
set_option maxRecDepth 100000
set_option maxHeartbeats 8000000
section
variable (q g id k a : Nat) (P : List Pt) (x : Option Addr) (part : List UInt8) (c : Nat) (f : List Nat) (w w1 : World) {m : List Ob}
theorem mid_bad (K : Nat) (hk : ¬ (k : Int) = (K : Int)) (hT : Tk f w w1 (MidO q g id k a P K x part c) (Ob.rd x part.length 1 (u8s part) :: m)) : Mid q g id k a P K x part c f w w1 m := by
  obtain ⟨xp, cp, xg, cg, hok, hT2⟩ := JOn.open hT
  clear hT
  have hT := hT2
  clear hT2
  have hgo : goJ ⟨true, false, id, K, P.map Pt.kv⟩ ⟨id, a, k, part⟩ = ([], false, 10, ⟨true, false, id, K, P.map Pt.kv⟩) := by
    unfold goJ; rw [if_pos (by exact hk)]
  intro a0 hN
  rw [hgo]
  refine C_seq ?_
  repeat' (first
    | (refine isT ?_; (first | (refine T_assign hN rfl (by first | exact .inr trivial | exact .inl rfl) ?_) | (refine T_fieldAddr hN rfl (by first | exact .inr trivial | exact .inl rfl) ?_) | (refine T_move hN rfl (by first | exact .inr trivial | exact .inl rfl) ?_) | (refine T_nilCheck hN rfl (by first | exact .inr trivial | exact .inl rfl) ?_) | (refine T_nil ?_) | (refine T_nild ?_) | (refine is_load ?_; (first | (refine T_load hN rfl (hT.has 0 rfl) rfl (by first | exact .inl rfl | exact .inr ⟨by decide, trivial⟩) ?_) | (refine T_load hN rfl (hT.has 4 rfl) rfl (by first | exact .inl rfl | exact .inr ⟨by decide, trivial⟩) ?_))) | (refine is_binOp ?_; (first | (refine T_neq hN rfl rfl (by first | exact .inr trivial | exact .inl rfl) ?_)))))
    | (refine isC ?_; (first | (refine C_seq ?_) | (refine C_rgn ?_) | (refine C_if hN rfl (fun hb => ?_) (fun hb => ?_) <;> ((first | (exfalso; omega) | (exfalso; exact hb rfl) | (exfalso; exact hb (fun h => h rfl)) | ((with_reducible refine absurd ?_ hb); (repeat' (first | exact trivial | refine And.intro rfl ?_)); done) | (replace hb := Classical.not_not.1 hb) | skip))) | (refine C_ret ?_) | (refine C_block ?_) | (refine C_draw (id := 9) [0, 1, 0, 0, 0, 1] Any Try.mixed (by kernel_rfl) trivial ?_; replace hT := hT.drew)))
    | (refine isE ?_; (first | (refine E_thn ?_) | (refine E_thn_ret ?_) | (refine E_blk_ret ?_) | (refine E_ret hN Try.results15 (.tmp rfl (.tmp rfl (.tmp rfl .nil))) ?_))))
  all_goals exact ⟨none, 0, rfl, ((J.shutOn (s := ⟨true, false, id, K, P.map Pt.kv⟩) ((JOn.shut hT rfl rfl hok).fst) ⟨rfl, rfl⟩ rfl).addnil 5 1).swap⟩
theorem mid_same (hak : a < k) (hg : gotB P a = true) (hbs : ∀ r, r ∈ P → r.at_ = a → P.find? (fun q => q.at_ == a) = some r → r.bs = part) (hT : Tk f w w1 (MidO q g id k a P k x part c) (Ob.rd x part.length 1 (u8s part) :: m)) : Mid q g id k a P k x part c f w w1 m := by
  obtain ⟨xp, cp, xg, cg, hok, hT2⟩ := JOn.open hT
  clear hT
  have hT := hT2
  clear hT2
  obtain ⟨G, rfl⟩ := hT.own_addr 2 rfl (by omega)
  obtain ⟨B, rfl⟩ := hT.own_addr 1 rfl (by omega)
  have e1 : (0 + (a : Int).toNat * 1) = a := by omega
  have hat : ((a : Int)).toNat = a := by omega
  obtain ⟨r, hr1, hr2, hr3⟩ := gotB_find hg
  obtain ⟨hr4, hr5⟩ := lookB_slot hr3
  have hf : (P.map Pt.kv).find? (fun q => q.1 == a) = some r.kv := by rw [find_kv, hr3]; rfl
  have hcG : ∀ w : World, Rdz w (some ⟨G, 0, none⟩) k 1 (rowG P k) → w.cell? ⟨G, 0 + (a : Int).toNat * 1, none⟩ = some (.bool true) := fun w h => by
    rw [e1]; have := h.cell rfl (j := a) (rowG_get hak); rw [Nat.zero_add, hg] at this; exact this
  have hcP : ∀ w : World, Rdz w (some ⟨B, 0, none⟩) k 1 (rowP P k) → w.cell? ⟨B, 0 + (a : Int).toNat * 1, none⟩ = some (.slice r.x r.bs.length r.c) := fun w h => by
    rw [e1]; have := h.cell rfl (j := a) (rowP_get hak); rw [Nat.zero_add, hr5] at this; exact this
  have hbs := hbs r hr1 hr2 hr3
  have hgo : goJ ⟨true, false, id, k, P.map Pt.kv⟩ ⟨id, a, k, part⟩ = ([], false, 0, ⟨true, false, id, k, P.map Pt.kv⟩) := by
    simp [goJ, hat, hf, Pt.kv, hbs]
  intro a0 hN
  rw [hgo]
  refine C_seq ?_
  repeat' (first
    | (refine isT ?_; (first | (refine isGuard ?_; (first | (refine T_yes hN rfl rfl rfl ?_))) | (refine T_assign hN rfl (by first | exact .inr trivial | exact .inl rfl) ?_) | (refine T_fieldAddr hN rfl (by first | exact .inr trivial | exact .inl rfl) ?_) | (refine T_move hN rfl (by first | exact .inr trivial | exact .inl rfl) ?_) | (refine T_nilCheck hN rfl (by first | exact .inr trivial | exact .inl rfl) ?_) | (refine T_nil ?_) | (refine T_nild ?_) | (refine is_load ?_; (first | (refine T_loadc hN rfl (hcG _ (hT.ord 2 rfl)) (by first | exact .inl rfl | exact .inr ⟨by decide, trivial⟩) ?_) | (refine T_loadc hN rfl (hcP _ (hT.ord 1 rfl)) (by first | exact .inl rfl | exact .inr ⟨by decide, trivial⟩) ?_) | (refine T_load hN rfl (hT.has 0 rfl) rfl (by first | exact .inl rfl | exact .inr ⟨by decide, trivial⟩) ?_) | (refine T_load hN rfl (hT.has 4 rfl) rfl (by first | exact .inl rfl | exact .inr ⟨by decide, trivial⟩) ?_))) | (refine is_binOp ?_; (first | (refine T_neqbs hN rfl rfl (by first | exact .inr trivial | exact .inl rfl) ?_) | (refine T_neq hN rfl rfl (by first | exact .inr trivial | exact .inl rfl) ?_))) | (refine is_pick ?_; (first | (refine T_pick1 hN rfl rfl (by first | exact .inr trivial | exact .inl rfl) ?_))) | (refine is_indexAddr ?_; (first | (refine T_indexAddrz hN rfl rfl (by omega) (by first | exact .inr trivial | exact .inl rfl) ?_) | (refine T_indexAddrz hN rfl rfl (by omega) (by first | exact .inr trivial | exact .inl rfl) ?_))) | (refine is_convert ?_; (first | (refine T_b2s hN rfl (Tk.slot hT 3 rfl hr1) (by first | exact .inl rfl | exact .inr ⟨by decide, trivial⟩) ?_) | (refine T_b2s hN rfl (hT.rrd 0 rfl) (by first | exact .inl rfl | exact .inr ⟨by decide, trivial⟩) ?_)))))
    | (refine isC ?_; (first | (refine C_seq ?_) | (refine C_rgn ?_) | (refine C_true hN rfl ?_) | (refine C_if hN rfl (fun hb => ?_) (fun hb => ?_) <;> ((first | (exfalso; omega) | (exfalso; exact hb rfl) | (exfalso; exact hb (fun h => h rfl)) | ((with_reducible refine absurd ?_ hb); (repeat' (first | exact trivial | refine And.intro rfl ?_)); done) | (replace hb := Classical.not_not.1 hb) | skip))) | (refine C_ret ?_) | (refine C_block ?_) | (refine C_draw (id := 9) [0, 1, 0, 0, 0, 1] Any Try.mixed (by kernel_rfl) trivial ?_; replace hT := hT.drew) | (refine C_draw (id := 11) [0, 0, 0, 1, 0, 1, 0, 1, 0, 0, 0, 0, 1, 0, 1, 0, 1, 1, 0, 1, 1] Any Try.mixed (by kernel_rfl) trivial ?_; replace hT := hT.drew) | (refine C_draw (id := 13) [0, 0, 0, 1, 0, 1] Any Try.mixed (by kernel_rfl) trivial ?_; replace hT := hT.drew)))
    | (refine isE ?_; (first | (refine E_thn ?_) | (refine E_thn_ret ?_) | (refine E_blk_ret ?_) | (refine E_ret hN Try.results15 (.tmp rfl (.tmp rfl (.tmp rfl .nil))) ?_))))
  all_goals first
    | exact absurd hbs (by assumption)
    | exact ⟨none, 0, rfl, ((J.shutOn (s := ⟨true, false, id, k, P.map Pt.kv⟩) ((JOn.shut hT rfl rfl hok).fst) ⟨rfl, rfl⟩ rfl).addnil 5 1).swap⟩
theorem mid_diff (hak : a < k) (hg : gotB P a = true) (hbs : ∀ r, r ∈ P → r.at_ = a → P.find? (fun q => q.at_ == a) = some r → ¬ r.bs = part) (hT : Tk f w w1 (MidO q g id k a P k x part c) (Ob.rd x part.length 1 (u8s part) :: m)) : Mid q g id k a P k x part c f w w1 m := by
  obtain ⟨xp, cp, xg, cg, hok, hT2⟩ := JOn.open hT
  clear hT
  have hT := hT2
  clear hT2
  obtain ⟨G, rfl⟩ := hT.own_addr 2 rfl (by omega)
  obtain ⟨B, rfl⟩ := hT.own_addr 1 rfl (by omega)
  have e1 : (0 + (a : Int).toNat * 1) = a := by omega
  have hat : ((a : Int)).toNat = a := by omega
  obtain ⟨r, hr1, hr2, hr3⟩ := gotB_find hg
  obtain ⟨hr4, hr5⟩ := lookB_slot hr3
  have hf : (P.map Pt.kv).find? (fun q => q.1 == a) = some r.kv := by rw [find_kv, hr3]; rfl
  have hcG : ∀ w : World, Rdz w (some ⟨G, 0, none⟩) k 1 (rowG P k) → w.cell? ⟨G, 0 + (a : Int).toNat * 1, none⟩ = some (.bool true) := fun w h => by
    rw [e1]; have := h.cell rfl (j := a) (rowG_get hak); rw [Nat.zero_add, hg] at this; exact this
  have hcP : ∀ w : World, Rdz w (some ⟨B, 0, none⟩) k 1 (rowP P k) → w.cell? ⟨B, 0 + (a : Int).toNat * 1, none⟩ = some (.slice r.x r.bs.length r.c) := fun w h => by
    rw [e1]; have := h.cell rfl (j := a) (rowP_get hak); rw [Nat.zero_add, hr5] at this; exact this
  have hbs := hbs r hr1 hr2 hr3
  have hgo : goJ ⟨true, false, id, k, P.map Pt.kv⟩ ⟨id, a, k, part⟩ = ([], false, 7, ⟨true, false, id, k, P.map Pt.kv⟩) := by
    simp [goJ, hat, hf, Pt.kv, hbs]
  intro a0 hN
  rw [hgo]
  refine C_seq ?_
  repeat' (first
    | (refine isT ?_; (first | (refine isGuard ?_; (first | (refine T_yes hN rfl rfl rfl ?_))) | (refine T_assign hN rfl (by first | exact .inr trivial | exact .inl rfl) ?_) | (refine T_fieldAddr hN rfl (by first | exact .inr trivial | exact .inl rfl) ?_) | (refine T_move hN rfl (by first | exact .inr trivial | exact .inl rfl) ?_) | (refine T_nilCheck hN rfl (by first | exact .inr trivial | exact .inl rfl) ?_) | (refine T_nil ?_) | (refine T_nild ?_) | (refine is_load ?_; (first | (refine T_loadc hN rfl (hcG _ (hT.ord 2 rfl)) (by first | exact .inl rfl | exact .inr ⟨by decide, trivial⟩) ?_) | (refine T_loadc hN rfl (hcP _ (hT.ord 1 rfl)) (by first | exact .inl rfl | exact .inr ⟨by decide, trivial⟩) ?_) | (refine T_load hN rfl (hT.has 0 rfl) rfl (by first | exact .inl rfl | exact .inr ⟨by decide, trivial⟩) ?_) | (refine T_load hN rfl (hT.has 4 rfl) rfl (by first | exact .inl rfl | exact .inr ⟨by decide, trivial⟩) ?_))) | (refine is_binOp ?_; (first | (refine T_neqbs hN rfl rfl (by first | exact .inr trivial | exact .inl rfl) ?_) | (refine T_neq hN rfl rfl (by first | exact .inr trivial | exact .inl rfl) ?_))) | (refine is_pick ?_; (first | (refine T_pick1 hN rfl rfl (by first | exact .inr trivial | exact .inl rfl) ?_))) | (refine is_indexAddr ?_; (first | (refine T_indexAddrz hN rfl rfl (by omega) (by first | exact .inr trivial | exact .inl rfl) ?_) | (refine T_indexAddrz hN rfl rfl (by omega) (by first | exact .inr trivial | exact .inl rfl) ?_))) | (refine is_convert ?_; (first | (refine T_b2s hN rfl (Tk.slot hT 3 rfl hr1) (by first | exact .inl rfl | exact .inr ⟨by decide, trivial⟩) ?_) | (refine T_b2s hN rfl (hT.rrd 0 rfl) (by first | exact .inl rfl | exact .inr ⟨by decide, trivial⟩) ?_)))))
    | (refine isC ?_; (first | (refine C_seq ?_) | (refine C_rgn ?_) | (refine C_true hN rfl ?_) | (refine C_if hN rfl (fun hb => ?_) (fun hb => ?_) <;> ((first | (exfalso; omega) | (exfalso; exact hb rfl) | (exfalso; exact hb (fun h => h rfl)) | ((with_reducible refine absurd ?_ hb); (repeat' (first | exact trivial | refine And.intro rfl ?_)); done) | (replace hb := Classical.not_not.1 hb) | skip))) | (refine C_ret ?_) | (refine C_block ?_) | (refine C_draw (id := 9) [0, 1, 0, 0, 0, 1] Any Try.mixed (by kernel_rfl) trivial ?_; replace hT := hT.drew) | (refine C_draw (id := 11) [0, 0, 0, 1, 0, 1, 0, 1, 0, 0, 0, 0, 1, 0, 1, 0, 1, 1, 0, 1, 1] Any Try.mixed (by kernel_rfl) trivial ?_; replace hT := hT.drew) | (refine C_draw (id := 13) [0, 0, 0, 1, 0, 1] Any Try.mixed (by kernel_rfl) trivial ?_; replace hT := hT.drew)))
    | (refine isE ?_; (first | (refine E_thn ?_) | (refine E_thn_ret ?_) | (refine E_blk_ret ?_) | (refine E_ret hN Try.results15 (.tmp rfl (.tmp rfl (.tmp rfl .nil))) ?_))))
  all_goals first
    | exact absurd (by assumption) hbs
    | exact ⟨none, 0, rfl, ((J.shutOn (s := ⟨true, false, id, k, P.map Pt.kv⟩) ((JOn.shut hT rfl rfl hok).fst) ⟨rfl, rfl⟩ rfl).addnil 5 1).swap⟩
end
end Go.Proofs.Ytlmabhaenogbcaa
