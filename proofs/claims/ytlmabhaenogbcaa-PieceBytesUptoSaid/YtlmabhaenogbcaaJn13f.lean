/- THE WALK of a joiner: Take, the last part. -/
import Derived.Test.YtlmabhaenogbcaaJn13e
namespace Go.Proofs.Ytlmabhaenogbcaa
open Go.RowKit Go.Fp
attribute [local irreducible] Go.Calls
set_option maxRecDepth 100000
set_option maxHeartbeats 8000000
theorem sumL_le {l : List (Nat × List UInt8)} {q : Nat × List UInt8} (h : q ∈ l) : q.2.length ≤ sumL l := by
  induction l with
  | nil => cases h
  | cons a l ih =>
    have e : sumL (a :: l) = a.2.length + sumL l := by simp [sumL]
    rcases List.mem_cons.1 h with rfl | h
    · omega
    · have := ih h; omega
theorem full_got {P : List Pt} {k a c1 : Nat} {x1 : Option Addr} {part : List UInt8} (h : PtOk P k) (hg : gotB P a = false) (hak : a < k) (hf : ¬ P.length + 1 < k) (i : Nat) (hi : i < k) : gotB (P ++ [⟨a, x1, c1, part⟩]) i = true := by
  rw [gotB_mem]
  refine nodup_full (n := k) ?_ ?_ ?_ i hi
  · rw [List.map_append, List.nodup_append]
    refine ⟨h.nodup, by simp, fun b hb c hc => ?_⟩
    simp only [List.map_cons, List.map_nil, List.mem_singleton] at hc
    subst hc
    intro e
    subst e
    rw [gotB_mem.2 hb] at hg
    cases hg
  · intro y hy
    rw [List.map_append, List.mem_append] at hy
    rcases hy with hy | hy
    · obtain ⟨r, hr, rfl⟩ := List.mem_map.1 hy; exact h.lt r hr
    · simp only [List.map_cons, List.map_nil, List.mem_singleton] at hy; subst hy; exact hak
  · simp; omega
section
variable (q g id k a : Nat) (P : List Pt) (x : Option Addr) (part : List UInt8) (c : Nat) (f : List Nat) (w w1 : World) {m : List Ob}
theorem mid_full (hak : a < k) (hg : gotB P a = false) (hbig : ¬ 16384 < sumL (P.map Pt.kv) + part.length) (hp : part.length ≤ 4096) (hx : x = none → part.length = 0 ∧ c = 0) (hfull : ¬ P.length + 1 < k) (hT : Tk f w w1 (MidO q g id k a P k x part c) (Ob.rd x part.length 1 (u8s part) :: m)) : Mid q g id k a P k x part c f w w1 m := by
  obtain ⟨xp, cp, xg, cg, hok, hT2⟩ := JOn.open hT
  clear hT
  have hT := hT2
  clear hT2
  obtain ⟨G, rfl⟩ := hT.own_addr 2 rfl (by omega)
  obtain ⟨B, rfl⟩ := hT.own_addr 1 rfl (by omega)
  have e1 : (0 + (a : Int).toNat * 1) = a := by omega
  have hat : ((a : Int)).toNat = a := by omega
  have hf : (P.map Pt.kv).find? (fun q => q.1 == a) = none := by rw [find_kv, find_none hg]; rfl
  have hcG : ∀ w : World, Rdz w (some ⟨G, 0, none⟩) k 1 (rowG P k) → w.cell? ⟨G, 0 + (a : Int).toNat * 1, none⟩ = some (.bool false) := fun w h => by
    rw [e1]; have := h.cell rfl (j := a) (rowG_get hak); rw [Nat.zero_add, hg] at this; exact this
  have hsum := hok.sum
  have hfew := hok.few
  have hk32 := hok.k32
  have hgo : goJ ⟨true, false, id, k, P.map Pt.kv⟩ ⟨id, a, k, part⟩ = (joinB ⟨true, false, id, k, P.map Pt.kv ++ [(a, part)]⟩, true, 0, ⟨true, true, id, k, P.map Pt.kv ++ [(a, part)]⟩) := by
    simp [goJ, hat, hf, hbig, hfull]
  intro a0 hN
  rw [hgo]
  refine C_seq ?_
  repeat' (first
    | (refine isT ?_; (first | (refine isGuard ?_; (first | (refine T_no hN rfl rfl rfl rfl ?_))) | (refine T_assign hN rfl (by first | exact .inr trivial | exact .inl rfl | (refine .inr ?_; (repeat' (first | exact hT.has 0 rfl | exact hT.has 1 rfl | exact hT.has 2 rfl | exact hT.has 3 rfl | exact hT.has 4 rfl | exact hT.has 5 rfl | exact hT.has 6 rfl | exact hT.ord 0 rfl | exact hT.ord 1 rfl | exact hT.ord 2 rfl | exact hT.ord 3 rfl | exact hT.ord 4 rfl | exact hT.ord 5 rfl | exact hT.ord 6 rfl | refine And.intro ?_ ?_)); done)) ?_) | (refine T_fieldAddr hN rfl (by first | exact .inr trivial | exact .inl rfl | (refine .inr ?_; (repeat' (first | exact hT.has 0 rfl | exact hT.has 1 rfl | exact hT.has 2 rfl | exact hT.has 3 rfl | exact hT.has 4 rfl | exact hT.has 5 rfl | exact hT.has 6 rfl | exact hT.ord 0 rfl | exact hT.ord 1 rfl | exact hT.ord 2 rfl | exact hT.ord 3 rfl | exact hT.ord 4 rfl | exact hT.ord 5 rfl | exact hT.ord 6 rfl | refine And.intro ?_ ?_)); done)) ?_) | (refine T_move hN rfl (by first | exact .inr trivial | exact .inl rfl | (refine .inr ?_; (repeat' (first | exact hT.has 0 rfl | exact hT.has 1 rfl | exact hT.has 2 rfl | exact hT.has 3 rfl | exact hT.has 4 rfl | exact hT.has 5 rfl | exact hT.has 6 rfl | exact hT.ord 0 rfl | exact hT.ord 1 rfl | exact hT.ord 2 rfl | exact hT.ord 3 rfl | exact hT.ord 4 rfl | exact hT.ord 5 rfl | exact hT.ord 6 rfl | refine And.intro ?_ ?_)); done)) ?_) | (refine T_nilCheck hN rfl (by first | exact .inr trivial | exact .inl rfl | (refine .inr ?_; (repeat' (first | exact hT.has 0 rfl | exact hT.has 1 rfl | exact hT.has 2 rfl | exact hT.has 3 rfl | exact hT.has 4 rfl | exact hT.has 5 rfl | exact hT.has 6 rfl | exact hT.ord 0 rfl | exact hT.ord 1 rfl | exact hT.ord 2 rfl | exact hT.ord 3 rfl | exact hT.ord 4 rfl | exact hT.ord 5 rfl | exact hT.ord 6 rfl | refine And.intro ?_ ?_)); done)) ?_) | (refine T_nil ?_) | (refine T_nild ?_) | (refine is_load ?_; (first | (refine T_loadc hN rfl (hcG _ (hT.ord 2 rfl)) (by first | exact .inl rfl | exact .inr ⟨by decide, trivial⟩) ?_) | (refine T_loadH hN rfl (fun _ h => h.1) rfl rfl ?_) | (refine T_loadH hN rfl (fun _ h => h.2) rfl rfl ?_) | (refine T_load hN rfl (hT.has 0 rfl) rfl (by first | exact .inl rfl | exact .inr ⟨by decide, trivial⟩ | (refine .inr ⟨by decide, ?_⟩; (repeat' (first | exact hT.has 0 rfl | exact hT.has 1 rfl | exact hT.has 2 rfl | exact hT.has 3 rfl | exact hT.has 4 rfl | exact hT.has 5 rfl | exact hT.has 6 rfl | exact hT.ord 0 rfl | exact hT.ord 1 rfl | exact hT.ord 2 rfl | exact hT.ord 3 rfl | exact hT.ord 4 rfl | exact hT.ord 5 rfl | exact hT.ord 6 rfl | refine And.intro ?_ ?_)); done)) ?_) | (refine T_load hN rfl (hT.has 1 rfl) rfl (by first | exact .inl rfl | exact .inr ⟨by decide, trivial⟩ | (refine .inr ⟨by decide, ?_⟩; (repeat' (first | exact hT.has 0 rfl | exact hT.has 1 rfl | exact hT.has 2 rfl | exact hT.has 3 rfl | exact hT.has 4 rfl | exact hT.has 5 rfl | exact hT.has 6 rfl | exact hT.ord 0 rfl | exact hT.ord 1 rfl | exact hT.ord 2 rfl | exact hT.ord 3 rfl | exact hT.ord 4 rfl | exact hT.ord 5 rfl | exact hT.ord 6 rfl | refine And.intro ?_ ?_)); done)) ?_) | (refine T_load hN rfl (hT.has 2 rfl) rfl (by first | exact .inl rfl | exact .inr ⟨by decide, trivial⟩ | (refine .inr ⟨by decide, ?_⟩; (repeat' (first | exact hT.has 0 rfl | exact hT.has 1 rfl | exact hT.has 2 rfl | exact hT.has 3 rfl | exact hT.has 4 rfl | exact hT.has 5 rfl | exact hT.has 6 rfl | exact hT.ord 0 rfl | exact hT.ord 1 rfl | exact hT.ord 2 rfl | exact hT.ord 3 rfl | exact hT.ord 4 rfl | exact hT.ord 5 rfl | exact hT.ord 6 rfl | refine And.intro ?_ ?_)); done)) ?_) | (refine T_load hN rfl (hT.has 4 rfl) rfl (by first | exact .inl rfl | exact .inr ⟨by decide, trivial⟩ | (refine .inr ⟨by decide, ?_⟩; (repeat' (first | exact hT.has 0 rfl | exact hT.has 1 rfl | exact hT.has 2 rfl | exact hT.has 3 rfl | exact hT.has 4 rfl | exact hT.has 5 rfl | exact hT.has 6 rfl | exact hT.ord 0 rfl | exact hT.ord 1 rfl | exact hT.ord 2 rfl | exact hT.ord 3 rfl | exact hT.ord 4 rfl | exact hT.ord 5 rfl | exact hT.ord 6 rfl | refine And.intro ?_ ?_)); done)) ?_) | (refine T_load hN rfl (hT.has 5 rfl) rfl (by first | exact .inl rfl | exact .inr ⟨by decide, trivial⟩ | (refine .inr ⟨by decide, ?_⟩; (repeat' (first | exact hT.has 0 rfl | exact hT.has 1 rfl | exact hT.has 2 rfl | exact hT.has 3 rfl | exact hT.has 4 rfl | exact hT.has 5 rfl | exact hT.has 6 rfl | exact hT.ord 0 rfl | exact hT.ord 1 rfl | exact hT.ord 2 rfl | exact hT.ord 3 rfl | exact hT.ord 4 rfl | exact hT.ord 5 rfl | exact hT.ord 6 rfl | refine And.intro ?_ ?_)); done)) ?_))) | (refine is_binOp ?_; (first | (refine T_addi64 hN rfl rfl (by omega) (by first | exact .inr trivial | exact .inl rfl | (refine .inr ?_; (repeat' (first | exact hT.has 0 rfl | exact hT.has 1 rfl | exact hT.has 2 rfl | exact hT.has 3 rfl | exact hT.has 4 rfl | exact hT.has 5 rfl | exact hT.has 6 rfl | exact hT.ord 0 rfl | exact hT.ord 1 rfl | exact hT.ord 2 rfl | exact hT.ord 3 rfl | exact hT.ord 4 rfl | exact hT.ord 5 rfl | exact hT.ord 6 rfl | refine And.intro ?_ ?_)); done)) ?_) | (refine T_gtr hN rfl rfl (by first | exact .inr trivial | exact .inl rfl | (refine .inr ?_; (repeat' (first | exact hT.has 0 rfl | exact hT.has 1 rfl | exact hT.has 2 rfl | exact hT.has 3 rfl | exact hT.has 4 rfl | exact hT.has 5 rfl | exact hT.has 6 rfl | exact hT.ord 0 rfl | exact hT.ord 1 rfl | exact hT.ord 2 rfl | exact hT.ord 3 rfl | exact hT.ord 4 rfl | exact hT.ord 5 rfl | exact hT.ord 6 rfl | refine And.intro ?_ ?_)); done)) ?_) | (refine T_lss hN rfl rfl (by first | exact .inr trivial | exact .inl rfl | (refine .inr ?_; (repeat' (first | exact hT.has 0 rfl | exact hT.has 1 rfl | exact hT.has 2 rfl | exact hT.has 3 rfl | exact hT.has 4 rfl | exact hT.has 5 rfl | exact hT.has 6 rfl | exact hT.ord 0 rfl | exact hT.ord 1 rfl | exact hT.ord 2 rfl | exact hT.ord 3 rfl | exact hT.ord 4 rfl | exact hT.ord 5 rfl | exact hT.ord 6 rfl | refine And.intro ?_ ?_)); done)) ?_) | (refine T_neq hN rfl rfl (by first | exact .inr trivial | exact .inl rfl | (refine .inr ?_; (repeat' (first | exact hT.has 0 rfl | exact hT.has 1 rfl | exact hT.has 2 rfl | exact hT.has 3 rfl | exact hT.has 4 rfl | exact hT.has 5 rfl | exact hT.has 6 rfl | exact hT.ord 0 rfl | exact hT.ord 1 rfl | exact hT.ord 2 rfl | exact hT.ord 3 rfl | exact hT.ord 4 rfl | exact hT.ord 5 rfl | exact hT.ord 6 rfl | refine And.intro ?_ ?_)); done)) ?_))) | (refine is_pick ?_; (first | (refine T_pick0 hN rfl rfl (by first | exact .inr trivial | exact .inl rfl | (refine .inr ?_; (repeat' (first | exact hT.has 0 rfl | exact hT.has 1 rfl | exact hT.has 2 rfl | exact hT.has 3 rfl | exact hT.has 4 rfl | exact hT.has 5 rfl | exact hT.has 6 rfl | exact hT.ord 0 rfl | exact hT.ord 1 rfl | exact hT.ord 2 rfl | exact hT.ord 3 rfl | exact hT.ord 4 rfl | exact hT.ord 5 rfl | exact hT.ord 6 rfl | refine And.intro ?_ ?_)); done)) ?_))) | (refine is_call ?_; (first | (refine T_append hN hT 0 (by rfl) (by rfl) rfl rfl rfl hx (hT.rrd 0 rfl) (u8s_all1 part) (by unfold maxLen; omega) (by omega) (by decide) ?_; clear hT; intro x1 c1 ww hT; refine ⟨⟨hT.has 1 rfl, hT.has 5 rfl⟩, ?_⟩; simp only [Nat.zero_add, List.nil_append] at hT ⊢) | (refine T_len hN rfl (by first | exact .inr trivial | exact .inl rfl | (refine .inr ?_; (repeat' (first | exact hT.has 0 rfl | exact hT.has 1 rfl | exact hT.has 2 rfl | exact hT.has 3 rfl | exact hT.has 4 rfl | exact hT.has 5 rfl | exact hT.has 6 rfl | exact hT.ord 0 rfl | exact hT.ord 1 rfl | exact hT.ord 2 rfl | exact hT.ord 3 rfl | exact hT.ord 4 rfl | exact hT.ord 5 rfl | exact hT.ord 6 rfl | refine And.intro ?_ ?_)); done)) ?_))) | (refine is_store ?_; (first | (refine T_storeo hN hT 3 rfl rfl rfl (by omega) rfl (by decide) ?_; clear hT; intro ww hT; refine ⟨⟨hT.has 1 rfl, hT.has 5 rfl⟩, ?_⟩) | (refine T_storeo hN hT 2 rfl rfl rfl (by omega) rfl (by decide) ?_; clear hT; intro ww hT; refine ⟨⟨hT.has 1 rfl, hT.has 5 rfl⟩, ?_⟩) | (refine T_store hN hT 1 rfl rfl rfl rfl rfl (by decide) ?_; clear hT; intro ww hT; refine ⟨(by first | exact trivial | ((repeat' (first | exact hT.has 0 rfl | exact hT.has 1 rfl | exact hT.has 2 rfl | exact hT.has 3 rfl | exact hT.has 4 rfl | exact hT.has 5 rfl | exact hT.has 6 rfl | exact hT.ord 0 rfl | exact hT.ord 1 rfl | exact hT.ord 2 rfl | exact hT.ord 3 rfl | exact hT.ord 4 rfl | exact hT.ord 5 rfl | exact hT.ord 6 rfl | refine And.intro ?_ ?_)); done)), ?_⟩))) | (refine is_indexAddr ?_; (first | (refine T_indexAddrz hN rfl rfl (by omega) (by first | exact .inr trivial | exact .inl rfl) ?_))) | (refine is_buildSlice ?_; (first | (refine T_slice0 hN hT (by decide) ?_; clear hT; intro g ww hT; refine ⟨(by first | exact trivial | ((repeat' (first | exact hT.has 0 rfl | exact hT.has 1 rfl | exact hT.has 2 rfl | exact hT.has 3 rfl | exact hT.has 4 rfl | exact hT.has 5 rfl | exact hT.has 6 rfl | exact hT.ord 0 rfl | exact hT.ord 1 rfl | exact hT.ord 2 rfl | exact hT.ord 3 rfl | exact hT.ord 4 rfl | exact hT.ord 5 rfl | exact hT.ord 6 rfl | refine And.intro ?_ ?_)); done)), ?_⟩)))))
    | (refine isC ?_; (first | (refine C_seq ?_) | (refine C_rgn ?_) | (refine C_false hN rfl ?_) | (refine C_if hN rfl (fun hb => ?_) (fun hb => ?_) <;> ((first | (exfalso; omega) | (exfalso; exact hb rfl) | (exfalso; exact hb (fun h => h rfl)) | ((with_reducible refine absurd ?_ hb); (repeat' (first | exact trivial | refine And.intro rfl ?_)); done) | (replace hb := Classical.not_not.1 hb) | skip))) | (refine C_skip ?_) | (refine C_block ?_) | (refine C_draw (id := 9) [0, 1, 0, 0, 0, 1] Any Try.mixed (by kernel_rfl) trivial ?_; replace hT := hT.drew) | (refine C_draw (id := 11) [0, 0, 0, 1, 0, 1, 0, 1, 0, 0, 0, 0, 1, 0, 1, 0, 1, 1, 0, 1, 1] Any Try.mixed (by kernel_rfl) trivial ?_; replace hT := hT.drew) | (refine C_draw (id := 13) [0, 0, 0, 1, 0, 1] Any Try.mixed (by kernel_rfl) trivial ?_; replace hT := hT.drew) | (refine C_draw (id := 15) [0, 0, 0, 1, 0, 1, 0] Any Try.mixed (by kernel_rfl) trivial ?_; replace hT := hT.drew) | (refine C_draw (id := 18) [0, 0, 0, 0, 0, 0, 0, 0, 0, 0, 0, 0, 2, 0, 0, 2, 0, 2, 0, 2] (fun w1 => Has w1 _ _ (List.toArray _) ∧ Has w1 _ _ (List.toArray _)) Try.mixed (by kernel_rfl) ⟨hT.drew.has 0 rfl, hT.drew.has 4 rfl⟩ ?_; replace hT := hT.drew) | (refine C_draw (id := 19) [0, 0, 0, 1, 0, 1, 0, 0, 0, 0] Any Try.mixed (by kernel_rfl) trivial ?_; replace hT := hT.drew) | (refine C_draw (id := 21) [0, 0, 0, 1, 0, 0, 0, 1] Any Try.mixed (by kernel_rfl) trivial ?_; replace hT := hT.drew)))
    | (refine isE ?_; (first | (refine E_thn ?_) | (refine E_blk ?_))))
  all_goals
    rw [e1] at hT
    have hrP := rowP_add (P := P) (q := ⟨a, x1, c1, part⟩) (k := k) hg hak
    have hnn : x1 = none → part.length = 0 ∧ c1 = 0 := own_nil (hT.owns 1 rfl)
    have hT2 := (hT.sel [1, 4, 0, 0, 0] rfl).snocAll
    clear hT
    have hgot := full_got (x1 := x1) (c1 := c1) (part := part) hok hg hak hfull
    have hkv : (P ++ [(⟨a, x1, c1, part⟩ : Pt)]).map Pt.kv = P.map Pt.kv ++ [(a, part)] := by simp [Pt.kv]
    have hle : ∀ y, y ∈ P.map Pt.kv ++ [(a, part)] → y.2.length ≤ 16384 := fun y hy => by
      have := sumL_le hy
      have := sumL_add (P.map Pt.kv) (a, part)
      dsimp only at this
      omega
    have hnn2 : ∀ r, r ∈ P ++ [(⟨a, x1, c1, part⟩ : Pt)] → r.x = none → r.bs.length = 0 ∧ r.c = 0 := fun r hr => by
      rcases List.mem_append.1 hr with hr | hr
      · exact hok.nn r hr
      · rw [List.mem_singleton] at hr; subst hr; exact hnn
    have hob : (P.map Pt.ob ++ [Ob.own 5 1 (.slice x1 part.length c1) part.length (u8s part)]) = (P ++ [(⟨a, x1, c1, part⟩ : Pt)]).map Pt.ob := by rw [List.map_append]; rfl
    rw [hob, hrP] at hT2
    generalize P ++ [(⟨a, x1, c1, part⟩ : Pt)] = P2 at *
    generalize hl2 : P.map Pt.kv ++ [(a, part)] = l2 at *
    have hl : ∀ j, j ≤ k → ((List.range j).flatMap (lookB l2)).length ≤ 524288 := fun j hj => by
      have := joinB_len l2 j hle
      have := Nat.mul_le_mul_right 16384 (show j ≤ 32 by omega)
      omega
    refine C_loop hN (X := Nat × Option Addr × Nat) (fun y => [(0, .pointer (some ⟨q, 0, none⟩)), (4, .slice y.2.1 ((List.range y.1).flatMap (lookB l2)).length y.2.2), (168, .slice (some ⟨B, 0, none⟩) k cp), (169, .int .i64 k), (170, .int .i64 y.1)])
      (fun y w1 => y.1 ≤ k ∧ Tk f w w1 [Ob.all (P2.map Pt.ob), Ob.own 5 1 (.slice y.2.1 ((List.range y.1).flatMap (lookB l2)).length y.2.2) ((List.range y.1).flatMap (lookB l2)).length (u8s ((List.range y.1).flatMap (lookB l2))),
        Ob.blk q 66 [.int .u32 id, .int .i64 k, .int .i64 (P.length + 1), .int .i64 (sumL (P.map Pt.kv) + part.length), .slice (some ⟨B, 0, none⟩) k cp, .slice (some ⟨G, 0, none⟩) k cg, .bool true, .bool false],
        Ob.own 23 1 (.slice (some ⟨B, 0, none⟩) k cp) k (rowP P2 k)] (Ob.rd x part.length 1 (u8s part) :: m)) (fun y => k - y.1) (0, _, 0) ⟨rfl, rfl, rfl, rfl, rfl, trivial⟩ ⟨Nat.zero_le _, hT2⟩ ?_
    clear hN hT2
    rintro ⟨j, xb, cb⟩ a0 ww hN ⟨hj, hT⟩
    dsimp only at hj hT ⊢
    by_cases hj0 : j = k
    · subst hj0
      repeat' (first
        | (refine isT ?_; (first | (refine T_assign hN rfl (by first | exact .inr trivial | exact .inl rfl) ?_) | (refine T_fieldAddr hN rfl (by first | exact .inr trivial | exact .inl rfl) ?_) | (refine T_move hN rfl (by first | exact .inr trivial | exact .inl rfl) ?_) | (refine T_nilCheck hN rfl (by first | exact .inr trivial | exact .inl rfl) ?_) | (refine T_nil ?_) | (refine is_binOp ?_; (first | (refine T_lss hN rfl rfl (by first | exact .inr trivial | exact .inl rfl) ?_))) | (refine is_store ?_; (first | (refine T_store hN hT 2 rfl rfl rfl rfl rfl (by decide) ?_; clear hT; intro ww hT; refine ⟨(by first | exact trivial), ?_⟩)))))
        | (refine isC ?_; (first | (refine C_seq ?_) | (refine C_rgn ?_) | (refine C_if hN rfl (fun hb => ?_) (fun hb => ?_) <;> ((first | (exfalso; omega) | (exfalso; exact hb rfl) | (exfalso; exact hb (fun h => h rfl)) | ((with_reducible refine absurd ?_ hb); (repeat' (first | exact trivial | refine And.intro rfl ?_)); done) | (replace hb := Classical.not_not.1 hb) | skip))) | (refine C_ret ?_) | (refine C_exit ?_)))
        | (refine isE ?_; (first | (refine E_thn ?_) | (refine E_thn_exit ?_) | (refine E_blk_hit ?_) | (refine E_lp_exit ?_) | (refine E_ret hN Try.results15 (.tmp rfl (.tmp rfl (.tmp rfl .nil))) ?_))))
      all_goals
        have h9 := hT.sel [2, 1] rfl
        exact ⟨xb, cb, rfl, J.shutOff (s := ⟨true, true, id, j, l2⟩) (JOff.shut h9) (fun h => by cases h.2)⟩
    · obtain ⟨r, hr1, hr2, hr3⟩ := gotB_find (hgot j (by omega))
      obtain ⟨hr4, hr5⟩ := lookB_slot hr3
      rw [hkv] at hr4
      have hcP : ∀ w : World, Rdz w (some ⟨B, 0, none⟩) k 1 (rowP P2 k) → w.cell? ⟨B, 0 + j * 1, none⟩ = some (.slice r.x r.bs.length r.c) := fun w h => by
        rw [show 0 + j * 1 = j by omega]; have := h.cell rfl (j := j) (rowP_get (by omega)); rw [Nat.zero_add, hr5] at this; exact this
      have hj1 := hl (j + 1) (by omega)
      have hsn : (List.range (j + 1)).flatMap (lookB l2) = (List.range j).flatMap (lookB l2) ++ r.bs := by rw [List.range_succ, List.flatMap_append]; simp [hr4]
      rw [hsn, List.length_append] at hj1
      have hnr := hnn2 r hr1
      repeat' (first
        | (refine isT ?_; (first | (refine T_assign hN rfl (by first | exact .inr trivial | exact .inl rfl) ?_) | (refine T_move hN rfl (by first | exact .inr trivial | exact .inl rfl) ?_) | (refine T_nil ?_) | (refine is_load ?_; (first | (refine T_loadc hN rfl (hcP _ (hT.ord 3 rfl)) (by first | exact .inl rfl | exact .inr ⟨by decide, trivial⟩) ?_))) | (refine is_binOp ?_; (first | (refine T_addi64 hN rfl rfl (by omega) (by first | exact .inr trivial | exact .inl rfl) ?_) | (refine T_lss hN rfl rfl (by first | exact .inr trivial | exact .inl rfl) ?_))) | (refine is_call ?_; (first | (refine T_append hN hT 1 (by rfl) (by rfl) rfl rfl rfl hnr (Tk.slot hT 0 rfl hr1) (u8s_all1 r.bs) (by unfold maxLen; omega) (by omega) (by decide) ?_; clear hT; intro x2 c2 ww hT; refine ⟨trivial, ?_⟩))) | (refine is_indexAddr ?_; (first | (refine T_indexAddr hN rfl rfl (by omega) (by first | exact .inr trivial | exact .inl rfl) ?_)))))
        | (refine isC ?_; (first | (refine C_seq ?_) | (refine C_rgn ?_) | (refine C_if hN rfl (fun hb => ?_) (fun hb => ?_) <;> ((first | (exfalso; omega) | (exfalso; exact hb rfl) | (exfalso; exact hb (fun h => h rfl)) | ((with_reducible refine absurd ?_ hb); (repeat' (first | exact trivial | refine And.intro rfl ?_)); done) | (replace hb := Classical.not_not.1 hb) | skip))) | (refine C_skip ?_) | (refine C_block ?_)))
        | (refine isE ?_; (first | (refine E_thn ?_) | (refine E_blk ?_))))
      all_goals exact E_mk hN (j + 1, x2, c2) ⟨rfl, by dsimp only; rw [hsn, List.length_append]; rfl, rfl, rfl, evI rfl (by omega), trivial⟩ ⟨⟨by omega, by dsimp only; rw [hsn, List.length_append, u8s_append]; exact hT⟩, by omega⟩
end
end Go.Proofs.Ytlmabhaenogbcaa
