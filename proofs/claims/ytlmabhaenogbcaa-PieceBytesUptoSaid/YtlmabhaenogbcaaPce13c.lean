/- THE WALKS of small things: may a piece be, the same, as the other's. -/
import Derived.Test.YtlmabhaenogbcaaPce13b
namespace Go.Proofs.Ytlmabhaenogbcaa
open Go.RowKit Go.Fp
attribute [local irreducible] Go.Calls
set_option maxRecDepth 100000
set_option maxHeartbeats 4000000
/-- May a piece be? -/
def rightP (p : Pc) : Prop := 1 ≤ p.many ∧ p.many ≤ 32 ∧ 0 ≤ p.at_ ∧ p.at_ < p.many ∧ p.part.length ≤ 4096
instance (p : Pc) : Decidable (rightP p) := by unfold rightP; infer_instance
theorem pce_right (r : Pr) (w : World) : Calls Try.prog 23 #[.agg r.cells.toArray] w fun e w' => e = .returned (.bool (bdec (rightP r.p))) ∧ Fr [] w w' := by
  have hT := Tk.start0 w
  obtain ⟨⟨id, at_, many, part⟩, x, c⟩ := r
  rw [show Pr.cells ⟨⟨id, at_, many, part⟩, x, c⟩ = [.int .u32 id, .int .i64 at_, .int .i64 many, .slice x part.length c] from rfl]
  refine enter [(0, _)] Try.func23 rfl Try.ntmps23 (Nat.le_of_ble_eq_true rfl) rfl ?_; intro a0 hN
  repeat' (first
    | (refine isT ?_; (first | (refine isGuard ?_; (first | (refine T_yes hN rfl rfl rfl ?_) | (refine T_no hN rfl rfl rfl rfl ?_) | (refine T_guardD hN rfl rfl rfl (fun hb => ?_) (fun hb => ?_) <;> ((first | (exfalso; omega) | (exfalso; exact hb rfl) | (exfalso; exact hb (fun h => h rfl)) | ((with_reducible refine absurd ?_ hb); (repeat' (first | exact trivial | refine And.intro rfl ?_)); done) | (replace hb := Classical.not_not.1 hb) | skip))))) | (refine T_assign hN rfl (by first | exact .inr trivial | exact .inl rfl) ?_) | (refine T_fieldAddr hN rfl (by first | exact .inr trivial | exact .inl rfl) ?_) | (refine T_move hN rfl (by first | exact .inr trivial | exact .inl rfl) ?_) | (refine T_nil ?_) | (refine is_load ?_; (first | (refine T_load hN rfl (hT.has 0 rfl) rfl (by first | exact .inl rfl | exact .inr ⟨by decide, trivial⟩) ?_))) | (refine is_binOp ?_; (first | (refine T_geq hN rfl rfl (by first | exact .inr trivial | exact .inl rfl) ?_) | (refine T_leq hN rfl rfl (by first | exact .inr trivial | exact .inl rfl) ?_) | (refine T_lss hN rfl rfl (by first | exact .inr trivial | exact .inl rfl) ?_))) | (refine is_pick ?_; (first | (refine T_pick1 hN rfl rfl (by first | exact .inr trivial | exact .inl rfl) ?_) | (refine T_pick0 hN rfl rfl (by first | exact .inr trivial | exact .inl rfl) ?_))) | (refine is_call ?_; (first | (refine T_len hN rfl (by first | exact .inr trivial | exact .inl rfl) ?_))) | (refine is_box ?_; (first | (refine T_box hN hT rfl (by decide) ?_; clear hT; intro g ww hT; refine ⟨(by first | exact trivial), ?_⟩)))))
    | (refine isC ?_; (first | (refine C_seq ?_) | (refine C_rgnk (id := 0) hN [(0, _)] ⟨rfl, trivial⟩ ?_; clear hN; intro a0 hN) | (refine C_rgnk (id := 1) hN [(0, _), (1, _), (2, _)] ⟨rfl, rfl, rfl, trivial⟩ ?_; clear hN; intro a0 hN) | (refine C_ret ?_)))
    | (refine isE ?_; (first | (refine E_thn ?_) | (refine E_ret hN Try.results23 (.tmp rfl .nil) ?_))))
  all_goals first
    | exact ⟨ret_bb (by unfold rightP; dsimp only; omega), hT.fr⟩
    | exact ⟨ret_bf (fun h => by unfold rightP at h; dsimp only at h; omega), hT.fr⟩
theorem rpc_Right (r : Pr) (w : World) : Calls Try.prog 25 #[.agg r.cells.toArray] w fun e w' => e = .returned (.bool (bdec (rightP r.p))) ∧ Fr [] w w' := by
  have hT := Tk.start0 w
  obtain ⟨⟨id, at_, many, part⟩, x, c⟩ := r
  rw [show Pr.cells ⟨⟨id, at_, many, part⟩, x, c⟩ = [.int .u32 id, .int .i64 at_, .int .i64 many, .slice x part.length c] from rfl]
  refine enter [(0, _)] Try.func25 rfl Try.ntmps25 (Nat.le_of_ble_eq_true rfl) rfl ?_; intro a0 hN
  repeat' (first
    | (refine isT ?_; (first | (refine isGuard ?_; (first | (refine T_yes hN rfl rfl rfl ?_) | (refine T_no hN rfl rfl rfl rfl ?_) | (refine T_guardD hN rfl rfl rfl (fun hb => ?_) (fun hb => ?_) <;> ((first | (exfalso; omega) | (exfalso; exact hb rfl) | (exfalso; exact hb (fun h => h rfl)) | ((with_reducible refine absurd ?_ hb); (repeat' (first | exact trivial | refine And.intro rfl ?_)); done) | (replace hb := Classical.not_not.1 hb) | skip))))) | (refine T_assign hN rfl (by first | exact .inr trivial | exact .inl rfl) ?_) | (refine T_fieldAddr hN rfl (by first | exact .inr trivial | exact .inl rfl) ?_) | (refine T_move hN rfl (by first | exact .inr trivial | exact .inl rfl) ?_) | (refine T_nil ?_) | (refine is_load ?_; (first | (refine T_load hN rfl (hT.has 0 rfl) rfl (by first | exact .inl rfl | exact .inr ⟨by decide, trivial⟩) ?_))) | (refine is_binOp ?_; (first | (refine T_geq hN rfl rfl (by first | exact .inr trivial | exact .inl rfl) ?_) | (refine T_leq hN rfl rfl (by first | exact .inr trivial | exact .inl rfl) ?_) | (refine T_lss hN rfl rfl (by first | exact .inr trivial | exact .inl rfl) ?_))) | (refine is_pick ?_; (first | (refine T_pick1 hN rfl rfl (by first | exact .inr trivial | exact .inl rfl) ?_) | (refine T_pick0 hN rfl rfl (by first | exact .inr trivial | exact .inl rfl) ?_))) | (refine is_call ?_; (first | (refine T_len hN rfl (by first | exact .inr trivial | exact .inl rfl) ?_))) | (refine is_box ?_; (first | (refine T_box hN hT rfl (by decide) ?_; clear hT; intro g ww hT; refine ⟨(by first | exact trivial), ?_⟩)))))
    | (refine isC ?_; (first | (refine C_seq ?_) | (refine C_rgnk (id := 0) hN [(0, _)] ⟨rfl, trivial⟩ ?_; clear hN; intro a0 hN) | (refine C_rgnk (id := 1) hN [(0, _), (1, _), (2, _)] ⟨rfl, rfl, rfl, trivial⟩ ?_; clear hN; intro a0 hN) | (refine C_ret ?_)))
    | (refine isE ?_; (first | (refine E_thn ?_) | (refine E_ret hN Try.results25 (.tmp rfl .nil) ?_))))
  all_goals first
    | exact ⟨ret_bb (by unfold rightP; dsimp only; omega), hT.fr⟩
    | exact ⟨ret_bf (fun h => by unfold rightP at h; dsimp only at h; omega), hT.fr⟩
/-- Equal pieces are the same. -/
theorem rpc_Same (p : Pc) (x y : Option Addr) (c d : Nat) (w : World) (h1 : Rdz w x p.part.length 1 (u8s p.part)) (h2 : Rdz w y p.part.length 1 (u8s p.part)) :
    Calls Try.prog 11 #[.agg (Pr.cells ⟨p, x, c⟩).toArray, .agg (Pr.cells ⟨p, y, d⟩).toArray] w fun e w' => e = .returned (.bool true) ∧ Fr [] w w' := by
  have hT : Tk [] w w [] [Ob.rd x p.part.length 1 (u8s p.part), Ob.rd y p.part.length 1 (u8s p.part)] := Tk.start w fun o ho => by
    simp only [List.mem_cons, List.not_mem_nil, or_false] at ho
    rcases ho with rfl | rfl
    · obtain ⟨f, h, _⟩ := of_rd h1; exact ⟨f, h⟩
    · obtain ⟨f, h, _⟩ := of_rd h2; exact ⟨f, h⟩
  clear h1 h2
  obtain ⟨id, at_, many, part⟩ := p
  dsimp only at hT
  refine enter [(0, _), (1, _)] Try.func11 rfl Try.ntmps11 (Nat.le_of_ble_eq_true rfl) rfl ?_; intro a0 hN
  repeat' (first
    | (refine isT ?_; (first | (refine isGuard ?_; (first | (refine T_yes hN rfl rfl rfl ?_) | (refine T_guardD hN rfl rfl rfl (fun hb => ?_) (fun hb => ?_) <;> ((first | (exfalso; omega) | (exfalso; exact hb rfl) | (exfalso; exact hb (fun h => h rfl)) | ((with_reducible refine absurd ?_ hb); (repeat' (first | exact trivial | refine And.intro rfl ?_)); done) | (replace hb := Classical.not_not.1 hb) | skip))))) | (refine T_assign hN rfl (by first | exact .inr trivial | exact .inl rfl) ?_) | (refine T_fieldAddr hN rfl (by first | exact .inr trivial | exact .inl rfl) ?_) | (refine T_move hN rfl (by first | exact .inr trivial | exact .inl rfl) ?_) | (refine T_nil ?_) | (refine is_load ?_; (first | (refine T_load hN rfl (hT.has 0 rfl) rfl (by first | exact .inl rfl | exact .inr ⟨by decide, trivial⟩) ?_) | (refine T_load hN rfl (hT.has 1 rfl) rfl (by first | exact .inl rfl | exact .inr ⟨by decide, trivial⟩) ?_))) | (refine is_binOp ?_; (first | (refine T_eqlbs hN rfl rfl (by first | exact .inr trivial | exact .inl rfl) ?_) | (refine T_eql hN rfl rfl (by first | exact .inr trivial | exact .inl rfl) ?_))) | (refine is_pick ?_; (first | (refine T_pick1 hN rfl rfl (by first | exact .inr trivial | exact .inl rfl) ?_))) | (refine is_convert ?_; (first | (refine T_b2s hN rfl (hT.rrd 0 rfl) (by first | exact .inl rfl | exact .inr ⟨by decide, trivial⟩) ?_) | (refine T_b2s hN rfl (hT.rrd 1 rfl) (by first | exact .inl rfl | exact .inr ⟨by decide, trivial⟩) ?_))) | (refine is_box ?_; (first | (refine T_box hN hT rfl (by decide) ?_; clear hT; intro g ww hT; refine ⟨(by first | exact trivial), ?_⟩)))))
    | (refine isC ?_; (first | (refine C_seq ?_) | (refine C_rgnk (id := 0) hN [(0, _), (1, _)] ⟨rfl, rfl, trivial⟩ ?_; clear hN; intro a0 hN) | (refine C_rgnk (id := 1) hN [(0, _), (1, _), (2, _), (3, _), (4, _)] ⟨rfl, rfl, rfl, rfl, rfl, trivial⟩ ?_; clear hN; intro a0 hN) | (refine C_ret ?_)))
    | (refine isE ?_; (first | (refine E_thn ?_) | (refine E_ret hN Try.results11 (.tmp rfl .nil) ?_))))
  all_goals exact ⟨by first | rfl | (simp only [bdec_eq]; simp; rfl), hT.fr⟩
theorem law13_From (r : Pr) (w : World) : Calls Try.prog 12 #[.agg r.cells.toArray] w fun e w' => e = .returned (.agg r.cells.toArray) ∧ Fr [] w w' := by
  have hT := Tk.start0 w
  obtain ⟨⟨id, at_, many, part⟩, x, c⟩ := r
  rw [show Pr.cells ⟨⟨id, at_, many, part⟩, x, c⟩ = [.int .u32 id, .int .i64 at_, .int .i64 many, .slice x part.length c] from rfl]
  refine enter [(0, _)] Try.func12 rfl Try.ntmps12 (Nat.le_of_ble_eq_true rfl) rfl ?_; intro a0 hN
  repeat' (first
    | (refine isT ?_; (first | (refine T_fieldAddr hN rfl (by first | exact .inr trivial | exact .inl rfl) ?_) | (refine T_nil ?_) | (refine is_load ?_; (first | (refine T_load hN rfl (hT.has 1 rfl) rfl (by first | exact .inl rfl | exact .inr ⟨by decide, trivial⟩) ?_))) | (refine is_store ?_; (first | (refine T_storen hN hT 0 rfl rfl rfl rfl rfl rfl (by decide) ?_; clear hT; intro ww hT; refine ⟨(by first | exact trivial), ?_⟩))) | (refine is_alloc ?_; (first | (refine T_alloc hN hT (by decide) ?_; clear hT; intro g ww hT; refine ⟨(by first | exact trivial), ?_⟩))) | (refine is_box ?_; (first | (refine T_box hN hT rfl (by decide) ?_; clear hT; intro g ww hT; refine ⟨(by first | exact trivial), ?_⟩))) | (refine is_build ?_; (first | (refine T_build (t := 34) (us := [_, _, _, _]) hN rfl rfl (by first | exact .inr trivial | exact .inl rfl) ?_)))))
    | (refine isC ?_; (first | (refine C_seq ?_) | (refine C_rgnk (id := 0) hN [(0, _)] ⟨rfl, trivial⟩ ?_; clear hN; intro a0 hN) | (refine C_rgnk (id := 1) hN [(0, _), (1, _), (2, _)] ⟨rfl, rfl, rfl, trivial⟩ ?_; clear hN; intro a0 hN) | (refine C_ret ?_)))
    | (refine isE ?_; (first | (refine E_thn ?_) | (refine E_ret hN Try.results12 (.cell rfl (run_loadAll (hT.has 0 rfl) rfl rfl) .nil) ?_))))
  all_goals exact ⟨rfl, hT.fr⟩
theorem law13_To (r : Pr) (hx : r.x = none → r.p.part.length = 0 ∧ r.c = 0) (hn : r.p.part.length ≤ 140737488355328) (w : World) {m : List Ob} (hT : Tk [] w w [] (Ob.rd r.x r.p.part.length 1 (u8s r.p.part) :: m)) :
    Calls Try.prog 14 #[.agg r.cells.toArray] w fun e w' => ∃ (x : Option Addr) (c : Nat), e = .returned (.agg (Pr.cells ⟨r.p, x, c⟩).toArray) ∧ Tk [] w w' [Pr.ob ⟨r.p, x, c⟩] (Ob.rd r.x r.p.part.length 1 (u8s r.p.part) :: m) := by
  obtain ⟨⟨id, at_, many, part⟩, x, c⟩ := r
  rw [show Pr.cells ⟨⟨id, at_, many, part⟩, x, c⟩ = [.int .u32 id, .int .i64 at_, .int .i64 many, .slice x part.length c] from rfl]
  dsimp only at hx hn hT ⊢
  refine enter [(0, _)] Try.func14 rfl Try.ntmps14 (Nat.le_of_ble_eq_true rfl) rfl ?_; intro a0 hN
  repeat' (first
    | (refine isT ?_; (first | (refine T_fieldAddr hN rfl (by first | exact .inr trivial | exact .inl rfl | (refine .inr ?_; (repeat' (first | exact hT.has 0 rfl | exact hT.has 1 rfl | exact hT.has 2 rfl | exact hT.ord 0 rfl | exact hT.ord 1 rfl | exact hT.ord 2 rfl | refine And.intro ?_ ?_)); done)) ?_) | (refine T_nil ?_) | (refine T_nild ?_) | (refine is_load ?_; (first | (refine T_loadH hN rfl (fun _ h => h) rfl rfl ?_))) | (refine is_call ?_; (first | (refine T_append hN hT 0 (by rfl) (by rfl) rfl rfl rfl hx (hT.rrd 0 rfl) (u8s_all1 part) (by unfold maxLen; omega) (by omega) (by decide) ?_; clear hT; intro x1 c1 ww hT; refine ⟨hT.has 2 rfl, ?_⟩; simp only [Nat.zero_add, List.nil_append] at hT ⊢))) | (refine is_store ?_; (first | (refine T_storen hN hT 1 rfl rfl rfl rfl rfl rfl (by decide) ?_; clear hT; intro ww hT; refine ⟨(by first | exact trivial | ((repeat' (first | exact hT.has 0 rfl | exact hT.has 1 rfl | exact hT.has 2 rfl | exact hT.ord 0 rfl | exact hT.ord 1 rfl | exact hT.ord 2 rfl | refine And.intro ?_ ?_)); done)), ?_⟩))) | (refine is_alloc ?_; (first | (refine T_alloc hN hT (by decide) ?_; clear hT; intro g ww hT; refine ⟨(by first | exact trivial | ((repeat' (first | exact hT.has 0 rfl | exact hT.has 1 rfl | exact hT.has 2 rfl | exact hT.ord 0 rfl | exact hT.ord 1 rfl | exact hT.ord 2 rfl | refine And.intro ?_ ?_)); done)), ?_⟩))) | (refine is_box ?_; (first | (refine T_box hN hT rfl (by decide) ?_; clear hT; intro g ww hT; refine ⟨(by first | exact trivial | ((repeat' (first | exact hT.has 0 rfl | exact hT.has 1 rfl | exact hT.has 2 rfl | exact hT.ord 0 rfl | exact hT.ord 1 rfl | exact hT.ord 2 rfl | refine And.intro ?_ ?_)); done)), ?_⟩))) | (refine is_build ?_; (first | (refine T_build (t := 36) (us := [_, _, _, _]) hN rfl rfl (by first | exact .inr trivial | exact .inl rfl | (refine .inr ?_; (repeat' (first | exact hT.has 0 rfl | exact hT.has 1 rfl | exact hT.has 2 rfl | exact hT.ord 0 rfl | exact hT.ord 1 rfl | exact hT.ord 2 rfl | refine And.intro ?_ ?_)); done)) ?_))) | (refine is_buildSlice ?_; (first | (refine T_slice0 hN hT (by decide) ?_; clear hT; intro g ww hT; refine ⟨(by first | exact trivial | ((repeat' (first | exact hT.has 0 rfl | exact hT.has 1 rfl | exact hT.has 2 rfl | exact hT.ord 0 rfl | exact hT.ord 1 rfl | exact hT.ord 2 rfl | refine And.intro ?_ ?_)); done)), ?_⟩)))))
    | (refine isC ?_; (first | (refine C_seq ?_) | (refine C_rgnk (id := 0) hN [(0, _)] ⟨rfl, trivial⟩ ?_; clear hN; intro a0 hN) | (refine C_ret ?_) | (refine C_drawk (id := 1) hN [(0, _), (1, _), (2, _)] ⟨rfl, rfl, rfl, trivial⟩ [0, 0, 0, 0, 0, 0, 2, 0, 0, 2, 0, 2] (fun w1 => Has w1 _ _ (List.toArray _)) Try.mixed (by kernel_rfl) (hT.drew.has 1 rfl) ?_; replace hT := hT.drew; clear hN; intro a0 hN)))
    | (refine isE ?_; (first | (refine E_thn ?_) | (refine E_ret hN Try.results14 (.cell rfl (run_loadAll (hT.has 1 rfl) rfl rfl) .nil) ?_))))
  all_goals exact ⟨x1, c1, rfl, hT.fst⟩
end Go.Proofs.Ytlmabhaenogbcaa
