/- THE WALK of the document's Seal. -/
import Derived.Test.YtemhcflaldeakaaRFr12
import Derived.Test.YtemhcflaldeakaaRMac12
namespace Go.Proofs.Ytemhcflaldeakaa
open Go.RowKit Go.Fp
attribute [local irreducible] Go.Calls
set_option maxRecDepth 100000
set_option maxHeartbeats 16000000
attribute [local irreducible] be tagP
theorem ref_FSeal (k : List UInt8) (hk : k.length = 32) (r : Fm) (hw : r.wf) (x : Option Addr) (c : Nat) (hx : x = none → r.body.length = 0 ∧ c = 0) (w : World) {m : List Ob} (hm : Ob.rd x r.body.length 1 (u8s r.body) ∈ m) (hT : Tk [] w w [] m) :
    Calls Try.prog 10 #[.agg (u8s k).toArray, .agg (r.cells x c).toArray] w (SealPost k r w m) := by
  unfold SealPost
  have hk32 : (u8s k).length = 32 := by rw [u8s_length]; exact hk
  by_cases hok : r.ok
  · have cR := fun ww => ref_Right2 (x := x) (c := c) (bdec_true' hok) ww
    simp only [if_pos hok]
    have hok2 := hok
    unfold Fm.ok at hok2
    unfold Fm.wf at hw
    obtain ⟨a, b, bt, ct, kd, body⟩ := r
    dsimp only at hok2 hx hm hw
    obtain ⟨a, rfl⟩ : ∃ n : Nat, a = n := ⟨a.toNat, by omega⟩
    obtain ⟨b, rfl⟩ : ∃ n : Nat, b = n := ⟨b.toNat, by omega⟩
    obtain ⟨kd, rfl⟩ : ∃ n : Nat, kd = n := ⟨kd.toNat, by omega⟩
    have hs : Fm.seal k ⟨a, b, bt, ct, kd, body⟩ = frB a b bt ct kd body ++ tagP k (frB a b bt ct kd body) := rfl
    have hBl := frB_len a b bt ct kd body
    have htl := tagP_len k (frB a b bt ct kd body)
    rw [hs]
    rw [show Fm.cells ⟨a, b, bt, ct, kd, body⟩ x c = [.int .i64 a, .int .i64 b, .int .u64 bt, .int .u64 ct, .int .i64 kd, .slice x body.length c] from rfl] at cR ⊢
    have cB := fun ww h => ref_FBytes a b bt ct kd (by omega) (by omega) (by omega) (by omega) (by omega) x c body hx (by omega) ww (m := m) hm h
    generalize frB a b bt ct kd body = F at *
    refine enter [(0, _), (1, _)] Try.func10 rfl Try.ntmps10 (Nat.le_of_ble_eq_true rfl) rfl ?_; intro a0 hN
    repeat' (first
      | (refine isT ?_; (first | (refine T_assign hN rfl (by first | exact .inr trivial | exact .inl rfl) ?_) | (refine T_move hN rfl (by first | exact .inr trivial | exact .inl rfl) ?_) | (refine T_not hN rfl (by first | exact .inr trivial | exact .inl rfl) ?_) | (refine T_nil ?_) | (refine T_nild ?_) | (refine is_load ?_; (first | (refine T_loadn (t := 45) (us := [_, _, _, _, _, _]) hN rfl (hT.has 0 rfl) rfl rfl (by first | exact .inl rfl | exact .inr ⟨by decide, trivial⟩) ?_))) | (refine is_call ?_; (first | (refine is_call ?_; refine T_call (f := 27) hN rfl (by decide) (cR _) ?_; rintro e ww ⟨rfl, hf⟩; replace hT := hT.same hf; clear hf; refine ⟨_, rfl, (by first | exact trivial | ((repeat' (first | exact hT.has 0 rfl | exact hT.has 1 rfl | exact hT.has 2 rfl | exact hT.has 3 rfl | exact hT.has 4 rfl | exact hT.has 5 rfl | exact hT.ord 0 rfl | exact hT.ord 1 rfl | exact hT.ord 2 rfl | exact hT.ord 3 rfl | exact hT.ord 4 rfl | exact hT.ord 5 rfl | exact hT.mrd (by assumption) | refine And.intro ?_ ?_)); done)), ?_⟩) | ((refine is_call ?_; obtain ⟨hP, hK⟩ := hT.call0m; refine T_call (f := 28) hN rfl (by decide) (cB _ hP) ?_; rintro e ww ⟨x1, c1, rfl, h1⟩; clear hT hP; replace hT := hK _ _ _ h1; clear hK h1; refine ⟨_, rfl, (by first | exact trivial | ((repeat' (first | exact hT.has 0 rfl | exact hT.has 1 rfl | exact hT.has 2 rfl | exact hT.has 3 rfl | exact hT.has 4 rfl | exact hT.has 5 rfl | exact hT.ord 0 rfl | exact hT.ord 1 rfl | exact hT.ord 2 rfl | exact hT.ord 3 rfl | exact hT.ord 4 rfl | exact hT.ord 5 rfl | exact hT.mrd (by assumption) | refine And.intro ?_ ?_)); done)), ?_⟩); replace hT := freeze_blk (n := 32) (hT.sel [2, 0] rfl).freeze (by rw [u8s_length]; omega); have hxn := own_nil (hT.owns 0 rfl)) | (refine is_call ?_; obtain ⟨hP, hK⟩ := hT.call0 [Ob.rd (some ⟨g2, 0, none⟩) 32 1 (u8s k), Ob.rd x1 F.length 1 (u8s F)] (fun o' ho => by rcases List.mem_cons.1 ho with rfl | ho; exact ⟨_, List.mem_cons_of_mem _ (List.mem_cons_self ..), Ob.Ent.refl _⟩; rw [List.mem_singleton] at ho; subst ho; exact ⟨_, List.mem_cons_self .., Ent.own_rd _ _ _ _ _ _⟩); refine T_call (f := 29) hN rfl (by decide) (ref_Tag (some ⟨g2, 0, none⟩) 32 32 k hk (by decide) x1 F.length c1 F rfl hxn (by omega) _ (List.mem_cons_self ..) (List.mem_cons_of_mem _ (List.mem_cons_self ..)) hP) ?_; rintro e ww ⟨rfl, h1⟩; clear hT hP; replace hT := hK _ _ _ h1; clear hK h1; refine ⟨_, rfl, (by first | exact trivial | ((repeat' (first | exact hT.has 0 rfl | exact hT.has 1 rfl | exact hT.has 2 rfl | exact hT.has 3 rfl | exact hT.has 4 rfl | exact hT.has 5 rfl | exact hT.ord 0 rfl | exact hT.ord 1 rfl | exact hT.ord 2 rfl | exact hT.ord 3 rfl | exact hT.ord 4 rfl | exact hT.ord 5 rfl | exact hT.mrd (by assumption) | refine And.intro ?_ ?_)); done)), ?_⟩) | (refine T_append hN hT 0 (by rfl) (by rfl) rfl rfl rfl hxn2 (hT.ord 2 rfl) (u8s_all1 F) (by unfold maxLen; omega) (by omega) (by decide) ?_; clear hT; intro x2 c2 ww hT; refine ⟨trivial, ?_⟩) | (refine T_append hN hT 0 (by rfl) (by rfl) rfl rfl rfl (fun h => by cases h) (blk_rdz (sz := 1) (hT.has 1 rfl) (by rw [u8s_length, htl]) (by rw [List.drop_zero, List.take_of_length_le (by rw [u8s_length, htl]; exact Nat.le_refl _)])) (u8s_all1 _) (by unfold maxLen; omega) (by omega) (by decide) ?_; clear hT; intro x3 c3 ww hT; refine ⟨trivial, ?_⟩))) | (refine is_store ?_; (first | (refine T_storeAll hN hT 0 (us := u8s (tagP k F)) rfl rfl rfl (by rw [u8s_length, htl]; rfl) rfl (List.all_eq_true.2 (u8s_all1 _)) (by decide) ?_; clear hT; intro ww hT; refine ⟨trivial, ?_⟩; have hxn2 := own_nil (hT.owns 1 rfl)))) | (refine is_box ?_; (first | (refine T_box (d := 2) hN hT (vs := u8s k) rfl (by decide) ?_; clear hT; intro g2 ww hT; refine ⟨trivial, ?_⟩) | (refine T_box (d := 3) hN hT (vs := [.int .i64 a, .int .i64 b, .int .u64 bt, .int .u64 ct, .int .i64 kd, .slice x body.length c]) rfl (by decide) ?_; clear hT; intro g3 ww hT; refine ⟨trivial, ?_⟩))) | (refine is_alloc ?_; (first | (refine T_alloc (d := 7) hN hT (by decide) ?_; clear hT; intro g9 ww hT; refine ⟨trivial, ?_⟩))) | (refine is_buildSlice ?_; (first | (refine T_slice0 hN hT (by decide) ?_; clear hT; intro g ww hT; refine ⟨(by first | exact trivial), ?_⟩))) | (refine is_slice ?_; (first | (refine T_slcA hN rfl (by first | exact .inr trivial | exact .inl rfl) ?_)))))
      | (refine isC ?_; (first | (refine C_seq ?_) | (refine C_rgnk (id := 0) hN [(0, _), (1, _)] ⟨rfl, rfl, trivial⟩ ?_; clear hN; intro a0 hN) | (refine C_rgnk (id := 1) hN [(0, _), (1, _), (2, _), (3, _), (4, _), (5, _)] ⟨rfl, rfl, rfl, rfl, rfl, rfl, trivial⟩ ?_; clear hN; intro a0 hN) | (refine C_rgnk (id := 3) hN [(0, _), (1, _), (2, _), (3, _), (4, _), (5, _), (10, _)] ⟨rfl, rfl, rfl, rfl, rfl, rfl, rfl, trivial⟩ ?_; clear hN; intro a0 hN) | (refine C_rgnk (id := 4) hN [(0, _), (1, _), (2, _), (3, _), (4, _), (5, _), (6, _), (10, _)] ⟨rfl, rfl, rfl, rfl, rfl, rfl, rfl, rfl, trivial⟩ ?_; clear hN; intro a0 hN) | (refine C_false hN rfl ?_) | (refine C_skip ?_) | (refine C_ret ?_) | (refine C_drawk (id := 5) hN [(0, _), (1, _), (2, _), (3, _), (4, _), (5, _), (6, _), (7, _), (10, _)] ⟨rfl, rfl, rfl, rfl, rfl, rfl, rfl, rfl, rfl, trivial⟩ [2, 0, 2, 0] Any Try.mixed (by kernel_rfl) trivial ?_; replace hT := hT.drew; clear hN; intro a0 hN)))
      | (refine isE ?_; (first | (refine E_thn ?_) | (refine E_ret hN Try.results10 (.tmp rfl (.tmp rfl .nil)) ?_))))
    all_goals
      simp only [Nat.zero_add, List.nil_append] at hT ⊢
      have e1 : (F ++ tagP k F).length = F.length + 16 := by rw [List.length_append, htl]
      rw [e1, u8s_append]
      exact ⟨x3, c3, rfl, (hT.sel [0] rfl).meq fun o ho => ⟨o, List.mem_cons_of_mem _ ho, Ob.Ent.refl _⟩⟩
  · have cR := fun ww => ref_Right2 (x := x) (c := c) (bdec_false' hok) ww
    simp only [if_neg hok]
    obtain ⟨a, b, bt, ct, kd, body⟩ := r
    rw [show Fm.cells ⟨a, b, bt, ct, kd, body⟩ x c = [.int .i64 a, .int .i64 b, .int .u64 bt, .int .u64 ct, .int .i64 kd, .slice x body.length c] from rfl] at cR ⊢
    refine enter [(0, _), (1, _)] Try.func10 rfl Try.ntmps10 (Nat.le_of_ble_eq_true rfl) rfl ?_; intro a0 hN
    repeat' (first
      | (refine isT ?_; (first | (refine T_assign hN rfl (by first | exact .inr trivial | exact .inl rfl) ?_) | (refine T_not hN rfl (by first | exact .inr trivial | exact .inl rfl) ?_) | (refine T_nil ?_) | (refine is_load ?_; (first | (refine T_loadn (t := 45) (us := [_, _, _, _, _, _]) hN rfl (hT.has 0 rfl) rfl rfl (by first | exact .inl rfl | exact .inr ⟨by decide, trivial⟩) ?_))) | (refine is_call ?_; (first | (refine is_call ?_; refine T_call (f := 27) hN rfl (by decide) (cR _) ?_; rintro e ww ⟨rfl, hf⟩; replace hT := hT.same hf; clear hf; refine ⟨_, rfl, (by first | exact trivial | ((repeat' (first | exact hT.has 0 rfl | exact hT.has 1 rfl | exact hT.has 2 rfl | exact hT.has 3 rfl | exact hT.has 4 rfl | exact hT.has 5 rfl | exact hT.ord 0 rfl | exact hT.ord 1 rfl | exact hT.ord 2 rfl | exact hT.ord 3 rfl | exact hT.ord 4 rfl | exact hT.ord 5 rfl | exact hT.mrd (by assumption) | refine And.intro ?_ ?_)); done)), ?_⟩))) | (refine is_box ?_; (first | (refine T_box (d := 2) hN hT (vs := u8s k) rfl (by decide) ?_; clear hT; intro g2 ww hT; refine ⟨trivial, ?_⟩) | (refine T_box (d := 3) hN hT (vs := [.int .i64 a, .int .i64 b, .int .u64 bt, .int .u64 ct, .int .i64 kd, .slice x body.length c]) rfl (by decide) ?_; clear hT; intro g3 ww hT; refine ⟨trivial, ?_⟩)))))
      | (refine isC ?_; (first | (refine C_seq ?_) | (refine C_rgnk (id := 0) hN [(0, _), (1, _)] ⟨rfl, rfl, trivial⟩ ?_; clear hN; intro a0 hN) | (refine C_rgnk (id := 1) hN [(0, _), (1, _), (2, _), (3, _), (4, _), (5, _)] ⟨rfl, rfl, rfl, rfl, rfl, rfl, trivial⟩ ?_; clear hN; intro a0 hN) | (refine C_rgnk (id := 2) hN [(0, _), (1, _), (2, _), (3, _), (4, _), (5, _), (10, _)] ⟨rfl, rfl, rfl, rfl, rfl, rfl, rfl, trivial⟩ ?_; clear hN; intro a0 hN) | (refine C_true hN rfl ?_) | (refine C_ret ?_)))
      | (refine isE ?_; (first | (refine E_thn ?_) | (refine E_thn_ret ?_) | (refine E_ret hN Try.results10 (.tmp rfl (.tmp rfl .nil)) ?_))))
    all_goals exact ⟨rfl, hT.nil⟩
end Go.Proofs.Ytemhcflaldeakaa
