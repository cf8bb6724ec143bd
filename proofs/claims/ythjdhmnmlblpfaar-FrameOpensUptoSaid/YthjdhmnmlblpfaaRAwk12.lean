/- THE WALK: a frame without a body has 38 bytes. -/
import Derived.Test.YthjdhmnmlblpfaaRSeal12
namespace Go.Proofs.YthjdhmnmlblpfaaR
open Go.RowKit Go.Fp
attribute [local irreducible] Go.Calls
set_option maxRecDepth 100000
set_option maxHeartbeats 16000000
theorem seal_len (k : List UInt8) (r : Fm) : (r.seal k).length = 38 + r.body.length := by
  unfold Fm.seal Fm.bytes
  rw [List.length_append, frB_len, tagP_len]; omega
theorem law12_awake (w : World) : Calls Try.prog 12 #[] w fun e w' => e = .returned (.bool true) ∧ Fr [] w w' := by
  have hT : Tk [] w w [] [Ob.rd none 0 1 (u8s [])] := Tk.start w fun o ho => by
    rw [List.mem_singleton] at ho; subst ho
    obtain ⟨f, h, _⟩ := of_rd (nil_rdz w 1); exact ⟨f, h⟩
  have cS : ∀ ww, Tk [] ww ww [] [Ob.rd none 0 1 (u8s [])] → Calls Try.prog 8 #[.agg (u8s (List.replicate 32 0)).toArray, .agg (Fm.cells ⟨0, 1, 1, 1, 1, []⟩ none 0).toArray] ww fun e w' => ∃ (x' : Option Addr) (c' : Nat) (bs : List UInt8), bs.length = 38 ∧ e = .returned (.tuple #[.slice x' bs.length c', .int .i64 0]) ∧ Tk [] ww w' [Ob.own 5 1 (.slice x' bs.length c') bs.length (u8s bs)] [Ob.rd none 0 1 (u8s [])] := by
    intro ww h
    have h1 := frm_Seal (List.replicate 32 0) (by simp) ⟨0, 1, 1, 1, 1, []⟩ none 0 (fun _ => ⟨rfl, rfl⟩) ww (List.mem_cons_self ..) h
    unfold SealPost at h1
    simp only [if_pos (show Fm.ok ⟨0, 1, 1, 1, 1, []⟩ by unfold Fm.ok; simp)] at h1
    refine Calls.mono h1 ?_
    rintro e w' ⟨x', c', h2, h3⟩
    exact ⟨x', c', _, seal_len _ _, h2, h3⟩
  have hz : u8s (List.replicate 32 0) = [.int .u8 0, .int .u8 0, .int .u8 0, .int .u8 0, .int .u8 0, .int .u8 0, .int .u8 0, .int .u8 0, .int .u8 0, .int .u8 0, .int .u8 0, .int .u8 0, .int .u8 0, .int .u8 0, .int .u8 0, .int .u8 0, .int .u8 0, .int .u8 0, .int .u8 0, .int .u8 0, .int .u8 0, .int .u8 0, .int .u8 0, .int .u8 0, .int .u8 0, .int .u8 0, .int .u8 0, .int .u8 0, .int .u8 0, .int .u8 0, .int .u8 0, .int .u8 0] := rfl
  rw [hz, show Fm.cells ⟨0, 1, 1, 1, 1, []⟩ none 0 = [.int .i64 0, .int .i64 1, .int .u64 1, .int .u64 1, .int .i64 1, .slice none 0 0] from rfl] at cS
  clear hz
  refine enter [] Try.func12 rfl Try.ntmps12 (Nat.le_of_ble_eq_true rfl) rfl ?_; intro a0 hN
  repeat' (first
    | (refine isT ?_; (first | (refine isGuard ?_; (first | (refine T_yes hN rfl rfl rfl ?_) | (refine T_guardD hN rfl rfl rfl (fun hb => ?_) (fun hb => ?_) <;> ((first | (exfalso; omega) | (exfalso; exact hb rfl) | (exfalso; exact hb (fun h => h rfl)) | ((with_reducible refine absurd ?_ hb); (repeat' (first | exact trivial | refine And.intro rfl ?_)); done) | (replace hb := Classical.not_not.1 hb) | skip))))) | (refine T_assign hN rfl (by first | exact .inr trivial | exact .inl rfl) ?_) | (refine T_extract hN rfl rfl (by first | exact .inr trivial | exact .inl rfl) ?_) | (refine T_move hN rfl (by first | exact .inr trivial | exact .inl rfl) ?_) | (refine T_nil ?_) | (refine is_binOp ?_; (first | (refine T_eql hN rfl rfl (by first | exact .inr trivial | exact .inl rfl) ?_))) | (refine is_pick ?_; (first | (refine T_pick1 hN rfl rfl (by first | exact .inr trivial | exact .inl rfl) ?_))) | (refine is_call ?_; (first | (refine is_call ?_; obtain ⟨hP, hK⟩ := hT.call0m; refine T_call (f := 8) hN rfl (by decide) (cS _ hP) ?_; rintro e ww ⟨x1, c1, bs, hbl, rfl, h1⟩; clear hT hP; replace hT := hK _ _ _ h1; clear hK h1; refine ⟨_, rfl, (by first | exact trivial | ((repeat' (first | exact hT.has 0 rfl | exact hT.has 1 rfl | exact hT.has 2 rfl | exact hT.has 3 rfl | exact hT.has 4 rfl | exact hT.has 5 rfl | exact hT.ord 0 rfl | exact hT.ord 1 rfl | exact hT.ord 2 rfl | exact hT.ord 3 rfl | exact hT.ord 4 rfl | exact hT.ord 5 rfl | exact hT.mrd (by assumption) | refine And.intro ?_ ?_)); done)), ?_⟩) | (refine T_len hN rfl (by first | exact .inr trivial | exact .inl rfl) ?_))) | (refine is_build ?_; (first | (refine T_build (t := 30) (us := [_, _, _, _, _, _]) hN rfl rfl (by first | exact .inr trivial | exact .inl rfl) ?_) | (refine T_build (t := 80) hN rfl rfl (by first | exact .inr trivial | exact .inl rfl) ?_)))))
    | (refine isC ?_; (first | (refine C_seq ?_) | (refine C_rgnk (id := 0) hN [] trivial ?_; clear hN; intro a0 hN) | (refine C_rgnk (id := 1) hN [(0, _)] ⟨rfl, trivial⟩ ?_; clear hN; intro a0 hN) | (refine C_rgnk (id := 2) hN [(0, _), (1, _), (2, _)] ⟨rfl, rfl, rfl, trivial⟩ ?_; clear hN; intro a0 hN) | (refine C_ret ?_)))
    | (refine isE ?_; (first | (refine E_thn ?_) | (refine E_ret hN Try.results12 (.tmp rfl .nil) ?_))))
  all_goals first
    | exact ⟨rfl, hT.fr⟩
    | (exact ⟨by rw [bdec_true' (by omega)]; rfl, hT.fr⟩)
    | fail "W"
end Go.Proofs.YthjdhmnmlblpfaaR
