/- THE WALK of the document's PutUpdate, whole. -/
import Derived.Test.YthjdhmnmlblpfaaRRU21
import Derived.Test.YthjdhmnmlblpfaaRRU21t
namespace Go.Proofs.YthjdhmnmlblpfaaR
open Go.RowKit Go.Fp
attribute [local irreducible] Go.Calls
set_option maxRecDepth 100000
set_option maxHeartbeats 16000000
section
variable (x : Option Addr) (c : Nat) (es : List En) (w : World) {m : List Ob} (hm : EnR m es) (hT : Tk [] w w [] (Ob.rd x es.length 22 (es.map En.cells).flatten :: m))
include hm hT
theorem rup_PutUpdate (full : Bool) : Calls Try.prog 28 #[.agg #[.bool full, .slice x es.length c]] w (PUPost x es w m full) := by
  by_cases h8 : 8 < es.length
  · have hp : putU full es = ([], 8) := if_pos h8
    unfold PUPost
    rw [hp]
    refine enter [(0, _)] Try.func28 rfl Try.ntmps28 (Nat.le_of_ble_eq_true rfl) rfl ?_; intro a0 hN
    repeat' (first
      | (refine isT ?_; (first | (refine T_assign hN rfl (by first | exact .inr trivial | exact .inl rfl) ?_) | (refine T_fieldAddr hN rfl (by first | exact .inr trivial | exact .inl rfl) ?_) | (refine T_nil ?_) | (refine is_load ?_; (first | (refine T_load hN rfl (hT.has 0 rfl) rfl (by first | exact .inl rfl | exact .inr ⟨by decide, trivial⟩) ?_))) | (refine is_binOp ?_; (first | (refine T_gtr hN rfl rfl (by first | exact .inr trivial | exact .inl rfl) ?_))) | (refine is_call ?_; (first | (refine T_len hN rfl (by first | exact .inr trivial | exact .inl rfl) ?_))) | (refine is_box ?_; (first | (refine T_box hN hT rfl (by decide) ?_; clear hT; intro g ww hT; refine ⟨(by first | exact trivial), ?_⟩)))))
      | (refine isC ?_; (first | (refine C_seq ?_) | (refine C_rgnk (id := 0) hN [(0, _)] ⟨rfl, trivial⟩ ?_; clear hN; intro a0 hN) | (refine C_rgnk (id := 1) hN [(0, _), (1, _), (2, _), (3, _)] ⟨rfl, rfl, rfl, rfl, trivial⟩ ?_; clear hN; intro a0 hN) | (refine C_rgnk (id := 2) hN [(0, _), (1, _), (2, _), (3, _), (10, _)] ⟨rfl, rfl, rfl, rfl, rfl, trivial⟩ ?_; clear hN; intro a0 hN) | (refine C_if hN rfl (fun hb => ?_) (fun hb => ?_) <;> ((first | (exfalso; omega) | (exfalso; exact hb rfl) | (exfalso; exact hb (fun h => h rfl)) | ((with_reducible refine absurd ?_ hb); (repeat' (first | exact trivial | refine And.intro rfl ?_)); done) | (replace hb := Classical.not_not.1 hb) | skip))) | (refine C_ret ?_)))
      | (refine isE ?_; (first | (refine E_thn ?_) | (refine E_thn_ret ?_) | (refine E_ret hN Try.results28 (.tmp rfl (.tmp rfl .nil)) ?_))))
    all_goals exact ⟨none, 0, rfl, hT.nil.addnil 5 1⟩
  · cases full with
    | false => exact ref_Put_false x c es w hm hT h8
    | true => exact ref_Put_true x c es w hm hT h8
end
end Go.Proofs.YthjdhmnmlblpfaaR
