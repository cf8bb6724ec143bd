/- THE WALK of Peek. -/
import Derived.Test.YtfcmjlbfoindaaaOpen12
namespace Go.Proofs.Ytfcmjlbfoindaaa
open Go.RowKit Go.Fp
attribute [local irreducible] Go.Calls
set_option maxRecDepth 100000
set_option maxHeartbeats 16000000
attribute [local irreducible] hdP
def PeekPost (w : World) (m : List Ob) (bs : List UInt8) (e : Ending) (w' : World) : Prop :=
  ∃ (x' : Option Addr) (c' : Nat), e = .returned (.tuple #[.agg ((hdP bs).1.cells x' c').toArray, .int .i64 (hdP bs).2.2]) ∧ Tk [] w w' [Ob.own 5 1 (.slice x' (hdP bs).1.body.length c') (hdP bs).1.body.length (u8s (hdP bs).1.body)] m
theorem frm_Peek (x : Option Addr) (c : Nat) (bs : List UInt8) (hx : x = none → bs.length = 0 ∧ c = 0) (hn : bs.length ≤ 140737488355328) (w : World) {m : List Ob} (hm : Ob.rd x bs.length 1 (u8s bs) ∈ m) (hT : Tk [] w w [] m) :
    Calls Try.prog 64 #[.slice x bs.length c] w (PeekPost w m bs) := by
  have cH := fun ww h => frm_headM x c bs hx hn ww (m := m) hm h
  unfold HdPost at cH
  unfold PeekPost
  generalize hdP bs = hp at *
  obtain ⟨⟨fr, to, bt, ct, kd, body⟩, n, E⟩ := hp
  dsimp only at cH ⊢
  simp only [Fm.cells_mk] at cH ⊢
  refine enter [(0, _)] Try.func64 rfl Try.ntmps64 (Nat.le_of_ble_eq_true rfl) rfl ?_; intro a0 hN
  repeat' (first
    | (refine isT ?_; (first | (refine T_assign hN rfl (by first | exact .inr trivial | exact .inl rfl) ?_) | (refine T_extract hN rfl rfl (by first | exact .inr trivial | exact .inl rfl) ?_) | (refine T_move hN rfl (by first | exact .inr trivial | exact .inl rfl) ?_) | (refine T_nil ?_) | (refine is_load ?_; (first | (refine T_loadn (t := 104) (us := [_, _, _, _, _, _]) hN rfl (hT.has 0 rfl) rfl rfl (by first | exact .inl rfl | exact .inr ⟨by decide, trivial⟩) ?_))) | (refine is_call ?_; (first | (refine is_call ?_; obtain ⟨hP, hK⟩ := hT.call0m; refine T_call (f := 81) hN rfl (by decide) (cH _ hP) ?_; rintro e ww ⟨x1, c1, rfl, h1⟩; clear hT hP; replace hT := hK _ _ _ h1; clear hK h1; refine ⟨_, rfl, (by first | exact trivial | ((repeat' (first | exact hT.has 0 rfl | exact hT.has 1 rfl | exact hT.has 2 rfl | exact hT.has 3 rfl | exact hT.has 4 rfl | exact hT.has 5 rfl | exact hT.ord 0 rfl | exact hT.ord 1 rfl | exact hT.ord 2 rfl | exact hT.ord 3 rfl | exact hT.ord 4 rfl | exact hT.ord 5 rfl | exact hT.mrd (by assumption) | refine And.intro ?_ ?_)); done)), ?_⟩))) | (refine is_store ?_; (first | (refine T_storen hN hT 0 rfl rfl rfl rfl rfl rfl (by decide) ?_; clear hT; intro ww hT; refine ⟨(by first | exact trivial), ?_⟩) | (refine T_storen hN hT 2 rfl rfl rfl rfl rfl rfl (by decide) ?_; clear hT; intro ww hT; refine ⟨(by first | exact trivial), ?_⟩))) | (refine is_alloc ?_; (first | (refine T_alloc hN hT (by decide) ?_; clear hT; intro g ww hT; refine ⟨(by first | exact trivial), ?_⟩)))))
    | (refine isC ?_; (first | (refine C_seq ?_) | (refine C_rgnk (id := 0) hN [(0, _)] ⟨rfl, trivial⟩ ?_; clear hN; intro a0 hN) | (refine C_rgnk (id := 1) hN [(0, _), (2, _), (3, _)] ⟨rfl, rfl, rfl, trivial⟩ ?_; clear hN; intro a0 hN) | (refine C_rgnk (id := 2) hN [(0, _), (2, _), (3, _), (4, _), (6, _)] ⟨rfl, rfl, rfl, rfl, rfl, trivial⟩ ?_; clear hN; intro a0 hN) | (refine C_ret ?_)))
    | (refine isE ?_; (first | (refine E_thn ?_) | (refine E_ret hN Try.results64 (.cell rfl (run_loadAll (hT.has 2 rfl) rfl rfl) (.tmp rfl .nil)) ?_))))
  all_goals first
    | exact ⟨x1, c1, rfl, hT.sel [1] rfl⟩
    | fail "P"
end Go.Proofs.Ytfcmjlbfoindaaa
