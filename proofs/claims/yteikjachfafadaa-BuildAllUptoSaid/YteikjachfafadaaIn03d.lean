/- THE WALKS of what takes fields: a short sum, a blob. -/
import Derived.Test.YteikjachfafadaaIn03c
namespace Go.Proofs.Yteikjachfafadaa
open Go.RowKit Go.Fp
attribute [local irreducible] Go.Calls
set_option maxRecDepth 100000
set_option maxHeartbeats 2000000
/-- The next short sum. -/
def sm (s : List UInt8 × Int) : List UInt8 := if s.2 = 0 ∧ 16 ≤ s.1.length then s.1.take 16 else List.replicate 16 0
theorem sm_length (s : List UInt8 × Int) : (sm s).length = 16 := by
  unfold sm; split
  · rw [List.length_take]; omega
  · rfl
theorem sm_spl (s : List UInt8 × Int) : spl (u8s (List.replicate 16 0)) 0 (u8s (nx 16 s)) = u8s (sm s) := by
  unfold sm nx
  split
  · rename_i h
    have hl : (s.1.take 16).length = 16 := by rw [List.length_take]; omega
    generalize s.1.take 16 = l at *
    unfold spl
    have : (u8s (List.replicate 16 0)).drop (0 + (u8s l).length) = [] := by rw [List.drop_eq_nil_iff, u8s_length, u8s_length, hl]; decide
    rw [this]; simp
  · rfl
theorem In_Sum (q : Nat) (s : List UInt8 × Int) (f : List Nat) (w : World) {m : List Ob} (hT : Tk f w w [In q s.1 s.2] m) :
    Calls Try.prog 39 #[.pointer (some ⟨q, 0, none⟩)] w fun en w' => en = .returned (.agg (u8s (sm s)).toArray) ∧ Tk f w w' [In q (nxt 16 s).1 (nxt 16 s).2] m := by
  have hn := In_next q s 16 (by omega)
  have hl := nx_len 16 s
  have hsp := sm_spl s
  have hsl := sm_length s
  generalize nx 16 s = ps at *
  generalize nxt 16 s = s' at *
  generalize sm s = r at *
  refine enter [(0, _)] Try.func39 rfl Try.ntmps39 (Nat.le_of_ble_eq_true rfl) rfl ?_; intro a0 hN
  repeat' (first
    | (refine isT ?_; (first | (refine T_move hN rfl (by first | exact .inr trivial | exact .inl rfl) ?_) | (refine T_nil ?_) | (refine T_nild ?_) | (refine is_load ?_; (first | (refine T_loadn hN rfl (hT.has 0 rfl) (us := u8s r) (by rw [List.drop_zero]; refine Eq.trans (congrArg _ hsp) ?_; rw [List.take_of_length_le (by rw [u8s_length, hsl]; exact Nat.le_refl _)]) (by rw [u8s_length, hsl]) (by first | exact .inl rfl | exact .inr ⟨by decide, trivial⟩) ?_))) | (refine is_call ?_; (first | (refine is_call ?_; obtain ⟨f1, hP, hK⟩ := hT.call1m 2 rfl; refine T_call (f := 56) hN rfl (by decide) (hn f1 _ hP) ?_; rintro e ww ⟨⟨x, c, rfl, hx0, hrd⟩, h1⟩; clear hT hP; replace hT := hK _ _ _ _ h1; clear hK h1; refine ⟨_, rfl, (by first | exact trivial | ((repeat' (first | exact hT.has 0 rfl | exact hT.has 1 rfl | exact hT.has 2 rfl | exact hT.has 3 rfl | exact hT.has 4 rfl | exact hT.has 5 rfl | exact hT.ord 0 rfl | exact hT.ord 1 rfl | exact hT.ord 2 rfl | exact hT.ord 3 rfl | exact hT.ord 4 rfl | exact hT.ord 5 rfl | exact hT.mrd (by assumption) | refine And.intro ?_ ?_)); done)), ?_⟩) | (refine T_copy hN hT 0 rfl rfl rfl hrd (u8s_all1 ps) hl (by simpa using hl) (by decide) ?_; clear hT; intro ww hT; refine ⟨trivial, ?_⟩))) | (refine is_store ?_; (first | (refine T_storeAll hN hT 1 (us := u8s r) rfl rfl rfl (by rw [u8s_length, hsl]; rfl) rfl (List.all_eq_true.2 (u8s_all1 r)) (by decide) ?_; clear hT; intro ww hT; refine ⟨trivial, ?_⟩))) | (refine is_alloc ?_; (first | (refine T_alloc hN hT (by decide) ?_; clear hT; intro g ww hT; refine ⟨(by first | exact trivial), ?_⟩))) | (refine is_slice ?_; (first | (refine T_slcA hN rfl (by first | exact .inr trivial | exact .inl rfl) ?_)))))
    | (refine isC ?_; (first | (refine C_seq ?_) | (refine C_rgnk (id := 0) hN [(0, _)] ⟨rfl, trivial⟩ ?_; clear hN; intro a0 hN) | (refine C_rgnk (id := 1) hN [(0, _), (2, _)] ⟨rfl, rfl, trivial⟩ ?_; clear hN; intro a0 hN) | (refine C_rgnk (id := 3) hN [(0, _), (2, _), (3, _)] ⟨rfl, rfl, rfl, trivial⟩ ?_; clear hN; intro a0 hN) | (refine C_ret ?_) | (refine C_drawk (id := 2) hN [(0, _), (2, _), (3, _)] ⟨rfl, rfl, rfl, trivial⟩ [0, 0] Any Try.mixed (by kernel_rfl) trivial ?_; replace hT := hT.drew; clear hN; intro a0 hN)))
    | (refine isE ?_; (first | (refine E_ret hN Try.results39 (.cell rfl (run_loadAll (hT.has 1 rfl) (us := u8s r) (by rw [List.drop_zero, List.take_of_length_le (by rw [u8s_length, hsl]; exact Nat.le_refl _)]) (by rw [u8s_length, hsl])) .nil) ?_) | (refine E_thn ?_))))
  all_goals exact ⟨rfl, hT.drop.drop⟩
/-- A fault noted. -/
def fl (z : Int) (s : List UInt8 × Int) : List UInt8 × Int := (if s.2 = 0 ∧ ¬ z = 0 then [] else s.1, if s.2 = 0 ∧ ¬ z = 0 then z else s.2)
theorem nm_lt (k : Nat) (s : List UInt8 × Int) : nm k s < 256 ^ k := by
  unfold nm
  exact Nat.lt_of_lt_of_le (beN_lt _) (Nat.pow_le_pow_right (by decide) (nx_len k s))
/-- The next bytes with their number. -/
def bl0 (most : Int) (s : List UInt8 × Int) : List UInt8 × Int := if max (min most 4096) 0 < (nm 2 s : Int) then fl 8 (nxt 2 s) else nxt 2 s
def bl (most : Int) (s : List UInt8 × Int) : List UInt8 := nx (nm 2 s) (bl0 most s)
def blt (most : Int) (s : List UInt8 × Int) : List UInt8 × Int := nxt (nm 2 s) (bl0 most s)
end Go.Proofs.Yteikjachfafadaa
