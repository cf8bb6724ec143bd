/- THE WALK of a sum's block. -/
import Derived.Test.YtfcmjlbfoindaaaU32L
import Derived.Test.YtfcmjlbfoindaaaFc
namespace Go.Fp
open Go Go.RowKit
theorem wc_set (p : List UInt8) {i : Nat} (hi : i < 64) {x : UInt32} (hx : x = nxt p (sched p i) i) : (wcells (sched p i)).set (0 + i * 1) (w32 x) = wcells (sched p (i + 1)) := by
  subst hx
  have h := wcells_set (ws := sched p i) (by rw [sched_len]; exact hi) (nxt p (sched p i) i)
  rw [sched_len] at h
  rw [Nat.zero_add, Nat.mul_one]
  exact h
theorem wc_get (p : List UInt8) {i j : Nat} (hj : j < i) : (wcells (sched p i))[0 + j * 1]? = some (w32 (gw (sched p i) j)) := by
  rw [Nat.zero_add, Nat.mul_one]; exact wcells_get (by rw [sched_len]; exact hj)
theorem wc_hole (p : List UInt8) {i : Nat} (hi : i < 64) : (wcells (sched p i))[0 + i * 1]? = some (w32 0) := by
  rw [Nat.zero_add, Nat.mul_one]
  unfold wcells w32s
  rw [List.getElem?_map, List.getElem?_append_right (by rw [sched_len]; exact Nat.le_refl _), sched_len, Nat.sub_self, List.getElem?_replicate, if_pos (by omega)]; rfl
theorem kc_get {j : Nat} (hj : j < 64) : (w32s shK)[0 + j * 1]? = some (w32 (gw shK j)) := by
  rw [Nat.zero_add, Nat.mul_one]
  unfold w32s
  rw [List.getElem?_map, gw_get (by exact hj)]; rfl
theorem byte_cell {w : World} {B off n : Nat} {p : List UInt8} (h : Rdz w (some ⟨B, off, none⟩) n 1 (u8s p)) {j : Nat} (hj : j < p.length) : w.cell? ⟨B, off + j * 1, none⟩ = some (u8 (gb p j)) :=
  h.cell rfl (by rw [Nat.mul_one, u8s_get, gb_get hj]; rfl)
theorem w32s_one (l : List UInt32) : (w32s l).all (·.oneCell') = true := List.all_eq_true.2 fun u hu => by
  obtain ⟨x, _, rfl⟩ := List.mem_map.1 hu; rfl
def S8.w (h : S8) (p : List UInt8) (i : Nat) : S8 := h.rnds shK (sched p 64) i
theorem sched_zero (p : List UInt8) : sched p 0 = [] := rfl
theorem S8.w_zero (h : S8) (p : List UInt8) : h.w p 0 = h := rfl
theorem S8.mix_w (h : S8) (p : List UInt8) : h.mix p = h.plus (h.w p 64) := rfl
theorem S8.w_succ (h : S8) (p : List UInt8) (i : Nat) : h.w p (i + 1) = (h.w p i).rnd (gw shK i) (gw (sched p 64) i) := rfl
end Go.Fp
namespace Go.Proofs.Ytfcmjlbfoindaaa
open Go.RowKit Go.Fp
attribute [local irreducible] Go.Calls
set_option maxRecDepth 100000
set_option maxHeartbeats 16000000
theorem sha_turn (x : UInt32) (n : Nat) (z : Int) (hz : z = n) (hn : 0 < n ∧ n < 32) (w : World) : Calls Try.prog 107 #[.int .u32 (x.toNat : Int), .int .i64 z] w fun e w' => e = .returned (.int .u32 ((rot x n).toNat : Int)) ∧ Fr [] w w' := by
  have hT := Tk.start0 w
  refine enter [(0, _), (1, _)] Try.func107 rfl Try.ntmps107 (Nat.le_of_ble_eq_true rfl) rfl ?_; intro a0 hN
  repeat' (first
    | (refine isT ?_; (first | (refine T_assign hN rfl (by first | exact .inr trivial | exact .inl rfl) ?_) | (refine T_move hN rfl (by first | exact .inr trivial | exact .inl rfl) ?_) | (refine T_nil ?_) | (refine T_nild ?_) | (refine is_binOp ?_; (first | (refine T_shr32 n hN rfl rfl (by omega) (by omega) (by first | exact .inr trivial | exact .inl rfl) ?_) | (refine T_shl32 (32 - n) hN rfl rfl (by omega) (by omega) (by first | exact .inr trivial | exact .inl rfl) ?_) | (refine T_or32 hN rfl rfl (by first | exact .inr trivial | exact .inl rfl) ?_) | (refine T_subi64 hN rfl rfl (by omega) (by first | exact .inr trivial | exact .inl rfl) ?_)))))
    | (refine isC ?_; (first | (refine C_seq ?_) | (refine C_rgnk (id := 0) hN [(0, _), (1, _)] ⟨rfl, rfl, trivial⟩ ?_; clear hN; intro a0 hN) | (refine C_ret ?_) | (refine C_drawk (id := 1) hN [(0, _), (1, _), (4, _)] ⟨rfl, rfl, rfl, trivial⟩ [0, 0, 0, 0] Any Try.mixed (by kernel_rfl) trivial ?_; replace hT := hT.drew; clear hN; intro a0 hN)))
    | (refine isE ?_; (first | (refine E_thn ?_) | (refine E_ret hN Try.results107 (.tmp rfl .nil) ?_))))
  all_goals exact ⟨rfl, hT.fr⟩
theorem sha_words (w : World) : Calls Try.prog 108 #[] w fun e w' => e = .returned (.agg (w32s shK).toArray) ∧ Fr [] w w' := by
  have hT := Tk.start0 w
  refine enter [] Try.func108 rfl Try.ntmps108 (Nat.le_of_ble_eq_true rfl) rfl ?_; intro a0 hN
  repeat' (first
    | (refine isT ?_; (first | (refine T_nil ?_) | (refine is_store ?_; (first | (refine T_storeAll hN hT 0 (us := w32s shK) rfl rfl rfl (by rfl) rfl (w32s_one _) (by decide) ?_; clear hT; intro ww hT; refine ⟨trivial, ?_⟩))) | (refine is_alloc ?_; (first | (refine T_alloc hN hT (by decide) ?_; clear hT; intro g ww hT; refine ⟨(by first | exact trivial), ?_⟩))) | (refine is_build ?_; (first | (refine T_build (t := 197) hN rfl rfl (by first | exact .inr trivial | exact .inl rfl) ?_)))))
    | (refine isC ?_; (first | (refine C_seq ?_) | (refine C_rgnk (id := 0) hN [] trivial ?_; clear hN; intro a0 hN) | (refine C_rgnk (id := 1) hN [(0, _)] ⟨rfl, trivial⟩ ?_; clear hN; intro a0 hN) | (refine C_ret ?_)))
    | (refine isE ?_; (first | (refine E_ret hN Try.results108 (.cell rfl (run_loadAll (hT.has 0 rfl) (us := w32s shK) (by rfl) (by rfl)) .nil) ?_) | (refine E_thn ?_))))
  all_goals exact ⟨rfl, hT.fr⟩
end Go.Proofs.Ytfcmjlbfoindaaa
