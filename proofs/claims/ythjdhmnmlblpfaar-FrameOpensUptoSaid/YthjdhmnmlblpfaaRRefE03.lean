/- THE WALK of the document's answer: what is wrong at the end. -/
import Derived.Test.YthjdhmnmlblpfaaRRefK03
namespace Go.Proofs.YthjdhmnmlblpfaaR
open Go.RowKit Go.Fp
attribute [local irreducible] Go.Calls
set_option maxRecDepth 100000
set_option maxHeartbeats 2000000
theorem ref_InEnd (x : Option Addr) (c : Nat) (bs : List UInt8) (hbs : bs.length ≤ 140737488355328) (q : Nat) (s : List UInt8 × Int) (f : List Nat) (w : World) {m : List Ob} (hT : Tk f w w [RI x c bs q s] m) :
    Calls Try.prog 54 #[.pointer (some ⟨q, 0, none⟩)] w fun e w' => e = .returned (.int .i64 (if s.1 = [] ∨ ¬ s.2 = 0 then s.2 else 10)) ∧ Tk f w w' [RI x c bs q ([], if s.1 = [] ∨ ¬ s.2 = 0 then s.2 else 10)] m := by
  have hL := fun f1 ww (h) => ref_InLeft x c bs hbs q s f1 ww (m := m) h
  have hs : ¬ s.2 = 0 → s.1 = [] := by
    obtain ⟨a, ⟨i1, i2⟩, _⟩ := RI.open hT
    intro h; rw [i2, if_neg h]
  obtain ⟨xs, e⟩ := s
  dsimp only at hs hL ⊢
  by_cases hx : xs = []
  · subst hx
    rw [if_pos (.inl rfl)]
    rw [List.length_nil] at hL
    refine enter [(0, _)] Try.func54 rfl Try.ntmps54 (Nat.le_of_ble_eq_true rfl) rfl ?_; intro a0 hN
    repeat' (first
      | (refine isT ?_; (first | (refine T_assign hN rfl (by first | exact .inr trivial | exact .inl rfl) ?_) | (refine T_fieldAddr hN rfl (by first | exact .inr trivial | exact .inl rfl) ?_) | (refine T_move hN rfl (by first | exact .inr trivial | exact .inl rfl) ?_) | (refine T_nilCheck hN rfl (by first | exact .inr trivial | exact .inl rfl) ?_) | (refine T_nil ?_) | (refine is_load ?_; (first | (refine T_load hN rfl (hT.has 0 rfl) rfl (by first | exact .inl rfl | exact .inr ⟨by decide, trivial⟩) ?_))) | (refine is_binOp ?_; (first | (refine T_gtr hN rfl rfl (by first | exact .inr trivial | exact .inl rfl) ?_))) | (refine is_call ?_; (first | ((refine is_call ?_; obtain ⟨f1, hP, hK⟩ := hT.call1m 0 rfl; refine T_call (f := 84) hN rfl (by decide) (hL f1 _ hP) ?_; rintro e ww ⟨rfl, h1⟩; clear hT hP; replace hT := hK _ _ _ _ h1; clear hK h1; refine ⟨_, rfl, (by first | exact trivial | ((repeat' (first | exact hT.has 0 rfl | exact hT.has 1 rfl | exact hT.has 2 rfl | exact hT.has 3 rfl | exact hT.has 4 rfl | exact hT.has 5 rfl | exact hT.ord 0 rfl | exact hT.ord 1 rfl | exact hT.ord 2 rfl | exact hT.ord 3 rfl | exact hT.ord 4 rfl | exact hT.ord 5 rfl | exact hT.mrd (by assumption) | refine And.intro ?_ ?_)); done)), ?_⟩); obtain ⟨a, ⟨i1, i2⟩, hT1⟩ := RI.open hT; clear hT; have hT := hT1; clear hT1; dsimp only at i2 hT)))))
      | (refine isC ?_; (first | (refine C_seq ?_) | (refine C_rgnk (id := 0) hN [(0, _)] ⟨rfl, trivial⟩ ?_; clear hN; intro a0 hN) | (refine C_rgnk (id := 1) hN [(0, _), (2, _)] ⟨rfl, rfl, trivial⟩ ?_; clear hN; intro a0 hN) | (refine C_rgnk (id := 3) hN [(0, _), (2, _), (5, _)] ⟨rfl, rfl, rfl, trivial⟩ ?_; clear hN; intro a0 hN) | (refine C_if hN rfl (fun hb => ?_) (fun hb => ?_) <;> ((first | (exfalso; omega) | (exfalso; exact hb rfl) | (exfalso; exact hb (fun h => h rfl)) | ((with_reducible refine absurd ?_ hb); (repeat' (first | exact trivial | refine And.intro rfl ?_)); done) | (replace hb := Classical.not_not.1 hb) | skip))) | (refine C_skip ?_) | (refine C_ret ?_)))
      | (refine isE ?_; (first | (refine E_thn ?_) | (refine E_ret hN Try.results54 (.tmp rfl .nil) ?_))))
    all_goals exact ⟨rfl, RI.shut (s := ([], e)) hT rfl rfl i1 i2⟩
  · have he : e = 0 := Classical.not_not.1 fun h => hx (hs h)
    subst he
    rw [if_neg (fun h => by rcases h with h | h; exact hx h; exact h rfl)]
    have hxl : 0 < xs.length := List.length_pos_iff.2 hx
    refine enter [(0, _)] Try.func54 rfl Try.ntmps54 (Nat.le_of_ble_eq_true rfl) rfl ?_; intro a0 hN
    repeat' (first
      | (refine isT ?_; (first | (refine T_assign hN rfl (by first | exact .inr trivial | exact .inl rfl) ?_) | (refine T_fieldAddr hN rfl (by first | exact .inr trivial | exact .inl rfl) ?_) | (refine T_move hN rfl (by first | exact .inr trivial | exact .inl rfl) ?_) | (refine T_nilCheck hN rfl (by first | exact .inr trivial | exact .inl rfl) ?_) | (refine T_nil ?_) | (refine is_load ?_; (first | (refine T_load hN rfl (hT.has 0 rfl) rfl (by first | exact .inl rfl | exact .inr ⟨by decide, trivial⟩) ?_))) | (refine is_binOp ?_; (first | (refine T_gtr hN rfl rfl (by first | exact .inr trivial | exact .inl rfl) ?_))) | (refine is_call ?_; (first | ((refine is_call ?_; obtain ⟨f1, hP, hK⟩ := hT.call1m 0 rfl; refine T_call (f := 84) hN rfl (by decide) (hL f1 _ hP) ?_; rintro e ww ⟨rfl, h1⟩; clear hT hP; replace hT := hK _ _ _ _ h1; clear hK h1; refine ⟨_, rfl, (by first | exact trivial | ((repeat' (first | exact hT.has 0 rfl | exact hT.has 1 rfl | exact hT.has 2 rfl | exact hT.has 3 rfl | exact hT.has 4 rfl | exact hT.has 5 rfl | exact hT.ord 0 rfl | exact hT.ord 1 rfl | exact hT.ord 2 rfl | exact hT.ord 3 rfl | exact hT.ord 4 rfl | exact hT.ord 5 rfl | exact hT.mrd (by assumption) | refine And.intro ?_ ?_)); done)), ?_⟩); obtain ⟨a, ⟨i1, i2⟩, hT1⟩ := RI.open hT; clear hT; have hT := hT1; clear hT1; dsimp only at i2 hT))) | (refine is_store ?_; (first | (refine T_store hN hT 0 rfl rfl rfl rfl rfl (by decide) ?_; clear hT; intro ww hT; refine ⟨(by first | exact trivial), ?_⟩)))))
      | (refine isC ?_; (first | (refine C_seq ?_) | (refine C_rgnk (id := 0) hN [(0, _)] ⟨rfl, trivial⟩ ?_; clear hN; intro a0 hN) | (refine C_rgnk (id := 1) hN [(0, _), (2, _)] ⟨rfl, rfl, trivial⟩ ?_; clear hN; intro a0 hN) | (refine C_rgnk (id := 2) hN [(0, _), (2, _), (5, _)] ⟨rfl, rfl, rfl, trivial⟩ ?_; clear hN; intro a0 hN) | (refine C_rgnk (id := 3) hN [(0, _), (2, _), (5, _)] ⟨rfl, rfl, rfl, trivial⟩ ?_; clear hN; intro a0 hN) | (refine C_if hN rfl (fun hb => ?_) (fun hb => ?_) <;> ((first | (exfalso; omega) | (exfalso; exact hb rfl) | (exfalso; exact hb (fun h => h rfl)) | ((with_reducible refine absurd ?_ hb); (repeat' (first | exact trivial | refine And.intro rfl ?_)); done) | (replace hb := Classical.not_not.1 hb) | skip))) | (refine C_ret ?_)))
      | (refine isE ?_; (first | (refine E_thn ?_) | (refine E_ret hN Try.results54 (.tmp rfl .nil) ?_))))
    all_goals exact ⟨rfl, RI.shut (s := ([], 10)) hT rfl rfl i1 rfl⟩
end Go.Proofs.YthjdhmnmlblpfaaR
/- THE WALK of the document's answer: one short sum taken. -/
namespace Go.Proofs.YthjdhmnmlblpfaaR
open Go.RowKit Go.Fp
attribute [local irreducible] Go.Calls
set_option maxRecDepth 100000
set_option maxHeartbeats 2000000
/-- So far a short sum. -/
def pad (ps : List UInt8) (j : Nat) : List UInt8 := ps.take j ++ List.replicate (16 - j) 0
theorem pad_succ (ps : List UInt8) (j : Nat) (hj : j < ps.length) (h : j < 16) : (u8s (pad ps j)).set (0 + j * 1) (u8 ps[j]) = u8s (pad ps (j + 1)) := by
  have e1 : (ps.take j).length = j := by rw [List.length_take]; omega
  unfold pad
  rw [u8s_append, List.set_append_right _ _ (by rw [u8s_length, e1]; omega), u8s_length, e1, Nat.zero_add, Nat.mul_one, Nat.sub_self, show 16 - j = (16 - (j + 1)) + 1 by omega, List.replicate_succ, List.take_succ_eq_append_getElem hj, u8s_append, u8s_append, List.append_assoc]
  rfl
theorem pad_get (ps : List UInt8) (j : Nat) (hj : j < ps.length) (h : j < 16) : (u8s (pad ps j))[0 + j * 1]? = some (u8 0) := by
  have e1 : (ps.take j).length = j := by rw [List.length_take]; omega
  unfold pad
  rw [u8s_append, List.getElem?_append_right (by rw [u8s_length, e1]; omega), u8s_length, e1, Nat.zero_add, Nat.mul_one, Nat.sub_self, show 16 - j = (16 - (j + 1)) + 1 by omega, List.replicate_succ]
  rfl
theorem pad_all (ps : List UInt8) : spl (u8s (List.replicate 16 0)) 0 (u8s ps) = u8s (pad ps ps.length) := by
  unfold spl pad u8s
  rw [List.take_length, List.map_append, List.map_replicate, List.map_replicate, List.drop_replicate, List.length_map, Nat.zero_add, List.take_zero, List.nil_append]
theorem ref_InSum (x : Option Addr) (c : Nat) (bs : List UInt8) (hbs : bs.length ≤ 140737488355328) (q : Nat) (s : List UInt8 × Int) (f : List Nat) (w : World) {m : List Ob} (hT : Tk f w w [RI x c bs q s] (Ob.rd x bs.length 1 (u8s bs) :: m)) :
    Calls Try.prog 58 #[.pointer (some ⟨q, 0, none⟩)] w fun e w' => e = .returned (.agg (u8s (sm s)).toArray) ∧ Tk f w w' [RI x c bs q (nxt 16 s)] (Ob.rd x bs.length 1 (u8s bs) :: m) := by
  have hR := fun f1 ww (h) => ref_InRaw x c bs hbs q s 16 (by omega) f1 ww (m := m) h
  have hl := nx_len 16 s
  have hsp := sm_spl s
  have hsl := sm_length s
  generalize nx 16 s = ps at *
  generalize nxt 16 s = s' at *
  generalize sm s = r at *
  refine enter [(0, _)] Try.func58 rfl Try.ntmps58 (Nat.le_of_ble_eq_true rfl) rfl ?_; intro a0 hN
  repeat' (first
    | (refine isT ?_; (first | (refine T_assign hN rfl (by first | exact .inr trivial | exact .inl rfl) ?_) | (refine T_move hN rfl (by first | exact .inr trivial | exact .inl rfl) ?_) | (refine T_nil ?_) | (refine is_call ?_; (first | (refine is_call ?_; obtain ⟨f1, hP, hK⟩ := hT.call1m 2 rfl; refine T_call (f := 83) hN rfl (by decide) (hR f1 _ hP) ?_; rintro e ww ⟨x1, c1, rfl, h1⟩; clear hT hP; replace hT := hK _ _ _ _ h1; clear hK h1; refine ⟨_, rfl, (by first | exact trivial | ((repeat' (first | exact hT.has 0 rfl | exact hT.has 1 rfl | exact hT.has 2 rfl | exact hT.has 3 rfl | exact hT.has 4 rfl | exact hT.has 5 rfl | exact hT.ord 0 rfl | exact hT.ord 1 rfl | exact hT.ord 2 rfl | exact hT.ord 3 rfl | exact hT.ord 4 rfl | exact hT.ord 5 rfl | exact hT.mrd (by assumption) | refine And.intro ?_ ?_)); done)), ?_⟩))) | (refine is_alloc ?_; (first | (refine T_alloc hN hT (by decide) ?_; clear hT; intro g ww hT; refine ⟨(by first | exact trivial), ?_⟩)))))
    | (refine isC ?_; (first | (refine C_seq ?_) | (refine C_rgnk (id := 0) hN [(0, _)] ⟨rfl, trivial⟩ ?_; clear hN; intro a0 hN) | (refine C_rgnk (id := 1) hN [(0, _), (2, _)] ⟨rfl, rfl, trivial⟩ ?_; clear hN; intro a0 hN) | (refine C_rgnk (id := 2) hN [(0, _), (2, _), (3, _)] ⟨rfl, rfl, rfl, trivial⟩ ?_; clear hN; intro a0 hN) | (refine C_rgnk (id := 3) hN [(0, _), (2, _), (3, _), (4, _)] ⟨rfl, rfl, rfl, rfl, trivial⟩ ?_; clear hN; intro a0 hN) | (refine C_block ?_)))
    | (refine isE ?_; (first | (refine E_thn ?_))))
  all_goals
    rename_i g1 _ _ _ _
    refine C_loop hN (X := Nat) (fun j => [(2, .pointer (some ⟨g1, 0, none⟩)), (3, .pointer (some ⟨g, 0, none⟩)), (4, .slice x1 ps.length c1), (5, .int .i64 j)]) (fun j w1 => j ≤ ps.length ∧ Tk f w w1 [Ob.own 5 1 (.slice x1 ps.length c1) ps.length (u8s ps), Ob.blk g 57 (u8s (pad ps j)), Ob.blk g1 57 (u8s (List.replicate 16 0)), RI x c bs q s'] (Ob.rd x bs.length 1 (u8s bs) :: m)) (fun j => ps.length - j) 0 ⟨rfl, rfl, rfl, rfl, trivial⟩ ⟨Nat.zero_le _, hT⟩ ?_
    clear hN hT
    rintro j a0 ww hN ⟨hj, hT⟩
    by_cases hj0 : j = ps.length
    · subst hj0
      rw [← pad_all, hsp] at hT
      repeat' (first
        | (refine isT ?_; (first | (refine T_move hN rfl (by first | exact .inr trivial | exact .inl rfl) ?_) | (refine T_nil ?_) | (refine is_load ?_; (first | (refine T_loadn hN rfl (hT.has 1 rfl) (us := u8s r) (by rw [List.drop_zero, List.take_of_length_le (by rw [u8s_length, hsl]; exact Nat.le_refl _)]) (by rw [u8s_length, hsl]) (by first | exact .inl rfl | exact .inr ⟨by decide, trivial⟩) ?_))) | (refine is_binOp ?_; (first | (refine T_lss hN rfl rfl (by first | exact .inr trivial | exact .inl rfl) ?_))) | (refine is_call ?_; (first | (refine T_len hN rfl (by first | exact .inr trivial | exact .inl rfl) ?_))) | (refine is_store ?_; (first | (refine T_storeAll hN hT 2 (us := u8s r) rfl rfl rfl (by rw [u8s_length, hsl]; rfl) rfl (List.all_eq_true.2 (u8s_all1 r)) (by decide) ?_; clear hT; intro ww hT; refine ⟨trivial, ?_⟩)))))
        | (refine isC ?_; (first | (refine C_seq ?_) | (refine C_rgn ?_) | (refine C_if hN rfl (fun hb => ?_) (fun hb => ?_) <;> ((first | (exfalso; omega) | (exfalso; exact hb rfl) | (exfalso; exact hb (fun h => h rfl)) | ((with_reducible refine absurd ?_ hb); (repeat' (first | exact trivial | refine And.intro rfl ?_)); done) | (replace hb := Classical.not_not.1 hb) | skip))) | (refine C_ret ?_) | (refine C_exit ?_)))
        | (refine isE ?_; (first | (refine E_ret hN Try.results58 (.cell rfl (run_loadAll (hT.has 2 rfl) (us := u8s r) (by rw [List.drop_zero, List.take_of_length_le (by rw [u8s_length, hsl]; exact Nat.le_refl _)]) (by rw [u8s_length, hsl])) .nil) ?_) | (refine E_thn ?_) | (refine E_thn_exit ?_) | (refine E_blk_hit ?_) | (refine E_lp_exit ?_))))
      all_goals exact ⟨rfl, hT.drop.drop.drop⟩
    · obtain ⟨B, off, rfl⟩ := (hT.ord 0 rfl).addr (by omega)
      have hjl : j < ps.length := by omega
      have hcell : ∀ w : World, Rdz w (some ⟨B, off, none⟩) ps.length 1 (u8s ps) → w.cell? ⟨B, off + j * 1, none⟩ = some (u8 ps[j]) := fun w h => by
        rw [Nat.mul_one]; exact h.cell rfl (j := j) (u := u8 ps[j]) (by rw [u8s_get, List.getElem?_eq_getElem hjl]; rfl)
      repeat' (first
        | (refine isT ?_; (first | (refine T_assign hN rfl (by first | exact .inr trivial | exact .inl rfl) ?_) | (refine T_move hN rfl (by first | exact .inr trivial | exact .inl rfl) ?_) | (refine T_nil ?_) | (refine is_load ?_; (first | (refine T_loadc hN rfl (hcell _ (hT.ord 0 rfl)) (by first | exact .inl rfl | exact .inr ⟨by decide, trivial⟩) ?_))) | (refine is_binOp ?_; (first | (refine T_addi64 hN rfl rfl (by omega) (by first | exact .inr trivial | exact .inl rfl) ?_) | (refine T_lss hN rfl rfl (by first | exact .inr trivial | exact .inl rfl) ?_))) | (refine is_call ?_; (first | (refine T_len hN rfl (by first | exact .inr trivial | exact .inl rfl) ?_))) | (refine is_store ?_; (first | (refine T_store hN hT 1 rfl rfl rfl (pad_get ps j hjl (by omega)) rfl (by decide) ?_; clear hT; intro ww hT; refine ⟨trivial, ?_⟩))) | (refine is_indexAddr ?_; (first | (refine T_indexAddrA hN rfl rfl (by omega) (by first | exact .inr trivial | exact .inl rfl) ?_) | (refine T_indexAddr hN rfl rfl (by omega) (by first | exact .inr trivial | exact .inl rfl) ?_)))))
        | (refine isC ?_; (first | (refine C_seq ?_) | (refine C_rgn ?_) | (refine C_if hN rfl (fun hb => ?_) (fun hb => ?_) <;> ((first | (exfalso; omega) | (exfalso; exact hb rfl) | (exfalso; exact hb (fun h => h rfl)) | ((with_reducible refine absurd ?_ hb); (repeat' (first | exact trivial | refine And.intro rfl ?_)); done) | (replace hb := Classical.not_not.1 hb) | skip))) | (refine C_skip ?_) | (refine C_block ?_)))
        | (refine isE ?_; (first | (refine E_thn ?_) | (refine E_blk ?_))))
      all_goals exact E_mk hN (j + 1) ⟨rfl, rfl, rfl, evI rfl (by omega), trivial⟩ ⟨⟨by omega, by rw [← pad_succ ps j hjl (by omega)]; exact hT⟩, by omega⟩
end Go.Proofs.YthjdhmnmlblpfaaR
