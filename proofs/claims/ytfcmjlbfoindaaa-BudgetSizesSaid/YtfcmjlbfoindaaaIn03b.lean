/- THE WALKS of what takes fields: next, num. -/
import Derived.Test.YtfcmjlbfoindaaaIn03
import Derived.Test.YtfcmjlbfoindaaaFb
namespace Go.Proofs.Ytfcmjlbfoindaaa
open Go.RowKit Go.Fp
attribute [local irreducible] Go.Calls
set_option maxRecDepth 100000
set_option maxHeartbeats 2000000
/-- The next bytes, what is left of them, what is wrong then. -/
def nx (k : Nat) (s : List UInt8 × Int) : List UInt8 := if s.2 = 0 ∧ k ≤ s.1.length then s.1.take k else []
def nxt (k : Nat) (s : List UInt8 × Int) : List UInt8 × Int := if s.2 = 0 then (if k ≤ s.1.length then (s.1.drop k, 0) else ([], 9)) else s
theorem In_next (q : Nat) (s : List UInt8 × Int) (k : Nat) (hk : k ≤ 140737488355328) (f : List Nat) (w : World) {m : List Ob} (hT : Tk f w w [In q s.1 s.2] m) :
    Calls Try.prog 106 #[.pointer (some ⟨q, 0, none⟩), .int .i64 k] w fun en w' => (∃ x c, en = .returned (.slice x (nx k s).length c) ∧ (x = none → (nx k s).length = 0 ∧ c = 0) ∧ Rdz w' x (nx k s).length 1 (u8s (nx k s))) ∧ Tk f w w' [In q (nxt k s).1 (nxt k s).2] m := by
  obtain ⟨xs, e⟩ := s
  by_cases he : e = 0
  · subst he
    by_cases hkl : k ≤ xs.length
    · have e1 : nx k (xs, 0) = xs.take k := if_pos ⟨rfl, hkl⟩
      have e2 : nxt k (xs, 0) = (xs.drop k, 0) := by simp [nxt, hkl]
      rw [e1, e2]
      have e3 : (xs.take k).length = k := by rw [List.length_take]; omega
      rw [e3]
      obtain ⟨x, c, ⟨i1, i2, i3, i4, i5⟩, hT⟩ := In.open hT
      dsimp only at hT i1 i2 i3 i4 i5
      refine enter [(0, _), (1, _)] Try.func106 rfl Try.ntmps106 (Nat.le_of_ble_eq_true rfl) rfl ?_; intro a0 hN
      repeat' (first
        | (refine isT ?_; (first | (refine T_slcLoP hN rfl rfl hkl i2 (.inr trivial) ?_) | (refine isGuard ?_; (first | (refine T_yes hN rfl rfl rfl ?_))) | (refine T_assign hN rfl (by first | exact .inr trivial | exact .inl rfl) ?_) | (refine T_fieldAddr hN rfl (by first | exact .inr trivial | exact .inl rfl) ?_) | (refine T_move hN rfl (by first | exact .inr trivial | exact .inl rfl) ?_) | (refine T_nilCheck hN rfl (by first | exact .inr trivial | exact .inl rfl) ?_) | (refine T_nil ?_) | (refine is_load ?_; (first | (refine T_load hN rfl (hT.has 0 rfl) rfl (by first | exact .inl rfl | exact .inr ⟨by decide, trivial⟩) ?_))) | (refine is_binOp ?_; (first | (refine T_eqlnil hN rfl rfl (by first | exact .inr trivial | exact .inl rfl) ?_) | (refine T_lss hN rfl rfl (by first | exact .inr trivial | exact .inl rfl) ?_) | (refine T_neq hN rfl rfl (by first | exact .inr trivial | exact .inl rfl) ?_))) | (refine is_pick ?_; (first | (refine T_pick0 hN rfl rfl (by first | exact .inr trivial | exact .inl rfl) ?_))) | (refine is_call ?_; (first | (refine T_len hN rfl (by first | exact .inr trivial | exact .inl rfl) ?_))) | (refine is_store ?_; (first | (refine T_store hN hT 0 rfl rfl rfl rfl rfl (by decide) ?_; clear hT; intro ww hT; refine ⟨(by first | exact trivial), ?_⟩))) | (refine is_slice ?_; (first | (refine T_slcHi hN rfl rfl (by omega) (.inr trivial) ?_)))))
        | (refine isC ?_; (first | (refine C_seq ?_) | (refine C_rgnk (id := 0) hN [(0, _), (1, _)] ⟨rfl, rfl, trivial⟩ ?_; clear hN; intro a0 hN) | (refine C_rgnk (id := 1) hN [(0, _), (1, _), (4, _)] ⟨rfl, rfl, rfl, trivial⟩ ?_; clear hN; intro a0 hN) | (refine C_rgnk (id := 3) hN [(0, _), (1, _), (4, _), (14, _)] ⟨rfl, rfl, rfl, rfl, trivial⟩ ?_; clear hN; intro a0 hN) | (refine C_rgnk (id := 6) hN [(0, _), (1, _), (4, _), (14, _), (21, _)] ⟨rfl, rfl, rfl, rfl, rfl, trivial⟩ ?_; clear hN; intro a0 hN) | (refine C_rgnk (id := 7) hN [(0, _), (1, _), (4, _), (5, _), (14, _), (21, _)] ⟨rfl, rfl, rfl, rfl, rfl, rfl, trivial⟩ ?_; clear hN; intro a0 hN) | (refine C_rgnk (id := 8) hN [(0, _), (1, _), (4, _), (5, _), (14, _), (21, _)] ⟨rfl, rfl, rfl, rfl, rfl, rfl, trivial⟩ ?_; clear hN; intro a0 hN) | (refine C_if hN rfl (fun hb => ?_) (fun hb => ?_) <;> ((first | (exfalso; omega) | (exfalso; exact hb rfl) | (exfalso; exact hb (fun h => h rfl)) | ((with_reducible refine absurd ?_ hb); (repeat' (first | exact trivial | refine And.intro rfl ?_)); done) | (replace hb := Classical.not_not.1 hb) | skip))) | (refine C_skip ?_) | (refine C_ret ?_)))
        | (refine isE ?_; (first | (refine E_thn ?_) | (refine E_ret hN Try.results106 (.tmp rfl .nil) ?_))))
      all_goals
        have hr := (hT.lrd 1 rfl).hi hkl
        have hx0 := i4 rfl
        have hT2 := hT.ent (l' := [Ob.blk q 195 [.slice (lo x 1 c k) (xs.length - k) (c - k), .int .i64 0], Ob.rd (lo x 1 c k) (xs.length - k) 1 ((u8s xs).drop (k * 1))]) (Ob.Ent.sep (Ob.Ent.refl _) (Ob.Ent.sep (Ent.lo x xs.length c 1 k _ hkl i2) (Ob.Ent.refl _)))
        exact ⟨⟨x, c, rfl, fun h => absurd h hx0, by rw [Nat.mul_one, u8s, ← List.map_take] at hr; exact hr⟩,
          In.shut hT2 (by rw [Nat.mul_one, u8s, ← List.map_drop]; rfl) (by simp) (fun h => absurd h (lo_none hx0)) (by simp; omega) (fun h => absurd rfl h) (fun _ => lo_none hx0) (by simp; omega)⟩
    · have e1 : nx k (xs, 0) = [] := if_neg (fun h => hkl h.2)
      have e2 : nxt k (xs, 0) = ([], 9) := by simp [nxt, hkl]
      rw [e1, e2]
      have hF := In_Fail q xs 0
      have e3 : (if (0 : Int) = 0 ∧ ¬ (9 : Int) = 0 then ([] : List UInt8) else xs) = [] := rfl
      have e4 : (if (0 : Int) = 0 ∧ ¬ (9 : Int) = 0 then (9 : Int) else 0) = 9 := rfl
      refine enter [(0, _), (1, _)] Try.func106 rfl Try.ntmps106 (Nat.le_of_ble_eq_true rfl) rfl ?_; intro a0 hN
      obtain ⟨x, c, ⟨i1, i2, i3, i4, i5⟩, hT⟩ := In.open hT
      dsimp only at hT i1 i2 i3 i4 i5
      repeat' (first
        | (replace hT := In.shut hT rfl rfl i1 i2 i3 i4 i5; (refine is_call ?_; obtain ⟨f1, hP, hK⟩ := hT.call1m 0 rfl; refine T_call (f := 94) hN rfl (by decide) (hF f1 _ hP 9) ?_; rintro e ww ⟨rfl, h1⟩; clear hT hP; replace hT := hK _ _ _ _ h1; clear hK h1; refine ⟨_, rfl, (by first | exact trivial | ((repeat' (first | exact hT.has 0 rfl | exact hT.has 1 rfl | exact hT.has 2 rfl | exact hT.has 3 rfl | exact hT.has 4 rfl | exact hT.has 5 rfl | exact hT.ord 0 rfl | exact hT.ord 1 rfl | exact hT.ord 2 rfl | exact hT.ord 3 rfl | exact hT.ord 4 rfl | exact hT.ord 5 rfl | exact hT.mrd (by assumption) | refine And.intro ?_ ?_)); done)), ?_⟩))
        | (refine isT ?_; (first | (refine isGuard ?_; (first | (refine T_yes hN rfl rfl rfl ?_))) | (refine T_assign hN rfl (by first | exact .inr trivial | exact .inl rfl) ?_) | (refine T_fieldAddr hN rfl (by first | exact .inr trivial | exact .inl rfl) ?_) | (refine T_move hN rfl (by first | exact .inr trivial | exact .inl rfl) ?_) | (refine T_nilCheck hN rfl (by first | exact .inr trivial | exact .inl rfl) ?_) | (refine T_nil ?_) | (refine is_load ?_; (first | (refine T_load hN rfl (hT.has 0 rfl) rfl (by first | exact .inl rfl | exact .inr ⟨by decide, trivial⟩) ?_))) | (refine is_binOp ?_; (first | (refine T_eqlnil hN rfl rfl (by first | exact .inr trivial | exact .inl rfl) ?_) | (refine T_lss hN rfl rfl (by first | exact .inr trivial | exact .inl rfl) ?_) | (refine T_neq hN rfl rfl (by first | exact .inr trivial | exact .inl rfl) ?_))) | (refine is_pick ?_; (first | (refine T_pick0 hN rfl rfl (by first | exact .inr trivial | exact .inl rfl) ?_))) | (refine is_call ?_; (first | (refine T_len hN rfl (by first | exact .inr trivial | exact .inl rfl) ?_)))))
        | (refine isC ?_; (first | (refine C_seq ?_) | (refine C_rgnk (id := 0) hN [(0, _), (1, _)] ⟨rfl, rfl, trivial⟩ ?_; clear hN; intro a0 hN) | (refine C_rgnk (id := 1) hN [(0, _), (1, _), (4, _)] ⟨rfl, rfl, rfl, trivial⟩ ?_; clear hN; intro a0 hN) | (refine C_rgnk (id := 3) hN [(0, _), (1, _), (4, _), (14, _)] ⟨rfl, rfl, rfl, rfl, trivial⟩ ?_; clear hN; intro a0 hN) | (refine C_rgnk (id := 4) hN [(0, _), (1, _), (4, _), (14, _), (21, _)] ⟨rfl, rfl, rfl, rfl, rfl, trivial⟩ ?_; clear hN; intro a0 hN) | (refine C_rgnk (id := 5) hN [(0, _), (1, _), (4, _), (14, _), (21, _)] ⟨rfl, rfl, rfl, rfl, rfl, trivial⟩ ?_; clear hN; intro a0 hN) | (refine C_if hN rfl (fun hb => ?_) (fun hb => ?_) <;> ((first | (exfalso; omega) | (exfalso; exact hb rfl) | (exfalso; exact hb (fun h => h rfl)) | ((with_reducible refine absurd ?_ hb); (repeat' (first | exact trivial | refine And.intro rfl ?_)); done) | (replace hb := Classical.not_not.1 hb) | skip))) | (refine C_skip ?_) | (refine C_ret ?_)))
        | (refine isE ?_; (first | (refine E_thn ?_) | (refine E_thn_ret ?_) | (refine E_ret hN Try.results106 (.tmp rfl .nil) ?_))))
      all_goals exact ⟨⟨none, 0, rfl, fun _ => ⟨rfl, rfl⟩, nil_rdz _ 1⟩, hT⟩
  · have e1 : nx k (xs, e) = [] := if_neg (fun h => he h.1)
    have e2 : nxt k (xs, e) = (xs, e) := if_neg he
    rw [e1, e2]
    obtain ⟨x, c, ⟨i1, i2, i3, i4, i5⟩, hT⟩ := In.open hT
    dsimp only at hT i1 i2 i3 i4 i5
    refine enter [(0, _), (1, _)] Try.func106 rfl Try.ntmps106 (Nat.le_of_ble_eq_true rfl) rfl ?_; intro a0 hN
    repeat' (first
      | (refine isT ?_; (first | (refine isGuard ?_; (first | (refine T_yes hN rfl rfl rfl ?_))) | (refine T_assign hN rfl (by first | exact .inr trivial | exact .inl rfl) ?_) | (refine T_fieldAddr hN rfl (by first | exact .inr trivial | exact .inl rfl) ?_) | (refine T_move hN rfl (by first | exact .inr trivial | exact .inl rfl) ?_) | (refine T_nilCheck hN rfl (by first | exact .inr trivial | exact .inl rfl) ?_) | (refine T_nil ?_) | (refine is_load ?_; (first | (refine T_load hN rfl (hT.has 0 rfl) rfl (by first | exact .inl rfl | exact .inr ⟨by decide, trivial⟩) ?_))) | (refine is_binOp ?_; (first | (refine T_eqlnil hN rfl rfl (by first | exact .inr trivial | exact .inl rfl) ?_) | (refine T_neq hN rfl rfl (by first | exact .inr trivial | exact .inl rfl) ?_))) | (refine is_pick ?_; (first | (refine T_pick0 hN rfl rfl (by first | exact .inr trivial | exact .inl rfl) ?_)))))
      | (refine isC ?_; (first | (refine C_seq ?_) | (refine C_rgnk (id := 0) hN [(0, _), (1, _)] ⟨rfl, rfl, trivial⟩ ?_; clear hN; intro a0 hN) | (refine C_rgnk (id := 1) hN [(0, _), (1, _), (4, _)] ⟨rfl, rfl, rfl, trivial⟩ ?_; clear hN; intro a0 hN) | (refine C_rgnk (id := 2) hN [(0, _), (1, _), (4, _), (14, _)] ⟨rfl, rfl, rfl, rfl, trivial⟩ ?_; clear hN; intro a0 hN) | (refine C_if hN rfl (fun hb => ?_) (fun hb => ?_) <;> ((first | (exfalso; omega) | (exfalso; exact hb rfl) | (exfalso; exact hb (fun h => h rfl)) | ((with_reducible refine absurd ?_ hb); (repeat' (first | exact trivial | refine And.intro rfl ?_)); done) | (replace hb := Classical.not_not.1 hb) | skip))) | (refine C_ret ?_)))
      | (refine isE ?_; (first | (refine E_thn ?_) | (refine E_thn_ret ?_) | (refine E_ret hN Try.results106 (.tmp rfl .nil) ?_))))
    all_goals exact ⟨⟨none, 0, rfl, fun _ => ⟨rfl, rfl⟩, nil_rdz _ 1⟩, In.shut hT rfl rfl i1 i2 i3 i4 i5⟩
end Go.Proofs.Ytfcmjlbfoindaaa
