/- THE WALKS of what takes fields. -/
import Derived.Test.YtfcmjlbfoindaaaOut03b
namespace Go.Proofs.Ytfcmjlbfoindaaa
open Go.RowKit Go.Fp
attribute [local irreducible] Go.Calls
set_option maxRecDepth 100000
set_option maxHeartbeats 2000000

/-- What is left, and what is wrong. -/
def In (q : Nat) (xs : List UInt8) (e : Int) : Ob :=
  Ob.ex fun x : Option Addr => Ob.ex fun c : Nat => Ob.so ((x = none → xs.length = 0 ∧ c = 0) ∧ xs.length ≤ c ∧ (¬ e = 0 → xs = []) ∧ (e = 0 → x ≠ none) ∧ xs.length ≤ 140737488355328)
    (Ob.sep (Ob.blk q 195 [.slice x xs.length c, .int .i64 e]) (Ob.rd x xs.length 1 (u8s xs)))
theorem In.open {S : List Nat} {w0 w : World} {l m : List Ob} {q : Nat} {xs : List UInt8} {e : Int} (h : Tk S w0 w (In q xs e :: l) m) :
    ∃ x c, ((x = none → xs.length = 0 ∧ c = 0) ∧ xs.length ≤ c ∧ (¬ e = 0 → xs = []) ∧ (e = 0 → x ≠ none) ∧ xs.length ≤ 140737488355328) ∧ Tk S w0 w (Ob.blk q 195 [.slice x xs.length c, .int .i64 e] :: Ob.rd x xs.length 1 (u8s xs) :: l) m := by
  obtain ⟨x, h⟩ := h.exE
  obtain ⟨c, h⟩ := h.exE
  obtain ⟨h1, h⟩ := h.soE
  exact ⟨x, c, h1, h.sepE⟩
theorem In.shut {S : List Nat} {w0 w : World} {l m : List Ob} {q n c : Nat} {x : Option Addr} {xs : List UInt8} {e : Int} {ys : List Value} (h : Tk S w0 w (Ob.blk q 195 [.slice x n c, .int .i64 e] :: Ob.rd x n 1 ys :: l) m)
    (hy : ys = u8s xs) (hn : n = xs.length) (h1 : x = none → xs.length = 0 ∧ c = 0) (h2 : xs.length ≤ c) (h3 : ¬ e = 0 → xs = []) (h4 : e = 0 → x ≠ none) (h5 : xs.length ≤ 140737488355328) : Tk S w0 w (In q xs e :: l) m := by
  subst hy hn
  exact Tk.exI x (Tk.exI c (Tk.soI ⟨h1, h2, h3, h4, h5⟩ h.sepI))

theorem In_Take (x : Option Addr) (n c : Nat) (xs : List UInt8) (hx : x = none → n = 0 ∧ c = 0) (hn : n ≤ 140737488355328) (w : World) {m : List Ob} (hT : Tk [] w w [] (Ob.rd x n 1 (u8s xs) :: m)) :
    Calls Try.prog 91 #[.slice x n c] w fun e w' => ∃ q, e = .returned (.pointer (some ⟨q, 0, none⟩)) ∧ Tk [] w w' [In q xs 0] (Ob.rd x n 1 (u8s xs) :: m) := by
  have hpn : xs.length = n := by have := (hT.rrd 0 rfl).1; rw [u8s_length] at this; omega
  refine enter [(0, _)] Try.func91 rfl Try.ntmps91 (Nat.le_of_ble_eq_true rfl) rfl ?_; intro a0 hN
  repeat' (first
    | (refine isT ?_; (first | (refine T_appendN hN hT 0 (by rfl) (by rfl) rfl rfl rfl hx (hT.rrd 0 rfl) (u8s_all1 xs) (by unfold maxLen; omega) (by omega) (by decide) ?_; clear hT; intro x1 c1 ww hx1 hT; refine ⟨trivial, ?_⟩) | (refine T_assign hN rfl (by first | exact .inr trivial | exact .inl rfl) ?_) | (refine T_move hN rfl (by first | exact .inr trivial | exact .inl rfl) ?_) | (refine T_nil ?_) | (refine is_box ?_; (first | (refine T_box hN hT rfl (by decide) ?_; clear hT; intro g ww hT; refine ⟨(by first | exact trivial), ?_⟩))) | (refine is_build ?_; (first | (refine T_build (t := 195) (us := [_, _]) hN rfl rfl (by first | exact .inr trivial | exact .inl rfl) ?_))) | (refine is_buildSlice ?_; (first | (refine T_slice0 hN hT (by decide) ?_; clear hT; intro g ww hT; refine ⟨(by first | exact trivial), ?_⟩)))))
    | (refine isC ?_; (first | (refine C_seq ?_) | (refine C_rgnk (id := 0) hN [(0, _)] ⟨rfl, trivial⟩ ?_; clear hN; intro a0 hN) | (refine C_rgnk (id := 1) hN [(0, _), (2, _)] ⟨rfl, rfl, trivial⟩ ?_; clear hN; intro a0 hN) | (refine C_ret ?_)))
    | (refine isE ?_; (first | (refine E_thn ?_) | (refine E_ret hN Try.results91 (.tmp rfl .nil) ?_))))
  all_goals
    have hle : 0 + n ≤ c1 := by
      rcases (hT.owns 1 rfl).2 with ⟨h2, h3⟩ | ⟨g2, cap, cur, h2, _, _, h3, _⟩
      · omega
      · simp only [Value.slice.injEq] at h2; omega
    have h1 := own_nil (hT.owns 1 rfl)
    have hT2 := (hT.swap.ent (l' := [Ob.rd x1 (0 + n) 1 ([] ++ u8s xs), Ob.blk g 195 [.slice x1 (0 + n) c1, .int .i64 0]]) (Ob.Ent.sep (Ent.own_rd _ _ _ _ _ _) (Ob.Ent.refl _))).swap
    exact ⟨g, rfl, In.shut hT2 (by simp) (by omega) (fun h => by obtain ⟨a, b⟩ := h1 h; exact ⟨by omega, b⟩) (by omega) (fun h => absurd rfl h) (fun _ => hx1 (by simp)) (by omega)⟩
section
variable (q : Nat) (xs : List UInt8) (e : Int) (f : List Nat) (w : World) {m : List Ob} (hT : Tk f w w [In q xs e] m)
include hT
theorem In_Err : Calls Try.prog 93 #[.pointer (some ⟨q, 0, none⟩)] w fun en w' => en = .returned (.int .i64 e) ∧ Tk f w w' [In q xs e] m := by
  obtain ⟨x, c, ⟨i1, i2, i3, i4, i5⟩, hT⟩ := In.open hT
  refine enter [(0, _)] Try.func93 rfl Try.ntmps93 (Nat.le_of_ble_eq_true rfl) rfl ?_; intro a0 hN
  repeat' (first
    | (refine isT ?_; (first | (refine T_assign hN rfl (by first | exact .inr trivial | exact .inl rfl) ?_) | (refine T_fieldAddr hN rfl (by first | exact .inr trivial | exact .inl rfl) ?_) | (refine T_move hN rfl (by first | exact .inr trivial | exact .inl rfl) ?_) | (refine T_nilCheck hN rfl (by first | exact .inr trivial | exact .inl rfl) ?_) | (refine T_nil ?_) | (refine is_load ?_; (first | (refine T_load hN rfl (hT.has 0 rfl) rfl (by first | exact .inl rfl | exact .inr ⟨by decide, trivial⟩) ?_))) | (refine is_binOp ?_; (first | (refine T_eqlnil hN rfl rfl (by first | exact .inr trivial | exact .inl rfl) ?_)))))
    | (refine isC ?_; (first | (refine C_seq ?_) | (refine C_rgnk (id := 0) hN [(0, _)] ⟨rfl, trivial⟩ ?_; clear hN; intro a0 hN) | (refine C_rgnk (id := 1) hN [(0, _), (2, _)] ⟨rfl, rfl, trivial⟩ ?_; clear hN; intro a0 hN) | (refine C_rgnk (id := 3) hN [(0, _), (2, _), (4, _)] ⟨rfl, rfl, rfl, trivial⟩ ?_; clear hN; intro a0 hN) | (refine C_false hN rfl ?_) | (refine C_skip ?_) | (refine C_ret ?_)))
    | (refine isE ?_; (first | (refine E_thn ?_) | (refine E_ret hN Try.results93 (.tmp rfl .nil) ?_))))
  all_goals exact ⟨rfl, In.shut hT rfl rfl i1 i2 i3 i4 i5⟩
theorem In_Left : Calls Try.prog 97 #[.pointer (some ⟨q, 0, none⟩)] w fun en w' => en = .returned (.int .i64 xs.length) ∧ Tk f w w' [In q xs e] m := by
  obtain ⟨x, c, ⟨i1, i2, i3, i4, i5⟩, hT⟩ := In.open hT
  refine enter [(0, _)] Try.func97 rfl Try.ntmps97 (Nat.le_of_ble_eq_true rfl) rfl ?_; intro a0 hN
  repeat' (first
    | (refine isT ?_; (first | (refine T_assign hN rfl (by first | exact .inr trivial | exact .inl rfl) ?_) | (refine T_fieldAddr hN rfl (by first | exact .inr trivial | exact .inl rfl) ?_) | (refine T_move hN rfl (by first | exact .inr trivial | exact .inl rfl) ?_) | (refine T_nilCheck hN rfl (by first | exact .inr trivial | exact .inl rfl) ?_) | (refine T_nil ?_) | (refine is_load ?_; (first | (refine T_load hN rfl (hT.has 0 rfl) rfl (by first | exact .inl rfl | exact .inr ⟨by decide, trivial⟩) ?_))) | (refine is_binOp ?_; (first | (refine T_eqlnil hN rfl rfl (by first | exact .inr trivial | exact .inl rfl) ?_))) | (refine is_call ?_; (first | (refine T_len hN rfl (by first | exact .inr trivial | exact .inl rfl) ?_)))))
    | (refine isC ?_; (first | (refine C_seq ?_) | (refine C_rgnk (id := 0) hN [(0, _)] ⟨rfl, trivial⟩ ?_; clear hN; intro a0 hN) | (refine C_rgnk (id := 1) hN [(0, _), (2, _)] ⟨rfl, rfl, trivial⟩ ?_; clear hN; intro a0 hN) | (refine C_rgnk (id := 3) hN [(0, _), (2, _), (4, _)] ⟨rfl, rfl, rfl, trivial⟩ ?_; clear hN; intro a0 hN) | (refine C_false hN rfl ?_) | (refine C_skip ?_) | (refine C_ret ?_)))
    | (refine isE ?_; (first | (refine E_thn ?_) | (refine E_ret hN Try.results97 (.tmp rfl .nil) ?_))))
  all_goals exact ⟨rfl, In.shut hT rfl rfl i1 i2 i3 i4 i5⟩
/-- What a note of an error comes to. -/
theorem In_Fail (z : Int) : Calls Try.prog 94 #[.pointer (some ⟨q, 0, none⟩), .int .i64 z] w fun en w' => en = .returned (.tuple #[]) ∧ Tk f w w' [In q (if e = 0 ∧ ¬ z = 0 then [] else xs) (if e = 0 ∧ ¬ z = 0 then z else e)] m := by
  obtain ⟨x, c, ⟨i1, i2, i3, i4, i5⟩, hT⟩ := In.open hT
  by_cases h : e = 0 ∧ ¬ z = 0
  · simp only [if_pos h]
    obtain ⟨h1, h2⟩ := h
    refine enter [(0, _), (1, _)] Try.func94 rfl Try.ntmps94 (Nat.le_of_ble_eq_true rfl) rfl ?_; intro a0 hN
    repeat' (first
      | (refine isT ?_; (first | (refine isGuard ?_; (first | (refine T_yes hN rfl rfl rfl ?_) | (refine T_guardD hN rfl rfl rfl (fun hb => ?_) (fun hb => ?_) <;> ((first | (exfalso; omega) | (exfalso; exact hb rfl) | (exfalso; exact hb (fun h => h rfl)) | ((with_reducible refine absurd ?_ hb); (repeat' (first | exact trivial | refine And.intro rfl ?_)); done) | (replace hb := Classical.not_not.1 hb) | skip))))) | (refine T_fieldAddr hN rfl (by first | exact .inr trivial | exact .inl rfl) ?_) | (refine T_move hN rfl (by first | exact .inr trivial | exact .inl rfl) ?_) | (refine T_nilCheck hN rfl (by first | exact .inr trivial | exact .inl rfl) ?_) | (refine T_nil ?_) | (refine is_load ?_; (first | (refine T_load hN rfl (hT.has 0 rfl) rfl (by first | exact .inl rfl | exact .inr ⟨by decide, trivial⟩) ?_))) | (refine is_binOp ?_; (first | (refine T_eql hN rfl rfl (by first | exact .inr trivial | exact .inl rfl) ?_) | (refine T_neq hN rfl rfl (by first | exact .inr trivial | exact .inl rfl) ?_) | (refine T_neqnil hN rfl rfl (by first | exact .inr trivial | exact .inl rfl) ?_))) | (refine is_pick ?_; (first | (refine T_pick1 hN rfl rfl (by first | exact .inr trivial | exact .inl rfl) ?_))) | (refine is_store ?_; (first | (refine T_store hN hT 0 rfl rfl rfl rfl rfl (by decide) ?_; clear hT; intro ww hT; refine ⟨(by first | exact trivial), ?_⟩)))))
      | (refine isC ?_; (first | (refine C_seq ?_) | (refine C_rgnk (id := 0) hN [(0, _), (1, _)] ⟨rfl, rfl, trivial⟩ ?_; clear hN; intro a0 hN) | (refine C_rgnk (id := 1) hN [(0, _), (1, _), (16, _)] ⟨rfl, rfl, rfl, trivial⟩ ?_; clear hN; intro a0 hN) | (refine C_if hN rfl (fun hb => ?_) (fun hb => ?_) <;> ((first | (exfalso; omega) | (exfalso; exact hb rfl) | (exfalso; exact hb (fun h => h rfl)) | ((with_reducible refine absurd ?_ hb); (repeat' (first | exact trivial | refine And.intro rfl ?_)); done) | (replace hb := Classical.not_not.1 hb) | skip)))))
      | (refine isE ?_; (first | (refine E_thn ?_) | (refine E_end hN Try.results94 .nil ?_))))
    all_goals
      have hT2 := hT.ent (l' := [Ob.blk q 195 [.slice none 0 0, .int .i64 z], Ob.rd none 0 1 []]) (Ob.Ent.sep (Ob.Ent.refl _) (fun f w h => ⟨[], ⟨[], [], rfl, ⟨rfl, .inl ⟨rfl, rfl⟩⟩, rfl, fun k hk => by cases hk⟩, fun k hk => by cases hk⟩))
      exact ⟨rfl, In.shut hT2 rfl rfl (fun _ => ⟨rfl, rfl⟩) (by simp) (fun _ => rfl) (fun h => absurd h h2) (by simp)⟩
  · simp only [if_neg h]
    refine enter [(0, _), (1, _)] Try.func94 rfl Try.ntmps94 (Nat.le_of_ble_eq_true rfl) rfl ?_; intro a0 hN
    repeat' (first
      | (refine isT ?_; (first | (refine isGuard ?_; (first | (refine T_yes hN rfl rfl rfl ?_) | (refine T_no hN rfl rfl rfl rfl ?_) | (refine T_guardD hN rfl rfl rfl (fun hb => ?_) (fun hb => ?_) <;> ((first | (exfalso; omega) | (exfalso; exact hb rfl) | (exfalso; exact hb (fun h => h rfl)) | ((with_reducible refine absurd ?_ hb); (repeat' (first | exact trivial | refine And.intro rfl ?_)); done) | (replace hb := Classical.not_not.1 hb) | skip))))) | (refine T_fieldAddr hN rfl (by first | exact .inr trivial | exact .inl rfl) ?_) | (refine T_move hN rfl (by first | exact .inr trivial | exact .inl rfl) ?_) | (refine T_nilCheck hN rfl (by first | exact .inr trivial | exact .inl rfl) ?_) | (refine T_nil ?_) | (refine is_load ?_; (first | (refine T_load hN rfl (hT.has 0 rfl) rfl (by first | exact .inl rfl | exact .inr ⟨by decide, trivial⟩) ?_))) | (refine is_binOp ?_; (first | (refine T_eql hN rfl rfl (by first | exact .inr trivial | exact .inl rfl) ?_) | (refine T_neq hN rfl rfl (by first | exact .inr trivial | exact .inl rfl) ?_) | (refine T_neqnil hN rfl rfl (by first | exact .inr trivial | exact .inl rfl) ?_))) | (refine is_pick ?_; (first | (refine T_pick1 hN rfl rfl (by first | exact .inr trivial | exact .inl rfl) ?_) | (refine T_pick0 hN rfl rfl (by first | exact .inr trivial | exact .inl rfl) ?_)))))
      | (refine isC ?_; (first | (refine C_seq ?_) | (refine C_rgnk (id := 0) hN [(0, _), (1, _)] ⟨rfl, rfl, trivial⟩ ?_; clear hN; intro a0 hN) | (refine C_false hN rfl ?_) | (refine C_if hN rfl (fun hb => ?_) (fun hb => ?_) <;> ((first | (exfalso; omega) | (exfalso; exact hb rfl) | (exfalso; exact hb (fun h => h rfl)) | ((with_reducible refine absurd ?_ hb); (repeat' (first | exact trivial | refine And.intro rfl ?_)); done) | (replace hb := Classical.not_not.1 hb) | skip))) | (refine C_skip ?_)))
      | (refine isE ?_; (first | (refine E_thn ?_) | (refine E_end hN Try.results94 .nil ?_))))
    all_goals first
      | exact ⟨rfl, In.shut hT rfl rfl i1 i2 i3 i4 i5⟩
      | (exfalso; exact h ⟨by omega, by omega⟩)
end
end Go.Proofs.Ytfcmjlbfoindaaa
