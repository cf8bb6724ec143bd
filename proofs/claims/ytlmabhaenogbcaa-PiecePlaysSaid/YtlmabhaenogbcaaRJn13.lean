/- THE WALKS of the document's joiner: Part, Waits. -/
import Derived.Test.YtlmabhaenogbcaaAwk13
namespace Go.Proofs.Ytlmabhaenogbcaa
open Go.RowKit Go.Fp
attribute [local irreducible] Go.Calls
set_option maxRecDepth 100000
set_option maxHeartbeats 8000000
/-- The document's joiner as a value. -/
def rjV (any over : Bool) (id many : Nat) (x : Option Addr) (n c : Nat) : List Value := [.bool any, .bool over, .int .u32 id, .int .i64 many, .slice x n c]
def zeroPc : List Value := [.int .u32 0, .int .i64 0, .int .i64 0, .slice none 0 0]
def partV (rs : List Pr) (a : Int) : List Value × Bool := match rs.find? (fun r => r.p.at_ == a) with | some r => (r.cells, true) | none => (zeroPc, false)
theorem find_take {α : Type} {l : List α} {p : α → Bool} {j : Nat} {r : α} (hj : l[j]? = some r) (h : ∀ x, x ∈ l.take j → p x = false) : l.find? p = if p r = true then some r else (l.drop (j + 1)).find? p := by
  have hlt := (List.getElem?_eq_some_iff.1 hj).1
  have e : l = l.take j ++ r :: l.drop (j + 1) := by
    rw [List.getElem?_eq_getElem hlt] at hj
    cases hj
    rw [← List.drop_eq_getElem_cons hlt, List.take_append_drop]
  have hn : (l.take j).find? p = none := List.find?_eq_none.2 fun x hx => by rw [h x hx]; simp
  conv => lhs; rw [e]
  rw [List.find?_append, hn, Option.none_or, List.find?_cons]
  cases p r <;> simp
theorem rpc_Part (any over : Bool) (id many : Nat) (x : Option Addr) (c : Nat) (rs : List Pr) (hl : rs.length ≤ 1000) (a : Int) (w : World) (hrd : Rdz w x rs.length 4 (rs.map Pr.cells).flatten) :
    Calls Try.prog 26 #[.agg (rjV any over id many x rs.length c).toArray, .int .i64 a] w fun e w' => e = .returned (.tuple #[.agg (partV rs a).1.toArray, .bool (partV rs a).2]) ∧ Fr [] w w' := by
  have hT0 : Tk [] w w [] [Ob.rd x rs.length 4 (rs.map Pr.cells).flatten] := Tk.start w fun o ho => by
    rw [List.mem_singleton] at ho; subst ho
    obtain ⟨f', h, _⟩ := of_rd hrd; exact ⟨f', h⟩
  clear hrd
  have hT := hT0
  clear hT0
  rw [show rjV any over id many x rs.length c = [.bool any, .bool over, .int .u32 id, .int .i64 many, .slice x rs.length c] from rfl]
  refine enter [(0, _), (1, _)] Try.func26 rfl Try.ntmps26 (Nat.le_of_ble_eq_true rfl) rfl ?_; intro a0 hN
  repeat' (first
    | (refine isT ?_; (first | (refine T_assign hN rfl (by first | exact .inr trivial | exact .inl rfl) ?_) | (refine T_nil ?_) | (refine is_box ?_; (first | (refine T_box hN hT rfl (by decide) ?_; clear hT; intro g1 ww hT; refine ⟨trivial, ?_⟩))) | (refine is_alloc ?_; (first | (refine T_alloc hN hT (by decide) ?_; clear hT; intro g ww hT; refine ⟨(by first | exact trivial), ?_⟩)))))
    | (refine isC ?_; (first | (refine C_seq ?_) | (refine C_rgnk (id := 0) hN [(0, _), (1, _)] ⟨rfl, rfl, trivial⟩ ?_; clear hN; intro a0 hN) | (refine C_rgnk (id := 1) hN [(0, _), (1, _), (2, _), (4, _), (5, _)] ⟨rfl, rfl, rfl, rfl, rfl, trivial⟩ ?_; clear hN; intro a0 hN) | (refine C_block ?_)))
    | (refine isE ?_; (first | (refine E_thn ?_))))
  all_goals
    refine C_loop hN (X := Nat) (fun j => [(1, .int .i64 a), (2, .pointer (some ⟨g1, 0, none⟩)), (4, .pointer (some ⟨g, 0, none⟩)), (6, .int .i64 j)])
      (fun j w1 => j ≤ rs.length ∧ (∀ r, r ∈ rs.take j → (r.p.at_ == a) = false) ∧ Tk [] w w1 [Ob.blk g 34 zeroPc, Ob.blk g1 41 [.bool any, .bool over, .int .u32 id, .int .i64 many, .slice x rs.length c]] [Ob.rd x rs.length 4 (rs.map Pr.cells).flatten]) (fun j => rs.length - j) 0 ⟨rfl, rfl, rfl, rfl, trivial⟩ ⟨Nat.zero_le _, by simp, hT⟩ ?_
    clear hN hT
    rintro j a0 ww hN ⟨hj, hfa, hT⟩
    by_cases hj0 : j = rs.length
    · subst hj0
      rw [List.take_length] at hfa
      have hp : partV rs a = (zeroPc, false) := by unfold partV; rw [List.find?_eq_none.2 fun r hr => by rw [hfa r hr]; simp]
      rw [hp]
      repeat' (first
        | (refine isT ?_; (first | (refine T_assign hN rfl (by first | exact .inr trivial | exact .inl rfl) ?_) | (refine T_fieldAddr hN rfl (by first | exact .inr trivial | exact .inl rfl) ?_) | (refine T_move hN rfl (by first | exact .inr trivial | exact .inl rfl) ?_) | (refine T_nil ?_) | (refine is_load ?_; (first | (refine T_load hN rfl (hT.has 1 rfl) rfl (by first | exact .inl rfl | exact .inr ⟨by decide, trivial⟩) ?_))) | (refine is_binOp ?_; (first | (refine T_lss hN rfl rfl (by first | exact .inr trivial | exact .inl rfl) ?_))) | (refine is_call ?_; (first | (refine T_len hN rfl (by first | exact .inr trivial | exact .inl rfl) ?_))) | (refine is_store ?_; (first | (refine T_storen hN hT 0 rfl rfl rfl rfl rfl rfl (by decide) ?_; clear hT; intro ww hT; refine ⟨(by first | exact trivial), ?_⟩))) | (refine is_build ?_; (first | (refine T_build (t := 34) (us := [_, _, _, _]) hN rfl rfl (by first | exact .inr trivial | exact .inl rfl) ?_)))))
        | (refine isC ?_; (first | (refine C_seq ?_) | (refine C_rgn ?_) | (refine C_if hN rfl (fun hb => ?_) (fun hb => ?_) <;> ((first | (exfalso; omega) | (exfalso; exact hb rfl) | (exfalso; exact hb (fun h => h rfl)) | ((with_reducible refine absurd ?_ hb); (repeat' (first | exact trivial | refine And.intro rfl ?_)); done) | (replace hb := Classical.not_not.1 hb) | skip))) | (refine C_ret ?_) | (refine C_exit ?_)))
        | (refine isE ?_; (first | (refine E_thn ?_) | (refine E_thn_exit ?_) | (refine E_blk_hit ?_) | (refine E_lp_exit ?_) | (refine E_ret hN Try.results26 (.cell rfl (run_loadAll (hT.has 0 rfl) rfl rfl) (.tmp rfl .nil)) ?_))))
      all_goals exact ⟨rfl, hT.fr⟩
    · obtain ⟨B, off, rfl⟩ := (hT.rrd 0 rfl).addr (by omega)
      obtain ⟨r, hr⟩ : ∃ r, rs[j]? = some r := ⟨_, List.getElem?_eq_getElem (by omega)⟩
      have hcell : ∀ w : World, Rdz w (some ⟨B, off, none⟩) rs.length 4 (rs.map Pr.cells).flatten → w.cell? ⟨B, off + j * 4 + 1, none⟩ = some (.int .i64 r.p.at_) := fun w h => pr_load h hr 1 _ rfl
      have hfind := find_take (p := fun r => r.p.at_ == a) hr hfa
      by_cases hra : r.p.at_ = a
      · have hp : partV rs a = (r.cells, true) := by unfold partV; rw [hfind]; simp [hra]
        rw [hp]
        repeat' (first
          | (refine isT ?_; (first | (refine T_assign hN rfl (by first | exact .inr trivial | exact .inl rfl) ?_) | (refine T_fieldAddr hN rfl (by first | exact .inr trivial | exact .inl rfl) ?_) | (refine T_move hN rfl (by first | exact .inr trivial | exact .inl rfl) ?_) | (refine T_nil ?_) | (refine is_load ?_; (first | (refine T_loadc hN rfl (hcell _ (hT.rrd 0 rfl)) (by first | exact .inl rfl | exact .inr ⟨by decide, trivial⟩) ?_) | (refine T_loadnc hN rfl (us := r.cells) rfl (pr_load (hT.rrd 0 rfl) hr) (by first | exact .inl rfl | exact .inr ⟨by decide, trivial⟩) ?_) | (refine T_load hN rfl (hT.has 1 rfl) rfl (by first | exact .inl rfl | exact .inr ⟨by decide, trivial⟩) ?_))) | (refine is_binOp ?_; (first | (refine T_eql hN rfl rfl (by first | exact .inr trivial | exact .inl rfl) ?_) | (refine T_lss hN rfl rfl (by first | exact .inr trivial | exact .inl rfl) ?_))) | (refine is_call ?_; (first | (refine T_len hN rfl (by first | exact .inr trivial | exact .inl rfl) ?_))) | (refine is_store ?_; (first | (refine T_storen hN hT 0 rfl rfl rfl rfl rfl rfl (by decide) ?_; clear hT; intro ww hT; refine ⟨(by first | exact trivial), ?_⟩))) | (refine is_indexAddr ?_; (first | (refine T_indexAddr hN rfl rfl (by omega) (by first | exact .inr trivial | exact .inl rfl) ?_)))))
          | (refine isC ?_; (first | (refine C_seq ?_) | (refine C_rgn ?_) | (refine C_if hN rfl (fun hb => ?_) (fun hb => ?_) <;> ((first | (exfalso; omega) | (exfalso; exact hb rfl) | (exfalso; exact hb (fun h => h rfl)) | ((with_reducible refine absurd ?_ hb); (repeat' (first | exact trivial | refine And.intro rfl ?_)); done) | (replace hb := Classical.not_not.1 hb) | skip))) | (refine C_skip ?_) | (refine C_ret ?_) | (refine C_block ?_)))
          | (refine isE ?_; (first | (refine E_thn ?_) | (refine E_thn_ret ?_) | (refine E_blk_ret ?_) | (refine E_lp_ret ?_) | (refine E_ret hN Try.results26 (.cell rfl (run_loadAll (hT.has 0 rfl) rfl rfl) (.tmp rfl .nil)) ?_))))
        all_goals first
          | exact absurd hra (by assumption)
          | exact ⟨rfl, hT.fr⟩
      · repeat' (first
   | (refine isT ?_; (first | (refine T_assign hN rfl (by first | exact .inr trivial | exact .inl rfl) ?_) | (refine T_fieldAddr hN rfl (by first | exact .inr trivial | exact .inl rfl) ?_) | (refine T_move hN rfl (by first | exact .inr trivial | exact .inl rfl) ?_) | (refine T_nil ?_) | (refine is_load ?_; (first | (refine T_loadc hN rfl (hcell _ (hT.rrd 0 rfl)) (by first | exact .inl rfl | exact .inr ⟨by decide, trivial⟩) ?_) | (refine T_load hN rfl (hT.has 1 rfl) rfl (by first | exact .inl rfl | exact .inr ⟨by decide, trivial⟩) ?_))) | (refine is_binOp ?_; (first | (refine T_addi64 hN rfl rfl (by omega) (by first | exact .inr trivial | exact .inl rfl) ?_) | (refine T_eql hN rfl rfl (by first | exact .inr trivial | exact .inl rfl) ?_) | (refine T_lss hN rfl rfl (by first | exact .inr trivial | exact .inl rfl) ?_))) | (refine is_call ?_; (first | (refine T_len hN rfl (by first | exact .inr trivial | exact .inl rfl) ?_))) | (refine is_indexAddr ?_; (first | (refine T_indexAddr hN rfl rfl (by omega) (by first | exact .inr trivial | exact .inl rfl) ?_)))))
   | (refine isC ?_; (first | (refine C_seq ?_) | (refine C_rgn ?_) | (refine C_if hN rfl (fun hb => ?_) (fun hb => ?_) <;> ((first | (exfalso; omega) | (exfalso; exact hb rfl) | (exfalso; exact hb (fun h => h rfl)) | ((with_reducible refine absurd ?_ hb); (repeat' (first | exact trivial | refine And.intro rfl ?_)); done) | (replace hb := Classical.not_not.1 hb) | skip))) | (refine C_skip ?_) | (refine C_block ?_)))
   | (refine isE ?_; (first | (refine E_thn ?_) | (refine E_blk ?_))))
        all_goals first
          | exact absurd (by assumption) hra
          | exact E_mk hN (j + 1) ⟨rfl, rfl, rfl, evI rfl (by omega), trivial⟩ ⟨⟨by omega, fun y hy => by
              rw [List.take_add_one, hr, Option.toList_some, List.mem_append, List.mem_singleton] at hy
              rcases hy with hy | rfl
              · exact hfa y hy
              · simpa using hra, hT⟩, by omega⟩
theorem rpc_Waits (any over : Bool) (id many : Nat) (x : Option Addr) (n c : Nat) (w : World) :
    Calls Try.prog 18 #[.agg (rjV any over id many x n c).toArray] w fun e w' => e = .returned (.tuple #[.int .i64 (if any = true ∧ over = false then (n : Int) else 0), .int .i64 (if any = true ∧ over = false then (many : Int) else 0)]) ∧ Fr [] w w' := by
  have hT := Tk.start0 w
  rw [show rjV any over id many x n c = [.bool any, .bool over, .int .u32 id, .int .i64 many, .slice x n c] from rfl]
  cases any <;> cases over <;> (
    simp only [Bool.false_eq_true, Bool.true_eq_false, and_self, and_true, and_false, if_true, if_false]
    refine enter [(0, _)] Try.func18 rfl Try.ntmps18 (Nat.le_of_ble_eq_true rfl) rfl ?_; intro a0 hN
    repeat' (first
      | (refine isT ?_; (first | (refine isGuard ?_; (first | (refine T_yes hN rfl rfl rfl ?_) | (refine T_no hN rfl rfl rfl rfl ?_))) | (refine T_assign hN rfl (by first | exact .inr trivial | exact .inl rfl) ?_) | (refine T_fieldAddr hN rfl (by first | exact .inr trivial | exact .inl rfl) ?_) | (refine T_move hN rfl (by first | exact .inr trivial | exact .inl rfl) ?_) | (refine T_not hN rfl (by first | exact .inr trivial | exact .inl rfl) ?_) | (refine T_nil ?_) | (refine T_nild ?_) | (refine is_load ?_; (first | (refine T_load hN rfl (hT.has 0 rfl) rfl (by first | exact .inl rfl | exact .inr ⟨by decide, trivial⟩) ?_))) | (refine is_pick ?_; (first | (refine T_pick1 hN rfl rfl (by first | exact .inr trivial | exact .inl rfl) ?_) | (refine T_pick0 hN rfl rfl (by first | exact .inr trivial | exact .inl rfl) ?_))) | (refine is_call ?_; (first | (refine T_len hN rfl (by first | exact .inr trivial | exact .inl rfl) ?_))) | (refine is_box ?_; (first | (refine T_box hN hT rfl (by decide) ?_; clear hT; intro g ww hT; refine ⟨(by first | exact trivial), ?_⟩)))))
      | (refine isC ?_; (first | (refine C_seq ?_) | (refine C_rgnk (id := 0) hN [(0, _)] ⟨rfl, trivial⟩ ?_; clear hN; intro a0 hN) | (refine C_rgnk (id := 1) hN [(0, _), (1, _), (2, _), (3, _)] ⟨rfl, rfl, rfl, rfl, trivial⟩ ?_; clear hN; intro a0 hN) | (refine C_rgnk (id := 2) hN [(0, _), (1, _), (2, _), (3, _), (10, _)] ⟨rfl, rfl, rfl, rfl, rfl, trivial⟩ ?_; clear hN; intro a0 hN) | (refine C_true hN rfl ?_) | (refine C_false hN rfl ?_) | (refine C_skip ?_) | (refine C_ret ?_) | (refine C_drawk (id := 3) hN [(0, _), (1, _), (2, _), (3, _), (10, _)] ⟨rfl, rfl, rfl, rfl, rfl, trivial⟩ [0, 1, 0, 0, 1, 0] Any Try.mixed (by kernel_rfl) trivial ?_; replace hT := hT.drew; clear hN; intro a0 hN)))
      | (refine isE ?_; (first | (refine E_thn ?_) | (refine E_thn_ret ?_) | (refine E_ret hN Try.results18 (.tmp rfl (.tmp rfl .nil)) ?_))))
    all_goals exact ⟨rfl, hT.fr⟩)
end Go.Proofs.Ytlmabhaenogbcaa
