/- THE WALK of the document's Updates. -/
import Derived.Test.YteikjachfafadaaUp21
import Derived.Test.YteikjachfafadaaRU21t
namespace Go.Proofs.Yteikjachfafadaa
open Go.RowKit Go.Fp
attribute [local irreducible] Go.Calls
set_option maxRecDepth 100000
set_option maxHeartbeats 8000000
theorem putU_err (full : Bool) (es : List En) (h : ¬ (putU full es).2 = 0) : (putU full es).1.length = 0 := by
  unfold putU at *
  split
  · rfl
  · rename_i h8
    rw [if_neg h8] at h
    split
    · rename_i hg; rw [if_pos hg] at h; exact absurd rfl h
    · rfl
section
variable (x0 : Option Addr) (c0 : Nat) (L : List En) (w : World) {m : List Ob} (hm : EnR m L) (hLm : Ob.rd x0 L.length 22 (L.map En.cells).flatten ∈ m) (hL : L.length ≤ 1000) (hLc : L.length ≤ c0) (hT : Tk [] w w [] m)
include hm hLm hL hLc hT
theorem ref_Updates (full : Bool) (most : Int) : Calls Try.prog 14 #[.slice x0 L.length c0, .bool full, .int .i64 most] w (UpPost w m (upd full most L)) := by
  have hLOk : ∀ e, e ∈ L → e.Ok := fun e he => (hm e he).1
  unfold UpPost
  refine enter [(0, _), (1, _), (2, _)] Try.func14 rfl Try.ntmps14 (Nat.le_of_ble_eq_true rfl) rfl ?_; intro a0 hN
  repeat' (first
    | (refine isT ?_; (first | (refine T_assign hN rfl (by first | exact .inr trivial | exact .inl rfl) ?_) | (refine T_nil ?_)))
    | (refine isC ?_; (first | (refine C_seq ?_) | (refine C_rgnk (id := 0) hN [(0, _), (1, _), (2, _)] ⟨rfl, rfl, rfl, trivial⟩ ?_; clear hN; intro a0 hN) | (refine C_rgnk (id := 1) hN [(0, _), (1, _), (2, _), (6, _)] ⟨rfl, rfl, rfl, rfl, trivial⟩ ?_; clear hN; intro a0 hN) | (refine C_rgnk (id := 2) hN [(0, _), (1, _), (2, _), (6, _), (7, _)] ⟨rfl, rfl, rfl, rfl, rfl, trivial⟩ ?_; clear hN; intro a0 hN) | (refine C_block ?_)))
    | (refine isE ?_; (first | (refine E_thn ?_))))
  refine C_loop hN (X := Nat × List By × Option Addr × Nat) (fun y => [(0, .slice x0 L.length c0), (1, .bool full), (2, .int .i64 most), (7, .slice y.2.2.1 y.2.1.length y.2.2.2), (8, .int .i64 y.1)])
    (fun y w1 => y.1 ≤ L.length ∧ y.2.1.map By.bs ++ upd full most (L.drop y.1) = upd full most L ∧ y.2.1.length ≤ y.1 ∧ Tk [] w w1 [Ob.own 23 1 (.slice y.2.2.1 y.2.1.length y.2.2.2) y.2.1.length (y.2.1.map By.cell), Ob.all (y.2.1.map By.ob)] m)
    (fun y => L.length - y.1) (0, [], none, 0) ⟨rfl, rfl, rfl, rfl, rfl, trivial⟩ ⟨Nat.zero_le _, rfl, Nat.le_refl _, hT.nilAll.addnil 23 1⟩ ?_
  clear hN hT
  rintro ⟨fr, bys, xo, co⟩ a0 ww hN ⟨hfr, hup, hbl, hT⟩
  dsimp only at hfr hup hbl hT ⊢
  by_cases hl0 : fr = L.length
  · rw [List.drop_eq_nil_of_le (by omega), upd_nil, List.append_nil] at hup
    repeat' (first
      | (refine isT ?_; (first | (refine T_assign hN rfl (by first | exact .inr trivial | exact .inl rfl) ?_) | (refine T_move hN rfl (by first | exact .inr trivial | exact .inl rfl) ?_) | (refine T_nil ?_) | (refine is_binOp ?_; (first | (refine T_lss hN rfl rfl (by first | exact .inr trivial | exact .inl rfl) ?_))) | (refine is_call ?_; (first | (refine T_len hN rfl (by first | exact .inr trivial | exact .inl rfl) ?_)))))
      | (refine isC ?_; (first | (refine C_seq ?_) | (refine C_rgn ?_) | (refine C_if hN rfl (fun hb => ?_) (fun hb => ?_) <;> ((first | (exfalso; omega) | (exfalso; exact hb rfl) | (exfalso; exact hb (fun h => h rfl)) | ((with_reducible refine absurd ?_ hb); (repeat' (first | exact trivial | refine And.intro rfl ?_)); done) | (replace hb := Classical.not_not.1 hb) | skip))) | (refine C_ret ?_) | (refine C_exit ?_)))
      | (refine isE ?_; (first | (refine E_thn ?_) | (refine E_thn_exit ?_) | (refine E_blk_hit ?_) | (refine E_lp_exit ?_) | (refine E_ret hN Try.results14 (.tmp rfl .nil) ?_))))
    all_goals exact ⟨xo, co, bys, rfl, hup, hT⟩
  · have hll : (L.drop fr).length = L.length - fr := List.length_drop
    have hstep := upd_step full most (L.drop fr) (by omega)
    have hlOk : ∀ e, e ∈ L.drop fr → e.Ok := fun e he => hLOk e (List.mem_of_mem_drop he)
    have hE1 : Ob.Ent (Ob.rd x0 L.length 22 (L.map En.cells).flatten) (Ob.rd (lo x0 22 c0 fr) (L.drop fr).length 22 ((L.drop fr).map En.cells).flatten) := by rw [hll]; exact Ent.ens_lo hLOk hfr hLc
    repeat' (first
      | (refine isT ?_; (first | (refine T_assign hN rfl (by first | exact .inr trivial | exact .inl rfl) ?_) | (refine T_move hN rfl (by first | exact .inr trivial | exact .inl rfl) ?_) | (refine T_nil ?_) | (refine is_binOp ?_; (first | (refine T_addi64 hN rfl rfl (by omega) (by first | exact .inr trivial | exact .inl rfl) ?_) | (refine T_lss hN rfl rfl (by first | exact .inr trivial | exact .inl rfl) ?_))) | (refine is_call ?_; (first | (refine T_len hN rfl (by first | exact .inr trivial | exact .inl rfl) ?_)))))
      | (refine isC ?_; (first | (refine C_seq ?_) | (refine C_rgn ?_) | (refine C_if hN rfl (fun hb => ?_) (fun hb => ?_) <;> ((first | (exfalso; omega) | (exfalso; exact hb rfl) | (exfalso; exact hb (fun h => h rfl)) | ((with_reducible refine absurd ?_ hb); (repeat' (first | exact trivial | refine And.intro rfl ?_)); done) | (replace hb := Classical.not_not.1 hb) | skip))) | (refine C_skip ?_) | (refine C_block ?_)))
      | (refine isE ?_; (first | (refine E_thn ?_))))
    refine C_loop hN (X := Nat) (fun n => [(0, .slice x0 L.length c0), (1, .bool full), (2, .int .i64 most), (7, .slice xo bys.length co), (8, .int .i64 fr), (9, .int .i64 ((fr + n : Nat) : Int))])
      (fun n w1 => 1 ≤ n ∧ n ≤ (L.drop fr).length ∧ grow full most (L.drop fr) n = grow full most (L.drop fr) 1 ∧ Tk [] w w1 [Ob.own 23 1 (.slice xo bys.length co) bys.length (bys.map By.cell), Ob.all (bys.map By.ob)] m) (fun n => L.length - n) 1 ⟨rfl, rfl, rfl, rfl, rfl, evI rfl (by omega), trivial⟩ ⟨Nat.le_refl _, by omega, rfl, hT⟩ ?_
    clear hN hT
    rintro n a0 ww hN ⟨hn1, hn2, hgn, hT⟩
    have hst := grow_step full most (L.drop fr) n
    have hlt : ((L.drop fr).take (n + 1)).length = min (n + 1) (L.drop fr).length := List.length_take
    have hlt2 : ((L.drop fr).take n).length = n := by rw [List.length_take]; omega
    have cP := fun ww h => rup_PutUpdate (lo x0 22 c0 fr) (c0 - fr) ((L.drop fr).take n) ww (m := m) (hm.sub (fun e he => List.mem_of_mem_drop (List.mem_of_mem_take he))) h full
    have hone : oneU full ((L.drop fr).take n) = if (putU full ((L.drop fr).take n)).2 = 0 then [(putU full ((L.drop fr).take n)).1] else [] := rfl
    unfold PUPost at cP
    rw [hlt2] at cP
    have hs1 : fr + n + 1 - fr = n + 1 := by omega
    have hs2 : fr + n - fr = n := by omega
    have hdd : (L.drop fr).drop n = L.drop (fr + n) := List.drop_drop
    generalize putU full ((L.drop fr).take n) = pu at *
    obtain ⟨ub, ue⟩ := pu
    dsimp only at cP hone
    by_cases hlast : n < (L.drop fr).length
    · have hlt1 : ((L.drop fr).take (n + 1)).length = n + 1 := by rw [hlt]; omega
      have cS := fun ww h => rup_PutUpdate (lo x0 22 c0 fr) (c0 - fr) ((L.drop fr).take (n + 1)) ww (m := m) (hm.sub (fun e he => List.mem_of_mem_drop (List.mem_of_mem_take he))) h full
      have herr := putU_err full ((L.drop fr).take (n + 1))
      unfold PUPost at cS
      rw [hlt1] at cS
      generalize putU full ((L.drop fr).take (n + 1)) = pv at *
      obtain ⟨vb, ve⟩ := pv
      dsimp only at cS herr hst
      by_cases hsz : (vb.length : Int) ≤ most
      · rw [if_pos ⟨hlast, hsz⟩] at hst
        repeat' (first
          | (refine isT ?_; (first | (refine T_assign hN rfl (by first | exact .inr trivial | exact .inl rfl) ?_) | (refine T_extract hN rfl rfl (by first | exact .inr trivial | exact .inl rfl) ?_) | (refine T_move hN rfl (by first | exact .inr trivial | exact .inl rfl) ?_) | (refine T_nil ?_) | (refine is_binOp ?_; (first | (refine T_addi64 hN rfl rfl (by omega) (by first | exact .inr trivial | exact .inl rfl) ?_) | (refine T_gtr hN rfl rfl (by first | exact .inr trivial | exact .inl rfl) ?_) | (refine T_lss hN rfl rfl (by first | exact .inr trivial | exact .inl rfl) ?_) | (refine T_neq hN rfl rfl (by first | exact .inr trivial | exact .inl rfl) ?_))) | (refine is_call ?_; (first | (refine is_call ?_; obtain ⟨hP, hK⟩ := hT.call0 (Ob.rd (lo x0 22 c0 fr) (n + 1) 22 (((L.drop fr).take (n + 1)).map En.cells).flatten :: m) (fun o ho => by rcases List.mem_cons.1 ho with rfl | ho; exact ⟨_, List.mem_append_right _ hLm, hE1.trans (Ent.ens_hi hlOk (by omega))⟩; exact ⟨o, List.mem_append_right _ ho, Ob.Ent.refl _⟩); refine T_call (f := 26) hN rfl (by decide) (cS _ hP) ?_; rintro e9 ww ⟨x1, c1, rfl, h1⟩; clear hT hP; replace hT := hK _ _ _ h1; clear hK h1; refine ⟨_, rfl, trivial, ?_⟩) | (refine T_len hN rfl (by first | exact .inr trivial | exact .inl rfl) ?_))) | (refine is_slice ?_; (first | (refine T_slcAB (d := 31) (j := fr) (k := fr + n + 1) hN rfl rfl (evI rfl (by omega)) (by omega) (by omega) (by first | exact .inr trivial | exact .inl rfl) ?_; rw [hs1]))) | (refine is_build ?_; (first | (refine T_build (t := 63) (us := [_, _]) hN rfl rfl (by first | exact .inr trivial | exact .inl rfl) ?_)))))
          | (refine isC ?_; (first | (refine C_seq ?_) | (refine C_rgn ?_) | (refine C_if hN rfl (fun hb => ?_) (fun hb => ?_) <;> ((first | (exfalso; omega) | (exfalso; exact hb rfl) | (exfalso; exact hb (fun h => h rfl)) | ((with_reducible refine absurd ?_ hb); (repeat' (first | exact trivial | refine And.intro rfl ?_)); done) | (replace hb := Classical.not_not.1 hb) | skip))) | (refine C_skip ?_) | (refine C_block ?_)))
          | (refine isE ?_; (first | (refine E_thn ?_) | (refine E_blk ?_))))
        all_goals first
          | (exfalso; have := herr (by assumption); omega)
          | exact E_mk hN (n + 1) ⟨rfl, rfl, rfl, rfl, rfl, evI rfl (by omega), trivial⟩ ⟨⟨by omega, by omega, hst.symm.trans hgn, hT.sel [1, 1] rfl⟩, by omega⟩
      · rw [if_neg (fun h => hsz h.2)] at hst
        have hgr : grow full most (L.drop fr) 1 = n := hgn.symm.trans hst
        repeat' (first
          | (refine isT ?_; (first | (refine T_assign hN rfl (by first | exact .inr trivial | exact .inl rfl) ?_) | (refine T_extract hN rfl rfl (by first | exact .inr trivial | exact .inl rfl) ?_) | (refine T_move hN rfl (by first | exact .inr trivial | exact .inl rfl) ?_) | (refine T_nil ?_) | (refine is_binOp ?_; (first | (refine T_addi64 hN rfl rfl (by omega) (by first | exact .inr trivial | exact .inl rfl) ?_) | (refine T_eql hN rfl rfl (by first | exact .inr trivial | exact .inl rfl) ?_) | (refine T_gtr hN rfl rfl (by first | exact .inr trivial | exact .inl rfl) ?_) | (refine T_lss hN rfl rfl (by first | exact .inr trivial | exact .inl rfl) ?_) | (refine T_neq hN rfl rfl (by first | exact .inr trivial | exact .inl rfl) ?_))) | (refine is_call ?_; (first | (refine is_call ?_; obtain ⟨hP, hK⟩ := hT.call0 (Ob.rd (lo x0 22 c0 fr) (n + 1) 22 (((L.drop fr).take (n + 1)).map En.cells).flatten :: m) (fun o ho => by rcases List.mem_cons.1 ho with rfl | ho; exact ⟨_, List.mem_append_right _ hLm, hE1.trans (Ent.ens_hi hlOk (by omega))⟩; exact ⟨o, List.mem_append_right _ ho, Ob.Ent.refl _⟩); refine T_call (f := 26) hN rfl (by decide) (cS _ hP) ?_; rintro e9 ww ⟨x1, c1, rfl, h1⟩; clear hT hP; replace hT := hK _ _ _ h1; clear hK h1; refine ⟨_, rfl, trivial, ?_⟩) | (refine is_call ?_; obtain ⟨hP, hK⟩ := hT.call0 (Ob.rd (lo x0 22 c0 fr) n 22 (((L.drop fr).take n).map En.cells).flatten :: m) (fun o ho => by rcases List.mem_cons.1 ho with rfl | ho; exact ⟨_, List.mem_append_right _ hLm, hE1.trans (Ent.ens_hi hlOk (by omega))⟩; exact ⟨o, List.mem_append_right _ ho, Ob.Ent.refl _⟩); refine T_call (f := 26) hN rfl (by decide) (cP _ hP) ?_; rintro e9 ww ⟨x2, c2, rfl, h1⟩; clear hT hP; replace hT := hK _ _ _ h1; clear hK h1; refine ⟨_, rfl, trivial, ?_⟩) | (refine T_append hN hT 3 (by rfl) (by rfl) rfl rfl rfl (fun h => by cases h) (blk_rdz (sz := 1) (hT.has 0 rfl) rfl rfl) (slc_one _ _ _) (by unfold maxLen; omega) (by omega) (by decide) ?_; clear hT; intro x4 c4 ww hT; refine ⟨trivial, ?_⟩) | (refine T_len hN rfl (by first | exact .inr trivial | exact .inl rfl) ?_))) | (refine is_slice ?_; (first | (refine T_slcAB (d := 31) (j := fr) (k := fr + n + 1) hN rfl rfl (evI rfl (by omega)) (by omega) (by omega) (by first | exact .inr trivial | exact .inl rfl) ?_; rw [hs1]) | (refine T_slcAB (d := 50) (j := fr) (k := fr + n) hN rfl rfl rfl (by omega) (by omega) (by first | exact .inr trivial | exact .inl rfl) ?_; rw [hs2]))) | (refine is_build ?_; (first | (refine T_build (t := 63) (us := [_, _]) hN rfl rfl (by first | exact .inr trivial | exact .inl rfl) ?_))) | (refine is_buildSlice ?_; (first | (refine T_slice1 hN hT rfl rfl (by decide) ?_; clear hT; intro g ww hT; refine ⟨(by first | exact trivial), ?_⟩)))))
          | (refine isC ?_; (first | (refine C_seq ?_) | (refine C_rgn ?_) | (refine C_if hN rfl (fun hb => ?_) (fun hb => ?_) <;> ((first | (exfalso; omega) | (exfalso; exact hb rfl) | (exfalso; exact hb (fun h => h rfl)) | ((with_reducible refine absurd ?_ hb); (repeat' (first | exact trivial | refine And.intro rfl ?_)); done) | (replace hb := Classical.not_not.1 hb) | skip))) | (refine C_skip ?_) | (refine C_block ?_) | (refine C_exit ?_)))
          | (refine isE ?_; (first | (refine E_thn ?_) | (refine E_blk ?_) | (refine E_thn_exit ?_) | (refine E_blk_hit ?_) | (refine E_blk_miss rfl ?_) | (refine E_lp_exit ?_))))
        all_goals first
          | (have h8 := hT.sel [1, 3, 2] rfl; have h9 := (h8.snocAll (o := By.ob ⟨x2, c2, ub⟩)).swap; rw [if_pos (by assumption)] at hone; refine E_mk hN (fr + n, bys ++ [(⟨x2, c2, ub⟩ : By)], x4, c4) ⟨rfl, rfl, rfl, evV rfl (by rw [List.length_append]; rfl), rfl, trivial⟩ ⟨⟨?_, ?_, ?_, ?_⟩, ?_⟩; (dsimp only; omega); (dsimp only; rw [List.map_append, List.append_assoc, ← hup, hstep, hgr, hone, hdd]; rfl); (dsimp only; rw [List.length_append, List.length_singleton]; omega); (dsimp only; rw [List.map_append, List.map_append, List.length_append]; exact h9); (dsimp only; omega))
          | (have h9 := hT.sel [2, 2] rfl; rw [if_neg (by assumption)] at hone; refine E_mk hN (fr + n, bys, xo, co) ⟨rfl, rfl, rfl, rfl, rfl, trivial⟩ ⟨⟨?_, ?_, ?_, ?_⟩, ?_⟩; (dsimp only; omega); (dsimp only; rw [← hup, hstep, hgr, hone, hdd]; rfl); (dsimp only; omega); (dsimp only; exact h9); (dsimp only; omega))
    · rw [if_neg (fun h => hlast h.1)] at hst
      have hgr : grow full most (L.drop fr) 1 = n := hgn.symm.trans hst
      repeat' (first
        | (refine isT ?_; (first | (refine T_assign hN rfl (by first | exact .inr trivial | exact .inl rfl) ?_) | (refine T_extract hN rfl rfl (by first | exact .inr trivial | exact .inl rfl) ?_) | (refine T_move hN rfl (by first | exact .inr trivial | exact .inl rfl) ?_) | (refine T_nil ?_) | (refine is_binOp ?_; (first | (refine T_eql hN rfl rfl (by first | exact .inr trivial | exact .inl rfl) ?_) | (refine T_lss hN rfl rfl (by first | exact .inr trivial | exact .inl rfl) ?_))) | (refine is_call ?_; (first | (refine is_call ?_; obtain ⟨hP, hK⟩ := hT.call0 (Ob.rd (lo x0 22 c0 fr) n 22 (((L.drop fr).take n).map En.cells).flatten :: m) (fun o ho => by rcases List.mem_cons.1 ho with rfl | ho; exact ⟨_, List.mem_append_right _ hLm, hE1.trans (Ent.ens_hi hlOk (by omega))⟩; exact ⟨o, List.mem_append_right _ ho, Ob.Ent.refl _⟩); refine T_call (f := 26) hN rfl (by decide) (cP _ hP) ?_; rintro e9 ww ⟨x2, c2, rfl, h1⟩; clear hT hP; replace hT := hK _ _ _ h1; clear hK h1; refine ⟨_, rfl, trivial, ?_⟩) | (refine T_append hN hT 2 (by rfl) (by rfl) rfl rfl rfl (fun h => by cases h) (blk_rdz (sz := 1) (hT.has 0 rfl) rfl rfl) (slc_one _ _ _) (by unfold maxLen; omega) (by omega) (by decide) ?_; clear hT; intro x4 c4 ww hT; refine ⟨trivial, ?_⟩) | (refine T_len hN rfl (by first | exact .inr trivial | exact .inl rfl) ?_))) | (refine is_slice ?_; (first | (refine T_slcAB (d := 50) (j := fr) (k := fr + n) hN rfl rfl rfl (by omega) (by omega) (by first | exact .inr trivial | exact .inl rfl) ?_; rw [hs2]))) | (refine is_build ?_; (first | (refine T_build (t := 63) (us := [_, _]) hN rfl rfl (by first | exact .inr trivial | exact .inl rfl) ?_))) | (refine is_buildSlice ?_; (first | (refine T_slice1 hN hT rfl rfl (by decide) ?_; clear hT; intro g ww hT; refine ⟨(by first | exact trivial), ?_⟩)))))
        | (refine isC ?_; (first | (refine C_seq ?_) | (refine C_rgn ?_) | (refine C_if hN rfl (fun hb => ?_) (fun hb => ?_) <;> ((first | (exfalso; omega) | (exfalso; exact hb rfl) | (exfalso; exact hb (fun h => h rfl)) | ((with_reducible refine absurd ?_ hb); (repeat' (first | exact trivial | refine And.intro rfl ?_)); done) | (replace hb := Classical.not_not.1 hb) | skip))) | (refine C_skip ?_) | (refine C_exit ?_)))
        | (refine isE ?_; (first | (refine E_thn ?_) | (refine E_blk ?_) | (refine E_thn_exit ?_) | (refine E_blk_hit ?_) | (refine E_lp_exit ?_))))
      all_goals first
        | (have h8 := hT.sel [1, 2, 1] rfl; have h9 := (h8.snocAll (o := By.ob ⟨x2, c2, ub⟩)).swap; rw [if_pos (by assumption)] at hone; refine E_mk hN (fr + n, bys ++ [(⟨x2, c2, ub⟩ : By)], x4, c4) ⟨rfl, rfl, rfl, evV rfl (by rw [List.length_append]; rfl), rfl, trivial⟩ ⟨⟨?_, ?_, ?_, ?_⟩, ?_⟩; (dsimp only; omega); (dsimp only; rw [List.map_append, List.append_assoc, ← hup, hstep, hgr, hone, hdd]; rfl); (dsimp only; rw [List.length_append, List.length_singleton]; omega); (dsimp only; rw [List.map_append, List.map_append, List.length_append]; exact h9); (dsimp only; omega))
        | (have h9 := hT.sel [1, 1] rfl; rw [if_neg (by assumption)] at hone; refine E_mk hN (fr + n, bys, xo, co) ⟨rfl, rfl, rfl, rfl, rfl, trivial⟩ ⟨⟨?_, ?_, ?_, ?_⟩, ?_⟩; (dsimp only; omega); (dsimp only; rw [← hup, hstep, hgr, hone, hdd]; rfl); (dsimp only; omega); (dsimp only; exact h9); (dsimp only; omega))
end
end Go.Proofs.Yteikjachfafadaa
