/- THE WALKS of sums under way. -/
import Derived.Test.YtfcmjlbfoindaaaMix12
import Derived.Test.YtfcmjlbfoindaaaSl3
namespace Go.Proofs.Ytfcmjlbfoindaaa
open Go.RowKit Go.Fp
attribute [local irreducible] Go.Calls
set_option maxRecDepth 100000
set_option maxHeartbeats 16000000
attribute [local irreducible] S8.mix
theorem own_cap {w : World} {e : TypeId} {sz n c : Nat} {x : Option Addr} {xs : List Value} (h : w.ownsRow 0 e sz (.slice x n c) n xs) : n ≤ c := by
  rcases h.2 with ⟨h1, h2⟩ | ⟨g, cap, cur, h0, _, _, h3, _⟩
  · cases h1; omega
  · cases h0; exact h3
def hcells (h : S8) (y : Option Addr) (n c len k : Nat) : List Value := [w32 h.a, w32 h.b, w32 h.c, w32 h.d, w32 h.e, w32 h.f, w32 h.g, w32 h.z, .slice y n c, .int .u64 len, .int .i64 k]
/-- A sum under way. -/
def HK (q : Nat) (h : S8) (r : List UInt8) (n k : Nat) : Ob :=
  Ob.ex fun y : Option Addr => Ob.ex fun c : Nat => Ob.sep (Ob.blk q 191 (hcells h y r.length c n k)) (Ob.own 5 1 (.slice y r.length c) r.length (u8s r))
/-- The bytes that it took. -/
def Hs (q : Nat) (p : List UInt8) : Ob := HK q (sh0.blks p (p.length / 64)) (shR p) p.length (p.length / 64)
theorem HK.open {S : List Nat} {w0 w : World} {l m : List Ob} {q : Nat} {h : S8} {r : List UInt8} {n k : Nat} (hT : Tk S w0 w (HK q h r n k :: l) m) :
    ∃ x c, Tk S w0 w (Ob.blk q 191 (hcells h x r.length c n k) :: Ob.own 5 1 (.slice x r.length c) r.length (u8s r) :: l) m := by
  obtain ⟨x, hT⟩ := hT.exE
  obtain ⟨c, hT⟩ := hT.exE
  exact ⟨x, c, hT.sepE⟩
theorem HK.shut {S : List Nat} {w0 w : World} {l m : List Ob} {q : Nat} {h : S8} {r : List UInt8} {n k c : Nat} {x : Option Addr} (hT : Tk S w0 w (Ob.blk q 191 (hcells h x r.length c n k) :: Ob.own 5 1 (.slice x r.length c) r.length (u8s r) :: l) m) : Tk S w0 w (HK q h r n k :: l) m :=
  Tk.exI x (Tk.exI c hT.sepI)
theorem sha_New (w : World) : Calls Try.prog 88 #[] w fun e w' => ∃ q, e = .returned (.pointer (some ⟨q, 0, none⟩)) ∧ Tk [] w w' [Hs q []] [] := by
  have hT := Tk.start0 w
  refine enter [] Try.func88 rfl Try.ntmps88 (Nat.le_of_ble_eq_true rfl) rfl ?_; intro a0 hN
  repeat' (first
    | (refine isT ?_; (first | (refine T_assign hN rfl (by first | exact .inr trivial | exact .inl rfl) ?_) | (refine T_nil ?_) | (refine is_box ?_; (first | (refine T_box (d := 3) hN hT (vs := hcells sh0 none 0 0 0 0) rfl (by decide) ?_; clear hT; intro g ww hT; refine ⟨trivial, ?_⟩))) | (refine is_build ?_; (first | (refine T_build (t := 189) (us := [_, _, _, _, _, _, _, _]) hN rfl rfl (by first | exact .inr trivial | exact .inl rfl) ?_) | (refine T_build (t := 191) (us := [_, _, _, _, _, _, _, _, _, _, _]) hN rfl rfl (by first | exact .inr trivial | exact .inl rfl) ?_)))))
    | (refine isC ?_; (first | (refine C_seq ?_) | (refine C_rgnk (id := 0) hN [] trivial ?_; clear hN; intro a0 hN) | (refine C_rgnk (id := 1) hN [(0, _)] ⟨rfl, trivial⟩ ?_; clear hN; intro a0 hN) | (refine C_ret ?_)))
    | (refine isE ?_; (first | (refine E_thn ?_) | (refine E_ret hN Try.results88 (.tmp rfl .nil) ?_))))
  all_goals exact ⟨_, rfl, HK.shut (x := none) (c := 0) (hT.addnil 5 1).swap⟩
attribute [local irreducible] sh0
section
variable (q : Nat) (p : List UInt8) (y : Option Addr) (d : Nat) (ps : List UInt8) (hy : y = none → ps.length = 0 ∧ d = 0) (hn : p.length + ps.length ≤ 1000000) (f : List Nat) (w : World) {m : List Ob} (hT : Tk f w w [Hs q p] (Ob.rd y ps.length 1 (u8s ps) :: m))
include hy hn hT
theorem sha_Write : Calls Try.prog 89 #[.pointer (some ⟨q, 0, none⟩), .slice y ps.length d] w fun e w' => e = .returned (.tuple #[]) ∧ Tk f w w' [Hs q (p ++ ps)] (Ob.rd y ps.length 1 (u8s ps) :: m) := by
  have hl := shR_len p
  have hP : shR p ++ ps = (p ++ ps).drop (64 * (p.length / 64)) := by unfold shR; rw [List.drop_append_of_le_length (by omega)]
  have hB := S8.blks_app sh0 p ps (p.length / 64) (by omega)
  obtain ⟨x, c, hT⟩ := HK.open hT
  have hpl : (p ++ ps).length = p.length + ps.length := List.length_append ..
  refine enter [(0, _), (1, _)] Try.func89 rfl Try.ntmps89 (Nat.le_of_ble_eq_true rfl) rfl ?_; intro a0 hN
  repeat' (first
    | (refine isT ?_; (first | (refine T_fieldAddr hN rfl (by first | exact .inr trivial | exact .inl rfl) ?_) | (refine T_move hN rfl (by first | exact .inr trivial | exact .inl rfl) ?_) | (refine T_nilCheck hN rfl (by first | exact .inr trivial | exact .inl rfl) ?_) | (refine T_nil ?_) | (refine is_load ?_; (first | (refine T_load hN rfl (hT.has 0 rfl) rfl (by first | exact .inl rfl | exact .inr ⟨by decide, trivial⟩) ?_))) | (refine is_binOp ?_; (first | (refine T_addu64 hN rfl rfl (by omega) (by first | exact .inr trivial | exact .inl rfl) ?_) | (refine T_eqlnil hN rfl rfl (by first | exact .inr trivial | exact .inl rfl) ?_))) | (refine is_call ?_; (first | (refine T_append hN hT 1 (by rfl) (by rfl) rfl rfl rfl hy (hT.rrd 0 rfl) (u8s_all1 _) (by unfold maxLen; omega) (by omega) (by decide) ?_; clear hT; intro x1 c1 ww hT; refine ⟨trivial, ?_⟩) | (refine T_len hN rfl (by first | exact .inr trivial | exact .inl rfl) ?_))) | (refine is_store ?_; (first | (refine T_store hN hT 0 rfl rfl rfl rfl rfl (by decide) ?_; clear hT; intro ww hT; refine ⟨(by first | exact trivial), ?_⟩))) | (refine is_convert ?_; (first | (refine T_conv (r := ?_) hN rfl ?_ (by first | exact .inr trivial | exact .inl rfl) ?_; rotate_left; (focus (first | (refine Eq.trans (Go.IntWalk.i64_in _ (by omega)) ?_; (first | (simp only [Int.reduceAdd, Int.reduceSub, Int.reduceMul, Int.reduceNeg, Int.reduceDiv, Int.reduceMod]; rfl) | rfl)) | (refine Eq.trans (Go.IntWalk.u64_in _ (by omega)) ?_; (first | (simp only [Int.reduceAdd, Int.reduceSub, Int.reduceMul, Int.reduceNeg, Int.reduceDiv, Int.reduceMod]; rfl) | rfl)) | (refine Go.IntWalk.u32_in _ ?_; omega) | (refine Go.IntWalk.u8_in _ ?_; omega) | exact rfl)))))))
    | (refine isC ?_; (first | (refine C_seq ?_) | (refine C_rgnk (id := 0) hN [(0, _), (1, _)] ⟨rfl, rfl, trivial⟩ ?_; clear hN; intro a0 hN) | (refine C_rgnk (id := 1) hN [(0, _), (1, _), (5, _)] ⟨rfl, rfl, rfl, trivial⟩ ?_; clear hN; intro a0 hN) | (refine C_rgnk (id := 2) hN [(0, _), (1, _), (5, _)] ⟨rfl, rfl, rfl, trivial⟩ ?_; clear hN; intro a0 hN) | (refine C_false hN rfl ?_) | (refine C_skip ?_) | (refine C_block ?_)))
    | (refine isE ?_; (first | (refine E_thn ?_))))
  all_goals
    have hT1 : Tk f w ww [Ob.blk q 191 (hcells (sh0.blks (p ++ ps) (p.length / 64)) x1 ((p ++ ps).drop (64 * (p.length / 64))).length c1 (p ++ ps).length (p.length / 64)), Ob.own 5 1 (.slice x1 ((p ++ ps).drop (64 * (p.length / 64))).length c1) ((p ++ ps).drop (64 * (p.length / 64))).length (u8s ((p ++ ps).drop (64 * (p.length / 64))))] (Ob.rd y ps.length 1 (u8s ps) :: m) := by
      rw [hB, ← hP, hpl, List.length_append, u8s_append]
      exact hT
    clear hT
    generalize p ++ ps = P at *
    refine C_loop hN (X := Nat × Option Addr × Nat) (fun z => [(0, .pointer (some ⟨q, 0, none⟩))])
      (fun z w1 => (64 * z.1 ≤ P.length ∧ p.length / 64 ≤ z.1) ∧ Tk f w w1 [Ob.blk q 191 (hcells (sh0.blks P z.1) z.2.1 (P.drop (64 * z.1)).length z.2.2 P.length z.1), Ob.own 5 1 (.slice z.2.1 (P.drop (64 * z.1)).length z.2.2) (P.drop (64 * z.1)).length (u8s (P.drop (64 * z.1)))] (Ob.rd y ps.length 1 (u8s ps) :: m)) (fun z => P.length - 64 * z.1) (p.length / 64, x1, c1) ⟨rfl, trivial⟩ ⟨by dsimp only; omega, hT1⟩ ?_
    clear hN hT1
    rintro ⟨j, x1, c1⟩ a0 ww hN ⟨⟨hj, hk⟩, hT⟩
    dsimp only at hj hk hT ⊢
    have hle : (P.drop (64 * j)).length = P.length - 64 * j := List.length_drop ..
    by_cases hj0 : 64 ≤ P.length - 64 * j
    · have hcc := own_cap (hT.owns 1 rfl)
      have hB1 : sh0.blks P (j + 1) = (sh0.blks P j).mix (P.drop (64 * j)) := rfl
      have hR1 : P.drop (64 * (j + 1)) = (P.drop (64 * j)).drop 64 := by rw [List.drop_drop]; congr 1
      have hl1 : (P.drop (64 * (j + 1))).length = P.length - 64 * (j + 1) := List.length_drop ..
      generalize P.drop (64 * j) = R at *
      generalize sh0.blks P j = H at *
      repeat' (first
        | (refine isT ?_; (first | (refine T_slcLoP (j := 64) hN rfl rfl (by omega) hcc (by first | exact .inr trivial | exact .inl rfl) ?_) | (refine T_fieldAddr hN rfl (by first | exact .inr trivial | exact .inl rfl) ?_) | (refine T_move hN rfl (by first | exact .inr trivial | exact .inl rfl) ?_) | (refine T_nilCheck hN rfl (by first | exact .inr trivial | exact .inl rfl) ?_) | (refine T_nil ?_) | (refine T_nild ?_) | (refine is_load ?_; (first | (refine T_load hN rfl (hT.has 0 rfl) rfl (by first | exact .inl rfl | exact .inr ⟨by decide, trivial⟩) ?_) | (refine T_load hN rfl (hT.has 1 rfl) rfl (by first | exact .inl rfl | exact .inr ⟨by decide, trivial⟩) ?_) | (refine T_loadn (t := 189) (us := [_, _, _, _, _, _, _, _]) hN rfl (hT.has 0 rfl) rfl rfl (by first | exact .inl rfl | exact .inr ⟨by decide, trivial⟩) ?_))) | (refine is_binOp ?_; (first | (refine T_addi64 hN rfl rfl (by omega) (by first | exact .inr trivial | exact .inl rfl) ?_) | (refine T_geq hN rfl rfl (by first | exact .inr trivial | exact .inl rfl) ?_))) | (refine is_call ?_; (first | ((refine is_call ?_; obtain ⟨hP, hK⟩ := hT.call0 [Ob.rd x1 R.length 1 (u8s R)] (fun o' ho => by rw [List.mem_singleton] at ho; subst ho; exact ⟨_, List.mem_append_left _ (List.mem_cons_of_mem _ (List.mem_cons_self ..)), Ent.own_rd _ _ _ _ _ _⟩); refine T_call (f := 103) hN rfl (by decide) (sha_mix H x1 c1 R (by omega) _ hP) ?_; rintro e ww ⟨rfl, h1⟩; clear hT hP; replace hT := hK _ _ _ h1; clear hK h1; refine ⟨_, rfl, (by first | exact trivial | ((repeat' (first | exact hT.has 0 rfl | exact hT.has 1 rfl | exact hT.has 2 rfl | exact hT.has 3 rfl | exact hT.has 4 rfl | exact hT.has 5 rfl | exact hT.ord 0 rfl | exact hT.ord 1 rfl | exact hT.ord 2 rfl | exact hT.ord 3 rfl | exact hT.ord 4 rfl | exact hT.ord 5 rfl | exact hT.mrd (by assumption) | refine And.intro ?_ ?_)); done)), ?_⟩)) | (refine T_append hN hT 0 (by rfl) (by rfl) rfl rfl rfl (fun h => absurd h (lo_none (fun h2 => absurd (own_nil (hT.owns 2 rfl) h2).1 (by omega)))) ((hT.ord 2 rfl).lo (by omega) hcc) (fun u hu => u8s_all1 _ u (List.mem_of_mem_drop hu)) (by unfold maxLen; omega) (by omega) (by decide) ?_; clear hT; intro x2 c2 ww hT; refine ⟨trivial, ?_⟩) | (refine T_len hN rfl (by first | exact .inr trivial | exact .inl rfl) ?_))) | (refine is_store ?_; (first | (refine T_store hN hT 1 rfl rfl rfl rfl rfl (by decide) ?_; clear hT; intro ww hT; refine ⟨(by first | exact trivial), ?_⟩) | (refine T_storen hN hT 0 rfl rfl rfl rfl rfl rfl (by decide) ?_; clear hT; intro ww hT; refine ⟨(by first | exact trivial), ?_⟩))) | (refine is_buildSlice ?_; (first | (refine T_slice0 hN hT (by decide) ?_; clear hT; intro g ww hT; refine ⟨(by first | exact trivial), ?_⟩)))))
        | (refine isC ?_; (first | (refine C_seq ?_) | (refine C_rgn ?_) | (refine C_if hN rfl (fun hb => ?_) (fun hb => ?_) <;> ((first | (exfalso; omega) | (exfalso; exact hb rfl) | (exfalso; exact hb (fun h => h rfl)) | ((with_reducible refine absurd ?_ hb); (repeat' (first | exact trivial | refine And.intro rfl ?_)); done) | (replace hb := Classical.not_not.1 hb) | skip))) | (refine C_skip ?_) | (refine C_block ?_) | (refine C_draw (id := 4) [0, 0, 0, 0, 1, 0, 0, 0, 1] Any Try.mixed (by kernel_rfl) trivial ?_; replace hT := hT.drew)))
        | (refine isE ?_; (first | (refine E_thn ?_) | (refine E_blk ?_))))
      all_goals
        refine E_mk hN (j + 1, x2, c2) ⟨rfl, trivial⟩ ⟨⟨by dsimp only; omega, ?_⟩, by dsimp only; omega⟩
        have e1 : (P.drop (64 * (j + 1))).length = 0 + (R.length - 64) := by omega
        have e2 : u8s (P.drop (64 * (j + 1))) = [] ++ List.drop (64 * 1) (u8s R) := by rw [hR1]; unfold u8s; rw [List.map_drop]; rfl
        dsimp only
        rw [hB1, e1, e2]
        exact hT.sel [1, 0] rfl
    · have hj1 : j = P.length / 64 := by omega
      repeat' (first
        | (refine isT ?_; (first | (refine T_fieldAddr hN rfl (by first | exact .inr trivial | exact .inl rfl) ?_) | (refine T_move hN rfl (by first | exact .inr trivial | exact .inl rfl) ?_) | (refine T_nilCheck hN rfl (by first | exact .inr trivial | exact .inl rfl) ?_) | (refine T_nil ?_) | (refine is_load ?_; (first | (refine T_load hN rfl (hT.has 0 rfl) rfl (by first | exact .inl rfl | exact .inr ⟨by decide, trivial⟩) ?_))) | (refine is_binOp ?_; (first | (refine T_geq hN rfl rfl (by first | exact .inr trivial | exact .inl rfl) ?_))) | (refine is_call ?_; (first | (refine T_len hN rfl (by first | exact .inr trivial | exact .inl rfl) ?_)))))
        | (refine isC ?_; (first | (refine C_seq ?_) | (refine C_rgn ?_) | (refine C_if hN rfl (fun hb => ?_) (fun hb => ?_) <;> ((first | (exfalso; omega) | (exfalso; exact hb rfl) | (exfalso; exact hb (fun h => h rfl)) | ((with_reducible refine absurd ?_ hb); (repeat' (first | exact trivial | refine And.intro rfl ?_)); done) | (replace hb := Classical.not_not.1 hb) | skip))) | (refine C_exit ?_)))
        | (refine isE ?_; (first | (refine E_thn ?_) | (refine E_thn_exit ?_) | (refine E_blk_hit ?_) | (refine E_lp_exit ?_) | (refine E_end hN Try.results89 .nil ?_))))
      all_goals exact ⟨rfl, by subst hj1; exact HK.shut hT⟩
end
end Go.Proofs.Ytfcmjlbfoindaaa
