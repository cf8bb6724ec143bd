/- THE WALK: a body's pieces are put together: whole. -/
import Derived.Test.YtlmabhaenogbcaaLJn13b
namespace Go.Proofs.Ytlmabhaenogbcaa
open Go.RowKit Go.Fp
attribute [local irreducible] Go.Calls
set_option maxRecDepth 100000
set_option maxHeartbeats 8000000
section
variable (id sz M : Nat) (bs : List UInt8) (qs : List Pr) (x1 : Option Addr) (c1 : Nat) (q : Nat) (w w1 : World) {m : List Ob}
theorem joins3 (xb : Option Addr) (cb : Nat) (xt : Option Addr) (ct : Nat) (ts : List Int) (xa : Option Addr) (ca : Nat) (gs : List Int) (s : JS) (c : Cut id bs sz M (qs.map Pr.p)) (hs : s.any = true → s.id < id) (hm : ∀ r, r ∈ qs → r.ob ∈ m)
    (hbm : Ob.rd xb bs.length 1 (u8s bs) ∈ m) (htm : Ob.rd xt ts.length 1 (ts.map (Value.int .i64)) ∈ m) (hgm : Ob.rd xa gs.length 1 (gs.map (Value.int .i64)) ∈ m) (hts : ts.length ≤ maxLen)
    (hT : Tk [] w w1 [J q s, Ob.own 36 4 (.slice x1 M c1) M (qs.map Pr.cells).flatten] m) : JoinsR 10 [(1, .slice xb bs.length cb), (3, .slice xt ts.length ct), (4, .slice xa gs.length ca), (13, .slice x1 M c1), (15, .pointer (some ⟨q, 0, none⟩))] w w1 := by
  intro a0 hN
  have hM := c.bound
  have hlen := c.length
  unfold maxLen at hts
  rw [List.length_map] at hlen
  obtain ⟨B, rfl⟩ := hT.own_addr 1 rfl (by omega)
  refine C_cutQ (id := 16) (X := List Pr) 242 (fun _ => [(1, .slice xb bs.length cb), (4, .slice xa gs.length ca), (13, .slice (some ⟨B, 0, none⟩) M c1), (15, .pointer (some ⟨q, 0, none⟩))]) (fun ps w1 => ps.Perm qs ∧ Tk [] w w1 [J q s, Ob.own 36 4 (.slice (some ⟨B, 0, none⟩) M c1) M (ps.map Pr.cells).flatten] m) ?_ ?_
  rotate_left
  · rintro ps a0 ww hN ⟨hp, hT'⟩
    exact joins4 id sz M bs ps _ c1 q w ww xb cb xa ca gs s ⟨(hp.map Pr.p).trans c.perm, c.many, c.size, c.len⟩ (.inl ⟨rfl, hs⟩) (fun r hr => hm r (hp.mem_iff.1 hr)) hbm hgm hT' a0 hN
  repeat' (first
    | (refine isT ?_; (first | (refine T_move hN rfl (by first | exact .inr trivial | exact .inl rfl) ?_) | (refine T_nil ?_) | (refine is_call ?_; (first | (refine T_len hN rfl (by first | exact .inr trivial | exact .inl rfl) ?_)))))
    | (refine isC ?_; (first | (refine C_seq ?_) | (refine C_rgn ?_) | (refine C_block ?_)))
    | (refine isE ?_; (first | (refine E_thn ?_))))
  refine C_loop hN (X := Nat × List Pr) (fun y => [(1, .slice xb bs.length cb), (4, .slice xa gs.length ca), (13, .slice (some ⟨B, 0, none⟩) M c1), (15, .pointer (some ⟨q, 0, none⟩)), (90, .slice xt ts.length ct), (91, .int .i64 ts.length), (92, .int .i64 y.1)])
    (fun y w1 => y.1 ≤ ts.length ∧ y.2.Perm qs ∧ Tk [] w w1 [J q s, Ob.own 36 4 (.slice (some ⟨B, 0, none⟩) M c1) M (y.2.map Pr.cells).flatten] m) (fun y => ts.length - y.1) (0, qs) ⟨rfl, rfl, rfl, rfl, rfl, rfl, rfl, trivial⟩ ⟨Nat.zero_le _, List.Perm.refl _, hT⟩ ?_
  clear hN hT
  rintro ⟨i, ps⟩ a0 ww hN ⟨hi, hp, hT⟩
  dsimp only at hi hp hT ⊢
  by_cases hi0 : i = ts.length
  · subst hi0
    repeat' (first
      | (refine isT ?_; (first | (refine T_nil ?_) | (refine is_binOp ?_; (first | (refine T_lss hN rfl rfl (by first | exact .inr trivial | exact .inl rfl) ?_)))))
      | (refine isC ?_; (first | (refine C_seq ?_) | (refine C_rgn ?_) | (refine C_if hN rfl (fun hb => ?_) (fun hb => ?_) <;> ((first | (exfalso; omega) | (exfalso; exact hb rfl) | (exfalso; exact hb (fun h => h rfl)) | ((with_reducible refine absurd ?_ hb); (repeat' (first | exact trivial | refine And.intro rfl ?_)); done) | (replace hb := Classical.not_not.1 hb) | skip))) | (refine C_exit ?_)))
      | (refine isE ?_; (first | (refine E_thn ?_) | (refine E_thn_exit ?_) | (refine E_blk_hit ?_) | (refine E_lp_exit ?_))))
    all_goals exact E_mk hN ps ⟨rfl, rfl, rfl, rfl, trivial⟩ ⟨hp, hT⟩
  · obtain ⟨z, hz⟩ : ∃ z, ts[i]? = some z := ⟨_, List.getElem?_eq_getElem (by omega)⟩
    obtain ⟨B3, off3, rfl⟩ := (hT.mrd htm).addr (by omega)
    have hcell : ∀ w : World, Rdz w (some ⟨B3, off3, none⟩) ts.length 1 (ts.map (Value.int .i64)) → w.cell? ⟨B3, off3 + i * 1, none⟩ = some (.int .i64 z) := fun w h => h.cell rfl (by rw [List.getElem?_map, Nat.mul_one, hz]; rfl)
    have hpl := hp.length_eq
    obtain ⟨b, hb1, hb2⟩ := u64_rem z M (by omega)
    have ha2 : (i : Int).tmod (M : Int) = ((i % M : Nat) : Int) := rfl
    have ha1 := Nat.mod_lt i (show M > 0 by omega)
    generalize i % M = a at ha1 ha2
    have hra : ps[a]? = some ps[a] := List.getElem?_eq_getElem (by omega)
    have hrb : ps[b]? = some ps[b] := List.getElem?_eq_getElem (by omega)
    have hsw : ((ps.set a ps[b]).set b ps[a]).Perm ps := List.set_set_perm (by omega) (by omega)
    generalize ps[a] = ra at *
    generalize ps[b] = rb at *
    have hspl : spl (spl (ps.map Pr.cells).flatten (0 + a * 4) rb.cells) (0 + b * 4) ra.cells = (((ps.set a rb).set b ra).map Pr.cells).flatten := by
      rw [Nat.zero_add, Nat.zero_add, spl_flat (prs_len ps) rfl (by simp; omega), ← List.map_set, spl_flat (prs_len _) rfl (by simp; omega), ← List.map_set]
    repeat' (first
      | (refine isT ?_; (first | (refine T_storeR hN hT 1 (us := rb.cells) rfl rfl rfl rfl (by omega) rfl (by decide) ?_; clear hT; intro ww hT; refine ⟨trivial, ?_⟩) | (refine T_storeR hN hT 1 (us := ra.cells) rfl rfl rfl rfl (by omega) rfl (by decide) ?_; clear hT; intro ww hT; refine ⟨trivial, ?_⟩) | (refine T_assign hN rfl (by first | exact .inr trivial | exact .inl rfl) ?_) | (refine T_move hN rfl (by first | exact .inr trivial | exact .inl rfl) ?_) | (refine T_nil ?_) | (refine T_nild ?_) | (refine is_load ?_; (first | (refine T_loadc hN rfl (hcell _ (hT.mrd htm)) (by first | exact .inl rfl | exact .inr ⟨by decide, trivial⟩) ?_) | (refine T_loadnc (d := 117) hN rfl (us := rb.cells) rfl (pr_load (hT.ord 1 rfl) hrb) (by first | exact .inl rfl | exact .inr ⟨by decide, trivial⟩) ?_) | (refine T_loadnc (d := 121) hN rfl (us := ra.cells) rfl (pr_load (hT.ord 1 rfl) hra) (by first | exact .inl rfl | exact .inr ⟨by decide, trivial⟩) ?_))) | (refine is_binOp ?_; (first | (refine T_rem (d := 102) (r := (a : Int)) hN rfl rfl (by omega) ha2 (by first | exact .inr trivial | exact .inl rfl) ?_) | (refine T_rem (d := 108) (r := (b : Int)) hN rfl rfl (by omega) hb2 (by first | exact .inr trivial | exact .inl rfl) ?_) | (refine T_addi64 hN rfl rfl (by omega) (by first | exact .inr trivial | exact .inl rfl) ?_) | (refine T_geq hN rfl rfl (by first | exact .inr trivial | exact .inl rfl) ?_) | (refine T_lss hN rfl rfl (by first | exact .inr trivial | exact .inl rfl) ?_))) | (refine is_call ?_; (first | (refine T_len hN rfl (by first | exact .inr trivial | exact .inl rfl) ?_))) | (refine is_convert ?_; (first | (refine T_conv (r := ?_) hN rfl ?_ (by first | exact .inr trivial | exact .inl rfl) ?_; rotate_left; (focus (first | (refine Eq.trans (Go.IntWalk.i64_in _ (by omega)) ?_; (first | (simp only [Int.reduceAdd, Int.reduceSub, Int.reduceMul, Int.reduceNeg, Int.reduceDiv, Int.reduceMod]; rfl) | rfl)) | (refine Eq.trans (Go.IntWalk.u64_in _ (by omega)) ?_; (first | (simp only [Int.reduceAdd, Int.reduceSub, Int.reduceMul, Int.reduceNeg, Int.reduceDiv, Int.reduceMod]; rfl) | rfl)) | (refine Go.IntWalk.u32_in _ ?_; omega) | (refine Go.IntWalk.u8_in _ ?_; omega) | exact rfl))))) | (refine is_indexAddr ?_; (first | (refine T_indexAddr hN rfl rfl (by omega) (by first | exact .inr trivial | exact .inl rfl) ?_)))))
      | (refine isC ?_; (first | (refine C_seq ?_) | (refine C_rgn ?_) | (refine C_if hN rfl (fun hb => ?_) (fun hb => ?_) <;> ((first | (exfalso; omega) | (exfalso; exact hb rfl) | (exfalso; exact hb (fun h => h rfl)) | ((with_reducible refine absurd ?_ hb); (repeat' (first | exact trivial | refine And.intro rfl ?_)); done) | (replace hb := Classical.not_not.1 hb) | skip))) | (refine C_skip ?_) | (refine C_block ?_) | (refine C_exit ?_) | (refine C_draw (id := 20) [0, 0, 0, 0, 0, 0, 0, 0, 0, 0, 0] Any Try.mixed (by kernel_rfl) trivial ?_; replace hT := hT.drew) | (refine C_draw (id := 21) [0, 0, 0, 0, 0, 0, 0, 1, 0, 0, 0, 1, 0] Any Try.mixed (by kernel_rfl) trivial ?_; replace hT := hT.drew)))
      | (refine isE ?_; (first | (refine E_thn ?_) | (refine E_blk ?_) | (refine E_thn_exit ?_) | (refine E_blk_hit ?_) | (refine E_blk_miss rfl ?_) | (refine E_lp_exit ?_))))
    all_goals first
      | exact E_mk hN ps ⟨rfl, rfl, rfl, rfl, trivial⟩ ⟨hp, hT⟩
      | exact E_mk hN (i + 1, (ps.set a rb).set b ra) ⟨rfl, rfl, rfl, rfl, rfl, rfl, evI rfl (by omega), trivial⟩ ⟨⟨by omega, hsw.trans hp, hspl ▸ hT⟩, by omega⟩
end
end Go.Proofs.Ytlmabhaenogbcaa
