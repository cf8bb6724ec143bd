/- THE WALK of the document's joiner: Take, the rest of its code. -/
import Derived.Test.YtlmabhaenogbcaaRJn13b
namespace Go.Fp
open Go Go.RowKit
def restR (id : Nat) : Code → Code
  | .seq (.seq (.region i _ _) _) y => if i = id then y else restR id y
  | .seq _ y => restR id y
  | c => c
section
variable {P : Program} {k : Ks} {a : Act} {w : World}
/-- A cut behind a test. -/
theorem C_cutR {id : Nat} {l : Array Oper} {dr : Bool} {X : Type _} (N : Nat) (env' : X → List (Nat × Value)) (I : X → World → Prop) {x y : Code} (h : wpC P (.seq (.region id l dr) x) (.lp (Lp N env' I) k) a w)
    (h2 : ∀ (z : X) (a1 : Act) (w1 : World), Base N a1 → I z w1 → wpC P y k (puts a1 (env' z)) w1) : wpC P (.seq (.seq (.region id l dr) x) y) k a w := C_cut N env' I h h2
end
end Go.Fp
namespace Go.Proofs.Ytlmabhaenogbcaa
open Go.RowKit Go.Fp
attribute [local irreducible] Go.Calls
set_option maxRecDepth 100000
set_option maxHeartbeats 8000000
def RMidO (g2 g3 g7 id k a K : Nat) (x : Option Addr) (part : List UInt8) (c : Nat) (xr : Option Addr) (cr : Nat) (rs : List Pr) : List Ob :=
  [Ob.blk g7 41 [.bool false, .bool false, .int .u32 0, .int .i64 0, .slice none 0 0], Ob.blk g3 34 [.int .u32 id, .int .i64 a, .int .i64 k, .slice x part.length c],
    Ob.blk g2 41 [.bool true, .bool false, .int .u32 id, .int .i64 K, .slice xr rs.length cr], Ob.own 34 4 (.slice xr rs.length cr) rs.length (rs.map Pr.cells).flatten]
def RMid (g2 g3 g7 id k a K : Nat) (parts : List (Nat × List UInt8)) (part : List UInt8) (f : List Nat) (w w1 : World) (m : List Ob) : Prop :=
  ∀ a0, Base 150 a0 → wpC Try.prog (restR 5 (bodyC Try.f16)) (.base (bodyPost Try.prog Try.f16 (RTPost f w m (goJ ⟨true, false, id, K, parts⟩ ⟨id, (a : Int), (k : Int), part⟩)))) (puts a0 [(2, .pointer (some ⟨g2, 0, none⟩)), (3, .pointer (some ⟨g3, 0, none⟩)), (7, .pointer (some ⟨g7, 0, none⟩))]) w1
theorem find_kvR (a : Nat) : ∀ {rs : List Pr}, (∀ r, r ∈ rs → 0 ≤ r.p.at_) → (rs.map kvR).find? (fun q => q.1 == a) = (rs.find? (fun r => r.p.at_ == (a : Int))).map kvR
  | [], _ => rfl
  | r :: rs, h => by
    have h0 := h r (by simp)
    have ih := find_kvR a (rs := rs) (fun r hr => h r (List.mem_cons_of_mem _ hr))
    rw [List.map_cons, List.find?_cons, List.find?_cons, ih]
    have e : ((kvR r).1 == a) = (r.p.at_ == (a : Int)) := by
      unfold kvR
      by_cases h1 : r.p.at_ = a
      · simp [h1]
      · have : ¬ r.p.at_.toNat = a := by omega
        rw [beq_eq_false_iff_ne.2 this, beq_eq_false_iff_ne.2 h1]
    rw [e]
    cases (r.p.at_ == (a : Int)) <;> rfl
section
variable (g2 g3 g7 id k a K : Nat) (x : Option Addr) (part : List UInt8) (c : Nat) (xr : Option Addr) (cr : Nat) (rs : List Pr) (f : List Nat) (w w1 : World) {m : List Ob}
  (hT : Tk f w w1 (RMidO g2 g3 g7 id k a K x part c xr cr rs) m) (hok : RJok m ⟨true, false, id, K, rs.map kvR⟩ rs)
include hT hok
theorem rmid_bad (hk : ¬ (k : Int) = (K : Int)) : RMid g2 g3 g7 id k a K (rs.map kvR) part f w w1 m := by
  have hgo : goJ ⟨true, false, id, K, rs.map kvR⟩ ⟨id, a, k, part⟩ = ([], false, 10, ⟨true, false, id, K, rs.map kvR⟩) := by
    unfold goJ; rw [if_pos (by exact hk)]
  intro a0 hN
  rw [hgo]
  refine C_seq ?_
  repeat' (first
    | (refine isT ?_; (first | (refine T_assign hN rfl (by first | exact .inr trivial | exact .inl rfl) ?_) | (refine T_fieldAddr hN rfl (by first | exact .inr trivial | exact .inl rfl) ?_) | (refine T_nil ?_) | (refine T_nild ?_) | (refine is_load ?_; (first | (refine T_load hN rfl (hT.has 1 rfl) rfl (by first | exact .inl rfl | exact .inr ⟨by decide, trivial⟩) ?_) | (refine T_load hN rfl (hT.has 2 rfl) rfl (by first | exact .inl rfl | exact .inr ⟨by decide, trivial⟩) ?_) | (refine T_loadn (t := 41) (us := [_, _, _, _, _]) hN rfl (hT.has 2 rfl) rfl rfl (by first | exact .inl rfl | exact .inr ⟨by decide, trivial⟩) ?_))) | (refine is_binOp ?_; (first | (refine T_neq hN rfl rfl (by first | exact .inr trivial | exact .inl rfl) ?_))) | (refine is_store ?_; (first | (refine T_storen hN hT 0 rfl rfl rfl rfl rfl rfl (by decide) ?_; clear hT; intro ww hT; refine ⟨(by first | exact trivial), ?_⟩)))))
    | (refine isC ?_; (first | (refine C_seq ?_) | (refine C_rgn ?_) | (refine C_if hN rfl (fun hb => ?_) (fun hb => ?_) <;> ((first | (exfalso; omega) | (exfalso; exact hb rfl) | (exfalso; exact hb (fun h => h rfl)) | ((with_reducible refine absurd ?_ hb); (repeat' (first | exact trivial | refine And.intro rfl ?_)); done) | (replace hb := Classical.not_not.1 hb) | skip))) | (refine C_ret ?_) | (refine C_draw (id := 8) [1, 0, 0, 0] Any Try.mixed (by kernel_rfl) trivial ?_; replace hT := hT.drew)))
    | (refine isE ?_; (first | (refine E_thn ?_) | (refine E_thn_ret ?_) | (refine E_ret hN Try.results16 (.tmp rfl (.tmp rfl (.tmp rfl (.cell rfl (run_loadAll (hT.has 0 rfl) rfl rfl) .nil)))) ?_))))
  all_goals exact ⟨none, 0, xr, cr, rs, rfl, hok, (hT.sel [3] rfl).addnil 5 1 |>.swap⟩
theorem rmid_is (hk : k = K) (hpm : Ob.rd x part.length 1 (u8s part) ∈ m) (r : Pr) (hr : r ∈ rs) (hf : rs.find? (fun r => r.p.at_ == (a : Int)) = some r) : RMid g2 g3 g7 id k a K (rs.map kvR) part f w w1 m := by
  subst hk
  have hp : partV rs a = (r.cells, true) := by unfold partV; rw [hf]
  have hf2 := find_kvR a hok.at_
  rw [hf] at hf2
  have cP := fun ww h => rpc_Part true false id k xr cr rs (by have := hok.few; omega) a ww h
  rw [hp] at cP
  have hrm := (hok.mem r hr).1
  by_cases hbs : r.p.part = part
  · have hgo : goJ ⟨true, false, id, k, rs.map kvR⟩ ⟨id, a, k, part⟩ = ([], false, 0, ⟨true, false, id, k, rs.map kvR⟩) := by
      simp [goJ, hf2, kvR, hbs]
    intro a0 hN
    rw [hgo]
    refine C_seq ?_
    repeat' (first
      | (refine isT ?_; (first | (refine T_assign hN rfl (by first | exact .inr trivial | exact .inl rfl) ?_) | (refine T_extract hN rfl rfl (by first | exact .inr trivial | exact .inl rfl) ?_) | (refine T_fieldAddr hN rfl (by first | exact .inr trivial | exact .inl rfl) ?_) | (refine T_move hN rfl (by first | exact .inr trivial | exact .inl rfl) ?_) | (refine T_nil ?_) | (refine T_nild ?_) | (refine is_load ?_; (first | (refine T_load hN rfl (hT.has 0 rfl) rfl (by first | exact .inl rfl | exact .inr ⟨by decide, trivial⟩) ?_) | (refine T_load hN rfl (hT.has 1 rfl) rfl (by first | exact .inl rfl | exact .inr ⟨by decide, trivial⟩) ?_) | (refine T_load hN rfl (hT.has 2 rfl) rfl (by first | exact .inl rfl | exact .inr ⟨by decide, trivial⟩) ?_) | (refine T_loadn (t := 41) (us := [_, _, _, _, _]) hN rfl (hT.has 2 rfl) rfl rfl (by first | exact .inl rfl | exact .inr ⟨by decide, trivial⟩) ?_) | (refine T_loadn (t := 41) (us := [_, _, _, _, _]) hN rfl (hT.has 3 rfl) rfl rfl (by first | exact .inl rfl | exact .inr ⟨by decide, trivial⟩) ?_))) | (refine is_binOp ?_; (first | (refine T_neqbs hN rfl rfl (by first | exact .inr trivial | exact .inl rfl) ?_) | (refine T_neq hN rfl rfl (by first | exact .inr trivial | exact .inl rfl) ?_))) | (refine is_call ?_; (first | (refine is_call ?_; refine T_call (f := 26) hN rfl (by decide) (cP _ (hT.ord 3 rfl)) ?_; rintro e ww ⟨rfl, hf⟩; replace hT := hT.same hf; clear hf; refine ⟨_, rfl, (by first | exact trivial | ((repeat' (first | exact hT.has 0 rfl | exact hT.has 1 rfl | exact hT.has 2 rfl | exact hT.has 3 rfl | exact hT.has 4 rfl | exact hT.has 5 rfl | exact hT.ord 0 rfl | exact hT.ord 1 rfl | exact hT.ord 2 rfl | exact hT.ord 3 rfl | exact hT.ord 4 rfl | exact hT.ord 5 rfl | exact hT.mrd (by assumption) | refine And.intro ?_ ?_)); done)), ?_⟩))) | (refine is_store ?_; (first | (refine T_storen hN hT 0 rfl rfl rfl rfl rfl rfl (by decide) ?_; clear hT; intro ww hT; refine ⟨(by first | exact trivial), ?_⟩) | (refine T_storen hN hT 1 rfl rfl rfl rfl rfl rfl (by decide) ?_; clear hT; intro ww hT; refine ⟨(by first | exact trivial), ?_⟩))) | (refine is_convert ?_; (first | (refine T_b2s hN rfl (hT.mrd hrm) (by first | exact .inl rfl | exact .inr ⟨by decide, trivial⟩) ?_) | (refine T_b2s hN rfl (hT.mrd hpm) (by first | exact .inl rfl | exact .inr ⟨by decide, trivial⟩) ?_))) | (refine is_alloc ?_; (first | (refine T_alloc hN hT (by decide) ?_; clear hT; intro g ww hT; refine ⟨(by first | exact trivial), ?_⟩)))))
      | (refine isC ?_; (first | (refine C_seq ?_) | (refine C_rgn ?_) | (refine C_true hN rfl ?_) | (refine C_if hN rfl (fun hb => ?_) (fun hb => ?_) <;> ((first | (exfalso; omega) | (exfalso; exact hb rfl) | (exfalso; exact hb (fun h => h rfl)) | ((with_reducible refine absurd ?_ hb); (repeat' (first | exact trivial | refine And.intro rfl ?_)); done) | (replace hb := Classical.not_not.1 hb) | skip))) | (refine C_skip ?_) | (refine C_ret ?_) | (refine C_draw (id := 12) [1, 0, 0, 0] Any Try.mixed (by kernel_rfl) trivial ?_; replace hT := hT.drew) | (refine C_draw (id := 13) [1, 0, 0, 0] Any Try.mixed (by kernel_rfl) trivial ?_; replace hT := hT.drew)))
      | (refine isE ?_; (first | (refine E_thn ?_) | (refine E_thn_ret ?_) | (refine E_ret hN Try.results16 (.tmp rfl (.tmp rfl (.tmp rfl (.cell rfl (run_loadAll (hT.has 1 rfl) rfl rfl) .nil)))) ?_))))
    all_goals first
      | exact absurd hbs (by assumption)
      | exact ⟨none, 0, xr, cr, rs, rfl, hok, (hT.sel [4] rfl).addnil 5 1 |>.swap⟩
  · have hgo : goJ ⟨true, false, id, k, rs.map kvR⟩ ⟨id, a, k, part⟩ = ([], false, 7, ⟨true, false, id, k, rs.map kvR⟩) := by
      simp [goJ, hf2, kvR, hbs]
    intro a0 hN
    rw [hgo]
    refine C_seq ?_
    repeat' (first
      | (refine isT ?_; (first | (refine T_assign hN rfl (by first | exact .inr trivial | exact .inl rfl) ?_) | (refine T_extract hN rfl rfl (by first | exact .inr trivial | exact .inl rfl) ?_) | (refine T_fieldAddr hN rfl (by first | exact .inr trivial | exact .inl rfl) ?_) | (refine T_move hN rfl (by first | exact .inr trivial | exact .inl rfl) ?_) | (refine T_nil ?_) | (refine T_nild ?_) | (refine is_load ?_; (first | (refine T_load hN rfl (hT.has 0 rfl) rfl (by first | exact .inl rfl | exact .inr ⟨by decide, trivial⟩) ?_) | (refine T_load hN rfl (hT.has 1 rfl) rfl (by first | exact .inl rfl | exact .inr ⟨by decide, trivial⟩) ?_) | (refine T_load hN rfl (hT.has 2 rfl) rfl (by first | exact .inl rfl | exact .inr ⟨by decide, trivial⟩) ?_) | (refine T_loadn (t := 41) (us := [_, _, _, _, _]) hN rfl (hT.has 2 rfl) rfl rfl (by first | exact .inl rfl | exact .inr ⟨by decide, trivial⟩) ?_) | (refine T_loadn (t := 41) (us := [_, _, _, _, _]) hN rfl (hT.has 3 rfl) rfl rfl (by first | exact .inl rfl | exact .inr ⟨by decide, trivial⟩) ?_))) | (refine is_binOp ?_; (first | (refine T_neqbs hN rfl rfl (by first | exact .inr trivial | exact .inl rfl) ?_) | (refine T_neq hN rfl rfl (by first | exact .inr trivial | exact .inl rfl) ?_))) | (refine is_call ?_; (first | (refine is_call ?_; refine T_call (f := 26) hN rfl (by decide) (cP _ (hT.ord 3 rfl)) ?_; rintro e ww ⟨rfl, hf⟩; replace hT := hT.same hf; clear hf; refine ⟨_, rfl, (by first | exact trivial | ((repeat' (first | exact hT.has 0 rfl | exact hT.has 1 rfl | exact hT.has 2 rfl | exact hT.has 3 rfl | exact hT.has 4 rfl | exact hT.has 5 rfl | exact hT.ord 0 rfl | exact hT.ord 1 rfl | exact hT.ord 2 rfl | exact hT.ord 3 rfl | exact hT.ord 4 rfl | exact hT.ord 5 rfl | exact hT.mrd (by assumption) | refine And.intro ?_ ?_)); done)), ?_⟩))) | (refine is_store ?_; (first | (refine T_storen hN hT 0 rfl rfl rfl rfl rfl rfl (by decide) ?_; clear hT; intro ww hT; refine ⟨(by first | exact trivial), ?_⟩) | (refine T_storen hN hT 1 rfl rfl rfl rfl rfl rfl (by decide) ?_; clear hT; intro ww hT; refine ⟨(by first | exact trivial), ?_⟩))) | (refine is_convert ?_; (first | (refine T_b2s hN rfl (hT.mrd hrm) (by first | exact .inl rfl | exact .inr ⟨by decide, trivial⟩) ?_) | (refine T_b2s hN rfl (hT.mrd hpm) (by first | exact .inl rfl | exact .inr ⟨by decide, trivial⟩) ?_))) | (refine is_alloc ?_; (first | (refine T_alloc hN hT (by decide) ?_; clear hT; intro g ww hT; refine ⟨(by first | exact trivial), ?_⟩)))))
      | (refine isC ?_; (first | (refine C_seq ?_) | (refine C_rgn ?_) | (refine C_true hN rfl ?_) | (refine C_if hN rfl (fun hb => ?_) (fun hb => ?_) <;> ((first | (exfalso; omega) | (exfalso; exact hb rfl) | (exfalso; exact hb (fun h => h rfl)) | ((with_reducible refine absurd ?_ hb); (repeat' (first | exact trivial | refine And.intro rfl ?_)); done) | (replace hb := Classical.not_not.1 hb) | skip))) | (refine C_skip ?_) | (refine C_ret ?_) | (refine C_draw (id := 12) [1, 0, 0, 0] Any Try.mixed (by kernel_rfl) trivial ?_; replace hT := hT.drew) | (refine C_draw (id := 13) [1, 0, 0, 0] Any Try.mixed (by kernel_rfl) trivial ?_; replace hT := hT.drew)))
      | (refine isE ?_; (first | (refine E_thn ?_) | (refine E_thn_ret ?_) | (refine E_ret hN Try.results16 (.tmp rfl (.tmp rfl (.tmp rfl (.cell rfl (run_loadAll (hT.has 1 rfl) rfl rfl) .nil)))) ?_))))
    all_goals first
      | exact absurd (by assumption) hbs
      | exact ⟨none, 0, xr, cr, rs, rfl, hok, (hT.sel [4] rfl).addnil 5 1 |>.swap⟩
end
end Go.Proofs.Ytlmabhaenogbcaa
