/- THE WALKS of package settle: Due. -/
import Derived.Test.YtonbjealgdmngaaSettle3
import Derived.Test.YtonbjealgdmngaaFpOwn
namespace Go.Proofs.Ytonbjealgdmngaa
open Go.RowKit Go.Fp

def clrN (n : NewsS) : NewsS := { n with waits := false, urgent := false }
/-- All news before k are cleared, of those that c tells. -/
def clrTo (p : PlanS) (c : Nat → Bool) (k : Nat) : PlanS := { p with l := fun i => if decide (i < k) && c i then clrN (p.l i) else p.l i }
theorem clrTo_zero (p : PlanS) (c : Nat → Bool) : clrTo p c 0 = p := by unfold clrTo; simp
theorem clrTo_l (p : PlanS) (c : Nat → Bool) (k : Nat) : (clrTo p c k).l k = p.l k := by simp [clrTo]
theorem clrTo_yes {p : PlanS} {c : Nat → Bool} {k : Nat} (h : c k = true) : ({ clrTo p c k with l := upd (clrTo p c k).l k (clrN (p.l k)) } : PlanS) = clrTo p c (k + 1) := by
  unfold clrTo
  simp only [PlanS.mk.injEq, true_and]
  funext i
  unfold upd
  by_cases e : i = k
  · subst e; simp [h]
  · rw [if_neg e]
    have : decide (i < k + 1) = decide (i < k) := by rw [decide_eq_decide]; omega
    simp only [this]
theorem clrTo_no {p : PlanS} {c : Nat → Bool} {k : Nat} (h : c k = false) : clrTo p c k = clrTo p c (k + 1) := by
  unfold clrTo
  simp only [PlanS.mk.injEq, true_and]
  funext i
  by_cases e : i = k
  · subst e; simp [h]
  · have : decide (i < k + 1) = decide (i < k) := by rw [decide_eq_decide]; omega
    simp only [this]
theorem clr_cs (p : PlanS) {d : Nat} (hd : d < 8) : ((p.cs.setIfInBounds (4 + d * 7 + 5) (.bool false)).setIfInBounds (4 + d * 7 + 6) (.bool false)) = ({ p with l := upd p.l d (clrN (p.l d)) } : PlanS).cs := by
  have h := plan_sets p hd [(5, .bool false), (6, .bool false)] (by simp) (clrN (p.l d)) rfl
  simp only [List.foldl_cons, List.foldl_nil] at h
  exact h
theorem last_cs (p : PlanS) (now : Int) : ((p.cs.setIfInBounds 3 (.bool true)).setIfInBounds 2 (.int .i64 now)) = ({ p with any := true, last := now } : PlanS).cs := by
  unfold PlanS.cs planA
  rw [hrows_head_set (by simp [PlanS.hd]), hrows_head_set (by simp [PlanS.hd])]
  rfl

/-- Is all to be told? -/
def fullB (p : PlanS) (now : Int) : Bool := !p.any || decide (p.period ≤ now - p.last)
def fullS (p : PlanS) (now : Int) : PlanS := clrTo { p with any := true, last := now } (fun _ => true) 8
def dueS (p : PlanS) (now : Int) : PlanS := clrTo p (fun d => settledB p now (p.l d)) 8
def dueL (p : PlanS) (now : Int) (k : Nat) : List Nat := (List.range k).filter fun d => settledB p now (p.l d)
theorem dueL_succ (p : PlanS) (now : Int) (k : Nat) : dueL p now (k + 1) = dueL p now k ++ if settledB p now (p.l k) then [k] else [] := by
  unfold dueL; rw [List.range_succ, List.filter_append]; congr 1; simp [List.filter_cons]
theorem dueL_le (p : PlanS) (now : Int) (k : Nat) : (dueL p now k).length ≤ k := by
  unfold dueL; exact Nat.le_trans (List.length_filter_le _ _) (by simp)

set_option maxHeartbeats 800000 in
theorem settle_Due_no (g : Nat) (now : Int) (w : World) (ht : ¬ (0 ≤ now ∧ now ≤ 1099511627776)) :
    Calls Try.prog 12 #[.pointer (some ⟨g, 0, none⟩), .int .i64 now] w fun en w' => en = .returned (.tuple #[.bool false, .slice none 0 0]) ∧ w' = w := by
  have ct := settle_time now
  rw [decide_eq_false ht] at ct
  refine calls_cps fun R hR => ?_
  go_enter Try.func12, Try.ntmps12
  go_wp2_with (first
    | (refine wp_region_text (id := 3) [0, 0, 0, 1, 0, 0, 0, 0, 0, 0, 1, 0, 0, 0, 0, 0, 1] Any Try.mixed (by kernel_rfl) trivial ?_)
    | (refine wp_region_text (id := 8) [0, 0, 0, 0, 0, 0, 0, 0, 2, 0, 0] Any Try.mixed (by kernel_rfl) trivial ?_)
    | (refine wp_region_text (id := 15) [0, 0, 0, 0, 0, 0, 0, 0, 2, 0, 0] Any Try.mixed (by kernel_rfl) trivial ?_)
    | (refine wpT_0 (fun K hK => ?_); go_simp; refine hK _ ?_; clear hK K)
    | (refine wpT_1 (fun K hK => ?_); go_simp; refine hK _ ?_; clear hK K)
    | (refine wpT_tail (by rfl) ?_)
    | (refine wpT_2A (fun _ _ => ?_); rw [if_pos (by rfl)])
    | (refine wpT_nil ?_)
    | (go_at_call 22; (with_reducible refine Calls.mono (ct _) ?_); rintro e w' ⟨rfl, hq⟩; subst w'))
  exact hR.out _ _ ⟨rfl, rfl⟩

def FullRel (p : PlanS) (g : Nat) (w : World) (s42 : Value) (wr : World) : Prop :=
  ∃ k : Nat, k ≤ 8 ∧ s42 = .int .i64 k ∧ Has wr g 72 (clrTo p (fun _ => true) k).cs ∧ Fr [g] w wr

set_option maxHeartbeats 1600000 in
theorem settle_Due_full (g : Nat) (p : PlanS) (now : Int) (w : World) (h : Has w g 72 p.cs) (ht : 0 ≤ now ∧ now ≤ 1099511627776) (hp : p.ok) (hf : fullB p now = true) :
    Calls Try.prog 12 #[.pointer (some ⟨g, 0, none⟩), .int .i64 now] w fun en w' => en = .returned (.tuple #[.bool true, .slice none 0 0]) ∧ Has w' g 72 (fullS p now).cs ∧ Fr [g] w w' := by
  have ct := settle_time now
  rw [decide_eq_true ht] at ct
  obtain ⟨a0, a1, a2, a3⟩ := plan_head p
  have hc := h.cell
  have hz := h.froz
  obtain ⟨t0, t1⟩ := ht
  obtain ⟨p0, p1, s0, s1, l0, l1, hok⟩ := hp
  obtain ⟨an, HA⟩ : ∃ an, Hid (an = p.any) := ⟨_, rfl⟩
  have hcase : an = false ∨ (an = true ∧ p.period ≤ now - p.last) := by
    rw [HA.out]; unfold fullB at hf; cases h2 : p.any <;> simp_all
  rw [← HA.out] at a3
  clear hf hok
  have hsum : IntKind.i64.wrap (now - p.last) = now - p.last := IntWalk.i64_in _ (by omega)
  refine calls_cps fun R hR => ?_
  rcases hcase with rfl | ⟨rfl, hge⟩
  all_goals
    go_enter Try.func12, Try.ntmps12
    go_wp2_with (first
    | (refine wp_region_text (id := 3) [0, 0, 0, 1, 0, 0, 0, 0, 0, 0, 1, 0, 0, 0, 0, 0, 1] Any Try.mixed (by kernel_rfl) trivial ?_)
    | (refine wp_region_text (id := 8) [0, 0, 0, 0, 0, 0, 0, 0, 2, 0, 0] Any Try.mixed (by kernel_rfl) trivial ?_)
    | (refine wp_region_text (id := 15) [0, 0, 0, 0, 0, 0, 0, 0, 2, 0, 0] Any Try.mixed (by kernel_rfl) trivial ?_)
    | (refine wpT_0 (fun K hK => ?_); go_simp; refine hK _ ?_; clear hK K)
    | (refine wpT_1 (fun K hK => ?_); go_simp; refine hK _ ?_; clear hK K)
    | (refine wpT_tail (by rfl) ?_)
    | (refine wpT_2A (fun _ _ => ?_); rw [if_pos (by rfl)])
    | (refine wpT_nil ?_)
    | (go_at_call 22; (with_reducible refine Calls.mono (ct _) ?_); rintro e w' ⟨rfl, hq⟩; subst w'))
    go_loopw [42] (FullRel ({ p with any := true, last := now } : PlanS) g w) (fun i _ => 8 - (intOf i).toNat)
    case atStart =>
      refine ⟨0, by omega, rfl, ?_, by repeat (first | with_reducible exact Fr.refl _ _ | with_reducible apply Fr.drew | with_reducible apply Fr.alloc | with_reducible refine Fr.set ?_ (Or.inl (by simp)) _)⟩
      rw [clrTo_zero]
      (repeat (with_reducible apply Has.drew))
      (with_reducible refine Has.eq ((h.set _ _).set _ _) ?_)
      exact last_cs p now
    case round =>
      obtain ⟨k, hk, rfl, hH, hF⟩ := hrel
      clear hsum
      clear a0 a1 a2 a3 hc hz
      by_cases hlt : k < 8
      · have hc := hH.cell
        have hz := hH.froz
        obtain ⟨a0, a1, a2, a3, a4, a5, a6⟩ := plan_row (clrTo ({ p with any := true, last := now } : PlanS) (fun _ => true) k) hlt
        go_wp2_with (first
    | (refine wp_region_text (id := 3) [0, 0, 0, 1, 0, 0, 0, 0, 0, 0, 1, 0, 0, 0, 0, 0, 1] Any Try.mixed (by kernel_rfl) trivial ?_)
    | (refine wp_region_text (id := 8) [0, 0, 0, 0, 0, 0, 0, 0, 2, 0, 0] Any Try.mixed (by kernel_rfl) trivial ?_)
    | (refine wp_region_text (id := 15) [0, 0, 0, 0, 0, 0, 0, 0, 2, 0, 0] Any Try.mixed (by kernel_rfl) trivial ?_)
    | (refine wpT_0 (fun K hK => ?_); go_simp; refine hK _ ?_; clear hK K)
    | (refine wpT_1 (fun K hK => ?_); go_simp; refine hK _ ?_; clear hK K)
    | (refine wpT_tail (by rfl) ?_)
    | (refine wpT_2A (fun _ _ => ?_); rw [if_pos (by rfl)])
    | (refine wpT_nil ?_))
        refine ⟨⟨k + 1, by omega, by go_num, ?_, hF.trans (by repeat (first | with_reducible exact Fr.refl _ _ | with_reducible apply Fr.drew | with_reducible apply Fr.alloc | with_reducible refine Fr.set ?_ (Or.inl (by simp)) _))⟩, by simp only [intOf]; omega⟩
        rw [← clrTo_yes rfl]
        (repeat (with_reducible apply Has.drew))
        (with_reducible refine Has.eq ((hH.set _ _).set _ _) ?_)
        rw [clr_cs _ hlt, clrTo_l]
      · obtain rfl : k = 8 := by omega
        go_wp2_with (first
    | (refine wp_region_text (id := 3) [0, 0, 0, 1, 0, 0, 0, 0, 0, 0, 1, 0, 0, 0, 0, 0, 1] Any Try.mixed (by kernel_rfl) trivial ?_)
    | (refine wp_region_text (id := 8) [0, 0, 0, 0, 0, 0, 0, 0, 2, 0, 0] Any Try.mixed (by kernel_rfl) trivial ?_)
    | (refine wp_region_text (id := 15) [0, 0, 0, 0, 0, 0, 0, 0, 2, 0, 0] Any Try.mixed (by kernel_rfl) trivial ?_)
    | (refine wpT_0 (fun K hK => ?_); go_simp; refine hK _ ?_; clear hK K)
    | (refine wpT_1 (fun K hK => ?_); go_simp; refine hK _ ?_; clear hK K)
    | (refine wpT_tail (by rfl) ?_)
    | (refine wpT_2A (fun _ _ => ?_); rw [if_pos (by rfl)])
    | (refine wpT_nil ?_))
        exact hR.out _ _ ⟨rfl, hH, hF⟩
end Go.Proofs.Ytonbjealgdmngaa
