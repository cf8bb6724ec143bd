/- THE WALKS of package settle: refused notes; nil; settled; Due. -/
import Derived.Test.YtonbjealgdmngaaSettle1
import Derived.Maps.AppendAt
namespace Go.Proofs.Ytonbjealgdmngaa
open Go.RowKit Go.Fp

set_option maxHeartbeats 800000 in
theorem settle_Note_no (g : Nat) (p : PlanS) (now dest e s m : Int) (u : Bool) (w : World) (_h : Has w g 72 p.cs) (hn : noteB now dest e s m = false) :
    Calls Try.prog 9 #[.pointer (some ⟨g, 0, none⟩), .int .i64 now, .int .i64 dest, .agg #[.int .u32 e, .int .u32 s, .int .i64 m], .bool u] w fun en w' =>
      en = .returned (.int .i64 1) ∧ Fr [] w w' := by
  have ct := settle_time now
  have cr := rank_Right e s m
  refine calls_cps fun R hR => ?_
  by_cases h1 : dest < 0
  · go_enter Try.func9, Try.ntmps9
    go_wp2_with (first
    | (refine wp_region_text (id := 6) [0, 0, 0, 1, 0, 0, 1, 0, 0, 0, 1] Any Try.mixed (by kernel_rfl) trivial ?_)
    | (refine wp_region_text (id := 8) [0, 0, 0, 1, 0, 0] Any Try.mixed (by kernel_rfl) trivial ?_)
    | (refine wpT_0 (fun K hK => ?_); go_simp; refine hK _ ?_; clear hK K)
    | (refine wpT_1 (fun K hK => ?_); go_simp; refine hK _ ?_; clear hK K)
    | (refine wpT_tail (by rfl) ?_)
    | (refine wpT_2A (fun _ _ => ?_); rw [if_pos (by rfl)])
    | (refine wpT_nil ?_))
    exact hR.out _ _ ⟨rfl, (Fr.refl _ _).alloc _⟩
  by_cases h2 : 8 ≤ dest
  · go_enter Try.func9, Try.ntmps9
    go_wp2_with (first
    | (refine wp_region_text (id := 6) [0, 0, 0, 1, 0, 0, 1, 0, 0, 0, 1] Any Try.mixed (by kernel_rfl) trivial ?_)
    | (refine wp_region_text (id := 8) [0, 0, 0, 1, 0, 0] Any Try.mixed (by kernel_rfl) trivial ?_)
    | (refine wpT_0 (fun K hK => ?_); go_simp; refine hK _ ?_; clear hK K)
    | (refine wpT_1 (fun K hK => ?_); go_simp; refine hK _ ?_; clear hK K)
    | (refine wpT_tail (by rfl) ?_)
    | (refine wpT_2A (fun _ _ => ?_); rw [if_pos (by rfl)])
    | (refine wpT_nil ?_))
    exact hR.out _ _ ⟨rfl, (Fr.refl _ _).alloc _⟩
  by_cases h3 : 0 ≤ now ∧ now ≤ 1099511627776
  · have hk : kRight e s m = false := by
      unfold noteB at hn
      rw [decide_eq_true (by omega)] at hn
      simpa using hn
    rw [decide_eq_true h3] at ct
    rw [hk] at cr
    go_enter Try.func9, Try.ntmps9
    go_wp2_with (first
    | (refine wp_region_text (id := 6) [0, 0, 0, 1, 0, 0, 1, 0, 0, 0, 1] Any Try.mixed (by kernel_rfl) trivial ?_)
    | (refine wp_region_text (id := 8) [0, 0, 0, 1, 0, 0] Any Try.mixed (by kernel_rfl) trivial ?_)
    | (refine wpT_0 (fun K hK => ?_); go_simp; refine hK _ ?_; clear hK K)
    | (refine wpT_1 (fun K hK => ?_); go_simp; refine hK _ ?_; clear hK K)
    | (refine wpT_tail (by rfl) ?_)
    | (refine wpT_2A (fun _ _ => ?_); rw [if_pos (by rfl)])
    | (refine wpT_nil ?_)
    | (go_at_call 22; (with_reducible refine Calls.mono (ct _) ?_); rintro e w' ⟨rfl, hq⟩; subst w')
    | (go_at_call 23; (with_reducible refine Calls.mono (cr _) ?_); rintro e w1 ⟨rfl, fq⟩))
    exact hR.out _ _ ⟨rfl, ((Fr.refl _ _).alloc _).trans fq⟩
  · rw [decide_eq_false h3] at ct
    go_enter Try.func9, Try.ntmps9
    go_wp2_with (first
    | (refine wp_region_text (id := 6) [0, 0, 0, 1, 0, 0, 1, 0, 0, 0, 1] Any Try.mixed (by kernel_rfl) trivial ?_)
    | (refine wp_region_text (id := 8) [0, 0, 0, 1, 0, 0] Any Try.mixed (by kernel_rfl) trivial ?_)
    | (refine wpT_0 (fun K hK => ?_); go_simp; refine hK _ ?_; clear hK K)
    | (refine wpT_1 (fun K hK => ?_); go_simp; refine hK _ ?_; clear hK K)
    | (refine wpT_tail (by rfl) ?_)
    | (refine wpT_2A (fun _ _ => ?_); rw [if_pos (by rfl)])
    | (refine wpT_nil ?_)
    | (go_at_call 22; (with_reducible refine Calls.mono (ct _) ?_); rintro e w' ⟨rfl, hq⟩; subst w'))
    exact hR.out _ _ ⟨rfl, (Fr.refl _ _).alloc _⟩

set_option maxHeartbeats 800000 in
theorem settle_nil (now dest e s m : Int) (u : Bool) (w : World) :
    (Calls Try.prog 9 #[.pointer none, .int .i64 now, .int .i64 dest, .agg #[.int .u32 e, .int .u32 s, .int .i64 m], .bool u] w fun en w' => en = .returned (.int .i64 2) ∧ Fr [] w w') ∧
    (Calls Try.prog 12 #[.pointer none, .int .i64 now] w fun en w' => en = .returned (.tuple #[.bool false, .slice none 0 0]) ∧ Fr [] w w') ∧
    (Calls Try.prog 13 #[.pointer none] w fun en w' => en = .returned (.slice none 0 0) ∧ Fr [] w w') ∧
    (Calls Try.prog 20 #[.pointer none] w fun en w' => en = .returned (.tuple #[.int .i64 0, .bool false]) ∧ Fr [] w w') := by
  refine ⟨?_, ?_, ?_, ?_⟩
  · refine calls_cps fun R hR => ?_
    go_enter Try.func9, Try.ntmps9
    go_wp2_with (first
    | (refine wp_region_text (id := 6) [0, 0, 0, 1, 0, 0, 1, 0, 0, 0, 1] Any Try.mixed (by kernel_rfl) trivial ?_)
    | (refine wp_region_text (id := 8) [0, 0, 0, 1, 0, 0] Any Try.mixed (by kernel_rfl) trivial ?_)
    | (refine wpT_0 (fun K hK => ?_); go_simp; refine hK _ ?_; clear hK K)
    | (refine wpT_1 (fun K hK => ?_); go_simp; refine hK _ ?_; clear hK K)
    | (refine wpT_tail (by rfl) ?_)
    | (refine wpT_2A (fun _ _ => ?_); rw [if_pos (by rfl)])
    | (refine wpT_nil ?_))
    exact hR.out _ _ ⟨rfl, (Fr.refl _ _).alloc _⟩
  · refine calls_cps fun R hR => ?_
    go_enter Try.func12, Try.ntmps12
    go_wp2_with (first
    | (refine wp_region_text (id := 3) [0, 0, 0, 1, 0, 0, 0, 0, 0, 0, 1, 0, 0, 0, 0, 0, 1] Any Try.mixed (by kernel_rfl) trivial ?_)
    | (refine wp_region_text (id := 8) [0, 0, 0, 0, 0, 0, 0, 0, 2, 0, 0] Any Try.mixed (by kernel_rfl) trivial ?_)
    | (refine wp_region_text (id := 15) [0, 0, 0, 0, 0, 0, 0, 0, 2, 0, 0] Any Try.mixed (by kernel_rfl) trivial ?_)
    | (refine wpT_0 (fun K hK => ?_); go_simp; refine hK _ ?_; clear hK K)
    | (refine wpT_1 (fun K hK => ?_); go_simp; refine hK _ ?_; clear hK K)
    | (refine wpT_tail (by rfl) ?_)
    | (refine wpT_2A (fun _ _ => ?_); rw [if_pos (by rfl)])
    | (refine wpT_nil ?_))
    exact hR.out _ _ ⟨rfl, (Fr.refl _ _)⟩
  · refine calls_cps fun R hR => ?_
    go_enter Try.func13, Try.ntmps13
    go_wp2_with fail
    exact hR.out _ _ ⟨rfl, (Fr.refl _ _)⟩
  · refine calls_cps fun R hR => ?_
    go_enter Try.func20, Try.ntmps20
    go_wp2_with (first
    | (refine wp_region_text (id := 3) [0, 0, 0, 1, 0, 0, 0, 0, 1] Any Try.mixed (by kernel_rfl) trivial ?_)
    | (refine wp_region_text (id := 10) [0, 0, 1, 0, 0, 0, 0, 1] Any Try.mixed (by kernel_rfl) trivial ?_)
    | (refine wpT_0 (fun K hK => ?_); go_simp; refine hK _ ?_; clear hK K)
    | (refine wpT_1 (fun K hK => ?_); go_simp; refine hK _ ?_; clear hK K)
    | (refine wpT_tail (by rfl) ?_)
    | (refine wpT_2A (fun _ _ => ?_); rw [if_pos (by rfl)])
    | (refine wpT_nil ?_))
    exact hR.out _ _ ⟨rfl, (Fr.refl _ _)⟩

def settledB (p : PlanS) (now : Int) (n : NewsS) : Bool := n.waits && (n.urgent || decide (p.settle ≤ now - n.first))
set_option maxHeartbeats 800000 in
theorem settle_settled (g : Nat) (p : PlanS) (now : Int) (n : NewsS) (w : World) (h : Has w g 72 p.cs) (ht : 0 ≤ now ∧ now ≤ 1099511627776) (hn : n.ok) :
    Calls Try.prog 25 #[.pointer (some ⟨g, 0, none⟩), .int .i64 now, .agg #[.int .u32 n.epoch, .int .u32 n.seq, .int .i64 n.metric, .bool n.any, .int .i64 n.first, .bool n.waits, .bool n.urgent]] w fun en w' =>
      en = .returned (.bool (settledB p now n)) ∧ Fr [] w w' := by
  obtain ⟨a0, a1, a2, a3⟩ := plan_head p
  have hc := h.cell
  have hlt := h.lt
  have hne1 : ¬ w.heap.size = g := by omega
  have hne2 : ¬ g = w.heap.size := by omega
  obtain ⟨t0, t1⟩ := ht
  obtain ⟨f0, f1⟩ := hn
  obtain ⟨epoch, seq, metric, any, first, waits, urgent⟩ := n
  simp only at f0 f1
  refine calls_cps fun R hR => ?_
  cases waits
  · simp only [settledB, Bool.false_and] at hR
    go_enter Try.func25, Try.ntmps25
    go_wp2_with (first
    | (refine wp_region_text (id := 1) [0, 1, 0, 0, 1, 0, 0, 0, 1, 0, 0, 0, 0, 0, 1] Any Try.mixed (by kernel_rfl) trivial ?_)
    | (refine wpT_0 (fun K hK => ?_); go_simp; refine hK _ ?_; clear hK K)
    | (refine wpT_1 (fun K hK => ?_); go_simp; refine hK _ ?_; clear hK K)
    | (refine wpT_tail (by rfl) ?_)
    | (refine wpT_2A (fun _ _ => ?_); rw [if_pos (by rfl)])
    | (refine wpT_nil ?_))
    exact hR.out _ _ ⟨rfl, by repeat (first | with_reducible exact Fr.refl _ _ | with_reducible apply Fr.drew | with_reducible apply Fr.alloc | with_reducible refine Fr.set ?_ (Or.inl (by simp)) _)⟩
  cases urgent
  · simp only [settledB, Bool.true_and, Bool.false_or] at hR
    go_enter Try.func25, Try.ntmps25
    go_wp2_with (first
    | (refine wp_region_text (id := 1) [0, 1, 0, 0, 1, 0, 0, 0, 1, 0, 0, 0, 0, 0, 1] Any Try.mixed (by kernel_rfl) trivial ?_)
    | (refine wpT_0 (fun K hK => ?_); go_simp; refine hK _ ?_; clear hK K)
    | (refine wpT_1 (fun K hK => ?_); go_simp; refine hK _ ?_; clear hK K)
    | (refine wpT_tail (by rfl) ?_)
    | (refine wpT_2A (fun _ _ => ?_); rw [if_pos (by rfl)])
    | (refine wpT_nil ?_))
    exact hR.out _ _ ⟨rfl, by repeat (first | with_reducible exact Fr.refl _ _ | with_reducible apply Fr.drew | with_reducible apply Fr.alloc | with_reducible refine Fr.set ?_ (Or.inl (by simp)) _)⟩
  · simp only [settledB, Bool.true_and, Bool.true_or] at hR
    go_enter Try.func25, Try.ntmps25
    go_wp2_with (first
    | (refine wp_region_text (id := 1) [0, 1, 0, 0, 1, 0, 0, 0, 1, 0, 0, 0, 0, 0, 1] Any Try.mixed (by kernel_rfl) trivial ?_)
    | (refine wpT_0 (fun K hK => ?_); go_simp; refine hK _ ?_; clear hK K)
    | (refine wpT_1 (fun K hK => ?_); go_simp; refine hK _ ?_; clear hK K)
    | (refine wpT_tail (by rfl) ?_)
    | (refine wpT_2A (fun _ _ => ?_); rw [if_pos (by rfl)])
    | (refine wpT_nil ?_))
    exact hR.out _ _ ⟨rfl, by repeat (first | with_reducible exact Fr.refl _ _ | with_reducible apply Fr.drew | with_reducible apply Fr.alloc | with_reducible refine Fr.set ?_ (Or.inl (by simp)) _)⟩
end Go.Proofs.Ytonbjealgdmngaa
