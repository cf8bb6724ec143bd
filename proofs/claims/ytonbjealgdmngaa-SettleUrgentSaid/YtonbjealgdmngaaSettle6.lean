/- THE WALKS of package settle: Next. -/
import Derived.Test.YtonbjealgdmngaaSettle5
namespace Go.Proofs.Ytonbjealgdmngaa
open Go.RowKit Go.Fp

def nextP (p : PlanS) : Int := if p.any then nextTo p 8 else 0
def NextRel (p : PlanS) (w : World) (s4 s32 : Value) (wr : World) : Prop :=
  ∃ k : Nat, k ≤ 8 ∧ s32 = .int .i64 k ∧ s4 = .int .i64 (nextTo p k) ∧ Fr [] w wr

set_option maxHeartbeats 1600000 in
theorem settle_Next (g : Nat) (p : PlanS) (w : World) (h : Has w g 72 p.cs) (hp : p.ok) :
    Calls Try.prog 20 #[.pointer (some ⟨g, 0, none⟩)] w fun en w' => en = .returned (.tuple #[.int .i64 (nextP p), .bool true]) ∧ Fr [] w w' := by
  obtain ⟨a0, a1, a2, a3⟩ := plan_head p
  have hc := h.cell
  have hrow := fun (k : Nat) (hk : k < 8) => run_index_rows (k := k) (P := Try.prog) (t := 70) (e := 69) (n := 8) (f := p.rw) (m := 7) Try.underlying70 Try.underlying69 rfl (by kernel_rfl) (fun _ => rfl) hk
  have hrng := h.range 4 (rows p.rw 8) (fun j hj => by
    unfold PlanS.cs planA
    rw [List.getElem?_toArray, List.getElem?_append_right (by simp [PlanS.hd])]
    congr 1; simp [PlanS.hd])
  have hlen : (Try.prog.info? 70).map (·.size) = some (rows p.rw 8).length := by rw [rows_length (m := 7) (fun _ => rfl)]; kernel_rfl
  have HR1 := Fp.hid hrng
  have HR2 := Fp.hid hlen
  obtain ⟨RW, hRW⟩ : ∃ RW, RW = rows p.rw 8 := ⟨_, rfl⟩
  rw [← hRW] at hrow HR1 HR2
  clear hrng hlen hRW
  have HP := Fp.hid hp
  obtain ⟨p0, p1, s0, s1, l0, l1, hok⟩ := hp
  have hsum : IntKind.i64.wrap (p.last + p.period) = p.last + p.period := IntWalk.i64_in _ (by omega)
  cases ha : p.any
  · rw [ha] at a3
    simp only [nextP, ha]
    clear ha hok hrow
    refine calls_cps fun R hR => ?_
    go_enter Try.func20, Try.ntmps20
    go_wp2_with (first
    | (refine wp_region_text (id := 3) [0, 0, 0, 1, 0, 0, 0, 0, 1] Any Try.mixed (by kernel_rfl) trivial ?_)
    | (refine wp_region_text (id := 10) [0, 0, 1, 0, 0, 0, 0, 1] Any Try.mixed (by kernel_rfl) trivial ?_)
    | (refine wpT_0 (fun K hK => ?_); go_simp; refine hK _ ?_; clear hK K)
    | (refine wpT_1 (fun K hK => ?_); go_simp; refine hK _ ?_; clear hK K)
    | (refine wpT_tail (by rfl) ?_)
    | (refine wpT_2A (fun _ _ => ?_); rw [if_pos (by rfl)])
    | (refine wpT_nil ?_))
    exact hR.out _ _ ⟨rfl, by repeat (first | with_reducible exact Fr.refl _ _ | with_reducible apply Fr.drew | with_reducible apply Fr.alloc | with_reducible refine Fr.set ?_ (Or.inl (by simp)) _)⟩
  · rw [ha] at a3
    simp only [nextP, ha]
    clear ha hok
    refine calls_cps fun R hR => ?_
    go_enter Try.func20, Try.ntmps20
    go_wp2_with (first
    | (refine wp_region_text (id := 3) [0, 0, 0, 1, 0, 0, 0, 0, 1] Any Try.mixed (by kernel_rfl) trivial ?_)
    | (refine wp_region_text (id := 10) [0, 0, 1, 0, 0, 0, 0, 1] Any Try.mixed (by kernel_rfl) trivial ?_)
    | (refine wpT_0 (fun K hK => ?_); go_simp; refine hK _ ?_; clear hK K)
    | (refine wpT_1 (fun K hK => ?_); go_simp; refine hK _ ?_; clear hK K)
    | (refine wpT_tail (by rfl) ?_)
    | (refine wpT_2A (fun _ _ => ?_); rw [if_pos (by rfl)])
    | (refine wpT_nil ?_)
    | (refine wpList_load_mid rfl 70 (.tmp 30) rfl g 4 rfl RW _ ?_ Try.underlying70 rfl HR2.out ?_; (focus exact HR1.out)))
    clear HR1 HR2 hsum hc
    go_loopw [4, 32] (NextRel p w) (fun _ i _ => 8 - (intOf i).toNat)
    case atStart => exact ⟨0, by omega, rfl, rfl, by repeat (first | with_reducible exact Fr.refl _ _ | with_reducible apply Fr.drew | with_reducible apply Fr.alloc | with_reducible refine Fr.set ?_ (Or.inl (by simp)) _)⟩
    case round =>
      obtain ⟨k, hk, rfl, rfl, hF⟩ := hrel
      by_cases hlt8 : k < 8
      · have hix : ∀ w, (Instr.index 70 (.agg RW.toArray) (.int .i64 k)).run Try.prog w = .ok (.agg #[.int .u32 (p.l k).epoch, .int .u32 (p.l k).seq, .int .i64 (p.l k).metric, .bool (p.l k).any, .int .i64 (p.l k).first, .bool (p.l k).waits, .bool (p.l k).urgent]) w := hrow k hlt8
        clear hrow
        have f0 := (HP.out.ok k).f0
        have f1 := (HP.out.ok k).f1
        have hsum : IntKind.i64.wrap ((p.l k).first + p.settle) = (p.l k).first + p.settle := IntWalk.i64_in _ (by omega)
        have HN := Fp.hid (show nextTo p (k + 1) = if (p.l k).waits then min (nextTo p k) (whenN p (p.l k)) else nextTo p k from rfl)
        have hH := hF.has0 h
        have hlt := hH.lt
        have hc := hH.cell
        have hne1 : ¬ wr.heap.size = g := by omega
        have hne2 : ¬ g = wr.heap.size := by omega
        generalize nextTo p k = at0 at HN ⊢
        obtain ⟨wt, HW⟩ : ∃ wt, Hid (wt = (p.l k).waits) := ⟨_, rfl⟩
        obtain ⟨ur, HU⟩ : ∃ ur, Hid (ur = (p.l k).urgent) := ⟨_, rfl⟩
        rw [← HW.out, ← HU.out] at hix
        cases wt
        case' true => cases ur
        all_goals
          go_wp2_with (first
    | (refine wp_region_text (id := 3) [0, 0, 0, 1, 0, 0, 0, 0, 1] Any Try.mixed (by kernel_rfl) trivial ?_)
    | (refine wp_region_text (id := 10) [0, 0, 1, 0, 0, 0, 0, 1] Any Try.mixed (by kernel_rfl) trivial ?_)
    | (refine wpT_0 (fun K hK => ?_); go_simp; refine hK _ ?_; clear hK K)
    | (refine wpT_1 (fun K hK => ?_); go_simp; refine hK _ ?_; clear hK K)
    | (refine wpT_tail (by rfl) ?_)
    | (refine wpT_2A (fun _ _ => ?_); rw [if_pos (by rfl)])
    | (refine wpT_nil ?_))
        all_goals
          refine ⟨⟨k + 1, by omega, by go_num, ?_, hF.trans (by repeat (first | with_reducible exact Fr.refl _ _ | with_reducible apply Fr.drew | with_reducible apply Fr.alloc | with_reducible refine Fr.set ?_ (Or.inl (by simp)) _))⟩, by simp only [intOf]; omega⟩
          rw [HN.out, ← HW.out]
          simp only [whenN, ← HU.out]
          first | rfl | (simp; done) | (simp only [if_true, if_false, Bool.false_eq_true]; congr 1; (try split) <;> omega)
      · obtain rfl : k = 8 := by omega
        clear hrow
        go_wp2_with (first
    | (refine wp_region_text (id := 3) [0, 0, 0, 1, 0, 0, 0, 0, 1] Any Try.mixed (by kernel_rfl) trivial ?_)
    | (refine wp_region_text (id := 10) [0, 0, 1, 0, 0, 0, 0, 1] Any Try.mixed (by kernel_rfl) trivial ?_)
    | (refine wpT_0 (fun K hK => ?_); go_simp; refine hK _ ?_; clear hK K)
    | (refine wpT_1 (fun K hK => ?_); go_simp; refine hK _ ?_; clear hK K)
    | (refine wpT_tail (by rfl) ?_)
    | (refine wpT_2A (fun _ _ => ?_); rw [if_pos (by rfl)])
    | (refine wpT_nil ?_))
        exact hR.out _ _ ⟨rfl, hF⟩
end Go.Proofs.Ytonbjealgdmngaa
