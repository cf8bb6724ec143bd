/- NOTE -/
import Derived.Test.YtonbjealgdmngaaSettle1
namespace Go.Proofs.Ytonbjealgdmngaa
open Go.RowKit Go.Fp
set_option maxHeartbeats 1600000 in
theorem settle_Note (g : Nat) (p : PlanS) (now : Int) (d : Nat) (e s m : Int) (u : Bool) (w : World) (h : Has w g 72 p.cs) (hd : d < 8) (ht : 0 ≤ now ∧ now ≤ 1099511627776) (hk : kRight e s m = true) :
    Calls Try.prog 9 #[.pointer (some ⟨g, 0, none⟩), .int .i64 now, .int .i64 d, .agg #[.int .u32 e, .int .u32 s, .int .i64 m], .bool u] w fun en w' =>
      en = .returned (.int .i64 0) ∧ Has w' g 72 (noteS p now d e s m u).cs ∧ Fr [g] w w' := by
  have ct := settle_time now
  have cr := rank_Right e s m
  rw [decide_eq_true ht] at ct
  rw [hk] at cr
  obtain ⟨a0, a1, a2, a3, a4, a5, a6⟩ := plan_row p hd
  have cn := rank_Newer e s m (p.l d).epoch (p.l d).seq (p.l d).metric
  have hlt := h.lt
  have hne1 : ¬ w.heap.size = g := by omega
  have hne2 : ¬ g = w.heap.size := by omega
  have hH := h
  have hc := h.cell
  have hz := h.froz
  have hd1 : decide ((d : Int) < 0) = false := decide_eq_false (by omega)
  have hd2 : decide (8 ≤ (d : Int)) = false := decide_eq_false (by omega)
  refine calls_cps fun R hR => ?_
  obtain ⟨an, HA⟩ : ∃ an, Hid (an = (p.l d).any) := ⟨_, rfl⟩
  obtain ⟨nw, HN⟩ : ∃ nw, Hid (nw = kNewer e s (p.l d).epoch (p.l d).seq) := ⟨_, rfl⟩
  obtain ⟨ur, HU⟩ : ∃ ur, Hid (ur = (p.l d).urgent) := ⟨_, rfl⟩
  rw [← HA.out] at a3
  rw [← HU.out] at a6
  rw [← HN.out] at cn
  have HCN := Fp.hid cn
  clear cn
  have hC : (an = false ∨ nw = true) ∨ (an = true ∧ nw = false) := by cases an <;> cases nw <;> simp
  rcases hC with hC | ⟨rfl, rfl⟩
  · have hnew : (!(p.l d).any || kNewer e s (p.l d).epoch (p.l d).seq) = true := by rw [← HA.out, ← HN.out]; rcases hC with rfl | rfl <;> simp
    have HNEW := Fp.hid hnew
    clear hnew
    cases an
    case' true => obtain rfl : nw = true := by simpa using hC
    all_goals
      clear hC
      go_enter Try.func9, Try.ntmps9
      go_wp2_with (first
    | (refine wp_region_text (id := 6) [0, 0, 0, 1, 0, 0, 1, 0, 0, 0, 1] Any Try.mixed (by kernel_rfl) trivial ?_)
    | ((refine wp_region_text (id := 8) [0, 0, 0, 0, 0, 0, 2, 0, 0, 2, 0, 0, 2] (Fr [g] w1) Try.mixed (by kernel_rfl) ?_ ?_); (focus (repeat (first | with_reducible exact Fr.refl _ _ | with_reducible exact Fr.drew0 _ _ | with_reducible apply Fr.drew | with_reducible apply Fr.alloc | with_reducible refine Fr.set ?_ (Or.inl (by simp)) _))))
    | (refine wpT_0 (fun K hK => ?_); go_simp; refine hK _ ?_; clear hK K)
    | (refine wpT_1 (fun K hK => ?_); go_simp; refine hK _ ?_; clear hK K)
    | (refine wpT_tail (by rfl) ?_)
    | (refine wpT_2A (fun _ _ => ?_); rw [if_pos (by rfl)])
    | (refine wpT_nil ?_)
    | (refine wpT_2 (fun _ _ => ?_); rw [if_pos (by rfl)])
    | ((with_reducible refine And.intro (a := Fr _ _ _) ?_ ?_); focus (first | with_reducible assumption | ((repeat (first | with_reducible exact Fr.refl _ _ | with_reducible exact Fr.drew0 _ _ | with_reducible assumption | with_reducible apply Fr.drew | with_reducible apply Fr.alloc | with_reducible refine Fr.set ?_ (Or.inl (by simp)) _)); done) | with_reducible exact Fr.trans (by assumption) (by assumption) | with_reducible exact Fr.trans (Fr.trans (by assumption) (by assumption)) (by assumption) | with_reducible exact Fr.trans (Fr.trans (Fr.trans (by assumption) (by assumption)) (by assumption)) (by assumption)))
    | (refine wpT_S (fun K hK => ?_); rw [if_pos (by rfl)]; refine ⟨.agg #[.int .u32 e, .int .u32 s, .int .i64 m], ?_, hK _ ?_⟩; (focus (intro w' hS; have hc := ((hS.has hB0 (by simpa using hne1)).cell); go_simp; done)); clear hK K)
    | (go_at_call 22; (with_reducible refine Calls.mono (ct _) ?_); rintro e w' ⟨rfl, hq⟩; subst w')
    | (go_at_call 23; (with_reducible refine Calls.mono (cr _) ?_); rintro e1 w1 ⟨rfl, fq⟩; have hF : Fr [] w w1 := ((Fr.refl _ _).alloc _).trans fq; clear hc hz; replace hH := fq.has0 (h.alloc _); have hB0 := (fq.has0 (Has.new w _ _)); clear fq; have hc := hH.cell; have hz := hH.froz; have hk0 := hB0.cell)
    | (go_at_call 24; (with_reducible refine Calls.mono (HCN.out _) ?_); rintro e2 w1 ⟨rfl, fq2⟩; clear hc hz hk0; replace hF := hF.drew.trans fq2; replace hH := fq2.has0 hH.drew; replace hB0 := fq2.has0 hB0.drew; clear fq2; have hc := hH.cell; have hz := hH.froz; have hk0 := hB0.cell))
      all_goals
        refine hR.out _ _ ⟨rfl, ?_, hF.weaken (fun _ h => by simp at h) |>.trans (by repeat (first | with_reducible exact Fr.refl _ _ | with_reducible apply Fr.drew | with_reducible apply Fr.alloc | with_reducible refine Fr.set ?_ (Or.inl (by simp)) _))⟩
        (repeat (with_reducible apply Has.drew))
        (with_reducible refine Has.eq (((((((hH.set _ _).set _ _).set _ _).set _ _).set _ _).set _ _).set _ _) ?_)
        (with_reducible refine (note_cs1 p hd now e s m _).trans (noteS_new p now d e s m u _ HNEW.out ?_))
        rw [← HU.out]; first | rfl | (rw [show ur = true from ‹_›]; simp; done) | (rw [show ur = false from by simpa using ‹¬ ur = true›]; simp; done)
  · have hold : (!(p.l d).any || kNewer e s (p.l d).epoch (p.l d).seq) = false := by rw [← HA.out, ← HN.out]; rfl
    have HOLD := Fp.hid hold
    clear hold
    go_enter Try.func9, Try.ntmps9
    go_wp2_with (first
    | (refine wp_region_text (id := 6) [0, 0, 0, 1, 0, 0, 1, 0, 0, 0, 1] Any Try.mixed (by kernel_rfl) trivial ?_)
    | ((refine wp_region_text (id := 8) [0, 0, 0, 0, 0, 0, 2, 0, 0, 2, 0, 0, 2] (Fr [g] w1) Try.mixed (by kernel_rfl) ?_ ?_); (focus (repeat (first | with_reducible exact Fr.refl _ _ | with_reducible exact Fr.drew0 _ _ | with_reducible apply Fr.drew | with_reducible apply Fr.alloc | with_reducible refine Fr.set ?_ (Or.inl (by simp)) _))))
    | (refine wpT_0 (fun K hK => ?_); go_simp; refine hK _ ?_; clear hK K)
    | (refine wpT_1 (fun K hK => ?_); go_simp; refine hK _ ?_; clear hK K)
    | (refine wpT_tail (by rfl) ?_)
    | (refine wpT_2A (fun _ _ => ?_); rw [if_pos (by rfl)])
    | (refine wpT_nil ?_)
    | (refine wpT_2 (fun _ _ => ?_); rw [if_pos (by rfl)])
    | ((with_reducible refine And.intro (a := Fr _ _ _) ?_ ?_); focus (first | with_reducible assumption | ((repeat (first | with_reducible exact Fr.refl _ _ | with_reducible exact Fr.drew0 _ _ | with_reducible assumption | with_reducible apply Fr.drew | with_reducible apply Fr.alloc | with_reducible refine Fr.set ?_ (Or.inl (by simp)) _)); done) | with_reducible exact Fr.trans (by assumption) (by assumption) | with_reducible exact Fr.trans (Fr.trans (by assumption) (by assumption)) (by assumption) | with_reducible exact Fr.trans (Fr.trans (Fr.trans (by assumption) (by assumption)) (by assumption)) (by assumption)))
    | (refine wpT_S (fun K hK => ?_); rw [if_pos (by rfl)]; refine ⟨.agg #[.int .u32 e, .int .u32 s, .int .i64 m], ?_, hK _ ?_⟩; (focus (intro w' hS; have hc := ((hS.has hB0 (by simpa using hne1)).cell); go_simp; done)); clear hK K)
    | (go_at_call 22; (with_reducible refine Calls.mono (ct _) ?_); rintro e w' ⟨rfl, hq⟩; subst w')
    | (go_at_call 23; (with_reducible refine Calls.mono (cr _) ?_); rintro e1 w1 ⟨rfl, fq⟩; have hF : Fr [] w w1 := ((Fr.refl _ _).alloc _).trans fq; clear hc hz; replace hH := fq.has0 (h.alloc _); have hB0 := (fq.has0 (Has.new w _ _)); clear fq; have hc := hH.cell; have hz := hH.froz; have hk0 := hB0.cell)
    | (go_at_call 24; (with_reducible refine Calls.mono (HCN.out _) ?_); rintro e2 w1 ⟨rfl, fq2⟩; clear hc hz hk0; replace hF := hF.drew.trans fq2; replace hH := fq2.has0 hH.drew; replace hB0 := fq2.has0 hB0.drew; clear fq2; have hc := hH.cell; have hz := hH.froz; have hk0 := hB0.cell))
    all_goals
      refine hR.out _ _ ⟨rfl, ?_, hF.weaken (fun _ h => by simp at h) |>.trans (by repeat (first | with_reducible exact Fr.refl _ _ | with_reducible apply Fr.drew | with_reducible apply Fr.alloc | with_reducible refine Fr.set ?_ (Or.inl (by simp)) _))⟩
      (repeat (with_reducible apply Has.drew))
      (with_reducible refine Has.eq ((((((hH.set _ _).set _ _).set _ _).set _ _).set _ _).set _ _) ?_)
      (with_reducible refine (note_cs p hd e s m _).trans (noteS_old p now d e s m u _ HOLD.out ?_))
      rw [← HU.out]; first | rfl | (rw [show ur = true from ‹_›]; simp; done) | (rw [show ur = false from by simpa using ‹¬ ur = true›]; simp; done)
end Go.Proofs.Ytonbjealgdmngaa
