/- THE WALKS of the laws on tolls: the document's example; a nil toll; the most. -/
import Derived.Test.YthbocbbbdjmfpaaRef17
namespace Go.Proofs.Ythbocbbbdjmfpaa
open Go.RowKit Go.Fp

theorem toll_Frame' {g : Nat} {s s' : TollS} {n r : Int} {w : World} (he : frameF s n = (r, s')) (hs : s.ok) (h : Has w g 51 s.cs) :
    Calls Try.prog 16 #[.pointer (some ⟨g, 0, none⟩), .int .i64 n] w fun e w' => e = .returned (.int .i64 r) ∧ Has w' g 51 s'.cs ∧ Fr [g] w w' := by
  have := toll_Frame g s n w hs h; rwa [he] at this
theorem toll_Tick' {g : Nat} {s s' : TollS} {n r : Int} {w : World} (he : tickF s n = (r, s')) (hs : s.ok) (h : Has w g 51 s.cs) :
    Calls Try.prog 14 #[.pointer (some ⟨g, 0, none⟩), .int .i64 n] w fun e w' => e = .returned (.int .i64 r) ∧ Has w' g 51 s'.cs ∧ Fr [g] w w' := by
  have := toll_Tick g s n w hs h; rwa [he] at this
theorem toll_Hold' {g : Nat} {s s' : TollS} {n r : Int} {w : World} (he : holdF s n = (r, s')) (hs : s.ok) (h : Has w g 51 s.cs) :
    Calls Try.prog 18 #[.pointer (some ⟨g, 0, none⟩), .int .i64 n] w fun e w' => e = .returned (.int .i64 r) ∧ Has w' g 51 s'.cs ∧ Fr [g] w w' := by
  have := toll_Hold g s n w hs h; rwa [he] at this
theorem toll_Settle' {g : Nat} {s s' : TollS} {n r : Int} {w : World} (he : settleF s n = (r, s')) (hs : s.ok) (h : Has w g 51 s.cs) :
    Calls Try.prog 20 #[.pointer (some ⟨g, 0, none⟩), .int .i64 n] w fun e w' => e = .returned (.int .i64 r) ∧ Has w' g 51 s'.cs ∧ Fr [g] w w' := by
  have := toll_Settle g s n w hs h; rwa [he] at this

theorem tick_ok {s : TollS} {n : Int} (h : s.ok) : (tickF s n).2.ok := by
  unfold tickF
  split
  · exact h
  · rename_i hn
    unfold TollS.ok RatesS.ok at h ⊢
    have h1 := fill_in (a := s.fr) (b := s.r.ft) (c := s.r.f) (d := n) (by omega) (by omega) (by omega)
    have h2 := fill_in (a := s.bl) (b := s.r.bt) (c := s.r.b) (d := n) (by omega) (by omega) (by omega)
    exact ⟨h.1, h1.1, h1.2.1, h2.1, h.2.2.2.2.1, h2.2.1, h.2.2.2.2.2.2⟩
theorem frame_ok {s : TollS} {n : Int} (h : s.ok) : (frameF s n).2.ok := by
  unfold frameF TollS.ok RatesS.ok at *
  repeat' split
  all_goals (simp only; omega)
theorem hold_ok {s : TollS} {n : Int} (h : s.ok) (h2 : s.ow ≤ 1152921503533105152) : (holdF s n).2.ok := by
  unfold holdF TollS.ok RatesS.ok at *
  repeat' split
  all_goals (simp only; omega)
theorem settle_ok {s : TollS} {n : Int} (h : s.ok) : (settleF s n).2.ok := by
  unfold settleF TollS.ok RatesS.ok at *
  repeat' split
  all_goals (simp only; omega)

def aw (a b c : Int) : TollS := ⟨⟨2, 1, 10, 3⟩, a, b, c⟩

set_option maxHeartbeats 1000000 in
theorem law17_awake (w : World) :
    Calls Try.prog 11 #[] w fun e w' => e = .returned (.bool true) ∧ Fr [] w w' := by
  refine calls_cps fun R hR => ?_
  go_enter Try.func11, Try.ntmps11
  go_wp2_with (first
    | (go_at_call 7; refine (toll_New_ok ⟨2, 1, 10, 3⟩ _ (by simp [RatesS.ok])).mono ?_; rintro e w1 ⟨g, rfl, hg, h0, f0⟩)
    | (go_at_call 16; refine (toll_Frame' (s := aw 2 10 0) (s' := aw 1 6 0) (by rfl) (by simp [TollS.ok, RatesS.ok, aw]) (by assumption)).mono ?_; rintro e w2 ⟨rfl, h1, f1⟩)
    | (go_at_call 16; refine (toll_Frame' (s := aw 1 6 0) (s' := aw 0 2 0) (by rfl) (by simp [TollS.ok, RatesS.ok, aw]) (by assumption)).mono ?_; rintro e w3 ⟨rfl, h2, f2⟩)
    | (go_at_call 16; refine (toll_Frame' (s := aw 0 2 0) (s' := aw 0 2 0) (by rfl) (by simp [TollS.ok, RatesS.ok, aw]) (by assumption)).mono ?_; rintro e w4 ⟨rfl, h3, f3⟩)
    | (go_at_call 14; refine (toll_Tick' (s := aw 0 2 0) (s' := aw 1 5 0) (by rfl) (by simp [TollS.ok, RatesS.ok, aw]) (by assumption)).mono ?_; rintro e w5 ⟨rfl, h4, f4⟩)
    | (go_at_call 18; refine (toll_Hold' (s := aw 1 5 0) (s' := aw 1 0 5) (by rfl) (by simp [TollS.ok, RatesS.ok, aw]) (by assumption)).mono ?_; rintro e w6 ⟨rfl, h5, f5⟩)
    | (go_at_call 20; refine (toll_Settle' (s := aw 1 0 5) (s' := aw 1 3 0) (by rfl) (by simp [TollS.ok, RatesS.ok, aw]) (by assumption)).mono ?_; rintro e w7 ⟨rfl, h6, f6⟩)
    | (go_at_call 21; refine (toll_Left _ (aw 1 3 0) _ (by assumption)).mono ?_; rintro e w8 ⟨rfl, f7⟩; simp only [aw]))
  have hs : ∀ x, x ∈ [g] → x ∈ [] ∨ w.heap.size ≤ x := fun x hx => by simp at hx; subst hx; exact .inr hg
  exact hR.out _ _ ⟨rfl, (((((((f0.step f1 hs).step f2 hs).step f3 hs).step f4 hs).step f5 hs).step f6 hs).trans f7)⟩

set_option maxHeartbeats 1000000 in
theorem law17_Nil (n : Int) (w : World) :
    Calls Try.prog 4 #[.int .i64 n] w fun e w' => e = .returned (.bool true) ∧ Fr [] w w' := by
  refine calls_cps fun R hR => ?_
  go_enter Try.func4, Try.ntmps4
  go_wp2_with (first
    | (go_at_call 11; refine (law17_awake _).mono ?_; rintro e w1 ⟨rfl, f1⟩)
    | (go_at_call 21; refine ((toll_nil n _).2.2.2.2).mono ?_; rintro e w2 ⟨rfl, rfl⟩)
    | (go_at_call 14; refine ((toll_nil n _).1).mono ?_; rintro e w2 ⟨rfl, rfl⟩)
    | (go_at_call 16; refine ((toll_nil n _).2.1).mono ?_; rintro e w2 ⟨rfl, rfl⟩)
    | (go_at_call 18; refine ((toll_nil n _).2.2.1).mono ?_; rintro e w2 ⟨rfl, rfl⟩)
    | (go_at_call 20; refine ((toll_nil n _).2.2.2.1).mono ?_; rintro e w2 ⟨rfl, rfl⟩))
  exact hR.out _ _ ⟨rfl, f1⟩

set_option maxHeartbeats 1000000 in
theorem law17_Most (r : RatesS) (t : Int) (w : World) :
    Calls Try.prog 6 #[r.v, .int .i64 t] w fun e w' => e = .returned (.bool true) ∧ Fr [] w w' := by
  refine calls_cps fun R hR => ?_
  obtain ⟨v, c1, c2⟩ : ∃ v, (∀ w, Calls Try.prog 22 #[r.v, .int .i64 t] w fun e w' => e = .returned (.int .i64 v) ∧ Fr [] w w') ∧
      (∀ w, Calls Try.prog 23 #[r.v, .int .i64 t] w fun e w' => e = .returned (.int .i64 v) ∧ Fr [] w w') := by
    by_cases h : r.ok ∧ 0 ≤ t ∧ t ≤ 1073741824
    · exact ⟨_, fun w => toll_Most_ok r t w h.1 h.2.1 h.2.2, fun w => ref17_Most_ok r t w h.1 h.2.1 h.2.2⟩
    · exact ⟨_, fun w => toll_Most_no r t w h, fun w => ref17_Most_no r t w h⟩
  have c3 := law17_To r
  obtain ⟨f, ft, b, bt⟩ := r
  simp only [RatesS.v, RatesS.cs] at c1 c2 c3 ⊢
  go_enter Try.func6, Try.ntmps6
  go_wp2_with (first
    | (refine wp_region_text (id := 1) [2, 0, 0, 2, 0, 2, 0, 0, 2, 0, 0, 0] (Fr [] _) Try.mixed (by kernel_rfl) (Fr.refl _ _) ?_)
    | (refine wpT_0 (fun K hK => ?_); go_simp; refine hK _ ?_; clear hK K)
    | (refine wpT_1 (fun K hK => ?_); go_simp; refine hK _ ?_; clear hK K)
    | (refine wpT_tail (by rfl) ?_)
    | (refine wpT_2A (fun _ _ => ?_); rw [if_pos (by rfl)])
    | (refine wpT_nil ?_)
    | (refine wpT_2 (fun _ _ => ?_); rw [if_pos (by rfl)])
    | (refine And.intro (by first | assumption | exact Fr.refl _ _ | exact Fr.trans (by assumption) (by assumption) | exact Fr.trans (Fr.trans (by assumption) (by assumption)) (by assumption) | exact Fr.trans (Fr.trans (Fr.trans (by assumption) (by assumption)) (by assumption)) (by assumption)) ?_)
    | (refine wpT_S (fun K hK => ?_); rw [if_pos (by rfl)]; refine ⟨.agg #[.int .i64 f, .int .i64 ft, .int .i64 b, .int .i64 bt], ?_, hK _ ?_⟩; (focus (intro w' hS; have hc := ((hS.has0 (Has.new w _ _).drew).cell); go_simp)); clear hK K)
    | (go_at_call 11; refine (law17_awake _).mono ?_; rintro e w1 ⟨rfl, f1⟩)
    | (go_at_call 22; refine (c1 _).mono ?_; rintro e w2 ⟨rfl, f2⟩)
    | (go_at_call 23; refine (c2 _).mono ?_; rintro e w3 ⟨rfl, f3⟩)
    | (go_at_call 8; refine (c3 _).mono ?_; rintro e w4 ⟨rfl, f4⟩))
  exact hR.out _ _ ⟨rfl, (((((Fr.refl _ _).alloc _).drew.trans f1).trans f4).trans f2).trans f3⟩
end Go.Proofs.Ythbocbbbdjmfpaa
