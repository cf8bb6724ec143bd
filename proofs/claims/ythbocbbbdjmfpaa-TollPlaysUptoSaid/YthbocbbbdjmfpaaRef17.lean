/- THE WALKS of the document's toll. -/
import Derived.Test.YthbocbbbdjmfpaaToll
namespace Go.Proofs.Ythbocbbbdjmfpaa
open Go.RowKit Go.Fp

def moreF (left each most ticks : Int) : Int := if each = 0 then left else if (most - left) / each < ticks then most else left + each * ticks

theorem more_eq {a b c d : Int} (h4 : 0 ≤ b) : moreF a b c d = fillF a b c d := by
  unfold moreF fillF
  by_cases hb : b = 0
  · subst hb; simp
  · have hb' : 0 < b := by omega
    simp only [if_neg hb, if_pos hb']
    by_cases h1 : (c - a) / b < d
    · rw [if_pos h1]
      by_cases h5 : (c - a + b - 1) / b ≤ d
      · rw [if_pos h5]
      · exfalso
        have h7 := fill_mul hb' (Int.not_le.1 h5)
        have h8 := (Int.ediv_lt_iff_lt_mul hb').1 h1
        rw [Int.mul_comm] at h8
        omega
    · rw [if_neg h1]
      have h8 := (Int.le_ediv_iff_mul_le hb').1 (Int.not_lt.1 h1)
      rw [Int.mul_comm] at h8
      by_cases h5 : (c - a + b - 1) / b ≤ d
      · rw [if_pos h5]
        have h9 := (Int.ediv_le_iff_le_mul hb').1 h5
        have : d * b = b * d := Int.mul_comm _ _
        omega
      · rw [if_neg h5]

set_option maxHeartbeats 400000 in
theorem ref17_more (a b c d : Int) (w : World) (h1 : 0 ≤ a) (h2 : a ≤ c) (h3 : c ≤ 1073741824) (h4 : 0 ≤ b) (h5 : b ≤ 1073741824) (h6 : 0 ≤ d) :
    Calls Try.prog 24 #[.int .i64 a, .int .i64 b, .int .i64 c, .int .i64 d] w fun e w' => e = .returned (.int .i64 (fillF a b c d)) ∧ w' = w := by
  rw [← more_eq h4]
  refine calls_cps fun R hR => ?_
  unfold moreF at hR
  by_cases hb : b = 0
  · subst hb
    go_enter Try.func24, Try.ntmps24
    go_wp2
    exact hR.out _ _ ⟨rfl, rfl⟩
  · have hb1 : (b == 0) = false := by simpa using hb
    have hb2 : 0 < b := by omega
    have h0 : 0 ≤ c - a := by omega
    have h9 : (c - a) / b ≤ c - a := Int.ediv_le_self _ h0
    have h10 : 0 ≤ (c - a) / b := Int.ediv_nonneg h0 h4
    rw [if_neg hb] at hR
    clear hb
    by_cases hd : (c - a) / b < d
    · rw [if_pos hd] at hR
      go_enter Try.func24, Try.ntmps24
      go_wp2
      exact hR.out _ _ ⟨rfl, rfl⟩
    · rw [if_neg hd] at hR
      have h8 := (Int.le_ediv_iff_mul_le hb2).1 (Int.not_lt.1 hd)
      rw [Int.mul_comm] at h8
      have h7 : 0 ≤ b * d := Int.mul_nonneg h4 h6
      go_enter Try.func24, Try.ntmps24
      go_wp2
      exact hR.out _ _ ⟨rfl, rfl⟩

set_option maxHeartbeats 400000 in
theorem ref17_Right (r : RatesS) (w : World) :
    Calls Try.prog 10 #[r.v] w fun e w' => ∃ b, e = .returned (.bool b) ∧ (b = true ↔ r.ok) ∧ Fr [] w w' := by
  refine calls_cps fun R hR => ?_
  obtain ⟨f, ft, b, bt⟩ := r
  simp only [RatesS.v, RatesS.cs, RatesS.ok] at hR ⊢
  go_enter Try.func10, Try.ntmps10
  go_wp2
  all_goals
    refine hR.out _ _ ⟨_, rfl, ?_, by repeat (first | exact Fr.refl _ _ | apply Fr.drew | apply Fr.alloc)⟩
    simp only [Bool.false_eq_true, false_iff, decide_eq_true_eq]
    omega

set_option maxHeartbeats 400000 in
theorem ref17_New (r : RatesS) (w : World) :
    Calls Try.prog 12 #[r.v] w fun e w' => e = .returned (.agg (⟨r, r.f, r.b, 0⟩ : TollS).cs) ∧ Fr [] w w' := by
  refine calls_cps fun R hR => ?_
  obtain ⟨f, ft, b, bt⟩ := r
  simp only [RatesS.v, RatesS.cs, TollS.cs] at hR ⊢
  go_enter Try.func12, Try.ntmps12
  go_wp2
  refine bodyPost_ret ?_ rfl (hR.out _ _ ⟨rfl, by repeat (first | exact Fr.refl _ _ | apply Fr.drew | apply Fr.alloc)⟩)
  simp [results, Try.results12, go_sem]

set_option maxHeartbeats 400000 in
theorem ref17_Tick (s : TollS) (n : Int) (w : World) (hs : s.ok) :
    Calls Try.prog 13 #[.agg s.cs, .int .i64 n] w fun e w' => e = .returned (.tuple #[.int .i64 (tickF s n).1, .agg (tickF s n).2.cs]) ∧ Fr [] w w' := by
  refine calls_cps fun R hR => ?_
  obtain ⟨⟨f, ft, b, bt⟩, fr, bl, ow⟩ := s
  simp only [TollS.ok, RatesS.ok, TollS.cs] at hs hR ⊢
  obtain ⟨⟨h1, h2, h3, h4, h5, h6, h7, h8⟩, h9, h10, h11, h12, h13, h14⟩ := hs
  by_cases hn : n < 0
  · rw [tickF, if_pos hn] at hR
    go_enter Try.func13, Try.ntmps13
    go_wp2_with (first
    | (refine wp_region_text (id := 2) [1, 0] Any Try.mixed (by kernel_rfl) trivial ?_)
    | (refine wp_region_text (id := 5) [1, 0] Any Try.mixed (by kernel_rfl) trivial ?_)
    | (refine wpT_0 (fun K hK => ?_); go_simp; refine hK _ ?_; clear hK K)
    | (refine wpT_1 (fun K hK => ?_); go_simp; refine hK _ ?_; clear hK K)
    | (refine wpT_tail (by rfl) ?_)
    | (refine wpT_2A (fun _ _ => ?_); rw [if_pos (by rfl)])
    | (refine wpT_nil ?_))
    refine bodyPost_ret ?_ rfl (hR.out _ _ ⟨rfl, by repeat (first | exact Fr.refl _ _ | apply Fr.drew | apply Fr.alloc)⟩)
    simp [results, Try.results13, go_sem]
  · rw [tickF, if_neg hn] at hR
    go_enter Try.func13, Try.ntmps13
    go_wp2_with (first
    | (refine wp_region_text (id := 2) [1, 0] Any Try.mixed (by kernel_rfl) trivial ?_)
    | (refine wp_region_text (id := 5) [1, 0] Any Try.mixed (by kernel_rfl) trivial ?_)
    | (refine wpT_0 (fun K hK => ?_); go_simp; refine hK _ ?_; clear hK K)
    | (refine wpT_1 (fun K hK => ?_); go_simp; refine hK _ ?_; clear hK K)
    | (refine wpT_tail (by rfl) ?_)
    | (refine wpT_2A (fun _ _ => ?_); rw [if_pos (by rfl)])
    | (refine wpT_nil ?_)
    | (go_at_call 24; refine (ref17_more _ _ _ _ _ (by omega) (by omega) (by omega) (by omega) (by omega) (by omega)).mono ?_; rintro e w1 ⟨rfl, rfl⟩))
    refine bodyPost_ret ?_ rfl (hR.out _ _ ⟨rfl, by repeat (first | exact Fr.refl _ _ | apply Fr.drew | apply Fr.alloc)⟩)
    simp [results, Try.results13, go_sem]

set_option maxHeartbeats 400000 in
theorem ref17_Frame (s : TollS) (n : Int) (w : World) (hs : s.ok) :
    Calls Try.prog 15 #[.agg s.cs, .int .i64 n] w fun e w' => e = .returned (.tuple #[.int .i64 (frameF s n).1, .agg (frameF s n).2.cs]) ∧ Fr [] w w' := by
  refine calls_cps fun R hR => ?_
  obtain ⟨⟨f, ft, b, bt⟩, fr, bl, ow⟩ := s
  simp only [TollS.ok, RatesS.ok, TollS.cs] at hs ⊢
  obtain ⟨⟨h1, h2, h3, h4, h5, h6, h7, h8⟩, h9, h10, h11, h12, h13, h14⟩ := hs
  by_cases hq : fr = 0
  · subst hq
    go_enter Try.func15, Try.ntmps15
    go_wp2_with (first
    | (refine wp_region_text (id := 2) [1, 0] Any Try.mixed (by kernel_rfl) trivial ?_)
    | (refine wp_region_text (id := 4) [1, 0] Any Try.mixed (by kernel_rfl) trivial ?_)
    | (refine wp_region_text (id := 7) [1, 0] Any Try.mixed (by kernel_rfl) trivial ?_)
    | (refine wpT_0 (fun K hK => ?_); go_simp; refine hK _ ?_; clear hK K)
    | (refine wpT_1 (fun K hK => ?_); go_simp; refine hK _ ?_; clear hK K)
    | (refine wpT_tail (by rfl) ?_)
    | (refine wpT_2A (fun _ _ => ?_); rw [if_pos (by rfl)])
    | (refine wpT_nil ?_))
    all_goals
      refine bodyPost_ret ?_ rfl (hR.out _ _ ⟨rfl, by repeat (first | exact Fr.refl _ _ | apply Fr.drew | apply Fr.alloc)⟩)
      simp only [frameF]
      (repeat' split) <;> first
        | (exfalso; omega)
        | simp [results, Try.results15, go_sem, TollS.cs]
  · have hq1 : (fr == 0) = false := by simpa using hq
    go_enter Try.func15, Try.ntmps15
    go_wp2_with (first
    | (refine wp_region_text (id := 2) [1, 0] Any Try.mixed (by kernel_rfl) trivial ?_)
    | (refine wp_region_text (id := 4) [1, 0] Any Try.mixed (by kernel_rfl) trivial ?_)
    | (refine wp_region_text (id := 7) [1, 0] Any Try.mixed (by kernel_rfl) trivial ?_)
    | (refine wpT_0 (fun K hK => ?_); go_simp; refine hK _ ?_; clear hK K)
    | (refine wpT_1 (fun K hK => ?_); go_simp; refine hK _ ?_; clear hK K)
    | (refine wpT_tail (by rfl) ?_)
    | (refine wpT_2A (fun _ _ => ?_); rw [if_pos (by rfl)])
    | (refine wpT_nil ?_))
    all_goals
      refine bodyPost_ret ?_ rfl (hR.out _ _ ⟨rfl, by repeat (first | exact Fr.refl _ _ | apply Fr.drew | apply Fr.alloc)⟩)
      simp only [frameF]
      (repeat' split) <;> first
        | (exfalso; omega)
        | simp [results, Try.results15, go_sem, TollS.cs]

set_option maxHeartbeats 400000 in
theorem ref17_Hold (s : TollS) (n : Int) (w : World) (hs : s.ok) :
    Calls Try.prog 17 #[.agg s.cs, .int .i64 n] w fun e w' => e = .returned (.tuple #[.int .i64 (holdF s n).1, .agg (holdF s n).2.cs]) ∧ Fr [] w w' := by
  refine calls_cps fun R hR => ?_
  obtain ⟨⟨f, ft, b, bt⟩, fr, bl, ow⟩ := s
  simp only [TollS.ok, RatesS.ok, TollS.cs] at hs ⊢
  obtain ⟨⟨h1, h2, h3, h4, h5, h6, h7, h8⟩, h9, h10, h11, h12, h13, h14⟩ := hs
  go_enter Try.func17, Try.ntmps17
  go_wp2_with (first
    | (refine wp_region_text (id := 2) [1, 0] Any Try.mixed (by kernel_rfl) trivial ?_)
    | (refine wp_region_text (id := 4) [1, 0] Any Try.mixed (by kernel_rfl) trivial ?_)
    | (refine wp_region_text (id := 7) [1, 0] Any Try.mixed (by kernel_rfl) trivial ?_)
    | (refine wpT_0 (fun K hK => ?_); go_simp; refine hK _ ?_; clear hK K)
    | (refine wpT_1 (fun K hK => ?_); go_simp; refine hK _ ?_; clear hK K)
    | (refine wpT_tail (by rfl) ?_)
    | (refine wpT_2A (fun _ _ => ?_); rw [if_pos (by rfl)])
    | (refine wpT_nil ?_))
  all_goals
    refine bodyPost_ret ?_ rfl (hR.out _ _ ⟨rfl, by repeat (first | exact Fr.refl _ _ | apply Fr.drew | apply Fr.alloc)⟩)
    simp only [holdF]
    (repeat' split) <;> first
      | (exfalso; omega)
      | simp [results, Try.results17, go_sem, TollS.cs]

set_option maxHeartbeats 400000 in
theorem ref17_Settle (s : TollS) (n : Int) (w : World) (hs : s.ok) :
    Calls Try.prog 19 #[.agg s.cs, .int .i64 n] w fun e w' => e = .returned (.tuple #[.int .i64 (settleF s n).1, .agg (settleF s n).2.cs]) ∧ Fr [] w w' := by
  refine calls_cps fun R hR => ?_
  obtain ⟨⟨f, ft, b, bt⟩, fr, bl, ow⟩ := s
  simp only [TollS.ok, RatesS.ok, TollS.cs] at hs ⊢
  obtain ⟨⟨h1, h2, h3, h4, h5, h6, h7, h8⟩, h9, h10, h11, h12, h13, h14⟩ := hs
  go_enter Try.func19, Try.ntmps19
  go_wp2_with (first
    | (refine wp_region_text (id := 2) [1, 0] Any Try.mixed (by kernel_rfl) trivial ?_)
    | (refine wp_region_text (id := 7) [1, 0] Any Try.mixed (by kernel_rfl) trivial ?_)
    | (refine wpT_0 (fun K hK => ?_); go_simp; refine hK _ ?_; clear hK K)
    | (refine wpT_1 (fun K hK => ?_); go_simp; refine hK _ ?_; clear hK K)
    | (refine wpT_tail (by rfl) ?_)
    | (refine wpT_2A (fun _ _ => ?_); rw [if_pos (by rfl)])
    | (refine wpT_nil ?_))
  all_goals
    refine bodyPost_ret ?_ rfl (hR.out _ _ ⟨rfl, by repeat (first | exact Fr.refl _ _ | apply Fr.drew | apply Fr.alloc)⟩)
    simp only [settleF]
    (repeat' split) <;> first
      | (exfalso; omega)
      | (simp [results, Try.results19, go_sem, TollS.cs, Int.min_def]; done)
      | (simp [results, Try.results19, go_sem, TollS.cs, Int.min_def]; omega)

def mostF (r : RatesS) (t : Int) : Int := r.b + r.bt * t

theorem most_mul {b t : Int} (h1 : 0 ≤ b) (h2 : b ≤ 1073741824) (h3 : 0 ≤ t) (h4 : t ≤ 1073741824) : 0 ≤ b * t ∧ b * t ≤ 1152921504606846976 :=
  ⟨Int.mul_nonneg h1 h3, by have := Int.mul_le_mul h2 h4 h3 (by omega); omega⟩

set_option maxHeartbeats 400000 in
theorem ref17_Most_ok (r : RatesS) (t : Int) (w : World) (hr : r.ok) (t1 : 0 ≤ t) (t2 : t ≤ 1073741824) :
    Calls Try.prog 23 #[r.v, .int .i64 t] w fun e w' => e = .returned (.int .i64 (mostF r t)) ∧ Fr [] w w' := by
  refine calls_cps fun R hR => ?_
  have c1 := ref17_Right r
  have h := hr
  unfold RatesS.ok at h
  obtain ⟨f, ft, b, bt⟩ := r
  obtain ⟨h1, h2, h3, h4, h5, h6, h7, h8⟩ := h
  have ⟨m1, m2⟩ := most_mul h7 h8 t1 t2
  simp only at h1 h2 h3 h4 h5 h6 h7 h8 m1 m2
  simp only [RatesS.v, RatesS.cs] at c1 ⊢
  go_enter Try.func23, Try.ntmps23
  go_wp2_with (first
    | (go_at_call 10; refine (c1 _).mono ?_; rintro e w1 ⟨v, rfl, hv, hf⟩; obtain rfl : v = true := hv.2 hr; clear hv hr; have hb := hf.has0 (Has.new w _ _); have hc := hb.cell))
  exact hR.out _ _ ⟨rfl, ((Fr.refl _ _).alloc _).trans (hf.weaken (by simp))⟩

set_option maxHeartbeats 400000 in
theorem ref17_Most_no (r : RatesS) (t : Int) (w : World) (hr : ¬ (r.ok ∧ 0 ≤ t ∧ t ≤ 1073741824)) :
    Calls Try.prog 23 #[r.v, .int .i64 t] w fun e w' => e = .returned (.int .i64 0) ∧ Fr [] w w' := by
  refine calls_cps fun R hR => ?_
  have c1 := ref17_Right r
  obtain ⟨f, ft, b, bt⟩ := r
  simp only [RatesS.v, RatesS.cs] at c1 ⊢
  by_cases hk : (⟨f, ft, b, bt⟩ : RatesS).ok
  · have ht : t < 0 ∨ 1073741824 < t := by
      rcases Int.lt_or_le t 0 with h | h
      · exact .inl h
      · exact .inr (Int.not_le.1 fun h' => hr ⟨hk, h, h'⟩)
    clear hr
    rcases ht with ht | ht
    all_goals
      go_enter Try.func23, Try.ntmps23
      go_wp2_with (first
    | (go_at_call 10; refine (c1 _).mono ?_; rintro e w1 ⟨v, rfl, hv, hf⟩; obtain rfl : v = true := hv.2 hk; clear hv hk))
      exact hR.out _ _ ⟨rfl, ((Fr.refl _ _).alloc _).trans (hf.weaken (by simp))⟩
  · clear hr
    go_enter Try.func23, Try.ntmps23
    go_wp2_with (first
    | (go_at_call 10; refine (c1 _).mono ?_; rintro e w1 ⟨v, rfl, hv, hf⟩; obtain rfl : v = false := (by cases v; rfl; exact absurd (hv.1 rfl) hk); clear hv hk))
    exact hR.out _ _ ⟨rfl, ((Fr.refl _ _).alloc _).trans (hf.weaken (by simp))⟩

set_option maxHeartbeats 400000 in
theorem toll_Most_ok (r : RatesS) (t : Int) (w : World) (hr : r.ok) (t1 : 0 ≤ t) (t2 : t ≤ 1073741824) :
    Calls Try.prog 22 #[r.v, .int .i64 t] w fun e w' => e = .returned (.int .i64 (mostF r t)) ∧ Fr [] w w' := by
  refine calls_cps fun R hR => ?_
  have c1 := toll_Right r
  have h := hr
  unfold RatesS.ok at h
  obtain ⟨f, ft, b, bt⟩ := r
  obtain ⟨h1, h2, h3, h4, h5, h6, h7, h8⟩ := h
  have ⟨m1, m2⟩ := most_mul h7 h8 t1 t2
  simp only at h1 h2 h3 h4 h5 h6 h7 h8 m1 m2
  simp only [RatesS.v, RatesS.cs] at c1 ⊢
  go_enter Try.func22, Try.ntmps22
  go_wp2_with (first
    | (go_at_call 9; refine (c1 _).mono ?_; rintro e w1 ⟨v, rfl, hv, hf⟩; obtain rfl : v = true := hv.2 hr; clear hv hr; have hb := hf.has0 (Has.new w _ _); have hc := hb.cell))
  exact hR.out _ _ ⟨rfl, ((Fr.refl _ _).alloc _).trans (hf.weaken (by simp))⟩

set_option maxHeartbeats 400000 in
theorem toll_Most_no (r : RatesS) (t : Int) (w : World) (hr : ¬ (r.ok ∧ 0 ≤ t ∧ t ≤ 1073741824)) :
    Calls Try.prog 22 #[r.v, .int .i64 t] w fun e w' => e = .returned (.int .i64 0) ∧ Fr [] w w' := by
  refine calls_cps fun R hR => ?_
  have c1 := toll_Right r
  obtain ⟨f, ft, b, bt⟩ := r
  simp only [RatesS.v, RatesS.cs] at c1 ⊢
  by_cases hk : (⟨f, ft, b, bt⟩ : RatesS).ok
  · have ht : t < 0 ∨ 1073741824 < t := by
      rcases Int.lt_or_le t 0 with h | h
      · exact .inl h
      · exact .inr (Int.not_le.1 fun h' => hr ⟨hk, h, h'⟩)
    clear hr
    rcases ht with ht | ht
    all_goals
      go_enter Try.func22, Try.ntmps22
      go_wp2_with (first
    | (go_at_call 9; refine (c1 _).mono ?_; rintro e w1 ⟨v, rfl, hv, hf⟩; obtain rfl : v = true := hv.2 hk; clear hv hk))
      exact hR.out _ _ ⟨rfl, ((Fr.refl _ _).alloc _).trans (hf.weaken (by simp))⟩
  · clear hr
    go_enter Try.func22, Try.ntmps22
    go_wp2_with (first
    | (go_at_call 9; refine (c1 _).mono ?_; rintro e w1 ⟨v, rfl, hv, hf⟩; obtain rfl : v = false := (by cases v; rfl; exact absurd (hv.1 rfl) hk); clear hv hk))
    exact hR.out _ _ ⟨rfl, ((Fr.refl _ _).alloc _).trans (hf.weaken (by simp))⟩


set_option maxHeartbeats 400000 in
theorem law17_To (r : RatesS) (w : World) :
    Calls Try.prog 8 #[r.v] w fun e w' => e = .returned r.v ∧ Fr [] w w' := by
  refine calls_cps fun R hR => ?_
  obtain ⟨f, ft, b, bt⟩ := r
  simp only [RatesS.v, RatesS.cs] at hR ⊢
  go_enter Try.func8, Try.ntmps8
  go_wp2
  refine bodyPost_ret ?_ rfl (hR.out _ _ ⟨rfl, by repeat (first | exact Fr.refl _ _ | apply Fr.drew | apply Fr.alloc)⟩)
  simp [results, Try.results8, go_sem]
end Go.Proofs.Ythbocbbbdjmfpaa
