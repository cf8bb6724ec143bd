/- THE WALKS of the document's toll. -/
import Derived.Test.YtemhcflaldeakaaBase
namespace Go.Proofs.Ytemhcflaldeakaa
open Go.RowKit Go.Fp

def moreF (left each most ticks : Int) : Int := if each = 0 then left else if (most - left) / each < ticks then most else left + each * ticks

theorem more_eq {a b c d : Int} (h4 : 0 ≤ b) : moreF a b c d = fillF a b c d := by
  unfold moreF fillF
  by_cases hb : b = 0
  · subst hb; simp
  · have hb' : 0 < b := by omega
    simp only [if_neg hb, if_pos hb']
    by_cases h1 : (c - a) / b < d
    · rw [if_pos h1]
      by_cases h5 : (c - a + b - 1) / b ≤ d
      · rw [if_pos h5]
      · exfalso
        have h7 := fill_mul hb' (Int.not_le.1 h5)
        have h8 := (Int.ediv_lt_iff_lt_mul hb').1 h1
        rw [Int.mul_comm] at h8
        omega
    · rw [if_neg h1]
      have h8 := (Int.le_ediv_iff_mul_le hb').1 (Int.not_lt.1 h1)
      rw [Int.mul_comm] at h8
      by_cases h5 : (c - a + b - 1) / b ≤ d
      · rw [if_pos h5]
        have h9 := (Int.ediv_le_iff_le_mul hb').1 h5
        have : d * b = b * d := Int.mul_comm _ _
        omega
      · rw [if_neg h5]

def mostF (r : RatesS) (t : Int) : Int := r.b + r.bt * t

theorem most_mul {b t : Int} (h1 : 0 ≤ b) (h2 : b ≤ 1073741824) (h3 : 0 ≤ t) (h4 : t ≤ 1073741824) : 0 ≤ b * t ∧ b * t ≤ 1152921504606846976 :=
  ⟨Int.mul_nonneg h1 h3, by have := Int.mul_le_mul h2 h4 h3 (by omega); omega⟩

set_option maxHeartbeats 400000 in
theorem toll_Most_ok (r : RatesS) (t : Int) (w : World) (hr : r.ok) (t1 : 0 ≤ t) (t2 : t ≤ 1073741824) :
    Calls Try.prog 13 #[r.v, .int .i64 t] w fun e w' => e = .returned (.int .i64 (mostF r t)) ∧ Fr [] w w' := by
  refine calls_cps fun R hR => ?_
  have c1 := toll_Right r
  have h := hr
  unfold RatesS.ok at h
  obtain ⟨f, ft, b, bt⟩ := r
  obtain ⟨h1, h2, h3, h4, h5, h6, h7, h8⟩ := h
  have ⟨m1, m2⟩ := most_mul h7 h8 t1 t2
  simp only at h1 h2 h3 h4 h5 h6 h7 h8 m1 m2
  simp only [RatesS.v, RatesS.cs] at c1 ⊢
  go_enter Try.func13, Try.ntmps13
  go_wp2_with (first
    | (go_at_call 36; refine (c1 _).mono ?_; rintro e w1 ⟨v, rfl, hv, hf⟩; obtain rfl : v = true := hv.2 hr; clear hv hr; have hb := hf.has0 (Has.new w _ _); have hc := hb.cell))
  exact hR.out _ _ ⟨rfl, ((Fr.refl _ _).alloc _).trans (hf.weaken (by simp))⟩

set_option maxHeartbeats 400000 in
theorem toll_Most_no (r : RatesS) (t : Int) (w : World) (hr : ¬ (r.ok ∧ 0 ≤ t ∧ t ≤ 1073741824)) :
    Calls Try.prog 13 #[r.v, .int .i64 t] w fun e w' => e = .returned (.int .i64 0) ∧ Fr [] w w' := by
  refine calls_cps fun R hR => ?_
  have c1 := toll_Right r
  obtain ⟨f, ft, b, bt⟩ := r
  simp only [RatesS.v, RatesS.cs] at c1 ⊢
  by_cases hk : (⟨f, ft, b, bt⟩ : RatesS).ok
  · have ht : t < 0 ∨ 1073741824 < t := by
      rcases Int.lt_or_le t 0 with h | h
      · exact .inl h
      · exact .inr (Int.not_le.1 fun h' => hr ⟨hk, h, h'⟩)
    clear hr
    rcases ht with ht | ht
    all_goals
      go_enter Try.func13, Try.ntmps13
      go_wp2_with (first
    | (go_at_call 36; refine (c1 _).mono ?_; rintro e w1 ⟨v, rfl, hv, hf⟩; obtain rfl : v = true := hv.2 hk; clear hv hk))
      exact hR.out _ _ ⟨rfl, ((Fr.refl _ _).alloc _).trans (hf.weaken (by simp))⟩
  · clear hr
    go_enter Try.func13, Try.ntmps13
    go_wp2_with (first
    | (go_at_call 36; refine (c1 _).mono ?_; rintro e w1 ⟨v, rfl, hv, hf⟩; obtain rfl : v = false := (by cases v; rfl; exact absurd (hv.1 rfl) hk); clear hv hk))
    exact hR.out _ _ ⟨rfl, ((Fr.refl _ _).alloc _).trans (hf.weaken (by simp))⟩


set_option maxHeartbeats 400000 in
theorem law17_To (r : RatesS) (w : World) :
    Calls Try.prog 5 #[r.v] w fun e w' => e = .returned r.v ∧ Fr [] w w' := by
  refine calls_cps fun R hR => ?_
  obtain ⟨f, ft, b, bt⟩ := r
  simp only [RatesS.v, RatesS.cs] at hR ⊢
  go_enter Try.func5, Try.ntmps5
  go_wp2
  refine bodyPost_ret ?_ rfl (hR.out _ _ ⟨rfl, by repeat (first | exact Fr.refl _ _ | apply Fr.drew | apply Fr.alloc)⟩)
  simp [results, Try.results5, go_sem]
end Go.Proofs.Ytemhcflaldeakaa
