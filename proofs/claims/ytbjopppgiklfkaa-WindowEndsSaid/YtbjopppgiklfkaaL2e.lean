/- A counter's end. -/
import Derived.Test.YtbjopppgiklfkaaLaw02a
namespace Go.Proofs.Ytbjopppgiklfkaa
open Go.RowKit Go.Fp

set_option maxHeartbeats 1000000 in
theorem law02_Ends11 (w : World) :
    Calls Try.prog 6 #[.int .u64 0, .int .u64 18446744073709551615] w fun e w' => e = .returned (.bool true) ∧ Fr [] w w' := by
  refine calls_cps fun R hR => ?_
  go_enter Try.func6, Try.ntmps6
  go_wp2_with (first
    | (go_at_call 16; with_reducible refine Calls.mono ((win_cnil 1 _).1) ?_; rintro e w' ⟨rfl, hq⟩; subst w')
    | (go_at_call 15; with_reducible refine Calls.mono ((win_cnil 1 _).2) ?_; rintro e w' ⟨rfl, hq⟩; subst w')
    | (go_at_call 13; with_reducible refine Calls.mono ((win_nil 1 1 _ rfl rfl).2.2) ?_; rintro e w' ⟨rfl, hq⟩; subst w')
    | (go_at_call 9; with_reducible refine Calls.mono ((win_nil 1 1 _ rfl rfl).1) ?_; rintro e w' ⟨rfl, hq⟩; subst w')
    | (go_at_call 10; with_reducible refine Calls.mono ((win_nil 1 1 _ rfl rfl).2.1) ?_; rintro e w' ⟨rfl, hq⟩; subst w')
    | (go_at_call 8; with_reducible refine Calls.mono (law02_awake _) ?_; rintro e w6 ⟨rfl, f6⟩)
    | (go_at_call 14; refine Calls.mono (win_Begin 1 _ rfl) ?_; rintro e w2 ⟨g, rfl, hg, h2, f2⟩)
    | (go_at_call 15; refine Calls.mono (win_Skip g ⟨1, 0⟩ 18446744073709551615 _ h2 (by simp)) ?_; rintro e w3 ⟨rfl, h3, f3⟩)
    | (go_at_call 16; refine Calls.mono (win_Next_no g ⟨1, 18446744073709551615⟩ _ h3 rfl) ?_; rintro e w' ⟨rfl, hq⟩; subst w'))
  have hs : ∀ x, x ∈ [g] → x ∈ [] ∨ w.heap.size ≤ x := fun x hx => by simp at hx; subst hx; exact .inr hg
  exact hR.out _ _ ⟨rfl, (f2.step f3 hs).trans f6⟩

set_option maxHeartbeats 1000000 in
theorem law02_Ends01 (b : Int) (w : World) (hb1 : (b == 0) = false) :
    Calls Try.prog 6 #[.int .u64 b, .int .u64 18446744073709551615] w fun e w' => e = .returned (.bool true) ∧ Fr [] w w' := by
  refine calls_cps fun R hR => ?_
  go_enter Try.func6, Try.ntmps6
  go_wp2_with (first
    | (go_at_call 16; with_reducible refine Calls.mono ((win_cnil 1 _).1) ?_; rintro e w' ⟨rfl, hq⟩; subst w')
    | (go_at_call 15; with_reducible refine Calls.mono ((win_cnil 1 _).2) ?_; rintro e w' ⟨rfl, hq⟩; subst w')
    | (go_at_call 13; with_reducible refine Calls.mono ((win_nil 1 1 _ rfl rfl).2.2) ?_; rintro e w' ⟨rfl, hq⟩; subst w')
    | (go_at_call 9; with_reducible refine Calls.mono ((win_nil 1 1 _ rfl rfl).1) ?_; rintro e w' ⟨rfl, hq⟩; subst w')
    | (go_at_call 10; with_reducible refine Calls.mono ((win_nil 1 1 _ rfl rfl).2.1) ?_; rintro e w' ⟨rfl, hq⟩; subst w')
    | (go_at_call 8; with_reducible refine Calls.mono (law02_awake _) ?_; rintro e w6 ⟨rfl, f6⟩)
    | (go_at_call 14; refine Calls.mono (win_Begin b _ hb1) ?_; rintro e w2 ⟨g, rfl, hg, h2, f2⟩)
    | (go_at_call 15; refine Calls.mono (win_Skip g ⟨b, 0⟩ 18446744073709551615 _ h2 (by simp)) ?_; rintro e w3 ⟨rfl, h3, f3⟩)
    | (go_at_call 16; refine Calls.mono (win_Next_no g ⟨b, 18446744073709551615⟩ _ h3 rfl) ?_; rintro e w' ⟨rfl, hq⟩; subst w'))
  have hs : ∀ x, x ∈ [g] → x ∈ [] ∨ w.heap.size ≤ x := fun x hx => by simp at hx; subst hx; exact .inr hg
  exact hR.out _ _ ⟨rfl, (f2.step f3 hs).trans f6⟩

set_option maxHeartbeats 1000000 in
theorem law02_Ends10 (n : Int) (w : World) (n0 : 0 ≤ n) (n1 : n < 18446744073709551615) :
    Calls Try.prog 6 #[.int .u64 0, .int .u64 n] w fun e w' => e = .returned (.bool true) ∧ Fr [] w w' := by
  refine calls_cps fun R hR => ?_
  have hn1 : (n == 18446744073709551615) = false := by simp; omega
  go_enter Try.func6, Try.ntmps6
  go_wp2_with (first
    | (go_at_call 16; with_reducible refine Calls.mono ((win_cnil 1 _).1) ?_; rintro e w' ⟨rfl, hq⟩; subst w')
    | (go_at_call 15; with_reducible refine Calls.mono ((win_cnil 1 _).2) ?_; rintro e w' ⟨rfl, hq⟩; subst w')
    | (go_at_call 13; with_reducible refine Calls.mono ((win_nil 1 1 _ rfl rfl).2.2) ?_; rintro e w' ⟨rfl, hq⟩; subst w')
    | (go_at_call 9; with_reducible refine Calls.mono ((win_nil 1 1 _ rfl rfl).1) ?_; rintro e w' ⟨rfl, hq⟩; subst w')
    | (go_at_call 10; with_reducible refine Calls.mono ((win_nil 1 1 _ rfl rfl).2.1) ?_; rintro e w' ⟨rfl, hq⟩; subst w')
    | (go_at_call 8; with_reducible refine Calls.mono (law02_awake _) ?_; rintro e w6 ⟨rfl, f6⟩)
    | (go_at_call 14; refine Calls.mono (win_Begin 1 _ rfl) ?_; rintro e w2 ⟨g, rfl, hg, h2, f2⟩)
    | (go_at_call 15; refine Calls.mono (win_Skip g ⟨1, 0⟩ n _ h2 (by simpa using n0)) ?_; rintro e w3 ⟨rfl, h3, f3⟩)
    | (go_at_call 16; refine Calls.mono (win_Next g ⟨1, n⟩ _ h3 (by simpa using n0) (by simp; omega)) ?_; rintro e w4 ⟨rfl, h4, f4⟩)
    | (go_at_call 15; refine Calls.mono (win_Skip_no g ⟨1, n + 1⟩ n _ (f6.has0 h4) (by simp; omega)) ?_; rintro e w' ⟨rfl, hq⟩; subst w'))
  have hs : ∀ x, x ∈ [g] → x ∈ [] ∨ w.heap.size ≤ x := fun x hx => by simp at hx; subst hx; exact .inr hg
  exact hR.out _ _ ⟨rfl, ((f2.step f3 hs).step f4 hs).trans f6⟩

set_option maxHeartbeats 1000000 in
theorem law02_Ends00 (b n : Int) (w : World) (hb1 : (b == 0) = false) (n0 : 0 ≤ n) (n1 : n < 18446744073709551615) :
    Calls Try.prog 6 #[.int .u64 b, .int .u64 n] w fun e w' => e = .returned (.bool true) ∧ Fr [] w w' := by
  refine calls_cps fun R hR => ?_
  have hn1 : (n == 18446744073709551615) = false := by simp; omega
  go_enter Try.func6, Try.ntmps6
  go_wp2_with (first
    | (go_at_call 16; with_reducible refine Calls.mono ((win_cnil 1 _).1) ?_; rintro e w' ⟨rfl, hq⟩; subst w')
    | (go_at_call 15; with_reducible refine Calls.mono ((win_cnil 1 _).2) ?_; rintro e w' ⟨rfl, hq⟩; subst w')
    | (go_at_call 13; with_reducible refine Calls.mono ((win_nil 1 1 _ rfl rfl).2.2) ?_; rintro e w' ⟨rfl, hq⟩; subst w')
    | (go_at_call 9; with_reducible refine Calls.mono ((win_nil 1 1 _ rfl rfl).1) ?_; rintro e w' ⟨rfl, hq⟩; subst w')
    | (go_at_call 10; with_reducible refine Calls.mono ((win_nil 1 1 _ rfl rfl).2.1) ?_; rintro e w' ⟨rfl, hq⟩; subst w')
    | (go_at_call 8; with_reducible refine Calls.mono (law02_awake _) ?_; rintro e w6 ⟨rfl, f6⟩)
    | (go_at_call 14; refine Calls.mono (win_Begin b _ hb1) ?_; rintro e w2 ⟨g, rfl, hg, h2, f2⟩)
    | (go_at_call 15; refine Calls.mono (win_Skip g ⟨b, 0⟩ n _ h2 (by simpa using n0)) ?_; rintro e w3 ⟨rfl, h3, f3⟩)
    | (go_at_call 16; refine Calls.mono (win_Next g ⟨b, n⟩ _ h3 (by simpa using n0) (by simp; omega)) ?_; rintro e w4 ⟨rfl, h4, f4⟩)
    | (go_at_call 15; refine Calls.mono (win_Skip_no g ⟨b, n + 1⟩ n _ (f6.has0 h4) (by simp; omega)) ?_; rintro e w' ⟨rfl, hq⟩; subst w'))
  have hs : ∀ x, x ∈ [g] → x ∈ [] ∨ w.heap.size ≤ x := fun x hx => by simp at hx; subst hx; exact .inr hg
  exact hR.out _ _ ⟨rfl, ((f2.step f3 hs).step f4 hs).trans f6⟩

theorem law02_Ends (b n : Int) (w : World) (n0 : 0 ≤ n) (n1 : n < 18446744073709551616) :
    Calls Try.prog 6 #[.int .u64 b, .int .u64 n] w fun e w' => e = .returned (.bool true) ∧ Fr [] w w' := by
  by_cases hb : b = 0
  · subst hb
    by_cases hn : n = 18446744073709551615
    · subst hn; exact law02_Ends11 w
    · exact law02_Ends10 n w n0 (by omega)
  · have hb1 : (b == 0) = false := by simpa using hb
    by_cases hn : n = 18446744073709551615
    · subst hn; exact law02_Ends01 b w hb1
    · exact law02_Ends00 b n w hb1 n0 (by omega)
end Go.Proofs.Ytbjopppgiklfkaa
