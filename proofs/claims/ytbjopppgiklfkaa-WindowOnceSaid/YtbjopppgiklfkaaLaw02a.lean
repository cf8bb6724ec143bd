/- THE WALKS of the laws on windows: the document's example; a counter's end. -/
import Derived.Test.YtbjopppgiklfkaaWin
namespace Go.Proofs.Ytbjopppgiklfkaa
open Go.RowKit Go.Fp

theorem win_Take' {g : Nat} {s s' : WinS} {b c r : Int} {w : World} (he : takeF s b c = (r, s')) (hs : s.ok) (b0 : 0 ≤ b) (c0 : 0 ≤ c) (c1 : c < 18446744073709551616) (h : Has w g 54 s.cs) :
    Calls Try.prog 10 #[.pointer (some ⟨g, 0, none⟩), .int .u64 b, .int .u64 c] w fun e w' => e = .returned (.int .i64 r) ∧ Has w' g 54 s'.cs ∧ Fr [g] w w' := by
  have := win_Take g s b c w h hs b0 c0 c1; rwa [he] at this

def aw0 : WinS := ⟨4, 0, 0, 0, false⟩
def aw1 : WinS := ⟨4, 1, 5, 1, true⟩
def aw2 : WinS := ⟨4, 1, 5, 9, true⟩
def aw3 : WinS := ⟨4, 2, 1, 1, true⟩

theorem aw_t0 : takeF aw0 1 5 = (0, aw1) := by kernel_rfl
theorem aw_c0 {g : Nat} {w : World} (h : Has w g 54 aw0.cs) :
    Calls Try.prog 10 #[.pointer (some ⟨g, 0, none⟩), .int .u64 1, .int .u64 5] w fun e w' => e = .returned (.int .i64 0) ∧ Has w' g 54 aw1.cs ∧ Fr [g] w w' :=
  win_Take' aw_t0 (by simp [WinS.ok, aw0]) (by omega) (by omega) (by omega) h
theorem aw_t1 : takeF aw1 1 2 = (0, aw2) := by kernel_rfl
theorem aw_c1 {g : Nat} {w : World} (h : Has w g 54 aw1.cs) :
    Calls Try.prog 10 #[.pointer (some ⟨g, 0, none⟩), .int .u64 1, .int .u64 2] w fun e w' => e = .returned (.int .i64 0) ∧ Has w' g 54 aw2.cs ∧ Fr [g] w w' :=
  win_Take' aw_t1 (by simp [WinS.ok, aw1]) (by omega) (by omega) (by omega) h
theorem aw_t2 : takeF aw2 1 1 = (25, aw2) := by kernel_rfl
theorem aw_c2 {g : Nat} {w : World} (h : Has w g 54 aw2.cs) :
    Calls Try.prog 10 #[.pointer (some ⟨g, 0, none⟩), .int .u64 1, .int .u64 1] w fun e w' => e = .returned (.int .i64 25) ∧ Has w' g 54 aw2.cs ∧ Fr [g] w w' :=
  win_Take' aw_t2 (by simp [WinS.ok, aw2]) (by omega) (by omega) (by omega) h
theorem aw_t3 : takeF aw2 1 5 = (25, aw2) := by kernel_rfl
theorem aw_c3 {g : Nat} {w : World} (h : Has w g 54 aw2.cs) :
    Calls Try.prog 10 #[.pointer (some ⟨g, 0, none⟩), .int .u64 1, .int .u64 5] w fun e w' => e = .returned (.int .i64 25) ∧ Has w' g 54 aw2.cs ∧ Fr [g] w w' :=
  win_Take' aw_t3 (by simp [WinS.ok, aw2]) (by omega) (by omega) (by omega) h
theorem aw_t4 : takeF aw2 2 1 = (0, aw3) := by kernel_rfl
theorem aw_c4 {g : Nat} {w : World} (h : Has w g 54 aw2.cs) :
    Calls Try.prog 10 #[.pointer (some ⟨g, 0, none⟩), .int .u64 2, .int .u64 1] w fun e w' => e = .returned (.int .i64 0) ∧ Has w' g 54 aw3.cs ∧ Fr [g] w w' :=
  win_Take' aw_t4 (by simp [WinS.ok, aw2]) (by omega) (by omega) (by omega) h
theorem aw_t5 : takeF aw3 1 9 = (25, aw3) := by kernel_rfl
theorem aw_c5 {g : Nat} {w : World} (h : Has w g 54 aw3.cs) :
    Calls Try.prog 10 #[.pointer (some ⟨g, 0, none⟩), .int .u64 1, .int .u64 9] w fun e w' => e = .returned (.int .i64 25) ∧ Has w' g 54 aw3.cs ∧ Fr [g] w w' :=
  win_Take' aw_t5 (by simp [WinS.ok, aw3]) (by omega) (by omega) (by omega) h

set_option maxHeartbeats 1000000 in
theorem law02_awake (w : World) :
    Calls Try.prog 8 #[] w fun e w' => e = .returned (.bool true) ∧ Fr [] w w' := by
  refine calls_cps fun R hR => ?_
  go_enter Try.func8, Try.ntmps8
  go_wp2_with (first
    | (go_at_call 7; refine (win_New_ok 4 _ (by omega) (by omega)).mono ?_; rintro e w1 ⟨g, rfl, hg, h0, f0⟩; replace h0 : Has w1 g 54 aw0.cs := h0)
    | (go_at_call 10; with_reducible refine Calls.mono (aw_c0 h0) ?_; rintro e w2 ⟨rfl, h1, f1⟩)
    | (go_at_call 10; with_reducible refine Calls.mono (aw_c1 h1) ?_; rintro e w3 ⟨rfl, h2, f2⟩)
    | (go_at_call 10; with_reducible refine Calls.mono (aw_c2 h2) ?_; rintro e w4 ⟨rfl, h3, f3⟩)
    | (go_at_call 10; with_reducible refine Calls.mono (aw_c3 h3) ?_; rintro e w5 ⟨rfl, h4, f4⟩)
    | (go_at_call 10; with_reducible refine Calls.mono (aw_c4 h4) ?_; rintro e w6 ⟨rfl, h5, f5⟩)
    | (go_at_call 10; with_reducible refine Calls.mono (aw_c5 h5) ?_; rintro e w7 ⟨rfl, h6, f6⟩))
  have hs : ∀ x, x ∈ [g] → x ∈ [] ∨ w.heap.size ≤ x := fun x hx => by simp at hx; subst hx; exact .inr hg
  exact hR.out _ _ ⟨rfl, ((((((f0.step f1 hs).step f2 hs).step f3 hs).step f4 hs).step f5 hs).step f6 hs)⟩
end Go.Proofs.Ytbjopppgiklfkaa
