/- A STEP of both windows. -/
import Derived.Test.YtbjopppgiklfkaaWinInv
import Derived.Test.YtbjopppgiklfkaaRef02b
namespace Go.Proofs.Ytbjopppgiklfkaa
open Go.RowKit Go.Fp

theorem stepFresh {s : WinS} {l : List Int} (h : WInv s l) {b c : Int} (b0 : 0 ≤ b) (c0 : 0 ≤ c) (c1 : c < 18446744073709551616) :
    ∃ fv : Bool, (∀ (g : Nat) (w : World), Has w g 54 s.cs → Calls Try.prog 9 #[.pointer (some ⟨g, 0, none⟩), .int .u64 b, .int .u64 c] w fun e w' => e = .returned (.bool fv) ∧ w' = w) ∧
      (∀ (v : Value) (n : Nat) (w : World), w.ownsRow 0 30 1 v n (u64s l) → Calls Try.prog 11 #[.agg #[.int .i64 s.size, .int .u64 s.boot, .int .u64 s.top, v], .int .u64 b, .int .u64 c] w fun e w' => e = .returned (.bool fv) ∧ Fr [] w w') := by
  refine ⟨freshF s b c, fun g w hw => win_Fresh g s b c w hw h.ok b0 c0 c1, fun v n w hw => ?_⟩
  have hk := h.ok
  unfold WinS.ok at hk
  rw [h.fresh b0 c0]
  exact ref02_Fresh _ _ _ _ _ _ _ 0 _ _ (by omega) (by omega) (by omega) (by omega) c0 c1 hw

theorem stepTake {s : WinS} {l : List Int} (h : WInv s l) {b c : Int} (b0 : 0 ≤ b) (b1 : b < 18446744073709551616) (c0 : 0 ≤ c) (c1 : c < 18446744073709551616) (hl : l.length ≤ 1000000) :
    ∃ (r : Int) (s' : WinS) (l' : List Int), WInv s' l' ∧ s'.size = s.size ∧ l'.length ≤ l.length + 1 ∧
      (∀ (g : Nat) (w : World), Has w g 54 s.cs → Calls Try.prog 10 #[.pointer (some ⟨g, 0, none⟩), .int .u64 b, .int .u64 c] w fun e w' => e = .returned (.int .i64 r) ∧ Has w' g 54 s'.cs ∧ Fr [g] w w') ∧
      (∀ (v : Value) (n : Nat) (w : World), w.ownsRow 0 30 1 v n (u64s l) → Calls Try.prog 12 #[.agg #[.int .i64 s.size, .int .u64 s.boot, .int .u64 s.top, v], .int .u64 b, .int .u64 c] w fun e w' =>
        ∃ v', e = .returned (.tuple #[.int .i64 r, .agg #[.int .i64 s.size, .int .u64 s'.boot, .int .u64 s'.top, v']]) ∧ w'.ownsRow 0 30 1 v' l'.length (u64s l') ∧ Fr [] w w') := by
  obtain ⟨e1, e2, e3, e4, e5, e6⟩ := h.take b0 b1 c0 c1
  refine ⟨_, _, _, e5, e4, e6, fun g w hw => win_Take g s b c w hw h.ok b0 c0 c1, fun v n w hw => ?_⟩
  have hk := h.ok
  unfold WinS.ok at hk
  have hn : l.length = n := by have := hw.1; simpa [u64s] using this
  rw [e1, e2, e3]
  exact ref02_Take _ _ _ _ _ _ _ 0 _ _ (by omega) (by omega) (by omega) (by omega) c0 c1 (by omega) hw (Nat.zero_le _)

theorem own_ne {w : World} {base : Nat} {e T g : TypeId} {size : Nat} {v : Value} {n : Nat} {xs : List Value} {cs : Array Value} (h : w.ownsRow base e size v n xs) (hg : Has w g T cs) (hT : T ≠ e) : ∀ k, v.ownBlock = some k → k ∉ [g] := by
  intro k hk hm
  simp at hm
  subst hm
  rcases h.2 with ⟨rfl, _⟩ | ⟨g', cap, cur, rfl, _, h2, _⟩
  · simp [Value.ownBlock] at hk
  · simp [Value.ownBlock] at hk
    subst hk
    have hg' : w.heap[g']? = some (.cells cs T (0, 0)) := hg
    rw [h2] at hg'
    simp at hg'
    exact hT hg'.2.symm
end Go.Proofs.Ytbjopppgiklfkaa
