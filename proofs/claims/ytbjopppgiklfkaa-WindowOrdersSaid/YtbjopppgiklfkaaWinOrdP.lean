/- THE PLAIN LAW of WindowOrders. -/
import Derived.Test.YtbjopppgiklfkaaWinStep
namespace Go.Proofs.Ytbjopppgiklfkaa
open Go.RowKit Go.Fp

theorem takeF_is {s : WinS} {l : List Int} (h : WInv s l) {b c : Int} (b0 : 0 ≤ b) (b1 : b < 18446744073709551616) (c0 : 0 ≤ c) (c1 : c < 18446744073709551616) {r bo to : Int} {l' : List Int} (he : rtake s.size s.boot s.top l b c = (r, bo, to, l')) :
    ∃ s', takeF s b c = (r, s') ∧ s'.size = s.size ∧ s'.boot = bo ∧ s'.top = to ∧ WInv s' l' := by
  obtain ⟨e1, e2, e3, e4, e5, _⟩ := h.take b0 b1 c0 c1
  rw [he] at e1 e2 e3 e5
  exact ⟨_, Prod.ext e1 rfl, e4, e2, e3, e5⟩

theorem ordTop {s : WinS} {l : List Int} (h : WInv s l) {b n : Int} (hb : 1 ≤ b) (b1 : b < 18446744073709551616) (hs : s.boot ≤ b) (hn : 1 ≤ n) (n1 : n < 18446744073709551616) (ht : s.boot = b → s.top < n) :
    ∃ s' l', takeF s b n = (0, s') ∧ WInv s' l' ∧ s'.size = s.size ∧ s'.boot = b ∧ s'.top = n ∧ n ∈ l' ∧ ∀ x, x ∈ l' → x = n ∨ (x ∈ l ∧ s.boot = b) := by
  have hf : rfresh s.size s.boot s.top l b n = true := by
    unfold rfresh; rw [if_neg (by omega), if_pos (by by_cases e : s.boot = b <;> omega)]
  by_cases e : s.boot = b
  · have he : rtake s.size s.boot s.top l b n = (0, s.boot, n, l ++ [n]) := by
      unfold rtake; rw [if_neg (by omega), if_neg (by rw [hf]; simp), if_neg (by omega), if_pos (ht e)]
    obtain ⟨s', h1, h2, h3, h4, h5⟩ := takeF_is h (by omega) b1 (by omega) n1 he
    exact ⟨s', _, h1, h5, h2, by omega, h4, by simp, fun x hx => by simp at hx; rcases hx with hx | hx <;> simp_all⟩
  · have he : rtake s.size s.boot s.top l b n = (0, b, n, [n]) := by
      unfold rtake; rw [if_neg (by omega), if_neg (by rw [hf]; simp), if_pos (by omega)]
    obtain ⟨s', h1, h2, h3, h4, h5⟩ := takeF_is h (by omega) b1 (by omega) n1 he
    exact ⟨s', _, h1, h5, h2, h3, h4, by simp, fun x hx => by simp at hx; exact .inl hx⟩

theorem ordTwice {s : WinS} {l : List Int} (h : WInv s l) {b c : Int} (hb : 1 ≤ b) (he : s.boot = b) (hc : 1 ≤ c) (hm : c ∈ l) : takeF s b c = (25, s) ∧ freshF s b c = false := by
  have hf : freshF s b c = false := by
    rw [h.fresh (by omega) (by omega)]
    have := h.le c hm
    unfold rfresh; rw [if_neg (by omega), if_neg (by omega)]; split
    · rfl
    · simp [hm]
  exact ⟨by unfold takeF; rw [if_neg (by omega), if_pos hf], hf⟩

theorem ordLate {s : WinS} {l : List Int} (h : WInv s l) {b m : Int} (hb : 1 ≤ b) (b1 : b < 18446744073709551616) (he : s.boot = b) (hm : 1 ≤ m) (m1 : m < 18446744073709551616) (ht : m ≤ s.top) (hz : s.top - m < s.size) (hn : m ∉ l) :
    ∃ s' l', takeF s b m = (0, s') ∧ WInv s' l' ∧ s'.size = s.size ∧ s'.boot = b ∧ s'.top = s.top ∧ m ∈ l' := by
  have hf : rfresh s.size s.boot s.top l b m = true := by
    unfold rfresh; rw [if_neg (by omega), if_neg (by omega), if_neg (by omega)]; simp [hn]
  have e : rtake s.size s.boot s.top l b m = (0, s.boot, s.top, l ++ [m]) := by
    unfold rtake; rw [if_neg (by omega), if_neg (by rw [hf]; simp), if_neg (by omega), if_neg (by omega)]
  obtain ⟨s', h1, h2, h3, h4, h5⟩ := takeF_is h (by omega) b1 (by omega) m1 e
  exact ⟨s', _, h1, h5, h2, by omega, h4, by simp⟩

/-- What waits: nothing; or a number that was passed over at the last step, or at the one ahead of it. -/
def WaitOk (size boot skip : Int) (k : Nat) (s : WinS) (l lw : List Int) : Prop :=
  lw = [] ∨ ∃ m, lw = [m] ∧ 3 < size ∧ skip < m ∧ ((m = skip + k ∧ (s.boot = boot → s.top < m)) ∨ (m = skip + k - 1 ∧ s.boot = boot ∧ s.top = m + 1 ∧ m ∉ l))

theorem own_one {w : World} {base : Nat} {e : TypeId} {v : Value} {m : Int} (h : w.ownsRow base e 1 v 1 (u64s [m])) : ∃ g cap, v = .slice (some ⟨g, 0, none⟩) 1 cap ∧ 1 ≤ cap ∧ cap ≤ maxLen := by
  obtain ⟨_, x, cap, g, rfl, h1, h2, h3, _⟩ := own_open h
  obtain ⟨rfl, _⟩ := h3 (by omega)
  exact ⟨g, cap, rfl, h1, h2⟩
theorem own_one_cell {w : World} {base g cap : Nat} {e : TypeId} {m : Int} (h : w.ownsRow base e 1 (.slice (some ⟨g, 0, none⟩) 1 cap) 1 (u64s [m])) : w.cell? ⟨g, 0, none⟩ = some (.int .u64 m) := by
  obtain ⟨_, x, cap, g', hv, h1, h2, h3, h4⟩ := own_open h
  obtain ⟨rfl, _⟩ := h3 (by omega)
  simp at hv
  obtain ⟨rfl, _⟩ := hv
  exact h4 0 (by simp)
theorem fr_grown0 {w w' : World} (h : w.grownBy w' none) : Fr [] w w' := ⟨h.os, h.tape, h.output, h.size, fun k hk _ => h.block k hk (by simp)⟩
end Go.Proofs.Ytbjopppgiklfkaa
