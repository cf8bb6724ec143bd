/- THE SHORT SUMS THAT ARE TAKEN: their lengths. -/
import Derived.Test.YtfcmjlbfoindaaaIn03d
namespace Go.Proofs.Ytfcmjlbfoindaaa
open Go.RowKit Go.Fp
theorem smN_rows : ∀ (n : Nat) (s : List UInt8 × Int), (∀ l, l ∈ (smN n s).1 → l.length = 16) ∧ (smN n s).1.length ≤ n
  | 0, s => ⟨fun l h => by simp [smN] at h, by simp [smN]⟩
  | n + 1, s => by
    obtain ⟨h1, h2⟩ := smN_rows n (nxt 16 s)
    unfold smN
    split
    · refine ⟨fun l h => ?_, by simp only [List.length_cons]; omega⟩
      rcases List.mem_cons.1 h with rfl | h
      · exact sm_length s
      · exact h1 l h
    · exact ⟨fun l h => by simp at h, by simp⟩
theorem ss_rows (most : Int) (s : List UInt8 × Int) : (∀ l, l ∈ ss most s → l.length = 16) ∧ (ss most s).length ≤ 255 := by
  have := nm_lt 1 s
  obtain ⟨h1, h2⟩ := smN_rows (nm 1 s) (ss0 most s)
  unfold ss
  split
  · exact ⟨h1, by omega⟩
  · exact ⟨fun l h => by simp at h, by simp⟩
end Go.Proofs.Ytfcmjlbfoindaaa
