/- AN UPDATE THAT BYTES ARE, plainly. -/
import Derived.Test.YteikjachfafadaaPU21
import Derived.Test.YteikjachfafadaaIn03e
namespace Go.Proofs.Yteikjachfafadaa
open Go.RowKit Go.Fp
/-- What is left behind each field of an entry. -/
def gs1 (s : List UInt8 × Int) := nxt 1 s
def gs2 (s : List UInt8 × Int) := nxt 4 (gs1 s)
def gs3 (s : List UInt8 × Int) := nxt 1 (gs2 s)
def gs4 (s : List UInt8 × Int) := nxt 1 (gs3 s)
def gs5 (s : List UInt8 × Int) := nxt 16 (gs4 s)
def gs6 (s : List UInt8 × Int) := sst 3 (gs5 s)
def gs7 (s : List UInt8 × Int) := sst 6 (gs6 s)
/-- The entry that bytes are. -/
def gEn (s : List UInt8 × Int) : En := ⟨(nm 1 s : Nat), nm 4 (gs1 s), nm 1 (gs2 s), (nm 1 (gs3 s) : Nat), sm (gs4 s), none, 0, ss 3 (gs5 s), none, 0, ss 6 (gs6 s)⟩
def gBad (last : Int) (s : List UInt8 × Int) : Prop := ((nm 1 s : Nat) : Int) ≤ last ∨ 8 ≤ ((nm 1 s : Nat) : Int) ∨ ¬ kOk (nm 4 (gs1 s)) (nm 1 (gs2 s)) ((nm 1 (gs3 s) : Nat) : Int)
instance (last : Int) (s : List UInt8 × Int) : Decidable (gBad last s) := by unfold gBad; infer_instance
def gs8 (last : Int) (s : List UInt8 × Int) : List UInt8 × Int := if (gs7 s).2 = 0 ∧ gBad last s then fl 10 (gs7 s) else gs7 s
/-- Entries, while nothing is wrong. -/
def gL : Nat → Int → List UInt8 × Int → List En × (List UInt8 × Int)
  | 0, _, s => ([], s)
  | n + 1, last, s => if s.2 = 0 then (gEn s :: (gL n ((nm 1 s : Nat) : Int) (gs8 last s)).1, (gL n ((nm 1 s : Nat) : Int) (gs8 last s)).2) else ([], s)
def gH1 (bs : List UInt8) : List UInt8 × Int := if 1 < nm 1 (bs, 0) then fl 10 (nxt 1 (bs, 0)) else nxt 1 (bs, 0)
def gH2 (bs : List UInt8) : List UInt8 × Int := if 8 < nm 1 (gH1 bs) then fl 8 (nxt 1 (gH1 bs)) else nxt 1 (gH1 bs)
def gR (bs : List UInt8) : List En × (List UInt8 × Int) := gL (nm 1 (gH1 bs)) (-1) (gH2 bs)
def gErr (bs : List UInt8) : Int := if (gR bs).2.1 = [] ∨ ¬ (gR bs).2.2 = 0 then (gR bs).2.2 else 10
/-- The update that bytes are, or why there is none. -/
def getU (bs : List UInt8) : Bool × List En × Int := if gErr bs = 0 then (decide (nm 1 (bs, 0) = 1), (gR bs).1, 0) else (false, [], gErr bs)
end Go.Proofs.Yteikjachfafadaa
/- THE SHORT SUMS THAT ARE TAKEN: their lengths. -/
namespace Go.Proofs.Yteikjachfafadaa
open Go.RowKit Go.Fp
theorem smN_rows : ∀ (n : Nat) (s : List UInt8 × Int), (∀ l, l ∈ (smN n s).1 → l.length = 16) ∧ (smN n s).1.length ≤ n
  | 0, s => ⟨fun l h => by simp [smN] at h, by simp [smN]⟩
  | n + 1, s => by
    obtain ⟨h1, h2⟩ := smN_rows n (nxt 16 s)
    unfold smN
    split
    · refine ⟨fun l h => ?_, by simp only [List.length_cons]; omega⟩
      rcases List.mem_cons.1 h with rfl | h
      · exact sm_length s
      · exact h1 l h
    · exact ⟨fun l h => by simp at h, by simp⟩
theorem ss_rows (most : Int) (s : List UInt8 × Int) : (∀ l, l ∈ ss most s → l.length = 16) ∧ (ss most s).length ≤ 255 := by
  have := nm_lt 1 s
  obtain ⟨h1, h2⟩ := smN_rows (nm 1 s) (ss0 most s)
  unfold ss
  split
  · exact ⟨h1, by omega⟩
  · exact ⟨fun l h => by simp at h, by simp⟩
end Go.Proofs.Yteikjachfafadaa
