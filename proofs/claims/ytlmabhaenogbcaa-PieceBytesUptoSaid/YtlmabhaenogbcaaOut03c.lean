/- THE WALK of what lays fields: short sums. -/
import Derived.Test.YtlmabhaenogbcaaOut03b
import Derived.Test.YtlmabhaenogbcaaSl2
namespace Go.Proofs.Ytlmabhaenogbcaa
open Go.RowKit Go.Fp
attribute [local irreducible] Go.Calls
set_option maxRecDepth 100000
set_option maxHeartbeats 2000000
theorem flat_get (k : Nat) : ∀ (ls : List (List UInt8)), (∀ l, l ∈ ls → l.length = k) → ∀ (j : Nat) (a : List UInt8), ls[j]? = some a → ∀ i, i < k → ls.flatten[j * k + i]? = a[i]?
  | [], _, j, a, h, _, _ => by simp at h
  | l :: ls, hls, 0, a, h, i, hi => by
    have hl := hls l (by simp)
    simp only [List.getElem?_cons_zero, Option.some.injEq] at h
    subst h
    rw [List.flatten_cons, Nat.zero_mul, Nat.zero_add, List.getElem?_append_left (by omega)]
  | l :: ls, hls, j + 1, a, h, i, hi => by
    have hl := hls l (by simp)
    rw [List.getElem?_cons_succ] at h
    rw [List.flatten_cons, List.getElem?_append_right (by rw [Nat.add_mul]; omega), show (j + 1) * k + i - l.length = j * k + i by rw [Nat.add_mul]; omega]
    exact flat_get k ls (fun l h => hls l (List.mem_cons_of_mem _ h)) j a h i hi
theorem row_cell {w : World} {B off n : Nat} {ls : List (List UInt8)} (h : Rdz w (some ⟨B, off, none⟩) n 16 (u8s ls.flatten)) (hls : ∀ l, l ∈ ls → l.length = 16) {j : Nat} {a : List UInt8} (hj : ls[j]? = some a) (i : Nat) (v : Value) (hv : (u8s a)[i]? = some v) : w.cell? ⟨B, off + j * 16 + i, none⟩ = some v := by
  have ha := hls a (List.mem_of_getElem? hj)
  have hi := (List.getElem?_eq_some_iff.1 hv).1
  rw [u8s_length, ha] at hi
  rw [Nat.add_assoc]
  exact h.cell rfl (by rw [u8s_get, flat_get 16 ls hls j a hj i hi, ← u8s_get]; exact hv)
def sumsO (ls : List (List UInt8)) (o : List UInt8 × Bool) : List UInt8 × Bool := ((numO 1 ls.length o).1 ++ ls.flatten, (numO 1 ls.length o).2)
end Go.Proofs.Ytlmabhaenogbcaa
