/- NUMBERS AS BYTES, plainly. -/
import Derived.Test.YtemhcflaldeakaaSl
namespace Go.Fp
open Go Go.RowKit

/-- The highest first. -/
def be : Nat → Nat → List UInt8
  | 0, _ => []
  | k + 1, n => UInt8.ofNat (n / 256 ^ k) :: be k n
theorem be_length : ∀ k n, (be k n).length = k
  | 0, _ => rfl
  | k + 1, n => by simp [be, be_length k n]
theorem be_get : ∀ (k n j : Nat), j < k → (be k n)[j]? = some (UInt8.ofNat (n / 256 ^ (k - 1 - j)))
  | 0, _, _, h => by omega
  | k + 1, n, 0, _ => by simp [be]
  | k + 1, n, j + 1, h => by
    rw [be, List.getElem?_cons_succ, be_get k n j (by omega)]
    congr 4; omega
theorem be_take (k n j : Nat) (h1 : 0 < j) (h2 : j ≤ k) : (be k n).take (k - (j - 1)) = (be k n).take (k - j) ++ [UInt8.ofNat (n / 256 ^ (j - 1))] := by
  have hlt : k - j < (be k n).length := by rw [be_length]; omega
  rw [show k - (j - 1) = (k - j) + 1 by omega, List.take_succ_eq_append_getElem hlt]
  congr 2
  have := be_get k n (k - j) (by omega)
  rw [List.getElem?_eq_getElem hlt] at this
  simp only [Option.some.injEq] at this
  rw [this, show k - 1 - (k - j) = j - 1 by omega]
theorem fdiv_pow (n k : Nat) : Int.fdiv (n : Int) (2 ^ k) = ((n / 2 ^ k : Nat) : Int) := by
  rw [Int.fdiv_eq_ediv_of_nonneg _ (Int.pow_nonneg (by omega))]
  push_cast; rfl
theorem pow256 (k : Nat) : 2 ^ (8 * k) = 256 ^ k := by rw [Nat.pow_mul]
/-- 'n >> (8 * k)' -/
theorem shr_byte {n k : Nat} {z : Int} (hz : z = (k : Int)) (hk : k < 8) : Int.fdiv (n : Int) (2 ^ (min (8 * z).toNat IntKind.u64.bits)) = ((n / 256 ^ k : Nat) : Int) := by
  subst hz
  have e : min (8 * (k : Int)).toNat IntKind.u64.bits = 8 * k := by
    have : IntKind.u64.bits = 64 := rfl
    omega
  rw [e, fdiv_pow, pow256]
theorem wrap_byte (q : Nat) : IntKind.u8.wrap (q : Int) = ((UInt8.ofNat q).toNat : Int) := by
  rw [IntKind.wrap_u8]
  simp
/-- Bytes as a number. -/
def beN (l : List UInt8) : Nat := l.foldl (fun a b => a * 256 + b.toNat) 0
theorem beN_snoc (l : List UInt8) (b : UInt8) : beN (l ++ [b]) = beN l * 256 + b.toNat := by simp [beN]
theorem beN_lt_aux : ∀ (l : List UInt8) (a : Nat), l.foldl (fun a b => a * 256 + b.toNat) a < (a + 1) * 256 ^ l.length
  | [], a => by simp
  | b :: l, a => by
    have h := beN_lt_aux l (a * 256 + b.toNat)
    have hb := b.toNat_lt
    rw [List.foldl_cons, List.length_cons, Nat.pow_succ, Nat.mul_comm (256 ^ l.length) 256, ← Nat.mul_assoc]
    exact Nat.lt_of_lt_of_le h (Nat.mul_le_mul_right _ (by omega))
theorem beN_lt (l : List UInt8) : beN l < 256 ^ l.length := by
  have h := beN_lt_aux l 0
  rw [Nat.zero_add, Nat.one_mul] at h
  exact h
theorem shl_byte {v : Nat} (h : v < 72057594037927936) : IntKind.u64.wrap ((v : Int) * 2 ^ (min (8 : Int).toNat IntKind.u64.bits)) = ((v * 256 : Nat) : Int) := by
  have e : ((2 : Int) ^ (min (8 : Int).toNat IntKind.u64.bits)) = 256 := rfl
  rw [e, show ((v : Int) * 256) = ((v * 256 : Nat) : Int) by omega]
  exact Go.IntWalk.u64_in _ (by omega)
theorem u64_mod {k : Nat} (h : k < 18446744073709551616) : ((k : Int) % 2 ^ IntKind.u64.bits).toNat = k := by
  have e : ((2 : Int) ^ IntKind.u64.bits) = 18446744073709551616 := rfl
  rw [e]; omega
theorem or_byte {v b : Nat} (h : v < 72057594037927936) (hb : b < 256) : IntKind.u64.wrap ((((((v * 256 : Nat) : Int) % 2 ^ IntKind.u64.bits).toNat ||| (((b : Nat) : Int) % 2 ^ IntKind.u64.bits).toNat : Nat)) : Int) = ((v * 256 + b : Nat) : Int) := by
  rw [u64_mod (by omega), u64_mod (by omega)]
  have h2 : v * 256 ||| b = v * 256 + b := by
    have h3 := Nat.two_pow_add_eq_or_of_lt (i := 8) (b := b) (by omega) v
    rw [Nat.mul_comm v 256]
    exact h3.symm
  rw [h2]
  exact Go.IntWalk.u64_in _ (by omega)
theorem conv_byte (b : UInt8) : IntKind.u64.wrap ((b.toNat : Nat) : Int) = ((b.toNat : Nat) : Int) := Go.IntWalk.u64_in _ (by have := b.toNat_lt; omega)
end Go.Fp
