/- NUMBERS AS BYTES, plainly. -/
import Derived.Test.YtfcmjlbfoindaaaSl
namespace Go.Fp
open Go Go.RowKit

/-- The highest first. -/
def be : Nat → Nat → List UInt8
  | 0, _ => []
  | k + 1, n => UInt8.ofNat (n / 256 ^ k) :: be k n
theorem be_length : ∀ k n, (be k n).length = k
  | 0, _ => rfl
  | k + 1, n => by simp [be, be_length k n]
theorem be_get : ∀ (k n j : Nat), j < k → (be k n)[j]? = some (UInt8.ofNat (n / 256 ^ (k - 1 - j)))
  | 0, _, _, h => by omega
  | k + 1, n, 0, _ => by simp [be]
  | k + 1, n, j + 1, h => by
    rw [be, List.getElem?_cons_succ, be_get k n j (by omega)]
    congr 4; omega
theorem be_take (k n j : Nat) (h1 : 0 < j) (h2 : j ≤ k) : (be k n).take (k - (j - 1)) = (be k n).take (k - j) ++ [UInt8.ofNat (n / 256 ^ (j - 1))] := by
  have hlt : k - j < (be k n).length := by rw [be_length]; omega
  rw [show k - (j - 1) = (k - j) + 1 by omega, List.take_succ_eq_append_getElem hlt]
  congr 2
  have := be_get k n (k - j) (by omega)
  rw [List.getElem?_eq_getElem hlt] at this
  simp only [Option.some.injEq] at this
  rw [this, show k - 1 - (k - j) = j - 1 by omega]
theorem fdiv_pow (n k : Nat) : Int.fdiv (n : Int) (2 ^ k) = ((n / 2 ^ k : Nat) : Int) := by
  rw [Int.fdiv_eq_ediv_of_nonneg _ (Int.pow_nonneg (by omega))]
  push_cast; rfl
theorem pow256 (k : Nat) : 2 ^ (8 * k) = 256 ^ k := by rw [Nat.pow_mul]
/-- 'n >> (8 * k)' -/
theorem shr_byte {n k : Nat} {z : Int} (hz : z = (k : Int)) (hk : k < 8) : Int.fdiv (n : Int) (2 ^ (min (8 * z).toNat IntKind.u64.bits)) = ((n / 256 ^ k : Nat) : Int) := by
  subst hz
  have e : min (8 * (k : Int)).toNat IntKind.u64.bits = 8 * k := by
    have : IntKind.u64.bits = 64 := rfl
    omega
  rw [e, fdiv_pow, pow256]
theorem wrap_byte (q : Nat) : IntKind.u8.wrap (q : Int) = ((UInt8.ofNat q).toNat : Int) := by
  rw [IntKind.wrap_u8]
  simp
/-- Bytes as a number. -/
def beN (l : List UInt8) : Nat := l.foldl (fun a b => a * 256 + b.toNat) 0
theorem beN_snoc (l : List UInt8) (b : UInt8) : beN (l ++ [b]) = beN l * 256 + b.toNat := by simp [beN]
theorem beN_lt_aux : ∀ (l : List UInt8) (a : Nat), l.foldl (fun a b => a * 256 + b.toNat) a < (a + 1) * 256 ^ l.length
  | [], a => by simp
  | b :: l, a => by
    have h := beN_lt_aux l (a * 256 + b.toNat)
    have hb := b.toNat_lt
    rw [List.foldl_cons, List.length_cons, Nat.pow_succ, Nat.mul_comm (256 ^ l.length) 256, ← Nat.mul_assoc]
    exact Nat.lt_of_lt_of_le h (Nat.mul_le_mul_right _ (by omega))
theorem beN_lt (l : List UInt8) : beN l < 256 ^ l.length := by
  have h := beN_lt_aux l 0
  rw [Nat.zero_add, Nat.one_mul] at h
  exact h
theorem shl_byte {v : Nat} (h : v < 72057594037927936) : IntKind.u64.wrap ((v : Int) * 2 ^ (min (8 : Int).toNat IntKind.u64.bits)) = ((v * 256 : Nat) : Int) := by
  have e : ((2 : Int) ^ (min (8 : Int).toNat IntKind.u64.bits)) = 256 := rfl
  rw [e, show ((v : Int) * 256) = ((v * 256 : Nat) : Int) by omega]
  exact Go.IntWalk.u64_in _ (by omega)
theorem u64_mod {k : Nat} (h : k < 18446744073709551616) : ((k : Int) % 2 ^ IntKind.u64.bits).toNat = k := by
  have e : ((2 : Int) ^ IntKind.u64.bits) = 18446744073709551616 := rfl
  rw [e]; omega
theorem or_byte {v b : Nat} (h : v < 72057594037927936) (hb : b < 256) : IntKind.u64.wrap ((((((v * 256 : Nat) : Int) % 2 ^ IntKind.u64.bits).toNat ||| (((b : Nat) : Int) % 2 ^ IntKind.u64.bits).toNat : Nat)) : Int) = ((v * 256 + b : Nat) : Int) := by
  rw [u64_mod (by omega), u64_mod (by omega)]
  have h2 : v * 256 ||| b = v * 256 + b := by
    have h3 := Nat.two_pow_add_eq_or_of_lt (i := 8) (b := b) (by omega) v
    rw [Nat.mul_comm v 256]
    exact h3.symm
  rw [h2]
  exact Go.IntWalk.u64_in _ (by omega)
theorem conv_byte (b : UInt8) : IntKind.u64.wrap ((b.toNat : Nat) : Int) = ((b.toNat : Nat) : Int) := Go.IntWalk.u64_in _ (by have := b.toNat_lt; omega)
end Go.Fp
/- PARTS OF SLICES. -/
namespace Go.Fp
open Go Go.RowKit
/-- Where a slice goes on. -/
def lo (p : Option Addr) (sz c j : Nat) : Option Addr := if c = j then p else p.map (·.add (j * sz))
theorem lo_none {p : Option Addr} {sz c j : Nat} (h : p ≠ none) : lo p sz c j ≠ none := by
  unfold lo; cases p with
  | none => exact absurd rfl h
  | some a => split <;> simp
theorem lo_some (B off sz c j : Nat) (h : j < c) : lo (some ⟨B, off, none⟩) sz c j = some ⟨B, off + j * sz, none⟩ := by
  unfold lo; rw [if_neg (by omega)]; simp [Addr.add]
theorem Rdz.hi {w : World} {x : Option Addr} {n sz j : Nat} {xs : List Value} (h : Rdz w x n sz xs) (hj : j ≤ n) : Rdz w x j sz (xs.take (j * sz)) := by
  have hm := Nat.mul_le_mul_right sz hj
  refine ⟨by rw [List.length_take, h.1]; omega, fun hp => ?_⟩
  obtain ⟨B, off, h1, h2, h3⟩ := h.2 (by omega)
  refine ⟨B, off, h1, h2, fun k u hk => h3 k u ?_⟩
  have hlt := (List.getElem?_eq_some_iff.1 hk).1
  rw [List.length_take] at hlt
  rwa [List.getElem?_take_of_lt (by omega)] at hk
theorem Rdz.lo {w : World} {x : Option Addr} {n c sz j : Nat} {xs : List Value} (h : Rdz w x n sz xs) (hj : j ≤ n) (hc : n ≤ c) : Rdz w (lo x sz c j) (n - j) sz (xs.drop (j * sz)) := by
  refine ⟨by rw [List.length_drop, h.1, Nat.sub_mul], fun hp => ?_⟩
  obtain ⟨B, off, h1, h2, h3⟩ := h.2 (by omega)
  refine ⟨B, off + j * sz, by rw [h1, lo_some _ _ _ _ _ (by omega)], h2, fun k u hk => ?_⟩
  rw [List.getElem?_drop] at hk
  rw [Nat.add_assoc]; exact h3 _ u hk
theorem Ent.lo (x : Option Addr) (n c sz j : Nat) (xs : List Value) (hj : j ≤ n) (hc : n ≤ c) : Ob.Ent (Ob.rd x n sz xs) (Ob.rd (Fp.lo x sz c j) (n - j) sz (xs.drop (j * sz))) := by
  intro f w h
  have h2 := h.2
  obtain ⟨f', h3, h4⟩ := of_rd ((rd_of h).lo hj hc)
  refine ⟨f', h3, fun k hk => ?_⟩
  obtain ⟨off, h5, h6⟩ := h4 k hk
  rcases h2 with ⟨h7, _⟩ | ⟨h7, B, off', h8, rfl, _⟩
  · omega
  · rw [h8, lo_some _ _ _ _ _ (by omega)] at h5
    simp only [Option.some.injEq, Addr.mk.injEq] at h5
    simp [h5.1]
section
variable {P : Program} {ops : Array Oper} {Q : Exit → Act → World → Prop} {R : Kn} {cs : List Nat} {rest : List Oper} {a0 : Act} {w w0 : World} {N : Nat} {env : List (Nat × Value)}
/-- 'x[a:]' of any slice. -/
theorem T_slcLoP {d : Nat} {ty : TypeId} {pos : String} {af} (hN : Base N a0) {x y : Operand} {t e sz : Nat} {p : Option Addr} {n c j : Nat} {kk : IntKind} [hs : Slc P t e sz] (hx : ev N env x = some (.slice p n c)) (hy : ev N env y = some (.int kk j)) (hj : j ≤ n) (_hnc : n ≤ c) (hR : cs.headD 2 = 0 ∨ R w)
    (h : wpD P ops Q R cs.tail rest (puts a0 ((d, .slice (lo p sz c j) (n - j) (c - j)) :: env)) w) : wpD P ops Q R cs (⟨some d, .slice t x (some y) none none, ty, pos, af, none⟩ :: rest) (puts a0 env) w :=
  T_val rfl (v := .slice (lo p sz c j) (n - j) (c - j)) (fun w => by
    have h6 := run_sizeOf_of (P := P) hs.out.2
    have hle : (j : Int) ≤ n := by omega
    simp [execOp, ev_spec hN hx, ev_spec hN hy, Instr.sliceAt, Instr.slice, run_underlying hs.out.1, Instr.sliceBounds, Instr.sliceBound, asIntOf, hj, h6]
    rfl) hR h
/-- A guard that itself was passed over. -/
theorem T_nou {d : Nat} {ty : TypeId} {pos : String} {af} (hN : Base N a0) {op : Op} {j : Nat} {b : Bool} {t : Tmp} {oj : Oper} (hj : ops[j]? = some oj) (hd : oj.dst = some t) (hv : ev N env (.tmp t) = some undef)
    (h : wpD P ops Q R cs.tail rest (puts a0 ((d, undef) :: env)) w) : wpD P ops Q R cs (⟨some d, op, ty, pos, af, some (j, b)⟩ :: rest) (puts a0 env) w := by
  have hy : yielded ops (puts a0 env).tmps j = none := by
    have := ev_tmp hN hv
    simp [yielded, hj, hd, this, undef]
  rw [wpD, if_neg (by simp [Region.wanted, hy])]
  exact h
end
end Go.Fp
