/- WORDS OF 32 BITS, and sums, plainly. -/
import Derived.Test.YtfcmjlbfoindaaaSl3
namespace Go.Fp
open Go Go.RowKit
@[reducible] def w32 (x : UInt32) : Value := .int .u32 (x.toNat : Int)
theorem w_wrap (n : Nat) : IntKind.u32.wrap (n : Int) = ((UInt32.ofNat n).toNat : Int) := by
  rw [IntKind.wrap_u32]; simp
theorem w_in (x : UInt32) : ((x.toNat : Int) % 2 ^ IntKind.u32.bits).toNat = x.toNat := by
  have := x.toNat_lt
  show ((x.toNat : Int) % 2 ^ 32).toNat = x.toNat
  omega
theorem w_add (x y : UInt32) : IntKind.u32.wrap ((x.toNat : Int) + (y.toNat : Int)) = ((x + y).toNat : Int) := by
  rw [IntKind.wrap_u32, UInt32.toNat_add]; omega
theorem w_mul (x y : UInt32) : IntKind.u32.wrap ((x.toNat : Int) * (y.toNat : Int)) = ((x * y).toNat : Int) := by
  rw [IntKind.wrap_u32, UInt32.toNat_mul]; simp
theorem w_self (x : UInt32) : IntKind.u32.wrap (x.toNat : Int) = (x.toNat : Int) := by
  rw [IntKind.wrap_u32]; have := x.toNat_lt; omega
theorem w_and (x y : UInt32) : IntKind.u32.wrap (((((x.toNat : Int) % 2 ^ IntKind.u32.bits).toNat &&& ((y.toNat : Int) % 2 ^ IntKind.u32.bits).toNat : Nat)) : Int) = ((x &&& y).toNat : Int) := by
  rw [w_in, w_in, ← UInt32.toNat_and, w_self]
theorem w_or (x y : UInt32) : IntKind.u32.wrap (((((x.toNat : Int) % 2 ^ IntKind.u32.bits).toNat ||| ((y.toNat : Int) % 2 ^ IntKind.u32.bits).toNat : Nat)) : Int) = ((x ||| y).toNat : Int) := by
  rw [w_in, w_in, ← UInt32.toNat_or, w_self]
theorem w_xor (x y : UInt32) : IntKind.u32.wrap (((((x.toNat : Int) % 2 ^ IntKind.u32.bits).toNat ^^^ ((y.toNat : Int) % 2 ^ IntKind.u32.bits).toNat : Nat)) : Int) = ((x ^^^ y).toNat : Int) := by
  rw [w_in, w_in, ← UInt32.toNat_xor, w_self]
theorem w_shl (x : UInt32) (n : Nat) (h : n < 32) : IntKind.u32.wrap ((x.toNat : Int) * 2 ^ (min (n : Int).toNat IntKind.u32.bits)) = ((x <<< UInt32.ofNat n).toNat : Int) := by
  have e : min (n : Int).toNat IntKind.u32.bits = n := by
    show min (n : Int).toNat 32 = n
    omega
  rw [e, IntKind.wrap_u32, UInt32.toNat_shiftLeft, UInt32.toNat_ofNat']
  have e2 : n % 2 ^ 32 % 32 = n := by omega
  rw [e2, Nat.shiftLeft_eq]
  simp
theorem w_shr (x : UInt32) (n : Nat) (h : n < 32) : (x.toNat : Int).fdiv (2 ^ (min (n : Int).toNat IntKind.u32.bits)) = ((x >>> UInt32.ofNat n).toNat : Int) := by
  have e : min (n : Int).toNat IntKind.u32.bits = n := by
    show min (n : Int).toNat 32 = n
    omega
  rw [e, UInt32.toNat_shiftRight, UInt32.toNat_ofNat']
  have e2 : n % 2 ^ 32 % 32 = n := by omega
  rw [e2, Nat.shiftRight_eq_div_pow, Int.fdiv_eq_ediv_of_nonneg _ (by exact Int.le_of_lt (Int.pow_pos (by decide)))]
  simp
theorem w_not (x : UInt32) : IntKind.u32.wrap ((((IntKind.u32.max % 2 ^ IntKind.u32.bits).toNat ^^^ ((x.toNat : Int) % 2 ^ IntKind.u32.bits).toNat : Nat)) : Int) = ((~~~ x).toNat : Int) := by
  have h : IntKind.u32.max = ((4294967295 : UInt32).toNat : Int) := by decide
  rw [h, w_xor]
  congr 2
theorem w_of8 (b : UInt8) : IntKind.u32.wrap ((b.toNat : Nat) : Int) = ((b.toUInt32).toNat : Int) := by
  rw [IntKind.wrap_u32]; have := b.toNat_lt; simp; omega
theorem w_to8 (x : UInt32) : IntKind.u8.wrap ((x.toNat : Nat) : Int) = ((x.toUInt8).toNat : Int) := by
  rw [IntKind.wrap_u8]; simp
def rot (x : UInt32) (n : Nat) : UInt32 := x >>> UInt32.ofNat n ||| x <<< UInt32.ofNat (32 - n)
def shA (x : UInt32) : UInt32 := rot x 7 ^^^ rot x 18 ^^^ x >>> UInt32.ofNat 3
def shB (x : UInt32) : UInt32 := rot x 17 ^^^ rot x 19 ^^^ x >>> UInt32.ofNat 10
def word (a b c d : UInt8) : UInt32 := a.toUInt32 <<< UInt32.ofNat 24 ||| b.toUInt32 <<< UInt32.ofNat 16 ||| c.toUInt32 <<< UInt32.ofNat 8 ||| d.toUInt32
def gb (p : List UInt8) (i : Nat) : UInt8 := p.getD i 0
def gw (p : List UInt32) (i : Nat) : UInt32 := p.getD i 0
def nxt (p : List UInt8) (ws : List UInt32) (n : Nat) : UInt32 :=
  if n < 16 then word (gb p (4 * n)) (gb p (4 * n + 1)) (gb p (4 * n + 2)) (gb p (4 * n + 3))
  else gw ws (n - 16) + shA (gw ws (n - 15)) + gw ws (n - 7) + shB (gw ws (n - 2))
def sched (p : List UInt8) : Nat → List UInt32
  | 0 => []
  | n + 1 => sched p n ++ [nxt p (sched p n) n]
theorem sched_len (p : List UInt8) : ∀ n, (sched p n).length = n
  | 0 => rfl
  | n + 1 => by simp [sched, sched_len p n]
structure S8 where
  a : UInt32
  b : UInt32
  c : UInt32
  d : UInt32
  e : UInt32
  f : UInt32
  g : UInt32
  z : UInt32
def S8.x (s : S8) (k w : UInt32) : UInt32 := s.z + (rot s.e 6 ^^^ rot s.e 11 ^^^ rot s.e 25) + ((s.e &&& s.f) ^^^ (~~~ s.e &&& s.g)) + k + w
def S8.y (s : S8) : UInt32 := (rot s.a 2 ^^^ rot s.a 13 ^^^ rot s.a 22) + ((s.a &&& s.b) ^^^ (s.a &&& s.c) ^^^ (s.b &&& s.c))
def S8.rnd (s : S8) (k w : UInt32) : S8 := ⟨s.x k w + s.y, s.a, s.b, s.c, s.d + s.x k w, s.e, s.f, s.g⟩
def S8.rnds (s : S8) (ks ws : List UInt32) : Nat → S8
  | 0 => s
  | n + 1 => (s.rnds ks ws n).rnd (gw ks n) (gw ws n)
def S8.plus (h r : S8) : S8 := ⟨h.a + r.a, h.b + r.b, h.c + r.c, h.d + r.d, h.e + r.e, h.f + r.f, h.g + r.g, h.z + r.z⟩
def shK : List UInt32 := [
    0x428a2f98, 0x71374491, 0xb5c0fbcf, 0xe9b5dba5, 0x3956c25b, 0x59f111f1, 0x923f82a4, 0xab1c5ed5,
    0xd807aa98, 0x12835b01, 0x243185be, 0x550c7dc3, 0x72be5d74, 0x80deb1fe, 0x9bdc06a7, 0xc19bf174,
    0xe49b69c1, 0xefbe4786, 0x0fc19dc6, 0x240ca1cc, 0x2de92c6f, 0x4a7484aa, 0x5cb0a9dc, 0x76f988da,
    0x983e5152, 0xa831c66d, 0xb00327c8, 0xbf597fc7, 0xc6e00bf3, 0xd5a79147, 0x06ca6351, 0x14292967,
    0x27b70a85, 0x2e1b2138, 0x4d2c6dfc, 0x53380d13, 0x650a7354, 0x766a0abb, 0x81c2c92e, 0x92722c85,
    0xa2bfe8a1, 0xa81a664b, 0xc24b8b70, 0xc76c51a3, 0xd192e819, 0xd6990624, 0xf40e3585, 0x106aa070,
    0x19a4c116, 0x1e376c08, 0x2748774c, 0x34b0bcb5, 0x391c0cb3, 0x4ed8aa4a, 0x5b9cca4f, 0x682e6ff3,
    0x748f82ee, 0x78a5636f, 0x84c87814, 0x8cc70208, 0x90befffa, 0xa4506ceb, 0xbef9a3f7, 0xc67178f2]
def S8.mix (h : S8) (p : List UInt8) : S8 := h.plus (h.rnds shK (sched p 64) 64)
def sh0 : S8 := ⟨0x6a09e667, 0xbb67ae85, 0x3c6ef372, 0xa54ff53a, 0x510e527f, 0x9b05688c, 0x1f83d9ab, 0x5be0cd19⟩
/-- So many blocks of bytes. -/
def S8.blks (h : S8) (p : List UInt8) : Nat → S8
  | 0 => h
  | n + 1 => (h.blks p n).mix (p.drop (64 * n))
theorem S8.blks_zero (h : S8) (p : List UInt8) : h.blks p 0 = h := rfl
theorem S8.blks_succ (h : S8) (p : List UInt8) (n : Nat) : h.blks p (n + 1) = (h.blks p n).mix (p.drop (64 * n)) := rfl
theorem sched_take {p q : List UInt8} (h : ∀ i, i < 64 → gb p i = gb q i) : ∀ n, sched p n = sched q n
  | 0 => rfl
  | n + 1 => by
    have ih := sched_take h n
    have e : nxt p (sched q n) n = nxt q (sched q n) n := by
      unfold nxt
      split
      · rw [h _ (by omega), h _ (by omega), h _ (by omega), h _ (by omega)]
      · rfl
    show sched p n ++ [nxt p (sched p n) n] = sched q n ++ [nxt q (sched q n) n]
    rw [ih, e]
theorem S8.mix_take (s : S8) {p q : List UInt8} (h : ∀ i, i < 64 → gb p i = gb q i) : s.mix p = s.mix q := by
  unfold S8.mix; rw [sched_take h]
theorem gb_app {p q : List UInt8} {i : Nat} (h : i < p.length) : gb (p ++ q) i = gb p i := by
  unfold gb; rw [List.getD_eq_getElem?_getD, List.getD_eq_getElem?_getD, List.getElem?_append_left h]
theorem S8.blks_app (s : S8) (p q : List UInt8) : ∀ n, 64 * n ≤ p.length → s.blks (p ++ q) n = s.blks p n
  | 0, _ => rfl
  | n + 1, h => by
    unfold S8.blks
    rw [S8.blks_app s p q n (by omega), List.drop_append_of_le_length (by omega)]
    exact S8.mix_take _ fun i hi => gb_app (by rw [List.length_drop]; omega)
theorem S8.blks_add (s : S8) (p : List UInt8) (k : Nat) : ∀ n, (s.blks p k).blks (p.drop (64 * k)) n = s.blks p (k + n)
  | 0 => rfl
  | n + 1 => by
    show S8.mix _ _ = S8.mix _ _
    rw [S8.blks_add s p k n, List.drop_drop]; congr 2; show _ = 64 * (k + n); omega
/-- How many zeros a sum's last bytes have. -/
def padN (n : Nat) : Nat := (119 - n % 64) % 64
theorem word_sum (a b c d : UInt8) : word a b c d = a.toUInt32 * 16777216 + b.toUInt32 * 65536 + c.toUInt32 * 256 + d.toUInt32 := by
  have ha := a.toNat_lt; have hb := b.toNat_lt; have hc := c.toNat_lt; have hd := d.toNat_lt
  unfold word
  apply UInt32.toNat_inj.1
  simp only [UInt32.toNat_or, UInt32.toNat_shiftLeft, UInt32.toNat_add, UInt32.toNat_mul, UInt8.toNat_toUInt32, UInt32.toNat_ofNat', UInt32.reduceToNat]
  have e1 : a.toNat <<< (24 % 2 ^ 32 % 32) % 2 ^ 32 = 2 ^ 24 * a.toNat := by
    show a.toNat <<< 24 % 2 ^ 32 = _
    rw [Nat.shiftLeft_eq]; omega
  have e2 : b.toNat <<< (16 % 2 ^ 32 % 32) % 2 ^ 32 = 2 ^ 16 * b.toNat := by
    show b.toNat <<< 16 % 2 ^ 32 = _
    rw [Nat.shiftLeft_eq]; omega
  have e3 : c.toNat <<< (8 % 2 ^ 32 % 32) % 2 ^ 32 = 2 ^ 8 * c.toNat := by
    show c.toNat <<< 8 % 2 ^ 32 = _
    rw [Nat.shiftLeft_eq]; omega
  rw [e1, e2, e3, Nat.or_assoc, Nat.or_assoc, ← Nat.two_pow_add_eq_or_of_lt (by omega : d.toNat < 2 ^ 8), ← Nat.two_pow_add_eq_or_of_lt (by omega : 2 ^ 8 * c.toNat + d.toNat < 2 ^ 16), ← Nat.two_pow_add_eq_or_of_lt (by omega : 2 ^ 16 * b.toNat + (2 ^ 8 * c.toNat + d.toNat) < 2 ^ 24)]
  omega

/-- What is laid behind so many bytes. -/
def padT (n : Nat) : List UInt8 := 0x80 :: (List.replicate (padN n) 0 ++ be 8 (n * 8))
theorem padT_len (n : Nat) : (padT n).length = padN n + 9 := by simp [padT, be_length]
theorem padN_spec (n : Nat) : (n + 1 + padN n) % 64 = 56 ∧ ∀ j, j < padN n → ¬ (n + 1 + j) % 64 = 56 := by
  unfold padN
  exact ⟨by omega, fun j hj => by omega⟩
def S8.bytes (s : S8) : List UInt8 := be 4 s.a.toNat ++ be 4 s.b.toNat ++ be 4 s.c.toNat ++ be 4 s.d.toNat ++ be 4 s.e.toNat ++ be 4 s.f.toNat ++ be 4 s.g.toNat ++ be 4 s.z.toNat
theorem S8.bytes_len (s : S8) : s.bytes.length = 32 := by simp [S8.bytes, be_length]
theorem be4 (x : UInt32) : be 4 x.toNat = [(x >>> UInt32.ofNat 24).toUInt8, (x >>> UInt32.ofNat 16).toUInt8, (x >>> UInt32.ofNat 8).toUInt8, x.toUInt8] := by
  have h : ∀ k : Nat, k < 32 → (x >>> UInt32.ofNat k).toUInt8 = UInt8.ofNat (x.toNat / 2 ^ k) := fun k hk => by
    apply UInt8.toNat_inj.1
    rw [UInt32.toNat_toUInt8, UInt32.toNat_shiftRight, UInt32.toNat_ofNat', UInt8.toNat_ofNat', show k % 2 ^ 32 % 32 = k by omega, Nat.shiftRight_eq_div_pow]
  have h0 : x.toUInt8 = UInt8.ofNat x.toNat := by
    apply UInt8.toNat_inj.1
    rw [UInt32.toNat_toUInt8, UInt8.toNat_ofNat']
  rw [h 24 (by omega), h 16 (by omega), h 8 (by omega), h0]
  simp [be]
theorem be4' (x : UInt32) : be 4 x.toNat = [(x / 256 / 256 / 256 % 256).toUInt8, (x / 256 / 256 % 256).toUInt8, (x / 256 % 256).toUInt8, (x % 256).toUInt8] := by
  have h : ∀ y : UInt32, (y % 256).toUInt8 = UInt8.ofNat y.toNat := fun y => by
    apply UInt8.toNat_inj.1
    rw [UInt32.toNat_toUInt8, UInt32.toNat_mod, UInt8.toNat_ofNat']
    show y.toNat % 256 % 256 = y.toNat % 256
    omega
  have d : ∀ y : UInt32, (y / 256).toNat = y.toNat / 256 := fun y => by rw [UInt32.toNat_div]; rfl
  rw [h, h, h, h, d, d, d]
  simp [be, Nat.div_div_eq_div_mul]
theorem shr_byte2 {n k : Nat} {z : Int} (hz : z = 8 * (k : Int)) (hk : k < 8) : Int.fdiv (n : Int) (2 ^ (min z.toNat IntKind.u64.bits)) = ((n / 256 ^ k : Nat) : Int) := by
  subst hz; exact shr_byte rfl hk
theorem S8.bytes_cells (s : S8) : u8s s.bytes = [u8 (s.a >>> UInt32.ofNat 24).toUInt8, u8 (s.a >>> UInt32.ofNat 16).toUInt8, u8 (s.a >>> UInt32.ofNat 8).toUInt8, u8 s.a.toUInt8, u8 (s.b >>> UInt32.ofNat 24).toUInt8, u8 (s.b >>> UInt32.ofNat 16).toUInt8, u8 (s.b >>> UInt32.ofNat 8).toUInt8, u8 s.b.toUInt8, u8 (s.c >>> UInt32.ofNat 24).toUInt8, u8 (s.c >>> UInt32.ofNat 16).toUInt8, u8 (s.c >>> UInt32.ofNat 8).toUInt8, u8 s.c.toUInt8, u8 (s.d >>> UInt32.ofNat 24).toUInt8, u8 (s.d >>> UInt32.ofNat 16).toUInt8, u8 (s.d >>> UInt32.ofNat 8).toUInt8, u8 s.d.toUInt8, u8 (s.e >>> UInt32.ofNat 24).toUInt8, u8 (s.e >>> UInt32.ofNat 16).toUInt8, u8 (s.e >>> UInt32.ofNat 8).toUInt8, u8 s.e.toUInt8, u8 (s.f >>> UInt32.ofNat 24).toUInt8, u8 (s.f >>> UInt32.ofNat 16).toUInt8, u8 (s.f >>> UInt32.ofNat 8).toUInt8, u8 s.f.toUInt8, u8 (s.g >>> UInt32.ofNat 24).toUInt8, u8 (s.g >>> UInt32.ofNat 16).toUInt8, u8 (s.g >>> UInt32.ofNat 8).toUInt8, u8 s.g.toUInt8, u8 (s.z >>> UInt32.ofNat 24).toUInt8, u8 (s.z >>> UInt32.ofNat 16).toUInt8, u8 (s.z >>> UInt32.ofNat 8).toUInt8, u8 s.z.toUInt8] := by
  unfold S8.bytes
  rw [be4, be4, be4, be4, be4, be4, be4, be4]; rfl
theorem all1_sing {v : Value} (h : v.oneCell' = true) : Value.all1 [v] := fun u hu => by
  rw [List.mem_singleton] at hu; subst hu; exact h
/-- The sum of bytes. -/
def shaP (p : List UInt8) : List UInt8 := (sh0.blks (p ++ padT p.length) ((p ++ padT p.length).length / 64)).bytes
theorem shaP_len (p : List UInt8) : (shaP p).length = 32 := S8.bytes_len _
/-- What is left over. -/
def shR (p : List UInt8) : List UInt8 := p.drop (64 * (p.length / 64))
theorem shR_len (p : List UInt8) : (shR p).length = p.length % 64 := by unfold shR; rw [List.length_drop]; omega
theorem sha_rest (p : List UInt8) : ((sh0.blks p (p.length / 64)).blks (shR p ++ padT p.length) ((shR p ++ padT p.length).length / 64)).bytes = shaP p := by
  unfold shaP
  have e1 : shR p ++ padT p.length = (p ++ padT p.length).drop (64 * (p.length / 64)) := by
    unfold shR; rw [List.drop_append_of_le_length (by omega)]
  rw [e1, ← S8.blks_app sh0 p (padT p.length) (p.length / 64) (by omega), S8.blks_add]
  congr 2
  rw [List.length_drop, List.length_append]
  have := padT_len p.length
  have := (padN_spec p.length).1
  omega
theorem gw_get {ws : List UInt32} {i : Nat} (h : i < ws.length) : ws[i]? = some (gw ws i) := by
  unfold gw; rw [List.getD_eq_getElem?_getD, List.getElem?_eq_getElem h]; rfl
theorem gb_get {ws : List UInt8} {i : Nat} (h : i < ws.length) : ws[i]? = some (gb ws i) := by
  unfold gb; rw [List.getD_eq_getElem?_getD, List.getElem?_eq_getElem h]; rfl
theorem gb_drop (p : List UInt8) (k i : Nat) : gb (p.drop k) i = gb p (k + i) := by
  unfold gb; rw [List.getD_eq_getElem?_getD, List.getD_eq_getElem?_getD, List.getElem?_drop]
def w32s (l : List UInt32) : List Value := l.map w32
theorem w32s_length (l : List UInt32) : (w32s l).length = l.length := by simp [w32s]
def S8.cells (s : S8) : List Value := [w32 s.a, w32 s.b, w32 s.c, w32 s.d, w32 s.e, w32 s.f, w32 s.g, w32 s.z]
/-- The words' block behind so many. -/
def wcells (ws : List UInt32) : List Value := w32s (ws ++ List.replicate (64 - ws.length) 0)
theorem wcells_len {ws : List UInt32} (h : ws.length ≤ 64) : (wcells ws).length = 64 := by simp [wcells, w32s]; omega
theorem wcells_get {ws : List UInt32} {i : Nat} (h : i < ws.length) : (wcells ws)[i]? = some (w32 (gw ws i)) := by
  unfold wcells w32s
  rw [List.getElem?_map, List.getElem?_append_left h, gw_get h]; rfl
theorem wcells_set {ws : List UInt32} (h : ws.length < 64) (x : UInt32) : (wcells ws).set ws.length (w32 x) = wcells (ws ++ [x]) := by
  unfold wcells w32s
  rw [← List.map_set, List.set_append, if_neg (by omega), Nat.sub_self, show 64 - ws.length = (64 - (ws ++ [x]).length) + 1 by simp; omega, List.replicate_succ, List.set_cons_zero, List.append_assoc]; rfl
theorem wcells_nil : wcells [] = List.replicate 64 (.int .u32 0) := by simp [wcells, w32s, w32]
end Go.Fp
