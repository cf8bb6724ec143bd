/- PIECES: plainly, as objects; the WALKS of Split. -/
import Derived.Test.YtfcmjlbfoindaaaSl3
import Derived.Test.YtfcmjlbfoindaaaFc
import Derived.Test.YtfcmjlbfoindaaaRefO03
namespace Go.Fp
open Go Go.RowKit
theorem flatG_get {α : Type} (k : Nat) : ∀ (ls : List (List α)), (∀ l, l ∈ ls → l.length = k) → ∀ (j : Nat) (a : List α), ls[j]? = some a → ∀ i, i < k → ls.flatten[j * k + i]? = a[i]?
  | [], _, j, a, h, _, _ => by simp at h
  | l :: ls, hls, 0, a, h, i, hi => by
    have hl := hls l (by simp)
    simp only [List.getElem?_cons_zero, Option.some.injEq] at h
    subst h
    rw [List.flatten_cons, Nat.zero_mul, Nat.zero_add, List.getElem?_append_left (by omega)]
  | l :: ls, hls, j + 1, a, h, i, hi => by
    have hl := hls l (by simp)
    rw [List.getElem?_cons_succ] at h
    rw [List.flatten_cons, List.getElem?_append_right (by rw [Nat.add_mul]; omega), show (j + 1) * k + i - l.length = j * k + i by rw [Nat.add_mul]; omega]
    exact flatG_get k ls (fun l h => hls l (List.mem_cons_of_mem _ h)) j a h i hi
/-- A row of a slice of structs. -/
theorem Rdz.row {w : World} {B off n k : Nat} {ls : List (List Value)} (h : Rdz w (some ⟨B, off, none⟩) n k ls.flatten) (hls : ∀ l, l ∈ ls → l.length = k) {j : Nat} {a : List Value} (hj : ls[j]? = some a) (i : Nat) (v : Value) (hv : a[i]? = some v) : w.cell? ⟨B, off + j * k + i, none⟩ = some v := by
  have ha := hls a (List.mem_of_getElem? hj)
  have hi := (List.getElem?_eq_some_iff.1 hv).1
  rw [ha] at hi
  rw [Nat.add_assoc]
  exact h.cell rfl (by rw [flatG_get k ls hls j a hj i hi]; exact hv)
theorem flatG_length {α : Type} (k : Nat) : ∀ (ls : List (List α)), (∀ l, l ∈ ls → l.length = k) → ls.flatten.length = ls.length * k
  | [], _ => by simp
  | l :: ls, h => by rw [List.flatten_cons, List.length_append, flatG_length k ls (fun x hx => h x (List.mem_cons_of_mem _ hx)), h l (by simp), List.length_cons, Nat.add_mul]; omega
end Go.Fp
namespace Go.Proofs.Ytfcmjlbfoindaaa
open Go.RowKit Go.Fp
attribute [local irreducible] Go.Calls
set_option maxRecDepth 100000
set_option maxHeartbeats 4000000
/-- A piece, plainly. -/
structure Pc where
  id : Nat
  at_ : Int
  many : Int
  part : List UInt8
/-- A piece as it lies in memory. -/
structure Pr where
  p : Pc
  x : Option Addr
  c : Nat
def Pr.cells (r : Pr) : List Value := [.int .u32 r.p.id, .int .i64 r.p.at_, .int .i64 r.p.many, .slice r.x r.p.part.length r.c]
def Pr.ob (r : Pr) : Ob := Ob.own 5 1 (.slice r.x r.p.part.length r.c) r.p.part.length (u8s r.p.part)
theorem Pr.len (r : Pr) : r.cells.length = 4 := rfl
theorem pr_one (a b c : Int) (x : Option Addr) (n k : Nat) : Value.all1 [.int .u32 a, .int .i64 b, .int .i64 c, .slice x n k] := fun u hu => by
  simp only [List.mem_cons, List.not_mem_nil, or_false] at hu; rcases hu with rfl | rfl | rfl | rfl <;> rfl
theorem prs_len (ps : List Pr) : ∀ l, l ∈ ps.map Pr.cells → l.length = 4 := fun l hl => by obtain ⟨r, _, rfl⟩ := List.mem_map.1 hl; rfl
def cutP (bs : List UInt8) (sz j : Nat) : List UInt8 := (bs.drop (j * sz)).take sz
def manyP (n sz : Nat) : Nat := max 1 ((n + sz - 1) / sz)
/-- A body's pieces. -/
def splitP (id : Nat) (bs : List UInt8) (sz k : Nat) : List Pc := (List.range k).map fun j => ⟨id, (j : Nat), (manyP bs.length sz : Nat), cutP bs sz j⟩
theorem splitP_succ (id : Nat) (bs : List UInt8) (sz k : Nat) : splitP id bs sz (k + 1) = splitP id bs sz k ++ [⟨id, (k : Nat), (manyP bs.length sz : Nat), cutP bs sz k⟩] := by simp [splitP, List.range_succ]
theorem cut_hi (bs : List UInt8) (sz j : Nat) : ((bs.drop (min (j * sz) bs.length)).take (min ((j + 1) * sz) bs.length - min (j * sz) bs.length)) = cutP bs sz j := by
  unfold cutP
  rw [Nat.add_mul, Nat.one_mul]
  rcases Nat.le_total (j * sz) bs.length with h | h
  · rw [Nat.min_eq_left h]
    rcases Nat.le_total (j * sz + sz) bs.length with h2 | h2
    · rw [Nat.min_eq_left h2, Nat.add_sub_cancel_left]
    · rw [Nat.min_eq_right h2, List.take_of_length_le (by simp), List.take_of_length_le (by simp; omega)]
  · rw [Nat.min_eq_right h, Nat.min_eq_right (by omega), Nat.sub_self, List.drop_eq_nil_of_le (Nat.le_refl _), List.drop_eq_nil_of_le h]; simp
theorem manyP_le {n sz : Nat} (hs : 1 ≤ sz) (h : n ≤ sz * 32) : 1 ≤ manyP n sz ∧ manyP n sz ≤ 32 := by
  unfold manyP
  have : (n + sz - 1) / sz ≤ 32 := by
    have h1 : (n + sz - 1) / sz < 33 := by rw [Nat.div_lt_iff_lt_mul hs]; omega
    omega
  omega
end Go.Proofs.Ytfcmjlbfoindaaa
/- THE WALKS: the document's Split; where there are no pieces. -/
namespace Go.Proofs.Ytfcmjlbfoindaaa
open Go.RowKit Go.Fp
attribute [local irreducible] Go.Calls
set_option maxRecDepth 100000
set_option maxHeartbeats 4000000
theorem manyP_eq {n sz : Nat} (hs : 1 ≤ sz) : ((¬ n % sz = 0 ∨ n / sz = 0) → manyP n sz = n / sz + 1) ∧ ((n % sz = 0 ∧ ¬ n / sz = 0) → manyP n sz = n / sz) := by
  have hd := Nat.div_add_mod n sz
  have hr := Nat.mod_lt n hs
  have e1 : n % sz = 0 → (n + sz - 1) / sz = n / sz := fun h => by
    apply Nat.div_eq_of_lt_le
    · rw [Nat.mul_comm]; omega
    · rw [Nat.add_mul, Nat.mul_comm, Nat.one_mul]; omega
  have e2 : ¬ n % sz = 0 → (n + sz - 1) / sz = n / sz + 1 := fun h => by
    apply Nat.div_eq_of_lt_le
    · rw [Nat.add_mul, Nat.mul_comm, Nat.one_mul]; omega
    · rw [Nat.add_mul, Nat.add_mul, Nat.mul_comm, Nat.one_mul]; omega
  have e3 : n % sz = 0 ∨ ¬ n % sz = 0 := Decidable.em _
  unfold manyP
  clear hd hr hs
  generalize (n + sz - 1) / sz = X at *
  generalize n / sz = D at *
  generalize n % sz = E at *
  constructor
  · intro h
    rcases e3 with h0 | h0
    · have := e1 h0; omega
    · have := e2 h0; omega
  · rintro ⟨h0, h1⟩
    have := e1 h0; omega
theorem manyP_gt {n sz : Nat} (hs : 1 ≤ sz) (h : sz * 32 < n) : 32 < manyP n sz := by
  unfold manyP
  have : 33 ≤ (n + sz - 1) / sz := by rw [Nat.le_div_iff_mul_le hs]; omega
  omega
/-- Why there are no pieces. -/
def splitE (n : Nat) (size : Int) : Int := if size < 1 ∨ 4096 < size ∨ 16384 < n then 1 else if size * 32 < n then 8 else 0
end Go.Proofs.Ytfcmjlbfoindaaa
/- THE WALKS of small things: may a piece be, the same, as the other's. -/
namespace Go.Proofs.Ytfcmjlbfoindaaa
open Go.RowKit Go.Fp
attribute [local irreducible] Go.Calls
set_option maxRecDepth 100000
set_option maxHeartbeats 4000000
/-- May a piece be? -/
def rightP (p : Pc) : Prop := 1 ≤ p.many ∧ p.many ≤ 32 ∧ 0 ≤ p.at_ ∧ p.at_ < p.many ∧ p.part.length ≤ 4096
instance (p : Pc) : Decidable (rightP p) := by unfold rightP; infer_instance
end Go.Proofs.Ytfcmjlbfoindaaa
/- THE WALKS: a piece's bytes, of both. -/
namespace Go.Proofs.Ytfcmjlbfoindaaa
open Go.RowKit Go.Fp
attribute [local irreducible] Go.Calls
set_option maxRecDepth 100000
set_option maxHeartbeats 8000000
/-- A piece's bytes. -/
def putO (id a k : Nat) (part : List UInt8) : List UInt8 × Bool := blobO part (numO 1 k (numO 1 a (numO 4 id ([], false))))
theorem numO_fit {k n : Nat} {o : List UInt8 × Bool} (h : n / 256 ^ k = 0) : numO k n o = (o.1 ++ be k n, o.2) := if_neg fun h1 => h1.2 h
theorem putO_eq {id a k : Nat} {part : List UInt8} (hid : id < 4294967296) (ha : a < 256) (hk : k < 256) (hp : part.length ≤ 4096) :
    putO id a k part = (be 4 id ++ be 1 a ++ be 1 k ++ be 2 part.length ++ part, false) := by
  unfold putO blobO
  rw [if_neg (by omega), numO_fit (k := 4) (Nat.div_eq_of_lt (by omega)), numO_fit (k := 1) (Nat.div_eq_of_lt (by omega)), numO_fit (k := 1) (Nat.div_eq_of_lt (by omega)), numO_fit (k := 2) (Nat.div_eq_of_lt (by omega))]
  simp
section
variable (id a k : Nat) (part : List UInt8) (x : Option Addr) (c : Nat) (hx : x = none → part.length = 0 ∧ c = 0) (hid : id < 4294967296)
include hx hid
end
section
variable (r : Pr) (hr : ¬ rightP r.p) (w : World)
include hr
end
end Go.Proofs.Ytfcmjlbfoindaaa
