/- BODIES: plainly, in memory; the WALKS of both Bodies. -/
import Derived.Test.YtfcmjlbfoindaaaPce13
namespace Go.Fp
open Go Go.RowKit
/-- What was built of parts may grow. -/
theorem Ent.blk_own {g e n sz : Nat} {vs : List Value} (hl : vs.length = n * sz) (hn : n ≤ maxLen) : Ob.Ent (Ob.blk g e vs) (Ob.own e sz (.slice (some ⟨g, 0, none⟩) n n) n vs) := by
  rintro f w ⟨rfl, h⟩
  exact ⟨[g], ⟨rfl, hl, .inr ⟨g, n, vs.toArray, rfl, Nat.zero_le _, h, Nat.le_refl _, hn, by simpa using hl, by rw [List.take_of_length_le (by simp; omega)]⟩⟩, fun _ hk => hk⟩
theorem own_le {w : World} {e : TypeId} {sz n c : Nat} {x : Option Addr} {xs : List Value} (h : w.ownsRow 0 e sz (.slice x n c) n xs) : n ≤ c := by
  rcases h.2 with ⟨h1, h2⟩ | ⟨g, cap, cur, h0, _, _, h3, _⟩
  · cases h1; omega
  · cases h0; exact h3
theorem Tk.blkOwn {S : List Nat} {w0 w : World} {l m : List Ob} {g e n sz : Nat} {vs : List Value} (h : Tk S w0 w (Ob.blk g e vs :: l) m) (hl : vs.length = n * sz) (hn : n ≤ maxLen) : Tk S w0 w (Ob.own e sz (.slice (some ⟨g, 0, none⟩) n n) n vs :: l) m :=
  h.ent (Ob.Ent.sep (Ent.blk_own hl hn) (Ob.Ent.refl _))
end Go.Fp
namespace Go.Proofs.Ytfcmjlbfoindaaa
open Go.RowKit Go.Fp
attribute [local irreducible] Go.Calls
set_option maxRecDepth 100000
set_option maxHeartbeats 8000000
theorem pr_load2 {w : World} {B off n : Nat} {ps : List Pr} (h : Rdz w (some ⟨B, off, none⟩) n 4 (ps.map Pr.cells).flatten) {j : Nat} {r : Pr} (hj : ps[j]? = some r) (i : Nat) (v : Value) (hv : r.cells[i]? = some v) : w.cell? ⟨B, off + j * 4 + i, none⟩ = some v :=
  h.row (prs_len ps) (by rw [List.getElem?_map, hj]; rfl) i v hv
theorem Tk.mnilO {S : List Nat} {w0 w : World} {l m : List Ob} (h : Tk S w0 w l m) {r : Pr} (ho : r.ob ∈ m) : r.x = none → r.p.part.length = 0 ∧ r.c = 0 := by
  obtain ⟨i, hi⟩ := List.getElem?_of_mem ho
  obtain ⟨f, _, h⟩ := h.ro i hi
  exact own_nil h
/-- A body as it lies in memory. -/
structure Bd where
  k : Int
  x : Option Addr
  c : Nat
  bs : List UInt8
def Bd.cells (b : Bd) : List Value := [.int .i64 b.k, .slice b.x b.bs.length b.c]
def Bd.kv (b : Bd) : Int × List UInt8 := (b.k, b.bs)
def Bd.rd (b : Bd) : Ob := Ob.rd b.x b.bs.length 1 (u8s b.bs)
def Bd.ob (b : Bd) : Ob := Ob.own 5 1 (.slice b.x b.bs.length b.c) b.bs.length (u8s b.bs)
theorem split_get {id sz k j : Nat} {bs : List UInt8} (h : j < k) : (splitP id bs sz k)[j]? = some ⟨id, (j : Nat), (manyP bs.length sz : Nat), cutP bs sz j⟩ := by simp [splitP, h]
theorem bds_len (bs : List Bd) : ∀ l, l ∈ bs.map Bd.cells → l.length = 2 := fun l hl => by obtain ⟨r, _, rfl⟩ := List.mem_map.1 hl; rfl
theorem bd_load {w : World} {B off n : Nat} {ps : List Bd} (h : Rdz w (some ⟨B, off, none⟩) n 2 (ps.map Bd.cells).flatten) {j : Nat} {r : Bd} (hj : ps[j]? = some r) (i : Nat) (v : Value) (hv : r.cells[i]? = some v) : w.cell? ⟨B, off + j * 2 + i, none⟩ = some v :=
  h.row (bds_len ps) (by rw [List.getElem?_map, hj]; rfl) i v hv
theorem bd_one (a : Int) (x : Option Addr) (n k : Nat) : Value.all1 [.int .i64 a, .slice x n k] := fun u hu => by
  simp only [List.mem_cons, List.not_mem_nil, or_false] at hu; rcases hu with rfl | rfl <;> rfl
def pcB (p : Pc) : List UInt8 := (putO p.id p.at_.toNat p.many.toNat p.part).1
/-- What a body comes to. -/
def bodsP (id : Nat) (al : List UInt8) (sz : Nat) : List (Int × List UInt8) := (splitP id al sz (manyP al.length sz)).map fun p => (4, pcB p)
def BdPost (T : Nat) (w : World) (m : List Ob) (ls : List (Int × List UInt8)) (E : Int) (e : Ending) (w' : World) : Prop :=
  ∃ (x' : Option Addr) (c' : Nat) (bds : List Bd) (os : List Ob), e = .returned (.tuple #[.slice x' bds.length c', .int .i64 E]) ∧ bds.map Bd.kv = ls ∧ Tk [] w w' [Ob.own T 2 (.slice x' bds.length c') bds.length (bds.map Bd.cells).flatten, Ob.all os] m ∧ ∀ b, b ∈ bds → ∃ o, o ∈ os ++ m ∧ Ob.Ent o b.rd
theorem cutP_le (bs : List UInt8) (sz j : Nat) : (cutP bs sz j).length ≤ sz := by unfold cutP; rw [List.length_take]; omega
section
variable (id : Nat) (kb : UInt8) (hkb : 1 ≤ kb.toNat ∧ kb.toNat ≤ 3) (x : Option Addr) (c : Nat) (bs : List UInt8) (hx : x = none → bs.length = 0 ∧ c = 0) (w : World) {m : List Ob} (hT : Tk [] w w [] (Ob.rd x bs.length 1 (u8s bs) :: m))
include hkb hx hT
end
section
variable (id : Nat) (kb : UInt8) (hkb : 1 ≤ kb.toNat ∧ kb.toNat ≤ 3) (x : Option Addr) (c : Nat) (bs : List UInt8) (w : World) {m : List Ob} (hT : Tk [] w w [] (Ob.rd x bs.length 1 (u8s bs) :: m))
include hkb hT
end
section
variable (id : Nat) (hid : id < 4294967296) (kb : UInt8) (hkb : 1 ≤ kb.toNat ∧ kb.toNat ≤ 3) (x : Option Addr) (c : Nat) (bs : List UInt8) (hx : x = none → bs.length = 0 ∧ c = 0) (w : World) {m : List Ob} (hT : Tk [] w w [] (Ob.rd x bs.length 1 (u8s bs) :: m))
include hid hkb hx hT
end
end Go.Proofs.Ytfcmjlbfoindaaa
