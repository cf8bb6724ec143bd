/- OBJECTS AND FRAMES: a block that is known whole; what a call leaves as it was. -/
import Derived.Below
import Derived.WalkKit
namespace Go.Fp
open Go Go.RowKit

theorem ret_int {k : IntKind} {a b : Int} (h : a = b) : Ending.returned (.int k a) = .returned (.int k b) := by rw [h]
theorem ret_bool {a b : Bool} (h : a = b) : Ending.returned (.bool a) = .returned (.bool b) := by rw [h]

/-- A fact that the walk is not to use. -/
theorem hid {p : Prop} (h : p) : Hid p := h

/-- What is to be shown of a call goes behind a variable: the walk doesn't look into it. -/
theorem calls_cps {P : Program} {f : FuncId} {args : Array Value} {w : World} {R : Ending → World → Prop}
    (h : ∀ R' : Ending → World → Prop, Hid (∀ e w', R e w' → R' e w') → Calls P f args w R') : Calls P f args w R := h R fun _ _ h => h

/-- Block g is one object of type T with these cells; none of them is frozen. -/
def Has (w : World) (g : Nat) (T : TypeId) (cs : Array Value) : Prop := w.heap[g]? = some (.cells cs T (0, 0))

section
variable {w w' : World} {g T : Nat} {cs : Array Value}

theorem Has.lt (h : Has w g T cs) : g < w.heap.size := (Array.getElem?_eq_some_iff.1 h).1
theorem Has.cell (h : Has w g T cs) : ∀ k, w.cell? ⟨g, k, none⟩ = cs[k]? := fun k => by
  have h' : w.heap[g]? = some (.cells cs T (0, 0)) := h
  simp [World.cell?, h']
theorem Has.froz (h : Has w g T cs) : ∀ k, w.frozen? ⟨g, k, none⟩ = false := fun k => by
  have h' : w.heap[g]? = some (.cells cs T (0, 0)) := h
  simp [World.frozen?, h']
theorem Has.drew (h : Has w g T cs) : Has w.drew g T cs := h
theorem Has.alloc (h : Has w g T cs) (o : Obj) : Has (w.alloc o) g T cs := by
  show (w.heap.push o)[g]? = _
  rw [Array.getElem?_push, if_neg (by have := h.lt; omega)]; exact h
theorem Has.new (w : World) (cs : Array Value) (T : TypeId) : Has (w.alloc (.cells cs T (0, 0))) w.heap.size T cs := by
  show (w.heap.push _)[w.heap.size]? = _
  simp
theorem Has.set (h : Has w g T cs) (k : Nat) (v : Value) : Has (w.setCell ⟨g, k, none⟩ v) g T (cs.setIfInBounds k v) := by
  have h' : w.heap[g]? = some (.cells cs T (0, 0)) := h
  show (w.setCell ⟨g, k, none⟩ v).heap[g]? = _
  simp [World.setCell, Array.getElem?_modify, h']
theorem Has.set_ne (h : Has w g T cs) {a : Addr} (hne : a.block ≠ g) (v : Value) : Has (w.setCell a v) g T cs := by
  show (w.setCell a v).heap[g]? = _
  rw [Below.heap_setCell _ _ _ _ (Ne.symm hne)]; exact h
theorem Has.eq (h : Has w g T cs) {ds : Array Value} (e : cs = ds) : Has w g T ds := e ▸ h
end

/-- w' is w, but for the blocks of S and for new ones. -/
structure Fr (S : List Nat) (w w' : World) : Prop where
  os : w'.os = w.os
  tape : w'.tape = w.tape
  output : w'.output = w.output
  size : w.heap.size ≤ w'.heap.size
  block : ∀ k, k < w.heap.size → k ∉ S → w'.heap[k]? = w.heap[k]?

section
variable {S : List Nat} {a b c w w' : World}

theorem Fr.refl (S : List Nat) (w : World) : Fr S w w := ⟨rfl, rfl, rfl, Nat.le_refl _, fun _ _ _ => rfl⟩
theorem Fr.trans (h : Fr S a b) (k : Fr S b c) : Fr S a c :=
  ⟨k.os.trans h.os, k.tape.trans h.tape, k.output.trans h.output, Nat.le_trans h.size k.size, fun i hi hn => (k.block i (Nat.lt_of_lt_of_le hi h.size) hn).trans (h.block i hi hn)⟩
/-- A step that may turn blocks of its own (S'), all of S or newer than a. -/
theorem Fr.step {S' : List Nat} (h : Fr S a b) (k : Fr S' b c) (hs : ∀ g, g ∈ S' → g ∈ S ∨ a.heap.size ≤ g) : Fr S a c :=
  ⟨k.os.trans h.os, k.tape.trans h.tape, k.output.trans h.output, Nat.le_trans h.size k.size, fun i hi hn =>
    (k.block i (Nat.lt_of_lt_of_le hi h.size) (fun hm => by rcases hs i hm with h1 | h1 <;> first | exact hn h1 | omega)).trans (h.block i hi hn)⟩
theorem Fr.drew (h : Fr S a w) : Fr S a w.drew := ⟨h.os, h.tape, h.output, h.size, h.block⟩
theorem Fr.alloc (h : Fr S a w) (o : Obj) : Fr S a (w.alloc o) :=
  h.trans ⟨rfl, rfl, rfl, by simp, fun k hk _ => Below.heap_alloc _ _ _ hk⟩
theorem Fr.set (h : Fr S a w) {p : Addr} (hp : p.block ∈ S ∨ a.heap.size ≤ p.block) (u : Value) : Fr S a (w.setCell p u) :=
  h.step (S' := [p.block]) ⟨rfl, rfl, rfl, by simp [World.setCell], fun k hk hn => Below.heap_setCell _ _ _ _ (by simpa using hn)⟩ (fun g hg => by simp at hg; subst hg; exact hp)
theorem Fr.has {g T : Nat} {cs : Array Value} (h : Fr S w w') (hg : Has w g T cs) (hn : g ∉ S) : Has w' g T cs := (h.block g hg.lt hn).trans hg
theorem Fr.has0 {g T : Nat} {cs : Array Value} (h : Fr [] w w') (hg : Has w g T cs) : Has w' g T cs := h.has hg (by simp)
theorem Fr.below {B : Nat} (h : Fr S w w') (hB : B ≤ w.heap.size) (hS : ∀ g, g ∈ S → B ≤ g) : Below B w w' :=
  ⟨h.os, h.tape, h.output, h.size, fun k hk => h.block k (by omega) (fun hm => by have := hS k hm; omega)⟩
theorem Fr.of_below {B : Nat} (h : Below B w w') (hB : w.heap.size ≤ B) : Fr [] w w' := ⟨h.os, h.tape, h.output, h.size, fun k hk _ => h.block k (by omega)⟩
theorem Fr.weaken {S' : List Nat} (h : Fr S w w') (hs : ∀ g, g ∈ S → g ∈ S') : Fr S' w w' := ⟨h.os, h.tape, h.output, h.size, fun k hk hn => h.block k hk (fun hm => hn (hs k hm))⟩
theorem Fr.cell (h : Fr S w w') {p : Addr} (hp : p.block < w.heap.size) (hn : p.block ∉ S) : w'.cell? p = w.cell? p := World.cell?_of_block (w := w) (h.block _ hp hn)
theorem Fr.frozen (h : Fr S w w') {p : Addr} (hp : p.block < w.heap.size) (hn : p.block ∉ S) : w'.frozen? p = w.frozen? p := World.frozen?_of_block (w := w) (h.block _ hp hn)
end
end Go.Fp
