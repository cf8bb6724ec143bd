/- OBJECTS AND FRAMES: a block that is known whole; what a call leaves as it was. -/
import Derived.Below
import Derived.WalkKit
import Derived.Maps.AppendAt
namespace Go.Fp
open Go Go.RowKit

theorem ret_int {k : IntKind} {a b : Int} (h : a = b) : Ending.returned (.int k a) = .returned (.int k b) := by rw [h]
theorem ret_bool {a b : Bool} (h : a = b) : Ending.returned (.bool a) = .returned (.bool b) := by rw [h]

/-- A fact that the walk is not to use. -/
theorem hid {p : Prop} (h : p) : Hid p := h

/-- What is to be shown of a call goes behind a variable: the walk doesn't look into it. -/
theorem calls_cps {P : Program} {f : FuncId} {args : Array Value} {w : World} {R : Ending → World → Prop}
    (h : ∀ R' : Ending → World → Prop, Hid (∀ e w', R e w' → R' e w') → Calls P f args w R') : Calls P f args w R := h R fun _ _ h => h

/-- Block g is one object of type T with these cells; none of them is frozen. -/
def Has (w : World) (g : Nat) (T : TypeId) (cs : Array Value) : Prop := w.heap[g]? = some (.cells cs T (0, 0))

section
variable {w w' : World} {g T : Nat} {cs : Array Value}

theorem Has.lt (h : Has w g T cs) : g < w.heap.size := (Array.getElem?_eq_some_iff.1 h).1
theorem Has.cell (h : Has w g T cs) : ∀ k, w.cell? ⟨g, k, none⟩ = cs[k]? := fun k => by
  have h' : w.heap[g]? = some (.cells cs T (0, 0)) := h
  simp [World.cell?, h']
theorem Has.froz (h : Has w g T cs) : ∀ k, w.frozen? ⟨g, k, none⟩ = false := fun k => by
  have h' : w.heap[g]? = some (.cells cs T (0, 0)) := h
  simp [World.frozen?, h']
theorem Has.drew (h : Has w g T cs) : Has w.drew g T cs := h
theorem Has.alloc (h : Has w g T cs) (o : Obj) : Has (w.alloc o) g T cs := by
  show (w.heap.push o)[g]? = _
  rw [Array.getElem?_push, if_neg (by have := h.lt; omega)]; exact h
theorem Has.new (w : World) (cs : Array Value) (T : TypeId) : Has (w.alloc (.cells cs T (0, 0))) w.heap.size T cs := by
  show (w.heap.push _)[w.heap.size]? = _
  simp
theorem Has.set (h : Has w g T cs) (k : Nat) (v : Value) : Has (w.setCell ⟨g, k, none⟩ v) g T (cs.setIfInBounds k v) := by
  have h' : w.heap[g]? = some (.cells cs T (0, 0)) := h
  show (w.setCell ⟨g, k, none⟩ v).heap[g]? = _
  simp [World.setCell, Array.getElem?_modify, h']
theorem Has.set_ne (h : Has w g T cs) {a : Addr} (hne : a.block ≠ g) (v : Value) : Has (w.setCell a v) g T cs := by
  show (w.setCell a v).heap[g]? = _
  rw [Below.heap_setCell _ _ _ _ (Ne.symm hne)]; exact h
theorem Has.eq (h : Has w g T cs) {ds : Array Value} (e : cs = ds) : Has w g T ds := e ▸ h
end

/-- w' is w, but for the blocks of S and for new ones. -/
structure Fr (S : List Nat) (w w' : World) : Prop where
  os : w'.os = w.os
  tape : w'.tape = w.tape
  output : w'.output = w.output
  size : w.heap.size ≤ w'.heap.size
  block : ∀ k, k < w.heap.size → k ∉ S → w'.heap[k]? = w.heap[k]?

section
variable {S : List Nat} {a b c w w' : World}

theorem Fr.refl (S : List Nat) (w : World) : Fr S w w := ⟨rfl, rfl, rfl, Nat.le_refl _, fun _ _ _ => rfl⟩
theorem Fr.trans (h : Fr S a b) (k : Fr S b c) : Fr S a c :=
  ⟨k.os.trans h.os, k.tape.trans h.tape, k.output.trans h.output, Nat.le_trans h.size k.size, fun i hi hn => (k.block i (Nat.lt_of_lt_of_le hi h.size) hn).trans (h.block i hi hn)⟩
/-- A step that may turn blocks of its own (S'), all of S or newer than a. -/
theorem Fr.step {S' : List Nat} (h : Fr S a b) (k : Fr S' b c) (hs : ∀ g, g ∈ S' → g ∈ S ∨ a.heap.size ≤ g) : Fr S a c :=
  ⟨k.os.trans h.os, k.tape.trans h.tape, k.output.trans h.output, Nat.le_trans h.size k.size, fun i hi hn =>
    (k.block i (Nat.lt_of_lt_of_le hi h.size) (fun hm => by rcases hs i hm with h1 | h1 <;> first | exact hn h1 | omega)).trans (h.block i hi hn)⟩
theorem Fr.drew (h : Fr S a w) : Fr S a w.drew := ⟨h.os, h.tape, h.output, h.size, h.block⟩
theorem Fr.drew0 (S : List Nat) (w : World) : Fr S w.drew w := ⟨rfl, rfl, rfl, Nat.le_refl _, fun _ _ _ => rfl⟩
theorem Fr.alloc (h : Fr S a w) (o : Obj) : Fr S a (w.alloc o) :=
  h.trans ⟨rfl, rfl, rfl, by simp, fun k hk _ => Below.heap_alloc _ _ _ hk⟩
theorem Fr.set (h : Fr S a w) {p : Addr} (hp : p.block ∈ S ∨ a.heap.size ≤ p.block) (u : Value) : Fr S a (w.setCell p u) :=
  h.step (S' := [p.block]) ⟨rfl, rfl, rfl, by simp [World.setCell], fun k hk hn => Below.heap_setCell _ _ _ _ (by simpa using hn)⟩ (fun g hg => by simp at hg; subst hg; exact hp)
theorem Fr.has {g T : Nat} {cs : Array Value} (h : Fr S w w') (hg : Has w g T cs) (hn : g ∉ S) : Has w' g T cs := (h.block g hg.lt hn).trans hg
theorem Fr.has0 {g T : Nat} {cs : Array Value} (h : Fr [] w w') (hg : Has w g T cs) : Has w' g T cs := h.has hg (by simp)
theorem Fr.below {B : Nat} (h : Fr S w w') (hB : B ≤ w.heap.size) (hS : ∀ g, g ∈ S → B ≤ g) : Below B w w' :=
  ⟨h.os, h.tape, h.output, h.size, fun k hk => h.block k (by omega) (fun hm => by have := hS k hm; omega)⟩
theorem Fr.of_below {B : Nat} (h : Below B w w') (hB : w.heap.size ≤ B) : Fr [] w w' := ⟨h.os, h.tape, h.output, h.size, fun k hk _ => h.block k (by omega)⟩
theorem Fr.weaken {S' : List Nat} (h : Fr S w w') (hs : ∀ g, g ∈ S → g ∈ S') : Fr S' w w' := ⟨h.os, h.tape, h.output, h.size, fun k hk hn => h.block k hk (fun hm => hn (hs k hm))⟩
theorem Fr.cell (h : Fr S w w') {p : Addr} (hp : p.block < w.heap.size) (hn : p.block ∉ S) : w'.cell? p = w.cell? p := World.cell?_of_block (w := w) (h.block _ hp hn)
theorem Fr.frozen (h : Fr S w w') {p : Addr} (hp : p.block < w.heap.size) (hn : p.block ∉ S) : w'.frozen? p = w.frozen? p := World.frozen?_of_block (w := w) (h.block _ hp hn)
end

/-- Two worlds of one memory (draws apart). -/
def Sim (w w' : World) : Prop := w'.heap = w.heap ∧ w'.os = w.os ∧ w'.tape = w.tape ∧ w'.output = w.output

theorem Fr.sim {S : List Nat} {a b b' c : World} (h : Fr S a b) (k : Fr S b' c) (e : Sim b b') : Fr S a c := by
  obtain ⟨e1, e2, e3, e4⟩ := e
  exact h.trans ⟨k.os.trans e2, k.tape.trans e3, k.output.trans e4, by rw [← e1]; exact k.size, fun i hi hn => by rw [← e1]; exact k.block i (by rw [e1]; exact hi) hn⟩

/-- WHAT IS KNOWN OF THE MEMORY: some objects, made since w0, each apart from the others; all that was there at w0 is as it was. -/
def Trk (w0 w : World) : List (Nat × Nat × Array Value) → Prop
  | [] => Fr [] w0 w
  | p :: l => Has w p.1 p.2.1 p.2.2 ∧ w0.heap.size ≤ p.1 ∧ (∀ q, q ∈ l → q.1 ≠ p.1) ∧ Trk w0 w l

section
variable {w0 w w' w1 : World} {l : List (Nat × Nat × Array Value)} {g T : Nat} {cs cs' : Array Value}

theorem Trk.refl (w : World) : Trk w w [] := Fr.refl _ _
theorem Trk.fr : ∀ {l : List (Nat × Nat × Array Value)}, Trk w0 w l → Fr [] w0 w
  | [], h => h
  | _ :: _, h => h.2.2.2.fr
theorem Trk.lt : ∀ {l : List (Nat × Nat × Array Value)}, Trk w0 w l → ∀ q, q ∈ l → q.1 < w.heap.size
  | _ :: _, h, q, hq => by
    rcases List.mem_cons.1 hq with rfl | hq
    · exact h.1.lt
    · exact h.2.2.2.lt q hq
theorem Trk.ge : ∀ {l : List (Nat × Nat × Array Value)}, Trk w0 w l → ∀ q, q ∈ l → w0.heap.size ≤ q.1
  | _ :: _, h, q, hq => by
    rcases List.mem_cons.1 hq with rfl | hq
    · exact h.2.1
    · exact h.2.2.2.ge q hq
/-- A step that turns S alone, of which no object is one. -/
theorem Trk.step {S : List Nat} : ∀ {l : List (Nat × Nat × Array Value)}, Trk w0 w l → Fr S w w1 → (∀ q, q ∈ l → q.1 ∉ S) → (∀ g, g ∈ S → w0.heap.size ≤ g) → Trk w0 w1 l
  | [], h, f, _, hS => Fr.step h f (fun g hg => .inr (hS g hg))
  | _ :: _, h, f, hn, hS => ⟨f.has h.1 (hn _ List.mem_cons_self), h.2.1, h.2.2.1, h.2.2.2.step f (fun q hq => hn q (List.mem_cons_of_mem _ hq)) hS⟩
theorem Trk.call (h : Trk w0 w l) (f : Fr [] w' w1) (e : Sim w w' := by exact ⟨rfl, rfl, rfl, rfl⟩) : Trk w0 w1 l :=
  h.step ((Fr.refl [] w).sim f e) (by simp) (by simp)
theorem Trk.drew (h : Trk w0 w l) : Trk w0 w.drew l := h.step ((Fr.refl [] w).drew) (by simp) (by simp)
theorem Trk.to (h : Trk w0 w l) (e : Sim w w' := by exact ⟨rfl, rfl, rfl, rfl⟩) : Trk w0 w' l := by
  obtain ⟨e1, e2, e3, e4⟩ := e
  exact h.step (S := []) ⟨e2, e3, e4, by rw [e1]; exact Nat.le_refl _, fun k _ _ => by rw [e1]⟩ (by simp) (by simp)
theorem Trk.allocs (h : Trk w0 w l) (o : Obj) : Trk w0 (w.alloc o) l := h.step ((Fr.refl [] w).alloc o) (by simp) (by simp)
theorem Trk.alloc (h : Trk w0 w l) (cs : Array Value) (T : Nat) : Trk w0 (w.alloc (.cells cs T (0, 0))) ((w.heap.size, T, cs) :: l) :=
  ⟨Has.new w cs T, h.fr.size, fun q hq => Nat.ne_of_lt (h.lt q hq), h.allocs _⟩
theorem Trk.new (h : Trk w0 w l) (f : Fr [] w' w1) (hg : w'.heap.size ≤ g) (hn : Has w1 g T cs) (e : Sim w w' := by exact ⟨rfl, rfl, rfl, rfl⟩) : Trk w0 w1 ((g, T, cs) :: l) :=
  ⟨hn, Nat.le_trans h.fr.size (by rw [← e.1]; exact hg), fun q hq => Nat.ne_of_lt (Nat.lt_of_lt_of_le (h.lt q hq) (by rw [← e.1]; exact hg)), h.call f e⟩
theorem Trk.has : ∀ {l : List (Nat × Nat × Array Value)}, Trk w0 w l → ∀ (i : Nat) {g T : Nat} {cs : Array Value}, l[i]? = some (g, T, cs) → Has w g T cs
  | _ :: _, h, 0, _, _, _, e => by simp at e; subst e; exact h.1
  | _ :: _, h, i + 1, _, _, _, e => h.2.2.2.has i (by simpa using e)
theorem Trk.ne (h : Trk w0 w l) : ∀ {i j : Nat} {p q : Nat × Nat × Array Value}, l[i]? = some p → l[j]? = some q → i ≠ j → p.1 ≠ q.1 := by
  induction l with
  | nil => intro i j p q h1; simp at h1
  | cons x l ih =>
    intro i j p q h1 h2 hij
    match i, j, h1, h2, hij with
    | 0, 0, _, _, hij => exact absurd rfl hij
    | 0, j + 1, h1, h2, _ => simp at h1 h2; subst h1; exact fun he => h.2.2.1 q (List.mem_of_getElem? h2) he.symm
    | i + 1, 0, h1, h2, _ => simp at h1 h2; subst h2; exact h.2.2.1 p (List.mem_of_getElem? h1)
    | i + 1, j + 1, h1, h2, hij => exact ih h.2.2.2 (by simpa using h1) (by simpa using h2) (by omega)
/-- Object i is turned. -/
theorem Trk.turn : ∀ {l : List (Nat × Nat × Array Value)}, Trk w0 w l → ∀ (i : Nat) {g T : Nat} {cs cs' : Array Value}, l[i]? = some (g, T, cs) → Fr [g] w w1 → Has w1 g T cs' → Trk w0 w1 (l.set i (g, T, cs'))
  | p :: l, h, 0, g, T, cs, cs', e, f, hn => by
    simp at e; subst e
    exact ⟨hn, h.2.1, h.2.2.1, h.2.2.2.step f (fun q hq => by simpa using h.2.2.1 q hq) (fun x hx => by simp at hx; subst hx; exact h.2.1)⟩
  | p :: l, h, i + 1, g, T, cs, cs', e, f, hn => by
    have e' : l[i]? = some (g, T, cs) := by simpa using e
    have hm := List.mem_of_getElem? e'
    have hpg : g ≠ p.1 := h.2.2.1 _ hm
    refine ⟨f.has h.1 (by simpa using fun he => hpg he.symm), h.2.1, fun q hq => ?_, h.2.2.2.turn i e' f hn⟩
    rcases List.mem_or_eq_of_mem_set hq with hq | rfl
    · exact h.2.2.1 q hq
    · exact hpg
theorem Trk.put (h : Trk w0 w l) (i : Nat) (hi : l[i]? = some (g, T, cs)) (f : Fr [g] w' w1) (hn : Has w1 g T cs') (e : Sim w w' := by exact ⟨rfl, rfl, rfl, rfl⟩) : Trk w0 w1 (l.set i (g, T, cs')) :=
  h.turn i hi ((Fr.refl [g] w).sim f e) hn
theorem Trk.store (h : Trk w0 w l) (i k : Nat) (v : Value) (hi : l[i]? = some (g, T, cs)) : Trk w0 (w.setCell ⟨g, k, none⟩ v) (l.set i (g, T, cs.setIfInBounds k v)) :=
  h.turn i hi ((Fr.refl [g] w).set (.inl (by simp)) v) ((h.has i hi).set k v)
/-- Object i isn't looked at any more. -/
theorem Trk.drop : ∀ {l : List (Nat × Nat × Array Value)}, Trk w0 w l → ∀ i, Trk w0 w (l.eraseIdx i)
  | [], h, _ => h
  | _ :: _, h, 0 => h.2.2.2
  | _ :: _, h, i + 1 => ⟨h.1, h.2.1, fun q hq => h.2.2.1 q (List.mem_of_mem_eraseIdx hq), h.2.2.2.drop i⟩
end
end Go.Fp
/- SLICES OF THE CALL's OWN: what is owned stays so; what is read of them. -/
namespace Go.Fp
open Go Go.RowKit

section
variable {w w' a : World} {base n : Nat} {e : TypeId} {size : Nat} {v : Value} {xs : List Value}

theorem own_frS {S : List Nat} (f : Fr S w w') (h : w.ownsRow base e size v n xs) (hn : ∀ k, v.ownBlock = some k → k ∉ S) : w'.ownsRow base e size v n xs := by
  refine ⟨h.1, ?_⟩
  rcases h.2 with h2 | ⟨g, cap, cur, h0, h1, h2, h3⟩
  · exact .inl h2
  · refine .inr ⟨g, cap, cur, h0, h1, ?_, h3⟩
    rw [f.block g (Array.getElem?_eq_some_iff.1 h2).1 (hn g (by rw [h0]; rfl))]; exact h2
theorem own_fr (f : Fr [] w w') (h : w.ownsRow base e size v n xs) : w'.ownsRow base e size v n xs := own_frS f h (fun _ _ => by simp)
theorem own_base {base' : Nat} (h : w.ownsRow base e size v n xs) (hb : base' ≤ base) : w.ownsRow base' e size v n xs := by
  refine ⟨h.1, ?_⟩
  rcases h.2 with h | ⟨g, cap, cur, h0, h1, h2⟩
  · exact .inl h
  · exact .inr ⟨g, cap, cur, h0, by omega, h2⟩
theorem own_slice (h : w.ownsRow base e size v n xs) : ∃ x cap, v = .slice x n cap := by
  rcases h.2 with ⟨rfl, h0⟩ | ⟨g, cap, cur, rfl, _⟩
  · subst h0; exact ⟨none, 0, rfl⟩
  · exact ⟨_, _, rfl⟩
/-- It is no block of another type. -/
theorem own_ne {T g : Nat} {cs : Array Value} (h : w.ownsRow base e size v n xs) (hg : Has w g T cs) (hT : T ≠ e) : ∀ k, v.ownBlock = some k → k ∉ [g] := by
  intro k hk hm
  simp at hm
  subst hm
  rcases h.2 with ⟨rfl, _⟩ | ⟨g', cap, cur, rfl, _, h2, _⟩
  · simp [Value.ownBlock] at hk
  · simp [Value.ownBlock] at hk
    subst hk
    have hg' : w.heap[g']? = some (.cells cs T (0, 0)) := hg
    rw [h2] at hg'
    simp at hg'
    exact hT hg'.2.symm
/-- It is no elder block. -/
theorem own_ge {g : Nat} (h : w.ownsRow base e size v n xs) (hg : g < base) : ∀ k, v.ownBlock = some k → k ∉ [g] := by
  intro k hk hm
  simp at hm
  subst hm
  rcases h.2 with ⟨rfl, _⟩ | ⟨g', cap, cur, rfl, h1, h2, _⟩
  · simp [Value.ownBlock] at hk
  · simp [Value.ownBlock] at hk
    subst hk; omega
/-- What it reads as. -/
theorem own_read (h : w.ownsRow base e 1 v n xs) :
    xs.length = n ∧ ∃ (x : Option Addr) (cap g : Nat), v = .slice x n cap ∧ n ≤ cap ∧ cap ≤ maxLen ∧ (0 < n → x = some ⟨g, 0, none⟩ ∧ g < w.heap.size ∧ base ≤ g) ∧ ∀ i, i < n → w.cell? ⟨g, i, none⟩ = xs[i]? := by
  have hn : xs.length = n := by have := h.1; simpa using this
  refine ⟨hn, ?_⟩
  rcases h.2 with ⟨rfl, h0⟩ | ⟨g, cap, cur, rfl, h1, h2, h3, h4, h5, h6⟩
  · subst h0
    exact ⟨none, 0, 0, rfl, Nat.le_refl _, Nat.zero_le _, fun h => absurd h (by omega), fun i hi => absurd hi (by omega)⟩
  · exact ⟨_, cap, g, rfl, h3, h4, fun _ => ⟨rfl, (Array.getElem?_eq_some_iff.1 h2).1, h1⟩, fun i hi => h.cellAt i (by omega)⟩
theorem fr_grown {S : List Nat} (f : Fr S a w) (h : w.grownBy w' v.ownBlock) (ho : w.ownsRow a.heap.size e size v n xs) : Fr S a w' := by
  refine f.step (S' := match v.ownBlock with | some k => [k] | none => []) ⟨h.os, h.tape, h.output, h.size, fun k hk hn => h.block k hk fun e => hn (by rw [← e]; simp)⟩ (fun g hg => .inr ?_)
  cases hv : v.ownBlock with
  | none => rw [hv] at hg; simp at hg
  | some k => rw [hv] at hg; simp at hg; subst hg; exact (ho.lt _ hv).1
theorem fr_grown0 (h : w.grownBy w' none) : Fr [] w w' := ⟨h.os, h.tape, h.output, h.size, fun k hk _ => h.block k hk (by simp)⟩
theorem fr_grownS {g : Nat} (h : w.grownBy w' (some g)) : Fr [g] w w' := ⟨h.os, h.tape, h.output, h.size, fun k hk hn => h.block k hk (by simpa using hn)⟩
/-- A block that isn't the row's. -/
theorem has_grown {T g : Nat} {cs : Array Value} (hg : Has w g T cs) (h : w.grownBy w' v.ownBlock) (hn : ∀ k, v.ownBlock = some k → k ∉ [g]) : Has w' g T cs :=
  (h.block g hg.lt (fun e => (hn g e.symm) (by simp))).trans hg
theorem Has.new1 (w : World) (o : Obj) (cs : Array Value) (T : TypeId) : Has ((w.alloc o).alloc (.cells cs T (0, 0))) (w.heap.size + 1) T cs := by
  have := Has.new (w.alloc o) cs T
  simpa using this
end
/-- 'append(s, x)' of one cell, to a slice of the call's own, in whatever spelling of the world. -/
theorem wpList_append1 {P : Program} {ops : Array Oper} {rest : List Oper} {o : Oper} {a : Act} {w : World} {Q : Exit → Act → World → Prop} (hgd : o.guard = none) (s x : Operand) (t : TypeId)
    (ho : o.op = .call { callee := .builtin .append, args := #[s, x], argTypes := #[t, t] })
    (base : Nat) (e : TypeId) (i : TypeInfo) (z : Value) (bytes : Nat) (ht : P.underlying t = some (.slice e)) (hi : P.info? e = some i) (hz : i.zero = some z)
    (hsize : i.size = 1) (hby : i.bytes = bytes) (hzs : z.cells.size = 1)
    (v : Value) (n : Nat) (xs : List Value) (hs : a.eval s = v) {w0 : World} (hown : w0.ownsRow base e 1 v n xs) {S : List Nat} (f : Fr S w0 w) (hne : ∀ k, v.ownBlock = some k → k ∉ S)
    (g1 c : Nat) (u : Value) (hx : a.eval x = .slice (some ⟨g1, 0, none⟩) 1 c) (hcell : w.cell? ⟨g1, 0, none⟩ = some u) (h1 : u.oneCell' = true)
    (h63 : n + 1 ≤ maxLen) (hbytes : (n + 1) * bytes ≤ 140737488355328) (hbase : base ≤ w0.heap.size)
    (h : ∀ v' w', w'.ownsRow base e 1 v' (n + 1) (xs ++ [u]) → w.grownBy w' v.ownBlock → (v'.ownBlock = v.ownBlock ∨ v'.ownBlock = some w.heap.size) → wpList P ops Q rest (a.put o.dst v') w') :
    wpList P ops Q (o :: rest) a w :=
  wpList_append_own_at w hgd s x t ho base e i z 1 bytes ht hi hz hsize hby hzs (by decide) v n xs hs (own_frS f hown hne) ⟨g1, 0, none⟩ 1 c [u] hx rfl
    (fun j u' hj => by
      match j, hj with
      | 0, hj => simp at hj; subst hj; simpa [Addr.add] using hcell
      | j + 1, hj => simp at hj)
    (by simpa using h1) h63 hbytes (Nat.le_trans hbase f.size) (fun v' w' h1 h2 _ h4 => h v' w' h1 h2 h4)
theorem cell_new1 {w : World} {g T : Nat} {x : Value} (h : w.heap.size = g) : (w.alloc (.cells #[x] T (0, 0))).cell? ⟨g, 0, none⟩ = some x := by subst h; simp
theorem cell_new1d {w : World} {g T : Nat} {x : Value} (h : w.heap.size = g) : (w.alloc (.cells #[x] T (0, 0))).drew.cell? ⟨g, 0, none⟩ = some x := by subst h; simp
def i64s (l : List Nat) : List Value := l.map fun (d : Nat) => Value.int .i64 (d : Int)
end Go.Fp
