/- OBJECTS AND FRAMES: a block that is known whole; what a call leaves as it was. -/
import Derived.Below
import Derived.WalkKit
import Derived.Deep.MidRow
import Derived.Test.YtemhcflaldeakaaFpText
import Derived.Laws.Rows
import Derived.Maps.AppendAt
namespace Go.Fp
open Go Go.RowKit

theorem ret_int {k : IntKind} {a b : Int} (h : a = b) : Ending.returned (.int k a) = .returned (.int k b) := by rw [h]
theorem ret_bool {a b : Bool} (h : a = b) : Ending.returned (.bool a) = .returned (.bool b) := by rw [h]

/-- A fact that the walk is not to use. -/
theorem hid {p : Prop} (h : p) : Hid p := h

/-- What is to be shown of a call goes behind a variable: the walk doesn't look into it. -/
theorem calls_cps {P : Program} {f : FuncId} {args : Array Value} {w : World} {R : Ending → World → Prop}
    (h : ∀ R' : Ending → World → Prop, Hid (∀ e w', R e w' → R' e w') → Calls P f args w R') : Calls P f args w R := h R fun _ _ h => h

/-- Block g is one object of type T with these cells; none of them is frozen. -/
def Has (w : World) (g : Nat) (T : TypeId) (cs : Array Value) : Prop := w.heap[g]? = some (.cells cs T (0, 0))

section
variable {w w' : World} {g T : Nat} {cs : Array Value}

theorem Has.lt (h : Has w g T cs) : g < w.heap.size := (Array.getElem?_eq_some_iff.1 h).1
theorem Has.cell (h : Has w g T cs) : ∀ k, w.cell? ⟨g, k, none⟩ = cs[k]? := fun k => by
  have h' : w.heap[g]? = some (.cells cs T (0, 0)) := h
  simp [World.cell?, h']
theorem Has.froz (h : Has w g T cs) : ∀ k, w.frozen? ⟨g, k, none⟩ = false := fun k => by
  have h' : w.heap[g]? = some (.cells cs T (0, 0)) := h
  simp [World.frozen?, h']
theorem Has.drew (h : Has w g T cs) : Has w.drew g T cs := h
theorem Has.alloc (h : Has w g T cs) (o : Obj) : Has (w.alloc o) g T cs := by
  show (w.heap.push o)[g]? = _
  rw [Array.getElem?_push, if_neg (by have := h.lt; omega)]; exact h
theorem Has.new (w : World) (cs : Array Value) (T : TypeId) : Has (w.alloc (.cells cs T (0, 0))) w.heap.size T cs := by
  show (w.heap.push _)[w.heap.size]? = _
  simp
theorem Has.set (h : Has w g T cs) (k : Nat) (v : Value) : Has (w.setCell ⟨g, k, none⟩ v) g T (cs.setIfInBounds k v) := by
  have h' : w.heap[g]? = some (.cells cs T (0, 0)) := h
  show (w.setCell ⟨g, k, none⟩ v).heap[g]? = _
  simp [World.setCell, Array.getElem?_modify, h']
theorem Has.set_ne (h : Has w g T cs) {a : Addr} (hne : a.block ≠ g) (v : Value) : Has (w.setCell a v) g T cs := by
  show (w.setCell a v).heap[g]? = _
  rw [Below.heap_setCell _ _ _ _ (Ne.symm hne)]; exact h
theorem Has.eq (h : Has w g T cs) {ds : Array Value} (e : cs = ds) : Has w g T ds := e ▸ h
end

/-- w' is w, but for the blocks of S and for new ones. -/
structure Fr (S : List Nat) (w w' : World) : Prop where
  os : w'.os = w.os
  tape : w'.tape = w.tape
  output : w'.output = w.output
  size : w.heap.size ≤ w'.heap.size
  block : ∀ k, k < w.heap.size → k ∉ S → w'.heap[k]? = w.heap[k]?

section
variable {S : List Nat} {a b c w w' : World}

theorem Fr.refl (S : List Nat) (w : World) : Fr S w w := ⟨rfl, rfl, rfl, Nat.le_refl _, fun _ _ _ => rfl⟩
theorem Fr.trans (h : Fr S a b) (k : Fr S b c) : Fr S a c :=
  ⟨k.os.trans h.os, k.tape.trans h.tape, k.output.trans h.output, Nat.le_trans h.size k.size, fun i hi hn => (k.block i (Nat.lt_of_lt_of_le hi h.size) hn).trans (h.block i hi hn)⟩
/-- A step that may turn blocks of its own (S'), all of S or newer than a. -/
theorem Fr.step {S' : List Nat} (h : Fr S a b) (k : Fr S' b c) (hs : ∀ g, g ∈ S' → g ∈ S ∨ a.heap.size ≤ g) : Fr S a c :=
  ⟨k.os.trans h.os, k.tape.trans h.tape, k.output.trans h.output, Nat.le_trans h.size k.size, fun i hi hn =>
    (k.block i (Nat.lt_of_lt_of_le hi h.size) (fun hm => by rcases hs i hm with h1 | h1 <;> first | exact hn h1 | omega)).trans (h.block i hi hn)⟩
theorem Fr.drew (h : Fr S a w) : Fr S a w.drew := ⟨h.os, h.tape, h.output, h.size, h.block⟩
theorem Fr.drew0 (S : List Nat) (w : World) : Fr S w.drew w := ⟨rfl, rfl, rfl, Nat.le_refl _, fun _ _ _ => rfl⟩
theorem Fr.alloc (h : Fr S a w) (o : Obj) : Fr S a (w.alloc o) :=
  h.trans ⟨rfl, rfl, rfl, by simp, fun k hk _ => Below.heap_alloc _ _ _ hk⟩
theorem Fr.set (h : Fr S a w) {p : Addr} (hp : p.block ∈ S ∨ a.heap.size ≤ p.block) (u : Value) : Fr S a (w.setCell p u) :=
  h.step (S' := [p.block]) ⟨rfl, rfl, rfl, by simp [World.setCell], fun k hk hn => Below.heap_setCell _ _ _ _ (by simpa using hn)⟩ (fun g hg => by simp at hg; subst hg; exact hp)
theorem Fr.has {g T : Nat} {cs : Array Value} (h : Fr S w w') (hg : Has w g T cs) (hn : g ∉ S) : Has w' g T cs := (h.block g hg.lt hn).trans hg
theorem Fr.has0 {g T : Nat} {cs : Array Value} (h : Fr [] w w') (hg : Has w g T cs) : Has w' g T cs := h.has hg (by simp)
theorem Fr.below {B : Nat} (h : Fr S w w') (hB : B ≤ w.heap.size) (hS : ∀ g, g ∈ S → B ≤ g) : Below B w w' :=
  ⟨h.os, h.tape, h.output, h.size, fun k hk => h.block k (by omega) (fun hm => by have := hS k hm; omega)⟩
theorem Fr.of_below {B : Nat} (h : Below B w w') (hB : w.heap.size ≤ B) : Fr [] w w' := ⟨h.os, h.tape, h.output, h.size, fun k hk _ => h.block k (by omega)⟩
theorem Fr.weaken {S' : List Nat} (h : Fr S w w') (hs : ∀ g, g ∈ S → g ∈ S') : Fr S' w w' := ⟨h.os, h.tape, h.output, h.size, fun k hk hn => h.block k hk (fun hm => hn (hs k hm))⟩
theorem Fr.cell (h : Fr S w w') {p : Addr} (hp : p.block < w.heap.size) (hn : p.block ∉ S) : w'.cell? p = w.cell? p := World.cell?_of_block (w := w) (h.block _ hp hn)
theorem Fr.frozen (h : Fr S w w') {p : Addr} (hp : p.block < w.heap.size) (hn : p.block ∉ S) : w'.frozen? p = w.frozen? p := World.frozen?_of_block (w := w) (h.block _ hp hn)
end

/-- Two worlds of one memory (draws apart). -/
def Sim (w w' : World) : Prop := w'.heap = w.heap ∧ w'.os = w.os ∧ w'.tape = w.tape ∧ w'.output = w.output

theorem Fr.sim {S : List Nat} {a b b' c : World} (h : Fr S a b) (k : Fr S b' c) (e : Sim b b') : Fr S a c := by
  obtain ⟨e1, e2, e3, e4⟩ := e
  exact h.trans ⟨k.os.trans e2, k.tape.trans e3, k.output.trans e4, by rw [← e1]; exact k.size, fun i hi hn => by rw [← e1]; exact k.block i (by rw [e1]; exact hi) hn⟩

/-- WHAT IS KNOWN OF THE MEMORY: some objects, made since w0, each apart from the others; all that was there at w0 is as it was. -/
def Trk (w0 w : World) : List (Nat × Nat × Array Value) → Prop
  | [] => Fr [] w0 w
  | p :: l => Has w p.1 p.2.1 p.2.2 ∧ w0.heap.size ≤ p.1 ∧ (∀ q, q ∈ l → q.1 ≠ p.1) ∧ Trk w0 w l

section
variable {w0 w w' w1 : World} {l : List (Nat × Nat × Array Value)} {g T : Nat} {cs cs' : Array Value}

theorem Trk.refl (w : World) : Trk w w [] := Fr.refl _ _
theorem Trk.fr : ∀ {l : List (Nat × Nat × Array Value)}, Trk w0 w l → Fr [] w0 w
  | [], h => h
  | _ :: _, h => h.2.2.2.fr
theorem Trk.lt : ∀ {l : List (Nat × Nat × Array Value)}, Trk w0 w l → ∀ q, q ∈ l → q.1 < w.heap.size
  | _ :: _, h, q, hq => by
    rcases List.mem_cons.1 hq with rfl | hq
    · exact h.1.lt
    · exact h.2.2.2.lt q hq
theorem Trk.ge : ∀ {l : List (Nat × Nat × Array Value)}, Trk w0 w l → ∀ q, q ∈ l → w0.heap.size ≤ q.1
  | _ :: _, h, q, hq => by
    rcases List.mem_cons.1 hq with rfl | hq
    · exact h.2.1
    · exact h.2.2.2.ge q hq
/-- A step that turns S alone, of which no object is one. -/
theorem Trk.step {S : List Nat} : ∀ {l : List (Nat × Nat × Array Value)}, Trk w0 w l → Fr S w w1 → (∀ q, q ∈ l → q.1 ∉ S) → (∀ g, g ∈ S → w0.heap.size ≤ g) → Trk w0 w1 l
  | [], h, f, _, hS => Fr.step h f (fun g hg => .inr (hS g hg))
  | _ :: _, h, f, hn, hS => ⟨f.has h.1 (hn _ List.mem_cons_self), h.2.1, h.2.2.1, h.2.2.2.step f (fun q hq => hn q (List.mem_cons_of_mem _ hq)) hS⟩
theorem Trk.call (h : Trk w0 w l) (f : Fr [] w' w1) (e : Sim w w' := by exact ⟨rfl, rfl, rfl, rfl⟩) : Trk w0 w1 l :=
  h.step ((Fr.refl [] w).sim f e) (by simp) (by simp)
theorem Trk.drew (h : Trk w0 w l) : Trk w0 w.drew l := h.step ((Fr.refl [] w).drew) (by simp) (by simp)
theorem Trk.to (h : Trk w0 w l) (e : Sim w w' := by exact ⟨rfl, rfl, rfl, rfl⟩) : Trk w0 w' l := by
  obtain ⟨e1, e2, e3, e4⟩ := e
  exact h.step (S := []) ⟨e2, e3, e4, by rw [e1]; exact Nat.le_refl _, fun k _ _ => by rw [e1]⟩ (by simp) (by simp)
theorem Trk.allocs (h : Trk w0 w l) (o : Obj) : Trk w0 (w.alloc o) l := h.step ((Fr.refl [] w).alloc o) (by simp) (by simp)
theorem Trk.alloc (h : Trk w0 w l) (cs : Array Value) (T : Nat) : Trk w0 (w.alloc (.cells cs T (0, 0))) ((w.heap.size, T, cs) :: l) :=
  ⟨Has.new w cs T, h.fr.size, fun q hq => Nat.ne_of_lt (h.lt q hq), h.allocs _⟩
theorem Trk.new (h : Trk w0 w l) (f : Fr [] w' w1) (hg : w'.heap.size ≤ g) (hn : Has w1 g T cs) (e : Sim w w' := by exact ⟨rfl, rfl, rfl, rfl⟩) : Trk w0 w1 ((g, T, cs) :: l) :=
  ⟨hn, Nat.le_trans h.fr.size (by rw [← e.1]; exact hg), fun q hq => Nat.ne_of_lt (Nat.lt_of_lt_of_le (h.lt q hq) (by rw [← e.1]; exact hg)), h.call f e⟩
theorem Trk.has : ∀ {l : List (Nat × Nat × Array Value)}, Trk w0 w l → ∀ (i : Nat) {g T : Nat} {cs : Array Value}, l[i]? = some (g, T, cs) → Has w g T cs
  | _ :: _, h, 0, _, _, _, e => by simp at e; subst e; exact h.1
  | _ :: _, h, i + 1, _, _, _, e => h.2.2.2.has i (by simpa using e)
theorem Trk.ne (h : Trk w0 w l) : ∀ {i j : Nat} {p q : Nat × Nat × Array Value}, l[i]? = some p → l[j]? = some q → i ≠ j → p.1 ≠ q.1 := by
  induction l with
  | nil => intro i j p q h1; simp at h1
  | cons x l ih =>
    intro i j p q h1 h2 hij
    match i, j, h1, h2, hij with
    | 0, 0, _, _, hij => exact absurd rfl hij
    | 0, j + 1, h1, h2, _ => simp at h1 h2; subst h1; exact fun he => h.2.2.1 q (List.mem_of_getElem? h2) he.symm
    | i + 1, 0, h1, h2, _ => simp at h1 h2; subst h2; exact h.2.2.1 p (List.mem_of_getElem? h1)
    | i + 1, j + 1, h1, h2, hij => exact ih h.2.2.2 (by simpa using h1) (by simpa using h2) (by omega)
/-- Object i is turned. -/
theorem Trk.turn : ∀ {l : List (Nat × Nat × Array Value)}, Trk w0 w l → ∀ (i : Nat) {g T : Nat} {cs cs' : Array Value}, l[i]? = some (g, T, cs) → Fr [g] w w1 → Has w1 g T cs' → Trk w0 w1 (l.set i (g, T, cs'))
  | p :: l, h, 0, g, T, cs, cs', e, f, hn => by
    simp at e; subst e
    exact ⟨hn, h.2.1, h.2.2.1, h.2.2.2.step f (fun q hq => by simpa using h.2.2.1 q hq) (fun x hx => by simp at hx; subst hx; exact h.2.1)⟩
  | p :: l, h, i + 1, g, T, cs, cs', e, f, hn => by
    have e' : l[i]? = some (g, T, cs) := by simpa using e
    have hm := List.mem_of_getElem? e'
    have hpg : g ≠ p.1 := h.2.2.1 _ hm
    refine ⟨f.has h.1 (by simpa using fun he => hpg he.symm), h.2.1, fun q hq => ?_, h.2.2.2.turn i e' f hn⟩
    rcases List.mem_or_eq_of_mem_set hq with hq | rfl
    · exact h.2.2.1 q hq
    · exact hpg
theorem Trk.put (h : Trk w0 w l) (i : Nat) (hi : l[i]? = some (g, T, cs)) (f : Fr [g] w' w1) (hn : Has w1 g T cs') (e : Sim w w' := by exact ⟨rfl, rfl, rfl, rfl⟩) : Trk w0 w1 (l.set i (g, T, cs')) :=
  h.turn i hi ((Fr.refl [g] w).sim f e) hn
theorem Trk.store (h : Trk w0 w l) (i k : Nat) (v : Value) (hi : l[i]? = some (g, T, cs)) : Trk w0 (w.setCell ⟨g, k, none⟩ v) (l.set i (g, T, cs.setIfInBounds k v)) :=
  h.turn i hi ((Fr.refl [g] w).set (.inl (by simp)) v) ((h.has i hi).set k v)
/-- Object i isn't looked at any more. -/
theorem Trk.drop : ∀ {l : List (Nat × Nat × Array Value)}, Trk w0 w l → ∀ i, Trk w0 w (l.eraseIdx i)
  | [], h, _ => h
  | _ :: _, h, 0 => h.2.2.2
  | _ :: _, h, i + 1 => ⟨h.1, h.2.1, fun q hq => h.2.2.1 q (List.mem_of_mem_eraseIdx hq), h.2.2.2.drop i⟩
end
end Go.Fp
/- ROWS: an array of structs as one list of cells; reads and writes at a place that is a letter. -/
namespace Go.Fp
open Go Go.RowKit

/-- n rows, one behind the other. -/
def rows (f : Nat → List Value) (n : Nat) : List Value := (List.range n).flatMap f

theorem rows_succ (f : Nat → List Value) (n : Nat) : rows f (n + 1) = rows f n ++ f n := by simp [rows, List.range_succ]
theorem rows_length {f : Nat → List Value} {m : Nat} (hf : ∀ i, (f i).length = m) : ∀ n, (rows f n).length = n * m
  | 0 => by simp [rows]
  | n + 1 => by rw [rows_succ, List.length_append, rows_length hf n, hf, Nat.succ_mul]
theorem rows_get {f : Nat → List Value} {m : Nat} (hf : ∀ i, (f i).length = m) : ∀ {n d : Nat}, d < n → ∀ {j : Nat}, j < m → (rows f n)[d * m + j]? = (f d)[j]?
  | n + 1, d, hd, j, hj => by
    rw [rows_succ]
    by_cases h : d < n
    · have h1 : d * m + j < n * m := by
        have : (d + 1) * m ≤ n * m := Nat.mul_le_mul_right m h
        rw [Nat.succ_mul] at this; omega
      rw [List.getElem?_append_left (by rw [rows_length hf]; exact h1), rows_get hf h hj]
    · obtain rfl : d = n := by omega
      rw [List.getElem?_append_right (by rw [rows_length hf]; omega), rows_length hf]
      congr 1; omega
/-- Row d becomes r. -/
def upd {α : Type} (f : Nat → α) (d : Nat) (r : α) : Nat → α := fun i => if i = d then r else f i
theorem upd_same {α : Type} (f : Nat → α) (d : Nat) (r : α) : upd f d r d = r := by simp [upd]
theorem upd_other {α : Type} (f : Nat → α) {d i : Nat} (r : α) (h : i ≠ d) : upd f d r i = f i := by simp [upd, h]
theorem upd_upd {α : Type} (f : Nat → α) (d : Nat) (r s : α) : upd (upd f d r) d s = upd f d s := by funext i; simp only [upd]; split <;> rfl
theorem rows_congr {f g : Nat → List Value} : ∀ {n : Nat}, (∀ i, i < n → f i = g i) → rows f n = rows g n
  | 0, _ => by simp [rows]
  | n + 1, h => by rw [rows_succ, rows_succ, rows_congr (fun i hi => h i (by omega)), h n (by omega)]
theorem rows_set {f : Nat → List Value} {m : Nat} (hf : ∀ i, (f i).length = m) : ∀ {n d : Nat}, d < n → ∀ {j : Nat}, j < m → ∀ v, (rows f n).set (d * m + j) v = rows (upd f d ((f d).set j v)) n
  | n + 1, d, hd, j, hj, v => by
    rw [rows_succ, rows_succ]
    by_cases h : d < n
    · have h1 : d * m + j < n * m := by
        have : (d + 1) * m ≤ n * m := Nat.mul_le_mul_right m h
        rw [Nat.succ_mul] at this; omega
      rw [List.set_append_left _ _ (by rw [rows_length hf]; exact h1), rows_set hf h hj, upd_other _ _ (show n ≠ d by omega)]
    · obtain rfl : d = n := by omega
      rw [List.set_append_right _ _ (by rw [rows_length hf]; omega), rows_length hf, upd_same, rows_congr (f := upd f d ((f d).set j v)) (g := f) (fun i hi => upd_other _ _ (by omega))]
      congr 2; omega

/-- A block of a head and rows: a read of a row's cell. -/
theorem hrows_get {hd : List Value} {f : Nat → List Value} {h m n : Nat} (hh : hd.length = h) (hf : ∀ i, (f i).length = m) {d : Nat} (hdn : d < n) {j : Nat} (hj : j < m) :
    (hd ++ rows f n).toArray[h + d * m + j]? = (f d)[j]? := by
  rw [List.getElem?_toArray, List.getElem?_append_right (by omega), ← rows_get hf hdn hj]
  congr 1; omega
theorem hrows_head {hd : List Value} {l : List Value} {k : Nat} (h : k < hd.length) : (hd ++ l).toArray[k]? = hd[k]? := by
  rw [List.getElem?_toArray, List.getElem?_append_left h]
theorem hrows_set {hd : List Value} {f : Nat → List Value} {h m n : Nat} (hh : hd.length = h) (hf : ∀ i, (f i).length = m) {d : Nat} (hdn : d < n) {j : Nat} (hj : j < m) (v : Value) :
    (hd ++ rows f n).toArray.setIfInBounds (h + d * m + j) v = (hd ++ rows (upd f d ((f d).set j v)) n).toArray := by
  rw [List.setIfInBounds_toArray, List.set_append_right _ _ (by omega), ← rows_set hf hdn hj]
  congr 3; omega
theorem upd_len {f : Nat → List Value} {m : Nat} (hf : ∀ i, (f i).length = m) {d : Nat} {r : List Value} (hr : r.length = m) : ∀ i, (upd f d r i).length = m := fun i => by unfold upd; split; exact hr; exact hf i
/-- Several writes to one row. -/
theorem hrows_sets {hd : List Value} {h m n d : Nat} (hh : hd.length = h) (hdn : d < n) : ∀ (us : List (Nat × Value)) {f : Nat → List Value}, (∀ i, (f i).length = m) → (∀ u, u ∈ us → u.1 < m) →
    us.foldl (fun cs u => cs.setIfInBounds (h + d * m + u.1) u.2) (hd ++ rows f n).toArray = (hd ++ rows (upd f d (us.foldl (fun r u => r.set u.1 u.2) (f d))) n).toArray
  | [], f, hf, _ => by
    have : upd f d (f d) = f := by funext i; unfold upd; split <;> simp_all
    simp [this]
  | u :: us, f, hf, hu => by
    rw [List.foldl_cons, hrows_set hh hf hdn (hu u (by simp)), hrows_sets hh hdn us (upd_len hf (by simp [hf])) (fun v hv => hu v (by simp [hv])), upd_same, upd_upd]
    rfl
theorem hrows_head_set {hd : List Value} {l : List Value} {k : Nat} (h : k < hd.length) (v : Value) : (hd ++ l).toArray.setIfInBounds k v = (hd.set k v ++ l).toArray := by
  rw [List.setIfInBounds_toArray, List.set_append_left _ _ h]

/-- A part of a block known whole. -/
theorem Has.range {w : World} {g T : Nat} {cs : Array Value} (h : Has w g T cs) (o : Nat) (l : List Value) (hl : ∀ j, j < l.length → cs[o + j]? = l[j]?) : w.rangeAt g o l := fun j v hv => by
  rw [h.cell, hl j (List.getElem?_eq_some_iff.1 hv).1, hv]
theorem Has.there {w : World} {g T : Nat} {cs : Array Value} (h : Has w g T cs) (o n : Nat) (hn : o + n ≤ cs.size) : w.there g o n := fun j hj =>
  ⟨by rw [h.cell, Array.getElem?_eq_getElem (by omega)]; rfl, h.froz _⟩
theorem Has.setCells {g T : Nat} (b o : Nat) : ∀ (vs : List Value) {w : World} {cs : Array Value}, Has w g T cs → b = g → ∃ cs', Has (w.setCells b o vs) g T cs' ∧ cs'.size = cs.size ∧ ∀ k, cs'[k]? = if o ≤ k ∧ k < o + vs.length ∧ k < cs.size then vs[k - o]? else cs[k]? := by
  intro vs
  induction vs generalizing o with
  | nil => intro w cs h _; exact ⟨cs, h, rfl, fun k => by simp; omega⟩
  | cons v vs ih =>
    intro w cs h hb
    subst hb
    obtain ⟨cs', h1, h2, h3⟩ := ih (o + 1) (h.set o v) rfl
    refine ⟨cs', h1, by simpa using h2, fun k => ?_⟩
    rw [h3 k]
    simp only [Array.size_setIfInBounds, List.length_cons]
    by_cases hk : o + 1 ≤ k ∧ k < o + 1 + vs.length ∧ k < cs.size
    · rw [if_pos hk, if_pos (by omega), show k - o = (k - (o + 1)) + 1 by omega, List.getElem?_cons_succ]
    · rw [if_neg hk]
      by_cases he : k = o
      · subst he
        by_cases hs : k < cs.size
        · rw [if_pos (by omega)]; simp [hs]
        · rw [if_neg (by omega), Array.getElem?_eq_none (by simpa using hs), Array.getElem?_eq_none (by simpa using hs)]
      · rw [if_neg (by omega), Array.getElem?_setIfInBounds_ne (by omega)]
theorem fr_setCells {S : List Nat} {g : Nat} (hg : g ∈ S) : ∀ (vs : List Value) (o : Nat) {a w : World}, Fr S a w → Fr S a (w.setCells g o vs)
  | [], _, _, _, h => h
  | v :: vs, o, _, _, h => fr_setCells hg vs (o + 1) (h.set (.inl hg) v)

section
variable {P : Program}
/-- An element of an array of structs by value. -/
theorem run_index_rows {t e : TypeId} {n : Nat} {d : TypeDesc} {f : Nat → List Value} {m : Nat} (ht : P.underlying t = some (.array n e)) (he : P.underlying e = some d) (hd : d.isRow = true) (hi : (P.info? e).map (·.size) = some m)
    (hf : ∀ i, (f i).length = m) {k : Nat} (hk : k < n) (w : World) : (Instr.index t (.agg (rows f n).toArray) (.int .i64 (k : Int))).run P w = .ok (.agg (f k).toArray) w := by
  cases hq : P.info? e with
  | none => simp [hq] at hi
  | some i =>
    have hs : i.size = m := by simpa [hq] using hi
    have hagg : (isAgg e).run P w = .ok true w := by
      unfold isAgg
      rw [Sem.run_bind, run_underlying he w]
      cases d <;> simp_all
    have h0 : (0 : Int) ≤ k ∧ (k : Int) < n := by omega
    have hx : List.take m (List.drop (k * m) (rows f n)) = f k := by
      apply List.ext_getElem?
      intro j
      by_cases hj : j < m
      · rw [List.getElem?_take_of_lt (by omega), List.getElem?_drop, rows_get hf hk hj]
      · rw [List.getElem?_eq_none (by simp; omega), List.getElem?_eq_none (by simp [hf]; omega)]
    simp [Instr.index, run_underlying ht, asIntOf, h0, part, Sem.run_bind, hagg, sizeOf, typeInfo, hq, hs, hx, hk]
/-- An element of an array of single cells by value. -/
theorem run_index_cell {t e : TypeId} {n : Nat} {d : TypeDesc} {cs : Array Value} {v : Value} (ht : P.underlying t = some (.array n e)) (he : P.underlying e = some d) (hd : d.isRow = false) (hi : (P.info? e).map (·.size) = some 1)
    {k : Nat} (hk : k < n) (hv : cs[k]? = some v) (w : World) : (Instr.index t (.agg cs) (.int .i64 (k : Int))).run P w = .ok v w := by
  cases hq : P.info? e with
  | none => simp [hq] at hi
  | some i =>
    have hs : i.size = 1 := by simpa [hq] using hi
    have hagg : (isAgg e).run P w = .ok false w := by
      unfold isAgg
      rw [Sem.run_bind, run_underlying he w]
      cases d <;> simp_all [TypeDesc.isRow]
    simp [Instr.index, run_underlying ht, asIntOf, part, Sem.run_bind, hagg, sizeOf, typeInfo, hq, hs, hv]
    exact fun h => absurd h (by omega)
end
end Go.Fp
/- WHOLE BLOCKS: an aggregate loaded from a block that is known whole, and stored over one. -/
namespace Go.Fp
open Go Go.RowKit

section
variable {P : Program} {ops : Array Oper} {rest : List Oper} {o : Oper} {a : Act} {w : World} {Q : Exit → Act → World → Prop}

theorem run_loadVar_has {g T : Nat} {ty : TypeId} {cs : Array Value} {d : TypeDesc} (hg : Has w g T cs) (hu : P.underlying ty = some d) (hd : d.isRow = true) (hi : (P.info? ty).map (·.size) = some cs.size) :
    (loadVar ty ⟨g, 0, none⟩).run P w = .ok (.agg cs) w := by
  have := run_loadVar_mid (P := P) w g 0 ty cs.toList d (hg.range 0 cs.toList (fun j _ => by simp)) hu hd (by simpa using hi)
  simpa using this

theorem wpT_load {S : World → Prop} {cl : List Nat} (hgd : o.guard = none) (ty : TypeId) (x : Operand) (ho : o.op = .load ty x) (g T : Nat) (hx : a.eval x = .pointer (some ⟨g, 0, none⟩)) {cs : Array Value} {d : TypeDesc}
    (hg : Has w g T cs) (hu : P.underlying ty = some d) (hd : d.isRow = true) (hi : (P.info? ty).map (·.size) = some cs.size)
    (h : wpT P ops Q S cl rest (a.put o.dst (.agg cs)) w) : wpT P ops Q S (1 :: cl) (o :: rest) a w := by
  refine wpT_1 fun K hK => ?_
  rw [if_pos (by simp [Region.wanted, hgd])]
  refine ⟨.agg cs, ?_, hK _ h⟩
  unfold execOp
  simp only [ho, hx, Instr.loadAt, Instr.sureAddr, Sem.run_bind, Sem.run_pure, Result.andThen_ok, run_loadVar_has hg hu hd hi]

theorem wpList_load_has (hgd : o.guard = none) (ty : TypeId) (x : Operand) (ho : o.op = .load ty x) (g T : Nat) (hx : a.eval x = .pointer (some ⟨g, 0, none⟩)) {cs : Array Value} {d : TypeDesc}
    (hg : Has w g T cs) (hu : P.underlying ty = some d) (hd : d.isRow = true) (hi : (P.info? ty).map (·.size) = some cs.size)
    (h : wpList P ops Q rest (a.put o.dst (.agg cs)) w) : wpList P ops Q (o :: rest) a w := by
  have := wpList_load_mid (P := P) (ops := ops) (rest := rest) (Q := Q) hgd ty x ho g 0 hx cs.toList d (hg.range 0 cs.toList (fun j _ => by simp)) hu hd (by simpa using hi)
  exact this (by simpa using h)

theorem Has.setAll {g T : Nat} {zs l : Array Value} (h : Has w g T zs) (hz : zs.size = l.size) : Has (w.setCells g 0 l.toList) g T l := by
  obtain ⟨cs', h1, h2, h3⟩ := Has.setCells g 0 l.toList h rfl
  refine h1.eq (Array.ext_getElem? fun k => ?_)
  rw [h3 k]
  split
  · simp
  · rename_i hk
    simp only [Nat.zero_le, Nat.zero_add, Array.length_toList, true_and] at hk
    rw [Array.getElem?_eq_none (by omega), Array.getElem?_eq_none (by omega)]

theorem wpList_store_all (hgd : o.guard = none) (ty : TypeId) (x y : Operand) (ho : o.op = .store ty x y) (g T : Nat) (hx : a.eval x = .pointer (some ⟨g, 0, none⟩)) {l zs : Array Value} (hy : a.eval y = .agg l)
    (hg : Has w g T zs) (hz : zs.size = l.size) (hi : (P.info? ty).map (·.size) = some l.size) (h1 : l.all (·.oneCell') = true)
    (h : ∀ w', Has w' g T l → Fr [g] w w' → wpList P ops Q rest (a.put o.dst undef) w') : wpList P ops Q (o :: rest) a w :=
  wpList_store_mid hgd ty x y ho g 0 l hx hy (hg.there 0 l.size (by omega)) hi h1 (h _ (hg.setAll hz) (fr_setCells (by simp) _ _ (Fr.refl _ _)))
theorem Has.eq' {w : World} {g T : Nat} {cs ds : Array Value} (e : cs = ds) (h : Has w g T cs) : Has w g T ds := h.eq e
/-- What is known of the world is enough. -/
theorem wp_forget {c : Code} {Q : Exit → Act → World → Prop} {a : Act} {w : World} (R : World → Prop) (h : R w) (k : ∀ w', R w' → c.wp P Q a w') : c.wp P Q a w := k w h
end
end Go.Fp
/- SLICES OF THE CALL's OWN: what is owned stays so; what is read of them. -/
namespace Go.Fp
open Go Go.RowKit

section
variable {w w' a : World} {base n : Nat} {e : TypeId} {size : Nat} {v : Value} {xs : List Value}

theorem own_frS {S : List Nat} (f : Fr S w w') (h : w.ownsRow base e size v n xs) (hn : ∀ k, v.ownBlock = some k → k ∉ S) : w'.ownsRow base e size v n xs := by
  refine ⟨h.1, ?_⟩
  rcases h.2 with h2 | ⟨g, cap, cur, h0, h1, h2, h3⟩
  · exact .inl h2
  · refine .inr ⟨g, cap, cur, h0, h1, ?_, h3⟩
    rw [f.block g (Array.getElem?_eq_some_iff.1 h2).1 (hn g (by rw [h0]; rfl))]; exact h2
theorem own_fr (f : Fr [] w w') (h : w.ownsRow base e size v n xs) : w'.ownsRow base e size v n xs := own_frS f h (fun _ _ => by simp)
theorem own_base {base' : Nat} (h : w.ownsRow base e size v n xs) (hb : base' ≤ base) : w.ownsRow base' e size v n xs := by
  refine ⟨h.1, ?_⟩
  rcases h.2 with h | ⟨g, cap, cur, h0, h1, h2⟩
  · exact .inl h
  · exact .inr ⟨g, cap, cur, h0, by omega, h2⟩
theorem own_slice (h : w.ownsRow base e size v n xs) : ∃ x cap, v = .slice x n cap := by
  rcases h.2 with ⟨rfl, h0⟩ | ⟨g, cap, cur, rfl, _⟩
  · subst h0; exact ⟨none, 0, rfl⟩
  · exact ⟨_, _, rfl⟩
/-- It is no block of another type. -/
theorem own_ne {T g : Nat} {cs : Array Value} (h : w.ownsRow base e size v n xs) (hg : Has w g T cs) (hT : T ≠ e) : ∀ k, v.ownBlock = some k → k ∉ [g] := by
  intro k hk hm
  simp at hm
  subst hm
  rcases h.2 with ⟨rfl, _⟩ | ⟨g', cap, cur, rfl, _, h2, _⟩
  · simp [Value.ownBlock] at hk
  · simp [Value.ownBlock] at hk
    subst hk
    have hg' : w.heap[g']? = some (.cells cs T (0, 0)) := hg
    rw [h2] at hg'
    simp at hg'
    exact hT hg'.2.symm
/-- It is no elder block. -/
theorem own_ge {g : Nat} (h : w.ownsRow base e size v n xs) (hg : g < base) : ∀ k, v.ownBlock = some k → k ∉ [g] := by
  intro k hk hm
  simp at hm
  subst hm
  rcases h.2 with ⟨rfl, _⟩ | ⟨g', cap, cur, rfl, h1, h2, _⟩
  · simp [Value.ownBlock] at hk
  · simp [Value.ownBlock] at hk
    subst hk; omega
/-- What it reads as. -/
theorem own_read (h : w.ownsRow base e 1 v n xs) :
    xs.length = n ∧ ∃ (x : Option Addr) (cap g : Nat), v = .slice x n cap ∧ n ≤ cap ∧ cap ≤ maxLen ∧ (0 < n → x = some ⟨g, 0, none⟩ ∧ g < w.heap.size ∧ base ≤ g) ∧ ∀ i, i < n → w.cell? ⟨g, i, none⟩ = xs[i]? := by
  have hn : xs.length = n := by have := h.1; simpa using this
  refine ⟨hn, ?_⟩
  rcases h.2 with ⟨rfl, h0⟩ | ⟨g, cap, cur, rfl, h1, h2, h3, h4, h5, h6⟩
  · subst h0
    exact ⟨none, 0, 0, rfl, Nat.le_refl _, Nat.zero_le _, fun h => absurd h (by omega), fun i hi => absurd hi (by omega)⟩
  · exact ⟨_, cap, g, rfl, h3, h4, fun _ => ⟨rfl, (Array.getElem?_eq_some_iff.1 h2).1, h1⟩, fun i hi => h.cellAt i (by omega)⟩
theorem fr_grown {S : List Nat} (f : Fr S a w) (h : w.grownBy w' v.ownBlock) (ho : w.ownsRow a.heap.size e size v n xs) : Fr S a w' := by
  refine f.step (S' := match v.ownBlock with | some k => [k] | none => []) ⟨h.os, h.tape, h.output, h.size, fun k hk hn => h.block k hk fun e => hn (by rw [← e]; simp)⟩ (fun g hg => .inr ?_)
  cases hv : v.ownBlock with
  | none => rw [hv] at hg; simp at hg
  | some k => rw [hv] at hg; simp at hg; subst hg; exact (ho.lt _ hv).1
theorem fr_grown0 (h : w.grownBy w' none) : Fr [] w w' := ⟨h.os, h.tape, h.output, h.size, fun k hk _ => h.block k hk (by simp)⟩
theorem fr_grownS {g : Nat} (h : w.grownBy w' (some g)) : Fr [g] w w' := ⟨h.os, h.tape, h.output, h.size, fun k hk hn => h.block k hk (by simpa using hn)⟩
/-- A block that isn't the row's. -/
theorem has_grown {T g : Nat} {cs : Array Value} (hg : Has w g T cs) (h : w.grownBy w' v.ownBlock) (hn : ∀ k, v.ownBlock = some k → k ∉ [g]) : Has w' g T cs :=
  (h.block g hg.lt (fun e => (hn g e.symm) (by simp))).trans hg
theorem Has.new1 (w : World) (o : Obj) (cs : Array Value) (T : TypeId) : Has ((w.alloc o).alloc (.cells cs T (0, 0))) (w.heap.size + 1) T cs := by
  have := Has.new (w.alloc o) cs T
  simpa using this
end
/-- 'append(s, x)' of one cell, to a slice of the call's own, in whatever spelling of the world. -/
theorem wpList_append1 {P : Program} {ops : Array Oper} {rest : List Oper} {o : Oper} {a : Act} {w : World} {Q : Exit → Act → World → Prop} (hgd : o.guard = none) (s x : Operand) (t : TypeId)
    (ho : o.op = .call { callee := .builtin .append, args := #[s, x], argTypes := #[t, t] })
    (base : Nat) (e : TypeId) (i : TypeInfo) (z : Value) (bytes : Nat) (ht : P.underlying t = some (.slice e)) (hi : P.info? e = some i) (hz : i.zero = some z)
    (hsize : i.size = 1) (hby : i.bytes = bytes) (hzs : z.cells.size = 1)
    (v : Value) (n : Nat) (xs : List Value) (hs : a.eval s = v) {w0 : World} (hown : w0.ownsRow base e 1 v n xs) {S : List Nat} (f : Fr S w0 w) (hne : ∀ k, v.ownBlock = some k → k ∉ S)
    (g1 c : Nat) (u : Value) (hx : a.eval x = .slice (some ⟨g1, 0, none⟩) 1 c) (hcell : w.cell? ⟨g1, 0, none⟩ = some u) (h1 : u.oneCell' = true)
    (h63 : n + 1 ≤ maxLen) (hbytes : (n + 1) * bytes ≤ 140737488355328) (hbase : base ≤ w0.heap.size)
    (h : ∀ v' w', w'.ownsRow base e 1 v' (n + 1) (xs ++ [u]) → w.grownBy w' v.ownBlock → (v'.ownBlock = v.ownBlock ∨ v'.ownBlock = some w.heap.size) → wpList P ops Q rest (a.put o.dst v') w') :
    wpList P ops Q (o :: rest) a w :=
  wpList_append_own_at w hgd s x t ho base e i z 1 bytes ht hi hz hsize hby hzs (by decide) v n xs hs (own_frS f hown hne) ⟨g1, 0, none⟩ 1 c [u] hx rfl
    (fun j u' hj => by
      match j, hj with
      | 0, hj => simp at hj; subst hj; simpa [Addr.add] using hcell
      | j + 1, hj => simp at hj)
    (by simpa using h1) h63 hbytes (Nat.le_trans hbase f.size) (fun v' w' h1 h2 _ h4 => h v' w' h1 h2 h4)
theorem cell_new1 {w : World} {g T : Nat} {x : Value} (h : w.heap.size = g) : (w.alloc (.cells #[x] T (0, 0))).cell? ⟨g, 0, none⟩ = some x := by subst h; simp
theorem cell_new1d {w : World} {g T : Nat} {x : Value} (h : w.heap.size = g) : (w.alloc (.cells #[x] T (0, 0))).drew.cell? ⟨g, 0, none⟩ = some x := by subst h; simp
def i64s (l : List Nat) : List Value := l.map fun (d : Nat) => Value.int .i64 (d : Int)
end Go.Fp
