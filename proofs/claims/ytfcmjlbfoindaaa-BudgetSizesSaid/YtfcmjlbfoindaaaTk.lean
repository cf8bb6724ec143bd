/- A SMALL LOGIC OF MEMORY: what a call knows of the memory is a list of objects, each apart from the others; a call is handed some of them, and hands them back. -/
import Derived.Test.YtfcmjlbfoindaaaFpKit
import Derived.Maps.AppendAt
namespace Go.Fp
open Go Go.RowKit

/-- What is said of some blocks (their numbers, the world). -/
structure Ob where
  P : List Nat → World → Prop
  lt : ∀ {f w}, P f w → ∀ k, k ∈ f → k < w.heap.size
  loc : ∀ {f w w'}, P f w → (∀ k, k ∈ f → w'.heap[k]? = w.heap[k]?) → P f w'

namespace Ob
theorem lt_of_some {w w' : World} {k : Nat} (h : w'.heap[k]? = w.heap[k]?) (hk : k < w.heap.size) : k < w'.heap.size := by
  rcases Nat.lt_or_ge k w'.heap.size with h1 | h1
  · exact h1
  · rw [Array.getElem?_eq_none h1, Array.getElem?_eq_getElem hk] at h; cases h

def emp : Ob where
  P f _ := f = []
  lt := by rintro f w rfl k hk; cases hk
  loc := fun h _ => h
/-- One block, known whole. -/
def blk (g : Nat) (T : TypeId) (cs : List Value) : Ob where
  P f w := f = [g] ∧ Has w g T cs.toArray
  lt := by rintro f w ⟨rfl, h⟩ k hk; simp at hk; subst hk; exact h.lt
  loc := by rintro f w w' ⟨rfl, h⟩ hk; exact ⟨rfl, (hk g (by simp)).trans h⟩
/-- A slice of the call's own. -/
def own (e : TypeId) (size : Nat) (v : Value) (n : Nat) (xs : List Value) : Ob where
  P f w := f = v.ownBlock.toList ∧ w.ownsRow 0 e size v n xs
  lt := by
    rintro f w ⟨rfl, h⟩ k hk
    cases hv : v.ownBlock with
    | none => rw [hv] at hk; simp at hk
    | some g => rw [hv] at hk; simp at hk; subst hk; exact (h.lt _ hv).2
  loc := by
    rintro f w w' ⟨rfl, h⟩ hk
    refine ⟨rfl, h.1, ?_⟩
    rcases h.2 with h2 | ⟨g, cap, cur, h0, h1, h2, h3⟩
    · exact .inl h2
    · exact .inr ⟨g, cap, cur, h0, h1, (hk g (by rw [h0]; simp [Value.ownBlock])).trans h2, h3⟩
def sep (a b : Ob) : Ob where
  P f w := ∃ x y, f = x ++ y ∧ a.P x w ∧ b.P y w ∧ ∀ k, k ∈ x → k ∉ y
  lt := by
    rintro f w ⟨x, y, rfl, h1, h2, _⟩ k hk
    rcases List.mem_append.1 hk with hk | hk
    · exact a.lt h1 k hk
    · exact b.lt h2 k hk
  loc := by
    rintro f w w' ⟨x, y, rfl, h1, h2, h3⟩ hk
    exact ⟨x, y, rfl, a.loc h1 (fun k h => hk k (List.mem_append_left _ h)), b.loc h2 (fun k h => hk k (List.mem_append_right _ h)), h3⟩
def ex {α : Sort _} (F : α → Ob) : Ob where
  P f w := ∃ x, (F x).P f w
  lt := by rintro f w ⟨x, h⟩; exact (F x).lt h
  loc := by rintro f w w' ⟨x, h⟩ hk; exact ⟨x, (F x).loc h hk⟩
def so (p : Prop) (a : Ob) : Ob where
  P f w := p ∧ a.P f w
  lt := fun h => a.lt h.2
  loc := fun h hk => ⟨h.1, a.loc h.2 hk⟩
def all : List Ob → Ob
  | [] => emp
  | o :: l => sep o (all l)

/-- From one to the other (what is over is let go). -/
def Ent (a b : Ob) : Prop := ∀ f w, a.P f w → ∃ f', b.P f' w ∧ ∀ k, k ∈ f' → k ∈ f

theorem Ent.refl (a : Ob) : Ent a a := fun f _ h => ⟨f, h, fun _ hk => hk⟩
theorem Ent.trans {a b c : Ob} (h : Ent a b) (k : Ent b c) : Ent a c := fun f w ha => by
  obtain ⟨f1, h1, s1⟩ := h f w ha
  obtain ⟨f2, h2, s2⟩ := k f1 w h1
  exact ⟨f2, h2, fun k hk => s1 k (s2 k hk)⟩
theorem Ent.sep {a b a' b' : Ob} (h : Ent a a') (k : Ent b b') : Ent (sep a b) (sep a' b') := by
  rintro f w ⟨x, y, rfl, h1, h2, h3⟩
  obtain ⟨x', g1, s1⟩ := h x w h1
  obtain ⟨y', g2, s2⟩ := k y w h2
  refine ⟨x' ++ y', ⟨x', y', rfl, g1, g2, fun k hx hy => h3 k (s1 k hx) (s2 k hy)⟩, fun k hk => ?_⟩
  rcases List.mem_append.1 hk with hk | hk
  · exact List.mem_append_left _ (s1 k hk)
  · exact List.mem_append_right _ (s2 k hk)
theorem Ent.swap (a b c : Ob) : Ent (Ob.sep a (Ob.sep b c)) (Ob.sep b (Ob.sep a c)) := by
  rintro f w ⟨x, _, rfl, h1, ⟨y, z, rfl, h2, h3, h4⟩, h5⟩
  refine ⟨y ++ (x ++ z), ⟨y, x ++ z, rfl, h2, ⟨x, z, rfl, h1, h3, fun k hx hz => h5 k hx (List.mem_append_right _ hz)⟩, fun k hy hxz => ?_⟩, fun k hk => ?_⟩
  · rcases List.mem_append.1 hxz with hx | hz
    · exact h5 k hx (List.mem_append_left _ hy)
    · exact h4 k hy hz
  · simp only [List.mem_append] at hk ⊢; rcases hk with h | h | h <;> simp [h]
theorem Ent.assoc (a b c : Ob) : Ent (Ob.sep (Ob.sep a b) c) (Ob.sep a (Ob.sep b c)) := by
  rintro f w ⟨_, z, rfl, ⟨x, y, rfl, h1, h2, h4⟩, h3, h5⟩
  refine ⟨x ++ (y ++ z), ⟨x, y ++ z, rfl, h1, ⟨y, z, rfl, h2, h3, fun k hy hz => h5 k (List.mem_append_right _ hy) hz⟩, fun k hx hyz => ?_⟩, fun k hk => ?_⟩
  · rcases List.mem_append.1 hyz with hy | hz
    · exact h4 k hx hy
    · exact h5 k (List.mem_append_left _ hx) hz
  · simp only [List.mem_append] at hk ⊢; rcases hk with h | h | h <;> simp [h]
theorem Ent.assoc' (a b c : Ob) : Ent (Ob.sep a (Ob.sep b c)) (Ob.sep (Ob.sep a b) c) := by
  rintro f w ⟨x, _, rfl, h1, ⟨y, z, rfl, h2, h3, h4⟩, h5⟩
  refine ⟨(x ++ y) ++ z, ⟨x ++ y, z, rfl, ⟨x, y, rfl, h1, h2, fun k hx hy => h5 k hx (List.mem_append_left _ hy)⟩, h3, fun k hxy hz => ?_⟩, fun k hk => ?_⟩
  · rcases List.mem_append.1 hxy with hx | hy
    · exact h5 k hx (List.mem_append_right _ hz)
    · exact h4 k hy hz
  · simp only [List.mem_append] at hk ⊢; rcases hk with (h | h) | h <;> simp [h]
theorem Ent.comm (a b : Ob) : Ent (Ob.sep a b) (Ob.sep b a) := by
  rintro f w ⟨x, y, rfl, h1, h2, h3⟩
  refine ⟨y ++ x, ⟨y, x, rfl, h2, h1, fun k hy hx => h3 k hx hy⟩, fun k hk => ?_⟩
  simp only [List.mem_append] at hk ⊢; exact hk.symm
theorem Ent.drop (a b : Ob) : Ent (Ob.sep a b) b := by
  rintro f w ⟨x, y, rfl, _, h2, _⟩
  exact ⟨y, h2, fun k hk => List.mem_append_right _ hk⟩
theorem Ent.fst (a b : Ob) : Ent (Ob.sep a b) a := by
  rintro f w ⟨x, y, rfl, h1, _, _⟩
  exact ⟨x, h1, fun k hk => List.mem_append_left _ hk⟩
theorem Ent.exI {α : Sort _} {F : α → Ob} (x : α) : Ent (F x) (ex F) := fun f _ h => ⟨f, ⟨x, h⟩, fun _ hk => hk⟩
theorem Ent.soI {p : Prop} {a : Ob} (h : p) : Ent a (so p a) := fun f _ ha => ⟨f, ⟨h, ha⟩, fun _ hk => hk⟩
theorem Ent.soE {p : Prop} {a : Ob} : Ent (so p a) a := fun f _ ha => ⟨f, ha.2, fun _ hk => hk⟩

theorem Ent.front : ∀ (i : Nat) {l : List Ob} {o : Ob}, l[i]? = some o → Ent (all l) (all (o :: l.eraseIdx i))
  | 0, _ :: _, _, h => by simp at h; subst h; exact Ent.refl _
  | i + 1, a :: l, o, h => by
    have h' : l[i]? = some o := by simpa using h
    exact Ent.trans (Ent.sep (Ent.refl a) (Ent.front i h')) (Ent.swap _ _ _)
theorem Ent.back : ∀ (i : Nat) {l : List Ob} (o : Ob), i < l.length → Ent (all (o :: l.eraseIdx i)) (all (l.set i o))
  | 0, _ :: _, _, _ => Ent.refl _
  | i + 1, a :: l, o, h => by
    have h' : i < l.length := by simpa using h
    exact Ent.trans (Ent.swap _ _ _) (Ent.sep (Ent.refl a) (Ent.back i o h'))
theorem Ent.app1 : ∀ (l1 l2 : List Ob), Ent (all (l1 ++ l2)) (Ob.sep (all l1) (all l2))
  | [], l2 => fun f w h => ⟨f, ⟨[], f, rfl, rfl, h, fun k hk => (by cases hk)⟩, fun _ hk => hk⟩
  | a :: l1, l2 => Ent.trans (Ent.sep (Ent.refl a) (Ent.app1 l1 l2)) (Ent.assoc' _ _ _)
theorem Ent.app2 : ∀ (l1 l2 : List Ob), Ent (Ob.sep (all l1) (all l2)) (all (l1 ++ l2))
  | [], _ => Ent.drop _ _
  | a :: l1, l2 => Ent.trans (Ent.assoc _ _ _) (Ent.sep (Ent.refl a) (Ent.app2 l1 l2))
theorem all_mem : ∀ {l : List Ob} {o : Ob}, o ∈ l → ∀ {f w}, (all l).P f w → ∃ f', o.P f' w ∧ ∀ k, k ∈ f' → k ∈ f
  | a :: l, o, hm, f, w, ⟨x, y, e, h1, h2, _⟩ => by
    rcases List.mem_cons.1 hm with rfl | hm
    · exact ⟨x, h1, fun k hk => e ▸ List.mem_append_left _ hk⟩
    · obtain ⟨f', h, s⟩ := all_mem hm h2
      exact ⟨f', h, fun k hk => e ▸ List.mem_append_right _ (s k hk)⟩
end Ob
open Ob

/-- WHAT IS KNOWN: since w0 nothing but the blocks of S was turned; the objects l are S's or new, apart from one another; the objects m are only read, and apart from those of l. -/
def Tk (S : List Nat) (w0 w : World) (l m : List Ob) : Prop :=
  Fr S w0 w ∧ ∃ F, (all l).P F w ∧ (∀ k, k ∈ F → k ∈ S ∨ w0.heap.size ≤ k) ∧ ∀ o, o ∈ m → ∃ f, o.P f w ∧ ∀ k, k ∈ f → k ∉ F

section
variable {S : List Nat} {w0 w w' : World} {l l' m : List Ob}

theorem Tk.fr (h : Tk S w0 w l m) : Fr S w0 w := h.1
theorem Tk.ent (h : Tk S w0 w l m) (e : Ent (all l) (all l')) : Tk S w0 w l' m := by
  obtain ⟨h1, F, h2, h3, h4⟩ := h
  obtain ⟨F', g2, s⟩ := e F w h2
  exact ⟨h1, F', g2, fun k hk => h3 k (s k hk), fun o ho => (by obtain ⟨f, a, b⟩ := h4 o ho; exact ⟨f, a, fun k hk hk1 => b k hk (s k hk1)⟩)⟩
theorem Tk.forget (h : Tk S w0 w l m) {m' : List Ob} (hm : ∀ o, o ∈ m' → o ∈ m) : Tk S w0 w l m' := by
  obtain ⟨h1, F, h2, h3, h4⟩ := h
  exact ⟨h1, F, h2, h3, fun o ho => h4 o (hm o ho)⟩
/-- THE FRAME: a call is handed l1, and reads m'. -/
theorem Tk.frame {l1 l2 m' : List Ob} (h : Tk S w0 w (l1 ++ l2) m) (hm : ∀ o, o ∈ m' → ∃ o', o' ∈ l2 ++ m ∧ Ent o' o) :
    ∃ f, Tk f w w l1 m' ∧ ∀ w' l1' m1, Tk f w w' l1' m1 → Tk S w0 w' (l1' ++ l2) m := by
  obtain ⟨h1, F, h2, h3, h4⟩ := h
  obtain ⟨_, ⟨F1, F2, rfl, a1, a2, ap⟩, sub⟩ := Ent.app1 l1 l2 F w h2
  refine ⟨F1, ⟨Fr.refl _ _, F1, a1, fun k hk => .inl hk, fun o ho => ?_⟩, fun w' l1' m1 hw => ?_⟩
  · obtain ⟨o', ho', he⟩ := hm o ho
    rcases List.mem_append.1 ho' with ho' | ho'
    · obtain ⟨f', b1, b2⟩ := all_mem ho' a2
      obtain ⟨f2, c1, c2⟩ := he _ _ b1
      exact ⟨f2, c1, fun k hk hk' => ap k hk' (b2 k (c2 k hk))⟩
    · obtain ⟨f', b1, b2⟩ := h4 o' ho'
      obtain ⟨f2, c1, c2⟩ := he _ _ b1
      exact ⟨f2, c1, fun k hk hk' => b2 k (c2 k hk) (sub k (List.mem_append_left _ hk'))⟩
  · obtain ⟨g1, G, g2, g3, g4⟩ := hw
    have hF1 : ∀ k, k ∈ F1 → k ∈ S ∨ w0.heap.size ≤ k := fun k hk => h3 k (sub k (List.mem_append_left _ hk))
    have b2 : (all l2).P F2 w' := (all l2).loc a2 fun k hk => g1.block k ((all l2).lt a2 k hk) (fun hk' => ap k hk' hk)
    have apG : ∀ k, k ∈ G → k ∉ F2 := fun k hk hk2 => by
      rcases g3 k hk with h | h
      · exact ap k h hk2
      · have := (all l2).lt a2 k hk2; omega
    obtain ⟨F', e1, e2⟩ := Ent.app2 l1' l2 (G ++ F2) w' ⟨G, F2, rfl, g2, b2, apG⟩
    refine ⟨h1.step g1 hF1, F', e1, fun k hk => ?_, fun o ho => ?_⟩
    · rcases List.mem_append.1 (e2 k hk) with hk | hk
      · rcases g3 k hk with h | h
        · exact hF1 k h
        · exact .inr (Nat.le_trans h1.size h)
      · exact h3 k (sub k (List.mem_append_right _ hk))
    · obtain ⟨f, c1, c2⟩ := h4 o ho
      refine ⟨f, o.loc c1 fun k hk => g1.block k (o.lt c1 k hk) (fun hk' => c2 k hk (sub k (List.mem_append_left _ hk'))), fun k hk hk' => ?_⟩
      rcases List.mem_append.1 (e2 k hk') with hk1 | hk1
      · rcases g3 k hk1 with h | h
        · exact c2 k hk (sub k (List.mem_append_left _ h))
        · have := o.lt c1 k hk; omega
      · exact c2 k hk (sub k (List.mem_append_right _ hk1))
/-- A call that is handed nothing. -/
theorem Tk.call0 (h : Tk S w0 w l m) (m' : List Ob) (hm : ∀ o, o ∈ m' → ∃ o', o' ∈ l ++ m ∧ Ent o' o) :
    Tk [] w w [] m' ∧ ∀ w' l' m1, Tk [] w w' l' m1 → Tk S w0 w' (l' ++ l) m := by
  obtain ⟨f, h1, h2⟩ := Tk.frame (l1 := []) (l2 := l) h hm
  obtain ⟨a, F, a1, a2, a3⟩ := h1
  have : F = [] := a1
  subst this
  exact ⟨⟨Fr.refl _ _, [], rfl, fun k hk => (by cases hk), a3⟩, fun w' l' m1 hw => h2 w' l' m1 (by
    obtain ⟨b, G, b1, b2, b3⟩ := hw
    exact ⟨b.weaken (fun g hg => by cases hg), G, b1, fun k hk => (by rcases b2 k hk with h | h; cases h; exact .inr h), b3⟩)⟩
/-- A call that is handed object i. -/
theorem Tk.call1 (h : Tk S w0 w l m) (i : Nat) {o : Ob} (hi : l[i]? = some o) (m' : List Ob) (hm : ∀ o', o' ∈ m' → ∃ o2, o2 ∈ l.eraseIdx i ++ m ∧ Ent o2 o') :
    ∃ f, Tk f w w [o] m' ∧ ∀ w' o' l' m1, Tk f w w' (o' :: l') m1 → Tk S w0 w' (l' ++ l.set i o') m := by
  have hlt := (List.getElem?_eq_some_iff.1 hi).1
  obtain ⟨f, h1, h2⟩ := Tk.frame (l1 := [o]) (l2 := l.eraseIdx i) (h.ent (Ent.front i hi)) hm
  refine ⟨f, h1, fun w' o' l' m1 hw => (h2 w' (o' :: l') m1 hw).ent ?_⟩
  refine Ent.trans (Ent.trans (Ent.sep (Ent.refl _) (Ent.app1 _ _)) (Ent.swap _ _ _)) (Ent.trans (Ent.sep (Ent.refl _) (Ent.back i o' hlt)) (Ent.app2 _ _))
theorem Tk.call1m (h : Tk S w0 w l m) (i : Nat) {o : Ob} (hi : l[i]? = some o) :
    ∃ f, Tk f w w [o] m ∧ ∀ w' o' l' m1, Tk f w w' (o' :: l') m1 → Tk S w0 w' (l' ++ l.set i o') m :=
  h.call1 i hi m fun o ho => ⟨o, List.mem_append_right _ ho, Ent.refl _⟩
theorem Tk.call0m (h : Tk S w0 w l m) : Tk [] w w [] m ∧ ∀ w' l' m1, Tk [] w w' l' m1 → Tk S w0 w' (l' ++ l) m :=
  h.call0 m fun o ho => ⟨o, List.mem_append_right _ ho, Ent.refl _⟩
theorem Tk.start0 (w : World) : Tk [] w w [] [] := ⟨Fr.refl _ _, [], rfl, fun k hk => (by cases hk), fun o ho => (by cases ho)⟩
/-- A step that turns nothing known. -/
theorem Tk.same (h : Tk S w0 w l m) (f : Fr [] w w') : Tk S w0 w' l m :=
  (h.call0 [] (fun o ho => (by cases ho))).2 w' [] [] ⟨f, [], rfl, fun k hk => (by cases hk), fun o ho => (by cases ho)⟩
theorem Tk.drew (h : Tk S w0 w l m) : Tk S w0 w.drew l m := h.same (Fr.refl _ _).drew
theorem Tk.alloc (h : Tk S w0 w l m) (T : TypeId) (cs : List Value) : Tk S w0 (w.alloc (.cells cs.toArray T (0, 0))) (blk w.heap.size T cs :: l) m :=
  (h.call0 [] (fun o ho => (by cases ho))).2 _ [blk w.heap.size T cs] [] ⟨(Fr.refl _ _).alloc _, [w.heap.size],
    ⟨[w.heap.size], [], rfl, ⟨rfl, Has.new w _ T⟩, rfl, fun k _ hk => (by cases hk)⟩, fun k hk => (by simp at hk; subst hk; exact .inr (Nat.le_refl _)), fun o ho => (by cases ho)⟩
theorem Tk.at (h : Tk S w0 w l m) (i : Nat) {o : Ob} (hi : l[i]? = some o) : ∃ f, o.P f w ∧ ∀ k, k ∈ f → k ∈ S ∨ w0.heap.size ≤ k := by
  obtain ⟨h1, F, h2, h3, h4⟩ := h
  obtain ⟨f, a, b⟩ := all_mem (List.mem_of_getElem? hi) h2
  exact ⟨f, a, fun k hk => h3 k (b k hk)⟩
theorem Tk.ro (h : Tk S w0 w l m) (i : Nat) {o : Ob} (hi : m[i]? = some o) : ∃ f, o.P f w := by
  obtain ⟨h1, F, h2, h3, h4⟩ := h
  obtain ⟨f, a, _⟩ := h4 o (List.mem_of_getElem? hi)
  exact ⟨f, a⟩
theorem Tk.has (h : Tk S w0 w l m) (i : Nat) {g T : Nat} {cs : List Value} (hi : l[i]? = some (blk g T cs)) : Has w g T cs.toArray := by
  obtain ⟨f, ⟨_, h⟩, _⟩ := h.at i hi; exact h
theorem Tk.rhas (h : Tk S w0 w l m) (i : Nat) {g T : Nat} {cs : List Value} (hi : m[i]? = some (blk g T cs)) : Has w g T cs.toArray := by
  obtain ⟨f, _, h⟩ := h.ro i hi; exact h
theorem Tk.owns (h : Tk S w0 w l m) (i : Nat) {e size : Nat} {v : Value} {n : Nat} {xs : List Value} (hi : l[i]? = some (own e size v n xs)) : w.ownsRow 0 e size v n xs := by
  obtain ⟨f, ⟨_, h⟩, _⟩ := h.at i hi; exact h
/-- Object i is turned (by whatever turns its blocks alone). -/
theorem Tk.turn (h : Tk S w0 w l m) (i : Nat) {o o' : Ob} (hi : l[i]? = some o) (hw : ∀ f, o.P f w → ∃ f', o'.P f' w' ∧ Fr f w w' ∧ ∀ k, k ∈ f' → k ∈ f ∨ w.heap.size ≤ k) : Tk S w0 w' (l.set i o') m := by
  obtain ⟨f, h1, h2⟩ := h.call1 i hi [] (fun o ho => (by cases ho))
  obtain ⟨_, F, ⟨x, y, hF, a1, a2, _⟩, a3, _⟩ := h1
  have : y = [] := a2
  subst this
  rw [List.append_nil] at hF
  subst hF
  obtain ⟨f', b1, b2, b3⟩ := hw F a1
  have hsub : ∀ g, g ∈ F → g ∈ f := fun g hg => by
    rcases a3 g hg with h | h
    · exact h
    · have := o.lt a1 g hg; omega
  refine h2 w' o' [] [] ⟨b2.weaken hsub, f', ⟨f', [], by simp, b1, rfl, fun k _ hk => (by cases hk)⟩, fun k hk => ?_, fun o ho => (by cases ho)⟩
  rcases b3 k hk with h | h
  · exact .inl (hsub k h)
  · exact .inr h
theorem Tk.store (h : Tk S w0 w l m) (i : Nat) {g T : Nat} {cs : List Value} (hi : l[i]? = some (blk g T cs)) (k : Nat) (v : Value) :
    Tk S w0 (w.setCell ⟨g, k, none⟩ v) (l.set i (blk g T (cs.set k v))) m :=
  h.turn i hi fun f ⟨hf, hh⟩ => ⟨f, ⟨hf, by rw [← List.setIfInBounds_toArray]; exact hh.set k v⟩, (Fr.refl _ _).set (.inl (by rw [hf]; simp)) v, fun k hk => .inl hk⟩
theorem Tk.drop {o : Ob} (h : Tk S w0 w (o :: l) m) : Tk S w0 w l m := h.ent (Ent.drop _ _)
theorem Tk.exE {α : Sort _} {F : α → Ob} (h : Tk S w0 w (ex F :: l) m) : ∃ x, Tk S w0 w (F x :: l) m := by
  obtain ⟨h1, G, ⟨x, y, e, ⟨u, a1⟩, a2, a3⟩, h3⟩ := h
  exact ⟨u, h1, G, ⟨x, y, e, a1, a2, a3⟩, h3⟩
theorem Tk.exI {α : Sort _} {F : α → Ob} (x : α) (h : Tk S w0 w (F x :: l) m) : Tk S w0 w (ex F :: l) m := h.ent (Ent.sep (Ent.exI x) (Ent.refl _))
theorem Tk.sepE {a b : Ob} (h : Tk S w0 w (sep a b :: l) m) : Tk S w0 w (a :: b :: l) m := h.ent (Ent.assoc _ _ _)
theorem Tk.sepI {a b : Ob} (h : Tk S w0 w (a :: b :: l) m) : Tk S w0 w (sep a b :: l) m := h.ent (Ent.assoc' _ _ _)
theorem Tk.soE {p : Prop} {a : Ob} (h : Tk S w0 w (so p a :: l) m) : p ∧ Tk S w0 w (a :: l) m :=
  ⟨by obtain ⟨f, ⟨hp, _⟩, _⟩ := h.at 0 rfl; exact hp, h.ent (Ent.sep Ent.soE (Ent.refl _))⟩
theorem Tk.soI {p : Prop} {a : Ob} (hp : p) (h : Tk S w0 w (a :: l) m) : Tk S w0 w (so p a :: l) m := h.ent (Ent.sep (Ent.soI hp) (Ent.refl _))
theorem Tk.swap {a b : Ob} (h : Tk S w0 w (a :: b :: l) m) : Tk S w0 w (b :: a :: l) m := h.ent (Ent.swap _ _ _)
theorem Tk.front (h : Tk S w0 w l m) (i : Nat) {o : Ob} (hi : l[i]? = some o) : Tk S w0 w (o :: l.eraseIdx i) m := h.ent (Ent.front i hi)
/-- The first goes behind all. -/
theorem Tk.rot {o : Ob} (h : Tk S w0 w (o :: l) m) : Tk S w0 w (l ++ [o]) m :=
  h.ent (Ent.trans (Ent.comm _ _) (Ent.trans (Ent.sep (Ent.refl _) (b' := all [o]) (fun f w h => ⟨f, ⟨f, [], by simp, h, rfl, fun k _ hk => (by cases hk)⟩, fun _ hk => hk⟩)) (Ent.app2 l [o])))
theorem Tk.nil (h : Tk S w0 w l m) : Tk S w0 w [] m := h.ent (l' := []) fun _ _ _ => ⟨[], rfl, fun k hk => (by cases hk)⟩
theorem Tk.fst {o : Ob} (h : Tk S w0 w (o :: l) m) : Tk S w0 w [o] m := h.ent (Ent.sep (Ent.refl _) (fun _ _ _ => ⟨[], rfl, fun k hk => (by cases hk)⟩))
end
end Go.Fp
