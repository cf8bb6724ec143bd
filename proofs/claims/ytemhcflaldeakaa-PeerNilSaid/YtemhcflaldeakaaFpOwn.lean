/- SLICES OF THE CALL's OWN: what is owned stays so; what is read of them. -/
import Derived.Test.YtemhcflaldeakaaFpKit
import Derived.Maps.AppendAt
namespace Go.Fp
open Go Go.RowKit

section
variable {w w' a : World} {base n : Nat} {e : TypeId} {size : Nat} {v : Value} {xs : List Value}

theorem own_frS {S : List Nat} (f : Fr S w w') (h : w.ownsRow base e size v n xs) (hn : ∀ k, v.ownBlock = some k → k ∉ S) : w'.ownsRow base e size v n xs := by
  refine ⟨h.1, ?_⟩
  rcases h.2 with h2 | ⟨g, cap, cur, h0, h1, h2, h3⟩
  · exact .inl h2
  · refine .inr ⟨g, cap, cur, h0, h1, ?_, h3⟩
    rw [f.block g (Array.getElem?_eq_some_iff.1 h2).1 (hn g (by rw [h0]; rfl))]; exact h2
theorem own_fr (f : Fr [] w w') (h : w.ownsRow base e size v n xs) : w'.ownsRow base e size v n xs := own_frS f h (fun _ _ => by simp)
theorem own_base {base' : Nat} (h : w.ownsRow base e size v n xs) (hb : base' ≤ base) : w.ownsRow base' e size v n xs := by
  refine ⟨h.1, ?_⟩
  rcases h.2 with h | ⟨g, cap, cur, h0, h1, h2⟩
  · exact .inl h
  · exact .inr ⟨g, cap, cur, h0, by omega, h2⟩
theorem own_slice (h : w.ownsRow base e size v n xs) : ∃ x cap, v = .slice x n cap := by
  rcases h.2 with ⟨rfl, h0⟩ | ⟨g, cap, cur, rfl, _⟩
  · subst h0; exact ⟨none, 0, rfl⟩
  · exact ⟨_, _, rfl⟩
/-- It is no block of another type. -/
theorem own_ne {T g : Nat} {cs : Array Value} (h : w.ownsRow base e size v n xs) (hg : Has w g T cs) (hT : T ≠ e) : ∀ k, v.ownBlock = some k → k ∉ [g] := by
  intro k hk hm
  simp at hm
  subst hm
  rcases h.2 with ⟨rfl, _⟩ | ⟨g', cap, cur, rfl, _, h2, _⟩
  · simp [Value.ownBlock] at hk
  · simp [Value.ownBlock] at hk
    subst hk
    have hg' : w.heap[g']? = some (.cells cs T (0, 0)) := hg
    rw [h2] at hg'
    simp at hg'
    exact hT hg'.2.symm
/-- It is no elder block. -/
theorem own_ge {g : Nat} (h : w.ownsRow base e size v n xs) (hg : g < base) : ∀ k, v.ownBlock = some k → k ∉ [g] := by
  intro k hk hm
  simp at hm
  subst hm
  rcases h.2 with ⟨rfl, _⟩ | ⟨g', cap, cur, rfl, h1, h2, _⟩
  · simp [Value.ownBlock] at hk
  · simp [Value.ownBlock] at hk
    subst hk; omega
/-- What it reads as. -/
theorem own_read (h : w.ownsRow base e 1 v n xs) :
    xs.length = n ∧ ∃ (x : Option Addr) (cap g : Nat), v = .slice x n cap ∧ n ≤ cap ∧ cap ≤ maxLen ∧ (0 < n → x = some ⟨g, 0, none⟩ ∧ g < w.heap.size ∧ base ≤ g) ∧ ∀ i, i < n → w.cell? ⟨g, i, none⟩ = xs[i]? := by
  have hn : xs.length = n := by have := h.1; simpa using this
  refine ⟨hn, ?_⟩
  rcases h.2 with ⟨rfl, h0⟩ | ⟨g, cap, cur, rfl, h1, h2, h3, h4, h5, h6⟩
  · subst h0
    exact ⟨none, 0, 0, rfl, Nat.le_refl _, Nat.zero_le _, fun h => absurd h (by omega), fun i hi => absurd hi (by omega)⟩
  · exact ⟨_, cap, g, rfl, h3, h4, fun _ => ⟨rfl, (Array.getElem?_eq_some_iff.1 h2).1, h1⟩, fun i hi => h.cellAt i (by omega)⟩
theorem fr_grown {S : List Nat} (f : Fr S a w) (h : w.grownBy w' v.ownBlock) (ho : w.ownsRow a.heap.size e size v n xs) : Fr S a w' := by
  refine f.step (S' := match v.ownBlock with | some k => [k] | none => []) ⟨h.os, h.tape, h.output, h.size, fun k hk hn => h.block k hk fun e => hn (by rw [← e]; simp)⟩ (fun g hg => .inr ?_)
  cases hv : v.ownBlock with
  | none => rw [hv] at hg; simp at hg
  | some k => rw [hv] at hg; simp at hg; subst hg; exact (ho.lt _ hv).1
theorem fr_grown0 (h : w.grownBy w' none) : Fr [] w w' := ⟨h.os, h.tape, h.output, h.size, fun k hk _ => h.block k hk (by simp)⟩
theorem fr_grownS {g : Nat} (h : w.grownBy w' (some g)) : Fr [g] w w' := ⟨h.os, h.tape, h.output, h.size, fun k hk hn => h.block k hk (by simpa using hn)⟩
/-- A block that isn't the row's. -/
theorem has_grown {T g : Nat} {cs : Array Value} (hg : Has w g T cs) (h : w.grownBy w' v.ownBlock) (hn : ∀ k, v.ownBlock = some k → k ∉ [g]) : Has w' g T cs :=
  (h.block g hg.lt (fun e => (hn g e.symm) (by simp))).trans hg
theorem Has.new1 (w : World) (o : Obj) (cs : Array Value) (T : TypeId) : Has ((w.alloc o).alloc (.cells cs T (0, 0))) (w.heap.size + 1) T cs := by
  have := Has.new (w.alloc o) cs T
  simpa using this
end
/-- 'append(s, x)' of one cell, to a slice of the call's own, in whatever spelling of the world. -/
theorem wpList_append1 {P : Program} {ops : Array Oper} {rest : List Oper} {o : Oper} {a : Act} {w : World} {Q : Exit → Act → World → Prop} (hgd : o.guard = none) (s x : Operand) (t : TypeId)
    (ho : o.op = .call { callee := .builtin .append, args := #[s, x], argTypes := #[t, t] })
    (base : Nat) (e : TypeId) (i : TypeInfo) (z : Value) (bytes : Nat) (ht : P.underlying t = some (.slice e)) (hi : P.info? e = some i) (hz : i.zero = some z)
    (hsize : i.size = 1) (hby : i.bytes = bytes) (hzs : z.cells.size = 1)
    (v : Value) (n : Nat) (xs : List Value) (hs : a.eval s = v) {w0 : World} (hown : w0.ownsRow base e 1 v n xs) {S : List Nat} (f : Fr S w0 w) (hne : ∀ k, v.ownBlock = some k → k ∉ S)
    (g1 c : Nat) (u : Value) (hx : a.eval x = .slice (some ⟨g1, 0, none⟩) 1 c) (hcell : w.cell? ⟨g1, 0, none⟩ = some u) (h1 : u.oneCell' = true)
    (h63 : n + 1 ≤ maxLen) (hbytes : (n + 1) * bytes ≤ 140737488355328) (hbase : base ≤ w0.heap.size)
    (h : ∀ v' w', w'.ownsRow base e 1 v' (n + 1) (xs ++ [u]) → w.grownBy w' v.ownBlock → (v'.ownBlock = v.ownBlock ∨ v'.ownBlock = some w.heap.size) → wpList P ops Q rest (a.put o.dst v') w') :
    wpList P ops Q (o :: rest) a w :=
  wpList_append_own_at w hgd s x t ho base e i z 1 bytes ht hi hz hsize hby hzs (by decide) v n xs hs (own_frS f hown hne) ⟨g1, 0, none⟩ 1 c [u] hx rfl
    (fun j u' hj => by
      match j, hj with
      | 0, hj => simp at hj; subst hj; simpa [Addr.add] using hcell
      | j + 1, hj => simp at hj)
    (by simpa using h1) h63 hbytes (Nat.le_trans hbase f.size) (fun v' w' h1 h2 _ h4 => h v' w' h1 h2 h4)
theorem cell_new1 {w : World} {g T : Nat} {x : Value} (h : w.heap.size = g) : (w.alloc (.cells #[x] T (0, 0))).cell? ⟨g, 0, none⟩ = some x := by subst h; simp
theorem cell_new1d {w : World} {g T : Nat} {x : Value} (h : w.heap.size = g) : (w.alloc (.cells #[x] T (0, 0))).drew.cell? ⟨g, 0, none⟩ = some x := by subst h; simp
def i64s (l : List Nat) : List Value := l.map fun (d : Nat) => Value.int .i64 (d : Int)
end Go.Fp
