/- THE WALKS of the document's window. -/
import Derived.Test.YtfcmjlbfoindaaaWin
import Derived.Maps.AppendAt
import Derived.Laws.OwnMore
import Derived.OwnWalk
namespace Go.Proofs.Ytfcmjlbfoindaaa
open Go.RowKit Go.Fp

/-- A list of numbers, in memory of its own. -/
def u64s (l : List Int) : List Value := l.map (.int .u64)
theorem u64s_get {l : List Int} {i : Nat} (h : i < l.length) : (u64s l)[i]? = some (.int .u64 l[i]) := by simp [u64s, h]

theorem own_fr {w w' : World} {base : Nat} {e : TypeId} {size : Nat} {v : Value} {n : Nat} {xs : List Value} (f : Fr [] w w') (h : w.ownsRow base e size v n xs) : w'.ownsRow base e size v n xs :=
  h.kept (row := none) ⟨f.os, f.tape, f.output, f.size, fun k hk _ => f.block k hk (by simp)⟩ (by cases v <;> first | exact Or.inl rfl | skip; all_goals (cases ‹Option Addr› <;> first | exact Or.inl rfl | (refine Or.inr ?_; simp [Value.ownBlock])))

/-- Is the number not taken, and may it be? -/
def rfresh (size boot top : Int) (l : List Int) (b c : Int) : Bool :=
  if b = 0 ∨ c = 0 ∨ b < boot then false else if boot < b ∨ top < c then true else if size ≤ top - c then false else !l.contains c

theorem own_open {w : World} {base : Nat} {e : TypeId} {v : Value} {n : Nat} {l : List Int} (h : w.ownsRow base e 1 v n (u64s l)) :
    l.length = n ∧ ∃ (x : Option Addr) (cap g : Nat), v = .slice x n cap ∧ n ≤ cap ∧ cap ≤ maxLen ∧ (0 < n → x = some ⟨g, 0, none⟩ ∧ g < w.heap.size) ∧ ∀ i (hi : i < l.length), w.cell? ⟨g, i, none⟩ = some (.int .u64 l[i]) := by
  have hn : l.length = n := by have := h.1; simpa [u64s] using this
  refine ⟨hn, ?_⟩
  rcases h.2 with ⟨rfl, h0⟩ | ⟨g, cap, cur, rfl, h1, h2, h3, h4, h5, h6⟩
  · subst h0
    exact ⟨none, 0, 0, rfl, Nat.le_refl _, Nat.zero_le _, fun h => absurd h (by omega), fun i hi => absurd hi (by omega)⟩
  · refine ⟨_, cap, g, rfl, h3, h4, fun _ => ⟨rfl, (Array.getElem?_eq_some_iff.1 h2).1⟩, fun i hi => ?_⟩
    rw [h.cellAt i (by omega), u64s_get hi]

theorem own_base {w : World} {base base' : Nat} {e : TypeId} {size : Nat} {v : Value} {n : Nat} {xs : List Value} (h : w.ownsRow base e size v n xs) (hb : base' ≤ base) : w.ownsRow base' e size v n xs := by
  refine ⟨h.1, ?_⟩
  rcases h.2 with h | ⟨g, cap, cur, h0, h1, h2⟩
  · exact .inl h
  · exact .inr ⟨g, cap, cur, h0, by omega, h2⟩

def RfRel (c : Int) (l : List Int) (w1 : World) (s7 : Value) (wr : World) : Prop :=
  ∃ k : Nat, k ≤ l.length ∧ s7 = .int .i64 k ∧ (∀ i (h : i < l.length), i < k → ¬ l[i] = c) ∧ wr = w1

theorem contains_no {l : List Int} {c : Int} (h : ∀ i (h : i < l.length), i < l.length → ¬ l[i] = c) : l.contains c = false := by
  rw [Bool.eq_false_iff]
  intro hc
  rw [List.contains_iff_mem] at hc
  obtain ⟨i, hi, he⟩ := List.getElem_of_mem hc
  exact h i hi hi he
theorem contains_yes {l : List Int} {c : Int} {i : Nat} (h : i < l.length) (he : l[i] = c) : l.contains c = true := by
  rw [List.contains_iff_mem]
  exact he ▸ List.getElem_mem h

theorem fr_grown {S : List Nat} {a w w' : World} {e : TypeId} {size n : Nat} {v : Value} {xs : List Value} (f : Fr S a w) (h : w.grownBy w' v.ownBlock) (ho : w.ownsRow a.heap.size e size v n xs) : Fr S a w' := by
  refine f.step (S' := match v.ownBlock with | some k => [k] | none => []) ⟨h.os, h.tape, h.output, h.size, fun k hk hn => h.block k hk fun e => hn (by rw [← e]; simp)⟩ (fun g hg => .inr ?_)
  cases hv : v.ownBlock with
  | none => rw [hv] at hg; simp at hg
  | some k => rw [hv] at hg; simp at hg; subst hg; exact (ho.lt _ hv).1

theorem own_frS {S : List Nat} {w w' : World} {base : Nat} {e : TypeId} {size : Nat} {v : Value} {n : Nat} {xs : List Value} (f : Fr S w w') (h : w.ownsRow base e size v n xs) (hn : ∀ k, v.ownBlock = some k → k ∉ S) : w'.ownsRow base e size v n xs := by
  refine ⟨h.1, ?_⟩
  rcases h.2 with h2 | ⟨g, cap, cur, h0, h1, h2, h3⟩
  · exact .inl h2
  · refine .inr ⟨g, cap, cur, h0, h1, ?_, h3⟩
    rw [f.block g (Array.getElem?_eq_some_iff.1 h2).1 (hn g (by rw [h0]; rfl))]; exact h2
theorem Has.new1 (w : World) (o : Obj) (cs : Array Value) (T : TypeId) : Has ((w.alloc o).alloc (.cells cs T (0, 0))) (w.heap.size + 1) T cs := by
  have := Has.new (w.alloc o) cs T
  simpa using this

theorem infoU64 : (Try.prog.info? 100).map (fun i => (i.zero, i.size, i.bytes)) = some (some (.int .u64 0), 1, 8) := by kernel_rfl
def rtake (size boot top : Int) (l : List Int) (b c : Int) : Int × Int × Int × List Int :=
  if b = 0 ∨ c = 0 then (1, boot, top, l) else if rfresh size boot top l b c = false then (25, boot, top, l)
  else if boot < b then (0, b, c, [c]) else (0, boot, if top < c then c else top, l ++ [c])

def RtRel (l : List Int) (w1 : World) (s8 s9 : Value) (wr : World) : Prop :=
  ∃ k : Nat, k ≤ l.length ∧ s9 = .int .i64 k ∧ wr.ownsRow w1.heap.size 100 1 s8 k (u64s (l.take k)) ∧ Fr [] w1 wr

end Go.Proofs.Ytfcmjlbfoindaaa
