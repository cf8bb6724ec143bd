/- UPDATES, plainly; parts of rows. -/
import Derived.Test.YteikjachfafadaaPU21
namespace Go.Fp
open Go Go.RowKit
theorem drop_flat {α : Type} {k : Nat} : ∀ {ls : List (List α)}, (∀ l, l ∈ ls → l.length = k) → ∀ j, ls.flatten.drop (j * k) = (ls.drop j).flatten
  | [], _, j => by simp
  | l :: ls, h, 0 => by simp
  | l :: ls, h, j + 1 => by
    have hl := h l (by simp)
    rw [List.flatten_cons, List.drop_succ_cons, ← drop_flat (fun x hx => h x (List.mem_cons_of_mem _ hx)) j, Nat.add_mul, Nat.one_mul, show j * k + k = l.length + j * k by omega, List.drop_length_add_append]
theorem take_flat {α : Type} {k : Nat} : ∀ {ls : List (List α)}, (∀ l, l ∈ ls → l.length = k) → ∀ j, ls.flatten.take (j * k) = (ls.take j).flatten
  | [], _, j => by simp
  | l :: ls, h, 0 => by simp
  | l :: ls, h, j + 1 => by
    have hl := h l (by simp)
    rw [List.flatten_cons, List.take_succ_cons, List.flatten_cons, ← take_flat (fun x hx => h x (List.mem_cons_of_mem _ hx)) j, Nat.add_mul, Nat.one_mul, show j * k + k = l.length + j * k by omega, List.take_length_add_append]
theorem Ent.hi {x : Option Addr} {n sz j : Nat} {xs : List Value} (hj : j ≤ n) : Ob.Ent (Ob.rd x n sz xs) (Ob.rd x j sz (xs.take (j * sz))) := by
  intro f w h
  obtain ⟨f', h1, h2⟩ := of_rd ((rd_of h).hi hj)
  refine ⟨f', h1, fun k hk => ?_⟩
  obtain ⟨off, rfl, hj0⟩ := h2 k hk
  obtain ⟨hl, h | ⟨hn, g, o, e1, e2, e3⟩⟩ := h
  · omega
  · cases e1
    rw [e2]; simp
end Go.Fp
namespace Go.Proofs.Yteikjachfafadaa
open Go.RowKit Go.Fp
open Classical in
/-- How many entries one update takes, from n on. -/
noncomputable def growU (full : Bool) (most : Int) (l : List En) : Nat → Nat → Nat
  | 0, n => n
  | k + 1, n => if n < l.length ∧ ((putU full (l.take (n + 1))).1.length : Int) ≤ most then growU full most l k (n + 1) else n
noncomputable def grow (full : Bool) (most : Int) (l : List En) (n : Nat) : Nat := growU full most l (l.length - n) n
open Classical in
theorem grow_step (full : Bool) (most : Int) (l : List En) (n : Nat) : grow full most l n = if n < l.length ∧ ((putU full (l.take (n + 1))).1.length : Int) ≤ most then grow full most l (n + 1) else n := by
  unfold grow
  by_cases h : n < l.length
  · rw [show l.length - n = (l.length - (n + 1)) + 1 by omega]; rfl
  · rw [if_neg (fun h1 => h h1.1), show l.length - n = 0 by omega]; rfl
theorem growU_ge (full : Bool) (most : Int) (l : List En) : ∀ k n, n ≤ growU full most l k n
  | 0, n => Nat.le_refl _
  | k + 1, n => by
    unfold growU
    split
    · exact Nat.le_trans (Nat.le_succ n) (growU_ge full most l k (n + 1))
    · exact Nat.le_refl _
theorem grow_ge (full : Bool) (most : Int) (l : List En) (n : Nat) : n ≤ grow full most l n := growU_ge _ _ _ _ _
/-- One update's bytes. -/
noncomputable def oneU (full : Bool) (l : List En) : List (List UInt8) := if (putU full l).2 = 0 then [(putU full l).1] else []
noncomputable def updU (full : Bool) (most : Int) : Nat → List En → List (List UInt8)
  | 0, _ => []
  | k + 1, l => if l.length = 0 then [] else oneU full (l.take (grow full most l 1)) ++ updU full most k (l.drop (grow full most l 1))
/-- Entries' updates. -/
noncomputable def upd (full : Bool) (most : Int) (l : List En) : List (List UInt8) := updU full most l.length l
theorem updU_fuel (full : Bool) (most : Int) : ∀ (k j : Nat) (l : List En), l.length ≤ k → l.length ≤ j → updU full most k l = updU full most j l
  | 0, 0, _, _, _ => rfl
  | 0, j + 1, l, h, _ => by unfold updU; rw [if_pos (by omega)]
  | k + 1, 0, l, _, h => by unfold updU; rw [if_pos (by omega)]
  | k + 1, j + 1, l, h1, h2 => by
    unfold updU
    split
    · rfl
    · have := grow_ge full most l 1
      rw [updU_fuel full most k j _ (by rw [List.length_drop]; omega) (by rw [List.length_drop]; omega)]
theorem upd_nil (full : Bool) (most : Int) : upd full most [] = [] := rfl
theorem upd_step (full : Bool) (most : Int) (l : List En) (h : ¬ l.length = 0) : upd full most l = oneU full (l.take (grow full most l 1)) ++ upd full most (l.drop (grow full most l 1)) := by
  have h1 := grow_ge full most l 1
  unfold upd
  obtain ⟨k, hk⟩ : ∃ k, l.length = k + 1 := ⟨l.length - 1, by omega⟩
  rw [hk]
  conv => lhs; unfold updU
  rw [if_neg h, updU_fuel full most k _ _ (by rw [List.length_drop]; omega) (Nat.le_refl _)]
/-- Bytes as they lie in memory. -/
structure By where
  x : Option Addr
  c : Nat
  bs : List UInt8
def By.cell (b : By) : Value := .slice b.x b.bs.length b.c
def By.ob (b : By) : Ob := Ob.own 5 1 (.slice b.x b.bs.length b.c) b.bs.length (u8s b.bs)
def UpPost (w : World) (m : List Ob) (ls : List (List UInt8)) (e : Ending) (w' : World) : Prop :=
  ∃ (x' : Option Addr) (c' : Nat) (bys : List By), e = .returned (.slice x' bys.length c') ∧ bys.map By.bs = ls ∧ Tk [] w w' [Ob.own 23 1 (.slice x' bys.length c') bys.length (bys.map By.cell), Ob.all (bys.map By.ob)] m
end Go.Proofs.Yteikjachfafadaa
