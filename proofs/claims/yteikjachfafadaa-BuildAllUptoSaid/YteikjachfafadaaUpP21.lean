/- UPDATES, plainly; parts of rows. -/
import Derived.Test.YteikjachfafadaaPU21
import Derived.Test.YteikjachfafadaaDec21
namespace Go.Fp
open Go Go.RowKit
theorem drop_flat {α : Type} {k : Nat} : ∀ {ls : List (List α)}, (∀ l, l ∈ ls → l.length = k) → ∀ j, ls.flatten.drop (j * k) = (ls.drop j).flatten
  | [], _, j => by simp
  | l :: ls, h, 0 => by simp
  | l :: ls, h, j + 1 => by
    have hl := h l (by simp)
    rw [List.flatten_cons, List.drop_succ_cons, ← drop_flat (fun x hx => h x (List.mem_cons_of_mem _ hx)) j, Nat.add_mul, Nat.one_mul, show j * k + k = l.length + j * k by omega, List.drop_length_add_append]
theorem take_flat {α : Type} {k : Nat} : ∀ {ls : List (List α)}, (∀ l, l ∈ ls → l.length = k) → ∀ j, ls.flatten.take (j * k) = (ls.take j).flatten
  | [], _, j => by simp
  | l :: ls, h, 0 => by simp
  | l :: ls, h, j + 1 => by
    have hl := h l (by simp)
    rw [List.flatten_cons, List.take_succ_cons, List.flatten_cons, ← take_flat (fun x hx => h x (List.mem_cons_of_mem _ hx)) j, Nat.add_mul, Nat.one_mul, show j * k + k = l.length + j * k by omega, List.take_length_add_append]
theorem Ent.hi {x : Option Addr} {n sz j : Nat} {xs : List Value} (hj : j ≤ n) : Ob.Ent (Ob.rd x n sz xs) (Ob.rd x j sz (xs.take (j * sz))) := by
  intro f w h
  obtain ⟨f', h1, h2⟩ := of_rd ((rd_of h).hi hj)
  refine ⟨f', h1, fun k hk => ?_⟩
  obtain ⟨off, rfl, hj0⟩ := h2 k hk
  obtain ⟨hl, h | ⟨hn, g, o, e1, e2, e3⟩⟩ := h
  · omega
  · cases e1
    rw [e2]; simp
end Go.Fp
namespace Go.Proofs.Yteikjachfafadaa
open Go.RowKit Go.Fp
open Classical in
/-- How many entries one update takes, from n on. -/
noncomputable def growU (full : Bool) (most : Int) (l : List En) : Nat → Nat → Nat
  | 0, n => n
  | k + 1, n => if n < l.length ∧ ((putU full (l.take (n + 1))).1.length : Int) ≤ most then growU full most l k (n + 1) else n
noncomputable def grow (full : Bool) (most : Int) (l : List En) (n : Nat) : Nat := growU full most l (l.length - n) n
open Classical in
theorem grow_step (full : Bool) (most : Int) (l : List En) (n : Nat) : grow full most l n = if n < l.length ∧ ((putU full (l.take (n + 1))).1.length : Int) ≤ most then grow full most l (n + 1) else n := by
  unfold grow
  by_cases h : n < l.length
  · rw [show l.length - n = (l.length - (n + 1)) + 1 by omega]; rfl
  · rw [if_neg (fun h1 => h h1.1), show l.length - n = 0 by omega]; rfl
theorem growU_ge (full : Bool) (most : Int) (l : List En) : ∀ k n, n ≤ growU full most l k n
  | 0, n => Nat.le_refl _
  | k + 1, n => by
    unfold growU
    split
    · exact Nat.le_trans (Nat.le_succ n) (growU_ge full most l k (n + 1))
    · exact Nat.le_refl _
theorem grow_ge (full : Bool) (most : Int) (l : List En) (n : Nat) : n ≤ grow full most l n := growU_ge _ _ _ _ _
/-- One update's bytes. -/
noncomputable def oneU (full : Bool) (l : List En) : List (List UInt8) := if (putU full l).2 = 0 then [(putU full l).1] else []
noncomputable def updU (full : Bool) (most : Int) : Nat → List En → List (List UInt8)
  | 0, _ => []
  | k + 1, l => if l.length = 0 then [] else oneU full (l.take (grow full most l 1)) ++ updU full most k (l.drop (grow full most l 1))
/-- Entries' updates. -/
noncomputable def upd (full : Bool) (most : Int) (l : List En) : List (List UInt8) := updU full most l.length l
theorem updU_fuel (full : Bool) (most : Int) : ∀ (k j : Nat) (l : List En), l.length ≤ k → l.length ≤ j → updU full most k l = updU full most j l
  | 0, 0, _, _, _ => rfl
  | 0, j + 1, l, h, _ => by unfold updU; rw [if_pos (by omega)]
  | k + 1, 0, l, _, h => by unfold updU; rw [if_pos (by omega)]
  | k + 1, j + 1, l, h1, h2 => by
    unfold updU
    split
    · rfl
    · have := grow_ge full most l 1
      rw [updU_fuel full most k j _ (by rw [List.length_drop]; omega) (by rw [List.length_drop]; omega)]
theorem upd_nil (full : Bool) (most : Int) : upd full most [] = [] := rfl
theorem upd_step (full : Bool) (most : Int) (l : List En) (h : ¬ l.length = 0) : upd full most l = oneU full (l.take (grow full most l 1)) ++ upd full most (l.drop (grow full most l 1)) := by
  have h1 := grow_ge full most l 1
  unfold upd
  obtain ⟨k, hk⟩ : ∃ k, l.length = k + 1 := ⟨l.length - 1, by omega⟩
  rw [hk]
  conv => lhs; unfold updU
  rw [if_neg h, updU_fuel full most k _ _ (by rw [List.length_drop]; omega) (Nat.le_refl _)]
/-- Bytes as they lie in memory. -/
structure By where
  x : Option Addr
  c : Nat
  bs : List UInt8
def By.cell (b : By) : Value := .slice b.x b.bs.length b.c
def By.ob (b : By) : Ob := Ob.own 5 1 (.slice b.x b.bs.length b.c) b.bs.length (u8s b.bs)
def UpPost (w : World) (m : List Ob) (ls : List (List UInt8)) (e : Ending) (w' : World) : Prop :=
  ∃ (x' : Option Addr) (c' : Nat) (bys : List By), e = .returned (.slice x' bys.length c') ∧ bys.map By.bs = ls ∧ Tk [] w w' [Ob.own 23 1 (.slice x' bys.length c') bys.length (bys.map By.cell), Ob.all (bys.map By.ob)] m
end Go.Proofs.Yteikjachfafadaa
/- UPDATES, plainly: into which parts entries are cut. -/
namespace Go.Proofs.Yteikjachfafadaa
open Go.RowKit Go.Fp
theorem growU_spec (full : Bool) (most : Int) (l : List En) : ∀ k n, growU full most l k n = n ∨ (((putU full (l.take (growU full most l k n))).1.length : Int) ≤ most ∧ growU full most l k n ≤ l.length)
  | 0, n => .inl rfl
  | k + 1, n => by
    unfold growU
    split
    · rename_i h
      rcases growU_spec full most l k (n + 1) with h1 | h1
      · rw [h1]; exact .inr ⟨h.2, h.1⟩
      · exact .inr h1
    · exact .inl rfl
/-- The parts. -/
noncomputable def chU (full : Bool) (most : Int) : Nat → List En → List (List En)
  | 0, _ => []
  | k + 1, l => if l.length = 0 then [] else l.take (grow full most l 1) :: chU full most k (l.drop (grow full most l 1))
theorem chU_upd (full : Bool) (most : Int) : ∀ k l, updU full most k l = (chU full most k l).flatMap (oneU full)
  | 0, _ => rfl
  | k + 1, l => by
    unfold updU chU
    split
    · rfl
    · rw [List.flatMap_cons, chU_upd full most k]
theorem chU_flat (full : Bool) (most : Int) : ∀ k (l : List En), l.length ≤ k → (chU full most k l).flatten = l
  | 0, l, h => by
    have : l = [] := List.length_eq_zero_iff.1 (by omega)
    subst this; rfl
  | k + 1, l, h => by
    unfold chU
    split
    · rename_i h0
      have : l = [] := List.length_eq_zero_iff.1 h0
      subst this; rfl
    · have := grow_ge full most l 1
      rw [List.flatten_cons, chU_flat full most k _ (by rw [List.length_drop]; omega), List.take_append_drop]
theorem chU_small (full : Bool) (most : Int) : ∀ k (l : List En) (c : List En), c ∈ chU full most k l → ¬ c.length = 0 ∧ (c.length ≤ 1 ∨ ((putU full c).1.length : Int) ≤ most)
  | 0, _, _, h => by cases h
  | k + 1, l, c, h => by
    unfold chU at h
    split at h
    · cases h
    · rename_i h0
      have h1 := grow_ge full most l 1
      rcases List.mem_cons.1 h with rfl | h
      · refine ⟨by rw [List.length_take]; omega, ?_⟩
        rcases growU_spec full most l (l.length - 1) 1 with h2 | h2
        · have h3 : grow full most l 1 = 1 := h2
          left; rw [h3, List.length_take]; omega
        · right; exact h2.1
      · exact chU_small full most k _ c h
theorem ensGood_none {p : Option En} : ∀ {l : List En}, ensGood p l → ensGood none l
  | [], _ => trivial
  | e :: l, h => ⟨⟨h.1.1, h.1.2.1, h.1.2.2.1, (fun q hq => by cases hq), h.1.2.2.2.2.1, h.1.2.2.2.2.2⟩, h.2⟩
theorem ensGood_drop : ∀ {l : List En} (j : Nat), ensGood none l → ensGood none (l.drop j)
  | [], j, _ => by simp [ensGood]
  | e :: l, 0, h => h
  | e :: l, j + 1, h => by rw [List.drop_succ_cons]; exact ensGood_drop j (ensGood_none h.2)
theorem chU_good (full : Bool) (most : Int) : ∀ k (l : List En) (c : List En), ensGood none l → c ∈ chU full most k l → ensGood none c ∧ c.length ≤ l.length ∧ ∀ e, e ∈ c → e ∈ l
  | 0, _, _, _, h => by cases h
  | k + 1, l, c, hg, h => by
    unfold chU at h
    split at h
    · cases h
    · rcases List.mem_cons.1 h with rfl | h
      · exact ⟨ensGood_le hg, by rw [List.length_take]; omega, fun e he => List.mem_of_mem_take he⟩
      · obtain ⟨h1, h2, h3⟩ := chU_good full most k _ c (ensGood_drop _ hg) h
        exact ⟨h1, by rw [List.length_drop] at h2; omega, fun e he => List.mem_of_mem_drop (h3 e he)⟩
/-- The updates of entries that may be told: one for each part. -/
theorem upd_parts (full : Bool) (most : Int) {l : List En} (h8 : ¬ 8 < l.length) (hg : ensGood none l) (hk : ∀ e, e ∈ l → e.Ok) :
    ∃ cs : List (List En), upd full most l = cs.map (fun c => (putU full c).1) ∧ cs.flatten = l ∧ ∀ c, c ∈ cs → ¬ c.length = 0 ∧ (c.length ≤ 1 ∨ ((putU full c).1.length : Int) ≤ most) ∧ (putU full c).2 = 0 ∧ ∀ e, e ∈ c → e ∈ l := by
  refine ⟨chU full most l.length l, ?_, chU_flat full most _ l (Nat.le_refl _), fun c hc => ?_⟩
  · unfold upd
    rw [chU_upd]
    have key : ∀ cs : List (List En), (∀ c, c ∈ cs → (putU full c).2 = 0) → cs.flatMap (oneU full) = cs.map (fun c => (putU full c).1) := by
      intro cs
      induction cs with
      | nil => intro _; rfl
      | cons c cs ih =>
        intro h
        rw [List.flatMap_cons, List.map_cons, ih (fun x hx => h x (List.mem_cons_of_mem _ hx))]
        unfold oneU
        rw [if_pos (h c (by simp))]
        rfl
    exact key _ fun c hc => by
      obtain ⟨h1, h2, _⟩ := chU_good full most _ l c hg hc
      rw [putU_ok (by omega) h1]
  · obtain ⟨h1, h2, h3⟩ := chU_good full most _ l c hg hc
    obtain ⟨h4, h5⟩ := chU_small full most _ l c hc
    exact ⟨h4, h5, by rw [putU_ok (by omega) h1], h3⟩
end Go.Proofs.Yteikjachfafadaa
