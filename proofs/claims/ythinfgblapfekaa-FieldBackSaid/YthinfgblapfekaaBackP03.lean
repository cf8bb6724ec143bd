/- THE PLAIN LAW: what was laid is taken as it was. -/
import Derived.Test.YthinfgblapfekaaTakes03
import Derived.Test.YthinfgblapfekaaLaid03
namespace Go.Fp
theorem beN_aux : ∀ (l : List UInt8) (a : Nat), l.foldl (fun a b => a * 256 + b.toNat) a = a * 256 ^ l.length + l.foldl (fun a b => a * 256 + b.toNat) 0
  | [], a => by simp
  | b :: l, a => by
    rw [List.foldl_cons, List.foldl_cons, beN_aux l (a * 256 + b.toNat), beN_aux l (0 * 256 + b.toNat), List.length_cons, Nat.pow_succ, Nat.add_mul, Nat.zero_mul, Nat.zero_add, Nat.mul_comm (256 ^ l.length) 256, Nat.mul_assoc, Nat.add_assoc]
theorem beN_append (a b : List UInt8) : beN (a ++ b) = beN a * 256 ^ b.length + beN b := by
  unfold beN
  rw [List.foldl_append, beN_aux b]
theorem beN_be : ∀ k n, n < 256 ^ k → beN (be k n) = n
  | 0, n, h => by simp at h; subst h; rfl
  | k + 1, n, h => by
    have e : be (k + 1) n = [UInt8.ofNat (n / 256 ^ k)] ++ be k (n % 256 ^ k) := by
      rw [be]
      congr 1
      have : ∀ j, j ≤ k → be j n = be j (n % 256 ^ k) := by
        intro j
        induction j with
        | zero => intro _; rfl
        | succ j ih =>
          intro hj
          rw [be, be, ih (by omega)]
          congr 1
          apply UInt8.toNat_inj.1
          simp only [UInt8.toNat_ofNat']
          have hp : 256 ^ k = 256 ^ j * (256 * 256 ^ (k - j - 1)) := by rw [← Nat.mul_assoc, ← Nat.pow_succ, ← Nat.pow_add]; congr 1; omega
          have h2 : n % 256 ^ k / 256 ^ j = n / 256 ^ j % (256 * 256 ^ (k - j - 1)) := by rw [hp, Nat.mod_mul_right_div_self]
          rw [h2, Nat.mod_mul_right_mod]
      exact this k (Nat.le_refl _)
    have hlt : n / 256 ^ k < 256 := by rw [Nat.div_lt_iff_lt_mul (Nat.pow_pos (by decide))]; rw [Nat.pow_succ] at h; omega
    rw [e, beN_append, be_length, beN_be k _ (Nat.mod_lt _ (Nat.pow_pos (by decide)))]
    have : beN [UInt8.ofNat (n / 256 ^ k)] = n / 256 ^ k := by simp [beN]; omega
    rw [this]
    exact Nat.div_add_mod' n (256 ^ k)
end Go.Fp
namespace Go.Proofs.Ythinfgblapfekaa
open Go.RowKit Go.Fp
/-- An item's bytes. -/
def lay1 (i : Itm) : List UInt8 :=
  if i.kind = 0 then be 1 i.num else if i.kind = 1 then be 2 i.num else if i.kind = 2 then be 4 i.num else if i.kind = 3 then be 8 i.num
  else if i.kind = 4 then i.sum else if i.kind = 5 then be 1 i.sums.length ++ i.sums.flatten else if i.kind = 6 then be 2 i.blob.length ++ i.blob else []
structure Ok1 (i : Itm) : Prop where
  h0 : i.kind = 0 → i.num < 256 ^ 1
  h1 : i.kind = 1 → i.num < 256 ^ 2
  h2 : i.kind = 2 → i.num < 256 ^ 4
  h5 : i.kind = 5 → i.sums.length < 256 ^ 1
  h6 : i.kind = 6 → i.blob.length ≤ 4096
theorem numO_ok {k n : Nat} {o : List UInt8 × Bool} (h : (numO k n o).2 = false) : o.2 = false ∧ (k < 8 → n < 256 ^ k) ∧ (numO k n o).1 = o.1 ++ be k n := by
  unfold numO at *
  split at h
  · cases h
  · rename_i h1
    rw [if_neg h1]
    refine ⟨h, fun hk => ?_, rfl⟩
    rcases Nat.lt_or_ge n (256 ^ k) with h2 | h2
    · exact h2
    · exact absurd ⟨hk, fun h3 => by have := Nat.div_pos h2 (Nat.pow_pos (by decide)); omega⟩ h1
theorem layI_ok {i : Itm} {o : List UInt8 × Bool} (h : (layI i o).2 = false) : o.2 = false ∧ Ok1 i ∧ (layI i o).1 = o.1 ++ lay1 i := by
  by_cases h0 : i.kind = 0
  · rw [layI0 h0] at *
    obtain ⟨a, b, c⟩ := numO_ok h
    exact ⟨a, ⟨fun _ => b (by decide), by omega, by omega, by omega, by omega⟩, by rw [c]; simp [lay1, h0]⟩
  by_cases h1 : i.kind = 1
  · rw [layI1 h1] at *
    obtain ⟨a, b, c⟩ := numO_ok h
    exact ⟨a, ⟨by omega, fun _ => b (by decide), by omega, by omega, by omega⟩, by rw [c]; simp [lay1, h1]⟩
  by_cases h2 : i.kind = 2
  · rw [layI2 h2] at *
    obtain ⟨a, b, c⟩ := numO_ok h
    exact ⟨a, ⟨by omega, by omega, fun _ => b (by decide), by omega, by omega⟩, by rw [c]; simp [lay1, h2]⟩
  by_cases h3 : i.kind = 3
  · rw [layI3 h3] at *
    obtain ⟨a, b, c⟩ := numO_ok h
    exact ⟨a, ⟨by omega, by omega, by omega, by omega, by omega⟩, by rw [c]; simp [lay1, h3]⟩
  by_cases h4 : i.kind = 4
  · rw [layI4 h4] at *
    exact ⟨h, ⟨by omega, by omega, by omega, by omega, by omega⟩, by simp [lay1, h4]⟩
  by_cases h5 : i.kind = 5
  · rw [layI5 h5] at *
    obtain ⟨a, b, c⟩ := numO_ok (k := 1) (n := i.sums.length) (o := o) h
    exact ⟨a, ⟨by omega, by omega, by omega, fun _ => b (by decide), by omega⟩, by unfold sumsO; rw [c]; simp [lay1, h5]⟩
  by_cases h6 : i.kind = 6
  · rw [layI6 h6] at *
    unfold blobO at *
    split at h
    · cases h
    · rename_i hb
      rw [if_neg hb]
      obtain ⟨a, b, c⟩ := numO_ok (k := 2) (n := i.blob.length) (o := o) h
      exact ⟨a, ⟨by omega, by omega, by omega, by omega, fun _ => by omega⟩, by rw [c]; simp [lay1, h6]⟩
  · rw [layI7 h0 h1 h2 h3 h4 h5 h6] at *
    exact ⟨h, ⟨by omega, by omega, by omega, by omega, by omega⟩, by simp [lay1, h0, h1, h2, h3, h4, h5, h6]⟩
theorem layO_ok' : ∀ (l : List Itm) (o : List UInt8 × Bool), (l.foldl (fun o i => layI i o) o).2 = false → o.2 = false ∧ (∀ i, i ∈ l → Ok1 i) ∧ (l.foldl (fun o i => layI i o) o).1 = o.1 ++ l.flatMap lay1
  | [], o, h => ⟨h, (fun i hi => by cases hi), by simp⟩
  | a :: l, o, h => by
    rw [List.foldl_cons] at h ⊢
    obtain ⟨h1, h2, h3⟩ := layO_ok' l (layI a o) h
    obtain ⟨g1, g2, g3⟩ := layI_ok h1
    refine ⟨g1, fun i hi => ?_, by rw [h3, g3]; simp⟩
    rcases List.mem_cons.1 hi with rfl | hi
    · exact g2
    · exact h2 i hi
theorem layO_ok {l : List Itm} (h : (layO l).2 = false) : (∀ i, i ∈ l → Ok1 i) ∧ (layO l).1 = l.flatMap lay1 := by
  obtain ⟨_, h2, h3⟩ := layO_ok' l ([], false) h
  exact ⟨h2, h3⟩
theorem nx_app {k : Nat} {a r : List UInt8} (h : a.length = k) : nx k (a ++ r, 0) = a ∧ nxt k (a ++ r, 0) = (r, 0) := by
  subst h
  unfold nx nxt
  constructor
  · rw [if_pos ⟨rfl, by simp⟩]; simp
  · simp
theorem nm_app {k n : Nat} {r : List UInt8} (h : n < 256 ^ k) : nm k (be k n ++ r, 0) = n ∧ nxt k (be k n ++ r, 0) = (r, 0) := by
  obtain ⟨h1, h2⟩ := nx_app (r := r) (be_length k n)
  exact ⟨by unfold nm; rw [h1, beN_be k n h], h2⟩
theorem sm_app {a r : List UInt8} (h : a.length = 16) : sm (a ++ r, 0) = a ∧ nxt 16 (a ++ r, 0) = (r, 0) := by
  refine ⟨?_, (nx_app h).2⟩
  unfold sm
  rw [if_pos ⟨rfl, by simp; omega⟩]
  simp [← h]
theorem smN_app : ∀ (ls : List (List UInt8)) (r : List UInt8), (∀ l, l ∈ ls → l.length = 16) → smN ls.length (ls.flatten ++ r, 0) = (ls, (r, 0))
  | [], r, _ => by simp [smN]
  | a :: ls, r, h => by
    obtain ⟨h1, h2⟩ := sm_app (r := ls.flatten ++ r) (h a (by simp))
    rw [List.length_cons, smN, if_pos rfl, List.flatten_cons, List.append_assoc, h1, h2, smN_app ls r (fun l hl => h l (List.mem_cons_of_mem _ hl))]
theorem ss_app {ls : List (List UInt8)} {r : List UInt8} (h : ∀ l, l ∈ ls → l.length = 16) (hl : ls.length < 256 ^ 1) : ss 255 (be 1 ls.length ++ ls.flatten ++ r, 0) = ls ∧ sst 255 (be 1 ls.length ++ ls.flatten ++ r, 0) = (r, 0) := by
  rw [List.append_assoc]
  obtain ⟨h1, h2⟩ := nm_app (r := ls.flatten ++ r) hl
  have h3 : ss0 255 (be 1 ls.length ++ (ls.flatten ++ r), 0) = (ls.flatten ++ r, 0) := by
    unfold ss0; rw [h1, h2, if_neg (by omega)]
  unfold ss sst
  rw [h1, h3, smN_app ls r h]
  exact ⟨rfl, rfl⟩
theorem bl_app {p r : List UInt8} (h : p.length ≤ 4096) : bl 4096 (be 2 p.length ++ p ++ r, 0) = p ∧ blt 4096 (be 2 p.length ++ p ++ r, 0) = (r, 0) := by
  rw [List.append_assoc]
  obtain ⟨h1, h2⟩ := nm_app (k := 2) (n := p.length) (r := p ++ r) (by omega)
  have h3 : bl0 4096 (be 2 p.length ++ (p ++ r), 0) = (p ++ r, 0) := by
    unfold bl0; rw [h1, h2, if_neg (by omega)]
  unfold bl blt
  rw [h1, h3]
  exact nx_app rfl
section
variable {i : Itm} (hI : i.Ok) (h : Ok1 i) (r : List UInt8)
include h
theorem tk0 (hk : i.kind = 0) : nm 1 (lay1 i ++ r, 0) = i.num ∧ nxt 1 (lay1 i ++ r, 0) = (r, 0) := by
  have e : lay1 i = be 1 i.num := by simp [lay1, hk]
  rw [e]; exact nm_app (h.h0 hk)
theorem tk1 (hk : i.kind = 1) : nm 2 (lay1 i ++ r, 0) = i.num ∧ nxt 2 (lay1 i ++ r, 0) = (r, 0) := by
  have e : lay1 i = be 2 i.num := by simp [lay1, hk]
  rw [e]; exact nm_app (h.h1 hk)
theorem tk2 (hk : i.kind = 2) : nm 4 (lay1 i ++ r, 0) = i.num ∧ nxt 4 (lay1 i ++ r, 0) = (r, 0) := by
  have e : lay1 i = be 4 i.num := by simp [lay1, hk]
  rw [e]; exact nm_app (h.h2 hk)
theorem tk6 (hk : i.kind = 6) : bl 4096 (lay1 i ++ r, 0) = i.blob ∧ blt 4096 (lay1 i ++ r, 0) = (r, 0) := by
  have e : lay1 i = be 2 i.blob.length ++ i.blob := by simp [lay1, hk]
  rw [e]; exact bl_app (h.h6 hk)
include hI
theorem tk5 (hk : i.kind = 5) : ss 255 (lay1 i ++ r, 0) = i.sums ∧ sst 255 (lay1 i ++ r, 0) = (r, 0) := by
  have e : lay1 i = be 1 i.sums.length ++ i.sums.flatten := by simp [lay1, hk]
  rw [e]; exact ss_app hI.sums (h.h5 hk)
end
theorem tk3 {i : Itm} (hI : i.Ok) (r : List UInt8) (hk : i.kind = 3) : nm 8 (lay1 i ++ r, 0) = i.num ∧ nxt 8 (lay1 i ++ r, 0) = (r, 0) := by
  have e : lay1 i = be 8 i.num := by simp [lay1, hk]
  have := hI.num
  rw [e]; exact nm_app (by omega)
theorem tk4 {i : Itm} (hI : i.Ok) (r : List UInt8) (hk : i.kind = 4) : sm (lay1 i ++ r, 0) = i.sum ∧ nxt 16 (lay1 i ++ r, 0) = (r, 0) := by
  have e : lay1 i = i.sum := by simp [lay1, hk]
  rw [e]; exact sm_app hI.sum
theorem lay1_no {i : Itm} (h0 : ¬ i.kind = 0) (h1 : ¬ i.kind = 1) (h2 : ¬ i.kind = 2) (h3 : ¬ i.kind = 3) (h4 : ¬ i.kind = 4) (h5 : ¬ i.kind = 5) (h6 : ¬ i.kind = 6) : lay1 i = [] := by simp [lay1, h0, h1, h2, h3, h4, h5, h6]
end Go.Proofs.Ythinfgblapfekaa
