/- A JOINER, plainly. -/
import Derived.Test.YtlmabhaenogbcaaPce13c
namespace Go.Proofs.Ytlmabhaenogbcaa
open Go.RowKit Go.Fp
/-- A joiner: is there a body, is it over, its number, its parts as they came. -/
structure JS where
  any : Bool
  over : Bool
  id : Nat
  many : Nat
  parts : List (Nat × List UInt8)
def JS.new : JS := ⟨false, false, 0, 0, []⟩
def sumL (l : List (Nat × List UInt8)) : Nat := (l.map fun q => q.2.length).sum
def lookB (l : List (Nat × List UInt8)) (i : Nat) : List UInt8 := match l.find? (fun q => q.1 == i) with | some q => q.2 | none => []
def joinB (s : JS) : List UInt8 := (List.range s.many).flatMap (lookB s.parts)
/-- Is a piece too old? -/
def oldJ (s : JS) (p : Pc) : Prop := s.any = true ∧ (p.id < s.id ∨ (p.id = s.id ∧ s.over = true))
instance (s : JS) (p : Pc) : Decidable (oldJ s p) := by unfold oldJ; infer_instance
/-- The body that a piece belongs to is under way. -/
def headJ (s : JS) (p : Pc) : JS := if s.any = false ∨ s.id < p.id then ⟨true, false, p.id, p.many.toNat, []⟩ else s
/-- A piece of the body that is under way. -/
def goJ (s : JS) (p : Pc) : List UInt8 × Bool × Int × JS :=
  if ¬ p.many = s.many then ([], false, 10, s) else
  match s.parts.find? (fun q => q.1 == p.at_.toNat) with
  | some q => if q.2 = p.part then ([], false, 0, s) else ([], false, 7, s)
  | none => if 16384 < sumL s.parts + p.part.length then ([], false, 8, { s with over := true }) else
    if s.parts.length + 1 < s.many then ([], false, 0, { s with parts := s.parts ++ [(p.at_.toNat, p.part)] })
    else (joinB { s with parts := s.parts ++ [(p.at_.toNat, p.part)] }, true, 0, { s with parts := s.parts ++ [(p.at_.toNat, p.part)], over := true })
def takeJ (s : JS) (p : Pc) : List UInt8 × Bool × Int × JS :=
  if ¬ rightP p then ([], false, 1, s) else if oldJ s p then ([], false, 27, s) else goJ (headJ s p) p
/-- A part as it lies in memory. -/
structure Pt where
  at_ : Nat
  x : Option Addr
  c : Nat
  bs : List UInt8
def Pt.kv (q : Pt) : Nat × List UInt8 := (q.at_, q.bs)
def Pt.ob (q : Pt) : Ob := Ob.own 5 1 (.slice q.x q.bs.length q.c) q.bs.length (u8s q.bs)
def slotV (P : List Pt) (i : Nat) : Value := match P.find? (fun q => q.at_ == i) with | some q => .slice q.x q.bs.length q.c | none => .slice none 0 0
def gotB (P : List Pt) (i : Nat) : Bool := P.any (fun q => q.at_ == i)
def rowP (P : List Pt) (k : Nat) : List Value := (List.range k).map (slotV P)
def rowG (P : List Pt) (k : Nat) : List Value := (List.range k).map fun i => .bool (gotB P i)
theorem rowP_get {P : List Pt} {k i : Nat} (h : i < k) : (rowP P k)[i]? = some (slotV P i) := by simp [rowP, h]
theorem rowG_get {P : List Pt} {k i : Nat} (h : i < k) : (rowG P k)[i]? = some (.bool (gotB P i)) := by simp [rowG, h]
theorem find_none {P : List Pt} {i : Nat} (h : gotB P i = false) : P.find? (fun q => q.at_ == i) = none := by
  rw [List.find?_eq_none]
  intro q hq
  unfold gotB at h
  rw [List.any_eq_false] at h
  exact h q hq
theorem slotV_add {P : List Pt} {q : Pt} (h : gotB P q.at_ = false) (i : Nat) : slotV (P ++ [q]) i = if i = q.at_ then .slice q.x q.bs.length q.c else slotV P i := by
  unfold slotV
  rw [List.find?_append]
  by_cases he : i = q.at_
  · subst he
    rw [find_none h, if_pos rfl]
    simp
  · rw [if_neg he]
    cases hf : P.find? (fun q => q.at_ == i) with
    | some r => rfl
    | none =>
      have : ¬ q.at_ = i := fun e => he e.symm
      simp [this]
theorem gotB_add {P : List Pt} {q : Pt} (i : Nat) : gotB (P ++ [q]) i = (gotB P i || q.at_ == i) := by simp [gotB]
theorem rowP_add {P : List Pt} {q : Pt} {k : Nat} (h : gotB P q.at_ = false) (hk : q.at_ < k) : (rowP P k).set q.at_ (.slice q.x q.bs.length q.c) = rowP (P ++ [q]) k := by
  apply List.ext_getElem?
  intro i
  by_cases hi : i < k
  · rw [rowP_get hi, slotV_add h]
    by_cases he : i = q.at_
    · subst he; rw [if_pos rfl, List.getElem?_set_self (by simpa [rowP] using hk)]
    · rw [if_neg he, List.getElem?_set_ne (fun e => he e.symm), rowP_get hi]
  · rw [List.getElem?_eq_none (by simp [rowP]; omega), List.getElem?_eq_none (by simp [rowP]; omega)]
theorem rowG_add {P : List Pt} {q : Pt} {k : Nat} (hk : q.at_ < k) : (rowG P k).set q.at_ (.bool true) = rowG (P ++ [q]) k := by
  apply List.ext_getElem?
  intro i
  by_cases hi : i < k
  · rw [rowG_get hi, gotB_add]
    by_cases he : i = q.at_
    · subst he; rw [List.getElem?_set_self (by simpa [rowG] using hk)]; simp
    · rw [List.getElem?_set_ne (fun e => he e.symm), rowG_get hi]
      have : ¬ q.at_ = i := fun e => he e.symm
      simp [this]
  · rw [List.getElem?_eq_none (by simp [rowG]; omega), List.getElem?_eq_none (by simp [rowG]; omega)]
theorem rowP_nil (k : Nat) : rowP [] k = List.replicate k (.slice none 0 0) := by
  apply List.ext_getElem?
  intro i
  by_cases hi : i < k
  · rw [rowP_get hi]; simp [slotV, hi]
  · rw [List.getElem?_eq_none (by simp [rowP]; omega), List.getElem?_eq_none (by simp; omega)]
theorem rowG_nil (k : Nat) : rowG [] k = List.replicate k (.bool false) := by
  apply List.ext_getElem?
  intro i
  by_cases hi : i < k
  · rw [rowG_get hi]; simp [gotB, hi]
  · rw [List.getElem?_eq_none (by simp [rowG]; omega), List.getElem?_eq_none (by simp; omega)]
theorem made1 (v : Value) (k : Nat) : (madeCells [v].toArray (k * 1)).toList = List.replicate k v := by
  apply List.ext_getElem?
  intro i
  simp only [madeCells]
  by_cases hi : i < k
  · simp [hi, Nat.mod_one]
  · simp [hi]
theorem nodup_len : ∀ (n : Nat) (l : List Nat), l.Nodup → (∀ x, x ∈ l → x < n) → l.length ≤ n
  | 0, l, _, h => by
    cases l with
    | nil => simp
    | cons a l => exact absurd (h a (by simp)) (by omega)
  | n + 1, l, hn, h => by
    by_cases hm : n ∈ l
    · have h1 := nodup_len n (l.erase n) (hn.erase n) (fun x hx => by
        have h2 := (hn.mem_erase_iff).1 hx
        have := h x h2.2
        omega)
      rw [List.length_erase_of_mem hm] at h1
      omega
    · have := nodup_len n l hn (fun x hx => by
        have := h x hx
        have : x ≠ n := fun e => hm (e ▸ hx)
        omega)
      omega
theorem nodup_full {n : Nat} {l : List Nat} (hn : l.Nodup) (h : ∀ x, x ∈ l → x < n) (hl : n ≤ l.length) (i : Nat) (hi : i < n) : i ∈ l := by
  apply Classical.byContradiction
  intro hm
  have := nodup_len n (i :: l) (List.nodup_cons.2 ⟨hm, hn⟩) (fun x hx => by
    rcases List.mem_cons.1 hx with rfl | hx
    · exact hi
    · exact h x hx)
  simp at this
  omega
/-- What holds of the parts. -/
structure PtOk (P : List Pt) (k : Nat) : Prop where
  nodup : (P.map Pt.at_).Nodup
  lt : ∀ q, q ∈ P → q.at_ < k
  few : P.length < k
  k32 : 1 ≤ k ∧ k ≤ 32
  sum : sumL (P.map Pt.kv) ≤ 16384
  nn : ∀ q, q ∈ P → q.x = none → q.bs.length = 0 ∧ q.c = 0
theorem gotB_mem {P : List Pt} {i : Nat} : gotB P i = true ↔ i ∈ P.map Pt.at_ := by simp [gotB]
theorem find_kv {P : List Pt} (i : Nat) : (P.map Pt.kv).find? (fun q => q.1 == i) = (P.find? (fun q => q.at_ == i)).map Pt.kv := by
  rw [List.find?_map]; rfl
theorem gotB_find {P : List Pt} {i : Nat} (h : gotB P i = true) : ∃ q, q ∈ P ∧ q.at_ = i ∧ P.find? (fun q => q.at_ == i) = some q := by
  cases hf : P.find? (fun q => q.at_ == i) with
  | none =>
    rw [List.find?_eq_none] at hf
    unfold gotB at h
    rw [List.any_eq_true] at h
    obtain ⟨q, h1, h2⟩ := h
    exact absurd h2 (hf q h1)
  | some q =>
    have h1 := List.find?_some hf
    exact ⟨q, List.mem_of_find?_eq_some hf, by simpa using h1, rfl⟩
theorem lookB_slot {P : List Pt} {i : Nat} {q : Pt} (hf : P.find? (fun q => q.at_ == i) = some q) : lookB (P.map Pt.kv) i = q.bs ∧ slotV P i = .slice q.x q.bs.length q.c := by
  constructor
  · unfold lookB; rw [find_kv, hf]; rfl
  · unfold slotV; rw [hf]
theorem sumL_add (l : List (Nat × List UInt8)) (q : Nat × List UInt8) : sumL (l ++ [q]) = sumL l + q.2.length := by simp [sumL]
theorem joinB_len (l : List (Nat × List UInt8)) : ∀ (k : Nat), (∀ q, q ∈ l → q.2.length ≤ 16384) → ((List.range k).flatMap (lookB l)).length ≤ k * 16384 := by
  intro k h
  have h1 : ∀ i, (lookB l i).length ≤ 16384 := fun i => by
    unfold lookB
    cases hf : l.find? (fun q => q.1 == i) with
    | none => simp
    | some q => exact h q (List.mem_of_find?_eq_some hf)
  induction k with
  | zero => simp
  | succ k ih =>
    rw [List.range_succ, List.flatMap_append, List.length_append]
    have := h1 k
    simp only [List.flatMap_cons, List.flatMap_nil, List.append_nil]
    omega
end Go.Proofs.Ytlmabhaenogbcaa
