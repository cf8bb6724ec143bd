/- A JOINER, plainly: a body's pieces in whatever order. -/
import Derived.Test.YtlmabhaenogbcaaJnP13
namespace Go.Proofs.Ytlmabhaenogbcaa
open Go.RowKit Go.Fp
def kvP (p : Pc) : Nat × List UInt8 := (p.at_.toNat, p.part)
/-- A body's pieces in some order. -/
structure Cut (id : Nat) (bs : List UInt8) (sz M : Nat) (qs : List Pc) : Prop where
  perm : qs.Perm (splitP id bs sz M)
  many : manyP bs.length sz = M
  size : 1 ≤ sz ∧ sz ≤ 500
  len : bs.length ≤ sz * 32
theorem cutP_len (bs : List UInt8) (sz j : Nat) : (cutP bs sz j).length ≤ sz := by unfold cutP; rw [List.length_take]; omega
section
variable {id sz M : Nat} {bs : List UInt8} {qs : List Pc}
theorem Cut.bound (c : Cut id bs sz M qs) : 1 ≤ M ∧ M ≤ 32 := c.many ▸ manyP_le c.size.1 c.len
theorem Cut.length (c : Cut id bs sz M qs) : qs.length = M := by rw [c.perm.length_eq]; simp [splitP]
theorem Cut.mem (c : Cut id bs sz M qs) {p : Pc} (hp : p ∈ qs) : ∃ j : Nat, j < M ∧ p = ⟨id, (j : Nat), (M : Nat), cutP bs sz j⟩ := by
  have h := c.perm.mem_iff.1 hp
  unfold splitP at h
  obtain ⟨j, hj, rfl⟩ := List.mem_map.1 h
  exact ⟨j, by simpa using hj, by rw [c.many]⟩
theorem Cut.has (c : Cut id bs sz M qs) {j : Nat} (hj : j < M) : (⟨id, (j : Nat), (M : Nat), cutP bs sz j⟩ : Pc) ∈ qs := by
  refine c.perm.mem_iff.2 ?_
  unfold splitP
  exact List.mem_map.2 ⟨j, by simpa using hj, by rw [c.many]⟩
theorem Cut.nodup (c : Cut id bs sz M qs) : (qs.map kvP |>.map (·.1)).Nodup := by
  have h1 : ((splitP id bs sz M).map kvP |>.map (·.1)) = List.range M := by
    unfold splitP
    rw [List.map_map, List.map_map]
    apply List.ext_getElem?
    intro i
    simp only [List.getElem?_map]
    by_cases hi : i < M
    · rw [List.getElem?_range hi]; simp [kvP]
    · rw [List.getElem?_eq_none (by simp; omega)]; rfl
  have h2 := (c.perm.map kvP).map (·.1)
  rw [h1] at h2
  exact h2.nodup_iff.2 List.nodup_range
theorem nodup_take {α : Type} {l : List α} (h : l.Nodup) {i : Nat} {a : α} (hi : l[i]? = some a) : a ∉ l.take i := by
  intro hm
  obtain ⟨j, hj, he⟩ := List.mem_iff_getElem.1 hm
  rw [List.length_take] at hj
  obtain ⟨hl, rfl⟩ := List.getElem?_eq_some_iff.1 hi
  rw [List.getElem_take] at he
  exact (List.pairwise_iff_getElem.1 h) j i _ _ (by omega) he
theorem Cut.new (c : Cut id bs sz M qs) {i : Nat} {p : Pc} (hp : qs[i]? = some p) : ((qs.take i).map kvP).find? (fun q => q.1 == p.at_.toNat) = none := by
  rw [List.find?_eq_none]
  intro q hq he
  have h1 : (qs.map kvP |>.map (·.1))[i]? = some p.at_.toNat := by rw [List.getElem?_map, List.getElem?_map, hp]; rfl
  have h2 := nodup_take c.nodup h1
  apply h2
  rw [← List.map_take, ← List.map_take]
  exact List.mem_map.2 ⟨q, hq, by simpa using he⟩
theorem Cut.sum (c : Cut id bs sz M qs) (i : Nat) : sumL ((qs.take i).map kvP) ≤ i * 500 := by
  induction i with
  | zero => simp [sumL]
  | succ i ih =>
    rw [List.take_add_one]
    cases hq : qs[i]? with
    | none => rw [Option.toList_none, List.append_nil]; exact Nat.le_trans ih (Nat.mul_le_mul_right 500 (Nat.le_succ i))
    | some p =>
      rw [Option.toList_some, List.map_append, List.map_cons, List.map_nil, sumL_add]
      obtain ⟨j, _, rfl⟩ := c.mem (List.mem_of_getElem? hq)
      have := cutP_len bs sz j
      have := c.size.2
      dsimp only [kvP]
      omega
theorem Cut.right (c : Cut id bs sz M qs) {p : Pc} (hp : p ∈ qs) : rightP p := by
  obtain ⟨j, hj, rfl⟩ := c.mem hp
  have := cutP_len bs sz j
  have := c.size.2
  have := c.bound
  unfold rightP
  dsimp only
  omega
theorem Cut.look (c : Cut id bs sz M qs) {j : Nat} (hj : j < M) : lookB (qs.map kvP) j = cutP bs sz j := by
  unfold lookB
  cases hf : (qs.map kvP).find? (fun q => q.1 == j) with
  | none =>
    rw [List.find?_eq_none] at hf
    exact absurd (by simp [kvP]) (hf _ (List.mem_map.2 ⟨_, c.has hj, rfl⟩))
  | some q =>
    have h1 := List.find?_some hf
    obtain ⟨p, hp, rfl⟩ := List.mem_map.1 (List.mem_of_find?_eq_some hf)
    obtain ⟨k, _, rfl⟩ := c.mem hp
    have : k = j := by simpa [kvP] using h1
    subst this
    rfl
theorem cuts_take (bs : List UInt8) (sz : Nat) : ∀ k, (List.range k).flatMap (cutP bs sz) = bs.take (k * sz)
  | 0 => by simp
  | k + 1 => by
    rw [List.range_succ, List.flatMap_append, cuts_take bs sz k]
    simp only [List.flatMap_cons, List.flatMap_nil, List.append_nil]
    unfold cutP
    rw [Nat.add_mul, Nat.one_mul, List.take_add]
theorem manyP_ge {n sz : Nat} (h : 1 ≤ sz) : n ≤ manyP n sz * sz := by
  have h1 := Nat.div_add_mod (n + sz - 1) sz
  have h2 := Nat.mod_lt (n + sz - 1) h
  have h3 : (n + sz - 1) / sz ≤ manyP n sz := by unfold manyP; omega
  have h4 := Nat.mul_le_mul_right sz h3
  rw [Nat.mul_comm] at h1
  omega
theorem Cut.join (c : Cut id bs sz M qs) {any over : Bool} : joinB ⟨any, over, id, M, qs.map kvP⟩ = bs := by
  have h1 : ∀ k, k ≤ M → (List.range k).flatMap (lookB (qs.map kvP)) = (List.range k).flatMap (cutP bs sz) := by
    intro k
    induction k with
    | zero => simp
    | succ k ih =>
      intro hk
      rw [List.range_succ, List.flatMap_append, List.flatMap_append, ih (by omega)]
      simp only [List.flatMap_cons, List.flatMap_nil, List.append_nil, c.look (show k < M by omega)]
  unfold joinB
  dsimp only
  rw [h1 M (Nat.le_refl _), cuts_take]
  have := manyP_ge (n := bs.length) c.size.1
  rw [c.many] at this
  exact List.take_of_length_le this
/-- A joiner behind i pieces. -/
def JSt (qs : List Pc) (id M i : Nat) (s : JS) : Prop := (i = 0 ∧ (s.any = true → s.id < id)) ∨ (0 < i ∧ s = ⟨true, decide (i = M), id, M, (qs.take i).map kvP⟩)
theorem Cut.takeNew (c : Cut id bs sz M qs) {s : JS} {i : Nat} (hi : i < M) (hs : JSt qs id M i s) {p : Pc} (hp : qs[i]? = some p) :
    ∃ s', takeJ s p = (if i + 1 = M then bs else [], decide (i + 1 = M), 0, s') ∧ JSt qs id M (i + 1) s' := by
  have hr := c.right (List.mem_of_getElem? hp)
  have hnew := c.new hp
  have hsum := c.sum i
  have hlen := c.length
  have hM := c.bound
  obtain ⟨j, hj, hpe⟩ := c.mem (List.mem_of_getElem? hp)
  have hpl := cutP_len bs sz j
  have hsz := c.size.2
  have hid : p.id = id := by rw [hpe]
  have hmany : p.many = (M : Nat) := by rw [hpe]
  have hpart : p.part.length ≤ 500 := by rw [hpe]; dsimp only; omega
  have hold : ¬ oldJ s p := by
    unfold oldJ
    rw [hid]
    rcases hs with ⟨_, h⟩ | ⟨_, rfl⟩
    · rintro ⟨h1, h2 | ⟨h2, _⟩⟩
      · have := h h1; omega
      · have := h h1; omega
    · rintro ⟨_, h2 | ⟨_, h2⟩⟩
      · exact Nat.lt_irrefl _ h2
      · have : i = M := of_decide_eq_true h2
        omega
  have hhead : headJ s p = ⟨true, false, id, M, (qs.take i).map kvP⟩ := by
    unfold headJ
    rw [hid, hmany]
    rcases hs with ⟨h0, h⟩ | ⟨_, rfl⟩
    · subst h0
      rw [if_pos]
      · rfl
      · cases ha : s.any with
        | false => exact .inl rfl
        | true => exact .inr (h ha)
    · rw [if_neg (by simp)]
      rw [decide_eq_false (by omega)]
  have htake : (qs.take i).map kvP ++ [(p.at_.toNat, p.part)] = (qs.take (i + 1)).map kvP := by
    rw [List.take_add_one, hp, Option.toList_some, List.map_append]; rfl
  have hl : ((qs.take i).map kvP).length = i := by rw [List.length_map, List.length_take]; omega
  unfold takeJ
  rw [if_neg (fun h => h hr), if_neg hold, hhead]
  unfold goJ
  dsimp only
  rw [if_neg (fun h => h hmany), hnew]
  dsimp only
  rw [if_neg (by omega), hl, htake]
  by_cases hlast : i + 1 = M
  · rw [if_neg (by omega), if_pos hlast, decide_eq_true hlast]
    refine ⟨_, ?_, .inr ⟨by omega, rfl⟩⟩
    rw [decide_eq_true hlast]
    have : qs.take (i + 1) = qs := List.take_of_length_le (by omega)
    rw [this, c.join]
  · rw [if_pos (by omega), if_neg hlast, decide_eq_false hlast]
    refine ⟨_, ?_, .inr ⟨by omega, rfl⟩⟩
    rw [decide_eq_false hlast]
theorem Cut.takeOld (c : Cut id bs sz M qs) {s : JS} {i : Nat} (hs : JSt qs id M (i + 1) s) {k : Nat} (hk : k ≤ i) {p : Pc} (hp : qs[k]? = some p) :
    takeJ s p = ([], false, if i + 1 = M then 27 else 0, s) := by
  have hr := c.right (List.mem_of_getElem? hp)
  obtain ⟨j, hj, hpe⟩ := c.mem (List.mem_of_getElem? hp)
  have hid : p.id = id := by rw [hpe]
  have hmany : p.many = (M : Nat) := by rw [hpe]
  rcases hs with ⟨h0, _⟩ | ⟨_, rfl⟩
  · omega
  unfold takeJ
  rw [if_neg (fun h => h hr)]
  by_cases hlast : i + 1 = M
  · rw [if_pos hlast, if_pos ⟨rfl, .inr ⟨hid, decide_eq_true hlast⟩⟩]
  · have hold : ¬ oldJ ⟨true, decide (i + 1 = M), id, M, (qs.take (i + 1)).map kvP⟩ p := by
      unfold oldJ
      rw [hid]
      rintro ⟨_, h2 | ⟨_, h2⟩⟩
      · exact Nat.lt_irrefl _ h2
      · exact hlast (of_decide_eq_true h2)
    rw [if_neg hlast, if_neg hold]
    have hhead : headJ ⟨true, decide (i + 1 = M), id, M, (qs.take (i + 1)).map kvP⟩ p = ⟨true, decide (i + 1 = M), id, M, (qs.take (i + 1)).map kvP⟩ := by
      unfold headJ
      rw [hid, if_neg (by simp)]
    rw [hhead]
    unfold goJ
    dsimp only
    rw [if_neg (fun h => h hmany)]
    have hin : p ∈ qs.take (i + 1) := List.mem_of_getElem? (i := k) (by rw [List.getElem?_take, if_pos (by omega)]; exact hp)
    cases hf : ((qs.take (i + 1)).map kvP).find? (fun q => q.1 == p.at_.toNat) with
    | none =>
      rw [List.find?_eq_none] at hf
      exact absurd (by simp [kvP]) (hf _ (List.mem_map.2 ⟨p, hin, rfl⟩))
    | some q =>
      have h1 := List.find?_some hf
      obtain ⟨p2, hp2, rfl⟩ := List.mem_map.1 (List.mem_of_find?_eq_some hf)
      obtain ⟨j2, _, he2⟩ := c.mem (List.mem_of_mem_take hp2)
      have hjj : j2 = j := by rw [he2, hpe] at h1; simpa [kvP] using h1
      have : (kvP p2).2 = p.part := by rw [he2, hpe, hjj]; rfl
      dsimp only
      rw [if_pos this]
/-- A piece of an elder body. -/
theorem takeJ_elder {s : JS} {p : Pc} (hs : s.any = true → s.id < id) (hp : p.id < id) : (takeJ s p).2.2.2.any = true → (takeJ s p).2.2.2.id < id := by
  have hg : ∀ s1 : JS, (s1.any = true → s1.id < id) → (goJ s1 p).2.2.2.any = true → (goJ s1 p).2.2.2.id < id := by
    intro s1 h1
    unfold goJ
    split
    · exact h1
    · split
      · split <;> exact h1
      · split
        · exact h1
        · split <;> exact h1
  unfold takeJ
  split
  · exact hs
  · split
    · exact hs
    · refine hg _ ?_
      unfold headJ
      split
      · intro _; exact hp
      · exact hs
end
end Go.Proofs.Ytlmabhaenogbcaa
