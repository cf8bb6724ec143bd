/- A REGION THAT DRAWS, IN TWO PARTS: what stands behind waits for all that stands ahead; ahead a condition is kept, behind none. -/
import Derived.Test.YtfcmjlbfoindaaaFpText
namespace Go.Fp
open Go

section
variable {P : Program} {ops : Array Oper} {Q : Exit → Act → World → Prop} {S : World → Prop} {cl : List Nat}

theorem wp_otherQ {o : Oper} {a : Act} {w : World} {K : Act → World → Prop} {Q' : Exit → Act → World → Prop} (hp : ∀ c a w, Q' (.panic c) a w → Q (.panic c) a w) (ho : LetsOut Q' → LetsOut Q) (h : o.wp P a w K Q') : o.wp P a w K Q := by
  unfold Oper.wp at *
  generalize (execOp a.eval o).run P w = r at *
  cases r with
  | ok n w1 =>
    cases n <;> simp only [Oper.upon] at h ⊢
    case value v => exact h
    case skip => exact h
    case defer e => exact h
    case enter f args =>
      refine Calls.mono h fun e w'' he => ?_
      cases e with
      | returned v => exact he
      | panicked c => exact hp _ _ _ he
      | outgrown => exact ho he
    case row row args => exact h
  | halt x w1 =>
    cases x <;> simp only [Oper.upon] at h ⊢
    case panic v => exact hp _ _ _ h

/-- Are the first K listed? -/
def allK (K : Nat) (listed : Array Bool) : Bool := (List.range K).all fun i => listed.getD i false

/-- Whatever order is picked, S kept till the first K are done. -/
def wpY (P : Program) (ops : Array Oper) (Q : Exit → Act → World → Prop) (S : World → Prop) (cl : List Nat) (K : Nat) : Nat → Array Bool → Act → World → Prop
  | 0, listed, a, w => Region.ready .any ops listed = [] ∧ Q .normal a w
  | fuel + 1, listed, a, w =>
    if allK K listed = true then wpX P .any ops Q Any cl (fuel + 1) listed a w
    else (Region.ready .any ops listed = [] → Q .normal a w) ∧ ∀ i ∈ Region.ready .any ops listed, stepX P ops Q S cl i (wpY P ops Q S cl K fuel (listed.setIfInBounds i true)) a w

theorem wpAny_of_Y {K : Nat} : ∀ (fuel : Nat) (listed : Array Bool) (a : Act) (w : World), S w ∨ allK K listed = true → wpY P ops Q S cl K fuel listed a w → wpAny P .any ops Q fuel listed a w
  | 0, _, _, _, _, h => h
  | fuel + 1, listed, a, w, hS, h => by
    rw [wpY] at h
    split at h
    · exact wpAny_of_X _ _ _ _ trivial h
    · rename_i hk
      have hS' := hS.resolve_right hk
      exact ⟨h.1, fun i hi => wpOp_mono (fun a' w' h' => wpAny_of_Y fuel _ a' w' (.inl h'.1) h'.2) (wpOp_of_stepX hS' (h.2 i hi))⟩

/-- The second part waits for the first. -/
def splitB (K : Nat) (ops : List Oper) : Bool :=
  let b := bitsFrom [] ops
  (List.range ops.length).all fun j => decide (j < K) || (List.range K).all fun i => (b.getD j 0).testBit i

theorem allK_false {K i : Nat} {listed : Array Bool} (hi : i < K) (h : listed.getD i true = false) : allK K listed = false := by
  cases hx : allK K listed with
  | false => rfl
  | true =>
    unfold allK at hx
    rw [List.all_eq_true] at hx
    have := hx i (List.mem_range.2 hi)
    rw [getD_tf h] at this; cases this

theorem wpY_first {K : Nat} {l : List Oper} {i : Nat} {oi : Oper} (hi : l[i]? = some oi) (hiK : i < K) (hsel : ∀ (j : Nat) (o : Oper) cs b, l[j]? = some o → o.op ≠ .select cs b)
    (hb : ∀ j o, l[j]? = some o → ∀ e ∈ o.after, Region.binds .any e = true → e.on < j) (hNB : NoBad Q)
    (hsp : ∀ j, j < l.length → K ≤ j → ((bitsFrom [] l).getD j 0).testBit i = true) :
    ∀ (fuel : Nat) (listed : Array Bool) (a : Act) (w : World), Closed l.toArray listed →
      (∀ j oj, l[j]? = some oj → j ≠ i → listed.getD j true = false → ((bitsFrom [] l).getD j 0).testBit i = false → pairOk l.toArray cl i j = true) →
      i ∈ Region.ready .any l.toArray listed → S w →
      stepX P l.toArray Q S cl i (wpY P l.toArray Q S cl K fuel (listed.setIfInBounds i true)) a w → wpY P l.toArray Q S cl K (fuel + 1) listed a w := by
  have hjK : ∀ (listed : Array Bool) (j : Nat), Closed l.toArray listed → i ∈ Region.ready .any l.toArray listed → j ∈ Region.ready .any l.toArray listed → j < K ∧ ((bitsFrom [] l).getD j 0).testBit i = false := by
    intro listed j hcl hr hj
    obtain ⟨hjun, oj, hoj, hall⟩ := mem_ready.1 hj
    have hoj' : l[j]? = some oj := by simpa using hoj
    have hiun := (mem_ready.1 hr).1
    have hnb : ((bitsFrom [] l).getD j 0).testBit i = false := by
      cases hx : ((bitsFrom [] l).getD j 0).testBit i with
      | false => rfl
      | true =>
        have := hcl.bits hb (j + 1) j oj (by omega) hoj' hall i hx
        rw [getD_tf hiun] at this; cases this
    refine ⟨?_, hnb⟩
    rcases Nat.lt_or_ge j K with h | h
    · exact h
    · have := hsp j (List.getElem?_eq_some_iff.1 hoj').1 h
      rw [this] at hnb; cases hnb
  intro fuel
  induction fuel with
  | zero =>
    intro listed a w hcl _ hr hS H
    rw [wpY, if_neg (by rw [allK_false hiK (mem_ready.1 hr).1]; decide)]
    refine ⟨fun h => (by rw [h] at hr; cases hr), fun j hj => ?_⟩
    by_cases hji : j = i
    · subst hji; exact H
    · exfalso
      have h2 := ready_mono hj hji
      have key : ∀ a w, S w → wpY P l.toArray Q S cl K 0 (listed.setIfInBounds i true) a w → False := fun a w _ h => by rw [wpY] at h; rw [h.1] at h2; cases h2
      rcases stepX_cases (by simpa using hi) H with ⟨v, _, h⟩ | ⟨_, _, _, h⟩
      · exact key _ _ hS h
      · obtain ⟨a', v, w', ⟨hS', h⟩, _⟩ := wp_outcome hNB h; exact key _ _ hS' h
  | succ fuel ih =>
    intro listed a w hcl hfree hr hS H
    rw [wpY, if_neg (by rw [allK_false hiK (mem_ready.1 hr).1]; decide)]
    refine ⟨fun h => (by rw [h] at hr; cases hr), fun j hj => ?_⟩
    by_cases hji : j = i
    · subst hji; exact H
    · obtain ⟨hjun, oj, hoj, hall⟩ := mem_ready.1 hj
      have hoj' : l[j]? = some oj := by simpa using hoj
      obtain ⟨hjlt, hnb⟩ := hjK listed j hcl hr hj
      have hjun2 : (listed.setIfInBounds i true).getD j true = false := by rw [getD_set_ne true (Ne.symm hji)]; exact hjun
      have h1 : stepX P l.toArray Q S cl i (fun a' w' => stepX P l.toArray Q S cl j (wpY P l.toArray Q S cl K fuel ((listed.setIfInBounds i true).setIfInBounds j true)) a' w') a w :=
        stepX_mono hS (fun a w _ h => by
          rw [wpY, if_neg (by rw [allK_false hjlt hjun2]; decide)] at h
          exact h.2 j (ready_mono hj hji)) H
      have h2 := swapX (by simpa using hi) hoj (hfree j oj hoj' hji hjun hnb) hNB (fun cs b => hsel i oi cs b hi) (fun cs b => hsel j oj cs b hoj') h1
      refine stepX_mono hS (fun a' w' hS' h3 => ih (listed.setIfInBounds j true) a' w' (hcl.set hj) (fun k ok hk hki hun hno => ?_) (ready_mono hr (Ne.symm hji)) hS' ?_) h2
      · refine hfree k ok hk hki ?_ hno
        by_cases hjk : j = k
        · subst hjk; exact hjun
        · rw [getD_set_ne true hjk] at hun; exact hun
      · rw [Array.setIfInBounds_comm _ _ hji]
        exact h3

theorem firstK_ready {l : List Oper} (hb : ∀ j o, l[j]? = some o → ∀ e ∈ o.after, Region.binds .any e = true → e.on < j) {k : Nat} (hlt : k < l.length) : k ∈ Region.ready .any l.toArray (firstK l.length k) ∧ Closed l.toArray (firstK l.length k) := by
  have hok : l[k]? = some l[k] := List.getElem?_eq_getElem hlt
  refine ⟨mem_ready.2 ⟨by rw [firstK_getD hlt]; simp, l[k], by simp, fun e he hbd => ?_⟩, ?_⟩
  · have := hb k l[k] hok e he hbd
    rw [firstK_getD (by omega)]; simpa using this
  · intro j oj hj hl e he hbd
    have hj' : l[j]? = some oj := by simpa using hj
    have hjl : j < l.length := (List.getElem?_eq_some_iff.1 hj').1
    have := hb j oj hj' e he hbd
    rw [firstK_getD hjl] at hl
    rw [firstK_getD (by omega)]
    simp at hl ⊢; omega

theorem wpY_of_T {l1 l2 : List Oper} (hsel : ∀ (j : Nat) (o : Oper) cs b, (l1 ++ l2)[j]? = some o → o.op ≠ .select cs b)
    (hb : ∀ j o, (l1 ++ l2)[j]? = some o → ∀ e ∈ o.after, Region.binds .any e = true → e.on < j) (hNB : NoBad Q)
    (hp : ∀ j, j < (l1 ++ l2).length → ∀ i, i < j → ((bitsFrom [] (l1 ++ l2)).getD j 0).testBit i = false → pairOk (l1 ++ l2).toArray cl i j = true)
    (hsp : ∀ j, j < (l1 ++ l2).length → l1.length ≤ j → ∀ i, i < l1.length → ((bitsFrom [] (l1 ++ l2)).getD j 0).testBit i = true) (hcl : cl.length ≤ l1.length) :
    ∀ (m k : Nat) (cs : List Nat) (a : Act) (w : World), k + m = l1.length → (∀ j, cs.getD j 2 = cl.getD (k + j) 2) → S w →
      wpT P (l1 ++ l2).toArray (Exit.then (fun a w => wpT P (l1 ++ l2).toArray Q Any [] l2 a w) Q) S cs (l1.drop k) a w →
      wpY P (l1 ++ l2).toArray Q S cl l1.length (m + l2.length) (firstK (l1 ++ l2).length k) a w := by
  intro m
  induction m with
  | zero =>
    intro k cs a w hk _ _ h
    have hk' : k = l1.length := by omega
    subst hk'
    rw [List.drop_eq_nil_of_le (Nat.le_refl _), wpT] at h
    have h' : wpT P (l1 ++ l2).toArray Q Any [] l2 a w := h
    have hX := wpX_of_T (P := P) (Q := Q) (S := Any) (cl := cl) (l := l1 ++ l2) hsel hb hNB hp l2.length l1.length [] a w (by simp) (fun j => by
      rw [List.getD_eq_getElem?_getD, List.getD_eq_getElem?_getD, List.getElem?_eq_none (by simp), List.getElem?_eq_none (by omega)]) trivial (by simpa using h')
    have hall : allK l1.length (firstK (l1 ++ l2).length l1.length) = true := by
      unfold allK
      rw [List.all_eq_true]
      intro i hi
      have hi' := List.mem_range.1 hi
      rw [firstK_getD (by simp; omega)]; simpa using hi'
    rw [Nat.zero_add]
    cases hl : l2.length with
    | zero => rw [hl] at hX; rw [wpY]; exact hX
    | succ q => rw [hl] at hX; rw [wpY, if_pos hall]; exact hX
  | succ m ih =>
    intro k cs a w hk hcs hS h
    have hlt1 : k < l1.length := by omega
    have hlt : k < (l1 ++ l2).length := by simp; omega
    have hok : (l1 ++ l2)[k]? = some l1[k] := by rw [List.getElem?_append_left hlt1]; exact List.getElem?_eq_getElem hlt1
    rw [List.drop_eq_getElem_cons hlt1] at h
    have hcs' : ∀ j, cs.tail.getD j 2 = cl.getD (k + 1 + j) 2 := fun j => by
      have := hcs (j + 1)
      rw [show k + 1 + j = k + (j + 1) from by omega, ← this]
      cases cs <;> simp
    have hc0 : cs.headD 2 = cl.getD k 2 := by
      have := hcs 0
      cases cs <;> simpa using this
    obtain ⟨hready, hclosed⟩ := firstK_ready hb hlt
    rw [show m + 1 + l2.length = (m + l2.length) + 1 by omega]
    refine wpY_first hok hlt1 hsel hb hNB (fun j hj hKj => hsp j hj hKj k hlt1) _ _ a w hclosed (fun j oj hj hne hun hno => ?_) hready hS ?_
    · have hjl : j < (l1 ++ l2).length := (List.getElem?_eq_some_iff.1 hj).1
      rw [firstK_getD hjl] at hun
      simp at hun
      exact hp j hjl k (by omega) hno
    · rw [firstK_set]
      rw [wpT] at h
      unfold stepX
      simp only [List.getElem?_toArray, hok]
      split
      · rename_i hw
        rw [if_pos hw, hc0] at h
        generalize cl.getD k 2 = c at h
        match c with
        | 0 => obtain ⟨v, h1, h2⟩ := h; exact ⟨v, h1, ih (k + 1) cs.tail _ _ (by omega) hcs' hS h2⟩
        | 1 => obtain ⟨v, h1, h2⟩ := h; exact ⟨v, h1, ih (k + 1) cs.tail _ _ (by omega) hcs' hS h2⟩
        | _ + 2 => exact wp_otherQ (Q' := Exit.then (fun a w => wpT P (l1 ++ l2).toArray Q Any [] l2 a w) Q) (fun c a w h => h) (fun ⟨a, w, h⟩ => ⟨a, w, h⟩) (Oper.wp_mono (fun a' w' h' => ⟨h'.1, ih (k + 1) cs.tail _ _ (by omega) hcs' h'.1 h'.2⟩) h)
      · rename_i hw
        rw [if_neg hw] at h
        exact ih (k + 1) cs.tail _ _ (by omega) hcs' hS h

theorem noBad_dq {Q : Exit → Act → World → Prop} : NoBad (Exit.then (Q .normal) (fun _ _ _ => False)) := ⟨fun _ _ _ h => h, fun _ _ h => h⟩
/-- **ONE WALK SERVES EVERY ORDER**, in two parts. -/
theorem wp_region_split {id : Nat} {a : Act} {w : World} {l1 l2 : List Oper} (cl : List Nat) (S : World → Prop) (hm : P.follows .mixedOrders = true) (hB : textB cl (l1 ++ l2) = true) (hK : splitB l1.length (l1 ++ l2) = true) (hcl : cl.length ≤ l1.length)
    (hS : S w.drew) (h : wpT P (l1 ++ l2).toArray (Exit.then (fun a w => wpT P (l1 ++ l2).toArray (Exit.then (Q .normal) (fun _ _ _ => False)) Any [] l2 a w) (fun _ _ _ => False)) S cl l1 a w.drew) : (Code.region id (l1 ++ l2).toArray true).wp P Q a w := by
  refine Code.wp_mono (Q := Exit.then (Q .normal) (fun _ _ _ => False)) (fun e a w h => by cases e <;> first | exact h | exact h.elim) ?_
  simp only [textB, Bool.and_eq_true, List.all_eq_true, List.mem_range] at hB
  obtain ⟨hsel, hB⟩ := hB
  have hsel' : ∀ (j : Nat) (o : Oper) cs b, (l1 ++ l2)[j]? = some o → o.op ≠ .select cs b := fun j o cs b ho he => by
    have := hsel o (List.mem_of_getElem? ho)
    simp [he] at this
  have hb : ∀ j o, (l1 ++ l2)[j]? = some o → ∀ e ∈ o.after, Region.binds .any e = true → e.on < j := fun j o ho e he hbd => by
    have := (hB j (List.getElem?_eq_some_iff.1 ho).1).1
    simp only [ho, Option.map_some, Option.getD_some, List.all_eq_true] at this
    have := this e (by simpa using he)
    simpa [hbd] using this
  have hp : ∀ j, j < (l1 ++ l2).length → ∀ i, i < j → ((bitsFrom [] (l1 ++ l2)).getD j 0).testBit i = false → pairOk (l1 ++ l2).toArray cl i j = true := fun j hj i hi hn => by
    have := (hB j hj).2 i hi
    rw [hn] at this
    simpa using this
  have hsp : ∀ j, j < (l1 ++ l2).length → l1.length ≤ j → ∀ i, i < l1.length → ((bitsFrom [] (l1 ++ l2)).getD j 0).testBit i = true := fun j hj hk i hi => by
    unfold splitB at hK
    simp only [List.all_eq_true, List.mem_range] at hK
    have := hK j hj
    simp only [Bool.or_eq_true, decide_eq_true_eq, List.all_eq_true, List.mem_range] at this
    rcases this with h | h
    · omega
    · exact h i hi
  have hY := wpY_of_T (P := P) (Q := Exit.then (Q .normal) (fun _ _ _ => False)) (S := S) (cl := cl) hsel' hb noBad_dq hp hsp hcl l1.length 0 cl a w.drew (by omega) (fun j => by simp) hS (by
    rw [List.drop_zero]
    have e : ∀ X : Act → World → Prop, Exit.then X (Exit.then (Q .normal) (fun _ _ _ => False)) = Exit.then X (fun _ _ _ => False) := fun X => by funext e a w; cases e <;> rfl
    rw [e]
    exact h)
  refine wp_region_any hm ?_
  have e0 : firstK (l1 ++ l2).length 0 = Array.replicate (l1 ++ l2).toArray.size false := by
    apply Array.ext
    · simp [firstK]
    · intro j h1 h2; simp [firstK]
  rw [e0] at hY
  have hsz : (l1 ++ l2).toArray.size = l1.length + l2.length := by simp
  rw [hsz]
  rw [hsz] at hY
  exact wpAny_of_Y _ _ _ _ (.inl hS) hY
end
end Go.Fp
