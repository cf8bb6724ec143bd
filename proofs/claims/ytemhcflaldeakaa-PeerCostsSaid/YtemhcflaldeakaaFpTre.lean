/- REGIONS THAT DRAW THEIR ORDER in which an effect stands beside several others: a tree of orders is walked. -/
import Derived.Test.YtemhcflaldeakaaFpTwo
import Derived.Test.YtemhcflaldeakaaSx
namespace Go.Fp
open Go
/-- A tree of orders: one operation next, or either of two. -/
inductive Tr where
  | nil
  | one (i : Nat) (t : Tr)
  | two (i : Nat) (s : Tr) (j : Nat) (t : Tr)
def Tr.len : Tr → Nat
  | .nil => 0
  | .one _ t => t.len + 1
  | .two _ s _ _ => s.len + 1
section
variable {P : Program} {Q : Exit → Act → World → Prop} {cl : List Nat} {l : List Oper} {R : World → Prop}
def freeT (l : List Oper) (cl : List Nat) (done : List Nat) (i : Nat) : Bool :=
  (List.range l.length).all fun k => done.contains k || k == i || ((bitsFrom [] l).getD k 0).testBit i || pairOk l.toArray cl i k
def bothT (l : List Oper) (cl : List Nat) (done : List Nat) (i j : Nat) : Bool :=
  (List.range l.length).all fun k => done.contains k || k == i || k == j || (((bitsFrom [] l).getD k 0).testBit i || ((bitsFrom [] l).getD k 0).testBit j) ||
    (pairOk l.toArray cl i k && pairOk l.toArray cl j k && (cl.getD k 2 == 0 || cl.getD k 2 == 1))
/-- The check of a tree. -/
def okTr (l : List Oper) (cl : List Nat) : List Nat → Tr → Bool
  | done, .nil => (List.range l.length).all fun k => done.contains k
  | done, .one i t => readyI l done i && freeT l cl done i && (cl.getD i 2 != 3) && okTr l cl (i :: done) t
  | done, .two i s j t => readyI l done i && readyI l done j && bothT l cl done i j && (s.len == t.len) && (cl.getD i 2 != 3) && (cl.getD j 2 != 3) && okTr l cl (i :: done) s && okTr l cl (j :: done) t
/-- The walk of a tree. -/
def TrX (P : Program) (ops : Array Oper) (Q : Exit → Act → World → Prop) (R : World → Prop) (cl : List Nat) : Tr → Act → World → Prop
  | .nil, a, w => Q .normal a w
  | .one i t, a, w => stepX P ops Q R cl i (TrX P ops Q R cl t) a w
  | .two i s j t, a, w => stepX P ops Q R cl i (TrX P ops Q R cl s) a w ∧ stepX P ops Q R cl j (TrX P ops Q R cl t) a w

theorem freeT_spec {done : List Nat} {i : Nat} (h : freeT l cl done i = true) : ∀ j oj, l[j]? = some oj → j ≠ i → (mark l.length done).getD j true = false → ((bitsFrom [] l).getD j 0).testBit i = false → pairOk l.toArray cl i j = true := by
  intro j oj hj hne hun hno
  have hlt : j < l.length := (List.getElem?_eq_some_iff.1 hj).1
  rw [mark_getD hlt] at hun
  unfold freeT at h
  rw [List.all_eq_true] at h
  have h2 := h j (List.mem_range.2 hlt)
  simp only [Bool.or_eq_true, beq_iff_eq] at h2
  rcases h2 with ((h2 | h2) | h2) | h2
  · rw [hun] at h2; cases h2
  · exact absurd h2 hne
  · rw [hno] at h2; cases h2
  · exact h2
theorem stepX_and {k : Nat} {o : Oper} {a : Act} {w : World} {A B : Act → World → Prop} (ho : l.toArray[k]? = some o) (hc : cl.getD k 2 = 0 ∨ cl.getD k 2 = 1) (hS : R w) (h1 : stepX P l.toArray Q R cl k A a w) (h2 : stepX P l.toArray Q R cl k B a w) :
    stepX P l.toArray Q R cl k (fun a w => A a w ∧ B a w) a w := by
  rcases stepX_cases ho h1 with ⟨v, y1, g1⟩ | ⟨_, c0, c1, _⟩
  · rcases stepX_cases ho h2 with ⟨u, y2, g2⟩ | ⟨_, c0, c1, _⟩
    · have := Yv.det hS y1 y2
      subst this
      exact stepX_of_Yv ho y1 ⟨g1, g2⟩
    · rcases hc with h | h
      · exact absurd h c0
      · exact absurd h c1
  · rcases hc with h | h
    · exact absurd h c0
    · exact absurd h c1
/-- Two that may come up now: the one first, or the other. -/
theorem wpX_two {i j : Nat} {oi oj : Oper} (hi : l[i]? = some oi) (hj : l[j]? = some oj) (hsel : ∀ (j : Nat) (o : Oper) cs b, l[j]? = some o → o.op ≠ .select cs b)
    (hb : ∀ j o, l[j]? = some o → ∀ e ∈ o.after, Region.binds .any e = true → e.on < j) (hNB : NoBad Q) :
    ∀ (fuel : Nat) (listed : Array Bool) (a : Act) (w : World), Closed l.toArray listed →
      (∀ k ok, l[k]? = some ok → k ≠ i → k ≠ j → listed.getD k true = false → ((bitsFrom [] l).getD k 0).testBit i = false → ((bitsFrom [] l).getD k 0).testBit j = false →
        pairOk l.toArray cl i k = true ∧ pairOk l.toArray cl j k = true ∧ (cl.getD k 2 = 0 ∨ cl.getD k 2 = 1)) →
      i ∈ Region.ready .any l.toArray listed → j ∈ Region.ready .any l.toArray listed → R w →
      stepX P l.toArray Q R cl i (wpX P .any l.toArray Q R cl fuel (listed.setIfInBounds i true)) a w →
      stepX P l.toArray Q R cl j (wpX P .any l.toArray Q R cl fuel (listed.setIfInBounds j true)) a w → wpX P .any l.toArray Q R cl (fuel + 1) listed a w := by
  intro fuel
  induction fuel with
  | zero =>
    intro listed a w _ _ hr hr2 hS H H2
    refine ⟨fun h => (by rw [h] at hr; cases hr), fun k hk => ?_⟩
    by_cases hki : k = i
    · subst hki; exact H
    by_cases hkj : k = j
    · subst hkj; exact H2
    · exfalso
      have h2 := ready_mono hk hki
      have key : ∀ a w, R w → wpX P .any l.toArray Q R cl 0 (listed.setIfInBounds i true) a w → False := fun a w _ h => by rw [h.1] at h2; cases h2
      rcases stepX_cases (by simpa using hi) H with ⟨v, _, h⟩ | ⟨_, _, _, h⟩
      · exact key _ _ hS h
      · obtain ⟨a', v, w', ⟨hS', h⟩, _⟩ := wp_outcome hNB h; exact key _ _ hS' h
  | succ fuel ih =>
    intro listed a w hcl hfree hr hr2 hS H H2
    refine ⟨fun h => (by rw [h] at hr; cases hr), fun k hk => ?_⟩
    by_cases hki : k = i
    · subst hki; exact H
    by_cases hkj : k = j
    · subst hkj; exact H2
    · obtain ⟨hkun, ok, hok, hall⟩ := mem_ready.1 hk
      have hok' : l[k]? = some ok := by simpa using hok
      have hn : ∀ q, q ∈ Region.ready .any l.toArray listed → ((bitsFrom [] l).getD k 0).testBit q = false := fun q hq => by
        have hqun := (mem_ready.1 hq).1
        cases hx : ((bitsFrom [] l).getD k 0).testBit q with
        | false => rfl
        | true =>
          have := hcl.bits hb (k + 1) k ok (by omega) hok' hall q hx
          rw [getD_tf hqun] at this; cases this
      obtain ⟨f1, f2, f3⟩ := hfree k ok hok' hki hkj hkun (hn i hr) (hn j hr2)
      have g1 : stepX P l.toArray Q R cl i (fun a' w' => stepX P l.toArray Q R cl k (wpX P .any l.toArray Q R cl fuel ((listed.setIfInBounds i true).setIfInBounds k true)) a' w') a w :=
        stepX_mono hS (fun a w _ h => h.2 k (ready_mono hk hki)) H
      have g2 : stepX P l.toArray Q R cl j (fun a' w' => stepX P l.toArray Q R cl k (wpX P .any l.toArray Q R cl fuel ((listed.setIfInBounds j true).setIfInBounds k true)) a' w') a w :=
        stepX_mono hS (fun a w _ h => h.2 k (ready_mono hk hkj)) H2
      have s1 := swapX (by simpa using hi) hok f1 hNB (fun cs b => hsel i oi cs b hi) (fun cs b => hsel k ok cs b hok') g1
      have s2 := swapX (by simpa using hj) hok f2 hNB (fun cs b => hsel j oj cs b hj) (fun cs b => hsel k ok cs b hok') g2
      refine stepX_mono hS (fun a' w' hS' h3 => ih (listed.setIfInBounds k true) a' w' (hcl.set hk) (fun q oq hq hqi hqj hun => ?_) (ready_mono hr (Ne.symm hki)) (ready_mono hr2 (Ne.symm hkj)) hS' ?_ ?_) (stepX_and hok f3 hS s1 s2)
      · refine hfree q oq hq hqi hqj ?_
        by_cases hkq : k = q
        · subst hkq; exact hkun
        · rw [getD_set_ne true hkq] at hun; exact hun
      · rw [Array.setIfInBounds_comm _ _ hki]
        exact h3.1
      · rw [Array.setIfInBounds_comm _ _ hkj]
        exact h3.2
theorem wpX_of_TrX (hsel : ∀ (j : Nat) (o : Oper) cs b, l[j]? = some o → o.op ≠ .select cs b)
    (hb : ∀ j o, l[j]? = some o → ∀ e ∈ o.after, Region.binds .any e = true → e.on < j) (hNB : NoBad Q) :
    ∀ (t : Tr) (done : List Nat) (a : Act) (w : World), okTr l cl done t = true → Closed l.toArray (mark l.length done) → R w →
      TrX P l.toArray Q R cl t a w → wpX P .any l.toArray Q R cl t.len (mark l.length done) a w
  | .nil, done, a, w, hok, _, _, h => by
    refine ⟨List.eq_nil_iff_forall_not_mem.2 fun j hj => ?_, h⟩
    obtain ⟨h1, o, ho, _⟩ := mem_ready.1 hj
    have hlt : j < l.length := by simpa using (Array.getElem?_eq_some_iff.1 ho).1
    rw [mark_getD hlt] at h1
    have h2 : (List.range l.length).all (fun k => done.contains k) = true := hok
    rw [List.all_eq_true] at h2
    rw [h2 j (List.mem_range.2 hlt)] at h1
    cases h1
  | .one i t, done, a, w, hok, hc, hS, h => by
    rw [okTr] at hok
    simp only [Bool.and_eq_true] at hok
    obtain ⟨⟨⟨h1, h2⟩, _⟩, h3⟩ := hok
    obtain ⟨o, ho, hr⟩ := readyI_spec hb h1
    have hcl2 := hc.set hr
    rw [mark_set] at hcl2
    refine wpX_first ho hsel hb hNB t.len _ a w hc (freeT_spec h2) hr hS ?_
    rw [mark_set]
    exact stepX_mono hS (fun a' w' hS' h4 => wpX_of_TrX hsel hb hNB t (i :: done) a' w' h3 hcl2 hS' h4) h
  | .two i s j t, done, a, w, hok, hc, hS, h => by
    rw [okTr] at hok
    simp only [Bool.and_eq_true, beq_iff_eq] at hok
    obtain ⟨⟨⟨⟨⟨⟨⟨k1, k2⟩, k3⟩, k6⟩, _⟩, _⟩, k4⟩, k5⟩ := hok
    obtain ⟨oi, hoi, hri⟩ := readyI_spec hb k1
    obtain ⟨oj, hoj, hrj⟩ := readyI_spec hb k2
    have hci := hc.set hri
    have hcj := hc.set hrj
    rw [mark_set] at hci hcj
    have a1 := stepX_mono hS (fun a' w' hS' h4 => wpX_of_TrX hsel hb hNB s (i :: done) a' w' k4 hci hS' h4) h.1
    have a2 := stepX_mono hS (fun a' w' hS' h4 => wpX_of_TrX hsel hb hNB t (j :: done) a' w' k5 hcj hS' h4) h.2
    refine wpX_two hoi hoj hsel hb hNB s.len _ a w hc (fun k ok hk hki hkj hun hn1 hn2 => ?_) hri hrj hS (by rw [mark_set]; exact a1) (by rw [mark_set, k6]; exact a2)
    have hlt : k < l.length := (List.getElem?_eq_some_iff.1 hk).1
    rw [mark_getD hlt] at hun
    unfold bothT at k3
    rw [List.all_eq_true] at k3
    have h3 := k3 k (List.mem_range.2 hlt)
    simp only [Bool.or_eq_true, Bool.and_eq_true, beq_iff_eq] at h3
    rcases h3 with (((h3 | h3) | h3) | h3) | ⟨⟨h3, h4⟩, h5⟩
    · rw [hun] at h3; cases h3
    · exact absurd h3 hki
    · exact absurd h3 hkj
    · rcases h3 with h3 | h3
      · rw [hn1] at h3; cases h3
      · rw [hn2] at h3; cases h3
    · exact ⟨h3, h4, h5⟩

/-- One behind the other. -/
def chainX (P : Program) (ops : Array Oper) (Q : Exit → Act → World → Prop) (R : World → Prop) (cl : List Nat) : List Nat → (Act → World → Prop) → Act → World → Prop
  | [], K => K
  | i :: t, K => stepX P ops Q R cl i (chainX P ops Q R cl t K)
theorem chainX_mono {K K' : Act → World → Prop} (h : ∀ a w, R w → K a w → K' a w) : ∀ (t : List Nat) (a : Act) (w : World), R w → chainX P l.toArray Q R cl t K a w → chainX P l.toArray Q R cl t K' a w
  | [], a, w, hS, hh => h a w hS hh
  | _ :: t, _, _, hS, hh => stepX_mono hS (fun a w hS h' => chainX_mono h t a w hS h') hh
theorem chainX_append (K : Act → World → Prop) : ∀ (s t : List Nat), chainX P l.toArray Q R cl (s ++ t) K = chainX P l.toArray Q R cl s (chainX P l.toArray Q R cl t K)
  | [], _ => rfl
  | i :: s, t => by rw [List.cons_append, chainX, chainX, chainX_append K s t]
theorem chain_of_D {Q' : Exit → Act → World → Prop} (hp : ∀ c a w, Q' (.panic c) a w → Q (.panic c) a w) (hlo : LetsOut Q' → LetsOut Q) :
    ∀ (todo : List Nat) (S : Kn) (a : Act) (w : World), S.z = R → (∀ w, S.c w → R w) → S.c w → (∀ i, i ∈ todo → (∃ o, l[i]? = some o) ∧ cl.getD i 2 ≠ 3) →
      wpD P l.toArray Q' S (todo.map (cl.getD · 2)) (todo.filterMap (l[·]?)) a w → chainX P l.toArray Q R cl todo (fun a w => R w ∧ Q' .normal a w) a w
  | [], S, a, w, _, hc, hS, _, h => by
    have h' : Q' .normal a w := by simpa [wpD] using h
    exact ⟨hc w hS, h'⟩
  | i :: t, S, a, w, hz, hc, hS, hv, h => by
    obtain ⟨⟨o, ho⟩, h3⟩ := hv i (List.mem_cons_self ..)
    have ho' : l.toArray[i]? = some o := by simpa using ho
    rw [List.filterMap_cons_some ho, wpD] at h
    have hv' := fun i hi => hv i (List.mem_cons_of_mem _ hi)
    rw [chainX]
    split at h
    · rename_i hw
      rw [List.map_cons, List.headD_cons, List.tail_cons] at h
      split at h
      · rename_i hc0; obtain ⟨v, h1, h2⟩ := h
        exact stepX_of_Yv ho' (.inr (.inl ⟨hw, hc0, by rw [← hz]; exact h1⟩)) (chain_of_D hp hlo t S _ _ hz hc hS hv' h2)
      · rename_i hc0; obtain ⟨v, h1, h2⟩ := h
        exact stepX_of_Yv ho' (.inr (.inr ⟨hw, hc0, h1⟩)) (chain_of_D hp hlo t S _ _ hz hc hS hv' h2)
      · rename_i hc0; exact absurd hc0 h3
      · rename_i c0 c1 c3
        exact stepX_of_E ho' hw c0 c1 (wp_otherQ hp hlo (Oper.wp_mono (fun a' w' ⟨S', ⟨m1, m2⟩, g2, g3⟩ => ⟨hc _ (m2 _ g2), chain_of_D hp hlo t S' a' w' (m1.trans hz) (fun w h => hc w (m2 w h)) g2 hv' g3⟩) h))
    · rename_i hw
      exact stepX_of_Yv ho' (.inl ⟨by simpa using hw, rfl⟩) (chain_of_D hp hlo t S _ _ hz hc hS hv' h)

/-- What is left of a tree behind some operations, in the spelling of walks. -/
def TrD (P : Program) (l : List Oper) (Q : Exit → Act → World → Prop) (R : World → Prop) (cl : List Nat) : List Nat → Tr → Act → World → Prop
  | acc, .nil, a, w => wpD P l.toArray Q (kn R) (acc.map (cl.getD · 2)) (acc.filterMap (l[·]?)) a w
  | acc, .one i t, a, w => TrD P l Q R cl (acc ++ [i]) t a w
  | acc, .two i s j t, a, w => wpD P l.toArray (Exit.then (fun a w => TrD P l Q R cl [i] s a w ∧ TrD P l Q R cl [j] t a w) (fun _ _ _ => False)) (kn R) (acc.map (cl.getD · 2)) (acc.filterMap (l[·]?)) a w
theorem okTr_ready {done : List Nat} {i : Nat} (h : readyI l done i = true) : ∃ o, l[i]? = some o := by
  unfold readyI at h
  split at h
  · exact ⟨_, by assumption⟩
  · cases h
theorem chain_of_TrD : ∀ (t : Tr) (acc done : List Nat) (a : Act) (w : World), okTr l cl done t = true → (∀ i, i ∈ acc → (∃ o, l[i]? = some o) ∧ cl.getD i 2 ≠ 3) → R w →
    TrD P l Q R cl acc t a w → chainX P l.toArray Q R cl acc (TrX P l.toArray Q R cl t) a w
  | .nil, acc, done, a, w, _, hv, hS, h => by
    rw [TrD] at h
    exact chainX_mono (fun a w _ h => h.2) _ _ _ hS (chain_of_D (Q' := Q) (fun _ _ _ h => h) (fun h => h) acc (kn R) a w rfl (fun _ h => h) hS hv h)
  | .one i t, acc, done, a, w, hok, hv, hS, h => by
    rw [okTr] at hok
    simp only [Bool.and_eq_true, bne_iff_ne, ne_eq] at hok
    obtain ⟨⟨⟨k1, _⟩, k3⟩, k4⟩ := hok
    rw [TrD] at h
    have := chain_of_TrD t (acc ++ [i]) (i :: done) a w k4 (fun x hx => by
      rcases List.mem_append.1 hx with hx | hx
      · exact hv x hx
      · rw [List.mem_singleton] at hx; subst hx; exact ⟨okTr_ready k1, k3⟩) hS h
    rw [chainX_append] at this
    exact this
  | .two i s j t, acc, done, a, w, hok, hv, hS, h => by
    rw [okTr] at hok
    simp only [Bool.and_eq_true, bne_iff_ne, ne_eq] at hok
    obtain ⟨⟨⟨⟨⟨⟨⟨k1, k2⟩, _⟩, _⟩, k7⟩, k8⟩, k4⟩, k5⟩ := hok
    rw [TrD] at h
    refine chainX_mono (fun a w hS h => ?_) _ _ _ hS (chain_of_D (Q' := Exit.then (fun a w => TrD P l Q R cl [i] s a w ∧ TrD P l Q R cl [j] t a w) (fun _ _ _ => False)) (fun _ _ _ h => h.elim) (fun ⟨_, _, h⟩ => h.elim) acc (kn R) a w rfl (fun _ h => h) hS hv h)
    obtain ⟨_, h1, h2⟩ := h
    exact ⟨chain_of_TrD s [i] (i :: done) a w k4 (fun x hx => by rw [List.mem_singleton] at hx; subst hx; exact ⟨okTr_ready k1, k7⟩) hS h1,
      chain_of_TrD t [j] (j :: done) a w k5 (fun x hx => by rw [List.mem_singleton] at hx; subst hx; exact ⟨okTr_ready k2, k8⟩) hS h2⟩
/-- **A TREE OF WALKS SERVES EVERY ORDER.** -/
theorem wp_regionT {id : Nat} {a : Act} {w : World} (l : List Oper) (cl : List Nat) (t : Tr) (R : World → Prop) (hm : P.follows .mixedOrders = true) (hB : (textS l && okTr l cl [] t && (t.len == l.length)) = true) (hS : R w.drew)
    (h : TrD P l (Exit.then (Q .normal) (fun _ _ _ => False)) R cl [] t a w.drew) : (Code.region id l.toArray true).wp P Q a w := by
  refine Code.wp_mono (Q := Exit.then (Q .normal) (fun _ _ _ => False)) (fun e a w h => by cases e <;> first | exact h | exact h.elim) ?_
  simp only [Bool.and_eq_true, beq_iff_eq] at hB
  obtain ⟨⟨b1, b2⟩, b3⟩ := hB
  simp only [textS, Bool.and_eq_true, List.all_eq_true, List.mem_range] at b1
  obtain ⟨hsel, hB⟩ := b1
  have hsel' : ∀ (j : Nat) (o : Oper) cs b, l[j]? = some o → o.op ≠ .select cs b := fun j o cs b ho he => by
    have := hsel o (List.mem_of_getElem? ho)
    simp [he] at this
  have hb : ∀ j o, l[j]? = some o → ∀ e ∈ o.after, Region.binds .any e = true → e.on < j := fun j o ho e he hbd => by
    have := hB j (List.getElem?_eq_some_iff.1 ho).1
    simp only [ho, Option.map_some, Option.getD_some, List.all_eq_true] at this
    have := this e (by simpa using he)
    simpa [hbd] using this
  have e0 : mark l.length [] = Array.replicate l.toArray.size false := by
    apply Array.ext
    · simp [mark]
    · intro j h1 h2; simp [mark]
  have hc0 : Closed l.toArray (mark l.length []) := fun j oj hj hl => by
    have hlt : j < l.length := by simpa using (Array.getElem?_eq_some_iff.1 hj).1
    rw [mark_getD hlt] at hl
    simp at hl
  refine wp_region_any hm (wpAny_of_X (S := R) (cl := cl) _ _ _ _ hS ?_)
  have := wpX_of_TrX (P := P) (Q := Exit.then (Q .normal) (fun _ _ _ => False)) (cl := cl) (R := R) hsel' hb noBad_thru t [] a w.drew b2 hc0 hS (chain_of_TrD t [] [] a w.drew b2 (fun i hi => by cases hi) hS h)
  rw [e0, b3] at this
  simpa using this
variable {acc cs : List Nat} {S : Kn} {a : Act} {w : World}
theorem D_nil (h : wpD P l.toArray Q (kn R) (acc.map (cl.getD · 2)) (acc.filterMap (l[·]?)) a w) : TrD P l Q R cl acc .nil a w := by rw [TrD]; exact h
theorem D_one {i : Nat} {t : Tr} (h : TrD P l Q R cl (acc ++ [i]) t a w) : TrD P l Q R cl acc (.one i t) a w := by rw [TrD]; exact h
theorem D_two {i j : Nat} {s t : Tr} (h : wpD P l.toArray (Exit.then (fun a w => TrD P l Q R cl [i] s a w ∧ TrD P l Q R cl [j] t a w) (fun _ _ _ => False)) (kn R) (acc.map (cl.getD · 2)) (acc.filterMap (l[·]?)) a w) : TrD P l Q R cl acc (.two i s j t) a w := by rw [TrD]; exact h
theorem T_fork {i j : Nat} {s t : Tr} {ops : Array Oper} (h1 : TrD P l Q R cl [i] s a w) (h2 : TrD P l Q R cl [j] t a w) : wpD P ops (Exit.then (fun a w => TrD P l Q R cl [i] s a w ∧ TrD P l Q R cl [j] t a w) (fun _ _ _ => False)) S cs [] a w := wpD_nil ⟨h1, h2⟩
end
attribute [irreducible] TrD
end Go.Fp
/- A region whose order is drawn, an effect of it beside several others: a tree of orders. -/
namespace Go.Fp
open Go Go.RowKit
section
variable {P : Program} {k : Ks} {a0 : Act} {w : World} {N : Nat} {env : List (Nat × Value)}
theorem C_treek (hN : Base N a0) {id : Nat} {l : List Oper} (env' : List (Nat × Value)) (hk : Keeps N env env') (cl : List Nat) (t : Tr) (R : World → Prop) (hm : P.follows .mixedOrders = true) (hB : (textS l && okTr l cl [] t && (t.len == l.length)) = true) (hR : R w.drew)
    (h1 : ∀ a1, Base N a1 → TrD P l (dq P k) R cl [] t (puts a1 env') w.drew) : wpC P (.region id l.toArray true) k (puts a0 env) w := by
  have e1 := h1 (puts a0 env) (base_puts hN env)
  rw [keeps_puts hN hk] at e1
  unfold dq at e1
  unfold wpC
  exact wp_regionT l cl t R hm hB hR e1
end
end Go.Fp
