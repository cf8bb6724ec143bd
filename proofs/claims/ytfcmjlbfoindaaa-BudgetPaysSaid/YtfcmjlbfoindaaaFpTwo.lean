/- REGIONS THAT DRAW THEIR ORDER in which two effects are not ordered: both orders are walked. -/
import Derived.Test.YtfcmjlbfoindaaaFpTexD
import Derived.Test.YtfcmjlbfoindaaaSx
namespace Go.Fp
open Go
section
variable {P : Program} {Q : Exit → Act → World → Prop} {cl : List Nat} {l : List Oper}

def freeI (l : List Oper) (cl : List Nat) (done : List Nat) (i : Nat) : Bool :=
  (List.range l.length).all fun k => done.contains k || k == i || ((bitsFrom [] l).getD k 0).testBit i || pairD l.toArray cl i k
def readyI (l : List Oper) (done : List Nat) (i : Nat) : Bool := match l[i]? with
  | some o => !done.contains i && o.after.toList.all (fun e => !Region.binds .any e || done.contains e.on)
  | none => false
def okP (l : List Oper) (cl : List Nat) : List Nat → List Nat → Bool
  | done, [] => (List.range l.length).all fun k => done.contains k
  | done, i :: t => readyI l done i && freeI l cl done i && okP l cl (i :: done) t
def mark (n : Nat) (done : List Nat) : Array Bool := ((List.range n).map fun j => done.contains j).toArray
theorem mark_getD {n j : Nat} {done : List Nat} {d : Bool} (hj : j < n) : (mark n done).getD j d = done.contains j := by simp [mark, hj]
theorem mark_set {n i : Nat} {done : List Nat} : (mark n done).setIfInBounds i true = mark n (i :: done) := by
  apply Array.ext
  · simp [mark]
  · intro j h1 h2
    simp only [mark, List.size_toArray, List.length_map, List.length_range, Array.size_setIfInBounds] at h1 h2
    have h3 : j < (mark n done).size := by simpa [mark] using h1
    rw [Array.getElem_setIfInBounds h3]
    split
    · rename_i h; subst h; simp [mark]
    · rename_i h
      have : ¬ j = i := fun e => h e.symm
      simp [mark, this]
theorem readyI_spec {done : List Nat} {i : Nat} (hb : ∀ j o, l[j]? = some o → ∀ e ∈ o.after, Region.binds .any e = true → e.on < j) (h : readyI l done i = true) : ∃ o, l[i]? = some o ∧ i ∈ Region.ready .any l.toArray (mark l.length done) := by
  unfold readyI at h
  split at h
  · rename_i o ho
    simp only [Bool.and_eq_true, Bool.not_eq_true', List.all_eq_true] at h
    obtain ⟨h1, h2⟩ := h
    have hlt : i < l.length := (List.getElem?_eq_some_iff.1 ho).1
    refine ⟨o, ho, mem_ready.2 ⟨by rw [mark_getD hlt]; exact h1, o, by simpa using ho, fun e he hbd => ?_⟩⟩
    have h3 := h2 e (by simpa using he)
    have h4 := hb i o ho e he hbd
    rw [mark_getD (by omega)]
    simpa [hbd] using h3
  · cases h
theorem freeI_spec {done : List Nat} {i : Nat} (h : freeI l cl done i = true) : ∀ j oj, l[j]? = some oj → j ≠ i → (mark l.length done).getD j true = false → ((bitsFrom [] l).getD j 0).testBit i = false → pairD l.toArray cl i j = true := by
  intro j oj hj hne hun hno
  have hlt : j < l.length := (List.getElem?_eq_some_iff.1 hj).1
  rw [mark_getD hlt] at hun
  unfold freeI at h
  rw [List.all_eq_true] at h
  have h2 := h j (List.mem_range.2 hlt)
  simp only [Bool.or_eq_true, beq_iff_eq] at h2
  rcases h2 with ((h2 | h2) | h2) | h2
  · rw [hun] at h2; cases h2
  · exact absurd h2 hne
  · rw [hno] at h2; cases h2
  · exact h2
theorem wpXD_of_P (hsel : ∀ (j : Nat) (o : Oper) cs b, l[j]? = some o → o.op ≠ .select cs b)
    (hb : ∀ j o, l[j]? = some o → ∀ e ∈ o.after, Region.binds .any e = true → e.on < j) (hNB : NoBad Q) :
    ∀ (todo done : List Nat) (S : Kn) (a : Act) (w : World), okP l cl done todo = true → Closed l.toArray (mark l.length done) → S.c w →
      wpD P l.toArray Q S (todo.map (cl.getD · 2)) (todo.filterMap (l[·]?)) a w → wpXD P .any l.toArray Q cl todo.length (mark l.length done) S a w
  | [], done, S, a, w, hok, _, _, h => by
    have h' : Q .normal a w := by simpa [wpD] using h
    refine ⟨List.eq_nil_iff_forall_not_mem.2 fun j hj => ?_, h'⟩
    obtain ⟨h1, o, ho, _⟩ := mem_ready.1 hj
    have hlt : j < l.length := by simpa using (Array.getElem?_eq_some_iff.1 ho).1
    rw [mark_getD hlt] at h1
    have h2 : (List.range l.length).all (fun k => done.contains k) = true := hok
    rw [List.all_eq_true] at h2
    rw [h2 j (List.mem_range.2 hlt)] at h1
    cases h1
  | i :: t, done, S, a, w, hok, hc, hS, h => by
    have hok' : (readyI l done i && freeI l cl done i && okP l cl (i :: done) t) = true := hok
    simp only [Bool.and_eq_true] at hok'
    obtain ⟨⟨h1, h2⟩, h3⟩ := hok'
    obtain ⟨o, ho, hr⟩ := readyI_spec hb h1
    have hcl2 := hc.set hr
    rw [mark_set] at hcl2
    refine wpXD_first ho hsel hb hNB t.length _ S a w hc (freeI_spec h2) hr hS ?_
    rw [mark_set]
    have h' : wpD P l.toArray Q S (cl.getD i 2 :: t.map (cl.getD · 2)) (o :: t.filterMap (l[·]?)) a w := by
      have e : (i :: t).filterMap (l[·]?) = o :: t.filterMap (l[·]?) := by rw [List.filterMap_cons_some ho]
      rw [e] at h; exact h
    exact stepD_of_T ho rfl (fun _ _ _ h => h) (fun h => h) hS h' (fun S' a' w' hS' h4 => wpXD_of_P hsel hb hNB t (i :: done) S' a' w' h3 hcl2 hS' h4)

/-- Both hold behind a step that yields a value. -/
theorem stepD_and {k : Nat} {o : Oper} {S : Kn} {a : Act} {w : World} {A B : Kn → Act → World → Prop} (ho : l.toArray[k]? = some o) (hc : cl.getD k 2 = 0 ∨ cl.getD k 2 = 1 ∨ cl.getD k 2 = 3) (hS : S.c w) (h1 : stepD P l.toArray Q cl k A S a w) (h2 : stepD P l.toArray Q cl k B S a w) :
    stepD P l.toArray Q cl k (fun S a w => A S a w ∧ B S a w) S a w := by
  rcases stepD_cases ho h1 with ⟨v, y1, g1⟩ | ⟨_, c0, c1, c3, _⟩
  · rcases stepD_cases ho h2 with ⟨u, y2, g2⟩ | ⟨_, c0, c1, c3, _⟩
    · have := YvD.det hS y1 y2
      subst this
      exact stepD_of_Y ho y1 ⟨g1, g2⟩
    · rcases hc with h | h | h
      · exact absurd h c0
      · exact absurd h c1
      · exact absurd h c3
  · rcases hc with h | h | h
    · exact absurd h c0
    · exact absurd h c1
    · exact absurd h c3

/-- Two that may come up now: the one first, or the other. -/
theorem wpXD_two {i j : Nat} {oi oj : Oper} (hi : l[i]? = some oi) (hj : l[j]? = some oj) (hsel : ∀ (j : Nat) (o : Oper) cs b, l[j]? = some o → o.op ≠ .select cs b)
    (hb : ∀ j o, l[j]? = some o → ∀ e ∈ o.after, Region.binds .any e = true → e.on < j) (hNB : NoBad Q) :
    ∀ (fuel : Nat) (listed : Array Bool) (S : Kn) (a : Act) (w : World), Closed l.toArray listed →
      (∀ k ok, l[k]? = some ok → k ≠ i → k ≠ j → listed.getD k true = false → (((bitsFrom [] l).getD k 0).testBit i = false → pairD l.toArray cl i k = true) ∧ (((bitsFrom [] l).getD k 0).testBit j = false → pairD l.toArray cl j k = true) ∧
        (((bitsFrom [] l).getD k 0).testBit i = false → cl.getD k 2 = 0)) →
      i ∈ Region.ready .any l.toArray listed → j ∈ Region.ready .any l.toArray listed → S.c w →
      stepD P l.toArray Q cl i (wpXD P .any l.toArray Q cl fuel (listed.setIfInBounds i true)) S a w →
      stepD P l.toArray Q cl j (wpXD P .any l.toArray Q cl fuel (listed.setIfInBounds j true)) S a w → wpXD P .any l.toArray Q cl (fuel + 1) listed S a w := by
  intro fuel
  induction fuel with
  | zero =>
    intro listed S a w _ _ hr hr2 hS H H2
    refine ⟨fun h => (by rw [h] at hr; cases hr), fun k hk => ?_⟩
    by_cases hki : k = i
    · subst hki; exact H
    by_cases hkj : k = j
    · subst hkj; exact H2
    · exfalso
      have h2 := ready_mono hk hki
      have key : ∀ (S : Kn) a w, S.c w → wpXD P .any l.toArray Q cl 0 (listed.setIfInBounds i true) S a w → False := fun S a w _ h => by rw [h.1] at h2; cases h2
      rcases stepD_cases (by simpa using hi) H with ⟨v, _, h⟩ | ⟨_, _, _, _, h⟩
      · exact key _ _ _ hS h
      · obtain ⟨a', v, w', ⟨S', _, hS', h⟩, _⟩ := wp_outcome hNB h; exact key _ _ _ hS' h
  | succ fuel ih =>
    intro listed S a w hcl hfree hr hr2 hS H H2
    refine ⟨fun h => (by rw [h] at hr; cases hr), fun k hk => ?_⟩
    by_cases hki : k = i
    · subst hki; exact H
    by_cases hkj : k = j
    · subst hkj; exact H2
    · obtain ⟨hkun, ok, hok, hall⟩ := mem_ready.1 hk
      have hok' : l[k]? = some ok := by simpa using hok
      have hn : ∀ q, q ∈ Region.ready .any l.toArray listed → ((bitsFrom [] l).getD k 0).testBit q = false := fun q hq => by
        have hqun := (mem_ready.1 hq).1
        cases hx : ((bitsFrom [] l).getD k 0).testBit q with
        | false => rfl
        | true =>
          have := hcl.bits hb (k + 1) k ok (by omega) hok' hall q hx
          rw [getD_tf hqun] at this; cases this
      obtain ⟨f1, f2, f3⟩ := hfree k ok hok' hki hkj hkun
      have g1 : stepD P l.toArray Q cl i (fun S a' w' => stepD P l.toArray Q cl k (wpXD P .any l.toArray Q cl fuel ((listed.setIfInBounds i true).setIfInBounds k true)) S a' w') S a w :=
        stepD_mono hS (fun S a w _ h => h.2 k (ready_mono hk hki)) H
      have g2 : stepD P l.toArray Q cl j (fun S a' w' => stepD P l.toArray Q cl k (wpXD P .any l.toArray Q cl fuel ((listed.setIfInBounds j true).setIfInBounds k true)) S a' w') S a w :=
        stepD_mono hS (fun S a w _ h => h.2 k (ready_mono hk hkj)) H2
      have s1 := swapD (by simpa using hi) hok (f1 (hn i hr)) hNB (fun cs b => hsel i oi cs b hi) (fun cs b => hsel k ok cs b hok') g1
      have s2 := swapD (by simpa using hj) hok (f2 (hn j hr2)) hNB (fun cs b => hsel j oj cs b hj) (fun cs b => hsel k ok cs b hok') g2
      refine stepD_mono hS (fun S' a' w' hS' h3 => ih (listed.setIfInBounds k true) S' a' w' (hcl.set hk) (fun q oq hq hqi hqj hun => ?_) (ready_mono hr (Ne.symm hki)) (ready_mono hr2 (Ne.symm hkj)) hS' ?_ ?_) (stepD_and hok (.inl (f3 (hn i hr))) hS s1 s2)
      · refine hfree q oq hq hqi hqj ?_
        by_cases hkq : k = q
        · subst hkq; exact hkun
        · rw [getD_set_ne true hkq] at hun; exact hun
      · rw [Array.setIfInBounds_comm _ _ hki]
        exact h3.1
      · rw [Array.setIfInBounds_comm _ _ hkj]
        exact h3.2

def twoI (l : List Oper) (cl : List Nat) (done : List Nat) (i j : Nat) : Bool :=
  (List.range l.length).all fun k => done.contains k || k == i || k == j ||
    ((((bitsFrom [] l).getD k 0).testBit i || (pairD l.toArray cl i k && (cl.getD k 2 == 0))) && (((bitsFrom [] l).getD k 0).testBit j || pairD l.toArray cl j k))
/-- The check of two orders that begin alike. -/
def okTwo (l : List Oper) (cl : List Nat) : List Nat → List Nat → List Nat → Bool
  | done, i :: t1, j :: t2 =>
    if i = j then readyI l done i && freeI l cl done i && (cl.getD i 2 == 0 || cl.getD i 2 == 1 || cl.getD i 2 == 3) && okTwo l cl (i :: done) t1 t2
    else readyI l done i && readyI l done j && twoI l cl done i j && okP l cl (i :: done) t1 && okP l cl (j :: done) t2 && (t1.length == t2.length)
  | _, _, _ => false
theorem wpXD_of_two (hsel : ∀ (j : Nat) (o : Oper) cs b, l[j]? = some o → o.op ≠ .select cs b)
    (hb : ∀ j o, l[j]? = some o → ∀ e ∈ o.after, Region.binds .any e = true → e.on < j) (hNB : NoBad Q) :
    ∀ (t1 t2 done : List Nat) (S : Kn) (a : Act) (w : World), okTwo l cl done t1 t2 = true → Closed l.toArray (mark l.length done) → S.c w →
      wpD P l.toArray Q S (t1.map (cl.getD · 2)) (t1.filterMap (l[·]?)) a w → wpD P l.toArray Q S (t2.map (cl.getD · 2)) (t2.filterMap (l[·]?)) a w → wpXD P .any l.toArray Q cl t1.length (mark l.length done) S a w
  | [], _, _, _, _, _, hok, _, _, _, _ => by simp [okTwo] at hok
  | _ :: _, [], _, _, _, _, hok, _, _, _, _ => by simp [okTwo] at hok
  | i :: t1, j :: t2, done, S, a, w, hok, hc, hS, h1, h2 => by
    rw [okTwo] at hok
    split at hok
    · rename_i he
      subst he
      simp only [Bool.and_eq_true, Bool.or_eq_true, beq_iff_eq] at hok
      obtain ⟨⟨⟨k1, k2⟩, k3⟩, k4⟩ := hok
      obtain ⟨o, ho, hr⟩ := readyI_spec hb k1
      have hcl2 := hc.set hr
      rw [mark_set] at hcl2
      refine wpXD_first ho hsel hb hNB t1.length _ S a w hc (freeI_spec k2) hr hS ?_
      rw [mark_set]
      rw [List.filterMap_cons_some ho] at h1 h2
      have a1 := stepD_of_T (K := fun S a w => wpD P l.toArray Q S (t1.map (cl.getD · 2)) (t1.filterMap (l[·]?)) a w) ho rfl (fun _ _ _ h => h) (fun h => h) hS h1 (fun _ _ _ _ h => h)
      have a2 := stepD_of_T (K := fun S a w => wpD P l.toArray Q S (t2.map (cl.getD · 2)) (t2.filterMap (l[·]?)) a w) ho rfl (fun _ _ _ h => h) (fun h => h) hS h2 (fun _ _ _ _ h => h)
      have k3' : cl.getD i 2 = 0 ∨ cl.getD i 2 = 1 ∨ cl.getD i 2 = 3 := by
        rcases k3 with (k | k) | k
        · exact .inl k
        · exact .inr (.inl k)
        · exact .inr (.inr k)
      exact stepD_mono hS (fun S' a' w' hS' h => wpXD_of_two hsel hb hNB t1 t2 (i :: done) S' a' w' k4 hcl2 hS' h.1 h.2) (stepD_and (by simpa using ho) k3' hS a1 a2)
    · simp only [Bool.and_eq_true, beq_iff_eq] at hok
      obtain ⟨⟨⟨⟨⟨k1, k2⟩, k3⟩, k4⟩, k5⟩, k6⟩ := hok
      obtain ⟨oi, hoi, hri⟩ := readyI_spec hb k1
      obtain ⟨oj, hoj, hrj⟩ := readyI_spec hb k2
      have hci := hc.set hri
      have hcj := hc.set hrj
      rw [mark_set] at hci hcj
      rw [List.filterMap_cons_some hoi] at h1
      rw [List.filterMap_cons_some hoj] at h2
      have a1 := stepD_of_T (K := fun S a w => wpXD P .any l.toArray Q cl t1.length (mark l.length (i :: done)) S a w) hoi rfl (fun _ _ _ h => h) (fun h => h) hS h1 (fun S' a' w' hS' h => wpXD_of_P hsel hb hNB t1 (i :: done) S' a' w' k4 hci hS' h)
      have a2 := stepD_of_T (K := fun S a w => wpXD P .any l.toArray Q cl t2.length (mark l.length (j :: done)) S a w) hoj rfl (fun _ _ _ h => h) (fun h => h) hS h2 (fun S' a' w' hS' h => wpXD_of_P hsel hb hNB t2 (j :: done) S' a' w' k5 hcj hS' h)
      refine wpXD_two hoi hoj hsel hb hNB t1.length _ S a w hc (fun k ok hk hki hkj hun => ?_) hri hrj hS (by rw [mark_set]; exact a1) (by rw [mark_set, k6]; exact a2)
      have hlt : k < l.length := (List.getElem?_eq_some_iff.1 hk).1
      rw [mark_getD hlt] at hun
      unfold twoI at k3
      rw [List.all_eq_true] at k3
      have h3 := k3 k (List.mem_range.2 hlt)
      simp only [Bool.or_eq_true, Bool.and_eq_true, beq_iff_eq] at h3
      rcases h3 with ((h3 | h3) | h3) | ⟨h4, h5⟩
      · rw [hun] at h3; cases h3
      · exact absurd h3 hki
      · exact absurd h3 hkj
      · refine ⟨fun hn => ?_, fun hn => ?_, fun hn => ?_⟩
        · rcases h4 with h4 | h4
          · rw [hn] at h4; cases h4
          · exact h4.1
        · rcases h5 with h5 | h5
          · rw [hn] at h5; cases h5
          · exact h5
        · rcases h4 with h4 | h4
          · rw [hn] at h4; cases h4
          · exact h4.2

def textS (ops : List Oper) : Bool :=
  (ops.all fun o => match o.op with | .select .. => false | _ => true) &&
  (List.range ops.length).all fun j => ((ops[j]?).map fun o => o.after.toList.all (fun e => !Region.binds .any e || decide (e.on < j))).getD true
/-- **TWO WALKS SERVE EVERY ORDER.** -/
theorem wpD_region2 {id : Nat} {a : Act} {w : World} {l : List Oper} (cl : List Nat) (t1 t2 : List Nat) (R : World → Prop) (hm : P.follows .mixedOrders = true) (hB : (textS l && okTwo l cl [] t1 t2 && (t1.length == l.length)) = true) (hS : R w.drew)
    (h1 : wpD P l.toArray (Exit.then (Q .normal) (fun _ _ _ => False)) (kn R) (t1.map (cl.getD · 2)) (t1.filterMap (l[·]?)) a w.drew)
    (h2 : wpD P l.toArray (Exit.then (Q .normal) (fun _ _ _ => False)) (kn R) (t2.map (cl.getD · 2)) (t2.filterMap (l[·]?)) a w.drew) : (Code.region id l.toArray true).wp P Q a w := by
  refine Code.wp_mono (Q := Exit.then (Q .normal) (fun _ _ _ => False)) (fun e a w h => by cases e <;> first | exact h | exact h.elim) ?_
  simp only [Bool.and_eq_true, beq_iff_eq] at hB
  obtain ⟨⟨b1, b2⟩, b3⟩ := hB
  simp only [textS, Bool.and_eq_true, List.all_eq_true, List.mem_range] at b1
  obtain ⟨hsel, hB⟩ := b1
  have hsel' : ∀ (j : Nat) (o : Oper) cs b, l[j]? = some o → o.op ≠ .select cs b := fun j o cs b ho he => by
    have := hsel o (List.mem_of_getElem? ho)
    simp [he] at this
  have hb : ∀ j o, l[j]? = some o → ∀ e ∈ o.after, Region.binds .any e = true → e.on < j := fun j o ho e he hbd => by
    have := hB j (List.getElem?_eq_some_iff.1 ho).1
    simp only [ho, Option.map_some, Option.getD_some, List.all_eq_true] at this
    have := this e (by simpa using he)
    simpa [hbd] using this
  have e0 : mark l.length [] = Array.replicate l.toArray.size false := by
    apply Array.ext
    · simp [mark]
    · intro j h1 h2; simp [mark]
  have hc0 : Closed l.toArray (mark l.length []) := fun j oj hj hl => by
    have hlt : j < l.length := by simpa using (Array.getElem?_eq_some_iff.1 hj).1
    rw [mark_getD hlt] at hl
    simp at hl
  refine wp_region_any hm (wpAny_of_XD (cl := cl) _ _ (kn R) _ _ hS ?_)
  have := wpXD_of_two (P := P) (Q := Exit.then (Q .normal) (fun _ _ _ => False)) (cl := cl) hsel' hb noBad_thru t1 t2 [] (kn R) a w.drew b2 hc0 hS h1 h2
  rw [e0, b3] at this
  simpa using this
end
end Go.Fp
/- A region whose order is drawn, two effects of it not ordered. -/
namespace Go.Fp
open Go Go.RowKit
section
variable {P : Program} {k : Ks} {a0 : Act} {w : World} {N : Nat} {env : List (Nat × Value)}
theorem C_twok (hN : Base N a0) {id : Nat} {l : List Oper} (env' : List (Nat × Value)) (hk : Keeps N env env') (cl : List Nat) (t1 t2 : List Nat) (R : World → Prop) (hm : P.follows .mixedOrders = true) (hB : (textS l && okTwo l cl [] t1 t2 && (t1.length == l.length)) = true) (hR : R w.drew)
    (h1 : ∀ a1, Base N a1 → wpD P l.toArray (dq P k) (kn R) (t1.map (cl.getD · 2)) (t1.filterMap (l[·]?)) (puts a1 env') w.drew) (h2 : ∀ a1, Base N a1 → wpD P l.toArray (dq P k) (kn R) (t2.map (cl.getD · 2)) (t2.filterMap (l[·]?)) (puts a1 env') w.drew) : wpC P (.region id l.toArray true) k (puts a0 env) w := by
  have e1 := h1 (puts a0 env) (base_puts hN env)
  have e2 := h2 (puts a0 env) (base_puts hN env)
  rw [keeps_puts hN hk] at e1 e2
  unfold dq at e1 e2
  unfold wpC
  exact wpD_region2 cl t1 t2 R hm hB hR e1 e2
end
end Go.Fp
