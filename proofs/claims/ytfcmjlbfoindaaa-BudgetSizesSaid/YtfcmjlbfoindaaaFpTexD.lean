/- REGIONS THAT DRAW THEIR ORDER, once more: what is known of the memory may grow behind a call. -/
import Derived.Test.YtfcmjlbfoindaaaFpSplit
namespace Go.Fp
open Go

/-- What is known: ever (z), and by now (c). -/
structure Kn where
  z : World → Prop
  c : World → Prop
  le : ∀ w, c w → z w
instance : CoeFun Kn (fun _ => World → Prop) := ⟨Kn.c⟩
def kn (R : World → Prop) : Kn := ⟨R, R, fun _ h => h⟩
def AnyK : Kn := kn Any
def Kn.add (R : Kn) (p : World → Prop) : Kn := ⟨R.z, fun w => R.c w ∧ p w, fun w h => R.le w h.1⟩
/-- More is known. -/
def Kn.more (R' R : Kn) : Prop := R'.z = R.z ∧ ∀ w, R'.c w → R.c w
theorem Kn.more_refl (R : Kn) : R.more R := ⟨rfl, fun _ h => h⟩
theorem Kn.more_add (R : Kn) (p : World → Prop) : (R.add p).more R := ⟨rfl, fun _ h => h.1⟩

section
variable {P : Program} {ops : Array Oper} {Q : Exit → Act → World → Prop} {md : Region.Mode} {S : Kn} {cl : List Nat}

/-- Operation i comes up. Class 0: it yields one value in every world that meets what is ever known; 3: by what is known now; 1: it yields a value in this world, and leaves it; else: as it is. -/
def stepD (P : Program) (ops : Array Oper) (Q : Exit → Act → World → Prop) (cl : List Nat) (i : Nat) (K : Kn → Act → World → Prop) (S : Kn) (a : Act) (w : World) : Prop :=
  match ops[i]? with
  | none => K S a w
  | some o =>
    if Region.wanted o (yielded ops a.tmps) = true then
      match cl.getD i 2 with
      | 0 => ∃ v, (∀ w', S.z w' → (execOp a.eval o).run P w' = .ok (.value v) w') ∧ K S (a.put o.dst v) w
      | 1 => ∃ v, (execOp a.eval o).run P w = .ok (.value v) w ∧ K S (a.put o.dst v) w
      | 3 => ∃ v, (∀ w', S.c w' → (execOp a.eval o).run P w' = .ok (.value v) w') ∧ K S (a.put o.dst v) w
      | _ => o.wp P a w (fun a' w' => ∃ S', Kn.more S' S ∧ S'.c w' ∧ K S' a' w') Q
    else K S (a.put o.dst undef) w

def wpXD (P : Program) (md : Region.Mode) (ops : Array Oper) (Q : Exit → Act → World → Prop) (cl : List Nat) : Nat → Array Bool → Kn → Act → World → Prop
  | 0, listed, _, a, w => Region.ready md ops listed = [] ∧ Q .normal a w
  | fuel + 1, listed, S, a, w =>
    (Region.ready md ops listed = [] → Q .normal a w) ∧
    ∀ i ∈ Region.ready md ops listed, stepD P ops Q cl i (wpXD P md ops Q cl fuel (listed.setIfInBounds i true)) S a w

/-- It yields v and leaves the world. -/
def YvD (P : Program) (ops : Array Oper) (cl : List Nat) (i : Nat) (o : Oper) (S : Kn) (a : Act) (w : World) (v : Value) : Prop :=
  (Region.wanted o (yielded ops a.tmps) = false ∧ v = undef) ∨
  (Region.wanted o (yielded ops a.tmps) = true ∧ cl.getD i 2 = 0 ∧ ∀ w', S.z w' → (execOp a.eval o).run P w' = .ok (.value v) w') ∨
  (Region.wanted o (yielded ops a.tmps) = true ∧ cl.getD i 2 = 1 ∧ (execOp a.eval o).run P w = .ok (.value v) w) ∨
  (Region.wanted o (yielded ops a.tmps) = true ∧ cl.getD i 2 = 3 ∧ ∀ w', S.c w' → (execOp a.eval o).run P w' = .ok (.value v) w')
/-- It does what it does. -/
def EfD (P : Program) (ops : Array Oper) (Q : Exit → Act → World → Prop) (cl : List Nat) (i : Nat) (o : Oper) (K : Kn → Act → World → Prop) (S : Kn) (a : Act) (w : World) : Prop :=
  Region.wanted o (yielded ops a.tmps) = true ∧ cl.getD i 2 ≠ 0 ∧ cl.getD i 2 ≠ 1 ∧ cl.getD i 2 ≠ 3 ∧ o.wp P a w (fun a' w' => ∃ S', Kn.more S' S ∧ S'.c w' ∧ K S' a' w') Q

theorem stepD_cases {i : Nat} {o : Oper} {a : Act} {w : World} {K : Kn → Act → World → Prop} (ho : ops[i]? = some o) (h : stepD P ops Q cl i K S a w) :
    (∃ v, YvD P ops cl i o S a w v ∧ K S (a.put o.dst v) w) ∨ EfD P ops Q cl i o K S a w := by
  unfold stepD at h
  simp only [ho] at h
  split at h
  · rename_i hw
    split at h
    · rename_i hc; obtain ⟨v, h1, h2⟩ := h; exact .inl ⟨v, .inr (.inl ⟨hw, hc, h1⟩), h2⟩
    · rename_i hc; obtain ⟨v, h1, h2⟩ := h; exact .inl ⟨v, .inr (.inr (.inl ⟨hw, hc, h1⟩)), h2⟩
    · rename_i hc; obtain ⟨v, h1, h2⟩ := h; exact .inl ⟨v, .inr (.inr (.inr ⟨hw, hc, h1⟩)), h2⟩
    · rename_i hc0 hc1 hc3; exact .inr ⟨hw, hc0, hc1, hc3, h⟩
  · rename_i hw; exact .inl ⟨undef, .inl ⟨by simpa using hw, rfl⟩, h⟩

theorem stepD_of_Y {i : Nat} {o : Oper} {a : Act} {w : World} {v : Value} {K : Kn → Act → World → Prop} (ho : ops[i]? = some o) (h : YvD P ops cl i o S a w v)
    (hK : K S (a.put o.dst v) w) : stepD P ops Q cl i K S a w := by
  unfold stepD
  simp only [ho]
  rcases h with ⟨hw, rfl⟩ | ⟨hw, hc, h⟩ | ⟨hw, hc, h⟩ | ⟨hw, hc, h⟩
  · rw [if_neg (by simp [hw])]; exact hK
  · rw [if_pos hw, hc]; exact ⟨v, h, hK⟩
  · rw [if_pos hw, hc]; exact ⟨v, h, hK⟩
  · rw [if_pos hw, hc]; exact ⟨v, h, hK⟩

theorem stepD_of_E {i : Nat} {o : Oper} {a : Act} {w : World} {K : Kn → Act → World → Prop} (ho : ops[i]? = some o) (h : EfD P ops Q cl i o K S a w) : stepD P ops Q cl i K S a w := by
  obtain ⟨hw, h0, h1, h3, h⟩ := h
  unfold stepD
  simp only [ho]
  rw [if_pos hw]
  exact h

theorem stepD_mono {i : Nat} {a : Act} {w : World} {K K' : Kn → Act → World → Prop} (hS : S.c w) (h : ∀ S a w, S.c w → K S a w → K' S a w)
    (hh : stepD P ops Q cl i K S a w) : stepD P ops Q cl i K' S a w := by
  cases ho : ops[i]? with
  | none => unfold stepD at *; simp only [ho] at hh ⊢; exact h _ _ _ hS hh
  | some o =>
    rcases stepD_cases ho hh with ⟨v, h1, h2⟩ | ⟨h0, h1, h2, h3, h4⟩
    · exact stepD_of_Y ho h1 (h _ _ _ hS h2)
    · exact stepD_of_E ho ⟨h0, h1, h2, h3, Oper.wp_mono (fun a' w' ⟨S', g1, g2, g3⟩ => ⟨S', g1, g2, h _ _ _ g2 g3⟩) h4⟩

theorem wpOp_of_stepD {i : Nat} {a : Act} {w : World} {K : Kn → Act → World → Prop} (hS : S.c w) (hh : stepD P ops Q cl i K S a w) :
    wpOp P ops Q i (fun a' w' => ∃ S' : Kn, S'.c w' ∧ K S' a' w') a w := by
  cases ho : ops[i]? with
  | none => unfold stepD at hh; unfold wpOp; simp only [ho] at hh ⊢; exact ⟨S, hS, hh⟩
  | some o =>
    unfold wpOp
    simp only [ho]
    rcases stepD_cases ho hh with ⟨v, h1, h2⟩ | ⟨h0, _, _, _, h4⟩
    · rcases h1 with ⟨hw, rfl⟩ | ⟨hw, hc, h⟩ | ⟨hw, hc, h⟩ | ⟨hw, hc, h⟩
      · rw [if_neg (by simp [hw])]; exact ⟨S, hS, h2⟩
      · rw [if_pos hw]; refine .inl ?_; unfold Oper.wp; rw [h w (S.le w hS)]; exact ⟨S, hS, h2⟩
      · rw [if_pos hw]; refine .inl ?_; unfold Oper.wp; rw [h]; exact ⟨S, hS, h2⟩
      · rw [if_pos hw]; refine .inl ?_; unfold Oper.wp; rw [h w hS]; exact ⟨S, hS, h2⟩
    · rw [if_pos h0]
      exact .inl (Oper.wp_mono (fun a' w' ⟨S', _, g2, g3⟩ => ⟨S', g2, g3⟩) h4)

theorem wpAny_of_XD : ∀ (fuel : Nat) (listed : Array Bool) (S : Kn) (a : Act) (w : World), S.c w → wpXD P md ops Q cl fuel listed S a w → wpAny P md ops Q fuel listed a w
  | 0, _, _, _, _, _, h => h
  | fuel + 1, _, _, _, _, hS, h => ⟨h.1, fun i hi => wpOp_mono (fun a' w' ⟨S', g1, g2⟩ => wpAny_of_XD fuel _ S' a' w' g1 g2) (wpOp_of_stepD hS (h.2 i hi))⟩

theorem YvD.same {i : Nat} {o : Oper} {a a' : Act} {w : World} {v : Value} (h : YvD P ops cl i o S a w v) (he : execOp a'.eval o = execOp a.eval o)
    (hw : Region.wanted o (yielded ops a'.tmps) = Region.wanted o (yielded ops a.tmps)) : YvD P ops cl i o S a' w v := by
  unfold YvD at *; rw [he, hw]; exact h

theorem YvD.world {i : Nat} {o : Oper} {a : Act} {w : World} {v : Value} {S' : Kn} (h : YvD P ops cl i o S a w v) (hc : cl.getD i 2 ≠ 1) (hm : Kn.more S' S) (w' : World) : YvD P ops cl i o S' a w' v := by
  rcases h with h | ⟨h1, h2, h3⟩ | h | ⟨h1, h2, h3⟩
  · exact .inl h
  · exact .inr (.inl ⟨h1, h2, fun w2 hw2 => h3 w2 (by rw [← hm.1]; exact hw2)⟩)
  · exact absurd h.2.1 hc
  · exact .inr (.inr (.inr ⟨h1, h2, fun w2 hw2 => h3 w2 (hm.2 w2 hw2)⟩))
theorem YvD.back {i : Nat} {o : Oper} {a : Act} {w : World} {v : Value} {S' : Kn} (h : YvD P ops cl i o S' a w v) (hc : cl.getD i 2 = 0) (hm : Kn.more S' S) (w' : World) : YvD P ops cl i o S a w' v := by
  rcases h with h | ⟨h1, h2, h3⟩ | h | h
  · exact .inl h
  · exact .inr (.inl ⟨h1, h2, fun w2 hw2 => h3 w2 (by rw [hm.1]; exact hw2)⟩)
  · rw [h.2.1] at hc; cases hc
  · rw [h.2.1] at hc; cases hc

theorem YvD.det {i : Nat} {o : Oper} {a : Act} {w : World} {v u : Value} (hS : S.c w) (h : YvD P ops cl i o S a w v) (k : YvD P ops cl i o S a w u) : v = u := by
  have val : ∀ {v}, YvD P ops cl i o S a w v → Region.wanted o (yielded ops a.tmps) = true → (execOp a.eval o).run P w = .ok (.value v) w := by
    rintro v (⟨hw, _⟩ | ⟨_, _, h⟩ | ⟨_, _, h⟩ | ⟨_, _, h⟩) hw'
    · rw [hw] at hw'; cases hw'
    · exact h w (S.le w hS)
    · exact h
    · exact h w hS
  cases hw : Region.wanted o (yielded ops a.tmps) with
  | true => have := (val h hw).symm.trans (val k hw); injection this with this; injection this
  | false =>
    have key : ∀ {v}, YvD P ops cl i o S a w v → v = undef := by
      rintro v (⟨_, rfl⟩ | ⟨hw', _⟩ | ⟨hw', _⟩ | ⟨hw', _⟩)
      · rfl
      · rw [hw] at hw'; cases hw'
      · rw [hw] at hw'; cases hw'
      · rw [hw] at hw'; cases hw'
    rw [key h, key k]

/-- Two operations that may change places (i stands ahead in the text). -/
def pairD (ops : Array Oper) (cl : List Nat) (i j : Nat) : Bool :=
  match ops[i]?, ops[j]? with
  | some oi, some oj => oi.apart ops oj && oj.apart ops oi && (cl.getD i 2 == 0 || cl.getD j 2 == 0 || cl.getD i 2 == 3 || ((cl.getD i 2 == 1) && (cl.getD j 2 == 1 || cl.getD j 2 == 3)))
  | _, _ => true

/-- **They change places.** -/
theorem swapD {i j : Nat} {oi oj : Oper} (hi : ops[i]? = some oi) (hj : ops[j]? = some oj) (hok : pairD ops cl i j = true) (hNB : NoBad Q)
    (hsi : ∀ cs b, oi.op ≠ .select cs b) (hsj : ∀ cs b, oj.op ≠ .select cs b) {K : Kn → Act → World → Prop} {a : Act} {w : World}
    (h : stepD P ops Q cl i (fun S a' w' => stepD P ops Q cl j K S a' w') S a w) :
    stepD P ops Q cl j (fun S a' w' => stepD P ops Q cl i K S a' w') S a w := by
  simp only [pairD, hi, hj, Bool.and_eq_true, Bool.or_eq_true, beq_iff_eq] at hok
  obtain ⟨⟨hap1, hap2⟩, hcl⟩ := hok
  obtain ⟨ha1, ha2, ha3⟩ := Oper.apart_spec hap1
  have ei : ∀ (a : Act) (u : Value), execOp (a.put oj.dst u).eval oi = execOp a.eval oi := fun a u => execOp_put oi hsi a oj.dst u ha3
  have ej : ∀ (a : Act) (u : Value), execOp (a.put oi.dst u).eval oj = execOp a.eval oj := fun a u => execOp_put oj hsj a oi.dst u ha1
  have wi : ∀ (a : Act) (u : Value), Region.wanted oi (yielded ops (a.put oj.dst u).tmps) = Region.wanted oi (yielded ops a.tmps) := fun a u => wanted_put oi a oj.dst u ha3
  have wj : ∀ (a : Act) (u : Value), Region.wanted oj (yielded ops (a.put oi.dst u).tmps) = Region.wanted oj (yielded ops a.tmps) := fun a u => wanted_put oj a oi.dst u ha1
  have cm : ∀ (a : Act) (v u : Value), (a.put oi.dst v).put oj.dst u = (a.put oj.dst u).put oi.dst v := fun a v u => Act.put_comm a v u ha2
  have dji : ∀ t, oj.dst = some t → oi.dst ≠ some t := fun t ht hit => ha2 t hit ht
  rcases stepD_cases hi h with ⟨v, hy, h1⟩ | ⟨hw, hc0, hc1, hc3, h1⟩
  · rcases stepD_cases hj h1 with ⟨u, hz, h2⟩ | ⟨hw, hc0, hc1, hc3, h2⟩
    · refine stepD_of_Y hj (hz.same (ej _ _).symm (wj _ _).symm) (stepD_of_Y hi (hy.same (ei _ _) (wi _ _)) ?_)
      rw [← cm]; exact h2
    · have hi0 : cl.getD i 2 ≠ 1 := fun e => by
        rcases hcl with ((hcl | hcl) | hcl) | ⟨_, hcl | hcl⟩
        · rw [hcl] at e; cases e
        · exact hc0 hcl
        · rw [hcl] at e; cases e
        · exact hc1 hcl
        · exact hc3 hcl
      refine stepD_of_E hj ⟨by rw [← wj a v]; exact hw, hc0, hc1, hc3, ?_⟩
      refine Oper.wp_mono (fun a' w' h3 => ?_) (wp_shape (wp_unput hNB hsj ha1 dji h2))
      obtain ⟨⟨S', hm, hS', h3⟩, u, ht⟩ := h3
      refine ⟨S', hm, hS', stepD_of_Y hi ((hy.world hi0 hm w').same ?_ ?_) h3⟩
      · rw [execOp_tmps oi ht, ei]
      · rw [ht, wi]
  · have hj0 : cl.getD j 2 = 0 := by
      rcases hcl with ((hcl | hcl) | hcl) | ⟨hcl, _⟩
      · exact absurd hcl hc0
      · exact hcl
      · exact absurd hcl hc3
      · exact absurd hcl hc1
    have hj1 : cl.getD j 2 ≠ 1 := by rw [hj0]; decide
    obtain ⟨a1, v1, w1, ⟨S1, hm1, hS1, h2⟩, ht1⟩ := wp_outcome hNB h1
    rcases stepD_cases hj h2 with ⟨u, hz, h3⟩ | ⟨_, hc, _⟩
    · have hz' : YvD P ops cl j oj S a w u := (hz.back hj0 hm1 w).same (by rw [execOp_tmps oj ht1, ej]) (by rw [ht1, wj])
      refine stepD_of_Y hj hz' (stepD_of_E hi ⟨by rw [wi]; exact hw, hc0, hc1, hc3, wp_put hNB hsi ha3 ha2 ?_⟩)
      refine Oper.wp_mono (fun a' w' h4 => ?_) (wp_shape h1)
      obtain ⟨⟨S', hm, hS', h4⟩, v, ht⟩ := h4
      refine ⟨S', hm, hS', ?_⟩
      rcases stepD_cases hj h4 with ⟨u', hz2, h5⟩ | ⟨_, hc, _⟩
      · have := YvD.det hS' hz2 ((hz'.world hj1 hm w').same (by rw [execOp_tmps oj ht, ej]) (by rw [ht, wj]))
        subst this; exact h5
      · exact absurd hj0 hc
    · exact absurd hj0 hc

/-- The check. -/
def textD (cl : List Nat) (ops : List Oper) : Bool :=
  let b := bitsFrom [] ops
  (ops.all fun o => match o.op with | .select .. => false | _ => true) &&
  (List.range ops.length).all fun j => ((ops[j]?).map fun o => o.after.toList.all (fun e => !Region.binds .any e || decide (e.on < j))).getD true &&
    (List.range j).all fun i => (b.getD j 0).testBit i || pairD ops.toArray cl i j

/-- Whatever order is picked; behind the first K all that is known is let go. -/
def wpYD (P : Program) (ops : Array Oper) (Q : Exit → Act → World → Prop) (cl : List Nat) (K : Nat) : Nat → Array Bool → Kn → Act → World → Prop
  | 0, listed, _, a, w => Region.ready .any ops listed = [] ∧ Q .normal a w
  | fuel + 1, listed, S, a, w =>
    if allK K listed = true then wpXD P .any ops Q cl (fuel + 1) listed AnyK a w
    else (Region.ready .any ops listed = [] → Q .normal a w) ∧ ∀ i ∈ Region.ready .any ops listed, stepD P ops Q cl i (wpYD P ops Q cl K fuel (listed.setIfInBounds i true)) S a w

theorem wpAny_of_YD {K : Nat} : ∀ (fuel : Nat) (listed : Array Bool) (S : Kn) (a : Act) (w : World), S.c w → wpYD P ops Q cl K fuel listed S a w → wpAny P .any ops Q fuel listed a w
  | 0, _, _, _, _, _, h => h
  | fuel + 1, listed, S, a, w, hS, h => by
    rw [wpYD] at h
    split at h
    · exact wpAny_of_XD _ _ AnyK _ _ trivial h
    · exact ⟨h.1, fun i hi => wpOp_mono (fun a' w' ⟨S', g1, g2⟩ => wpAny_of_YD fuel _ S' a' w' g1 g2) (wpOp_of_stepD hS (h.2 i hi))⟩

/-- **One that may come up now may be taken first.** -/
theorem wpXD_first {l : List Oper} {i : Nat} {oi : Oper} (hi : l[i]? = some oi) (hsel : ∀ (j : Nat) (o : Oper) cs b, l[j]? = some o → o.op ≠ .select cs b)
    (hb : ∀ j o, l[j]? = some o → ∀ e ∈ o.after, Region.binds .any e = true → e.on < j) (hNB : NoBad Q) :
    ∀ (fuel : Nat) (listed : Array Bool) (S : Kn) (a : Act) (w : World), Closed l.toArray listed →
      (∀ j oj, l[j]? = some oj → j ≠ i → listed.getD j true = false → ((bitsFrom [] l).getD j 0).testBit i = false → pairD l.toArray cl i j = true) →
      i ∈ Region.ready .any l.toArray listed → S.c w →
      stepD P l.toArray Q cl i (wpXD P .any l.toArray Q cl fuel (listed.setIfInBounds i true)) S a w → wpXD P .any l.toArray Q cl (fuel + 1) listed S a w := by
  intro fuel
  induction fuel with
  | zero =>
    intro listed S a w _ _ hr hS H
    refine ⟨fun h => (by rw [h] at hr; cases hr), fun j hj => ?_⟩
    by_cases hji : j = i
    · subst hji; exact H
    · exfalso
      have h2 := ready_mono hj hji
      have key : ∀ (S : Kn) a w, S.c w → wpXD P .any l.toArray Q cl 0 (listed.setIfInBounds i true) S a w → False := fun S a w _ h => by rw [h.1] at h2; cases h2
      rcases stepD_cases (by simpa using hi) H with ⟨v, _, h⟩ | ⟨_, _, _, _, h⟩
      · exact key _ _ _ hS h
      · obtain ⟨a', v, w', ⟨S', _, hS', h⟩, _⟩ := wp_outcome hNB h; exact key _ _ _ hS' h
  | succ fuel ih =>
    intro listed S a w hcl hfree hr hS H
    refine ⟨fun h => (by rw [h] at hr; cases hr), fun j hj => ?_⟩
    by_cases hji : j = i
    · subst hji; exact H
    · obtain ⟨hjun, oj, hoj, hall⟩ := mem_ready.1 hj
      have hoj' : l[j]? = some oj := by simpa using hoj
      have hiun := (mem_ready.1 hr).1
      have hnb : ((bitsFrom [] l).getD j 0).testBit i = false := by
        cases hx : ((bitsFrom [] l).getD j 0).testBit i with
        | false => rfl
        | true =>
          have := hcl.bits hb (j + 1) j oj (by omega) hoj' hall i hx
          rw [getD_tf hiun] at this; cases this
      have h1 : stepD P l.toArray Q cl i (fun S a' w' => stepD P l.toArray Q cl j (wpXD P .any l.toArray Q cl fuel ((listed.setIfInBounds i true).setIfInBounds j true)) S a' w') S a w :=
        stepD_mono hS (fun S a w _ h => h.2 j (ready_mono hj hji)) H
      have h2 := swapD (by simpa using hi) hoj (hfree j oj hoj' hji hjun hnb) hNB (fun cs b => hsel i oi cs b hi) (fun cs b => hsel j oj cs b hoj') h1
      refine stepD_mono hS (fun S' a' w' hS' h3 => ih (listed.setIfInBounds j true) S' a' w' (hcl.set hj) (fun k ok hk hki hun hno => ?_) (ready_mono hr (Ne.symm hji)) hS' ?_) h2
      · refine hfree k ok hk hki ?_ hno
        by_cases hjk : j = k
        · subst hjk; exact hjun
        · rw [getD_set_ne true hjk] at hun; exact hun
      · rw [Array.setIfInBounds_comm _ _ hji]
        exact h3

theorem wpYD_first {K : Nat} {l : List Oper} {i : Nat} {oi : Oper} (hi : l[i]? = some oi) (hiK : i < K) (hsel : ∀ (j : Nat) (o : Oper) cs b, l[j]? = some o → o.op ≠ .select cs b)
    (hb : ∀ j o, l[j]? = some o → ∀ e ∈ o.after, Region.binds .any e = true → e.on < j) (hNB : NoBad Q)
    (hsp : ∀ j, j < l.length → K ≤ j → ((bitsFrom [] l).getD j 0).testBit i = true) :
    ∀ (fuel : Nat) (listed : Array Bool) (S : Kn) (a : Act) (w : World), Closed l.toArray listed →
      (∀ j oj, l[j]? = some oj → j ≠ i → listed.getD j true = false → ((bitsFrom [] l).getD j 0).testBit i = false → pairD l.toArray cl i j = true) →
      i ∈ Region.ready .any l.toArray listed → S.c w →
      stepD P l.toArray Q cl i (wpYD P l.toArray Q cl K fuel (listed.setIfInBounds i true)) S a w → wpYD P l.toArray Q cl K (fuel + 1) listed S a w := by
  have hjK : ∀ (listed : Array Bool) (j : Nat), Closed l.toArray listed → i ∈ Region.ready .any l.toArray listed → j ∈ Region.ready .any l.toArray listed → j < K ∧ ((bitsFrom [] l).getD j 0).testBit i = false := by
    intro listed j hcl hr hj
    obtain ⟨hjun, oj, hoj, hall⟩ := mem_ready.1 hj
    have hoj' : l[j]? = some oj := by simpa using hoj
    have hiun := (mem_ready.1 hr).1
    have hnb : ((bitsFrom [] l).getD j 0).testBit i = false := by
      cases hx : ((bitsFrom [] l).getD j 0).testBit i with
      | false => rfl
      | true =>
        have := hcl.bits hb (j + 1) j oj (by omega) hoj' hall i hx
        rw [getD_tf hiun] at this; cases this
    refine ⟨?_, hnb⟩
    rcases Nat.lt_or_ge j K with h | h
    · exact h
    · have := hsp j (List.getElem?_eq_some_iff.1 hoj').1 h
      rw [this] at hnb; cases hnb
  intro fuel
  induction fuel with
  | zero =>
    intro listed S a w hcl _ hr hS H
    rw [wpYD, if_neg (by rw [allK_false hiK (mem_ready.1 hr).1]; decide)]
    refine ⟨fun h => (by rw [h] at hr; cases hr), fun j hj => ?_⟩
    by_cases hji : j = i
    · subst hji; exact H
    · exfalso
      have h2 := ready_mono hj hji
      have key : ∀ (S : Kn) a w, S.c w → wpYD P l.toArray Q cl K 0 (listed.setIfInBounds i true) S a w → False := fun S a w _ h => by rw [wpYD] at h; rw [h.1] at h2; cases h2
      rcases stepD_cases (by simpa using hi) H with ⟨v, _, h⟩ | ⟨_, _, _, _, h⟩
      · exact key _ _ _ hS h
      · obtain ⟨a', v, w', ⟨S', _, hS', h⟩, _⟩ := wp_outcome hNB h; exact key _ _ _ hS' h
  | succ fuel ih =>
    intro listed S a w hcl hfree hr hS H
    rw [wpYD, if_neg (by rw [allK_false hiK (mem_ready.1 hr).1]; decide)]
    refine ⟨fun h => (by rw [h] at hr; cases hr), fun j hj => ?_⟩
    by_cases hji : j = i
    · subst hji; exact H
    · obtain ⟨hjun, oj, hoj, hall⟩ := mem_ready.1 hj
      have hoj' : l[j]? = some oj := by simpa using hoj
      obtain ⟨hjlt, hnb⟩ := hjK listed j hcl hr hj
      have hjun2 : (listed.setIfInBounds i true).getD j true = false := by rw [getD_set_ne true (Ne.symm hji)]; exact hjun
      have h1 : stepD P l.toArray Q cl i (fun S a' w' => stepD P l.toArray Q cl j (wpYD P l.toArray Q cl K fuel ((listed.setIfInBounds i true).setIfInBounds j true)) S a' w') S a w :=
        stepD_mono hS (fun S a w _ h => by
          rw [wpYD, if_neg (by rw [allK_false hjlt hjun2]; decide)] at h
          exact h.2 j (ready_mono hj hji)) H
      have h2 := swapD (by simpa using hi) hoj (hfree j oj hoj' hji hjun hnb) hNB (fun cs b => hsel i oi cs b hi) (fun cs b => hsel j oj cs b hoj') h1
      refine stepD_mono hS (fun S' a' w' hS' h3 => ih (listed.setIfInBounds j true) S' a' w' (hcl.set hj) (fun k ok hk hki hun hno => ?_) (ready_mono hr (Ne.symm hji)) hS' ?_) h2
      · refine hfree k ok hk hki ?_ hno
        by_cases hjk : j = k
        · subst hjk; exact hjun
        · rw [getD_set_ne true hjk] at hun; exact hun
      · rw [Array.setIfInBounds_comm _ _ hji]
        exact h3

/-- THE WALK IN THE TEXT's ORDER. -/
def wpD (P : Program) (ops : Array Oper) (Q : Exit → Act → World → Prop) : Kn → List Nat → List Oper → Act → World → Prop
  | _, _, [], a, w => Q .normal a w
  | S, cs, o :: rest, a, w =>
    if Region.wanted o (yielded ops a.tmps) = true then
      match cs.headD 2 with
      | 0 => ∃ v, (∀ w', S.z w' → (execOp a.eval o).run P w' = .ok (.value v) w') ∧ wpD P ops Q S cs.tail rest (a.put o.dst v) w
      | 1 => ∃ v, (execOp a.eval o).run P w = .ok (.value v) w ∧ wpD P ops Q S cs.tail rest (a.put o.dst v) w
      | 3 => ∃ v, (∀ w', S.c w' → (execOp a.eval o).run P w' = .ok (.value v) w') ∧ wpD P ops Q S cs.tail rest (a.put o.dst v) w
      | _ => o.wp P a w (fun a' w' => ∃ S', Kn.more S' S ∧ S'.c w' ∧ wpD P ops Q S' cs.tail rest a' w') Q
    else wpD P ops Q S cs.tail rest (a.put o.dst undef) w

/-- One step of it. -/
theorem stepD_of_T {l : List Oper} {k : Nat} {o : Oper} {rest : List Oper} {K : Kn → Act → World → Prop} {cs : List Nat} {a : Act} {w : World} {Q' : Exit → Act → World → Prop} (hok : l[k]? = some o) (hc0 : cs.headD 2 = cl.getD k 2)
    (hp : ∀ c a w, Q' (.panic c) a w → Q (.panic c) a w) (ho : LetsOut Q' → LetsOut Q) (hS : S.c w)
    (h : wpD P l.toArray Q' S cs (o :: rest) a w) (hK : ∀ (S : Kn) a w, S.c w → wpD P l.toArray Q' S cs.tail rest a w → K S a w) : stepD P l.toArray Q cl k K S a w := by
  rw [wpD] at h
  have hok' : l.toArray[k]? = some o := by simpa using hok
  split at h
  · rename_i hw
    rw [hc0] at h
    split at h
    · rename_i hc; obtain ⟨v, h1, h2⟩ := h; exact stepD_of_Y hok' (.inr (.inl ⟨hw, hc, h1⟩)) (hK _ _ _ hS h2)
    · rename_i hc; obtain ⟨v, h1, h2⟩ := h; exact stepD_of_Y hok' (.inr (.inr (.inl ⟨hw, hc, h1⟩))) (hK _ _ _ hS h2)
    · rename_i hc; obtain ⟨v, h1, h2⟩ := h; exact stepD_of_Y hok' (.inr (.inr (.inr ⟨hw, hc, h1⟩))) (hK _ _ _ hS h2)
    · rename_i h0 h1 h3
      exact stepD_of_E hok' ⟨hw, h0, h1, h3, wp_otherQ hp ho (Oper.wp_mono (fun a' w' ⟨S', g1, g2, g3⟩ => ⟨S', g1, g2, hK _ _ _ g2 g3⟩) h)⟩
  · rename_i hw
    exact stepD_of_Y hok' (.inl ⟨by simpa using hw, rfl⟩) (hK _ _ _ hS h)

theorem wpXD_of_T {l : List Oper} (hsel : ∀ (j : Nat) (o : Oper) cs b, l[j]? = some o → o.op ≠ .select cs b)
    (hb : ∀ j o, l[j]? = some o → ∀ e ∈ o.after, Region.binds .any e = true → e.on < j) (hNB : NoBad Q)
    (hp : ∀ j, j < l.length → ∀ i, i < j → ((bitsFrom [] l).getD j 0).testBit i = false → pairD l.toArray cl i j = true) :
    ∀ (m k : Nat) (cs : List Nat) (S : Kn) (a : Act) (w : World), k + m = l.length → (∀ j, cs.getD j 2 = cl.getD (k + j) 2) → S.c w → wpD P l.toArray Q S cs (l.drop k) a w →
      wpXD P .any l.toArray Q cl m (firstK l.length k) S a w := by
  intro m
  induction m with
  | zero =>
    intro k cs S a w hk _ _ h
    rw [List.drop_eq_nil_of_le (by omega)] at h
    refine ⟨?_, by rw [wpD] at h; exact h⟩
    apply List.eq_nil_iff_forall_not_mem.2
    intro j hj
    obtain ⟨h1, o, ho, _⟩ := mem_ready.1 hj
    have hlt : j < l.length := by simpa using (Array.getElem?_eq_some_iff.1 ho).1
    rw [firstK_getD hlt] at h1
    simp at h1
    omega
  | succ m ih =>
    intro k cs S a w hk hcs hS h
    have hlt : k < l.length := by omega
    have hok : l[k]? = some l[k] := List.getElem?_eq_getElem hlt
    rw [List.drop_eq_getElem_cons hlt] at h
    have hcs' : ∀ j, cs.tail.getD j 2 = cl.getD (k + 1 + j) 2 := fun j => by
      have := hcs (j + 1)
      rw [show k + 1 + j = k + (j + 1) from by omega, ← this]
      cases cs <;> simp
    have hc0 : cs.headD 2 = cl.getD k 2 := by
      have := hcs 0
      cases cs <;> simpa using this
    obtain ⟨hready, hclosed⟩ := firstK_ready hb hlt
    refine wpXD_first hok hsel hb hNB m _ S a w hclosed (fun j oj hj hne hun hno => ?_) hready hS ?_
    · have hjl : j < l.length := (List.getElem?_eq_some_iff.1 hj).1
      rw [firstK_getD hjl] at hun
      simp at hun
      exact hp j hjl k (by omega) hno
    · rw [firstK_set]
      exact stepD_of_T hok hc0 (fun _ _ _ h => h) (fun h => h) hS h (fun S' a' w' hS' h' => ih (k + 1) cs.tail S' a' w' (by omega) hcs' hS' h')

theorem wpYD_of_T {l1 l2 : List Oper} (hsel : ∀ (j : Nat) (o : Oper) cs b, (l1 ++ l2)[j]? = some o → o.op ≠ .select cs b)
    (hb : ∀ j o, (l1 ++ l2)[j]? = some o → ∀ e ∈ o.after, Region.binds .any e = true → e.on < j) (hNB : NoBad Q)
    (hp : ∀ j, j < (l1 ++ l2).length → ∀ i, i < j → ((bitsFrom [] (l1 ++ l2)).getD j 0).testBit i = false → pairD (l1 ++ l2).toArray cl i j = true)
    (hsp : ∀ j, j < (l1 ++ l2).length → l1.length ≤ j → ∀ i, i < l1.length → ((bitsFrom [] (l1 ++ l2)).getD j 0).testBit i = true) (hcl : cl.length ≤ l1.length) :
    ∀ (m k : Nat) (cs : List Nat) (S : Kn) (a : Act) (w : World), k + m = l1.length → (∀ j, cs.getD j 2 = cl.getD (k + j) 2) → S.c w →
      wpD P (l1 ++ l2).toArray (Exit.then (fun a w => wpD P (l1 ++ l2).toArray Q AnyK [] l2 a w) Q) S cs (l1.drop k) a w →
      wpYD P (l1 ++ l2).toArray Q cl l1.length (m + l2.length) (firstK (l1 ++ l2).length k) S a w := by
  intro m
  induction m with
  | zero =>
    intro k cs S a w hk _ _ h
    have hk' : k = l1.length := by omega
    subst hk'
    rw [List.drop_eq_nil_of_le (Nat.le_refl _), wpD] at h
    have h' : wpD P (l1 ++ l2).toArray Q AnyK [] l2 a w := h
    have hX := wpXD_of_T (P := P) (Q := Q) (cl := cl) (l := l1 ++ l2) hsel hb hNB hp l2.length l1.length [] AnyK a w (by simp) (fun j => by
      rw [List.getD_eq_getElem?_getD, List.getD_eq_getElem?_getD, List.getElem?_eq_none (by simp), List.getElem?_eq_none (by omega)]) trivial (by simpa using h')
    have hall : allK l1.length (firstK (l1 ++ l2).length l1.length) = true := by
      unfold allK
      rw [List.all_eq_true]
      intro i hi
      have hi' := List.mem_range.1 hi
      rw [firstK_getD (by simp; omega)]; simpa using hi'
    rw [Nat.zero_add]
    cases hl : l2.length with
    | zero => rw [hl] at hX; rw [wpYD]; exact hX
    | succ q => rw [hl] at hX; rw [wpYD, if_pos hall]; exact hX
  | succ m ih =>
    intro k cs S a w hk hcs hS h
    have hlt1 : k < l1.length := by omega
    have hlt : k < (l1 ++ l2).length := by simp; omega
    have hok : (l1 ++ l2)[k]? = some l1[k] := by rw [List.getElem?_append_left hlt1]; exact List.getElem?_eq_getElem hlt1
    rw [List.drop_eq_getElem_cons hlt1] at h
    have hcs' : ∀ j, cs.tail.getD j 2 = cl.getD (k + 1 + j) 2 := fun j => by
      have := hcs (j + 1)
      rw [show k + 1 + j = k + (j + 1) from by omega, ← this]
      cases cs <;> simp
    have hc0 : cs.headD 2 = cl.getD k 2 := by
      have := hcs 0
      cases cs <;> simpa using this
    obtain ⟨hready, hclosed⟩ := firstK_ready hb hlt
    rw [show m + 1 + l2.length = (m + l2.length) + 1 by omega]
    refine wpYD_first hok hlt1 hsel hb hNB (fun j hj hKj => hsp j hj hKj k hlt1) _ _ S a w hclosed (fun j oj hj hne hun hno => ?_) hready hS ?_
    · have hjl : j < (l1 ++ l2).length := (List.getElem?_eq_some_iff.1 hj).1
      rw [firstK_getD hjl] at hun
      simp at hun
      exact hp j hjl k (by omega) hno
    · rw [firstK_set]
      exact stepD_of_T (Q' := Exit.then (fun a w => wpD P (l1 ++ l2).toArray Q AnyK [] l2 a w) Q) hok hc0 (fun _ _ _ h => h) (fun ⟨a, w, h⟩ => ⟨a, w, h⟩) hS h (fun S' a' w' hS' h' => ih (k + 1) cs.tail S' a' w' (by omega) hcs' hS' h')

theorem textD_spec {cl : List Nat} {l : List Oper} (hB : textD cl l = true) : (∀ (j : Nat) (o : Oper) cs b, l[j]? = some o → o.op ≠ .select cs b) ∧
    (∀ j o, l[j]? = some o → ∀ e ∈ o.after, Region.binds .any e = true → e.on < j) ∧
    (∀ j, j < l.length → ∀ i, i < j → ((bitsFrom [] l).getD j 0).testBit i = false → pairD l.toArray cl i j = true) := by
  simp only [textD, Bool.and_eq_true, List.all_eq_true, List.mem_range] at hB
  obtain ⟨hsel, hB⟩ := hB
  refine ⟨fun j o cs b ho he => ?_, fun j o ho e he hbd => ?_, fun j hj i hi hn => ?_⟩
  · have := hsel o (List.mem_of_getElem? ho)
    simp [he] at this
  · have := (hB j (List.getElem?_eq_some_iff.1 ho).1).1
    simp only [ho, Option.map_some, Option.getD_some, List.all_eq_true] at this
    have := this e (by simpa using he)
    simpa [hbd] using this
  · have := (hB j hj).2 i hi
    rw [hn] at this
    simpa using this

/-- **ONE WALK SERVES EVERY ORDER.** -/
theorem wpD_region {id : Nat} {a : Act} {w : World} {l : List Oper} (cl : List Nat) (R : World → Prop) (hm : P.follows .mixedOrders = true) (hB : textD cl l = true)
    (hS : R w.drew) (h : wpD P l.toArray (Exit.then (Q .normal) (fun _ _ _ => False)) (kn R) cl l a w.drew) : (Code.region id l.toArray true).wp P Q a w := by
  refine Code.wp_mono (Q := Exit.then (Q .normal) (fun _ _ _ => False)) (fun e a w h => by cases e <;> first | exact h | exact h.elim) ?_
  obtain ⟨hsel, hb, hp⟩ := textD_spec hB
  refine wp_region_any hm (wpAny_of_XD (cl := cl) _ _ (kn R) _ _ hS ?_)
  have := wpXD_of_T (P := P) (Q := Exit.then (Q .normal) (fun _ _ _ => False)) (cl := cl) hsel hb noBad_thru hp l.length 0 cl (kn R) a w.drew (by omega) (fun j => by simp) hS (by simpa using h)
  have e0 : firstK l.length 0 = Array.replicate l.toArray.size false := by
    apply Array.ext
    · simp [firstK]
    · intro j h1 h2; simp [firstK]
  rw [e0] at this
  simpa using this

/-- **ONE WALK SERVES EVERY ORDER**, in two parts. -/
theorem wpD_split {id : Nat} {a : Act} {w : World} {l1 l2 : List Oper} (cl : List Nat) (R : World → Prop) (hm : P.follows .mixedOrders = true) (hB : textD cl (l1 ++ l2) = true) (hK : splitB l1.length (l1 ++ l2) = true) (hcl : cl.length ≤ l1.length)
    (hS : R w.drew) (h : wpD P (l1 ++ l2).toArray (Exit.then (fun a w => wpD P (l1 ++ l2).toArray (Exit.then (Q .normal) (fun _ _ _ => False)) AnyK [] l2 a w) (fun _ _ _ => False)) (kn R) cl l1 a w.drew) : (Code.region id (l1 ++ l2).toArray true).wp P Q a w := by
  refine Code.wp_mono (Q := Exit.then (Q .normal) (fun _ _ _ => False)) (fun e a w h => by cases e <;> first | exact h | exact h.elim) ?_
  obtain ⟨hsel, hb, hp⟩ := textD_spec hB
  have hsp : ∀ j, j < (l1 ++ l2).length → l1.length ≤ j → ∀ i, i < l1.length → ((bitsFrom [] (l1 ++ l2)).getD j 0).testBit i = true := fun j hj hk i hi => by
    unfold splitB at hK
    simp only [List.all_eq_true, List.mem_range] at hK
    have := hK j hj
    simp only [Bool.or_eq_true, decide_eq_true_eq, List.all_eq_true, List.mem_range] at this
    rcases this with h | h
    · omega
    · exact h i hi
  have hY := wpYD_of_T (P := P) (Q := Exit.then (Q .normal) (fun _ _ _ => False)) (cl := cl) hsel hb noBad_dq hp hsp hcl l1.length 0 cl (kn R) a w.drew (by omega) (fun j => by simp) hS (by
    rw [List.drop_zero]
    have e : ∀ X : Act → World → Prop, Exit.then X (Exit.then (Q .normal) (fun _ _ _ => False)) = Exit.then X (fun _ _ _ => False) := fun X => by funext e a w; cases e <;> rfl
    rw [e]
    exact h)
  refine wp_region_any hm ?_
  have e0 : firstK (l1 ++ l2).length 0 = Array.replicate (l1 ++ l2).toArray.size false := by
    apply Array.ext
    · simp [firstK]
    · intro j h1 h2; simp [firstK]
  rw [e0] at hY
  have hsz : (l1 ++ l2).toArray.size = l1.length + l2.length := by simp
  rw [hsz]
  rw [hsz] at hY
  exact wpAny_of_YD _ _ (kn R) _ _ hS hY
theorem wpD_nil {cs : List Nat} {a : Act} {w : World} (h : Q .normal a w) : wpD P ops Q S cs [] a w := by rw [wpD]; exact h
end
attribute [irreducible] wpD
end Go.Fp
