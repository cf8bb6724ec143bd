/- REGIONS THAT DRAW THEIR ORDER: one walk, in the text's order, serves every order: a class for each operation is given; a check of the region's text says that operations that may change places don't touch what the other needs. -/
import Derived.Orders
import Derived.OrdersHeld
import Derived.Tactics
namespace Go.Fp
open Go

/-- No panic, no way out of room, may be behind Q. -/
def NoBad (Q : Exit → Act → World → Prop) : Prop := (∀ c a w, ¬ Q (.panic c) a w) ∧ (∀ a w, ¬ Q .outgrown a w)

theorem noBad_body {P : Program} {fn : Func} {R : Ending → World → Prop} (h : ∀ e w, R e w → ∃ v, e = .returned v) : NoBad (bodyPost P fn R) :=
  ⟨fun c a w hq => (by obtain ⟨v, hv⟩ := h _ _ hq.2; cases hv), fun a w hq => (by obtain ⟨v, hv⟩ := h _ _ hq; cases hv)⟩

section
variable {P : Program} {ops : Array Oper} {Q : Exit → Act → World → Prop} {md : Region.Mode} {S : World → Prop} {cl : List Nat}

/-- Operation i comes up. Class 0: it yields one value in every world that meets S; 1: it yields a value in this world, and leaves it; else: as it is, and S holds behind it. -/
def stepX (P : Program) (ops : Array Oper) (Q : Exit → Act → World → Prop) (S : World → Prop) (cl : List Nat) (i : Nat) (K : Act → World → Prop) (a : Act) (w : World) : Prop :=
  match ops[i]? with
  | none => K a w
  | some o =>
    if Region.wanted o (yielded ops a.tmps) = true then
      match cl.getD i 2 with
      | 0 => ∃ v, (∀ w', S w' → (execOp a.eval o).run P w' = .ok (.value v) w') ∧ K (a.put o.dst v) w
      | 1 => ∃ v, (execOp a.eval o).run P w = .ok (.value v) w ∧ K (a.put o.dst v) w
      | _ => o.wp P a w (fun a' w' => S w' ∧ K a' w') Q
    else K (a.put o.dst undef) w

theorem stepX_mono {i : Nat} {a : Act} {w : World} {K K' : Act → World → Prop} (hS : S w) (h : ∀ a w, S w → K a w → K' a w)
    (hh : stepX P ops Q S cl i K a w) : stepX P ops Q S cl i K' a w := by
  unfold stepX at *
  cases ho : ops[i]? with
  | none => simp only [ho] at hh ⊢; exact h _ _ hS hh
  | some o =>
    simp only [ho] at hh ⊢
    split
    · rename_i hw
      rw [if_pos hw] at hh
      split
      · rename_i hc; simp only [hc] at hh; obtain ⟨v, h1, h2⟩ := hh; exact ⟨v, h1, h _ _ hS h2⟩
      · rename_i hc; simp only [hc] at hh; obtain ⟨v, h1, h2⟩ := hh; exact ⟨v, h1, h _ _ hS h2⟩
      · rename_i hc0 hc1
        split at hh
        · rename_i hc; exact absurd hc hc0
        · rename_i hc; exact absurd hc hc1
        · exact Oper.wp_mono (fun a' w' h' => ⟨h'.1, h _ _ h'.1 h'.2⟩) hh
    · rename_i hw; rw [if_neg hw] at hh; exact h _ _ hS hh

theorem wpOp_of_stepX {i : Nat} {a : Act} {w : World} {K : Act → World → Prop} (hS : S w) (hh : stepX P ops Q S cl i K a w) :
    wpOp P ops Q i (fun a' w' => S w' ∧ K a' w') a w := by
  unfold stepX at hh
  unfold wpOp
  cases ho : ops[i]? with
  | none => simp only [ho] at hh ⊢; exact ⟨hS, hh⟩
  | some o =>
    simp only [ho] at hh ⊢
    split
    · rename_i hw
      rw [if_pos hw] at hh
      refine .inl ?_
      split at hh
      · obtain ⟨v, h1, h2⟩ := hh
        unfold Oper.wp; rw [h1 w hS]; exact ⟨hS, h2⟩
      · obtain ⟨v, h1, h2⟩ := hh
        unfold Oper.wp; rw [h1]; exact ⟨hS, h2⟩
      · exact hh
    · rename_i hw; rw [if_neg hw] at hh; exact ⟨hS, hh⟩

/-- Whatever order is picked from here on. -/
def wpX (P : Program) (md : Region.Mode) (ops : Array Oper) (Q : Exit → Act → World → Prop) (S : World → Prop) (cl : List Nat) : Nat → Array Bool → Act → World → Prop
  | 0, listed, a, w => Region.ready md ops listed = [] ∧ Q .normal a w
  | fuel + 1, listed, a, w =>
    (Region.ready md ops listed = [] → Q .normal a w) ∧
    ∀ i ∈ Region.ready md ops listed, stepX P ops Q S cl i (wpX P md ops Q S cl fuel (listed.setIfInBounds i true)) a w

theorem wpAny_of_X : ∀ (fuel : Nat) (listed : Array Bool) (a : Act) (w : World), S w → wpX P md ops Q S cl fuel listed a w → wpAny P md ops Q fuel listed a w
  | 0, _, _, _, _, h => h
  | fuel + 1, _, _, _, hS, h => ⟨h.1, fun i hi => wpOp_mono (fun a' w' h' => wpAny_of_X fuel _ a' w' h'.1 h'.2) (wpOp_of_stepX hS (h.2 i hi))⟩

theorem eval_of_tmps {a a' : Act} (h : a'.tmps = a.tmps) : a'.eval = a.eval := by
  funext x; cases x <;> simp [Act.eval, h]

/-- An operation's outcome, where nothing bad may come: some state and world of which K holds. -/
theorem wp_outcome {o : Oper} {a : Act} {w : World} {K : Act → World → Prop} (hNB : NoBad Q) (h : o.wp P a w K Q) :
    ∃ a' v w', K a' w' ∧ a'.tmps = (a.put o.dst v).tmps := by
  unfold Oper.wp at h
  generalize (execOp a.eval o).run P w = r at h
  cases r with
  | ok n w1 =>
    cases n <;> simp only [Oper.upon] at h
    case value u => exact ⟨_, u, _, h, rfl⟩
    case skip => exact ⟨_, undef, _, h, rfl⟩
    case defer d => exact ⟨_, undef, _, h, by cases o.dst <;> rfl⟩
    case enter f args =>
      obtain ⟨e, w', fr, hR, _⟩ := h []
      cases e with
      | returned v => exact ⟨_, v, _, hR, rfl⟩
      | panicked c => exact absurd hR (hNB.1 _ _ _)
      | outgrown => obtain ⟨a', w'', hq⟩ := hR; exact absurd hq (hNB.2 _ _)
    case row row args =>
      obtain ⟨v, w', hR, _⟩ := h default []
      exact ⟨_, v, _, hR, rfl⟩
  | halt x w1 =>
    cases x <;> simp only [Oper.upon] at h
    case panic u => exact absurd h (hNB.1 _ _ _)

/-- What is put into a temporary that the operation doesn't look at may be put ahead of it. -/
theorem wp_put {o : Oper} {a : Act} {w : World} {K : Act → World → Prop} {d : Option Tmp} {u : Value} (hNB : NoBad Q) (hs : ∀ cs b, o.op ≠ .select cs b)
    (h1 : ∀ t, d = some t → t ∉ o.looksAt ops) (h2 : ∀ t, o.dst = some t → d ≠ some t)
    (h : o.wp P a w (fun a' w' => K (a'.put d u) w') Q) : o.wp P (a.put d u) w K Q := by
  unfold Oper.wp at *
  rw [execOp_put o hs a d u h1]
  generalize (execOp a.eval o).run P w = r at *
  cases r with
  | ok n w1 =>
    cases n <;> simp only [Oper.upon] at h ⊢
    case value v => rw [← Act.put_comm a v u h2]; exact h
    case skip => rw [← Act.put_comm a undef u h2]; exact h
    case defer e =>
      rw [Act.put_defers, ← Act.put_comm _ undef u h2]; exact h
    case enter f args =>
      refine Calls.mono h fun e w'' he => ?_
      cases e with
      | returned v => simp only at he ⊢; rw [← Act.put_comm a v u h2]; exact he
      | panicked c => exact absurd he (hNB.1 _ _ _)
      | outgrown => exact he
    case row row args => exact Rows.mono h fun v w'' he => (by rw [← Act.put_comm a v u h2]; exact he)
  | halt x w1 =>
    cases x <;> simp only [Oper.upon] at h ⊢
    case panic v => exact absurd h (hNB.1 _ _ _)

theorem wp_unput {o : Oper} {a : Act} {w : World} {K : Act → World → Prop} {d : Option Tmp} {u : Value} (hNB : NoBad Q) (hs : ∀ cs b, o.op ≠ .select cs b)
    (h1 : ∀ t, d = some t → t ∉ o.looksAt ops) (h2 : ∀ t, o.dst = some t → d ≠ some t)
    (h : o.wp P (a.put d u) w K Q) : o.wp P a w (fun a' w' => K (a'.put d u) w') Q := by
  unfold Oper.wp at *
  rw [execOp_put o hs a d u h1] at h
  generalize (execOp a.eval o).run P w = r at *
  cases r with
  | ok n w1 =>
    cases n <;> simp only [Oper.upon] at h ⊢
    case value v => rw [Act.put_comm a v u h2]; exact h
    case skip => rw [Act.put_comm a undef u h2]; exact h
    case defer e =>
      rw [Act.put_defers] at h; rw [Act.put_comm _ undef u h2]; exact h
    case enter f args =>
      refine Calls.mono h fun e w'' he => ?_
      cases e with
      | returned v => simp only at he ⊢; rw [Act.put_comm a v u h2]; exact he
      | panicked c => exact absurd he (hNB.1 _ _ _)
      | outgrown => exact he
    case row row args => exact Rows.mono h fun v w'' he => (by rw [Act.put_comm a v u h2]; exact he)
  | halt x w1 =>
    cases x <;> simp only [Oper.upon] at h ⊢
    case panic v => exact absurd h (hNB.1 _ _ _)

theorem execOp_tmps (o : Oper) {a a' : Act} (h : a'.tmps = a.tmps) : execOp a'.eval o = execOp a.eval o := by rw [eval_of_tmps h]

/-- Two operations that may change places. -/
def pairOk (ops : Array Oper) (cl : List Nat) (i j : Nat) : Bool :=
  match ops[i]?, ops[j]? with
  | some oi, some oj => oi.apart ops oj && oj.apart ops oi && (cl.getD i 2 == 0 || cl.getD j 2 == 0 || (cl.getD i 2 == 1 && cl.getD j 2 == 1))
  | _, _ => true

theorem wp_shape {o : Oper} {a : Act} {w : World} {K : Act → World → Prop} (h : o.wp P a w K Q) :
    o.wp P a w (fun a' w' => K a' w' ∧ ∃ v, a'.tmps = (a.put o.dst v).tmps) Q := by
  unfold Oper.wp at *
  generalize (execOp a.eval o).run P w = r at *
  cases r with
  | ok n w1 =>
    cases n <;> simp only [Oper.upon] at h ⊢
    case value v => exact ⟨h, v, rfl⟩
    case skip => exact ⟨h, undef, rfl⟩
    case defer e => exact ⟨h, undef, by cases o.dst <;> rfl⟩
    case enter f args =>
      refine Calls.mono h fun e w'' he => ?_
      cases e with
      | returned v => exact ⟨he, v, rfl⟩
      | panicked c => exact he
      | outgrown => exact he
    case row row args => exact Rows.mono h fun v w'' he => ⟨he, v, rfl⟩
  | halt x w1 => cases x <;> simp only [Oper.upon] at h ⊢; exact h

/-- It yields v and leaves the world. -/
def Yv (P : Program) (ops : Array Oper) (S : World → Prop) (cl : List Nat) (i : Nat) (o : Oper) (a : Act) (w : World) (v : Value) : Prop :=
  (Region.wanted o (yielded ops a.tmps) = false ∧ v = undef) ∨
  (Region.wanted o (yielded ops a.tmps) = true ∧ cl.getD i 2 = 0 ∧ ∀ w', S w' → (execOp a.eval o).run P w' = .ok (.value v) w') ∨
  (Region.wanted o (yielded ops a.tmps) = true ∧ cl.getD i 2 = 1 ∧ (execOp a.eval o).run P w = .ok (.value v) w)

theorem stepX_cases {i : Nat} {o : Oper} {a : Act} {w : World} {K : Act → World → Prop} (ho : ops[i]? = some o) (h : stepX P ops Q S cl i K a w) :
    (∃ v, Yv P ops S cl i o a w v ∧ K (a.put o.dst v) w) ∨
    (Region.wanted o (yielded ops a.tmps) = true ∧ cl.getD i 2 ≠ 0 ∧ cl.getD i 2 ≠ 1 ∧ o.wp P a w (fun a' w' => S w' ∧ K a' w') Q) := by
  unfold stepX at h
  simp only [ho] at h
  split at h
  · rename_i hw
    split at h
    · rename_i hc; obtain ⟨v, h1, h2⟩ := h; exact .inl ⟨v, .inr (.inl ⟨hw, hc, h1⟩), h2⟩
    · rename_i hc; obtain ⟨v, h1, h2⟩ := h; exact .inl ⟨v, .inr (.inr ⟨hw, hc, h1⟩), h2⟩
    · rename_i hc0 hc1; exact .inr ⟨hw, hc0, hc1, h⟩
  · rename_i hw; exact .inl ⟨undef, .inl ⟨by simpa using hw, rfl⟩, h⟩

theorem stepX_of_Yv {i : Nat} {o : Oper} {a : Act} {w : World} {v : Value} {K : Act → World → Prop} (ho : ops[i]? = some o) (h : Yv P ops S cl i o a w v)
    (hK : K (a.put o.dst v) w) : stepX P ops Q S cl i K a w := by
  unfold stepX
  simp only [ho]
  rcases h with ⟨hw, rfl⟩ | ⟨hw, hc, h⟩ | ⟨hw, hc, h⟩
  · rw [if_neg (by simp [hw])]; exact hK
  · rw [if_pos hw, hc]; exact ⟨v, h, hK⟩
  · rw [if_pos hw, hc]; exact ⟨v, h, hK⟩

theorem stepX_of_E {i : Nat} {o : Oper} {a : Act} {w : World} {K : Act → World → Prop} (ho : ops[i]? = some o) (hw : Region.wanted o (yielded ops a.tmps) = true)
    (h0 : cl.getD i 2 ≠ 0) (h1 : cl.getD i 2 ≠ 1) (h : o.wp P a w (fun a' w' => S w' ∧ K a' w') Q) : stepX P ops Q S cl i K a w := by
  unfold stepX
  simp only [ho]
  rw [if_pos hw]
  generalize cl.getD i 2 = c at *
  match c, h0, h1 with
  | 0, h0, _ => exact absurd rfl h0
  | 1, _, h1 => exact absurd rfl h1
  | _ + 2, _, _ => exact h

theorem Yv.same {i : Nat} {o : Oper} {a a' : Act} {w : World} {v : Value} (h : Yv P ops S cl i o a w v) (he : execOp a'.eval o = execOp a.eval o)
    (hw : Region.wanted o (yielded ops a'.tmps) = Region.wanted o (yielded ops a.tmps)) : Yv P ops S cl i o a' w v := by
  unfold Yv at *; rw [he, hw]; exact h

theorem Yv.world {i : Nat} {o : Oper} {a : Act} {w : World} {v : Value} (h : Yv P ops S cl i o a w v) (hc : cl.getD i 2 ≠ 1) (w' : World) : Yv P ops S cl i o a w' v := by
  rcases h with h | h | h
  · exact .inl h
  · exact .inr (.inl h)
  · exact absurd h.2.1 hc

theorem Yv.det {i : Nat} {o : Oper} {a : Act} {w : World} {v u : Value} (hS : S w) (h : Yv P ops S cl i o a w v) (k : Yv P ops S cl i o a w u) : v = u := by
  rcases h with ⟨hw, rfl⟩ | ⟨hw, hc, h⟩ | ⟨hw, hc, h⟩ <;> rcases k with ⟨kw, rfl⟩ | ⟨kw, kc, k⟩ | ⟨kw, kc, k⟩
  · rfl
  · rw [hw] at kw; cases kw
  · rw [hw] at kw; cases kw
  · rw [hw] at kw; cases kw
  · have := (h w hS).symm.trans (k w hS); injection this with this; injection this
  · rw [hc] at kc; cases kc
  · rw [hw] at kw; cases kw
  · rw [hc] at kc; cases kc
  · have := h.symm.trans k; injection this with this; injection this

/-- **They change places.** -/
theorem swapX {i j : Nat} {oi oj : Oper} (hi : ops[i]? = some oi) (hj : ops[j]? = some oj) (hok : pairOk ops cl i j = true) (hNB : NoBad Q)
    (hsi : ∀ cs b, oi.op ≠ .select cs b) (hsj : ∀ cs b, oj.op ≠ .select cs b) {K : Act → World → Prop} {a : Act} {w : World}
    (h : stepX P ops Q S cl i (fun a' w' => stepX P ops Q S cl j K a' w') a w) :
    stepX P ops Q S cl j (fun a' w' => stepX P ops Q S cl i K a' w') a w := by
  simp only [pairOk, hi, hj, Bool.and_eq_true, Bool.or_eq_true, beq_iff_eq] at hok
  obtain ⟨⟨hap1, hap2⟩, hcl⟩ := hok
  obtain ⟨ha1, ha2, ha3⟩ := Oper.apart_spec hap1
  have ei : ∀ (a : Act) (u : Value), execOp (a.put oj.dst u).eval oi = execOp a.eval oi := fun a u => execOp_put oi hsi a oj.dst u ha3
  have ej : ∀ (a : Act) (u : Value), execOp (a.put oi.dst u).eval oj = execOp a.eval oj := fun a u => execOp_put oj hsj a oi.dst u ha1
  have wi : ∀ (a : Act) (u : Value), Region.wanted oi (yielded ops (a.put oj.dst u).tmps) = Region.wanted oi (yielded ops a.tmps) := fun a u => wanted_put oi a oj.dst u ha3
  have wj : ∀ (a : Act) (u : Value), Region.wanted oj (yielded ops (a.put oi.dst u).tmps) = Region.wanted oj (yielded ops a.tmps) := fun a u => wanted_put oj a oi.dst u ha1
  have cm : ∀ (a : Act) (v u : Value), (a.put oi.dst v).put oj.dst u = (a.put oj.dst u).put oi.dst v := fun a v u => Act.put_comm a v u ha2
  have dji : ∀ t, oj.dst = some t → oi.dst ≠ some t := fun t ht hit => ha2 t hit ht
  rcases stepX_cases hi h with ⟨v, hy, h1⟩ | ⟨hw, hc0, hc1, h1⟩
  · rcases stepX_cases hj h1 with ⟨u, hz, h2⟩ | ⟨hw, hc0, hc1, h2⟩
    · refine stepX_of_Yv hj (hz.same (ej _ _).symm (wj _ _).symm) (stepX_of_Yv hi (hy.same (ei _ _) (wi _ _)) ?_)
      rw [← cm]; exact h2
    · have hi0 : cl.getD i 2 ≠ 1 := fun e => by
        rcases hcl with (hcl | hcl) | hcl
        · rw [hcl] at e; cases e
        · exact hc0 hcl
        · exact hc1 hcl.2
      refine stepX_of_E hj (by rw [← wj a v]; exact hw) hc0 hc1 ?_
      refine Oper.wp_mono (fun a' w' h3 => ?_) (wp_shape (wp_unput hNB hsj ha1 dji h2))
      obtain ⟨⟨hS', h3⟩, u, ht⟩ := h3
      refine ⟨hS', stepX_of_Yv hi ((hy.world hi0 w').same ?_ ?_) h3⟩
      · rw [execOp_tmps oi ht, ei]
      · rw [ht, wi]
  · have hj0 : cl.getD j 2 = 0 := by
      rcases hcl with (hcl | hcl) | hcl
      · exact absurd hcl hc0
      · exact hcl
      · exact absurd hcl.1 hc1
    have hj1 : cl.getD j 2 ≠ 1 := by rw [hj0]; decide
    obtain ⟨a1, v1, w1, ⟨hS1, h2⟩, ht1⟩ := wp_outcome hNB h1
    rcases stepX_cases hj h2 with ⟨u, hz, h3⟩ | ⟨_, hc, _⟩
    · have hz' : Yv P ops S cl j oj a w u := (hz.world hj1 w).same (by rw [execOp_tmps oj ht1, ej]) (by rw [ht1, wj])
      refine stepX_of_Yv hj hz' (stepX_of_E hi (by rw [wi]; exact hw) hc0 hc1 (wp_put hNB hsi ha3 ha2 ?_))
      refine Oper.wp_mono (fun a' w' h4 => ?_) (wp_shape h1)
      obtain ⟨⟨hS', h4⟩, v, ht⟩ := h4
      refine ⟨hS', ?_⟩
      rcases stepX_cases hj h4 with ⟨u', hz2, h5⟩ | ⟨_, hc, _⟩
      · have := Yv.det hS' hz2 ((hz'.world hj1 w').same (by rw [execOp_tmps oj ht, ej]) (by rw [ht, wj]))
        subst this; exact h5
      · exact absurd hj0 hc
    · exact absurd hj0 hc

/-- What waits for what, through others too, as bits. -/
def bitsOf (acc : List Nat) (o : Oper) : Nat := o.after.toList.foldl (fun s e => if Region.binds .any e then s ||| 2 ^ e.on ||| acc.getD e.on 0 else s) 0
def bitsFrom (acc : List Nat) : List Oper → List Nat
  | [] => acc
  | o :: l => bitsFrom (acc ++ [bitsOf acc o]) l

theorem bitsOf_spec {acc : List Nat} {t : Nat} (l : List Edge) : ∀ s, (l.foldl (fun s e => if Region.binds .any e then s ||| 2 ^ e.on ||| acc.getD e.on 0 else s) s).testBit t = true →
    s.testBit t = true ∨ ∃ e ∈ l, Region.binds .any e = true ∧ (e.on = t ∨ (acc.getD e.on 0).testBit t = true) := by
  induction l with
  | nil => intro s h; exact .inl h
  | cons e l ih =>
    intro s h
    rcases ih _ h with h | ⟨e', he', h'⟩
    · dsimp only at h
      split at h
      · rename_i hb
        simp only [Nat.testBit_or, Bool.or_eq_true, Nat.testBit_two_pow, decide_eq_true_eq] at h
        rcases h with (h | h) | h
        · exact .inl h
        · exact .inr ⟨e, List.mem_cons_self, hb, .inl h⟩
        · exact .inr ⟨e, List.mem_cons_self, hb, .inr h⟩
      · exact .inl h
    · exact .inr ⟨e', List.mem_cons_of_mem _ he', h'⟩

theorem bitsFrom_prefix : ∀ (l : List Oper) (acc : List Nat) (j : Nat), j < acc.length → (bitsFrom acc l).getD j 0 = acc.getD j 0
  | [], _, _, _ => rfl
  | o :: l, acc, j, h => by
    rw [bitsFrom, bitsFrom_prefix l _ j (by simp; omega)]
    simp [List.getD_eq_getElem?_getD, List.getElem?_append_left h]

/-- Whatever bit stands at j, of a list of operations behind acc. -/
theorem bitsFrom_at : ∀ (l : List Oper) (acc : List Nat) (j : Nat) (o : Oper), l[j]? = some o →
    ∃ acc', (bitsFrom acc l).getD (acc.length + j) 0 = bitsOf acc' o ∧ ∀ i, acc'.getD i 0 ≠ 0 → (bitsFrom acc l).getD i 0 = acc'.getD i 0
  | [], _, _, _, h => by simp at h
  | o' :: l, acc, 0, o, h => by
    simp only [List.getElem?_cons_zero, Option.some.injEq] at h
    subst h
    refine ⟨acc, ?_, fun i hi => ?_⟩
    · rw [bitsFrom, bitsFrom_prefix l _ _ (by simp)]
      simp [List.getD_eq_getElem?_getD]
    · rw [bitsFrom]
      have hlt : i < acc.length := by
        rcases Nat.lt_or_ge i acc.length with h | h
        · exact h
        · exact absurd (by simp [List.getD_eq_getElem?_getD, List.getElem?_eq_none h]) hi
      rw [bitsFrom_prefix l _ _ (by simp; omega)]
      simp [List.getD_eq_getElem?_getD, List.getElem?_append_left hlt]
  | o' :: l, acc, j + 1, o, h => by
    obtain ⟨acc', h1, h2⟩ := bitsFrom_at l (acc ++ [bitsOf acc o']) j o (by simpa using h)
    refine ⟨acc', ?_, h2⟩
    rw [bitsFrom, ← h1]
    congr 1
    simp; omega

/-- The check: each two operations of which neither waits for the other may change places; each waits for elder ones alone. -/
def textB (cl : List Nat) (ops : List Oper) : Bool :=
  let b := bitsFrom [] ops
  (ops.all fun o => match o.op with | .select .. => false | _ => true) &&
  (List.range ops.length).all fun j => ((ops[j]?).map fun o => o.after.toList.all (fun e => !Region.binds .any e || decide (e.on < j))).getD true &&
    (List.range j).all fun i => (b.getD j 0).testBit i || pairOk ops.toArray cl i j

/-- What is listed: with each all that it waits for. -/
def Closed (ops : Array Oper) (listed : Array Bool) : Prop :=
  ∀ j oj, ops[j]? = some oj → listed.getD j false = true → ∀ e ∈ oj.after, Region.binds .any e = true → listed.getD e.on false = true

theorem Closed.bits {l : List Oper} {listed : Array Bool} (hc : Closed l.toArray listed) (hb : ∀ j o, l[j]? = some o → ∀ e ∈ o.after, Region.binds .any e = true → e.on < j) :
    ∀ (n j : Nat) (o : Oper), j < n → l[j]? = some o → (∀ e ∈ o.after, Region.binds .any e = true → listed.getD e.on false = true) → ∀ t, ((bitsFrom [] l).getD j 0).testBit t = true → listed.getD t false = true := by
  intro n
  induction n with
  | zero => intro j o h; omega
  | succ n ih =>
    intro j o hj ho hall t ht
    obtain ⟨acc', h1, h2⟩ := bitsFrom_at l [] j o ho
    simp only [List.length_nil, Nat.zero_add] at h1
    rw [h1] at ht
    rcases bitsOf_spec o.after.toList 0 ht with h | ⟨e, he, hbd, h⟩
    · simp at h
    · have he' : e ∈ o.after := by simpa using he
      have hl := hall e he' hbd
      rcases h with rfl | h
      · exact hl
      · have hlt := hb j o ho e he' hbd
        have hne : acc'.getD e.on 0 ≠ 0 := fun h0 => by rw [h0] at h; simp at h
        rw [← h2 _ hne] at h
        have hlen : e.on < l.length := by have := (List.getElem?_eq_some_iff.1 ho).1; omega
        obtain ⟨o', ho'⟩ : ∃ o', l[e.on]? = some o' := ⟨l[e.on], List.getElem?_eq_getElem hlen⟩
        exact ih e.on o' (by omega) ho' (fun e2 he2 hb2 => hc e.on o' (by simpa using ho') hl e2 he2 hb2) t h

theorem Closed.set {listed : Array Bool} {i : Nat} (hc : Closed ops listed) (hi : i ∈ Region.ready .any ops listed) : Closed ops (listed.setIfInBounds i true) := by
  intro j oj hj hl e he hb
  obtain ⟨_, oi, hoi, hall⟩ := mem_ready.1 hi
  by_cases hij : i = j
  · subst hij
    have : oj = oi := Option.some.inj (hj.symm.trans hoi)
    subst this
    exact getD_set_true (hall e he hb)
  · rw [getD_set_ne false hij] at hl
    exact getD_set_true (hc j oj hj hl e he hb)

theorem getD_tf {listed : Array Bool} {i : Nat} (h : listed.getD i true = false) : listed.getD i false = false := by
  rcases Nat.lt_or_ge i listed.size with h' | h'
  · simp [h'] at h ⊢; exact h
  · simp [Array.getElem?_eq_none h'] at h

/-- **One that may come up now may be taken first.** -/
theorem wpX_first {l : List Oper} {i : Nat} {oi : Oper} (hi : l[i]? = some oi) (hsel : ∀ (j : Nat) (o : Oper) cs b, l[j]? = some o → o.op ≠ .select cs b)
    (hb : ∀ j o, l[j]? = some o → ∀ e ∈ o.after, Region.binds .any e = true → e.on < j) (hNB : NoBad Q) :
    ∀ (fuel : Nat) (listed : Array Bool) (a : Act) (w : World), Closed l.toArray listed →
      (∀ j oj, l[j]? = some oj → j ≠ i → listed.getD j true = false → ((bitsFrom [] l).getD j 0).testBit i = false → pairOk l.toArray cl i j = true) →
      i ∈ Region.ready .any l.toArray listed → S w →
      stepX P l.toArray Q S cl i (wpX P .any l.toArray Q S cl fuel (listed.setIfInBounds i true)) a w → wpX P .any l.toArray Q S cl (fuel + 1) listed a w := by
  intro fuel
  induction fuel with
  | zero =>
    intro listed a w _ _ hr hS H
    refine ⟨fun h => (by rw [h] at hr; cases hr), fun j hj => ?_⟩
    by_cases hji : j = i
    · subst hji; exact H
    · exfalso
      have h2 := ready_mono hj hji
      have key : ∀ a w, S w → wpX P .any l.toArray Q S cl 0 (listed.setIfInBounds i true) a w → False := fun a w _ h => by rw [h.1] at h2; cases h2
      rcases stepX_cases (by simpa using hi) H with ⟨v, _, h⟩ | ⟨_, _, _, h⟩
      · exact key _ _ hS h
      · obtain ⟨a', v, w', ⟨hS', h⟩, _⟩ := wp_outcome hNB h; exact key _ _ hS' h
  | succ fuel ih =>
    intro listed a w hcl hfree hr hS H
    refine ⟨fun h => (by rw [h] at hr; cases hr), fun j hj => ?_⟩
    by_cases hji : j = i
    · subst hji; exact H
    · obtain ⟨hjun, oj, hoj, hall⟩ := mem_ready.1 hj
      have hoj' : l[j]? = some oj := by simpa using hoj
      have hiun := (mem_ready.1 hr).1
      have hnb : ((bitsFrom [] l).getD j 0).testBit i = false := by
        cases hx : ((bitsFrom [] l).getD j 0).testBit i with
        | false => rfl
        | true =>
          have := hcl.bits hb (j + 1) j oj (by omega) hoj' hall i hx
          rw [getD_tf hiun] at this; cases this
      have h1 : stepX P l.toArray Q S cl i (fun a' w' => stepX P l.toArray Q S cl j (wpX P .any l.toArray Q S cl fuel ((listed.setIfInBounds i true).setIfInBounds j true)) a' w') a w :=
        stepX_mono hS (fun a w _ h => h.2 j (ready_mono hj hji)) H
      have h2 := swapX (by simpa using hi) hoj (hfree j oj hoj' hji hjun hnb) hNB (fun cs b => hsel i oi cs b hi) (fun cs b => hsel j oj cs b hoj') h1
      refine stepX_mono hS (fun a' w' hS' h3 => ih (listed.setIfInBounds j true) a' w' (hcl.set hj) (fun k ok hk hki hun hno => ?_) (ready_mono hr (Ne.symm hji)) hS' ?_) h2
      · refine hfree k ok hk hki ?_ hno
        by_cases hjk : j = k
        · subst hjk; exact hjun
        · rw [getD_set_ne true hjk] at hun; exact hun
      · rw [Array.setIfInBounds_comm _ _ hji]
        exact h3

/-- THE WALK IN THE TEXT's ORDER. -/
def wpT (P : Program) (ops : Array Oper) (Q : Exit → Act → World → Prop) (S : World → Prop) : List Nat → List Oper → Act → World → Prop
  | _, [], a, w => Q .normal a w
  | cs, o :: rest, a, w =>
    if Region.wanted o (yielded ops a.tmps) = true then
      match cs.headD 2 with
      | 0 => ∃ v, (∀ w', S w' → (execOp a.eval o).run P w' = .ok (.value v) w') ∧ wpT P ops Q S cs.tail rest (a.put o.dst v) w
      | 1 => ∃ v, (execOp a.eval o).run P w = .ok (.value v) w ∧ wpT P ops Q S cs.tail rest (a.put o.dst v) w
      | _ => o.wp P a w (fun a' w' => S w' ∧ wpT P ops Q S cs.tail rest a' w') Q
    else wpT P ops Q S cs.tail rest (a.put o.dst undef) w

/-- What is listed when the first k are. -/
def firstK (n k : Nat) : Array Bool := ((List.range n).map fun j => decide (j < k)).toArray

theorem firstK_getD {n k j : Nat} {d : Bool} (hj : j < n) : (firstK n k).getD j d = decide (j < k) := by
  simp [firstK, hj]

theorem firstK_set {n k : Nat} : (firstK n k).setIfInBounds k true = firstK n (k + 1) := by
  apply Array.ext
  · simp [firstK]
  · intro j h1 h2
    simp only [firstK, List.size_toArray, List.length_map, List.length_range, Array.size_setIfInBounds] at h1 h2
    have h3 : j < (firstK n k).size := by simpa [firstK] using h1
    rw [Array.getElem_setIfInBounds h3]
    split
    · rename_i h; subst h; simp [firstK]
    · rename_i h
      simp only [firstK, List.getElem_toArray, List.getElem_map, List.getElem_range, decide_eq_decide]
      omega

theorem wpX_of_T {l : List Oper} (hsel : ∀ (j : Nat) (o : Oper) cs b, l[j]? = some o → o.op ≠ .select cs b)
    (hb : ∀ j o, l[j]? = some o → ∀ e ∈ o.after, Region.binds .any e = true → e.on < j) (hNB : NoBad Q)
    (hp : ∀ j, j < l.length → ∀ i, i < j → ((bitsFrom [] l).getD j 0).testBit i = false → pairOk l.toArray cl i j = true) :
    ∀ (m k : Nat) (cs : List Nat) (a : Act) (w : World), k + m = l.length → (∀ j, cs.getD j 2 = cl.getD (k + j) 2) → S w → wpT P l.toArray Q S cs (l.drop k) a w →
      wpX P .any l.toArray Q S cl m (firstK l.length k) a w := by
  intro m
  induction m with
  | zero =>
    intro k cs a w hk _ _ h
    rw [List.drop_eq_nil_of_le (by omega)] at h
    refine ⟨?_, h⟩
    apply List.eq_nil_iff_forall_not_mem.2
    intro j hj
    obtain ⟨h1, o, ho, _⟩ := mem_ready.1 hj
    have hlt : j < l.length := by simpa using (Array.getElem?_eq_some_iff.1 ho).1
    rw [firstK_getD hlt] at h1
    simp at h1
    omega
  | succ m ih =>
    intro k cs a w hk hcs hS h
    have hlt : k < l.length := by omega
    have hok : l[k]? = some l[k] := List.getElem?_eq_getElem hlt
    rw [List.drop_eq_getElem_cons hlt] at h
    have hcs' : ∀ j, cs.tail.getD j 2 = cl.getD (k + 1 + j) 2 := fun j => by
      have := hcs (j + 1)
      rw [show k + 1 + j = k + (j + 1) from by omega, ← this]
      cases cs <;> simp
    have hc0 : cs.headD 2 = cl.getD k 2 := by
      have := hcs 0
      cases cs <;> simpa using this
    have hready : k ∈ Region.ready .any l.toArray (firstK l.length k) := by
      refine mem_ready.2 ⟨by rw [firstK_getD hlt]; simp, l[k], by simp, fun e he hbd => ?_⟩
      have := hb k l[k] hok e he hbd
      rw [firstK_getD (by omega)]; simpa using this
    have hclosed : Closed l.toArray (firstK l.length k) := by
      intro j oj hj hl e he hbd
      have hj' : l[j]? = some oj := by simpa using hj
      have hjl : j < l.length := (List.getElem?_eq_some_iff.1 hj').1
      have := hb j oj hj' e he hbd
      rw [firstK_getD hjl] at hl
      rw [firstK_getD (by omega)]
      simp at hl ⊢; omega
    refine wpX_first hok hsel hb hNB m _ a w hclosed (fun j oj hj hne hun hno => ?_) hready hS ?_
    · have hjl : j < l.length := (List.getElem?_eq_some_iff.1 hj).1
      rw [firstK_getD hjl] at hun
      simp at hun
      exact hp j hjl k (by omega) hno
    · rw [firstK_set]
      rw [wpT] at h
      unfold stepX
      simp only [List.getElem?_toArray, hok]
      split
      · rename_i hw
        rw [if_pos hw, hc0] at h
        generalize cl.getD k 2 = c at h
        match c with
        | 0 => obtain ⟨v, h1, h2⟩ := h; exact ⟨v, h1, ih (k + 1) cs.tail _ _ (by omega) hcs' hS h2⟩
        | 1 => obtain ⟨v, h1, h2⟩ := h; exact ⟨v, h1, ih (k + 1) cs.tail _ _ (by omega) hcs' hS h2⟩
        | _ + 2 => exact Oper.wp_mono (fun a' w' h' => ⟨h'.1, ih (k + 1) cs.tail _ _ (by omega) hcs' h'.1 h'.2⟩) h
      · rename_i hw
        rw [if_neg hw] at h
        exact ih (k + 1) cs.tail _ _ (by omega) hcs' hS h

theorem wp_region_text_nb {id : Nat} {a : Act} {w : World} {l : List Oper} (cl : List Nat) (S : World → Prop) (hm : P.follows .mixedOrders = true) (hB : textB cl l = true) (hNB : NoBad Q)
    (hS : S w.drew) (h : wpT P l.toArray Q S cl l a w.drew) : (Code.region id l.toArray true).wp P Q a w := by
  simp only [textB, Bool.and_eq_true, List.all_eq_true, List.mem_range] at hB
  obtain ⟨hsel, hB⟩ := hB
  have hsel' : ∀ (j : Nat) (o : Oper) cs b, l[j]? = some o → o.op ≠ .select cs b := fun j o cs b ho he => by
    have := hsel o (List.mem_of_getElem? ho)
    simp [he] at this
  have hb : ∀ j o, l[j]? = some o → ∀ e ∈ o.after, Region.binds .any e = true → e.on < j := fun j o ho e he hbd => by
    have := (hB j (List.getElem?_eq_some_iff.1 ho).1).1
    simp only [ho, Option.map_some, Option.getD_some, List.all_eq_true] at this
    have := this e (by simpa using he)
    simpa [hbd] using this
  have hp : ∀ j, j < l.length → ∀ i, i < j → ((bitsFrom [] l).getD j 0).testBit i = false → pairOk l.toArray cl i j = true := fun j hj i hi hn => by
    have := (hB j hj).2 i hi
    rw [hn] at this
    simpa using this
  refine wp_region_any hm (wpAny_of_X (S := S) (cl := cl) _ _ _ _ hS ?_)
  have := wpX_of_T (P := P) (Q := Q) (S := S) (cl := cl) hsel' hb hNB hp l.length 0 cl a w.drew (by omega) (fun j => by simp) hS (by simpa using h)
  have e0 : firstK l.length 0 = Array.replicate l.toArray.size false := by
    apply Array.ext
    · simp [firstK]
    · intro j h1 h2; simp [firstK]
  rw [e0] at this
  simpa using this

theorem noBad_thru : NoBad (Exit.then (Q .normal) (fun _ _ _ => False)) := ⟨fun _ _ _ h => h, fun _ _ h => h⟩

/-- **ONE WALK SERVES EVERY ORDER.** -/
theorem wp_region_text {id : Nat} {a : Act} {w : World} {l : List Oper} (cl : List Nat) (S : World → Prop) (hm : P.follows .mixedOrders = true) (hB : textB cl l = true)
    (hS : S w.drew) (h : wpT P l.toArray (Exit.then (Q .normal) (fun _ _ _ => False)) S cl l a w.drew) : (Code.region id l.toArray true).wp P Q a w :=
  Code.wp_mono (fun e a w h => by cases e <;> first | exact h | exact h.elim) (wp_region_text_nb cl S hm hB noBad_thru hS h)

/-! ### The walk's steps -/

/-- The plain condition: none. -/
def Any (_ : World) : Prop := True

theorem wpT_nil {cs : List Nat} {a : Act} {w : World} (h : Q .normal a w) : wpT P ops Q S cs [] a w := h

/-- An operation that touches no memory. -/
theorem wpT_0 {cs : List Nat} {o : Oper} {rest : List Oper} {a : Act} {w : World}
    (h : ∀ K : Act → Prop, (∀ a, wpT P ops Q S cs rest a w → K a) →
      if Region.wanted o (yielded ops a.tmps) = true then ∃ v, (∀ w', (execOp a.eval o).run P w' = .ok (.value v) w') ∧ K (a.put o.dst v) else K (a.put o.dst undef)) :
    wpT P ops Q S (0 :: cs) (o :: rest) a w := by
  have := h _ (fun _ h => h)
  rw [wpT]
  split
  · rename_i hw; rw [if_pos hw] at this; obtain ⟨v, h1, h2⟩ := this; exact ⟨v, fun w' _ => h1 w', h2⟩
  · rename_i hw; rw [if_neg hw] at this; exact this

/-- An operation that yields one value in each world that meets S. -/
theorem wpT_S {cs : List Nat} {o : Oper} {rest : List Oper} {a : Act} {w : World}
    (h : ∀ K : Act → Prop, (∀ a, wpT P ops Q S cs rest a w → K a) →
      if Region.wanted o (yielded ops a.tmps) = true then ∃ v, (∀ w', S w' → (execOp a.eval o).run P w' = .ok (.value v) w') ∧ K (a.put o.dst v) else K (a.put o.dst undef)) :
    wpT P ops Q S (0 :: cs) (o :: rest) a w := by
  have := h _ (fun _ h => h)
  rw [wpT]
  split
  · rename_i hw; rw [if_pos hw] at this; exact this
  · rename_i hw; rw [if_neg hw] at this; exact this

/-- An operation that reads. -/
theorem wpT_1 {cs : List Nat} {o : Oper} {rest : List Oper} {a : Act} {w : World}
    (h : ∀ K : Act → Prop, (∀ a, wpT P ops Q S cs rest a w → K a) →
      if Region.wanted o (yielded ops a.tmps) = true then ∃ v, (execOp a.eval o).run P w = .ok (.value v) w ∧ K (a.put o.dst v) else K (a.put o.dst undef)) :
    wpT P ops Q S (1 :: cs) (o :: rest) a w := by
  have := h _ (fun _ h => h)
  rw [wpT]
  split
  · rename_i hw; rw [if_pos hw] at this; exact this
  · rename_i hw; rw [if_neg hw] at this; exact this

/-- Any operation; S is to be shown behind it. -/
theorem wpT_2 {cs : List Nat} {o : Oper} {rest : List Oper} {a : Act} {w : World}
    (h : ∀ K : Act → World → Prop, (∀ a w, S w ∧ wpT P ops Q S cs rest a w → K a w) →
      if Region.wanted o (yielded ops a.tmps) = true then o.wp P a w K Q else K (a.put o.dst undef) w) :
    wpT P ops Q S (2 :: cs) (o :: rest) a w := by
  have := h _ (fun _ _ h => h)
  rw [wpT]
  split
  · rename_i hw; rw [if_pos hw] at this; exact this
  · rename_i hw; rw [if_neg hw] at this; exact this.2

/-- The same where there is no condition. -/
theorem wpT_2A {cs : List Nat} {o : Oper} {rest : List Oper} {a : Act} {w : World}
    (h : ∀ K : Act → World → Prop, (∀ a w, wpT P ops Q Any cs rest a w → K a w) →
      if Region.wanted o (yielded ops a.tmps) = true then o.wp P a w K Q else K (a.put o.dst undef) w) :
    wpT P ops Q Any (2 :: cs) (o :: rest) a w :=
  wpT_2 fun K hK => h K fun a w h => hK a w ⟨trivial, h⟩

/-- What is left comes in its order. -/
theorem wpT_tail_nb {l : List Oper} : ∀ {cs : List Nat} {a : Act} {w : World}, NoBad Q → cs.all (fun c => decide (2 ≤ c)) = true → wpList P ops Q l a w → wpT P ops Q Any cs l a w := by
  induction l with
  | nil => intro cs a w _ _ h; exact h
  | cons o l ih =>
    intro cs a w hNB hc h
    have htl : cs.tail.all (fun c => decide (2 ≤ c)) = true := by cases cs <;> simp_all
    have hhd : 2 ≤ cs.headD 2 := by cases cs <;> simp_all
    rw [wpList] at h
    rw [wpT]
    split
    · rename_i hw
      rw [if_pos hw] at h
      rcases h with h | ⟨_, a', w', h⟩
      · generalize cs.headD 2 = c at hhd
        match c, hhd with
        | 0, hh => omega
        | 1, hh => omega
        | _ + 2, _ => exact Oper.wp_mono (fun a' w' h' => ⟨trivial, ih hNB htl h'⟩) h
      · exact absurd h (hNB.2 _ _)
    · rename_i hw; rw [if_neg hw] at h; exact ih hNB htl h

theorem wpT_tail {l : List Oper} {cs : List Nat} {a : Act} {w : World} (hc : cs.all (fun c => decide (2 ≤ c)) = true) (h : wpList P ops (Exit.then (Q .normal) (fun _ _ _ => False)) l a w) : wpT P ops (Exit.then (Q .normal) (fun _ _ _ => False)) Any cs l a w :=
  wpT_tail_nb noBad_thru hc h
end
attribute [irreducible] wpT
end Go.Fp
