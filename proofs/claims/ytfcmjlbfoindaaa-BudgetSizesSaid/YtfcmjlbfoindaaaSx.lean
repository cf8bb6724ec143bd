/- THE STEPS OF A WALK: each operation by a law of its own; a frame is what was laid, newest first. -/
import Derived.Test.YtfcmjlbfoindaaaTk
import Derived.Test.YtfcmjlbfoindaaaFpTexD
import Derived.Test.YtfcmjlbfoindaaaFpRows
import Derived.WalkKit
import Derived.WalkSpells
import Derived.WalkLawsBesides
namespace Go.Fp
open Go Go.RowKit

/-- A test, not to be looked into. -/
def bdec (p : Prop) [Decidable p] : Bool := decide p
theorem bdec_eq (p : Prop) [Decidable p] : bdec p = decide p := rfl
/-! ### Frames -/
def find : Nat → List (Nat × Value) → Option Value
  | _, [] => none
  | k, (j, v) :: l => bif Nat.beq k j then some v else find k l
def puts (a0 : Act) : List (Nat × Value) → Act
  | [] => a0
  | (j, v) :: l => (puts a0 l).put (some j) v
structure Base (N : Nat) (a0 : Act) : Prop where
  size : a0.tmps.size = N
  defers : a0.defers = []
def ev (N : Nat) (env : List (Nat × Value)) : Operand → Option Value
  | .tmp t => bif Nat.blt t N then find t env else none
  | .const v => some v
  | .global g => some (.pointer (some ⟨g, 0, none⟩))
  | .func f => some (.func (.func f) #[] #[])
def evl (N : Nat) (env : List (Nat × Value)) : List Operand → Option (List Value)
  | [] => some []
  | o :: l => match ev N env o with
    | some v => match evl N env l with
      | some vs => some (v :: vs)
      | none => none
    | none => none

theorem puts_size (a0 : Act) : ∀ env, (puts a0 env).tmps.size = a0.tmps.size
  | [] => rfl
  | (j, v) :: l => by simp only [puts, Act.put, Array.size_setIfInBounds]; exact puts_size a0 l
theorem puts_defers (a0 : Act) : ∀ env, (puts a0 env).defers = a0.defers
  | [] => rfl
  | (j, v) :: l => by simp only [puts, Act.put]; exact puts_defers a0 l
theorem find_spec {a0 : Act} {t : Nat} {v : Value} (ht : t < a0.tmps.size) : ∀ {env}, find t env = some v → (puts a0 env).tmps[t]? = some v
  | (j, u) :: l, h => by
    simp only [find] at h
    simp only [puts, Act.put, Array.getElem?_setIfInBounds]
    cases hb : Nat.beq t j with
    | true =>
      have e : j = t := (Nat.eq_of_beq_eq_true hb).symm
      rw [hb] at h
      simp only [cond_true, Option.some.injEq] at h
      rw [if_pos e, if_pos (by rw [puts_size, e]; exact ht), h]
    | false =>
      rw [hb] at h
      have e : ¬ j = t := fun e => Nat.ne_of_beq_eq_false hb e.symm
      rw [if_neg e]
      exact find_spec ht h

section
variable {P : Program} {ops : Array Oper} {Q : Exit → Act → World → Prop} {R : Kn} {cs : List Nat} {rest : List Oper} {a0 : Act} {w w0 : World} {N : Nat} {env : List (Nat × Value)}
  {d : Tmp} {ty : TypeId} {pos : String} {af : Array Edge} {S : List Nat} {l m : List Ob}

theorem ev_spec (hN : Base N a0) {o : Operand} {v : Value} (h : ev N env o = some v) : (puts a0 env).eval o = v := by
  cases o with
  | tmp t =>
    simp only [ev] at h
    cases hb : Nat.blt t N with
    | false => rw [hb] at h; cases h
    | true =>
      rw [hb] at h
      have ht : t < a0.tmps.size := by rw [hN.size]; exact Nat.le_of_ble_eq_true hb
      have := find_spec ht h
      simp [Act.eval, this]
  | const v => simpa [ev, Act.eval] using h
  | global g => simpa [ev, Act.eval] using h
  | func f => simpa [ev, Act.eval] using h
theorem ev_tmp (hN : Base N a0) {t : Nat} {v : Value} (h : ev N env (.tmp t) = some v) : (puts a0 env).tmps[t]? = some v := by
  simp only [ev] at h
  cases hb : Nat.blt t N with
  | false => rw [hb] at h; cases h
  | true => rw [hb] at h; exact find_spec (by rw [hN.size]; exact Nat.le_of_ble_eq_true hb) h
theorem evl_spec (hN : Base N a0) : ∀ {l : List Operand} {vs : List Value}, evl N env l = some vs → l.map (puts a0 env).eval = vs
  | [], vs, h => by simp [evl] at h; subst h; rfl
  | o :: l, vs, h => by
    simp only [evl] at h
    cases h1 : ev N env o with
    | none => rw [h1] at h; cases h
    | some v =>
      rw [h1] at h
      cases h2 : evl N env l with
      | none => simp only [h2] at h; cases h
      | some us =>
        simp only [h2, Option.some.injEq] at h
        subst h
        simp [ev_spec hN h1, evl_spec hN h2]
theorem evI {o : Operand} {k : IntKind} {x y : Int} (h : ev N env o = some (.int k x)) (e : x = y) : ev N env o = some (.int k y) := e ▸ h
theorem evV {o : Operand} {x y : Value} (h : ev N env o = some x) (e : x = y) : ev N env o = some y := e ▸ h

/-- The slots that are kept. -/
def Keeps (N : Nat) (env : List (Nat × Value)) : List (Nat × Value) → Prop
  | [] => True
  | (j, v) :: r => ev N env (.tmp j) = some v ∧ Keeps N env r
theorem put_same {a : Act} {t : Nat} {v : Value} (h : a.tmps[t]? = some v) : a.put (some t) v = a := by
  have : a.tmps.setIfInBounds t v = a.tmps := by
    apply Array.ext_getElem?
    intro j
    rw [Array.getElem?_setIfInBounds]
    split
    · rename_i e; subst e
      have := (Array.getElem?_eq_some_iff.1 h).1
      rw [if_pos this, h]
    · rfl
  simp only [Act.put, this]
theorem keeps_puts (hN : Base N a0) : ∀ {r : List (Nat × Value)}, Keeps N env r → puts (puts a0 env) r = puts a0 env
  | [], _ => rfl
  | (j, v) :: r, h => by
    rw [puts, keeps_puts hN h.2]
    exact put_same (ev_tmp hN h.1)
theorem base_puts (hN : Base N a0) (env : List (Nat × Value)) : Base N (puts a0 env) := ⟨(puts_size _ _).trans hN.size, (puts_defers _ _).trans hN.defers⟩

/-! ### What is left to do -/
inductive Ks where
  | base (Q : Exit → Act → World → Prop)
  | thn (c : Code) (k : Ks)
  | blk (id : Nat) (k : Ks)
  | lp (I : Act → World → Prop) (k : Ks)
def den (P : Program) : Ks → Exit → Act → World → Prop
  | .base Q => Q
  | .thn c k => Exit.then (c.wp P (den P k)) (den P k)
  | .blk id k => Exit.inBlock id (den P k)
  | .lp I k => Exit.then I (den P k)
def wpC (P : Program) (c : Code) (k : Ks) (a : Act) (w : World) : Prop := c.wp P (den P k) a w
def wpE (P : Program) (e : Exit) (k : Ks) (a : Act) (w : World) : Prop := den P k e a w
def wq (P : Program) (k : Ks) : Exit → Act → World → Prop := den P k
def dq (P : Program) (k : Ks) : Exit → Act → World → Prop := Exit.then (den P k .normal) (fun _ _ _ => False)

def sq (P : Program) (ops : Array Oper) (k : Ks) (l2 : List Oper) : Exit → Act → World → Prop := Exit.then (fun a w => wpD P ops (dq P k) AnyK [] l2 a w) (fun _ _ _ => False)

variable {k : Ks} {c x y : Code} {a : Act}
theorem C_seq (h : wpC P x (.thn y k) a w) : wpC P (.seq x y) k a w := wp_seq h
theorem C_block {id : Nat} (h : wpC P c (.blk id k) a w) : wpC P (.block id c) k a w := wp_block h
theorem C_skip (h : wpE P .normal k a w) : wpC P .skip k a w := wp_skip h
theorem C_exit {i : Nat} (h : wpE P (.exit i) k a w) : wpC P (.exit i) k a w := wp_exit h
theorem C_ret (h : wpE P .ret k a w) : wpC P .ret k a w := wp_ret h
theorem C_rgn {id : Nat} {l : List Oper} (h : wpD P l.toArray (wq P k) AnyK [] l a w) : wpC P (.region id l.toArray false) k a w := by
  refine wp_region_lit ?_
  have key : ∀ (l2 : List Oper) (S : Kn) (a : Act) (w : World), wpD P l.toArray (wq P k) S [] l2 a w → wpList P l.toArray (den P k) l2 a w := by
    intro l2
    induction l2 with
    | nil => intro S a w h; rw [wpD] at h; exact h
    | cons o l2 ih =>
      intro S a w h
      rw [wpD] at h
      rw [wpList]
      split
      · rename_i hw
        rw [if_pos hw] at h
        exact .inl (Oper.wp_mono (fun a' w' ⟨S', _, _, h'⟩ => ih S' _ _ h') h)
      · rename_i hw
        rw [if_neg hw] at h
        exact ih S _ _ h
  exact key l AnyK a w h
theorem C_draw {id : Nat} {l : List Oper} (cl : List Nat) (R : World → Prop) (hm : P.follows .mixedOrders = true) (hB : textD cl l = true) (hR : R w.drew)
    (h : wpD P l.toArray (dq P k) (kn R) cl l a w.drew) : wpC P (.region id l.toArray true) k a w :=
  wpD_region cl R hm hB hR h
theorem C_drawS {id : Nat} {l : List Oper} (K : Nat) (cl : List Nat) (R : World → Prop) (hm : P.follows .mixedOrders = true) (hB : (textD cl l && splitB K l && Nat.ble cl.length K && Nat.ble K l.length) = true) (hR : R w.drew)
    (h : wpD P l.toArray (sq P l.toArray k (l.drop K)) (kn R) cl (l.take K) a w.drew) : wpC P (.region id l.toArray true) k a w := by
  simp only [Bool.and_eq_true] at hB
  obtain ⟨⟨⟨h1, h2⟩, h3⟩, h4⟩ := hB
  have h3 := Nat.le_of_ble_eq_true h3
  have h4 := Nat.le_of_ble_eq_true h4
  have e : l.take K ++ l.drop K = l := List.take_append_drop K l
  have hlen : (l.take K).length = K := by rw [List.length_take]; omega
  have := wpD_split (P := P) (Q := den P k) (id := id) (l1 := l.take K) (l2 := l.drop K) (a := a) (w := w) cl R hm (by rw [e]; exact h1) (by rw [hlen, e]; exact h2) (by omega) hR (by rw [e]; exact h)
  rw [e] at this
  exact this
theorem T_nils {l2 : List Oper} (h : wpD P ops (dq P k) AnyK [] l2 a w) : wpD P ops (sq P ops k l2) R cs [] a w := wpD_nil h
theorem C_cond (hN : Base N a0) {o : Operand} {b : Bool} (hc : ev N env o = some (.bool b)) (ht : b = true → wpC P x k (puts a0 env) w) (hf : b = false → wpC P y k (puts a0 env) w) :
    wpC P (.cond o x y) k (puts a0 env) w :=
  wp_cond_split (ev_spec hN hc) ht hf
theorem C_if (hN : Base N a0) {o : Operand} {p : Prop} [Decidable p] (hc : ev N env o = some (.bool (bdec p))) (ht : p → wpC P x k (puts a0 env) w) (hf : ¬ p → wpC P y k (puts a0 env) w) :
    wpC P (.cond o x y) k (puts a0 env) w :=
  C_cond hN hc (fun h => ht (of_decide_eq_true h)) (fun h => hf (of_decide_eq_false h))
theorem C_true (hN : Base N a0) {o : Operand} (hc : ev N env o = some (.bool true)) (ht : wpC P x k (puts a0 env) w) : wpC P (.cond o x y) k (puts a0 env) w :=
  wp_cond_true (ev_spec hN hc) ht
theorem C_false (hN : Base N a0) {o : Operand} (hc : ev N env o = some (.bool false)) (ht : wpC P y k (puts a0 env) w) : wpC P (.cond o x y) k (puts a0 env) w :=
  wp_cond_false (ev_spec hN hc) ht
theorem E_thn (h : wpC P y k a w) : wpE P .normal (.thn y k) a w := h
theorem E_thn_exit {i : Nat} (h : wpE P (.exit i) k a w) : wpE P (.exit i) (.thn y k) a w := h
theorem E_thn_ret (h : wpE P .ret k a w) : wpE P .ret (.thn y k) a w := h
theorem E_blk {id : Nat} (h : wpE P .normal k a w) : wpE P .normal (.blk id k) a w := h
theorem E_blk_ret {id : Nat} (h : wpE P .ret k a w) : wpE P .ret (.blk id k) a w := h
theorem E_blk_hit {id : Nat} (h : wpE P .normal k a w) : wpE P (.exit id) (.blk id k) a w := by
  show Exit.inBlock id (den P k) (.exit id) a w
  simp only [Exit.inBlock, if_true]; exact h
theorem E_blk_miss {id i : Nat} (hne : Nat.beq i id = false) (h : wpE P (.exit i) k a w) : wpE P (.exit i) (.blk id k) a w := by
  show Exit.inBlock id (den P k) (.exit i) a w
  have : ¬ i = id := Nat.ne_of_beq_eq_false hne
  simp only [Exit.inBlock, this, if_false]; exact h
theorem E_lp {I : Act → World → Prop} (h : I a w) : wpE P .normal (.lp I k) a w := h
theorem E_lp_exit {I : Act → World → Prop} {i : Nat} (h : wpE P (.exit i) k a w) : wpE P (.exit i) (.lp I k) a w := h
theorem E_lp_ret {I : Act → World → Prop} (h : wpE P .ret k a w) : wpE P .ret (.lp I k) a w := h
theorem T_nil (h : wpE P .normal k a w) : wpD P ops (wq P k) R cs [] a w := wpD_nil h
theorem T_nild (h : wpE P .normal k a w) : wpD P ops (dq P k) R cs [] a w := wpD_nil h

/-- What is left may be stated of a frame of which some slots are known. -/
def Lp (N : Nat) {X : Type _} (env' : X → List (Nat × Value)) (I : X → World → Prop) (a : Act) (w : World) : Prop := ∃ x a0, Base N a0 ∧ a = puts a0 (env' x) ∧ I x w
theorem Lp.mk (hN : Base N a0) {X : Type _} {env' : X → List (Nat × Value)} {I : X → World → Prop} (x : X) (hk : Keeps N env (env' x)) (hI : I x w) : Lp N env' I (puts a0 env) w :=
  ⟨x, puts a0 env, base_puts hN env, (keeps_puts hN hk).symm, hI⟩
/-- A LOOP: what is known of a round's head (of some x), and a number that falls. -/
theorem C_loop (hN : Base N a0) {X : Type _} (env' : X → List (Nat × Value)) (I : X → World → Prop) (μ : X → Nat) (x0 : X) (hk : Keeps N env (env' x0)) (hI : I x0 w)
    (round : ∀ (x : X) (a1 : Act) (w1 : World), Base N a1 → I x w1 → wpC P c (.lp (Lp N env' (fun x' w' => I x' w' ∧ μ x' < μ x)) k) (puts a1 (env' x)) w1) :
    wpC P (.loop c) k (puts a0 env) w := by
  have key : ∀ n (x : X) (a1 : Act) (w1 : World), μ x = n → Base N a1 → I x w1 → ∀ (b : Frame) (kk : List Item) (cs : List Frame),
      ∃ e a' w', den P k e a' w' ∧ Arrives P (lone (b.at (puts a1 (env' x)) (.code c :: .inLoop c :: kk)) cs w1) b kk cs e a' w' := by
    intro n
    induction n using Nat.strongRecOn with
    | _ n ih =>
      intro x a1 w1 hn hb hI b kk cs
      obtain ⟨e, a2, w2, hq, harr⟩ := round x a1 w1 hb hI b (.inLoop c :: kk) cs
      cases e with
      | normal =>
        obtain ⟨x', a3, hb3, rfl, hI3, hlt⟩ := hq
        obtain ⟨e4, a4, w4, hq4, harr4⟩ := ih (μ x') (hn ▸ hlt) x' a3 w2 rfl hb3 hI3 b kk cs
        exact ⟨e4, a4, w4, hq4, .of_steps (Steps.trans harr (.one step_inLoop)) harr4⟩
      | exit id => exact ⟨_, a2, w2, hq, .pass (x := .inLoop c) rfl (fun _ _ => .inl (by simp)) harr⟩
      | goto l => exact ⟨_, a2, w2, hq, .pass (x := .inLoop c) rfl (fun _ _ => .inl (by simp)) harr⟩
      | ret => exact ⟨_, a2, w2, hq, .pass (x := .inLoop c) rfl (fun _ _ => .inl (by simp)) harr⟩
      | panic ch => exact ⟨_, a2, w2, hq, .pass (x := .inLoop c) rfl (fun _ _ => .inl (by simp)) harr⟩
      | outgrown => exact ⟨_, a2, w2, hq, .pass (x := .inLoop c) rfl (fun _ _ => .inl (by simp)) harr⟩
  intro b kk cs
  have := key _ x0 (puts a0 env) w rfl (base_puts hN env) hI b kk cs
  rw [keeps_puts hN hk] at this
  obtain ⟨e, a', w', hq, harr⟩ := this
  exact ⟨e, a', w', hq, .of_steps (.one step_loop) harr⟩
/-- A loop whose rounds are walked one by one. -/
def Un (P : Program) (c : Code) (k : Ks) : Nat → Act → World → Prop
  | 0, _, _ => False
  | n + 1, a, w => wpC P c (.lp (Un P c k n) k) a w
theorem C_unroll (n : Nat) (h : wpC P c (.lp (Un P c k n) k) a w) : wpC P (.loop c) k a w := by
  have key : ∀ n (a1 : Act) (w1 : World), Un P c k n a1 w1 → ∀ (b : Frame) (kk : List Item) (cs : List Frame),
      ∃ e a' w', den P k e a' w' ∧ Arrives P (lone (b.at a1 (.code c :: .inLoop c :: kk)) cs w1) b kk cs e a' w' := by
    intro n
    induction n with
    | zero => intro a1 w1 h; exact h.elim
    | succ n ih =>
      intro a1 w1 h b kk cs
      obtain ⟨e, a2, w2, hq, harr⟩ := h b (.inLoop c :: kk) cs
      cases e with
      | normal =>
        obtain ⟨e4, a4, w4, hq4, harr4⟩ := ih a2 w2 hq b kk cs
        exact ⟨e4, a4, w4, hq4, .of_steps (Steps.trans harr (.one step_inLoop)) harr4⟩
      | exit id => exact ⟨_, a2, w2, hq, .pass (x := .inLoop c) rfl (fun _ _ => .inl (by simp)) harr⟩
      | goto l => exact ⟨_, a2, w2, hq, .pass (x := .inLoop c) rfl (fun _ _ => .inl (by simp)) harr⟩
      | ret => exact ⟨_, a2, w2, hq, .pass (x := .inLoop c) rfl (fun _ _ => .inl (by simp)) harr⟩
      | panic ch => exact ⟨_, a2, w2, hq, .pass (x := .inLoop c) rfl (fun _ _ => .inl (by simp)) harr⟩
      | outgrown => exact ⟨_, a2, w2, hq, .pass (x := .inLoop c) rfl (fun _ _ => .inl (by simp)) harr⟩
  intro b kk cs
  obtain ⟨e, a', w', hq, harr⟩ := key (n + 1) a w h b kk cs
  exact ⟨e, a', w', hq, .of_steps (.one step_loop) harr⟩
theorem E_unroll {n : Nat} (h : wpC P c (.lp (Un P c k n) k) a w) : wpE P .normal (.lp (Un P c k (n + 1)) k) a w := h
/-- A cut: what comes behind x is told of some slots alone. -/
theorem C_cut {X : Type _} (N : Nat) (env' : X → List (Nat × Value)) (I : X → World → Prop) (h : wpC P x (.lp (Lp N env' I) k) a w)
    (h2 : ∀ (z : X) (a1 : Act) (w1 : World), Base N a1 → I z w1 → wpC P y k (puts a1 (env' z)) w1) : wpC P (.seq x y) k a w := by
  refine wp_seq (Code.wp_mono (fun e a' w' hq => ?_) h)
  cases e with
  | normal => obtain ⟨z, a1, hb, rfl, hI⟩ := hq; exact h2 z a1 w' hb hI
  | exit i => exact hq
  | goto i => exact hq
  | ret => exact hq
  | panic c => exact hq
  | outgrown => exact hq
theorem C_rgnk (hN : Base N a0) {id : Nat} {l : List Oper} (env' : List (Nat × Value)) (hk : Keeps N env env') (h : ∀ a1, Base N a1 → wpD P l.toArray (wq P k) AnyK [] l (puts a1 env') w) : wpC P (.region id l.toArray false) k (puts a0 env) w := by
  have := h (puts a0 env) (base_puts hN env)
  rw [keeps_puts hN hk] at this
  exact C_rgn this
theorem C_drawk (hN : Base N a0) {id : Nat} {l : List Oper} (env' : List (Nat × Value)) (hk : Keeps N env env') (cl : List Nat) (R : World → Prop) (hm : P.follows .mixedOrders = true) (hB : textD cl l = true) (hR : R w.drew)
    (h : ∀ a1, Base N a1 → wpD P l.toArray (dq P k) (kn R) cl l (puts a1 env') w.drew) : wpC P (.region id l.toArray true) k (puts a0 env) w := by
  have := h (puts a0 env) (base_puts hN env)
  rw [keeps_puts hN hk] at this
  exact C_draw cl R hm hB hR this
theorem C_drawSk (hN : Base N a0) {id : Nat} {l : List Oper} (env' : List (Nat × Value)) (hk : Keeps N env env') (K : Nat) (cl : List Nat) (R : World → Prop) (hm : P.follows .mixedOrders = true) (hB : (textD cl l && splitB K l && Nat.ble cl.length K && Nat.ble K l.length) = true) (hR : R w.drew)
    (h : ∀ a1, Base N a1 → wpD P l.toArray (sq P l.toArray k (l.drop K)) (kn R) cl (l.take K) (puts a1 env') w.drew) : wpC P (.region id l.toArray true) k (puts a0 env) w := by
  have := h (puts a0 env) (base_puts hN env)
  rw [keeps_puts hN hk] at this
  exact C_drawS K cl R hm hB hR this
theorem E_mk (hN : Base N a0) {X : Type _} {env' : X → List (Nat × Value)} {I : X → World → Prop} (x : X) (hk : Keeps N env (env' x)) (hI : I x w) : wpE P .normal (.lp (Lp N env' I) k) (puts a0 env) w :=
  E_lp (Lp.mk hN x hk hI)

/-! ### In and out -/
def envOf : Nat → List Value → List (Nat × Value)
  | _, [] => []
  | i, v :: l => (i, v) :: envOf (i + 1) l
theorem envOf_puts {a : Act} : ∀ {vs : List Value} {i : Nat}, (∀ j v, vs[j]? = some v → a.tmps[i + j]? = some v) → puts a (envOf i vs) = a
  | [], i, _ => rfl
  | v :: l, i, h => by
    rw [envOf, puts, envOf_puts (fun j u hj => by rw [show i + 1 + j = i + (j + 1) by omega]; exact h (j + 1) u (by simpa using hj))]
    exact put_same (h 0 v rfl)
theorem enter {f : FuncId} {fn : Func} {N : Nat} {vs : List Value} {w : World} {R : Ending → World → Prop} (env : List (Nat × Value)) (hf : P.funcs[f]? = some fn) (hb : fn.body = some c) (hn : fn.ntmps = N) (hl : vs.length ≤ N)
    (he : envOf 0 vs = env) (h : ∀ a0, Base N a0 → wpC P c (.base (bodyPost P fn R)) (puts a0 env) w) : Calls P f vs.toArray w R := by
  subst hn; subst he
  have hb0 : Base fn.ntmps (⟨vs.toArray ++ Array.replicate (fn.ntmps - vs.toArray.size) undef, []⟩ : Act) := ⟨by simp; omega, rfl⟩
  have h1 := h _ hb0
  rw [envOf_puts (fun j v hj => by
    have hjl := (List.getElem?_eq_some_iff.1 hj).1
    simp only [Nat.zero_add]
    rw [Array.getElem?_append_left (by simpa using hjl)]
    simpa using hj)] at h1
  exact calls_of_wp hf hb h1

/-- What is handed back. -/
inductive Res (P : Program) (w : World) (N : Nat) (env : List (Nat × Value)) : List ResultVar → List Value → Prop where
  | nil : Res P w N env [] []
  | tmp {t : Tmp} {v : Value} {rs : List ResultVar} {vs : List Value} (h : ev N env (.tmp t) = some v) (r : Res P w N env rs vs) : Res P w N env (.tmp t :: rs) (v :: vs)
  | cell {p : Tmp} {T : TypeId} {a : Addr} {v : Value} {rs : List ResultVar} {vs : List Value} (h : ev N env (.tmp p) = some (.pointer (some a))) (hl : (loadVar T a).run P w = .ok v w) (r : Res P w N env rs vs) : Res P w N env (.cell p T :: rs) (v :: vs)
def pack : List Value → Value
  | [v] => v
  | vs => .tuple vs.toArray
def resF (tmps : Array Value) : ResultVar → Sem Value
  | .tmp t => Pure.pure (tmps.getD t undef)
  | .cell a t => do loadVar t (← asAddr (tmps.getD a undef))
theorem results_F (fn : Func) (tmps : Array Value) : results fn tmps = (do let vs ← fn.results.mapM (resF tmps); Pure.pure (if h : vs.size = 1 then vs[0] else .tuple vs)) := by
  unfold results
  congr 1
theorem Res.run (hN : Base N a0) {rs : List ResultVar} {vs : List Value} (h : Res P w N env rs vs) :
    (rs.mapM (resF (puts a0 env).tmps)).run P w = Result.ok vs w := by
  induction h with
  | nil => simp
  | tmp h r ih =>
    have := ev_tmp hN h
    simp [List.mapM_cons, resF, this, ih]
  | cell h hl r ih =>
    have := ev_tmp hN h
    simp [List.mapM_cons, resF, this, asAddr, hl, ih]
theorem E_ret (hN : Base N a0) {fn : Func} {R : Ending → World → Prop} {rs : List ResultVar} {vs : List Value} (hr : fn.results = rs.toArray) (h : Res P w N env rs vs) (hR : R (.returned (pack vs)) w) :
    wpE P .ret (.base (bodyPost P fn R)) (puts a0 env) w := by
  refine bodyPost_ret (v := pack vs) ?_ ((puts_defers _ _).trans hN.defers) hR
  have := Res.run hN h
  rw [results_F, hr, List.mapM_toArray]
  simp only [Sem.run_bind, Sem.run_map, this, Result.andThen_ok, Sem.run_pure]
  congr 1
  match vs with
  | [] => rfl
  | [v] => rfl
  | _ :: _ :: _ => simp [pack]
theorem E_end (hN : Base N a0) {fn : Func} {R : Ending → World → Prop} {rs : List ResultVar} {vs : List Value} (hr : fn.results = rs.toArray) (h : Res P w N env rs vs) (hR : R (.returned (pack vs)) w) :
    wpE P .normal (.base (bodyPost P fn R)) (puts a0 env) w := E_ret (P := P) hN hr h hR
end
theorem ret_b {p q : Prop} [Decidable p] [Decidable q] (h : p ↔ q) : Ending.returned (pack [.bool (bdec p)]) = .returned (.bool (decide q)) := by
  show Ending.returned (.bool (decide p)) = _
  rw [decide_eq_decide.2 h]
theorem ret_bb {p q : Prop} [Decidable p] [Decidable q] (h : p ↔ q) : Ending.returned (pack [.bool (bdec p)]) = .returned (.bool (bdec q)) := by
  show Ending.returned (.bool (decide p)) = .returned (.bool (decide q))
  rw [decide_eq_decide.2 h]
theorem ret_bt {q : Prop} [Decidable q] (h : q) : Ending.returned (pack [.bool true]) = .returned (.bool (bdec q)) := by
  show Ending.returned (.bool true) = .returned (.bool (decide q))
  rw [decide_eq_true h]
theorem ret_bf {q : Prop} [Decidable q] (h : ¬ q) : Ending.returned (pack [.bool false]) = .returned (.bool (bdec q)) := by
  show Ending.returned (.bool false) = .returned (.bool (decide q))
  rw [decide_eq_false h]
theorem ret_t {q : Prop} [Decidable q] (h : q) : Ending.returned (pack [.bool true]) = .returned (.bool (decide q)) := by
  show Ending.returned (.bool true) = _
  rw [decide_eq_true h]
theorem ret_f {q : Prop} [Decidable q] (h : ¬ q) : Ending.returned (pack [.bool false]) = .returned (.bool (decide q)) := by
  show Ending.returned (.bool false) = _
  rw [decide_eq_false h]
theorem ret_i {k : IntKind} {a b : Int} (h : a = b) : Ending.returned (pack [.int k a]) = .returned (.int k b) := by rw [h]; rfl
attribute [irreducible] wpC wpE wq dq sq bdec
end Go.Fp
