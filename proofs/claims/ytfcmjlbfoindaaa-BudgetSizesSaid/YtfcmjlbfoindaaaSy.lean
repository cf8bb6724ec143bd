/- THE OPERATIONS' LAWS. -/
import Derived.Test.YtfcmjlbfoindaaaSx
namespace Go.Fp
open Go Go.RowKit

/-! ### What the program's table says -/
class Zero (P : Program) (T : TypeId) (cs : outParam (List Value)) : Prop where
  out : ∃ i z, P.info? T = some i ∧ i.zero = some z ∧ z.cells = cs.toArray
class Row (P : Program) (T : TypeId) (n : outParam Nat) : Prop where
  out : (∃ d, P.underlying T = some d ∧ d.isRow = true) ∧ (P.info? T).map (·.size) = some n
class One (P : Program) (T : TypeId) : Prop where
  out : (∃ d, P.underlying T = some d ∧ d.isRow = false) ∧ (P.info? T).map (·.size) = some 1
class Fld (P : Program) (S : TypeId) (f : Nat) (off : outParam Nat) (T : outParam TypeId) : Prop where
  out : ∃ fs fd n, P.underlying S = some (.struct fs) ∧ fs[f]? = some fd ∧ fd.offset = off ∧ fd.type = T ∧ (P.info? T).map (·.size) = some (n + 1)
class Slc (P : Program) (T : TypeId) (e : outParam TypeId) (n : outParam Nat) : Prop where
  out : P.underlying T = some (.slice e) ∧ (P.info? e).map (·.size) = some n
class Und (P : Program) (T : TypeId) (D : outParam TypeDesc) : Prop where
  out : P.underlying T = some D
class Clb (P : Program) (f : FuncId) : Prop where
  out : ∃ fn, P.funcs[f]? = some fn ∧ fn.body.isNone = false ∧ (fn.name == "runtime.NumGoroutine") = false
class Arr (P : Program) (T : TypeId) (e : outParam TypeId) (len n : outParam Nat) : Prop where
  out : P.underlying T = some (.array len e) ∧ (P.info? e).map (·.size) = some n

theorem mk_zero {P : Program} {T : TypeId} {cs : List Value} (h : (P.info? T).bind (fun i => i.zero.map (·.cells)) = some cs.toArray) : Zero P T cs := by
  cases hi : P.info? T with
  | none => rw [hi] at h; cases h
  | some i =>
    rw [hi] at h
    cases hz : i.zero with
    | none => simp [hz] at h
    | some z => exact ⟨⟨i, z, hi, hz, by simpa [hz] using h⟩⟩
theorem mk_row {P : Program} {T : TypeId} {n : Nat} (h : (P.underlying T).map (·.isRow) = some true) (h2 : (P.info? T).map (·.size) = some n) : Row P T n := by
  cases hi : P.underlying T with
  | none => rw [hi] at h; cases h
  | some d => exact ⟨⟨d, hi, by simpa [hi] using h⟩, h2⟩
theorem mk_one {P : Program} {T : TypeId} (h : (P.underlying T).map (·.isRow) = some false) (h2 : (P.info? T).map (·.size) = some 1) : One P T := by
  cases hi : P.underlying T with
  | none => rw [hi] at h; cases h
  | some d => exact ⟨⟨d, hi, by simpa [hi] using h⟩, h2⟩
def fldB (P : Program) (S : TypeId) (f : Nat) : Option (Nat × TypeId × Option Nat) := match P.underlying S with
  | some (.struct fs) => (fs[f]?).map fun fd => (fd.offset, fd.type, (P.info? fd.type).map (·.size))
  | _ => none
theorem mk_fld {P : Program} {S : TypeId} {f off : Nat} {T : TypeId} {n : Nat} (h : fldB P S f = some (off, T, some (n + 1))) : Fld P S f off T := by
  unfold fldB at h
  split at h
  · rename_i fs hu
    cases hf : fs[f]? with
    | none => rw [hf] at h; cases h
    | some fd =>
      rw [hf] at h
      simp only [Option.map_some, Option.some.injEq, Prod.mk.injEq] at h
      obtain ⟨h1, h2, h3⟩ := h
      exact ⟨⟨fs, fd, n, hu, hf, h1, h2, h2 ▸ h3⟩⟩
  · cases h

section
variable {P : Program} {ops : Array Oper} {Q : Exit → Act → World → Prop} {R : Kn} {cs : List Nat} {rest : List Oper} {a0 : Act} {w w0 : World} {N : Nat} {env : List (Nat × Value)}
  {d : Tmp} {ty : TypeId} {pos : String} {af : Array Edge} {S : List Nat} {l m : List Ob}

/-! ### Which step it is -/
theorem isT {l : List Oper} {a : Act} (h : wpD P ops Q R cs l a w) : wpD P ops Q R cs l a w := h
theorem isC {c : Code} {k : Ks} {a : Act} (h : wpC P c k a w) : wpC P c k a w := h
theorem isE {e : Exit} {k : Ks} {a : Act} (h : wpE P e k a w) : wpE P e k a w := h
theorem isGuard {o : Option Tmp} {op : Op} {q : Nat × Bool} {a : Act} (h : wpD P ops Q R cs (⟨o, op, ty, pos, af, some q⟩ :: rest) a w) : wpD P ops Q R cs (⟨o, op, ty, pos, af, some q⟩ :: rest) a w := h
theorem is_load {t : TypeId} {x : Operand} {o : Option Tmp} {a : Act} (h : wpD P ops Q R cs (⟨o, .load t x, ty, pos, af, none⟩ :: rest) a w) : wpD P ops Q R cs (⟨o, .load t x, ty, pos, af, none⟩ :: rest) a w := h
theorem is_store {t : TypeId} {x y : Operand} {o : Option Tmp} {a : Act} (h : wpD P ops Q R cs (⟨o, .store t x y, ty, pos, af, none⟩ :: rest) a w) : wpD P ops Q R cs (⟨o, .store t x y, ty, pos, af, none⟩ :: rest) a w := h
theorem is_binOp {b : BinOp} {t t2 : TypeId} {x y : Operand} {o : Option Tmp} {a : Act} (h : wpD P ops Q R cs (⟨o, .binOp b t x y t2, ty, pos, af, none⟩ :: rest) a w) : wpD P ops Q R cs (⟨o, .binOp b t x y t2, ty, pos, af, none⟩ :: rest) a w := h
theorem is_call {c : Call} {o : Option Tmp} {a : Act} (h : wpD P ops Q R cs (⟨o, .call c, ty, pos, af, none⟩ :: rest) a w) : wpD P ops Q R cs (⟨o, .call c, ty, pos, af, none⟩ :: rest) a w := h
theorem is_index {t : TypeId} {x y : Operand} {o : Option Tmp} {a : Act} (h : wpD P ops Q R cs (⟨o, .index t x y, ty, pos, af, none⟩ :: rest) a w) : wpD P ops Q R cs (⟨o, .index t x y, ty, pos, af, none⟩ :: rest) a w := h
theorem is_indexAddr {t : TypeId} {x y : Operand} {o : Option Tmp} {a : Act} (h : wpD P ops Q R cs (⟨o, .indexAddr t x y, ty, pos, af, none⟩ :: rest) a w) : wpD P ops Q R cs (⟨o, .indexAddr t x y, ty, pos, af, none⟩ :: rest) a w := h
theorem is_field {t : TypeId} {x : Operand} {f : Nat} {o : Option Tmp} {a : Act} (h : wpD P ops Q R cs (⟨o, .field t x f, ty, pos, af, none⟩ :: rest) a w) : wpD P ops Q R cs (⟨o, .field t x f, ty, pos, af, none⟩ :: rest) a w := h
theorem is_build {t : TypeId} {ps : Array (Nat × Operand)} {o : Option Tmp} {a : Act} (h : wpD P ops Q R cs (⟨o, .build t ps, ty, pos, af, none⟩ :: rest) a w) : wpD P ops Q R cs (⟨o, .build t ps, ty, pos, af, none⟩ :: rest) a w := h
theorem is_buildSlice {t : TypeId} {n : Nat} {ps : Array (Nat × Operand)} {o : Option Tmp} {a : Act} (h : wpD P ops Q R cs (⟨o, .buildSlice t n ps, ty, pos, af, none⟩ :: rest) a w) : wpD P ops Q R cs (⟨o, .buildSlice t n ps, ty, pos, af, none⟩ :: rest) a w := h
theorem is_box {t : TypeId} {x : Operand} {o : Option Tmp} {a : Act} (h : wpD P ops Q R cs (⟨o, .box t x, ty, pos, af, none⟩ :: rest) a w) : wpD P ops Q R cs (⟨o, .box t x, ty, pos, af, none⟩ :: rest) a w := h
theorem is_alloc {t : TypeId} {o : Option Tmp} {a : Act} (h : wpD P ops Q R cs (⟨o, .alloc t, ty, pos, af, none⟩ :: rest) a w) : wpD P ops Q R cs (⟨o, .alloc t, ty, pos, af, none⟩ :: rest) a w := h
theorem is_pick {x y z : Operand} {o : Option Tmp} {a : Act} (h : wpD P ops Q R cs (⟨o, .pick x y z, ty, pos, af, none⟩ :: rest) a w) : wpD P ops Q R cs (⟨o, .pick x y z, ty, pos, af, none⟩ :: rest) a w := h
theorem is_convert {t t2 : TypeId} {x : Operand} {o : Option Tmp} {a : Act} (h : wpD P ops Q R cs (⟨o, .convert t t2 x, ty, pos, af, none⟩ :: rest) a w) : wpD P ops Q R cs (⟨o, .convert t t2 x, ty, pos, af, none⟩ :: rest) a w := h
theorem is_slice {t : TypeId} {x : Operand} {a1 b1 c1 : Option Operand} {o : Option Tmp} {a : Act} (h : wpD P ops Q R cs (⟨o, .slice t x a1 b1 c1, ty, pos, af, none⟩ :: rest) a w) : wpD P ops Q R cs (⟨o, .slice t x a1 b1 c1, ty, pos, af, none⟩ :: rest) a w := h
theorem run_isAgg_of {T : TypeId} {D : TypeDesc} {b : Bool} (h : P.underlying T = some D) (hb : D.isRow = b) (w : World) : (isAgg T).run P w = .ok b w := by
  unfold isAgg
  rw [Sem.run_bind, run_underlying h w]
  cases D <;> simp_all
theorem run_sizeOf_of {T : TypeId} {n : Nat} (h : (P.info? T).map (·.size) = some n) (w : World) : (sizeOf T).run P w = .ok n w := by
  cases hq : P.info? T with
  | none => simp [hq] at h
  | some i => simp [sizeOf, typeInfo, hq]; simpa [hq] using h
theorem Zero.run {T : TypeId} {zs : List Value} (h : Zero P T zs) (w : World) : ∃ z, (zeroValue T).run P w = .ok z w ∧ z.cells = zs.toArray := by
  obtain ⟨i, z, h1, h2, h3⟩ := h.out
  exact ⟨z, by simp [zeroValue, typeInfo, h1, h2], h3⟩

/-- A step that leaves the world. -/
theorem T_val {o : Oper} {a : Act} {v : Value} (hg : o.guard = none) (hrun : ∀ w, (execOp a.eval o).run P w = .ok (.value v) w) (hR : cs.headD 2 = 0 ∨ R w)
    (h : wpD P ops Q R cs.tail rest (a.put o.dst v) w) : wpD P ops Q R cs (o :: rest) a w := by
  rw [wpD, if_pos (by simp [Region.wanted, hg])]
  split
  · exact ⟨v, fun w' _ => hrun w', h⟩
  · exact ⟨v, hrun w, h⟩
  · exact ⟨v, fun w' _ => hrun w', h⟩
  · rename_i h0 _ _
    unfold Oper.wp; rw [hrun w]
    exact ⟨R, R.more_refl, hR.resolve_left h0, h⟩
/-- A step that reads. -/
theorem T_read {o : Oper} {a : Act} {v : Value} (hg : o.guard = none) (hrun : (execOp a.eval o).run P w = .ok (.value v) w) (hc : cs.headD 2 = 1 ∨ (cs.headD 2 = 2 ∧ R w))
    (h : wpD P ops Q R cs.tail rest (a.put o.dst v) w) : wpD P ops Q R cs (o :: rest) a w := by
  rw [wpD, if_pos (by simp [Region.wanted, hg])]
  rcases hc with hc | ⟨hc, hR⟩
  · rw [hc]; exact ⟨v, hrun, h⟩
  · rw [hc]
    show Oper.wp P o a w _ Q
    unfold Oper.wp; rw [hrun]
    exact ⟨R, R.more_refl, hR, h⟩
/-- A step that reads what is ever known. -/
theorem T_hold {o : Oper} {a : Act} {v : Value} (hg : o.guard = none) (hc : cs.headD 2 = 0) (hrun : ∀ w, R.z w → (execOp a.eval o).run P w = .ok (.value v) w)
    (h : wpD P ops Q R cs.tail rest (a.put o.dst v) w) : wpD P ops Q R cs (o :: rest) a w := by
  rw [wpD, if_pos (by simp [Region.wanted, hg]), hc]
  exact ⟨v, hrun, h⟩
/-- A step that reads what is known now. -/
theorem T_held {o : Oper} {a : Act} {v : Value} (hg : o.guard = none) (hc : cs.headD 2 = 3) (hrun : ∀ w, R w → (execOp a.eval o).run P w = .ok (.value v) w)
    (h : wpD P ops Q R cs.tail rest (a.put o.dst v) w) : wpD P ops Q R cs (o :: rest) a w := by
  rw [wpD, if_pos (by simp [Region.wanted, hg]), hc]
  exact ⟨v, hrun, h⟩
/-- Any other step; more may be known behind it. -/
theorem T_doS {o : Oper} {a : Act} (hg : o.guard = none) (hc : cs.headD 2 = 2) (h : o.wp P a w (fun a' w' => ∃ R', Kn.more R' R ∧ R'.c w' ∧ wpD P ops Q R' cs.tail rest a' w') Q) : wpD P ops Q R cs (o :: rest) a w := by
  rw [wpD, if_pos (by simp [Region.wanted, hg]), hc]
  exact h
theorem T_do {o : Oper} {a : Act} (hg : o.guard = none) (hc : cs.headD 2 = 2) (h : o.wp P a w (fun a' w' => R w' ∧ wpD P ops Q R cs.tail rest a' w') Q) : wpD P ops Q R cs (o :: rest) a w :=
  T_doS hg hc (Oper.wp_mono (fun _ _ h' => ⟨R, R.more_refl, h'⟩) h)
/-- A guarded operation: the guard is known. -/
theorem T_yes (hN : Base N a0) {o : Option Tmp} {op : Op} {j : Nat} {b : Bool} {t : Tmp} {oj : Oper} (hj : ops[j]? = some oj) (hd : oj.dst = some t) (hv : ev N env (.tmp t) = some (.bool b))
    (h : wpD P ops Q R cs (⟨o, op, ty, pos, af, none⟩ :: rest) (puts a0 env) w) : wpD P ops Q R cs (⟨o, op, ty, pos, af, some (j, b)⟩ :: rest) (puts a0 env) w := by
  have hy : yielded ops (puts a0 env).tmps j = some b := by
    have := ev_tmp hN hv
    simp [yielded, hj, hd, this]
  rw [wpD, if_pos (by simp [Region.wanted])] at h
  rw [wpD, if_pos (by simp [Region.wanted, hy])]
  exact h
theorem T_no (hN : Base N a0) {op : Op} {j : Nat} {b c : Bool} {t : Tmp} {oj : Oper} (hj : ops[j]? = some oj) (hd : oj.dst = some t) (hv : ev N env (.tmp t) = some (.bool c)) (hne : (b == c) = false)
    (h : wpD P ops Q R cs.tail rest (puts a0 ((d, undef) :: env)) w) : wpD P ops Q R cs (⟨some d, op, ty, pos, af, some (j, b)⟩ :: rest) (puts a0 env) w := by
  have hy : yielded ops (puts a0 env).tmps j = some c := by
    have := ev_tmp hN hv
    simp [yielded, hj, hd, this]
  rw [wpD, if_neg (by simp [Region.wanted, hy]; intro e; subst e; simp at hne)]
  exact h
theorem T_guardD (hN : Base N a0) {o : Option Tmp} {op : Op} {j : Nat} {b : Bool} {t : Tmp} {oj : Oper} {p : Prop} [Decidable p] (_hj : ops[j]? = some oj) (_hd : oj.dst = some t) (hv : ev N env (.tmp t) = some (.bool (bdec p)))
    (h1 : p → wpD P ops Q R cs (⟨o, op, ty, pos, af, some (j, b)⟩ :: rest) (puts a0 ((t, .bool true) :: env)) w) (h2 : ¬ p → wpD P ops Q R cs (⟨o, op, ty, pos, af, some (j, b)⟩ :: rest) (puts a0 ((t, .bool false) :: env)) w) :
    wpD P ops Q R cs (⟨o, op, ty, pos, af, some (j, b)⟩ :: rest) (puts a0 env) w := by
  have hs := put_same (ev_tmp hN hv)
  rw [bdec_eq] at hs
  by_cases hp : p
  · have := h1 hp
    rw [decide_eq_true hp] at hs
    rw [puts, hs] at this; exact this
  · have := h2 hp
    rw [decide_eq_false hp] at hs
    rw [puts, hs] at this; exact this
theorem T_guardB (hN : Base N a0) {o : Option Tmp} {op : Op} {j : Nat} {b c : Bool} {t : Tmp} {oj : Oper} (_hj : ops[j]? = some oj) (_hd : oj.dst = some t) (hv : ev N env (.tmp t) = some (.bool c))
    (h1 : c = true → wpD P ops Q R cs (⟨o, op, ty, pos, af, some (j, b)⟩ :: rest) (puts a0 ((t, .bool true) :: env)) w) (h2 : c = false → wpD P ops Q R cs (⟨o, op, ty, pos, af, some (j, b)⟩ :: rest) (puts a0 ((t, .bool false) :: env)) w) :
    wpD P ops Q R cs (⟨o, op, ty, pos, af, some (j, b)⟩ :: rest) (puts a0 env) w := by
  have hs := put_same (ev_tmp hN hv)
  cases c
  · have := h2 rfl
    rw [puts, hs] at this; exact this
  · have := h1 rfl
    rw [puts, hs] at this; exact this
/-- The guard decides. -/
theorem T_guard (hN : Base N a0) {o : Oper} {j : Nat} {b c : Bool} {t : Tmp} {oj : Oper} (_hg : o.guard = some (j, b)) (_hj : ops[j]? = some oj) (_hd : oj.dst = some t) (hv : ev N env (.tmp t) = some (.bool c))
    (h : ∀ c', c = c' → wpD P ops Q R cs (o :: rest) (puts a0 ((t, .bool c') :: env)) w) : wpD P ops Q R cs (o :: rest) (puts a0 env) w := by
  have := h c rfl
  rw [puts, put_same (ev_tmp hN hv)] at this
  exact this

theorem T_move (hN : Base N a0) {x : Operand} {v : Value} (hx : ev N env x = some v) (hR : cs.headD 2 = 0 ∨ R w) (h : wpD P ops Q R cs.tail rest (puts a0 ((d, v) :: env)) w) :
    wpD P ops Q R cs (⟨some d, .move x, ty, pos, af, none⟩ :: rest) (puts a0 env) w :=
  T_val rfl (fun w => by
    simp [execOp, ev_spec hN hx]) hR h

theorem T_assign (hN : Base N a0) {x : Operand} {v : Value} (hx : ev N env x = some v) (hR : cs.headD 2 = 0 ∨ R w) (h : wpD P ops Q R cs.tail rest (puts a0 ((d, v) :: env)) w) :
    wpD P ops Q R cs (⟨some d, .assign x, ty, pos, af, none⟩ :: rest) (puts a0 env) w :=
  T_val rfl (fun w => by
    simp [execOp, ev_spec hN hx]) hR h

theorem T_pick1 (hN : Base N a0) {c x y : Operand} {v : Value} (hc : ev N env c = some (.bool true)) (hx : ev N env x = some v) (hR : cs.headD 2 = 0 ∨ R w) (h : wpD P ops Q R cs.tail rest (puts a0 ((d, v) :: env)) w) :
    wpD P ops Q R cs (⟨some d, .pick c x y, ty, pos, af, none⟩ :: rest) (puts a0 env) w :=
  T_val rfl (fun w => by
    simp [execOp, ev_spec hN hc, ev_spec hN hx, asBool]) hR h

theorem T_pick0 (hN : Base N a0) {c x y : Operand} {v : Value} (hc : ev N env c = some (.bool false)) (hx : ev N env y = some v) (hR : cs.headD 2 = 0 ∨ R w) (h : wpD P ops Q R cs.tail rest (puts a0 ((d, v) :: env)) w) :
    wpD P ops Q R cs (⟨some d, .pick c x y, ty, pos, af, none⟩ :: rest) (puts a0 env) w :=
  T_val rfl (fun w => by
    simp [execOp, ev_spec hN hc, ev_spec hN hx, asBool]) hR h

theorem T_pick (hN : Base N a0) {c x y : Operand} {b u v : Bool} (hc : ev N env c = some (.bool b)) (hx : ev N env x = some (.bool u)) (hy : ev N env y = some (.bool v)) (hR : cs.headD 2 = 0 ∨ R w) (h : wpD P ops Q R cs.tail rest (puts a0 ((d, .bool (bif b then u else v)) :: env)) w) :
    wpD P ops Q R cs (⟨some d, .pick c x y, ty, pos, af, none⟩ :: rest) (puts a0 env) w :=
  T_val rfl (fun w => by
    cases b <;> simp [execOp, ev_spec hN hc, ev_spec hN hx, ev_spec hN hy, asBool]) hR h

theorem T_add (hN : Base N a0) {x y : Operand} {t t2 : TypeId} {k : IntKind} {m n r : Int} (hx : ev N env x = some (.int k m)) (hy : ev N env y = some (.int k n)) (hr : k.wrap (m + n) = r) (hR : cs.headD 2 = 0 ∨ R w) (h : wpD P ops Q R cs.tail rest (puts a0 ((d, .int k r) :: env)) w) :
    wpD P ops Q R cs (⟨some d, .binOp .add t x y t2, ty, pos, af, none⟩ :: rest) (puts a0 env) w :=
  T_val rfl (fun w => by
    simp [execOp, ev_spec hN hx, ev_spec hN hy, binOp, eqGuard, Op.intArith, hr]) hR h

theorem T_sub (hN : Base N a0) {x y : Operand} {t t2 : TypeId} {k : IntKind} {m n r : Int} (hx : ev N env x = some (.int k m)) (hy : ev N env y = some (.int k n)) (hr : k.wrap (m - n) = r) (hR : cs.headD 2 = 0 ∨ R w) (h : wpD P ops Q R cs.tail rest (puts a0 ((d, .int k r) :: env)) w) :
    wpD P ops Q R cs (⟨some d, .binOp .sub t x y t2, ty, pos, af, none⟩ :: rest) (puts a0 env) w :=
  T_val rfl (fun w => by
    simp [execOp, ev_spec hN hx, ev_spec hN hy, binOp, eqGuard, Op.intArith, hr]) hR h

theorem T_mul (hN : Base N a0) {x y : Operand} {t t2 : TypeId} {k : IntKind} {m n r : Int} (hx : ev N env x = some (.int k m)) (hy : ev N env y = some (.int k n)) (hr : k.wrap (m * n) = r) (hR : cs.headD 2 = 0 ∨ R w) (h : wpD P ops Q R cs.tail rest (puts a0 ((d, .int k r) :: env)) w) :
    wpD P ops Q R cs (⟨some d, .binOp .mul t x y t2, ty, pos, af, none⟩ :: rest) (puts a0 env) w :=
  T_val rfl (fun w => by
    simp [execOp, ev_spec hN hx, ev_spec hN hy, binOp, eqGuard, Op.intArith, hr]) hR h

theorem T_addi64 (hN : Base N a0) {x y : Operand} {t t2 : TypeId} {m n : Int} (hx : ev N env x = some (.int .i64 m)) (hy : ev N env y = some (.int .i64 n)) (hb : -9223372036854775808 ≤ m + n ∧ m + n ≤ 9223372036854775807) (hR : cs.headD 2 = 0 ∨ R w) (h : wpD P ops Q R cs.tail rest (puts a0 ((d, .int .i64 (m + n)) :: env)) w) :
    wpD P ops Q R cs (⟨some d, .binOp .add t x y t2, ty, pos, af, none⟩ :: rest) (puts a0 env) w :=
  T_val rfl (fun w => by
    have hr := Go.IntWalk.i64_in _ hb
    simp [execOp, ev_spec hN hx, ev_spec hN hy, binOp, eqGuard, Op.intArith, hr]) hR h

theorem T_addu64 (hN : Base N a0) {x y : Operand} {t t2 : TypeId} {m n : Int} (hx : ev N env x = some (.int .u64 m)) (hy : ev N env y = some (.int .u64 n)) (hb : 0 ≤ m + n ∧ m + n ≤ 18446744073709551615) (hR : cs.headD 2 = 0 ∨ R w) (h : wpD P ops Q R cs.tail rest (puts a0 ((d, .int .u64 (m + n)) :: env)) w) :
    wpD P ops Q R cs (⟨some d, .binOp .add t x y t2, ty, pos, af, none⟩ :: rest) (puts a0 env) w :=
  T_val rfl (fun w => by
    have hr := Go.IntWalk.u64_in _ hb
    simp [execOp, ev_spec hN hx, ev_spec hN hy, binOp, eqGuard, Op.intArith, hr]) hR h

theorem T_addu32 (hN : Base N a0) {x y : Operand} {t t2 : TypeId} {m n : Int} (hx : ev N env x = some (.int .u32 m)) (hy : ev N env y = some (.int .u32 n)) (hb : 0 ≤ m + n ∧ m + n ≤ 4294967295) (hR : cs.headD 2 = 0 ∨ R w) (h : wpD P ops Q R cs.tail rest (puts a0 ((d, .int .u32 (m + n)) :: env)) w) :
    wpD P ops Q R cs (⟨some d, .binOp .add t x y t2, ty, pos, af, none⟩ :: rest) (puts a0 env) w :=
  T_val rfl (fun w => by
    have hr := Go.IntWalk.u32_in _ hb
    simp [execOp, ev_spec hN hx, ev_spec hN hy, binOp, eqGuard, Op.intArith, hr]) hR h

theorem T_addu8 (hN : Base N a0) {x y : Operand} {t t2 : TypeId} {m n : Int} (hx : ev N env x = some (.int .u8 m)) (hy : ev N env y = some (.int .u8 n)) (hb : 0 ≤ m + n ∧ m + n ≤ 255) (hR : cs.headD 2 = 0 ∨ R w) (h : wpD P ops Q R cs.tail rest (puts a0 ((d, .int .u8 (m + n)) :: env)) w) :
    wpD P ops Q R cs (⟨some d, .binOp .add t x y t2, ty, pos, af, none⟩ :: rest) (puts a0 env) w :=
  T_val rfl (fun w => by
    have hr := Go.IntWalk.u8_in _ hb
    simp [execOp, ev_spec hN hx, ev_spec hN hy, binOp, eqGuard, Op.intArith, hr]) hR h

theorem T_addw (hN : Base N a0) {x y : Operand} {t t2 : TypeId} {k : IntKind} {m n : Int} (hx : ev N env x = some (.int k m)) (hy : ev N env y = some (.int k n)) (hR : cs.headD 2 = 0 ∨ R w) (h : wpD P ops Q R cs.tail rest (puts a0 ((d, .int k (k.wrap (m + n))) :: env)) w) :
    wpD P ops Q R cs (⟨some d, .binOp .add t x y t2, ty, pos, af, none⟩ :: rest) (puts a0 env) w :=
  T_val rfl (fun w => by
    simp [execOp, ev_spec hN hx, ev_spec hN hy, binOp, eqGuard, Op.intArith]) hR h

theorem T_subi64 (hN : Base N a0) {x y : Operand} {t t2 : TypeId} {m n : Int} (hx : ev N env x = some (.int .i64 m)) (hy : ev N env y = some (.int .i64 n)) (hb : -9223372036854775808 ≤ m - n ∧ m - n ≤ 9223372036854775807) (hR : cs.headD 2 = 0 ∨ R w) (h : wpD P ops Q R cs.tail rest (puts a0 ((d, .int .i64 (m - n)) :: env)) w) :
    wpD P ops Q R cs (⟨some d, .binOp .sub t x y t2, ty, pos, af, none⟩ :: rest) (puts a0 env) w :=
  T_val rfl (fun w => by
    have hr := Go.IntWalk.i64_in _ hb
    simp [execOp, ev_spec hN hx, ev_spec hN hy, binOp, eqGuard, Op.intArith, hr]) hR h

theorem T_subu64 (hN : Base N a0) {x y : Operand} {t t2 : TypeId} {m n : Int} (hx : ev N env x = some (.int .u64 m)) (hy : ev N env y = some (.int .u64 n)) (hb : 0 ≤ m - n ∧ m - n ≤ 18446744073709551615) (hR : cs.headD 2 = 0 ∨ R w) (h : wpD P ops Q R cs.tail rest (puts a0 ((d, .int .u64 (m - n)) :: env)) w) :
    wpD P ops Q R cs (⟨some d, .binOp .sub t x y t2, ty, pos, af, none⟩ :: rest) (puts a0 env) w :=
  T_val rfl (fun w => by
    have hr := Go.IntWalk.u64_in _ hb
    simp [execOp, ev_spec hN hx, ev_spec hN hy, binOp, eqGuard, Op.intArith, hr]) hR h

theorem T_subu32 (hN : Base N a0) {x y : Operand} {t t2 : TypeId} {m n : Int} (hx : ev N env x = some (.int .u32 m)) (hy : ev N env y = some (.int .u32 n)) (hb : 0 ≤ m - n ∧ m - n ≤ 4294967295) (hR : cs.headD 2 = 0 ∨ R w) (h : wpD P ops Q R cs.tail rest (puts a0 ((d, .int .u32 (m - n)) :: env)) w) :
    wpD P ops Q R cs (⟨some d, .binOp .sub t x y t2, ty, pos, af, none⟩ :: rest) (puts a0 env) w :=
  T_val rfl (fun w => by
    have hr := Go.IntWalk.u32_in _ hb
    simp [execOp, ev_spec hN hx, ev_spec hN hy, binOp, eqGuard, Op.intArith, hr]) hR h

theorem T_subu8 (hN : Base N a0) {x y : Operand} {t t2 : TypeId} {m n : Int} (hx : ev N env x = some (.int .u8 m)) (hy : ev N env y = some (.int .u8 n)) (hb : 0 ≤ m - n ∧ m - n ≤ 255) (hR : cs.headD 2 = 0 ∨ R w) (h : wpD P ops Q R cs.tail rest (puts a0 ((d, .int .u8 (m - n)) :: env)) w) :
    wpD P ops Q R cs (⟨some d, .binOp .sub t x y t2, ty, pos, af, none⟩ :: rest) (puts a0 env) w :=
  T_val rfl (fun w => by
    have hr := Go.IntWalk.u8_in _ hb
    simp [execOp, ev_spec hN hx, ev_spec hN hy, binOp, eqGuard, Op.intArith, hr]) hR h

theorem T_subw (hN : Base N a0) {x y : Operand} {t t2 : TypeId} {k : IntKind} {m n : Int} (hx : ev N env x = some (.int k m)) (hy : ev N env y = some (.int k n)) (hR : cs.headD 2 = 0 ∨ R w) (h : wpD P ops Q R cs.tail rest (puts a0 ((d, .int k (k.wrap (m - n))) :: env)) w) :
    wpD P ops Q R cs (⟨some d, .binOp .sub t x y t2, ty, pos, af, none⟩ :: rest) (puts a0 env) w :=
  T_val rfl (fun w => by
    simp [execOp, ev_spec hN hx, ev_spec hN hy, binOp, eqGuard, Op.intArith]) hR h

theorem T_muli64 (hN : Base N a0) {x y : Operand} {t t2 : TypeId} {m n : Int} (hx : ev N env x = some (.int .i64 m)) (hy : ev N env y = some (.int .i64 n)) (hb : -9223372036854775808 ≤ m * n ∧ m * n ≤ 9223372036854775807) (hR : cs.headD 2 = 0 ∨ R w) (h : wpD P ops Q R cs.tail rest (puts a0 ((d, .int .i64 (m * n)) :: env)) w) :
    wpD P ops Q R cs (⟨some d, .binOp .mul t x y t2, ty, pos, af, none⟩ :: rest) (puts a0 env) w :=
  T_val rfl (fun w => by
    have hr := Go.IntWalk.i64_in _ hb
    simp [execOp, ev_spec hN hx, ev_spec hN hy, binOp, eqGuard, Op.intArith, hr]) hR h

theorem T_mulu64 (hN : Base N a0) {x y : Operand} {t t2 : TypeId} {m n : Int} (hx : ev N env x = some (.int .u64 m)) (hy : ev N env y = some (.int .u64 n)) (hb : 0 ≤ m * n ∧ m * n ≤ 18446744073709551615) (hR : cs.headD 2 = 0 ∨ R w) (h : wpD P ops Q R cs.tail rest (puts a0 ((d, .int .u64 (m * n)) :: env)) w) :
    wpD P ops Q R cs (⟨some d, .binOp .mul t x y t2, ty, pos, af, none⟩ :: rest) (puts a0 env) w :=
  T_val rfl (fun w => by
    have hr := Go.IntWalk.u64_in _ hb
    simp [execOp, ev_spec hN hx, ev_spec hN hy, binOp, eqGuard, Op.intArith, hr]) hR h

theorem T_mulu32 (hN : Base N a0) {x y : Operand} {t t2 : TypeId} {m n : Int} (hx : ev N env x = some (.int .u32 m)) (hy : ev N env y = some (.int .u32 n)) (hb : 0 ≤ m * n ∧ m * n ≤ 4294967295) (hR : cs.headD 2 = 0 ∨ R w) (h : wpD P ops Q R cs.tail rest (puts a0 ((d, .int .u32 (m * n)) :: env)) w) :
    wpD P ops Q R cs (⟨some d, .binOp .mul t x y t2, ty, pos, af, none⟩ :: rest) (puts a0 env) w :=
  T_val rfl (fun w => by
    have hr := Go.IntWalk.u32_in _ hb
    simp [execOp, ev_spec hN hx, ev_spec hN hy, binOp, eqGuard, Op.intArith, hr]) hR h

theorem T_mulu8 (hN : Base N a0) {x y : Operand} {t t2 : TypeId} {m n : Int} (hx : ev N env x = some (.int .u8 m)) (hy : ev N env y = some (.int .u8 n)) (hb : 0 ≤ m * n ∧ m * n ≤ 255) (hR : cs.headD 2 = 0 ∨ R w) (h : wpD P ops Q R cs.tail rest (puts a0 ((d, .int .u8 (m * n)) :: env)) w) :
    wpD P ops Q R cs (⟨some d, .binOp .mul t x y t2, ty, pos, af, none⟩ :: rest) (puts a0 env) w :=
  T_val rfl (fun w => by
    have hr := Go.IntWalk.u8_in _ hb
    simp [execOp, ev_spec hN hx, ev_spec hN hy, binOp, eqGuard, Op.intArith, hr]) hR h

theorem T_mulw (hN : Base N a0) {x y : Operand} {t t2 : TypeId} {k : IntKind} {m n : Int} (hx : ev N env x = some (.int k m)) (hy : ev N env y = some (.int k n)) (hR : cs.headD 2 = 0 ∨ R w) (h : wpD P ops Q R cs.tail rest (puts a0 ((d, .int k (k.wrap (m * n))) :: env)) w) :
    wpD P ops Q R cs (⟨some d, .binOp .mul t x y t2, ty, pos, af, none⟩ :: rest) (puts a0 env) w :=
  T_val rfl (fun w => by
    simp [execOp, ev_spec hN hx, ev_spec hN hy, binOp, eqGuard, Op.intArith]) hR h

theorem T_quo (hN : Base N a0) {x y : Operand} {t t2 : TypeId} {k : IntKind} {m n r : Int} (hx : ev N env x = some (.int k m)) (hy : ev N env y = some (.int k n)) (h0 : ¬ n = 0) (hr : k.wrap (m.tdiv n) = r) (hR : cs.headD 2 = 0 ∨ R w) (h : wpD P ops Q R cs.tail rest (puts a0 ((d, .int k r) :: env)) w) :
    wpD P ops Q R cs (⟨some d, .binOp .quo t x y t2, ty, pos, af, none⟩ :: rest) (puts a0 env) w :=
  T_val rfl (fun w => by
    simp [execOp, ev_spec hN hx, ev_spec hN hy, binOp, eqGuard, Op.intDiv, h0, hr]) hR h

theorem T_rem (hN : Base N a0) {x y : Operand} {t t2 : TypeId} {k : IntKind} {m n r : Int} (hx : ev N env x = some (.int k m)) (hy : ev N env y = some (.int k n)) (h0 : ¬ n = 0) (hr : m.tmod n = r) (hR : cs.headD 2 = 0 ∨ R w) (h : wpD P ops Q R cs.tail rest (puts a0 ((d, .int k r) :: env)) w) :
    wpD P ops Q R cs (⟨some d, .binOp .rem t x y t2, ty, pos, af, none⟩ :: rest) (puts a0 env) w :=
  T_val rfl (fun w => by
    simp [execOp, ev_spec hN hx, ev_spec hN hy, binOp, eqGuard, Op.intDiv, h0, hr]) hR h

theorem T_and (hN : Base N a0) {x y : Operand} {t t2 : TypeId} {k : IntKind} {m n r : Int} (hx : ev N env x = some (.int k m)) (hy : ev N env y = some (.int k n)) (hr : k.wrap (((m % 2 ^ k.bits).toNat &&& (n % 2 ^ k.bits).toNat : Nat) : Int) = r) (hR : cs.headD 2 = 0 ∨ R w) (h : wpD P ops Q R cs.tail rest (puts a0 ((d, .int k r) :: env)) w) :
    wpD P ops Q R cs (⟨some d, .binOp .and t x y t2, ty, pos, af, none⟩ :: rest) (puts a0 env) w :=
  T_val rfl (fun w => by
    simp [execOp, ev_spec hN hx, ev_spec hN hy, binOp, eqGuard, Op.intBits, hr]) hR h

theorem T_or (hN : Base N a0) {x y : Operand} {t t2 : TypeId} {k : IntKind} {m n r : Int} (hx : ev N env x = some (.int k m)) (hy : ev N env y = some (.int k n)) (hr : k.wrap (((m % 2 ^ k.bits).toNat ||| (n % 2 ^ k.bits).toNat : Nat) : Int) = r) (hR : cs.headD 2 = 0 ∨ R w) (h : wpD P ops Q R cs.tail rest (puts a0 ((d, .int k r) :: env)) w) :
    wpD P ops Q R cs (⟨some d, .binOp .or t x y t2, ty, pos, af, none⟩ :: rest) (puts a0 env) w :=
  T_val rfl (fun w => by
    simp [execOp, ev_spec hN hx, ev_spec hN hy, binOp, eqGuard, Op.intBits, hr]) hR h

theorem T_xor (hN : Base N a0) {x y : Operand} {t t2 : TypeId} {k : IntKind} {m n r : Int} (hx : ev N env x = some (.int k m)) (hy : ev N env y = some (.int k n)) (hr : k.wrap (((m % 2 ^ k.bits).toNat ^^^ (n % 2 ^ k.bits).toNat : Nat) : Int) = r) (hR : cs.headD 2 = 0 ∨ R w) (h : wpD P ops Q R cs.tail rest (puts a0 ((d, .int k r) :: env)) w) :
    wpD P ops Q R cs (⟨some d, .binOp .xor t x y t2, ty, pos, af, none⟩ :: rest) (puts a0 env) w :=
  T_val rfl (fun w => by
    simp [execOp, ev_spec hN hx, ev_spec hN hy, binOp, eqGuard, Op.intBits, hr]) hR h

theorem T_lss (hN : Base N a0) {x y : Operand} {t t2 : TypeId} {k : IntKind} {m n : Int} (hx : ev N env x = some (.int k m)) (hy : ev N env y = some (.int k n))  (hR : cs.headD 2 = 0 ∨ R w) (h : wpD P ops Q R cs.tail rest (puts a0 ((d, .bool (bdec (m < n))) :: env)) w) :
    wpD P ops Q R cs (⟨some d, .binOp .lss t x y t2, ty, pos, af, none⟩ :: rest) (puts a0 env) w :=
  T_val rfl (fun w => by
    simp [execOp, ev_spec hN hx, ev_spec hN hy, binOp, eqGuard, Op.intCmp, bdec_eq]) hR h

theorem T_leq (hN : Base N a0) {x y : Operand} {t t2 : TypeId} {k : IntKind} {m n : Int} (hx : ev N env x = some (.int k m)) (hy : ev N env y = some (.int k n))  (hR : cs.headD 2 = 0 ∨ R w) (h : wpD P ops Q R cs.tail rest (puts a0 ((d, .bool (bdec (m ≤ n))) :: env)) w) :
    wpD P ops Q R cs (⟨some d, .binOp .leq t x y t2, ty, pos, af, none⟩ :: rest) (puts a0 env) w :=
  T_val rfl (fun w => by
    simp [execOp, ev_spec hN hx, ev_spec hN hy, binOp, eqGuard, Op.intCmp, bdec_eq]) hR h

theorem T_gtr (hN : Base N a0) {x y : Operand} {t t2 : TypeId} {k : IntKind} {m n : Int} (hx : ev N env x = some (.int k m)) (hy : ev N env y = some (.int k n))  (hR : cs.headD 2 = 0 ∨ R w) (h : wpD P ops Q R cs.tail rest (puts a0 ((d, .bool (bdec (n < m))) :: env)) w) :
    wpD P ops Q R cs (⟨some d, .binOp .gtr t x y t2, ty, pos, af, none⟩ :: rest) (puts a0 env) w :=
  T_val rfl (fun w => by
    simp [execOp, ev_spec hN hx, ev_spec hN hy, binOp, eqGuard, Op.intCmp, bdec_eq]) hR h

theorem T_geq (hN : Base N a0) {x y : Operand} {t t2 : TypeId} {k : IntKind} {m n : Int} (hx : ev N env x = some (.int k m)) (hy : ev N env y = some (.int k n))  (hR : cs.headD 2 = 0 ∨ R w) (h : wpD P ops Q R cs.tail rest (puts a0 ((d, .bool (bdec (n ≤ m))) :: env)) w) :
    wpD P ops Q R cs (⟨some d, .binOp .geq t x y t2, ty, pos, af, none⟩ :: rest) (puts a0 env) w :=
  T_val rfl (fun w => by
    simp [execOp, ev_spec hN hx, ev_spec hN hy, binOp, eqGuard, Op.intCmp, bdec_eq]) hR h

theorem T_eql (hN : Base N a0) {x y : Operand} {t t2 : TypeId} {k : IntKind} {m n : Int} (hx : ev N env x = some (.int k m)) (hy : ev N env y = some (.int k n))  (hR : cs.headD 2 = 0 ∨ R w) (h : wpD P ops Q R cs.tail rest (puts a0 ((d, .bool (bdec (m = n))) :: env)) w) :
    wpD P ops Q R cs (⟨some d, .binOp .eql t x y t2, ty, pos, af, none⟩ :: rest) (puts a0 env) w :=
  T_val rfl (fun w => by
    have e : (m == n) = decide (m = n) := by by_cases h : m = n <;> simp [h]
    simp [execOp, ev_spec hN hx, ev_spec hN hy, binOp, eqGuard, Op.intCmp, bdec_eq, e]) hR h

theorem T_neq (hN : Base N a0) {x y : Operand} {t t2 : TypeId} {k : IntKind} {m n : Int} (hx : ev N env x = some (.int k m)) (hy : ev N env y = some (.int k n))  (hR : cs.headD 2 = 0 ∨ R w) (h : wpD P ops Q R cs.tail rest (puts a0 ((d, .bool (bdec (¬ m = n))) :: env)) w) :
    wpD P ops Q R cs (⟨some d, .binOp .neq t x y t2, ty, pos, af, none⟩ :: rest) (puts a0 env) w :=
  T_val rfl (fun w => by
    have e : (m != n) = decide (¬ m = n) := by by_cases h : m = n <;> simp [h]
    simp [execOp, ev_spec hN hx, ev_spec hN hy, binOp, eqGuard, Op.intCmp, bdec_eq, e]) hR h

theorem T_shl (hN : Base N a0) {x y : Operand} {t t2 : TypeId} {k k2 : IntKind} {m n r : Int} (hx : ev N env x = some (.int k m)) (hy : ev N env y = some (.int k2 n)) (h0 : 0 ≤ n) (hr : k.wrap (m * 2 ^ (min n.toNat k.bits)) = r) (hR : cs.headD 2 = 0 ∨ R w) (h : wpD P ops Q R cs.tail rest (puts a0 ((d, .int k r) :: env)) w) :
    wpD P ops Q R cs (⟨some d, .binOp .shl t x y t2, ty, pos, af, none⟩ :: rest) (puts a0 env) w :=
  T_val rfl (fun w => by
    simp [execOp, ev_spec hN hx, ev_spec hN hy, binOp, eqGuard, Op.shift, Int.not_lt.2 h0, hr]) hR h

theorem T_shr (hN : Base N a0) {x y : Operand} {t t2 : TypeId} {k k2 : IntKind} {m n r : Int} (hx : ev N env x = some (.int k m)) (hy : ev N env y = some (.int k2 n)) (h0 : 0 ≤ n) (hr : m.fdiv (2 ^ (min n.toNat k.bits)) = r) (hR : cs.headD 2 = 0 ∨ R w) (h : wpD P ops Q R cs.tail rest (puts a0 ((d, .int k r) :: env)) w) :
    wpD P ops Q R cs (⟨some d, .binOp .shr t x y t2, ty, pos, af, none⟩ :: rest) (puts a0 env) w :=
  T_val rfl (fun w => by
    simp [execOp, ev_spec hN hx, ev_spec hN hy, binOp, eqGuard, Op.shift, Int.not_lt.2 h0, hr]) hR h

theorem T_not (hN : Base N a0) {x : Operand} {t : TypeId} {b : Bool} (hx : ev N env x = some (.bool b)) (hR : cs.headD 2 = 0 ∨ R w) (h : wpD P ops Q R cs.tail rest (puts a0 ((d, .bool !b) :: env)) w) :
    wpD P ops Q R cs (⟨some d, .unOp .not t x, ty, pos, af, none⟩ :: rest) (puts a0 env) w :=
  T_val rfl (fun w => by
    simp [execOp, ev_spec hN hx, Op.unary]) hR h

theorem T_notd (hN : Base N a0) {x : Operand} {t : TypeId} {p : Prop} [Decidable p] (hx : ev N env x = some (.bool (bdec p))) (hR : cs.headD 2 = 0 ∨ R w) (h : wpD P ops Q R cs.tail rest (puts a0 ((d, .bool (bdec (¬ p))) :: env)) w) :
    wpD P ops Q R cs (⟨some d, .unOp .not t x, ty, pos, af, none⟩ :: rest) (puts a0 env) w :=
  T_val rfl (fun w => by
    simp [execOp, ev_spec hN hx, Op.unary, bdec_eq]) hR h

theorem T_conv (hN : Base N a0) {x : Operand} {t t2 : TypeId} {k k2 : IntKind} {m r : Int} (hx : ev N env x = some (.int k m)) [h1 : Und P t (.int k)] [h2 : Und P t2 (.int k2)] (hr : k2.wrap m = r) (hR : cs.headD 2 = 0 ∨ R w) (h : wpD P ops Q R cs.tail rest (puts a0 ((d, .int k2 r) :: env)) w) :
    wpD P ops Q R cs (⟨some d, .convert t t2 x, ty, pos, af, none⟩ :: rest) (puts a0 env) w :=
  T_val rfl (fun w => by
    simp [execOp, ev_spec hN hx, convert, run_underlying h1.out, run_underlying h2.out, Conv.intToInt, hr]) hR h

theorem T_nilCheck (hN : Base N a0) {x : Operand} {a : Addr} (hx : ev N env x = some (.pointer (some a))) (hR : cs.headD 2 = 0 ∨ R w) (h : wpD P ops Q R cs.tail rest (puts a0 ((d, .pointer (some a)) :: env)) w) :
    wpD P ops Q R cs (⟨some d, .nilCheck x, ty, pos, af, none⟩ :: rest) (puts a0 env) w :=
  T_val rfl (fun w => by
    simp [execOp, ev_spec hN hx]) hR h

theorem T_eqlnil (hN : Base N a0) {x y : Operand} {t t2 e : TypeId} {p : Option Addr} [ht : Und P t (.pointer e)] (hx : ev N env x = some (.pointer p)) (hy : ev N env y = some (.pointer none)) (hR : cs.headD 2 = 0 ∨ R w) (h : wpD P ops Q R cs.tail rest (puts a0 ((d, .bool ( p.isNone)) :: env)) w) :
    wpD P ops Q R cs (⟨some d, .binOp .eql t x y t2, ty, pos, af, none⟩ :: rest) (puts a0 env) w :=
  T_val rfl (fun w => by
    have hr := run_eql_pointer_nil (P := P) w t p (by simp [Program.pointee, ht.out])
    simp [execOp, ev_spec hN hx, ev_spec hN hy, eqGuard, hr]) hR h

theorem T_neqnil (hN : Base N a0) {x y : Operand} {t t2 e : TypeId} {p : Option Addr} [ht : Und P t (.pointer e)] (hx : ev N env x = some (.pointer p)) (hy : ev N env y = some (.pointer none)) (hR : cs.headD 2 = 0 ∨ R w) (h : wpD P ops Q R cs.tail rest (puts a0 ((d, .bool (! p.isNone)) :: env)) w) :
    wpD P ops Q R cs (⟨some d, .binOp .neq t x y t2, ty, pos, af, none⟩ :: rest) (puts a0 env) w :=
  T_val rfl (fun w => by
    have hr := run_neq_pointer_nil (P := P) w t p (by simp [Program.pointee, ht.out])
    simp [execOp, ev_spec hN hx, ev_spec hN hy, eqGuard, hr]) hR h

theorem T_eqlb (hN : Base N a0) {x y : Operand} {t t2 : TypeId} {b c : Bool} [ht : Und P t (.bool)] (hx : ev N env x = some (.bool b)) (hy : ev N env y = some (.bool c)) (hR : cs.headD 2 = 0 ∨ R w) (h : wpD P ops Q R cs.tail rest (puts a0 ((d, .bool ((b == c))) :: env)) w) :
    wpD P ops Q R cs (⟨some d, .binOp .eql t x y t2, ty, pos, af, none⟩ :: rest) (puts a0 env) w :=
  T_val rfl (fun w => by
    have hr := run_eql_bool (P := P) w t b c ht.out
    simp [execOp, ev_spec hN hx, ev_spec hN hy, eqGuard, hr]) hR h

theorem T_eqls (hN : Base N a0) {x y : Operand} {t t2 : TypeId} {b c : ByteArray} (hx : ev N env x = some (.string b)) (hy : ev N env y = some (.string c)) (hR : cs.headD 2 = 0 ∨ R w) (h : wpD P ops Q R cs.tail rest (puts a0 ((d, .bool ((b.toList == c.toList))) :: env)) w) :
    wpD P ops Q R cs (⟨some d, .binOp .eql t x y t2, ty, pos, af, none⟩ :: rest) (puts a0 env) w :=
  T_val rfl (fun w => by
    simp [execOp, ev_spec hN hx, ev_spec hN hy, binOp, eqGuard, Op.stringOp]) hR h

theorem T_eqlslc (hN : Base N a0) {x y : Operand} {t t2 e : TypeId} {p : Option Addr} {n c : Nat} [ht : Und P t (.slice e)] (hx : ev N env x = some (.slice p n c)) (hy : ev N env y = some (.slice none 0 0)) (hR : cs.headD 2 = 0 ∨ R w) (h : wpD P ops Q R cs.tail rest (puts a0 ((d, .bool ( p.isNone)) :: env)) w) :
    wpD P ops Q R cs (⟨some d, .binOp .eql t x y t2, ty, pos, af, none⟩ :: rest) (puts a0 env) w :=
  T_val rfl (fun w => by
    have hr := Lib.run_eql_slice_nil (P := P) w t e p n c 0 0 ht.out
    simp [execOp, ev_spec hN hx, ev_spec hN hy, eqGuard, hr]) hR h

theorem T_neqb (hN : Base N a0) {x y : Operand} {t t2 : TypeId} {b c : Bool} [ht : Und P t (.bool)] (hx : ev N env x = some (.bool b)) (hy : ev N env y = some (.bool c)) (hR : cs.headD 2 = 0 ∨ R w) (h : wpD P ops Q R cs.tail rest (puts a0 ((d, .bool (!(b == c))) :: env)) w) :
    wpD P ops Q R cs (⟨some d, .binOp .neq t x y t2, ty, pos, af, none⟩ :: rest) (puts a0 env) w :=
  T_val rfl (fun w => by
    have hr := run_neq_bool (P := P) w t b c ht.out
    simp [execOp, ev_spec hN hx, ev_spec hN hy, eqGuard, hr]) hR h

theorem T_neqs (hN : Base N a0) {x y : Operand} {t t2 : TypeId} {b c : ByteArray} (hx : ev N env x = some (.string b)) (hy : ev N env y = some (.string c)) (hR : cs.headD 2 = 0 ∨ R w) (h : wpD P ops Q R cs.tail rest (puts a0 ((d, .bool (!(b.toList == c.toList))) :: env)) w) :
    wpD P ops Q R cs (⟨some d, .binOp .neq t x y t2, ty, pos, af, none⟩ :: rest) (puts a0 env) w :=
  T_val rfl (fun w => by
    simp [execOp, ev_spec hN hx, ev_spec hN hy, binOp, eqGuard, Op.stringOp]) hR h

theorem T_neqslc (hN : Base N a0) {x y : Operand} {t t2 e : TypeId} {p : Option Addr} {n c : Nat} [ht : Und P t (.slice e)] (hx : ev N env x = some (.slice p n c)) (hy : ev N env y = some (.slice none 0 0)) (hR : cs.headD 2 = 0 ∨ R w) (h : wpD P ops Q R cs.tail rest (puts a0 ((d, .bool (! p.isNone)) :: env)) w) :
    wpD P ops Q R cs (⟨some d, .binOp .neq t x y t2, ty, pos, af, none⟩ :: rest) (puts a0 env) w :=
  T_val rfl (fun w => by
    have hr := run_neq_slice_nil_any (P := P) w t e p n c 0 0 ht.out
    simp [execOp, ev_spec hN hx, ev_spec hN hy, eqGuard, hr]) hR h

theorem T_fieldAddr (hN : Base N a0) {x : Operand} {s : TypeId} {f g o off : Nat} {T : TypeId} [hf : Fld P s f off T] (hx : ev N env x = some (.pointer (some ⟨g, o, none⟩))) (hR : cs.headD 2 = 0 ∨ R w) (h : wpD P ops Q R cs.tail rest (puts a0 ((d, .pointer (some ⟨g, o + off, none⟩)) :: env)) w) :
    wpD P ops Q R cs (⟨some d, .fieldAddr s x f, ty, pos, af, none⟩ :: rest) (puts a0 env) w :=
  T_val rfl (fun w => by
    obtain ⟨fs, fd, n, h1, h2, h3, h4, h5⟩ := hf.out
    have h6 := run_sizeOf_of (P := P) h5
    subst h3; subst h4
    have hadd : (⟨g, o, none⟩ : Addr).add fd.offset = ⟨g, o + fd.offset, none⟩ := by unfold Addr.add; split <;> simp_all
    simp [execOp, ev_spec hN hx, Instr.fieldAt, run_underlying h1, h2, Instr.sureAddr, fieldPlace, h6, hadd]) hR h

theorem T_field1 (hN : Base N a0) {x : Operand} {s : TypeId} {f off : Nat} {T : TypeId} {vs : List Value} {v : Value} [hf : Fld P s f off T] [ho : One P T] (hx : ev N env x = some (.agg vs.toArray)) (hv : vs[off]? = some v) (hR : cs.headD 2 = 0 ∨ R w) (h : wpD P ops Q R cs.tail rest (puts a0 ((d, v) :: env)) w) :
    wpD P ops Q R cs (⟨some d, .field s x f, ty, pos, af, none⟩ :: rest) (puts a0 env) w :=
  T_val rfl (fun w => by
    obtain ⟨fs, fd, n, h1, h2, h3, h4, h5⟩ := hf.out
    obtain ⟨⟨D, u1, u2⟩, _⟩ := ho.out
    subst h3; subst h4
    simp [execOp, ev_spec hN hx, Instr.field, run_underlying h1, h2, asAgg, part, run_isAgg_of u1 u2, hv]) hR h

theorem T_fieldn (hN : Base N a0) {x : Operand} {s : TypeId} {f off n : Nat} {T : TypeId} {vs us : List Value} [hf : Fld P s f off T] [ho : Row P T n] (hx : ev N env x = some (.agg vs.toArray)) (hv : (vs.drop off).take n = us) (hR : cs.headD 2 = 0 ∨ R w) (h : wpD P ops Q R cs.tail rest (puts a0 ((d, .agg us.toArray) :: env)) w) :
    wpD P ops Q R cs (⟨some d, .field s x f, ty, pos, af, none⟩ :: rest) (puts a0 env) w :=
  T_val rfl (fun w => by
    obtain ⟨fs, fd, n', h1, h2, h3, h4, h5⟩ := hf.out
    obtain ⟨⟨D, u1, u2⟩, u3⟩ := ho.out
    subst h3; subst h4; subst hv
    have h6 := run_sizeOf_of (P := P) u3
    have : vs.toArray.extract fd.offset (fd.offset + n) = ((vs.drop fd.offset).take n).toArray := by simp [List.extract_eq_take_drop]
    simp [execOp, ev_spec hN hx, Instr.field, run_underlying h1, h2, asAgg, part, run_isAgg_of u1 u2, h6]) hR h

theorem T_extract (hN : Base N a0) {x : Operand} {i : Nat} {vs : List Value} {v : Value} (hx : ev N env x = some (.tuple vs.toArray)) (hv : vs[i]? = some v) (hR : cs.headD 2 = 0 ∨ R w) (h : wpD P ops Q R cs.tail rest (puts a0 ((d, v) :: env)) w) :
    wpD P ops Q R cs (⟨some d, .extract x i, ty, pos, af, none⟩ :: rest) (puts a0 env) w :=
  T_val rfl (fun w => by
    simp [execOp, ev_spec hN hx, Instr.extract, hv]) hR h

theorem T_len (hN : Base N a0) {x : Operand} {t e : TypeId} {p : Option Addr} {n c : Nat} [ht : Und P t (.slice e)] (hx : ev N env x = some (.slice p n c)) (hR : cs.headD 2 = 0 ∨ R w) (h : wpD P ops Q R cs.tail rest (puts a0 ((d, .int .i64 n) :: env)) w) :
    wpD P ops Q R cs (⟨some d, .call { callee := .builtin .len, args := #[x], argTypes := #[t] }, ty, pos, af, none⟩ :: rest) (puts a0 env) w :=
  T_val rfl (fun w => by
    simp [execOp, ev_spec hN hx, resolve, invoke, builtin, Builtin.len_, run_underlying ht.out, goInt]) hR h

theorem T_lens (hN : Base N a0) {x : Operand} {t : TypeId} {s : ByteArray} [ht : Und P t (.string)] (hx : ev N env x = some (.string s)) (hR : cs.headD 2 = 0 ∨ R w) (h : wpD P ops Q R cs.tail rest (puts a0 ((d, .int .i64 s.size) :: env)) w) :
    wpD P ops Q R cs (⟨some d, .call { callee := .builtin .len, args := #[x], argTypes := #[t] }, ty, pos, af, none⟩ :: rest) (puts a0 env) w :=
  T_val rfl (fun w => by
    simp [execOp, ev_spec hN hx, resolve, invoke, builtin, Builtin.len_, run_underlying ht.out, goInt]) hR h

theorem T_cap (hN : Base N a0) {x : Operand} {t e : TypeId} {p : Option Addr} {n c : Nat} [ht : Und P t (.slice e)] (hx : ev N env x = some (.slice p n c)) (hR : cs.headD 2 = 0 ∨ R w) (h : wpD P ops Q R cs.tail rest (puts a0 ((d, .int .i64 c) :: env)) w) :
    wpD P ops Q R cs (⟨some d, .call { callee := .builtin .cap, args := #[x], argTypes := #[t] }, ty, pos, af, none⟩ :: rest) (puts a0 env) w :=
  T_val rfl (fun w => by
    simp [execOp, ev_spec hN hx, resolve, invoke, builtin, Builtin.cap_, run_underlying ht.out, goInt]) hR h

theorem T_max (hN : Base N a0) {x y : Operand} {t t2 : TypeId} {k : IntKind} {m n : Int} (hx : ev N env x = some (.int k m)) (hy : ev N env y = some (.int k n)) (hR : cs.headD 2 = 0 ∨ R w) (h : wpD P ops Q R cs.tail rest (puts a0 ((d, .int k (max m n)) :: env)) w) :
    wpD P ops Q R cs (⟨some d, .call { callee := .builtin .max, args := #[x, y], argTypes := #[t, t2] }, ty, pos, af, none⟩ :: rest) (puts a0 env) w :=
  T_val rfl (fun w => by
    have : max m n = if m < n then n else m := by simp only [Int.max_def]; (repeat' split) <;> omega
    simp [execOp, ev_spec hN hx, ev_spec hN hy, resolve, invoke, builtin, Builtin.max_, Builtin.max2, this]) hR h

theorem T_min (hN : Base N a0) {x y : Operand} {t t2 : TypeId} {k : IntKind} {m n : Int} (hx : ev N env x = some (.int k m)) (hy : ev N env y = some (.int k n)) (hR : cs.headD 2 = 0 ∨ R w) (h : wpD P ops Q R cs.tail rest (puts a0 ((d, .int k (min m n)) :: env)) w) :
    wpD P ops Q R cs (⟨some d, .call { callee := .builtin .min, args := #[x, y], argTypes := #[t, t2] }, ty, pos, af, none⟩ :: rest) (puts a0 env) w :=
  T_val rfl (fun w => by
    have : min m n = if n < m then n else m := by simp only [Int.min_def]; (repeat' split) <;> omega
    simp [execOp, ev_spec hN hx, ev_spec hN hy, resolve, invoke, builtin, Builtin.min_, Builtin.min2, this]) hR h

theorem T_indexAddr (hN : Base N a0) {x i : Operand} {t e : TypeId} {g o n c sz j : Nat} {k : IntKind} [hs : Slc P t e sz] (hx : ev N env x = some (.slice (some ⟨g, o, none⟩) n c)) (hi : ev N env i = some (.int k j)) (hj : j < n) (hR : cs.headD 2 = 0 ∨ R w) (h : wpD P ops Q R cs.tail rest (puts a0 ((d, .pointer (some ⟨g, o + j * sz, none⟩)) :: env)) w) :
    wpD P ops Q R cs (⟨some d, .indexAddr t x i, ty, pos, af, none⟩ :: rest) (puts a0 env) w :=
  T_val rfl (fun w => by
    have h6 := run_sizeOf_of (P := P) hs.out.2
    have hadd : (⟨g, o, none⟩ : Addr).add (j * sz) = ⟨g, o + j * sz, none⟩ := by unfold Addr.add; split <;> simp_all
    have hlt : (j : Int) < n := by omega
    simp [execOp, ev_spec hN hx, ev_spec hN hi, Instr.indexAt, asIntOf, run_underlying hs.out.1, hj, h6, hadd]) hR h

theorem T_indexAddrA (hN : Base N a0) {x i : Operand} {t e : TypeId} {g o n sz j : Nat} {k : IntKind} [hs : Arr P t e n sz] (hx : ev N env x = some (.pointer (some ⟨g, o, none⟩))) (hi : ev N env i = some (.int k j)) (hj : j < n) (hR : cs.headD 2 = 0 ∨ R w) (h : wpD P ops Q R cs.tail rest (puts a0 ((d, .pointer (some ⟨g, o + j * sz, none⟩)) :: env)) w) :
    wpD P ops Q R cs (⟨some d, .indexAddr t x i, ty, pos, af, none⟩ :: rest) (puts a0 env) w :=
  T_val rfl (fun w => by
    have h6 := run_sizeOf_of (P := P) hs.out.2
    have hadd : (⟨g, o, none⟩ : Addr).add (j * sz) = ⟨g, o + j * sz, none⟩ := by unfold Addr.add; split <;> simp_all
    have hlt : (j : Int) < n := by omega
    simp [execOp, ev_spec hN hx, ev_spec hN hi, Instr.indexAt, asIntOf, run_underlying hs.out.1, hj, h6, hadd, Instr.sureAddr]) hR h

theorem T_index1 (hN : Base N a0) {x i : Operand} {t e : TypeId} {n j : Nat} {k : IntKind} {vs : List Value} {v : Value} [hs : Arr P t e n 1] [ho : One P e] (hx : ev N env x = some (.agg vs.toArray)) (hi : ev N env i = some (.int k j)) (hj : j < n) (hv : vs[j]? = some v) (hR : cs.headD 2 = 0 ∨ R w) (h : wpD P ops Q R cs.tail rest (puts a0 ((d, v) :: env)) w) :
    wpD P ops Q R cs (⟨some d, .index t x i, ty, pos, af, none⟩ :: rest) (puts a0 env) w :=
  T_val rfl (fun w => by
    obtain ⟨⟨D, u1, u2⟩, u3⟩ := ho.out
    have h6 := run_sizeOf_of (P := P) u3
    have hlt : (j : Int) < n := by omega
    simp [execOp, ev_spec hN hx, ev_spec hN hi, Instr.index, asIntOf, run_underlying hs.out.1, hj, h6, part, run_isAgg_of u1 u2, hv]) hR h

theorem T_indexn (hN : Base N a0) {x i : Operand} {t e : TypeId} {n j sz : Nat} {k : IntKind} {vs us : List Value} [hs : Arr P t e n sz] [ho : Row P e sz] (hx : ev N env x = some (.agg vs.toArray)) (hi : ev N env i = some (.int k j)) (hj : j < n) (hv : (vs.drop (j * sz)).take sz = us) (hR : cs.headD 2 = 0 ∨ R w) (h : wpD P ops Q R cs.tail rest (puts a0 ((d, .agg us.toArray) :: env)) w) :
    wpD P ops Q R cs (⟨some d, .index t x i, ty, pos, af, none⟩ :: rest) (puts a0 env) w :=
  T_val rfl (fun w => by
    obtain ⟨⟨D, u1, u2⟩, u3⟩ := ho.out
    have h6 := run_sizeOf_of (P := P) u3
    have hlt : (j : Int) < n := by omega
    have : vs.toArray.extract (j * sz) (j * sz + sz) = ((vs.drop (j * sz)).take sz).toArray := by simp [List.extract_eq_take_drop]
    subst hv
    simp [execOp, ev_spec hN hx, ev_spec hN hi, Instr.index, asIntOf, run_underlying hs.out.1, hj, h6, part, run_isAgg_of u1 u2]) hR h

theorem T_indexAddrz (hN : Base N a0) {x i : Operand} {t e : TypeId} {g o n c sz : Nat} {j : Int} {k : IntKind} [hs : Slc P t e sz] (hx : ev N env x = some (.slice (some ⟨g, o, none⟩) n c)) (hi : ev N env i = some (.int k j)) (hj : 0 ≤ j ∧ j < n) (hR : cs.headD 2 = 0 ∨ R w) (h : wpD P ops Q R cs.tail rest (puts a0 ((d, .pointer (some ⟨g, o + j.toNat * sz, none⟩)) :: env)) w) :
    wpD P ops Q R cs (⟨some d, .indexAddr t x i, ty, pos, af, none⟩ :: rest) (puts a0 env) w :=
  T_val rfl (fun w => by
    have h6 := run_sizeOf_of (P := P) hs.out.2
    have hadd : (⟨g, o, none⟩ : Addr).add (j.toNat * sz) = ⟨g, o + j.toNat * sz, none⟩ := by unfold Addr.add; split <;> simp_all
    simp [execOp, ev_spec hN hx, ev_spec hN hi, Instr.indexAt, asIntOf, run_underlying hs.out.1, hj, h6, hadd]) hR h

theorem T_indexAddrAz (hN : Base N a0) {x i : Operand} {t e : TypeId} {g o n sz : Nat} {j : Int} {k : IntKind} [hs : Arr P t e n sz] (hx : ev N env x = some (.pointer (some ⟨g, o, none⟩))) (hi : ev N env i = some (.int k j)) (hj : 0 ≤ j ∧ j < n) (hR : cs.headD 2 = 0 ∨ R w) (h : wpD P ops Q R cs.tail rest (puts a0 ((d, .pointer (some ⟨g, o + j.toNat * sz, none⟩)) :: env)) w) :
    wpD P ops Q R cs (⟨some d, .indexAddr t x i, ty, pos, af, none⟩ :: rest) (puts a0 env) w :=
  T_val rfl (fun w => by
    have h6 := run_sizeOf_of (P := P) hs.out.2
    have hadd : (⟨g, o, none⟩ : Addr).add (j.toNat * sz) = ⟨g, o + j.toNat * sz, none⟩ := by unfold Addr.add; split <;> simp_all
    simp [execOp, ev_spec hN hx, ev_spec hN hi, Instr.indexAt, asIntOf, run_underlying hs.out.1, hj, h6, hadd, Instr.sureAddr]) hR h

theorem T_index1z (hN : Base N a0) {x i : Operand} {t e : TypeId} {n : Nat} {j : Int} {k : IntKind} {vs : List Value} {v : Value} [hs : Arr P t e n 1] [ho : One P e] (hx : ev N env x = some (.agg vs.toArray)) (hi : ev N env i = some (.int k j)) (hj : 0 ≤ j ∧ j < n) (hv : vs[j.toNat]? = some v) (hR : cs.headD 2 = 0 ∨ R w) (h : wpD P ops Q R cs.tail rest (puts a0 ((d, v) :: env)) w) :
    wpD P ops Q R cs (⟨some d, .index t x i, ty, pos, af, none⟩ :: rest) (puts a0 env) w :=
  T_val rfl (fun w => by
    obtain ⟨⟨D, u1, u2⟩, u3⟩ := ho.out
    have h6 := run_sizeOf_of (P := P) u3
    simp [execOp, ev_spec hN hx, ev_spec hN hi, Instr.index, asIntOf, run_underlying hs.out.1, hj, h6, part, run_isAgg_of u1 u2, hv]) hR h

theorem T_indexnz (hN : Base N a0) {x i : Operand} {t e : TypeId} {n sz : Nat} {j : Int} {k : IntKind} {vs us : List Value} [hs : Arr P t e n sz] [ho : Row P e sz] (hx : ev N env x = some (.agg vs.toArray)) (hi : ev N env i = some (.int k j)) (hj : 0 ≤ j ∧ j < n) (hv : (vs.drop (j.toNat * sz)).take sz = us) (hR : cs.headD 2 = 0 ∨ R w) (h : wpD P ops Q R cs.tail rest (puts a0 ((d, .agg us.toArray) :: env)) w) :
    wpD P ops Q R cs (⟨some d, .index t x i, ty, pos, af, none⟩ :: rest) (puts a0 env) w :=
  T_val rfl (fun w => by
    obtain ⟨⟨D, u1, u2⟩, u3⟩ := ho.out
    have h6 := run_sizeOf_of (P := P) u3
    have : vs.toArray.extract (j.toNat * sz) (j.toNat * sz + sz) = ((vs.drop (j.toNat * sz)).take sz).toArray := by simp [List.extract_eq_take_drop]
    subst hv
    simp [execOp, ev_spec hN hx, ev_spec hN hi, Instr.index, asIntOf, run_underlying hs.out.1, hj, h6, part, run_isAgg_of u1 u2]) hR h

/-! ### Structs of numbers are compared -/
def eqP : List Value → List Value → Prop
  | .int _ a :: xs, .int _ b :: ys => a = b ∧ eqP xs ys
  | _, _ => True
noncomputable instance eqPdec (xs ys : List Value) : Decidable (eqP xs ys) := Classical.propDecidable _
def intsB : List IntKind → List Value → Bool
  | [], [] => true
  | k :: ks, .int k' _ :: l => decide (k = k') && intsB ks l
  | _, _ => false
def fldsOk (P : Program) : List Field → List IntKind → Nat → Prop
  | [], [], _ => True
  | f :: fs, k :: ks, i => f.name ≠ "_" ∧ f.offset = i ∧ P.underlying f.type = some (.int k) ∧ fldsOk P fs ks (i + 1)
  | _, _, _ => False
class Ints (P : Program) (t : TypeId) (ks : outParam (List IntKind)) : Prop where
  out : ∃ fs, P.underlying t = some (.struct fs) ∧ fldsOk P fs.toList ks 0 ∧ P.stoodInHeld t = false ∧ P.eqGuardType P.depth t = false
theorem run_eqFields_ints (d : Nat) {xs ys : List Value} : ∀ (fs : List Field) (ks : List IntKind) (i : Nat), fldsOk P fs ks i → intsB ks (xs.drop i) = true → intsB ks (ys.drop i) = true →
    (Op.eqFields (d + 1) xs.toArray ys.toArray fs).run P w = .ok (decide (eqP (xs.drop i) (ys.drop i))) w
  | [], [], i, _, hx, hy => by
    have h1 : xs.drop i = [] := by cases h : xs.drop i with | nil => rfl | cons a l => rw [h] at hx; cases hx
    have he : eqP [] (ys.drop i) := by unfold eqP; trivial
    rw [h1, decide_eq_true he]
    simp [Op.eqFields]
  | f :: fs, k :: ks, i, h, hx, hy => by
    obtain ⟨h1, h2, h3, h4⟩ := h
    cases hxd : xs.drop i with
    | nil => rw [hxd] at hx; cases hx
    | cons x xt =>
      cases hyd : ys.drop i with
      | nil => rw [hyd] at hy; cases hy
      | cons y yt =>
        rw [hxd] at hx
        rw [hyd] at hy
        cases x <;> first | (cases hx; done) | skip
        cases y <;> first | (cases hy; done) | skip
        rename_i k1 a k2 b
        simp only [intsB, Bool.and_eq_true, decide_eq_true_eq] at hx hy
        obtain ⟨rfl, hx⟩ := hx
        obtain ⟨rfl, hy⟩ := hy
        have ex : xs.drop (i + 1) = xt := by rw [← List.drop_drop (i := 1), hxd]; rfl
        have ey : ys.drop (i + 1) = yt := by rw [← List.drop_drop (i := 1), hyd]; rfl
        have ih := run_eqFields_ints d fs ks (i + 1) h4 (by rw [ex]; exact hx) (by rw [ey]; exact hy)
        rw [ex, ey] at ih
        have gx : xs[i]? = some (.int k a) := by have := congrArg List.head? hxd; simpa [List.head?_drop] using this
        have gy : ys[i]? = some (.int k b) := by have := congrArg List.head? hyd; simpa [List.head?_drop] using this
        have px : (part f.type xs.toArray f.offset).run P w = .ok (.int k a) w := by
          simp [part, run_isAgg_of h3 rfl, h2, gx]
        have py : (part f.type ys.toArray f.offset).run P w = .ok (.int k b) w := by
          simp [part, run_isAgg_of h3 rfl, h2, gy]
        have pe := run_equalIn_int (P := P) w d f.type k k a b h3
        simp only [Op.eqFields, ne_eq, h1, not_false_eq_true, if_true, Sem.run_bind, px, py, pe, Result.andThen_ok, eqP]
        by_cases hab : a = b
        · subst hab; simp [ih]
        · simp [hab]
theorem run_eqS {t : TypeId} {ks : List IntKind} {xs ys : List Value} [h : Ints P t ks] (hx : intsB ks xs = true) (hy : intsB ks ys = true) (d : Nat) : (Op.equalIn (d + 2) t (.agg xs.toArray) (.agg ys.toArray)).run P w = .ok (decide (eqP xs ys)) w := by
  obtain ⟨fs, h1, h2, h3, h4⟩ := h.out
  have hf : P.fieldsOf t = fs := by simp [Program.fieldsOf, h1]
  rw [run_equalIn_struct w (d + 1) t _ _ (by rw [hf]; exact h1) h3, hf]
  exact run_eqFields_ints (P := P) (w := w) d fs.toList ks 0 h2 hx hy
theorem T_eqlS (hN : Base N a0) {x y : Operand} {t t2 : TypeId} {ks : List IntKind} {xs ys : List Value} [h : Ints P t ks] (hx : ev N env x = some (.agg xs.toArray)) (hy : ev N env y = some (.agg ys.toArray)) (h1 : intsB ks xs = true) (h2 : intsB ks ys = true) (hR : cs.headD 2 = 0 ∨ R w)
    (hh : wpD P ops Q R cs.tail rest (puts a0 ((d, .bool (bdec (eqP xs ys))) :: env)) w) : wpD P ops Q R cs (⟨some d, .binOp .eql t x y t2, ty, pos, af, none⟩ :: rest) (puts a0 env) w :=
  T_val rfl (fun w => by
    obtain ⟨_, _, _, _, h4⟩ := h.out
    have := run_eqS (P := P) (w := w) (t := t) h1 h2 9998
    simp only [execOp, ev_spec hN hx, ev_spec hN hy, Sem.run_bind, run_eqGuard_agg w _ _ _ _ _ _ h4, run_eql_struct, this, Result.andThen_ok]
    simp [bdec_eq]) hR hh
theorem T_neqS (hN : Base N a0) {x y : Operand} {t t2 : TypeId} {ks : List IntKind} {xs ys : List Value} [h : Ints P t ks] (hx : ev N env x = some (.agg xs.toArray)) (hy : ev N env y = some (.agg ys.toArray)) (h1 : intsB ks xs = true) (h2 : intsB ks ys = true) (hR : cs.headD 2 = 0 ∨ R w)
    (hh : wpD P ops Q R cs.tail rest (puts a0 ((d, .bool (bdec (¬ eqP xs ys))) :: env)) w) : wpD P ops Q R cs (⟨some d, .binOp .neq t x y t2, ty, pos, af, none⟩ :: rest) (puts a0 env) w :=
  T_val rfl (fun w => by
    obtain ⟨_, _, _, _, h4⟩ := h.out
    have := run_eqS (P := P) (w := w) (t := t) h1 h2 9998
    simp only [execOp, ev_spec hN hx, ev_spec hN hy, Sem.run_bind, run_eqGuard_agg w _ _ _ _ _ _ h4, run_neq_struct, this, Result.andThen_ok]
    simp [bdec_eq]) hR hh
/-! ### Memory -/
theorem T_load (hN : Base N a0) {t : TypeId} {x : Operand} {g o T : Nat} {vs : List Value} {v : Value} [h1 : One P t] (hx : ev N env x = some (.pointer (some ⟨g, o, none⟩))) (hh : Has w g T vs.toArray) (hv : vs[o]? = some v) (hc : cs.headD 2 = 1 ∨ (cs.headD 2 = 2 ∧ R w))
    (h : wpD P ops Q R cs.tail rest (puts a0 ((d, v) :: env)) w) : wpD P ops Q R cs (⟨some d, .load t x, ty, pos, af, none⟩ :: rest) (puts a0 env) w :=
  T_read rfl (by
    obtain ⟨⟨D, u1, u2⟩, _⟩ := h1.out
    have hcell : w.cell? ⟨g, o, none⟩ = some v := by rw [hh.cell]; simpa using hv
    simp [execOp, ev_spec hN hx, Instr.loadAt, Instr.sureAddr, loadVar, run_isAgg_of u1 u2, load, Sem.run, hcell]) hc h
theorem T_loadH (hN : Base N a0) {t : TypeId} {x : Operand} {g o T : Nat} {vs : List Value} {v : Value} [h1 : One P t] (hx : ev N env x = some (.pointer (some ⟨g, o, none⟩))) (hh : ∀ w, R.z w → Has w g T vs.toArray) (hv : vs[o]? = some v) (hc : cs.headD 2 = 0)
    (h : wpD P ops Q R cs.tail rest (puts a0 ((d, v) :: env)) w) : wpD P ops Q R cs (⟨some d, .load t x, ty, pos, af, none⟩ :: rest) (puts a0 env) w :=
  T_hold rfl hc (fun w hw => by
    obtain ⟨⟨D, u1, u2⟩, _⟩ := h1.out
    have hcell : w.cell? ⟨g, o, none⟩ = some v := by rw [(hh w hw).cell]; simpa using hv
    simp [execOp, ev_spec hN hx, Instr.loadAt, Instr.sureAddr, loadVar, run_isAgg_of u1 u2, load, Sem.run, hcell]) h
/-- A cell of which no more is known. -/
theorem T_load3 (hN : Base N a0) {t : TypeId} {x : Operand} {g o T : Nat} {vs : List Value} {v : Value} [h1 : One P t] (hx : ev N env x = some (.pointer (some ⟨g, o, none⟩))) (hh : ∀ w, R w → Has w g T vs.toArray) (hv : vs[o]? = some v) (hc : cs.headD 2 = 3)
    (h : wpD P ops Q R cs.tail rest (puts a0 ((d, v) :: env)) w) : wpD P ops Q R cs (⟨some d, .load t x, ty, pos, af, none⟩ :: rest) (puts a0 env) w :=
  T_held rfl hc (fun w hw => by
    obtain ⟨⟨D, u1, u2⟩, _⟩ := h1.out
    have hcell : w.cell? ⟨g, o, none⟩ = some v := by rw [(hh w hw).cell]; simpa using hv
    simp [execOp, ev_spec hN hx, Instr.loadAt, Instr.sureAddr, loadVar, run_isAgg_of u1 u2, load, Sem.run, hcell]) h
theorem T_loadc (hN : Base N a0) {t : TypeId} {x : Operand} {a : Addr} {v : Value} [h1 : One P t] (hx : ev N env x = some (.pointer (some a))) (hcell : w.cell? a = some v) (hc : cs.headD 2 = 1 ∨ (cs.headD 2 = 2 ∧ R w))
    (h : wpD P ops Q R cs.tail rest (puts a0 ((d, v) :: env)) w) : wpD P ops Q R cs (⟨some d, .load t x, ty, pos, af, none⟩ :: rest) (puts a0 env) w :=
  T_read rfl (by
    obtain ⟨⟨D, u1, u2⟩, _⟩ := h1.out
    simp [execOp, ev_spec hN hx, Instr.loadAt, Instr.sureAddr, loadVar, run_isAgg_of u1 u2, load, Sem.run, hcell]) hc h
theorem T_loadcH (hN : Base N a0) {t : TypeId} {x : Operand} {a : Addr} {v : Value} [h1 : One P t] (hx : ev N env x = some (.pointer (some a))) (hcell : ∀ w, R.z w → w.cell? a = some v) (hc : cs.headD 2 = 0)
    (h : wpD P ops Q R cs.tail rest (puts a0 ((d, v) :: env)) w) : wpD P ops Q R cs (⟨some d, .load t x, ty, pos, af, none⟩ :: rest) (puts a0 env) w :=
  T_hold rfl hc (fun w hw => by
    obtain ⟨⟨D, u1, u2⟩, _⟩ := h1.out
    simp [execOp, ev_spec hN hx, Instr.loadAt, Instr.sureAddr, loadVar, run_isAgg_of u1 u2, load, Sem.run, hcell w hw]) h
theorem T_loadc3 (hN : Base N a0) {t : TypeId} {x : Operand} {a : Addr} {v : Value} [h1 : One P t] (hx : ev N env x = some (.pointer (some a))) (hcell : ∀ w, R w → w.cell? a = some v) (hc : cs.headD 2 = 3)
    (h : wpD P ops Q R cs.tail rest (puts a0 ((d, v) :: env)) w) : wpD P ops Q R cs (⟨some d, .load t x, ty, pos, af, none⟩ :: rest) (puts a0 env) w :=
  T_held rfl hc (fun w hw => by
    obtain ⟨⟨D, u1, u2⟩, _⟩ := h1.out
    simp [execOp, ev_spec hN hx, Instr.loadAt, Instr.sureAddr, loadVar, run_isAgg_of u1 u2, load, Sem.run, hcell w hw]) h
theorem run_loadRow {t : TypeId} {n g o : Nat} {us : List Value} (h1 : Row P t n) (hl : us.length = n) (hc : ∀ j v, us[j]? = some v → w.cell? ⟨g, o + j, none⟩ = some v) : (loadVar t ⟨g, o, none⟩).run P w = .ok (.agg us.toArray) w := by
  obtain ⟨⟨D, u1, u2⟩, u3⟩ := h1.out
  subst hl
  exact run_loadVar_mid (P := P) w g o t us D (fun j v hj => hc j v hj) u1 u2 u3
theorem has_part {g T o n : Nat} {vs us : List Value} (hh : Has w g T vs.toArray) (hv : (vs.drop o).take n = us) (j : Nat) (v : Value) (hj : us[j]? = some v) : w.cell? ⟨g, o + j, none⟩ = some v := by
  subst hv
  rw [hh.cell]
  rw [List.getElem?_take] at hj
  split at hj
  · simpa using hj
  · cases hj
theorem run_loadAll {t : TypeId} {n g o T : Nat} {vs us : List Value} [h1 : Row P t n] (hh : Has w g T vs.toArray) (hv : (vs.drop o).take n = us) (hl : us.length = n) : (loadVar t ⟨g, o, none⟩).run P w = .ok (.agg us.toArray) w :=
  run_loadRow h1 hl (has_part hh hv)
theorem run_load1 {t : TypeId} {g o T : Nat} {vs : List Value} {v : Value} [h1 : One P t] (hh : Has w g T vs.toArray) (hv : vs[o]? = some v) : (loadVar t ⟨g, o, none⟩).run P w = .ok v w := by
  obtain ⟨⟨D, u1, u2⟩, _⟩ := h1.out
  have hcell : w.cell? ⟨g, o, none⟩ = some v := by rw [hh.cell]; simpa using hv
  simp [loadVar, run_isAgg_of u1 u2, load, Sem.run, hcell]
theorem T_loadn (hN : Base N a0) {t : TypeId} {x : Operand} {g o T n : Nat} {vs us : List Value} [h1 : Row P t n] (hx : ev N env x = some (.pointer (some ⟨g, o, none⟩))) (hh : Has w g T vs.toArray) (hv : (vs.drop o).take n = us) (hl : us.length = n) (hc : cs.headD 2 = 1 ∨ (cs.headD 2 = 2 ∧ R w))
    (h : wpD P ops Q R cs.tail rest (puts a0 ((d, .agg us.toArray) :: env)) w) : wpD P ops Q R cs (⟨some d, .load t x, ty, pos, af, none⟩ :: rest) (puts a0 env) w :=
  T_read rfl (by
    simp [execOp, ev_spec hN hx, Instr.loadAt, Instr.sureAddr, run_loadRow h1 hl (has_part hh hv)]) hc h
theorem T_loadnc (hN : Base N a0) {t : TypeId} {x : Operand} {g o n : Nat} {us : List Value} [h1 : Row P t n] (hx : ev N env x = some (.pointer (some ⟨g, o, none⟩))) (hl : us.length = n) (hcell : ∀ j v, us[j]? = some v → w.cell? ⟨g, o + j, none⟩ = some v) (hc : cs.headD 2 = 1 ∨ (cs.headD 2 = 2 ∧ R w))
    (h : wpD P ops Q R cs.tail rest (puts a0 ((d, .agg us.toArray) :: env)) w) : wpD P ops Q R cs (⟨some d, .load t x, ty, pos, af, none⟩ :: rest) (puts a0 env) w :=
  T_read rfl (by
    simp [execOp, ev_spec hN hx, Instr.loadAt, Instr.sureAddr, run_loadRow h1 hl hcell]) hc h
theorem T_loadncH (hN : Base N a0) {t : TypeId} {x : Operand} {g o n : Nat} {us : List Value} [h1 : Row P t n] (hx : ev N env x = some (.pointer (some ⟨g, o, none⟩))) (hl : us.length = n) (hcell : ∀ w, R.z w → ∀ j v, us[j]? = some v → w.cell? ⟨g, o + j, none⟩ = some v) (hc : cs.headD 2 = 0)
    (h : wpD P ops Q R cs.tail rest (puts a0 ((d, .agg us.toArray) :: env)) w) : wpD P ops Q R cs (⟨some d, .load t x, ty, pos, af, none⟩ :: rest) (puts a0 env) w :=
  T_hold rfl hc (fun w hw => by
    simp [execOp, ev_spec hN hx, Instr.loadAt, Instr.sureAddr, run_loadRow h1 hl (hcell w hw)]) h
theorem T_loadnc3 (hN : Base N a0) {t : TypeId} {x : Operand} {g o n : Nat} {us : List Value} [h1 : Row P t n] (hx : ev N env x = some (.pointer (some ⟨g, o, none⟩))) (hl : us.length = n) (hcell : ∀ w, R w → ∀ j v, us[j]? = some v → w.cell? ⟨g, o + j, none⟩ = some v) (hc : cs.headD 2 = 3)
    (h : wpD P ops Q R cs.tail rest (puts a0 ((d, .agg us.toArray) :: env)) w) : wpD P ops Q R cs (⟨some d, .load t x, ty, pos, af, none⟩ :: rest) (puts a0 env) w :=
  T_held rfl hc (fun w hw => by
    simp [execOp, ev_spec hN hx, Instr.loadAt, Instr.sureAddr, run_loadRow h1 hl (hcell w hw)]) h
theorem T_loadnH (hN : Base N a0) {t : TypeId} {x : Operand} {g o T n : Nat} {vs us : List Value} [h1 : Row P t n] (hx : ev N env x = some (.pointer (some ⟨g, o, none⟩))) (hh : ∀ w, R.z w → Has w g T vs.toArray) (hv : (vs.drop o).take n = us) (hl : us.length = n) (hc : cs.headD 2 = 0)
    (h : wpD P ops Q R cs.tail rest (puts a0 ((d, .agg us.toArray) :: env)) w) : wpD P ops Q R cs (⟨some d, .load t x, ty, pos, af, none⟩ :: rest) (puts a0 env) w :=
  T_hold rfl hc (fun w hw => by
    simp [execOp, ev_spec hN hx, Instr.loadAt, Instr.sureAddr, run_loadRow h1 hl (has_part (hh w hw) hv)]) h
theorem T_loadn3 (hN : Base N a0) {t : TypeId} {x : Operand} {g o T n : Nat} {vs us : List Value} [h1 : Row P t n] (hx : ev N env x = some (.pointer (some ⟨g, o, none⟩))) (hh : ∀ w, R w → Has w g T vs.toArray) (hv : (vs.drop o).take n = us) (hl : us.length = n) (hc : cs.headD 2 = 3)
    (h : wpD P ops Q R cs.tail rest (puts a0 ((d, .agg us.toArray) :: env)) w) : wpD P ops Q R cs (⟨some d, .load t x, ty, pos, af, none⟩ :: rest) (puts a0 env) w :=
  T_held rfl hc (fun w hw => by
    simp [execOp, ev_spec hN hx, Instr.loadAt, Instr.sureAddr, run_loadRow h1 hl (has_part (hh w hw) hv)]) h
theorem T_store (hN : Base N a0) (hT : Tk S w0 w l m) (i : Nat) {t : TypeId} {x y : Operand} {g o T : Nat} {vs : List Value} {v u : Value} [h1 : One P t] (hx : ev N env x = some (.pointer (some ⟨g, o, none⟩))) (hy : ev N env y = some v) (hi : l[i]? = some (.blk g T vs)) (hv : vs[o]? = some u) (hv1 : v.oneCell' = true) (hc : cs.headD 2 = 2)
    (h : ∀ w', Tk S w0 w' (l.set i (.blk g T (vs.set o v))) m → R w' ∧ wpD P ops Q R cs.tail rest (puts a0 env) w') : wpD P ops Q R cs (⟨none, .store t x y, ty, pos, af, none⟩ :: rest) (puts a0 env) w := by
  refine T_do rfl hc ?_
  have hh := hT.has i hi
  have hcell : w.cell? ⟨g, o, none⟩ = some u := by rw [hh.cell]; simpa using hv
  have hs : v.cells = #[v] := by cases v <;> first | rfl | cases hv1
  have hrun : (execOp (puts a0 env).eval ⟨none, .store t x y, ty, pos, af, none⟩).run P w = .ok .skip (w.setCell ⟨g, o, none⟩ v) := by
    have h6 := run_sizeOf_of (P := P) h1.out.2
    have hadd : (⟨g, o, none⟩ : Addr).add 0 = ⟨g, o, none⟩ := rfl
    have hst : (store ⟨g, o, none⟩ v).run P w = .ok () (w.setCell ⟨g, o, none⟩ v) := by
      cases v <;> first | (simp [store, Sem.run, hcell, hh.froz]; done) | (cases hv1; done)
    simp [execOp, ev_spec hN hx, ev_spec hN hy, Instr.storeAt, Instr.sureAddr, storeVar, hs, h6, storeCells, hadd, hst]
  unfold Oper.wp
  rw [hrun]
  exact h _ (hT.store i hi o v)
/-- A whole struct, over one object from its head. -/
theorem T_storeAll (hN : Base N a0) (hT : Tk S w0 w l m) (i : Nat) {t : TypeId} {x y : Operand} {g T n : Nat} {vs us : List Value} [h1 : Row P t n] (hx : ev N env x = some (.pointer (some ⟨g, 0, none⟩))) (hy : ev N env y = some (.agg us.toArray)) (hi : l[i]? = some (.blk g T vs)) (hn : us.length = n) (hvn : vs.length = n) (hv1 : us.all (·.oneCell') = true) (hc : cs.headD 2 = 2)
    (h : ∀ w', Tk S w0 w' (l.set i (.blk g T us)) m → R w' ∧ wpD P ops Q R cs.tail rest (puts a0 env) w') : wpD P ops Q R cs (⟨none, .store t x y, ty, pos, af, none⟩ :: rest) (puts a0 env) w := by
  refine T_do rfl hc ?_
  have hh := hT.has i hi
  have hst := run_storeCells_at P g 0 T us 0 vs.toArray w hh (by simp; omega) (fun v hv => List.all_eq_true.1 hv1 v hv)
  have hrun : (execOp (puts a0 env).eval ⟨none, .store t x y, ty, pos, af, none⟩).run P w = .ok .skip (w.setRow g us.toArray) := by
    have h6 := run_sizeOf_of (P := P) h1.out.2
    have e : (vs.toArray.toList.take (0 + 0) ++ us ++ vs.toArray.toList.drop (0 + 0 + us.length)).toArray = us.toArray := by
      simp; omega
    rw [e] at hst
    simp [execOp, ev_spec hN hx, ev_spec hN hy, Instr.storeAt, Instr.sureAddr, storeVar, Value.cells, h6, hn, hst]
  unfold Oper.wp
  rw [hrun]
  refine h _ (hT.turn i hi fun f ⟨hf, _⟩ => ⟨f, ⟨hf, setRow_heap w g _ _ T _ hh⟩, ⟨rfl, rfl, rfl, by simp, fun k hk hn => setRow_other w g k _ (fun e => hn (by rw [hf]; simp [e]))⟩, fun k hk => .inl hk⟩)
/-- Some cells in the place of others. -/
def spl (vs : List Value) (o : Nat) (us : List Value) : List Value := vs.take o ++ us ++ vs.drop (o + us.length)
theorem spl_length {vs us : List Value} {o : Nat} (h : o + us.length ≤ vs.length) : (spl vs o us).length = vs.length := by simp [spl]; omega
theorem spl_foldl : ∀ (us vs : List Value) (o j : Nat), o + j + us.length ≤ vs.length → (us.zipIdx j).foldl (fun (cs : List Value) p => cs.set (o + p.2) p.1) vs = spl vs (o + j) us
  | [], vs, o, j, _ => by simp [spl]
  | u :: us, vs, o, j, h => by
    have h' : o + (j + 1) + us.length ≤ (vs.set (o + j) u).length := by simp at h ⊢; omega
    rw [List.zipIdx_cons, List.foldl_cons, spl_foldl us (vs.set (o + j) u) o (j + 1) h']
    simp only [spl]
    simp only [List.length_cons] at h
    rw [List.take_set, List.drop_set, if_pos (by omega), show o + (j + 1) = o + j + 1 by omega, List.take_succ_eq_append_getElem (by omega)]
    rw [List.set_append_right _ _ (by simp; omega)]
    simp only [List.length_take, show o + j - min (o + j) vs.length = 0 by omega, List.set_cons_zero, List.append_assoc, List.cons_append, List.nil_append, List.length_cons]
    congr 3
    congr 1
    omega
theorem T_storen (hN : Base N a0) (hT : Tk S w0 w l m) (i : Nat) {t : TypeId} {x y : Operand} {g o T n : Nat} {vs us : List Value} [h1 : Row P t n] (hx : ev N env x = some (.pointer (some ⟨g, o, none⟩))) (hy : ev N env y = some (.agg us.toArray)) (hi : l[i]? = some (.blk g T vs)) (hn : us.length = n) (hvn : Nat.ble (o + n) vs.length = true) (hv1 : us.all (·.oneCell') = true) (hc : cs.headD 2 = 2)
    (h : ∀ w', Tk S w0 w' (l.set i (.blk g T (spl vs o us))) m → R w' ∧ wpD P ops Q R cs.tail rest (puts a0 env) w') : wpD P ops Q R cs (⟨none, .store t x y, ty, pos, af, none⟩ :: rest) (puts a0 env) w := by
  refine T_do rfl hc ?_
  have hh := hT.has i hi
  have hle := Nat.le_of_ble_eq_true hvn
  have hst := run_storeCells_at P g o T us 0 vs.toArray w hh (by simp; omega) (fun v hv => List.all_eq_true.1 hv1 v hv)
  have hrun : (execOp (puts a0 env).eval ⟨none, .store t x y, ty, pos, af, none⟩).run P w = .ok .skip (w.setRow g (spl vs o us).toArray) := by
    have h6 := run_sizeOf_of (P := P) h1.out.2
    simp only [Nat.add_zero] at hst
    have e : (vs.toArray.toList.take o ++ us ++ vs.toArray.toList.drop (o + us.length)).toArray = (spl vs o us).toArray := by simp [spl]
    rw [e] at hst
    simp [execOp, ev_spec hN hx, ev_spec hN hy, Instr.storeAt, Instr.sureAddr, storeVar, Value.cells, h6, hn, hst]
  unfold Oper.wp
  rw [hrun]
  refine h _ (hT.turn i hi fun f ⟨hf, _⟩ => ⟨f, ⟨hf, setRow_heap w g _ _ T _ hh⟩, ⟨rfl, rfl, rfl, by simp, fun k hk hn => setRow_other w g k _ (fun e => hn (by rw [hf]; simp [e]))⟩, fun k hk => .inl hk⟩)
/-- What is built of parts. -/
def bfill (pl : List (Nat × Nat)) : List Value → List (Nat × Value) → Option (List Value)
  | zs, [] => some zs
  | zs, (i, v) :: ps => match pl[i]? with
    | none => none
    | some (off, size) => bif Nat.beq v.cells.toList.length size && Nat.ble (off + size) zs.length then bfill pl (spl zs off v.cells.toList) ps else none
theorem bfill_spec {place : Nat → Option (Nat × Nat)} {pl : List (Nat × Nat)} (hp : ∀ i q, pl[i]? = some q → place i = some q) : ∀ {ps : List (Nat × Value)} {zs us : List Value}, bfill pl zs ps = some us → Instr.fill place zs.toArray ps = some us.toArray
  | [], zs, us, h => by simp [bfill] at h; subst h; rfl
  | (i, v) :: ps, zs, us, h => by
    simp only [bfill] at h
    cases hi : pl[i]? with
    | none => rw [hi] at h; cases h
    | some q =>
      obtain ⟨off, size⟩ := q
      simp only [hi] at h
      cases hb : (Nat.beq v.cells.toList.length size && Nat.ble (off + size) zs.length) with
      | false => rw [hb] at h; cases h
      | true =>
        rw [hb] at h
        simp only [cond_true] at h
        simp only [Bool.and_eq_true] at hb
        have e1 : v.cells.size = size := by have := Nat.eq_of_beq_eq_true hb.1; simpa using this
        have e2 := Nat.le_of_ble_eq_true hb.2
        unfold Instr.fill
        simp only [hp i _ hi]
        rw [if_neg (by simp [e1]; omega)]
        have e3 : v.cells.zipIdx.foldl (fun cs (c, j) => cs.setIfInBounds (off + j) c) zs.toArray = (spl zs off v.cells.toList).toArray := by
          have := spl_foldl v.cells.toList zs off 0 (by simp [e1]; omega)
          rw [Nat.add_zero] at this
          rw [← this]
          rw [← Array.foldl_toList, Array.toList_zipIdx]
          generalize v.cells.toList.zipIdx = L
          clear this h hi hb e1 e2
          induction L generalizing zs with
          | nil => rfl
          | cons p L ih => simp only [List.foldl_cons, List.setIfInBounds_toArray]; exact ih _
        rw [e3]
        exact bfill_spec hp h
theorem fill_one {place : Nat → Option (Nat × Nat)} {A : Array Value} {v : Value} {n : Nat} (hp : place 0 = some (0, n)) (hA : A.size = n) (hv : v.cells.size = n) : Instr.fill place A [(0, v)] = some v.cells := by
  have hb : bfill [(0, n)] A.toList [(0, v)] = some v.cells.toList := by
    simp [bfill, hv, hA, spl, Nat.ble_eq_true_of_le (Nat.le_refl n)]
  have := bfill_spec (place := place) (fun i q h => by
    match i, h with
    | 0, h => simp at h; rw [hp, h]
    | i + 1, h => simp at h) hb
  simpa using this
class Plc (P : Program) (t : TypeId) (pl : outParam (List (Nat × Nat))) : Prop where
  out : (∃ fs, P.underlying t = some (.struct fs) ∧ (fs.toList.map fun f => (f.offset, (P.info? f.type).map (·.size))) = pl.map (fun q => (q.1, some q.2))) ∨ (∃ n e sz, P.underlying t = some (.array n e) ∧ (P.info? e).map (·.size) = some sz ∧ pl = (List.range n).map fun i => (i * sz, sz))
def plcB (P : Program) (t : TypeId) : Option (List (Nat × Option Nat)) := match P.underlying t with
  | some (.struct fs) => some (fs.toList.map fun f => (f.offset, (P.info? f.type).map (·.size)))
  | _ => none
theorem mk_plc {P : Program} {t : TypeId} {pl : List (Nat × Nat)} (h : plcB P t = some (pl.map (fun q => (q.1, some q.2)))) : Plc P t pl := by
  unfold plcB at h
  split at h
  · rename_i fs hu; exact ⟨.inl ⟨fs, hu, by simpa using h⟩⟩
  · cases h
theorem mk_plca {P : Program} {t e : TypeId} {n sz : Nat} {pl : List (Nat × Nat)} (h : P.underlying t = some (.array n e)) (h2 : (P.info? e).map (·.size) = some sz) (h3 : pl = (List.range n).map fun i => (i * sz, sz)) : Plc P t pl := ⟨.inr ⟨n, e, sz, h, h2, h3⟩⟩
theorem run_places (w : World) : ∀ (fs : List Field) (pl : List (Nat × Nat)), (fs.map fun f => (f.offset, (P.info? f.type).map (·.size))) = pl.map (fun q => (q.1, some q.2)) →
    (fs.mapM fun f => (do Pure.pure (f.offset, ← sizeOf f.type) : Sem (Nat × Nat))).run P w = .ok pl w
  | [], [], _ => by simp
  | f :: fs, q :: pl, h => by
    simp only [List.map_cons, List.cons.injEq, Prod.mk.injEq] at h
    have h6 := run_sizeOf_of (P := P) h.1.2 w
    have ih := run_places w fs pl h.2
    simp at ih
    simp [List.mapM_cons, h6, ih, h.1.1]
theorem run_build {t : TypeId} {pl : List (Nat × Nat)} {zs us : List Value} {ps : List (Nat × Value)} [hp : Plc P t pl] [hz : Zero P t zs] (hb : bfill pl zs ps = some us) (w : World) : (Instr.build t ps.toArray).run P w = .ok (.agg us.toArray) w := by
  obtain ⟨z, hz1, hz2⟩ := hz.run w
  rcases hp.out with ⟨fs, hu, hpl⟩ | ⟨n, e, sz, hu, hsz, hpl⟩
  · have h1 := run_places (P := P) w fs.toList pl hpl
    have h2 : (fs.mapM fun f => (do Pure.pure (f.offset, ← sizeOf f.type) : Sem (Nat × Nat))).run P w = .ok pl.toArray w := by
      obtain ⟨fl⟩ := fs
      rw [List.mapM_toArray]
      simp only [Sem.run_map, h1, Result.andThen_ok]
    have hf := bfill_spec (place := (pl.toArray[·]?)) (fun i q h => by simpa using h) hb
    simp only [Instr.build, Sem.run_bind, hz1, Result.andThen_ok, run_underlying hu, h2, hz2, hf]
    try simp
  · have h6 := run_sizeOf_of (P := P) hsz w
    have hf := bfill_spec (place := fun i => some (i * sz, sz)) (fun i q h => by
      subst hpl
      rw [List.getElem?_map] at h
      cases hr : (List.range n)[i]? with
      | none => rw [hr] at h; cases h
      | some j =>
        rw [hr] at h
        have hr2 := List.getElem?_eq_some_iff.1 hr
        obtain ⟨_, rfl⟩ := hr2
        simpa using h) hb
    simp only [Instr.build, Sem.run_bind, hz1, Result.andThen_ok, run_underlying hu, h6, hz2, hf]
    try simp
/-- Parts and what they are. -/
def evp (N : Nat) (env : List (Nat × Value)) : List (Nat × Operand) → Option (List (Nat × Value))
  | [] => some []
  | (i, o) :: l => match ev N env o with
    | some v => match evp N env l with
      | some vs => some ((i, v) :: vs)
      | none => none
    | none => none
theorem evp_spec (hN : Base N a0) : ∀ {l : List (Nat × Operand)} {vs : List (Nat × Value)}, evp N env l = some vs → (l.map fun p => (p.1, (puts a0 env).eval p.2)) = vs
  | [], vs, h => by simp [evp] at h; subst h; rfl
  | (i, o) :: l, vs, h => by
    simp only [evp] at h
    cases h1 : ev N env o with
    | none => rw [h1] at h; cases h
    | some v =>
      rw [h1] at h
      cases h2 : evp N env l with
      | none => simp only [h2] at h; cases h
      | some us =>
        simp only [h2, Option.some.injEq] at h
        subst h
        simp [ev_spec hN h1, evp_spec hN h2]
theorem T_build (hN : Base N a0) {t : TypeId} {parts : List (Nat × Operand)} {pl : List (Nat × Nat)} {zs us : List Value} {ps : List (Nat × Value)} [hp : Plc P t pl] [hz : Zero P t zs] (he : evp N env parts = some ps) (hb : bfill pl zs ps = some us) (hR : cs.headD 2 = 0 ∨ R w)
    (h : wpD P ops Q R cs.tail rest (puts a0 ((d, .agg us.toArray) :: env)) w) : wpD P ops Q R cs (⟨some d, .build t parts.toArray, ty, pos, af, none⟩ :: rest) (puts a0 env) w :=
  T_val rfl (fun w => by
    have h1 := evp_spec hN he
    have h2 := run_build (P := P) (t := t) hb w
    simp [execOp, h1, h2]) hR h
/-- A slice of its own, laid whole: of no element, or of one. -/
theorem T_slice0 (_hN : Base N a0) (hT : Tk S w0 w l m) {t e : TypeId} {n : Nat} [hs : Slc P t e n] (hc : cs.headD 2 = 2)
    (h : ∀ g w', Tk S w0 w' (.own e n (.slice (some ⟨g, 0, none⟩) 0 0) 0 [] :: l) m → R w' ∧ wpD P ops Q R cs.tail rest (puts a0 ((d, .slice (some ⟨g, 0, none⟩) 0 0) :: env)) w') : wpD P ops Q R cs (⟨some d, .buildSlice t 0 #[], ty, pos, af, none⟩ :: rest) (puts a0 env) w := by
  refine T_do rfl hc ?_
  have hrun : (execOp (puts a0 env).eval ⟨some d, .buildSlice t 0 #[], ty, pos, af, none⟩).run P w = .ok (.value (.slice (some ⟨w.heap.size, 0, none⟩) 0 0)) (w.alloc (.cells #[] e (0, 0))) := by
    have h6 := run_sizeOf_of (P := P) hs.out.2
    have e0 : (Array.range 0).map (fun _ => (default : Value)) = #[] := Array.eq_empty_of_size_eq_zero (by simp)
    simp [execOp, Instr.buildSlice, run_underlying hs.out.1, h6, Instr.fill, newRow, newObj, Sem.run, e0]
  unfold Oper.wp
  rw [hrun]
  refine h _ _ ((hT.call0 [] (fun o ho => (by cases ho))).2 _ [.own e n (.slice (some ⟨w.heap.size, 0, none⟩) 0 0) 0 []] [] ⟨(Fr.refl _ _).alloc _, [w.heap.size],
    ⟨[w.heap.size], [], rfl, ⟨rfl, World.ownsRow_made w #[] 0 (Nat.zero_le _) (by decide) (by simp)⟩, rfl, fun k _ hk => (by cases hk)⟩, fun k hk => (by simp at hk; subst hk; exact .inr (Nat.le_refl _)), fun o ho => (by cases ho)⟩)
theorem T_slice1 (hN : Base N a0) (hT : Tk S w0 w l m) {t e : TypeId} {x : Operand} {v : Value} {zs : List Value} [hs : Slc P t e 1] [hz : Zero P e zs] (hx : ev N env x = some v) (hv : v.oneCell' = true) (hc : cs.headD 2 = 2)
    (h : ∀ g w', Tk S w0 w' (.blk g e [v] :: l) m → R w' ∧ wpD P ops Q R cs.tail rest (puts a0 ((d, .slice (some ⟨g, 0, none⟩) 1 1) :: env)) w') : wpD P ops Q R cs (⟨some d, .buildSlice t 1 #[(0, x)], ty, pos, af, none⟩ :: rest) (puts a0 env) w := by
  refine T_do rfl hc ?_
  have hvs : v.cells = #[v] := by cases v <;> first | rfl | cases hv
  have hrun : (execOp (puts a0 env).eval ⟨some d, .buildSlice t 1 #[(0, x)], ty, pos, af, none⟩).run P w = .ok (.value (.slice (some ⟨w.heap.size, 0, none⟩) 1 1)) (w.alloc (.cells #[v] e (0, 0))) := by
    have h6 := run_sizeOf_of (P := P) hs.out.2
    obtain ⟨z, hz1, hz2⟩ := hz.run w
    have hfill : Instr.fill (fun i => some (i, 1)) ((Array.range 1).map (fun x => z.cells[x % z.cells.size]!)) [(0, v)] = some #[v] := (fill_one (n := 1) rfl (by simp) (by simp [hvs])).trans (by rw [hvs])
    simp [execOp, ev_spec hN hx, Instr.buildSlice, run_underlying hs.out.1, h6, hz1, hfill, newRow, newObj, Sem.run]
  unfold Oper.wp
  rw [hrun]
  exact h _ _ (hT.alloc e [v])
theorem T_slicen (hN : Base N a0) (hT : Tk S w0 w l m) {t e : TypeId} {x : Operand} {n : Nat} {us zs : List Value} [hs : Slc P t e n] [hz : Zero P e zs] (hn : us.length = n) (hzn : zs.length = n) (hn0 : Nat.blt 0 n = true) (hn1 : Nat.ble n 100000 = true) (hx : ev N env x = some (.agg us.toArray)) (hc : cs.headD 2 = 2)
    (h : ∀ g w', Tk S w0 w' (.blk g e us :: l) m → R w' ∧ wpD P ops Q R cs.tail rest (puts a0 ((d, .slice (some ⟨g, 0, none⟩) 1 1) :: env)) w') : wpD P ops Q R cs (⟨some d, .buildSlice t 1 #[(0, x)], ty, pos, af, none⟩ :: rest) (puts a0 env) w := by
  refine T_do rfl hc ?_
  have hrun : (execOp (puts a0 env).eval ⟨some d, .buildSlice t 1 #[(0, x)], ty, pos, af, none⟩).run P w = .ok (.value (.slice (some ⟨w.heap.size, 0, none⟩) 1 1)) (w.alloc (.cells us.toArray e (0, 0))) := by
    have h6 := run_sizeOf_of (P := P) hs.out.2
    obtain ⟨z, hz1, hz2⟩ := hz.run w
    have h0 : 0 < n := Nat.le_of_ble_eq_true hn0
    have h1 : n ≤ 100000 := Nat.le_of_ble_eq_true hn1
    have hne : ¬ n = 0 := by omega
    have hle : ¬ 2 ^ 24 < n := by omega
    have hfill : Instr.fill (fun i => some (i * n, n)) ((Array.range n).map (fun x => z.cells[x % z.cells.size]!)) [(0, Value.agg us.toArray)] = some us.toArray := (fill_one (n := n) (by simp) (by simp) (by simp [Value.cells, hn])).trans rfl
    simp [execOp, ev_spec hN hx, Instr.buildSlice, run_underlying hs.out.1, h6, hz1, hle, hne, hfill, newRow, newObj, Sem.run]
  unfold Oper.wp
  rw [hrun]
  exact h _ _ (hT.alloc e us)
theorem T_alloc (_hN : Base N a0) (hT : Tk S w0 w l m) {T : TypeId} {zs : List Value} [hz : Zero P T zs] (hc : cs.headD 2 = 2)
    (h : ∀ g w', Tk S w0 w' (.blk g T zs :: l) m → R w' ∧ wpD P ops Q R cs.tail rest (puts a0 ((d, .pointer (some ⟨g, 0, none⟩)) :: env)) w') : wpD P ops Q R cs (⟨some d, .alloc T, ty, pos, af, none⟩ :: rest) (puts a0 env) w := by
  refine T_do rfl hc ?_
  have hrun : (execOp (puts a0 env).eval ⟨some d, .alloc T, ty, pos, af, none⟩).run P w = .ok (.value (.pointer (some ⟨w.heap.size, 0, none⟩))) (w.alloc (.cells zs.toArray T (0, 0))) := by
    obtain ⟨z, hz1, hz2⟩ := hz.run w
    simp [execOp, Instr.alloc, hz1, newVar, newRow, newObj, Sem.run, hz2]
  unfold Oper.wp
  rw [hrun]
  exact h _ _ (hT.alloc T zs)
theorem T_box (hN : Base N a0) (hT : Tk S w0 w l m) {T : TypeId} {x : Operand} {vs : List Value} (hx : ev N env x = some (.agg vs.toArray)) (hc : cs.headD 2 = 2)
    (h : ∀ g w', Tk S w0 w' (.blk g T vs :: l) m → R w' ∧ wpD P ops Q R cs.tail rest (puts a0 ((d, .pointer (some ⟨g, 0, none⟩)) :: env)) w') : wpD P ops Q R cs (⟨some d, .box T x, ty, pos, af, none⟩ :: rest) (puts a0 env) w := by
  refine T_do rfl hc ?_
  have hrun : (execOp (puts a0 env).eval ⟨some d, .box T x, ty, pos, af, none⟩).run P w = .ok (.value (.pointer (some ⟨w.heap.size, 0, none⟩))) (w.alloc (.cells vs.toArray T (0, 0))) := by
    simp [execOp, ev_spec hN hx, Instr.box, newVar, newRow, newObj, Sem.run, Value.cells]
  unfold Oper.wp
  rw [hrun]
  exact h _ _ (hT.alloc T vs)
theorem T_box1 (hN : Base N a0) (hT : Tk S w0 w l m) {T : TypeId} {x : Operand} {v : Value} (hx : ev N env x = some v) (hv : v.oneCell' = true) (hc : cs.headD 2 = 2)
    (h : ∀ g w', Tk S w0 w' (.blk g T [v] :: l) m → R w' ∧ wpD P ops Q R cs.tail rest (puts a0 ((d, .pointer (some ⟨g, 0, none⟩)) :: env)) w') : wpD P ops Q R cs (⟨some d, .box T x, ty, pos, af, none⟩ :: rest) (puts a0 env) w := by
  refine T_do rfl hc ?_
  have hs : v.cells = #[v] := by cases v <;> first | rfl | cases hv
  have hrun : (execOp (puts a0 env).eval ⟨some d, .box T x, ty, pos, af, none⟩).run P w = .ok (.value (.pointer (some ⟨w.heap.size, 0, none⟩))) (w.alloc (.cells [v].toArray T (0, 0))) := by
    simp [execOp, ev_spec hN hx, Instr.box, newVar, newRow, newObj, Sem.run, hs]
  unfold Oper.wp
  rw [hrun]
  exact h _ _ (hT.alloc T [v])

/-! ### Calls -/
/-- An operation calls a function: what is shown of the call is enough. -/
theorem T_callG (hN : Base N a0) {f : FuncId} {args : List Operand} {ats : Array TypeId} {vs : List Value} {Ps : Ending → World → Prop} [hcl : Clb P f]
    (ha : evl N env args = some vs) (hc : cs.headD 2 = 2) (hcall : Calls P f vs.toArray w Ps)
    (h : ∀ e w', Ps e w' → ∃ v, e = .returned v ∧ ∃ R', Kn.more R' R ∧ R'.c w' ∧ wpD P ops Q R' cs.tail rest (puts a0 ((d, v) :: env)) w') :
    wpD P ops Q R cs (⟨some d, .call { callee := .value (.func f), args := args.toArray, argTypes := ats }, ty, pos, af, none⟩ :: rest) (puts a0 env) w := by
  refine T_doS rfl hc ?_
  obtain ⟨fn, hf, hb, hname⟩ := hcl.out
  have hrun : (execOp (puts a0 env).eval ⟨some d, .call { callee := .value (.func f), args := args.toArray, argTypes := ats }, ty, pos, af, none⟩).run P w = .ok (.enter f vs.toArray) w := by
    have he := evl_spec hN ha
    have hb' : ¬ fn.body = none := fun e => by rw [e] at hb; cases hb
    have hn' : ¬ fn.name = "runtime.NumGoroutine" := fun e => by rw [e] at hname; simp at hname
    simp [execOp, resolve, Deferred.ofValue, Act.eval, invoke, callFunc, hf, hb', hn', he]
  unfold Oper.wp
  rw [hrun]
  refine Calls.mono hcall fun e w' hp => ?_
  obtain ⟨v, rfl, h1⟩ := h e w' hp
  exact h1
theorem T_call (hN : Base N a0) {f : FuncId} {args : List Operand} {ats : Array TypeId} {vs : List Value} {Ps : Ending → World → Prop} [hcl : Clb P f]
    (ha : evl N env args = some vs) (hc : cs.headD 2 = 2) (hcall : Calls P f vs.toArray w Ps)
    (h : ∀ e w', Ps e w' → ∃ v, e = .returned v ∧ R w' ∧ wpD P ops Q R cs.tail rest (puts a0 ((d, v) :: env)) w') :
    wpD P ops Q R cs (⟨some d, .call { callee := .value (.func f), args := args.toArray, argTypes := ats }, ty, pos, af, none⟩ :: rest) (puts a0 env) w :=
  T_callG hN ha hc hcall fun e w' hp => by obtain ⟨v, h1, h2, h3⟩ := h e w' hp; exact ⟨v, h1, R, R.more_refl, h2, h3⟩
/-- A call; what is known grows. -/
theorem T_callS (hN : Base N a0) {f : FuncId} {args : List Operand} {ats : Array TypeId} {vs : List Value} {Ps : Ending → World → Prop} [hcl : Clb P f]
    (ha : evl N env args = some vs) (hc : cs.headD 2 = 2) (hcall : Calls P f vs.toArray w Ps)
    (h : ∀ e w', Ps e w' → ∃ v, e = .returned v ∧ ∃ p : World → Prop, (R w' ∧ p w') ∧ wpD P ops Q (R.add p) cs.tail rest (puts a0 ((d, v) :: env)) w') :
    wpD P ops Q R cs (⟨some d, .call { callee := .value (.func f), args := args.toArray, argTypes := ats }, ty, pos, af, none⟩ :: rest) (puts a0 env) w :=
  T_callG hN ha hc hcall fun e w' hp => by obtain ⟨v, h1, p, h2, h3⟩ := h e w' hp; exact ⟨v, h1, R.add p, R.more_add p, h2, h3⟩
end
end Go.Fp
