/- MORE LAWS: a row stored into a slice of the call's own; slices of numbers that came in. -/
import Derived.Test.YtfcmjlbfoindaaaSl3
namespace Go.Fp
open Go Go.RowKit
theorem spl_take {cs us : List Value} {o n : Nat} (h : o + us.length ≤ n) (hn : n ≤ cs.length) : (spl cs o us).take n = spl (cs.take n) o us := by
  unfold spl
  have e1 : (cs.take n).take o = cs.take o := by rw [List.take_take, Nat.min_eq_left (by omega)]
  have e3 : (cs.take o ++ us).length = o + us.length := by rw [List.length_append, List.length_take, Nat.min_eq_left (by omega)]
  rw [e1, List.drop_take, List.take_append, List.take_of_length_le (by rw [e3]; exact h), e3]
theorem spl_flat {k : Nat} : ∀ {ls : List (List Value)}, (∀ l, l ∈ ls → l.length = k) → ∀ {j : Nat} {a : List Value}, a.length = k → j < ls.length → spl ls.flatten (j * k) a = (ls.set j a).flatten
  | [], _, j, a, _, h => by simp at h
  | l :: ls, hls, 0, a, ha, _ => by
    have hl := hls l (by simp)
    simp [spl, ha, ← hl]
  | l :: ls, hls, j + 1, a, ha, h => by
    have hl := hls l (by simp)
    have ih := spl_flat (ls := ls) (fun x hx => hls x (List.mem_cons_of_mem _ hx)) (j := j) ha (by simpa using h)
    rw [List.set_cons_succ, List.flatten_cons, List.flatten_cons, ← ih]
    unfold spl
    rw [Nat.add_mul, Nat.one_mul, show j * k + k = l.length + j * k by omega, show l.length + j * k + a.length = l.length + (j * k + a.length) by omega, List.take_length_add_append, List.drop_length_add_append]
    simp
section
variable {P : Program} {ops : Array Oper} {Q : Exit → Act → World → Prop} {R : Kn} {cs : List Nat} {rest : List Oper} {a0 : Act} {w w0 : World} {N : Nat} {env : List (Nat × Value)}
  {d : Tmp} {ty : TypeId} {pos : String} {af : Array Edge} {S : List Nat} {l m : List Ob}
/-- A row is stored into a slice of the call's own. -/
theorem T_storeR (hN : Base N a0) (hT : Tk S w0 w l m) (i : Nat) {t : TypeId} {x y : Operand} {g o e sz n c : Nat} {xs us : List Value} [h1 : Row P t sz] (hx : ev N env x = some (.pointer (some ⟨g, o, none⟩))) (hy : ev N env y = some (.agg us.toArray)) (hi : l[i]? = some (.own e sz (.slice (some ⟨g, 0, none⟩) n c) n xs)) (hn : us.length = sz) (ho : o + sz ≤ n * sz) (hv1 : us.all (·.oneCell') = true) (hc : cs.headD 2 = 2)
    (h : ∀ w', Tk S w0 w' (l.set i (.own e sz (.slice (some ⟨g, 0, none⟩) n c) n (spl xs o us))) m → R w' ∧ wpD P ops Q R cs.tail rest (puts a0 env) w') : wpD P ops Q R cs (⟨none, .store t x y, ty, pos, af, none⟩ :: rest) (puts a0 env) w := by
  refine T_do rfl hc ?_
  have hown := hT.owns i hi
  obtain ⟨hlen, hcase⟩ := hown
  rcases hcase with ⟨h', _⟩ | ⟨g', cap', cur, h', hb, hg, hnc, hcm, hcs, htake⟩
  · simp at h'
  simp only [Value.slice.injEq, Option.some.injEq, Addr.mk.injEq, and_true, true_and] at h'
  obtain ⟨rfl, rfl⟩ := h'
  have hnc2 := Nat.mul_le_mul_right sz hnc
  have hst := run_storeCells_at P g o e us 0 cur w hg (by omega) (fun v hv => List.all_eq_true.1 hv1 v hv)
  have hrun : (execOp (puts a0 env).eval ⟨none, .store t x y, ty, pos, af, none⟩).run P w = .ok .skip (w.setRow g (spl cur.toList o us).toArray) := by
    have h6 := run_sizeOf_of (P := P) h1.out.2
    simp only [Nat.add_zero] at hst
    have e : (cur.toList.take o ++ us ++ cur.toList.drop (o + us.length)).toArray = (spl cur.toList o us).toArray := by simp [spl]
    rw [e] at hst
    simp [execOp, ev_spec hN hx, ev_spec hN hy, Instr.storeAt, Instr.sureAddr, storeVar, Value.cells, h6, hn, hst]
  unfold Oper.wp
  rw [hrun]
  refine h _ (hT.turn i hi fun f ⟨hf, _⟩ => ⟨f, ⟨hf, ?_, .inr ⟨g, c, (spl cur.toList o us).toArray, rfl, hb, setRow_heap w g _ _ e _ hg, hnc, hcm, ?_, ?_⟩⟩, ⟨rfl, rfl, rfl, by simp, fun k hk hn => setRow_other w g k _ (fun e => hn (by rw [hf]; simp [e, Value.ownBlock]))⟩, fun k hk => .inl hk⟩)
  · rw [spl_length (by omega)]; exact hlen
  · rw [List.size_toArray, spl_length (by simp; omega)]; simpa using hcs
  · rw [List.toList_toArray, spl_take (by omega) (by simp; omega), htake]
/-- A test whose outcome is known. -/
theorem T_eqlY (hN : Base N a0) {x y : Operand} {t t2 : TypeId} {k : IntKind} {m n : Int} (hx : ev N env x = some (.int k m)) (hy : ev N env y = some (.int k n)) (hp : m = n) (hR : cs.headD 2 = 0 ∨ R w)
    (h : wpD P ops Q R cs.tail rest (puts a0 ((d, .bool true) :: env)) w) : wpD P ops Q R cs (⟨some d, .binOp .eql t x y t2, ty, pos, af, none⟩ :: rest) (puts a0 env) w :=
  T_eql hN hx hy hR (by rw [bdec_true' hp]; exact h)
theorem T_eqlN (hN : Base N a0) {x y : Operand} {t t2 : TypeId} {k : IntKind} {m n : Int} (hx : ev N env x = some (.int k m)) (hy : ev N env y = some (.int k n)) (hp : ¬ m = n) (hR : cs.headD 2 = 0 ∨ R w)
    (h : wpD P ops Q R cs.tail rest (puts a0 ((d, .bool false) :: env)) w) : wpD P ops Q R cs (⟨some d, .binOp .eql t x y t2, ty, pos, af, none⟩ :: rest) (puts a0 env) w :=
  T_eql hN hx hy hR (by rw [bdec_false' hp]; exact h)
/-- What is left of a code behind region id and what goes with it. -/
def restQ (id : Nat) : Code → Code
  | .seq (.seq (.region i _ _) _) y => if i = id then y else restQ id y
  | .seq _ y => restQ id y
  | c => c
variable {k : Ks} {a : Act}
theorem C_cutQ {id : Nat} {l : Array Oper} {dr : Bool} {X : Type _} (N : Nat) (env' : X → List (Nat × Value)) (I : X → World → Prop) {x y : Code} (h : wpC P (.seq (.region id l dr) x) (.lp (Lp N env' I) k) a w)
    (h2 : ∀ (z : X) (a1 : Act) (w1 : World), Base N a1 → I z w1 → wpC P y k (puts a1 (env' z)) w1) : wpC P (.seq (.seq (.region id l dr) x) y) k a w := C_cut N env' I h h2
end
/-- The remainder of what a number is as one without a sign. -/
theorem u64_nn (x : Int) : 0 ≤ IntKind.u64.wrap x := by
  unfold IntKind.wrap
  simp [IntKind.signed, IntKind.bits]
  omega
theorem u64_rem (x : Int) (n : Nat) (hn : 0 < n) : ∃ k : Nat, k < n ∧ (IntKind.u64.wrap x).tmod (n : Int) = (k : Int) := by
  have h0 := u64_nn x
  obtain ⟨u, hu⟩ : ∃ u : Nat, IntKind.u64.wrap x = u := ⟨(IntKind.u64.wrap x).toNat, by omega⟩
  exact ⟨u % n, Nat.mod_lt _ hn, by rw [hu]; rfl⟩
end Go.Fp
