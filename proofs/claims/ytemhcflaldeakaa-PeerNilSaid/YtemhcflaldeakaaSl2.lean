/- PARTS OF SLICES. -/
import Derived.Test.YtemhcflaldeakaaFb
import Derived.Test.YtemhcflaldeakaaOut03b
namespace Go.Fp
open Go Go.RowKit
/-- Where a slice goes on. -/
def lo (p : Option Addr) (sz c j : Nat) : Option Addr := if c = j then p else p.map (·.add (j * sz))
theorem lo_none {p : Option Addr} {sz c j : Nat} (h : p ≠ none) : lo p sz c j ≠ none := by
  unfold lo; cases p with
  | none => exact absurd rfl h
  | some a => split <;> simp
theorem lo_some (B off sz c j : Nat) (h : j < c) : lo (some ⟨B, off, none⟩) sz c j = some ⟨B, off + j * sz, none⟩ := by
  unfold lo; rw [if_neg (by omega)]; simp [Addr.add]
theorem Rdz.hi {w : World} {x : Option Addr} {n sz j : Nat} {xs : List Value} (h : Rdz w x n sz xs) (hj : j ≤ n) : Rdz w x j sz (xs.take (j * sz)) := by
  have hm := Nat.mul_le_mul_right sz hj
  refine ⟨by rw [List.length_take, h.1]; omega, fun hp => ?_⟩
  obtain ⟨B, off, h1, h2, h3⟩ := h.2 (by omega)
  refine ⟨B, off, h1, h2, fun k u hk => h3 k u ?_⟩
  have hlt := (List.getElem?_eq_some_iff.1 hk).1
  rw [List.length_take] at hlt
  rwa [List.getElem?_take_of_lt (by omega)] at hk
theorem Rdz.lo {w : World} {x : Option Addr} {n c sz j : Nat} {xs : List Value} (h : Rdz w x n sz xs) (hj : j ≤ n) (hc : n ≤ c) : Rdz w (lo x sz c j) (n - j) sz (xs.drop (j * sz)) := by
  refine ⟨by rw [List.length_drop, h.1, Nat.sub_mul], fun hp => ?_⟩
  obtain ⟨B, off, h1, h2, h3⟩ := h.2 (by omega)
  refine ⟨B, off + j * sz, by rw [h1, lo_some _ _ _ _ _ (by omega)], h2, fun k u hk => ?_⟩
  rw [List.getElem?_drop] at hk
  rw [Nat.add_assoc]; exact h3 _ u hk
theorem Ent.lo (x : Option Addr) (n c sz j : Nat) (xs : List Value) (hj : j ≤ n) (hc : n ≤ c) : Ob.Ent (Ob.rd x n sz xs) (Ob.rd (Fp.lo x sz c j) (n - j) sz (xs.drop (j * sz))) := by
  intro f w h
  have h2 := h.2
  obtain ⟨f', h3, h4⟩ := of_rd ((rd_of h).lo hj hc)
  refine ⟨f', h3, fun k hk => ?_⟩
  obtain ⟨off, h5, h6⟩ := h4 k hk
  rcases h2 with ⟨h7, _⟩ | ⟨h7, B, off', h8, rfl, _⟩
  · omega
  · rw [h8, lo_some _ _ _ _ _ (by omega)] at h5
    simp only [Option.some.injEq, Addr.mk.injEq] at h5
    simp [h5.1]
section
variable {P : Program} {ops : Array Oper} {Q : Exit → Act → World → Prop} {R : Kn} {cs : List Nat} {rest : List Oper} {a0 : Act} {w w0 : World} {N : Nat} {env : List (Nat × Value)}
/-- 'x[a:]' of any slice. -/
theorem T_slcLoP {d : Nat} {ty : TypeId} {pos : String} {af} (hN : Base N a0) {x y : Operand} {t e sz : Nat} {p : Option Addr} {n c j : Nat} {kk : IntKind} [hs : Slc P t e sz] (hx : ev N env x = some (.slice p n c)) (hy : ev N env y = some (.int kk j)) (hj : j ≤ n) (_hnc : n ≤ c) (hR : cs.headD 2 = 0 ∨ R w)
    (h : wpD P ops Q R cs.tail rest (puts a0 ((d, .slice (lo p sz c j) (n - j) (c - j)) :: env)) w) : wpD P ops Q R cs (⟨some d, .slice t x (some y) none none, ty, pos, af, none⟩ :: rest) (puts a0 env) w :=
  T_val rfl (v := .slice (lo p sz c j) (n - j) (c - j)) (fun w => by
    have h6 := run_sizeOf_of (P := P) hs.out.2
    have hle : (j : Int) ≤ n := by omega
    simp [execOp, ev_spec hN hx, ev_spec hN hy, Instr.sliceAt, Instr.slice, run_underlying hs.out.1, Instr.sliceBounds, Instr.sliceBound, asIntOf, hj, h6]
    rfl) hR h
/-- A guard that itself was passed over. -/
theorem T_nou {d : Nat} {ty : TypeId} {pos : String} {af} (hN : Base N a0) {op : Op} {j : Nat} {b : Bool} {t : Tmp} {oj : Oper} (hj : ops[j]? = some oj) (hd : oj.dst = some t) (hv : ev N env (.tmp t) = some undef)
    (h : wpD P ops Q R cs.tail rest (puts a0 ((d, undef) :: env)) w) : wpD P ops Q R cs (⟨some d, op, ty, pos, af, some (j, b)⟩ :: rest) (puts a0 env) w := by
  have hy : yielded ops (puts a0 env).tmps j = none := by
    have := ev_tmp hN hv
    simp [yielded, hj, hd, this, undef]
  rw [wpD, if_neg (by simp [Region.wanted, hy])]
  exact h
end
end Go.Fp
/- THE WALK of what lays fields: short sums. -/
namespace Go.Proofs.Ytemhcflaldeakaa
open Go.RowKit Go.Fp
attribute [local irreducible] Go.Calls
set_option maxRecDepth 100000
set_option maxHeartbeats 2000000
theorem flat_get (k : Nat) : ∀ (ls : List (List UInt8)), (∀ l, l ∈ ls → l.length = k) → ∀ (j : Nat) (a : List UInt8), ls[j]? = some a → ∀ i, i < k → ls.flatten[j * k + i]? = a[i]?
  | [], _, j, a, h, _, _ => by simp at h
  | l :: ls, hls, 0, a, h, i, hi => by
    have hl := hls l (by simp)
    simp only [List.getElem?_cons_zero, Option.some.injEq] at h
    subst h
    rw [List.flatten_cons, Nat.zero_mul, Nat.zero_add, List.getElem?_append_left (by omega)]
  | l :: ls, hls, j + 1, a, h, i, hi => by
    have hl := hls l (by simp)
    rw [List.getElem?_cons_succ] at h
    rw [List.flatten_cons, List.getElem?_append_right (by rw [Nat.add_mul]; omega), show (j + 1) * k + i - l.length = j * k + i by rw [Nat.add_mul]; omega]
    exact flat_get k ls (fun l h => hls l (List.mem_cons_of_mem _ h)) j a h i hi
theorem row_cell {w : World} {B off n : Nat} {ls : List (List UInt8)} (h : Rdz w (some ⟨B, off, none⟩) n 16 (u8s ls.flatten)) (hls : ∀ l, l ∈ ls → l.length = 16) {j : Nat} {a : List UInt8} (hj : ls[j]? = some a) (i : Nat) (v : Value) (hv : (u8s a)[i]? = some v) : w.cell? ⟨B, off + j * 16 + i, none⟩ = some v := by
  have ha := hls a (List.mem_of_getElem? hj)
  have hi := (List.getElem?_eq_some_iff.1 hv).1
  rw [u8s_length, ha] at hi
  rw [Nat.add_assoc]
  exact h.cell rfl (by rw [u8s_get, flat_get 16 ls hls j a hj i hi, ← u8s_get]; exact hv)
def sumsO (ls : List (List UInt8)) (o : List UInt8 × Bool) : List UInt8 × Bool := ((numO 1 ls.length o).1 ++ ls.flatten, (numO 1 ls.length o).2)
end Go.Proofs.Ytemhcflaldeakaa
