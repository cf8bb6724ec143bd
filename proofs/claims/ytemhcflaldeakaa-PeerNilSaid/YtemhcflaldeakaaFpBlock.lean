/- WHOLE BLOCKS: an aggregate loaded from a block that is known whole, and stored over one. -/
import Derived.Test.YtemhcflaldeakaaFpRows
import Derived.Test.YtemhcflaldeakaaFpText
import Derived.Laws.Rows
namespace Go.Fp
open Go Go.RowKit

section
variable {P : Program} {ops : Array Oper} {rest : List Oper} {o : Oper} {a : Act} {w : World} {Q : Exit → Act → World → Prop}

theorem run_loadVar_has {g T : Nat} {ty : TypeId} {cs : Array Value} {d : TypeDesc} (hg : Has w g T cs) (hu : P.underlying ty = some d) (hd : d.isRow = true) (hi : (P.info? ty).map (·.size) = some cs.size) :
    (loadVar ty ⟨g, 0, none⟩).run P w = .ok (.agg cs) w := by
  have := run_loadVar_mid (P := P) w g 0 ty cs.toList d (hg.range 0 cs.toList (fun j _ => by simp)) hu hd (by simpa using hi)
  simpa using this

theorem wpT_load {S : World → Prop} {cl : List Nat} (hgd : o.guard = none) (ty : TypeId) (x : Operand) (ho : o.op = .load ty x) (g T : Nat) (hx : a.eval x = .pointer (some ⟨g, 0, none⟩)) {cs : Array Value} {d : TypeDesc}
    (hg : Has w g T cs) (hu : P.underlying ty = some d) (hd : d.isRow = true) (hi : (P.info? ty).map (·.size) = some cs.size)
    (h : wpT P ops Q S cl rest (a.put o.dst (.agg cs)) w) : wpT P ops Q S (1 :: cl) (o :: rest) a w := by
  refine wpT_1 fun K hK => ?_
  rw [if_pos (by simp [Region.wanted, hgd])]
  refine ⟨.agg cs, ?_, hK _ h⟩
  unfold execOp
  simp only [ho, hx, Instr.loadAt, Instr.sureAddr, Sem.run_bind, Sem.run_pure, Result.andThen_ok, run_loadVar_has hg hu hd hi]

theorem wpList_load_has (hgd : o.guard = none) (ty : TypeId) (x : Operand) (ho : o.op = .load ty x) (g T : Nat) (hx : a.eval x = .pointer (some ⟨g, 0, none⟩)) {cs : Array Value} {d : TypeDesc}
    (hg : Has w g T cs) (hu : P.underlying ty = some d) (hd : d.isRow = true) (hi : (P.info? ty).map (·.size) = some cs.size)
    (h : wpList P ops Q rest (a.put o.dst (.agg cs)) w) : wpList P ops Q (o :: rest) a w := by
  have := wpList_load_mid (P := P) (ops := ops) (rest := rest) (Q := Q) hgd ty x ho g 0 hx cs.toList d (hg.range 0 cs.toList (fun j _ => by simp)) hu hd (by simpa using hi)
  exact this (by simpa using h)

theorem Has.setAll {g T : Nat} {zs l : Array Value} (h : Has w g T zs) (hz : zs.size = l.size) : Has (w.setCells g 0 l.toList) g T l := by
  obtain ⟨cs', h1, h2, h3⟩ := Has.setCells g 0 l.toList h rfl
  refine h1.eq (Array.ext_getElem? fun k => ?_)
  rw [h3 k]
  split
  · simp
  · rename_i hk
    simp only [Nat.zero_le, Nat.zero_add, Array.length_toList, true_and] at hk
    rw [Array.getElem?_eq_none (by omega), Array.getElem?_eq_none (by omega)]

theorem wpList_store_all (hgd : o.guard = none) (ty : TypeId) (x y : Operand) (ho : o.op = .store ty x y) (g T : Nat) (hx : a.eval x = .pointer (some ⟨g, 0, none⟩)) {l zs : Array Value} (hy : a.eval y = .agg l)
    (hg : Has w g T zs) (hz : zs.size = l.size) (hi : (P.info? ty).map (·.size) = some l.size) (h1 : l.all (·.oneCell') = true)
    (h : ∀ w', Has w' g T l → Fr [g] w w' → wpList P ops Q rest (a.put o.dst undef) w') : wpList P ops Q (o :: rest) a w :=
  wpList_store_mid hgd ty x y ho g 0 l hx hy (hg.there 0 l.size (by omega)) hi h1 (h _ (hg.setAll hz) (fr_setCells (by simp) _ _ (Fr.refl _ _)))
theorem Has.eq' {w : World} {g T : Nat} {cs ds : Array Value} (e : cs = ds) (h : Has w g T cs) : Has w g T ds := h.eq e
/-- What is known of the world is enough. -/
theorem wp_forget {c : Code} {Q : Exit → Act → World → Prop} {a : Act} {w : World} (R : World → Prop) (h : R w) (k : ∀ w', R w' → c.wp P Q a w') : c.wp P Q a w := k w h
end
end Go.Fp
