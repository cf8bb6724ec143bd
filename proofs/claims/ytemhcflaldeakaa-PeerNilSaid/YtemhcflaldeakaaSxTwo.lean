/- A region whose order is drawn, two effects of it not ordered. -/
import Derived.Test.YtemhcflaldeakaaSx
import Derived.Test.YtemhcflaldeakaaFpTwo
namespace Go.Fp
open Go Go.RowKit
section
variable {P : Program} {k : Ks} {a0 : Act} {w : World} {N : Nat} {env : List (Nat × Value)}
theorem C_twok (hN : Base N a0) {id : Nat} {l : List Oper} (env' : List (Nat × Value)) (hk : Keeps N env env') (cl : List Nat) (t1 t2 : List Nat) (R : World → Prop) (hm : P.follows .mixedOrders = true) (hB : (textS l && okTwo l cl [] t1 t2 && (t1.length == l.length)) = true) (hR : R w.drew)
    (h1 : ∀ a1, Base N a1 → wpD P l.toArray (dq P k) (kn R) (t1.map (cl.getD · 2)) (t1.filterMap (l[·]?)) (puts a1 env') w.drew) (h2 : ∀ a1, Base N a1 → wpD P l.toArray (dq P k) (kn R) (t2.map (cl.getD · 2)) (t2.filterMap (l[·]?)) (puts a1 env') w.drew) : wpC P (.region id l.toArray true) k (puts a0 env) w := by
  have e1 := h1 (puts a0 env) (base_puts hN env)
  have e2 := h2 (puts a0 env) (base_puts hN env)
  rw [keeps_puts hN hk] at e1 e2
  unfold dq at e1 e2
  unfold wpC
  exact wpD_region2 cl t1 t2 R hm hB hR e1 e2
end
end Go.Fp
