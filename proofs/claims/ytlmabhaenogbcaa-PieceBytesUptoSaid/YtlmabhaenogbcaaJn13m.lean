/- THE WALK of a joiner: Take, the rest of its code. -/
import Derived.Test.YtlmabhaenogbcaaJn13b
namespace Go.Proofs.Ytlmabhaenogbcaa
open Go.RowKit Go.Fp
def restB : Code → Code
  | .seq _ (.seq (.block _ _) y) => y
  | c => c
def bodyC (f : Func) : Code := match f.body with | some c => c | none => .skip
theorem Tk.slot {S : List Nat} {w0 w : World} {l m : List Ob} (h : Tk S w0 w l m) (i : Nat) {P : List Pt} (hi : l[i]? = some (Ob.all (P.map Pt.ob))) {r : Pt} (hr : r ∈ P) : Rdz w r.x r.bs.length 1 (u8s r.bs) :=
  h.allrd i hi (List.mem_map.2 ⟨r, hr, rfl⟩)
/-- The objects at the middle of Take. -/
def MidO (q g id k a : Nat) (P : List Pt) (K : Nat) (x : Option Addr) (part : List UInt8) (c : Nat) : List Ob := [JOn q id K P, Ob.blk g 36 [.int .u32 id, .int .i64 a, .int .i64 k, .slice x part.length c]]
/-- What is to be shown from the middle on. -/
def Mid (q g id k a : Nat) (P : List Pt) (K : Nat) (x : Option Addr) (part : List UInt8) (c : Nat) (f : List Nat) (w w1 : World) (m : List Ob) : Prop :=
  ∀ a0, Base 185 a0 → wpC Try.prog (restB (bodyC Try.f15)) (.base (bodyPost Try.prog Try.f15 (TakePost q x ⟨id, (a : Int), (k : Int), part⟩ f w m (goJ ⟨true, false, id, K, P.map Pt.kv⟩ ⟨id, (a : Int), (k : Int), part⟩)))) (puts a0 [(0, .pointer (some ⟨q, 0, none⟩)), (3, .pointer (some ⟨g, 0, none⟩))]) w1
end Go.Proofs.Ytlmabhaenogbcaa
