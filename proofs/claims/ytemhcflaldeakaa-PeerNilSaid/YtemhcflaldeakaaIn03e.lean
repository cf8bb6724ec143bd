/- THE WALKS of what takes fields: short sums. -/
import Derived.Test.YtemhcflaldeakaaIn03d
namespace Go.Proofs.Ytemhcflaldeakaa
open Go.RowKit Go.Fp
attribute [local irreducible] Go.Calls
set_option maxRecDepth 100000
set_option maxHeartbeats 2000000
/-- So many short sums, while nothing is wrong. -/
def smN : Nat → List UInt8 × Int → List (List UInt8) × (List UInt8 × Int)
  | 0, s => ([], s)
  | k + 1, s => if s.2 = 0 then (sm s :: (smN k (nxt 16 s)).1, (smN k (nxt 16 s)).2) else ([], s)
def ss0 (most : Int) (s : List UInt8 × Int) : List UInt8 × Int := if max most 0 < (nm 1 s : Int) then fl 8 (nxt 1 s) else nxt 1 s
def ss (most : Int) (s : List UInt8 × Int) : List (List UInt8) := if (smN (nm 1 s) (ss0 most s)).2.2 = 0 then (smN (nm 1 s) (ss0 most s)).1 else []
def sst (most : Int) (s : List UInt8 × Int) : List UInt8 × Int := (smN (nm 1 s) (ss0 most s)).2
end Go.Proofs.Ytemhcflaldeakaa
