/- THE WALK: a frame without a body has 38 bytes. -/
import Derived.Test.YtemhcflaldeakaaSeal12
namespace Go.Proofs.Ytemhcflaldeakaa
open Go.RowKit Go.Fp
attribute [local irreducible] Go.Calls
set_option maxRecDepth 100000
set_option maxHeartbeats 16000000
theorem seal_len (k : List UInt8) (r : Fm) : (r.seal k).length = 38 + r.body.length := by
  unfold Fm.seal Fm.bytes
  rw [List.length_append, frB_len, tagP_len]; omega
end Go.Proofs.Ytemhcflaldeakaa
