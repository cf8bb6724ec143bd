/- What the rows ask of the program. -/
import Derived.Test.YthbocbbbdjmfpaaBase
import Derived.Test.YthbocbbbdjmfpaaFpRow
namespace Go.Proofs.Ythbocbbbdjmfpaa
theorem Try.own : ownKnob Try.prog.godebug = none := by kernel_rfl
theorem Try.laidOut : laidOutB Try.prog = true := by kernel_rfl
end Go.Proofs.Ythbocbbbdjmfpaa
