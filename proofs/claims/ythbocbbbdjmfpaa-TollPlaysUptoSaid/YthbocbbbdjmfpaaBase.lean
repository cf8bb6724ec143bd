/- What is said of the program itself: its regions' orders are open. -/
import Derived.Test.YthbocbbbdjmfpaaRows
import Derived.Test.YthbocbbbdjmfpaaFpKit
import Derived.Test.YthbocbbbdjmfpaaFpText
import Derived.WalkKit
import Derived.WalkSpells
import Derived.WalkLawsBesides
namespace Go.Proofs.Ythbocbbbdjmfpaa
open Go.RowKit Go.Fp
theorem Try.mixed : Try.prog.follows .mixedOrders = true := by kernel_rfl
end Go.Proofs.Ythbocbbbdjmfpaa
