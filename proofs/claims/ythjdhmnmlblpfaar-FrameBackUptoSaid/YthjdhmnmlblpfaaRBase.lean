/- What is said of the program itself: its regions' orders are open. -/
import Derived.Test.YthjdhmnmlblpfaaRRows
import Derived.Test.YthjdhmnmlblpfaaRFpKit
import Derived.Test.YthjdhmnmlblpfaaRFpText
import Derived.WalkKit
import Derived.WalkSpells
import Derived.WalkLawsBesides
namespace Go.Proofs.YthjdhmnmlblpfaaR
open Go.RowKit Go.Fp
theorem Try.mixed : Try.prog.follows .mixedOrders = true := by kernel_rfl
end Go.Proofs.YthjdhmnmlblpfaaR
