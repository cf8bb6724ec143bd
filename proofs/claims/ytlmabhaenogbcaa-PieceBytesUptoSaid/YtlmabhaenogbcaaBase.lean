/- What is said of the program itself: its regions' orders are open. -/
import Derived.Test.YtlmabhaenogbcaaRows
import Derived.Test.YtlmabhaenogbcaaFpKit
import Derived.Test.YtlmabhaenogbcaaFpText
import Derived.WalkKit
import Derived.WalkSpells
import Derived.WalkLawsBesides
namespace Go.Proofs.Ytlmabhaenogbcaa
open Go.RowKit Go.Fp
theorem Try.mixed : Try.prog.follows .mixedOrders = true := by kernel_rfl
end Go.Proofs.Ytlmabhaenogbcaa
