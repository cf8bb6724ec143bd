/- What is said of the program itself: its regions' orders are open. -/
import Derived.Test.YtbjopppgiklfkaaRows
import Derived.Test.YtbjopppgiklfkaaFpKit
import Derived.Test.YtbjopppgiklfkaaFpText
import Derived.WalkKit
import Derived.WalkSpells
import Derived.WalkLawsBesides
namespace Go.Proofs.Ytbjopppgiklfkaa
open Go.RowKit Go.Fp
theorem Try.mixed : Try.prog.follows .mixedOrders = true := by kernel_rfl
end Go.Proofs.Ytbjopppgiklfkaa
