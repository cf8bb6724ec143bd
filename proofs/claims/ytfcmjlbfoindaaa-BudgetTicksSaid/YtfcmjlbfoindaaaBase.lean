/- What is said of the program itself: its regions' orders are open. -/
import Derived.Test.YtfcmjlbfoindaaaRows
import Derived.Test.YtfcmjlbfoindaaaFpKit
import Derived.Test.YtfcmjlbfoindaaaFpText
import Derived.WalkKit
import Derived.WalkSpells
import Derived.WalkLawsBesides
namespace Go.Proofs.Ytfcmjlbfoindaaa
open Go.RowKit Go.Fp
theorem Try.mixed : Try.prog.follows .mixedOrders = true := by kernel_rfl
end Go.Proofs.Ytfcmjlbfoindaaa
