/- What is said of the program itself: its regions' orders are open. -/
import Derived.Test.YtonbjealgdmngaaRows
import Derived.Test.YtonbjealgdmngaaFpKit
import Derived.Test.YtonbjealgdmngaaFpText
import Derived.WalkKit
import Derived.WalkSpells
import Derived.WalkLawsBesides
namespace Go.Proofs.Ytonbjealgdmngaa
open Go.RowKit Go.Fp
theorem Try.mixed : Try.prog.follows .mixedOrders = true := by kernel_rfl
end Go.Proofs.Ytonbjealgdmngaa
