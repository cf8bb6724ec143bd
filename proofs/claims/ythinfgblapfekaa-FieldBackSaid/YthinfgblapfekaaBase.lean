/- What is said of the program itself: its regions' orders are open. -/
import Derived.Test.YthinfgblapfekaaRows
import Derived.Test.YthinfgblapfekaaFpKit
import Derived.Test.YthinfgblapfekaaFpText
import Derived.WalkKit
import Derived.WalkSpells
import Derived.WalkLawsBesides
namespace Go.Proofs.Ythinfgblapfekaa
open Go.RowKit Go.Fp
theorem Try.mixed : Try.prog.follows .mixedOrders = true := by kernel_rfl
end Go.Proofs.Ythinfgblapfekaa
