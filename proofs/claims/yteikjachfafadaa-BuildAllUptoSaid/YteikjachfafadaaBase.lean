/- What is said of the program itself: its regions' orders are open. -/
import Derived.Test.YteikjachfafadaaRows
import Derived.Test.YteikjachfafadaaFpKit
import Derived.Test.YteikjachfafadaaFpText
import Derived.WalkKit
import Derived.WalkSpells
import Derived.WalkLawsBesides
namespace Go.Proofs.Yteikjachfafadaa
open Go.RowKit Go.Fp
theorem Try.mixed : Try.prog.follows .mixedOrders = true := by kernel_rfl
end Go.Proofs.Yteikjachfafadaa
