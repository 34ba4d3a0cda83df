/- A closed fact of the program. -/
import Derived.Test.YtcdhhaedgohlgaaGreatDoorRows
import Derived.JoinedOf
import Derived.KernelRfl
namespace Go.Proofs.YtcdhhaedgohlgaaGreatDoor.FP
open Go
set_option maxRecDepth 100000
theorem refl_ : Tryz.prog.bearsReflect = false := by kernel_rfl
end Go.Proofs.YtcdhhaedgohlgaaGreatDoor.FP
