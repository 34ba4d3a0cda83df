/- Closed facts of the program's head. -/
import Derived.Test.YtcdhhaedgohlgaaGreatDoorRows
import Derived.JoinedOf
import Derived.KernelRfl
namespace Go.Proofs.YtcdhhaedgohlgaaGreatDoor.FP
open Go
set_option maxRecDepth 100000
theorem head_cut : (behindMainWord (wordsSigns Tryz.prog.initOrder.toList)).head? = some "cut".toList := by kernel_rfl
theorem lays : Tryz.prog.laysLater = false := by kernel_rfl
end Go.Proofs.YtcdhhaedgohlgaaGreatDoor.FP
