/- Closed facts of the program that the cards ask. -/
import Derived.Test.YtcdhhaedgohlgaaGreatDoorRows
import Derived.JoinedOf
import Derived.SevenTiedAt
import Derived.KernelRfl
namespace Go.Proofs.YtcdhhaedgohlgaaGreatDoor.FP
open Go
set_option maxRecDepth 100000
theorem keys : Tryz.prog.plainKeys = Rows.cnfResolveSpecRow.plainKeys := by kernel_rfl
theorem heard : Tryz.prog.stopsHeard = true := by kernel_rfl
theorem main_is : Tryz.prog.mainIs = some (true, "fc784c6fe05591a51cdcde09b567985ec7f68a3b02e4d15942be336fc0b172bd".toList) := by kernel_rfl
theorem looks_ : true = Tryz.prog.looks [] := by kernel_rfl
theorem stands : ([3, 22, 24, 25, 26, 41, 55].all fun u => !Tryz.prog.wantsStandIn u) = true := by kernel_rfl
end Go.Proofs.YtcdhhaedgohlgaaGreatDoor.FP
