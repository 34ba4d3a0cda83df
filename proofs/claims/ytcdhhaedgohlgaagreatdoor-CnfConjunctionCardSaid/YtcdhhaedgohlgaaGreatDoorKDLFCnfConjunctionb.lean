/- Closed facts of the row of CnfConjunction that go over the functions it reaches. -/
import Derived.Test.YtcdhhaedgohlgaaGreatDoorRows
import Derived.JoinedOf
import Derived.SevenTiedAt
import Derived.KernelRfl
namespace Go.Proofs.YtcdhhaedgohlgaaGreatDoor.LFCnfConjunction
open Go
set_option maxRecDepth 100000
set_option linter.unusedVariables false
theorem jf10 : (fun (P : Program) (f : FuncId) (fn : Func) (s : ChangeSpec) (c : OpenClaim) => ((c.inPlace == P.inPlace f) : Bool)) Tryz.prog 11 Tryz.f11 Rows.cnfConjunctionSpec Rows.cnfConjunctionRow = true := by kernel_rfl
theorem jf11 : (fun (P : Program) (f : FuncId) (fn : Func) (s : ChangeSpec) (c : OpenClaim) => ((c.unfollowed == P.unfollowed f) : Bool)) Tryz.prog 11 Tryz.f11 Rows.cnfConjunctionSpec Rows.cnfConjunctionRow = true := by kernel_rfl
theorem jf12 : (fun (P : Program) (f : FuncId) (fn : Func) (s : ChangeSpec) (c : OpenClaim) => ((c.recurses == P.recurses f) : Bool)) Tryz.prog 11 Tryz.f11 Rows.cnfConjunctionSpec Rows.cnfConjunctionRow = true := by kernel_rfl
theorem jf13 : (fun (P : Program) (f : FuncId) (fn : Func) (s : ChangeSpec) (c : OpenClaim) => ((c.named == P.varsNamed f) : Bool)) Tryz.prog 11 Tryz.f11 Rows.cnfConjunctionSpec Rows.cnfConjunctionRow = true := by kernel_rfl
theorem goes : false = Rows.cnfConjunctionRow.goesBy Tryz.prog := by kernel_rfl
end Go.Proofs.YtcdhhaedgohlgaaGreatDoor.LFCnfConjunction
