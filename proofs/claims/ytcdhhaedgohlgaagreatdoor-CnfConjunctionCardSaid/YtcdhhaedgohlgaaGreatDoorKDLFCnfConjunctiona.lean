/- Closed facts of the row of CnfConjunction. -/
import Derived.Test.YtcdhhaedgohlgaaGreatDoorRows
import Derived.JoinedOf
import Derived.KernelRfl
namespace Go.Proofs.YtcdhhaedgohlgaaGreatDoor.LFCnfConjunction
open Go
set_option maxRecDepth 100000
set_option linter.unusedVariables false
theorem jf1 : (fun (P : Program) (f : FuncId) (fn : Func) (s : ChangeSpec) (c : OpenClaim) => (c.wf (OpenSpec.ofChange s) : Bool)) Tryz.prog 11 Tryz.f11 Rows.cnfConjunctionSpec Rows.cnfConjunctionRow = true := by kernel_rfl
theorem jf2 : (fun (P : Program) (f : FuncId) (fn : Func) (s : ChangeSpec) (c : OpenClaim) => (laidOutB P : Bool)) Tryz.prog 11 Tryz.f11 Rows.cnfConjunctionSpec Rows.cnfConjunctionRow = true := by kernel_rfl
theorem jf3 : (fun (P : Program) (f : FuncId) (fn : Func) (s : ChangeSpec) (c : OpenClaim) => (mapsRowed P : Bool)) Tryz.prog 11 Tryz.f11 Rows.cnfConjunctionSpec Rows.cnfConjunctionRow = true := by kernel_rfl
theorem jf4 : (fun (P : Program) (f : FuncId) (fn : Func) (s : ChangeSpec) (c : OpenClaim) => (fn.params.all (P.readableRec ·) : Bool)) Tryz.prog 11 Tryz.f11 Rows.cnfConjunctionSpec Rows.cnfConjunctionRow = true := by kernel_rfl
theorem jf5 : (fun (P : Program) (f : FuncId) (fn : Func) (s : ChangeSpec) (c : OpenClaim) => (namedTie P c.named s.vars : Bool)) Tryz.prog 11 Tryz.f11 Rows.cnfConjunctionSpec Rows.cnfConjunctionRow = true := by kernel_rfl
theorem jf6 : (fun (P : Program) (f : FuncId) (fn : Func) (s : ChangeSpec) (c : OpenClaim) => ((c.stops == []) : Bool)) Tryz.prog 11 Tryz.f11 Rows.cnfConjunctionSpec Rows.cnfConjunctionRow = true := by kernel_rfl
theorem jf7 : (fun (P : Program) (f : FuncId) (fn : Func) (s : ChangeSpec) (c : OpenClaim) => ((P.stops == []) : Bool)) Tryz.prog 11 Tryz.f11 Rows.cnfConjunctionSpec Rows.cnfConjunctionRow = true := by kernel_rfl
theorem jf8 : (fun (P : Program) (f : FuncId) (fn : Func) (s : ChangeSpec) (c : OpenClaim) => ((c.knobs == []) : Bool)) Tryz.prog 11 Tryz.f11 Rows.cnfConjunctionSpec Rows.cnfConjunctionRow = true := by kernel_rfl
theorem jf9 : (fun (P : Program) (f : FuncId) (fn : Func) (s : ChangeSpec) (c : OpenClaim) => ((P.stopKnobs == []) : Bool)) Tryz.prog 11 Tryz.f11 Rows.cnfConjunctionSpec Rows.cnfConjunctionRow = true := by kernel_rfl
theorem jf14 : (fun (P : Program) (f : FuncId) (fn : Func) (s : ChangeSpec) (c : OpenClaim) => ((c.maps == (fn.params.toList ++ s.plain.varTypes P).any (P.mapsRec ·)) : Bool)) Tryz.prog 11 Tryz.f11 Rows.cnfConjunctionSpec Rows.cnfConjunctionRow = true := by kernel_rfl
theorem jf15 : (fun (P : Program) (f : FuncId) (fn : Func) (s : ChangeSpec) (c : OpenClaim) => ((c.ifaces == (fn.params.toList ++ s.plain.varTypes P).any (P.ifacesRec ·)) : Bool)) Tryz.prog 11 Tryz.f11 Rows.cnfConjunctionSpec Rows.cnfConjunctionRow = true := by kernel_rfl
theorem jf16 : (fun (P : Program) (f : FuncId) (fn : Func) (s : ChangeSpec) (c : OpenClaim) => ((c.mapsOut == P.mapsAmong fn.resultTypes.toList) : Bool)) Tryz.prog 11 Tryz.f11 Rows.cnfConjunctionSpec Rows.cnfConjunctionRow = true := by kernel_rfl
theorem jf17 : (fun (P : Program) (f : FuncId) (fn : Func) (s : ChangeSpec) (c : OpenClaim) => ((c.loops == (fn.params.toList ++ s.plain.varTypes P).any (P.loopsFrom ·)) : Bool)) Tryz.prog 11 Tryz.f11 Rows.cnfConjunctionSpec Rows.cnfConjunctionRow = true := by kernel_rfl
theorem jf18 : (fun (P : Program) (f : FuncId) (fn : Func) (s : ChangeSpec) (c : OpenClaim) => ((c.wideKeys == (fn.params.toList ++ s.plain.varTypes P ++ fn.resultTypes.toList).any (P.wideKeysFrom ·)) : Bool)) Tryz.prog 11 Tryz.f11 Rows.cnfConjunctionSpec Rows.cnfConjunctionRow = true := by kernel_rfl
theorem jf19 : (fun (P : Program) (f : FuncId) (fn : Func) (s : ChangeSpec) (c : OpenClaim) => (s.vars.all (P.varReadable ·) : Bool)) Tryz.prog 11 Tryz.f11 Rows.cnfConjunctionSpec Rows.cnfConjunctionRow = true := by kernel_rfl
theorem jf20 : (fun (P : Program) (f : FuncId) (fn : Func) (s : ChangeSpec) (c : OpenClaim) => (fn.resultTypes.all (fun t => P.readableRec t && decide (t < P.types.size)) : Bool)) Tryz.prog 11 Tryz.f11 Rows.cnfConjunctionSpec Rows.cnfConjunctionRow = true := by kernel_rfl
theorem jf21 : (fun (P : Program) (f : FuncId) (fn : Func) (s : ChangeSpec) (c : OpenClaim) => ((c.ifacesOut == fn.resultTypes.toList.any (P.ifacesRec ·)) : Bool)) Tryz.prog 11 Tryz.f11 Rows.cnfConjunctionSpec Rows.cnfConjunctionRow = true := by kernel_rfl
theorem jf22 : (fun (P : Program) (f : FuncId) (fn : Func) (s : ChangeSpec) (c : OpenClaim) => ((c.loopsOut == fn.resultTypes.toList.any (P.loopsFrom ·)) : Bool)) Tryz.prog 11 Tryz.f11 Rows.cnfConjunctionSpec Rows.cnfConjunctionRow = true := by kernel_rfl
theorem jf24 : (fun (P : Program) (f : FuncId) (fn : Func) (s : ChangeSpec) (c : OpenClaim) => (c.shortTexts.isNone : Bool)) Tryz.prog 11 Tryz.f11 Rows.cnfConjunctionSpec Rows.cnfConjunctionRow = true := by kernel_rfl
theorem jf29 : (fun (P : Program) (f : FuncId) (fn : Func) (s : ChangeSpec) (c : OpenClaim) => ((c.kinds == (if c.domain.isEmpty then [] else fn.params.toList.map fun t => match P.underlying t with | some (.int k) => some k | _ => none)) : Bool)) Tryz.prog 11 Tryz.f11 Rows.cnfConjunctionSpec Rows.cnfConjunctionRow = true := by kernel_rfl
theorem jf30 : (fun (P : Program) (f : FuncId) (fn : Func) (s : ChangeSpec) (c : OpenClaim) => ((c.pinned == c.pinnedBy) : Bool)) Tryz.prog 11 Tryz.f11 Rows.cnfConjunctionSpec Rows.cnfConjunctionRow = true := by kernel_rfl
theorem jf31 : (fun (P : Program) (f : FuncId) (fn : Func) (s : ChangeSpec) (c : OpenClaim) => ((c.veiled == (fn.params.toList ++ s.plain.varTypes P ++ fn.resultTypes.toList).any (P.veiledRec ·)) : Bool)) Tryz.prog 11 Tryz.f11 Rows.cnfConjunctionSpec Rows.cnfConjunctionRow = true := by kernel_rfl
theorem jf32 : (fun (P : Program) (f : FuncId) (fn : Func) (s : ChangeSpec) (c : OpenClaim) => (c.veiledFits P fn.params.toList (fn.params.toList ++ s.plain.varTypes P ++ fn.resultTypes.toList) : Bool)) Tryz.prog 11 Tryz.f11 Rows.cnfConjunctionSpec Rows.cnfConjunctionRow = true := by kernel_rfl
theorem named : Tryz.prog.funcNamed "chalkline/chalklinelaw14.CnfConjunction" = some 11 := by kernel_rfl
theorem inst : Tryz.f11.isInstance Tryz.prog Rows.cnfConjunctionRow.origin Rows.cnfConjunctionRow.targs := of_decide_eq_true (by kernel_rfl)
theorem wrap : Tryz.f11.isWrapper Tryz.prog Rows.cnfConjunctionRow.wrapper Rows.cnfConjunctionRow.mainSum := by
  unfold Func.isWrapper
  rw [if_neg (by decide +kernel)]
  exact ⟨rfl, rfl⟩
end Go.Proofs.YtcdhhaedgohlgaaGreatDoor.LFCnfConjunction
