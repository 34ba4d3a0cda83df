/- All closed facts of the row of CnfConjunction together. -/
import Derived.Test.YtcdhhaedgohlgaaGreatDoorKDLFCnfConjunctiona
import Derived.Test.YtcdhhaedgohlgaaGreatDoorKDLFCnfConjunctionb
import Derived.Test.YtcdhhaedgohlgaaGreatDoorKDFP
import Derived.Test.YtcdhhaedgohlgaaGreatDoorKDFQ
namespace Go.Proofs.YtcdhhaedgohlgaaGreatDoor.LFCnfConjunction
open Go
set_option maxRecDepth 100000
set_option linter.unusedVariables false
theorem band {a b : Bool} (ha : a = true) (hb : b = true) : (a && b) = true := by rw [ha, hb]; rfl
theorem jf23 : (Rows.cnfConjunctionRow.plainKeys == Tryz.prog.plainKeys) = true := by rw [FP.keys]; rfl
theorem jf25 : Tryz.prog.stopsHeard = true := FP.heard
theorem jf26 : Tryz.prog.mayEnter = true := FP.enters
theorem jf27 : (Rows.cnfConjunctionRow.lifted == Tryz.prog.liftsFinal) = true := by rw [FP.finals]; rfl
theorem jf28 : (Tryz.prog.make == some Rows.cnfConjunctionRow.make) = true := by rw [FP.makes]; rfl
theorem closed : joinedFacts Tryz.prog 11 Tryz.f11 Rows.cnfConjunctionSpec Rows.cnfConjunctionRow = true := by
  unfold joinedFacts
  exact (band (band (band (band (band (band (band (band (band (band (band (band (band (band (band (band (band (band (band (band (band (band (band (band (band (band (band (band (band (band (band jf1 jf2) jf3) jf4) jf5) jf6) jf7) jf8) jf9) jf10) jf11) jf12) jf13) jf14) jf15) jf16) jf17) jf18) jf19) jf20) jf21) jf22) jf23) jf24) jf25) jf26) jf27) jf28) jf29) jf30) jf31) jf32)
end Go.Proofs.YtcdhhaedgohlgaaGreatDoor.LFCnfConjunction
