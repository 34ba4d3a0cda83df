/- The program's closed facts that every row of this seat asks: from its head's first word and three looks over its functions. -/
import Derived.Test.YtcdhhaedgohlgaaGreatDoorKDFPa
import Derived.Test.YtcdhhaedgohlgaaGreatDoorKDFPb
import Derived.Test.YtcdhhaedgohlgaaGreatDoorKDFPc
namespace Go.Proofs.YtcdhhaedgohlgaaGreatDoor.FP
open Go
set_option maxRecDepth 100000
theorem head_is : ∃ rest, behindMainWord (wordsSigns Tryz.prog.initOrder.toList) = "cut".toList :: rest := by
  have h := head_cut
  cases hw : behindMainWord (wordsSigns Tryz.prog.initOrder.toList) with
  | nil => rw [hw] at h; cases h
  | cons c rest =>
    rw [hw] at h
    injection h with h
    exact ⟨rest, by rw [h]⟩
theorem strip_cut (rest : List (List Char)) : stripLifts liftWords ("cut".toList :: rest) = ([], "cut".toList :: rest) := by kernel_rfl
theorem lifts : Tryz.prog.headLifts = [] := by
  obtain ⟨rest, hw⟩ := head_is
  unfold Program.headLifts
  rw [hw, strip_cut]
  kernel_rfl
theorem enters : Tryz.prog.mayEnter = true := by
  obtain ⟨rest, hw⟩ := head_is
  unfold Program.mayEnter
  rw [hw]
  simp only [strip_cut, lays, refl_, door]
  simp
theorem finals : Tryz.prog.liftsFinal = false := by
  obtain ⟨rest, hw⟩ := head_is
  unfold Program.liftsFinal
  rw [hw, lifts]
  kernel_rfl
theorem makes : Tryz.prog.make = some .cut := by
  obtain ⟨rest, hw⟩ := head_is
  unfold Program.make
  rw [hw]
  kernel_rfl
end Go.Proofs.YtcdhhaedgohlgaaGreatDoor.FP
