import Derived.Deep.Grids
import Derived.Test.YtcdhhaedgohlgaaGreatDoorKD5
/- A row's []bool, opened: what the printed words ask of a list of bools. -/
namespace Go.Proofs.YtcdhhaedgohlgaaGreatDoor.P
open Go.RowKit Go.ChangeShapes Go.WideShapes Go.Proofs.YtcdhhaedgohlgaaGreatDoorW.PrintWords Go.Proofs.YtcdhhaedgohlgaaGreatDoorW.PrintLast Go.Proofs.YtcdhhaedgohlgaaGreatDoorW.PrintMore

theorem bools_open {H : Type} {enc : TypeId × Value → H} {Pr : Program} {W : World} {base : Nat} {held : Bool} {t e : TypeId} {a : Option Addr} {len cap : Nat} {d : DataW H} {ps : List MemPlace}
    (ht : Pr.underlying t = some (.slice e)) (he : Pr.underlying e = some .bool) (hc : Pr.cellsOf e = 1) (h : DataW.Trod enc Pr W base (fun _ => true) held t (.slice a len cap) d ps) :
    ∃ l : List Bool, len = l.length ∧ Kd.bool.C W a l.length l ∧ l.length ≤ cap ∧ l.length ≤ maxLen := by
  obtain ⟨fuel, hf⟩ := h
  rcases Go.Deep.open_bools ht he hc hf with ⟨hcs, _⟩ | ⟨x, l, c, B, hcs, _, hl, hm, _, hcell⟩
  · simp [Value.cells] at hcs
    obtain ⟨rfl, rfl, rfl⟩ := hcs
    exact ⟨[], rfl, Kd.C_of_reads (enc := Value.bool) (d := false) (h1 := fun _ => rfl) ⟨rfl, Nat.zero_le _, fun h => absurd h (by simp)⟩, Nat.le_refl _, Nat.zero_le _⟩
  · simp [Value.cells] at hcs
    obtain ⟨rfl, rfl, rfl⟩ := hcs
    have e : ((List.range len).map B).length = len := by simp
    refine ⟨(List.range len).map B, e.symm, Kd.C_of_reads (enc := Value.bool) (d := false) (h1 := fun _ => rfl) ⟨rfl, by rw [e]; exact Nat.le_trans hl hm, fun _ => ⟨x, rfl, fun j hj => ?_⟩⟩, by rw [e]; exact hl, by rw [e]; exact Nat.le_trans hl hm⟩
    rw [e] at hj
    rw [hcell j (by omega)]
    simp [List.getD, hj]
end Go.Proofs.YtcdhhaedgohlgaaGreatDoor.P
