/- For every formula and every comment text: what Put writes is read back by Get, with a comment line ahead of it or behind it too. Condition: the sizes that a row's weight allows, and that bytes are bytes. -/
import Derived.Test.YtcdhhaedgohlgaaGreatDoorKCPXCnfDimacsRoundTrip
import Derived.Test.YtcdhhaedgohlgaaGreatDoorKC5
namespace Go.Proofs.YtcdhhaedgohlgaaGreatDoor.Pure
open Go.RowKit Go.Proofs.YtcdhhaedgohlgaaGreatDoor.P Go.Proofs.YtcdhhaedgohlgaaGreatDoorW.PrintWords Go.Proofs.YtcdhhaedgohlgaaGreatDoorW.PrintLast

theorem RoundTrip_l0 (n : Int) (L : List (List Int)) (m : List UInt8) (hm : m.length ≤ 100) (hc : checkV n L = 0) (hs : (putText n L).length ≤ 22500) :
    ∀ d i : Nat, i + d = m.length → (10 : UInt8) ∉ m.take i → EvL (fun k => chalklinelaw14_CnfDimacsRoundTrip.l0 k (bytesI m) (bytesI (putText n L)) (i : Int) n L) true
  | 0, i, hi, hno => by
    have hm10 : (10 : UInt8) ∉ m := by rw [List.take_of_length_le (by omega)] at hno; exact hno
    refine EvL.step (EvL.const true) (fun k => ?_)
    simp only [chalklinelaw14_CnfDimacsRoundTrip.l0]
    have l1 := bytesI_length m
    have l2 := bytesI_length (putText n L)
    have e1 : ([99] ++ bytesI m ++ [10, 32, 9]) ++ bytesI (putText n L) = bytesI (99 :: (m ++ 10 :: 32 :: 9 :: putText n L)) := by simp [bytesI]
    have e2 : ([] ++ bytesI (putText n L)) ++ ([99] ++ bytesI m ++ [10, 32, 9]) = bytesI (putText n L ++ 99 :: (m ++ 10 :: 32 :: 9 :: [])) := by simp [bytesI]
    have hS : cnf_Same.f n L n L = some true := by unfold cnf_Same.f; simp [sameV]
    rw [if_neg (by omega)]
    simp only [Option.bind_some]
    rw [if_pos (by simp only [List.length_cons, List.length_nil]; omega), if_pos (by simp only [List.length_append, List.length_cons, List.length_nil]; omega), if_pos (by simp only [List.length_nil]; omega),
      if_pos (by simp only [List.length_append, List.length_cons, List.length_nil]; omega), if_pos (by simp only [List.length_append, List.length_cons, List.length_nil]; omega), e1, e2, get_bytesI, get_bytesI, getB_talk n L m hm10 hc (by omega), getB_after n L m hm10 hc (by omega), Option.bind_some, Option.bind_some]
    dsimp only
    rw [if_pos rfl, if_pos rfl, hS, Option.bind_some, if_pos rfl, Option.bind_some]
  | d + 1, i, hi, hno => by
    have hlt : i < m.length := by omega
    have l1 := bytesI_length m
    by_cases h10 : m[i] = 10
    · refine EvL.step (EvL.const true) (fun k => ?_)
      simp only [chalklinelaw14_CnfDimacsRoundTrip.l0]
      rw [if_pos (by omega), if_pos (by omega), rd_bytesI m i hlt, h10, if_pos (by decide)]
    · refine EvL.step (RoundTrip_l0 n L m hm hc hs d (i + 1) (by omega) ?_) (fun k => ?_)
      · rw [List.take_succ_eq_append_getElem hlt, List.mem_append, List.mem_singleton]
        exact fun h => h.elim hno (fun e => h10 e.symm)
      · simp only [chalklinelaw14_CnfDimacsRoundTrip.l0]
        rw [if_pos (by omega), if_pos (by omega), rd_bytesI m i hlt, if_neg (fun e => h10 (UInt8.toNat_inj.1 (by show m[i].toNat = 10; omega))), w_succ i (by omega)]
theorem CnfDimacsRoundTrip (n : Int) (L : List (List Int)) (l1 : List Int) (hS : SmallL L) (hw : ∀ x ∈ l1, (Lit.int .u8 x).wf = true) : ∃ k, chalklinelaw14_CnfDimacsRoundTrip.f k n L l1 = some true := by
  have hT : EvL (fun k => chalklinelaw14_CnfDimacsRoundTrip.j0 k l1 true n L) true := EvL.step (EvL.const true) (fun k => by simp only [chalklinelaw14_CnfDimacsRoundTrip.j0]; rw [if_pos trivial])
  refine EvL.some_ (EvL.eq (f := fun k => chalklinelaw14_CnfDimacsRoundTrip.f k n L l1) (EvL.bind (few_f n L hS) (h := fun t k => if t = true then (chalklinelaw14_CnfDimacsRoundTrip.j0 k l1 (decide ((l1.length : Int) > 100)) n L) else (chalklinelaw14_CnfDimacsRoundTrip.j0 k l1 true n L)) ?_) (fun k => rfl))
  by_cases hF : fewV L = true
  case neg => exact EvL.eq hT (fun k => if_neg hF)
  by_cases h1 : (l1.length : Int) > 100
  · exact EvL.eq hT (fun k => by rw [if_pos hF, decide_eq_true h1])
  refine EvL.eq (g := fun k => chalklinelaw14_CnfDimacsRoundTrip.j0 k l1 false n L) ?_ (fun k => by rw [if_pos hF, decide_eq_false h1])
  have hp := fewV_putSz hF
  have hput : cnf_Put.f n L = some (putV n L) := by unfold cnf_Put.f; rw [if_pos (by omega)]
  by_cases hc : checkV n L = 0
  · have hv : putV n L = (bytesI (putText n L), 0) := by unfold putV; rw [if_pos hc]
    have ht := putText_len' n L hc
    have hb := bytesI_bytesOf (bytes_wf hw)
    have hlen := bytesI_length (Lib.bytesOf l1)
    rw [hb] at hlen
    have h := RoundTrip_l0 n L (Lib.bytesOf l1) (by omega) hc (by omega) (Lib.bytesOf l1).length 0 (by omega) (by simp)
    rw [hb] at h
    have hS2 : cnf_Same.f n L n L = some true := by unfold cnf_Same.f; simp [sameV]
    refine EvL.step (EvL.step h (f := fun k => chalklinelaw14_CnfDimacsRoundTrip.j1 k l1 (bytesI (putText n L)) false n L) (fun k => ?_)) (fun k => ?_)
    · simp only [chalklinelaw14_CnfDimacsRoundTrip.j1]
      rw [if_neg (by simp)]
      rfl
    · simp only [chalklinelaw14_CnfDimacsRoundTrip.j0]
      rw [if_neg (by simp), hput, hv, Option.bind_some]
      dsimp only
      rw [if_pos rfl, get_bytesI, getB_put' n L hc (by omega), Option.bind_some]
      dsimp only
      rw [if_pos rfl, hS2, Option.bind_some]
      rfl
  · have hv : putV n L = ([], checkV n L) := by unfold putV; rw [if_neg hc]
    refine EvL.step (EvL.const true) (fun k => ?_)
    simp only [chalklinelaw14_CnfDimacsRoundTrip.j0]
    rw [if_neg (by simp), hput, hv, Option.bind_some]
    dsimp only
    rw [if_neg hc, cnf_Check.f, Option.bind_some, if_pos rfl]
    rfl
end Go.Proofs.YtcdhhaedgohlgaaGreatDoor.Pure
