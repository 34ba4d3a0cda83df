/- For every clause l and assignment t the program's Norm gives an equivalent sorted clause, is idempotent and tells tautologies: no condition. -/
import Derived.Test.YtcdhhaedgohlgaaGreatDoorKAPXCnfNormEquivalent
import Derived.Test.YtcdhhaedgohlgaaGreatDoorKA6
namespace Go.Proofs.YtcdhhaedgohlgaaGreatDoor.P
open Go.RowKit Go.Proofs.YtcdhhaedgohlgaaGreatDoorW.PrintWords Go.Proofs.YtcdhhaedgohlgaaGreatDoorW.PrintLast
def chalklinelaw14_CnfNormEquivalent.Pure : Prop := ∀ (l0 : List Int) (l1 : List Bool), ∃ k, chalklinelaw14_CnfNormEquivalent.f k l0 l1 = some true
end Go.Proofs.YtcdhhaedgohlgaaGreatDoor.P
namespace Go.Proofs.YtcdhhaedgohlgaaGreatDoor.Pure
open Go.RowKit Go.Proofs.YtcdhhaedgohlgaaGreatDoor.P Go.Proofs.YtcdhhaedgohlgaaGreatDoorW.PrintWords Go.Proofs.YtcdhhaedgohlgaaGreatDoorW.PrintLast

theorem w_pred (i : Nat) (h0 : 0 < i) (h : i < 4611686018427387904) : wrap64 ((i : Int) - 1) = ((i - 1 : Nat) : Int) := by unfold wrap64; omega
theorem NormEquivalent_l0 (l : List Int) (t : List Bool) (hl : (normL l).length ≤ 60) : ∀ d i : Nat, i + d = (normL l).length → EvL (fun k => chalklinelaw14_CnfNormEquivalent.l0 k l t (normL l) (tautL l) (normL l) (tautL l) (i : Int)) true
  | 0, i, hi => by
    refine EvL.step (EvL.bind (Ints_same (normL l) (normL l) (by omega) rfl) (h := fun b _ => if b = true then some true else some false) (EvL.eq (EvL.const true) fun k => if_pos rfl)) (fun k => ?_)
    simp only [chalklinelaw14_CnfNormEquivalent.l0]
    rw [if_neg (by omega)]
    congr 1
    funext b
    by_cases hb : b = true
    · rw [if_pos hb, if_pos hb]
      by_cases ht : tautL l = true
      · simp [cnf_Holds.f, cnf_Subsumes.f, holdsV_norm, subsumesV_norm, ht, tautL_holds t ht]
      · simp [cnf_Holds.f, cnf_Subsumes.f, holdsV_norm, subsumesV_norm, ht]
    · rw [if_neg hb, if_neg hb]
  | d + 1, i, hi => by
    have hlt : i < (normL l).length := by omega
    have hx : litB 65536 (normL l)[i] = true := ((mem_normL l _).1 (List.getElem_mem hlt)).2
    have hr := litB_range hx
    refine EvL.step (NormEquivalent_l0 l t hl d (i + 1) (by omega)) (fun k => ?_)
    simp only [chalklinelaw14_CnfNormEquivalent.l0]
    rw [if_pos (by omega), if_pos (by omega), rd_at _ i hlt, mx_abs _ (by omega) (by omega), if_neg (by omega), if_neg (by omega)]
    by_cases h0 : (i : Int) > 0
    · have hp : lt (normL l)[i - 1] (normL l)[i] = true := List.pairwise_iff_getElem.1 (normL_strict l) (i - 1) i (by omega) hlt (by omega)
      have hy : litB 65536 (normL l)[i - 1] = true := ((mem_normL l _).1 (List.getElem_mem (by omega))).2
      have hs := litB_range hy
      have hq : (normL l)[i - 1].natAbs < (normL l)[i].natAbs ∨ ((normL l)[i - 1].natAbs = (normL l)[i].natAbs ∧ (normL l)[i] < (normL l)[i - 1]) := by simpa [lt] using hp
      rw [if_pos h0, w_pred i (by omega) (by omega), if_pos (by omega), if_pos (by omega), rd_at _ (i - 1) (by omega), mx_abs _ (by omega) (by omega), if_neg (by omega), if_neg (by omega), w_succ i (by omega)]
    · rw [if_neg h0, w_succ i (by omega)]
theorem norm_some (l : List Int) (h : l.length < 17592186044416) : cnf_Norm.f l = some (normL l, tautL l) := by unfold cnf_Norm.f; rw [if_pos h]
theorem CnfNormEquivalent : chalklinelaw14_CnfNormEquivalent.Pure := by
  intro l0 l1
  have hT : EvL (fun k => chalklinelaw14_CnfNormEquivalent.j0 k l0 l1 true) true := EvL.step (EvL.const true) (fun k => by simp only [chalklinelaw14_CnfNormEquivalent.j0]; rw [if_pos trivial])
  refine EvL.some_ (EvL.eq (f := fun k => chalklinelaw14_CnfNormEquivalent.f k l0 l1) (g := fun k => if (l0.length : Int) > 60 then (chalklinelaw14_CnfNormEquivalent.j0 k l0 l1 true) else (chalklinelaw14_CnfNormEquivalent.j0 k l0 l1 (decide ((l1.length : Int) > 300)))) ?_ (fun k => rfl))
  by_cases h0 : (l0.length : Int) > 60
  · exact EvL.eq hT (fun k => if_pos h0)
  · by_cases h1 : (l1.length : Int) > 300
    · exact EvL.eq hT (fun k => by rw [if_neg h0, decide_eq_true h1])
    · refine EvL.eq (g := fun k => chalklinelaw14_CnfNormEquivalent.j0 k l0 l1 false) ?_ (fun k => by rw [if_neg h0, decide_eq_false h1])
      have hn := normL_len l0
      refine EvL.step (NormEquivalent_l0 l0 l1 (by omega) (normL l0).length 0 (by omega)) (fun k => ?_)
      simp only [chalklinelaw14_CnfNormEquivalent.j0]
      rw [if_neg (by simp), norm_some l0 (by omega), Option.bind_some, norm_some (normL l0) (by omega), Option.bind_some, normL_normL, tautL_normL]
      rfl
end Go.Proofs.YtcdhhaedgohlgaaGreatDoor.Pure
