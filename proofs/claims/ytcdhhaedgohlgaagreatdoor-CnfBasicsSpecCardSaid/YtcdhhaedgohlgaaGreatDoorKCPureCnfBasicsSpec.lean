/- For all formulas, clauses and assignments Check, Same, Norm, Holds, Value and Subsumes answer what the reference answers. Condition: the sizes that a row's weight allows. -/
import Derived.Test.YtcdhhaedgohlgaaGreatDoorKCPXCnfBasicsSpec
import Derived.Test.YtcdhhaedgohlgaaGreatDoorKC5
namespace Go.Proofs.YtcdhhaedgohlgaaGreatDoor.Pure
open Go.RowKit Go.Proofs.YtcdhhaedgohlgaaGreatDoor.P Go.Proofs.YtcdhhaedgohlgaaGreatDoorW.PrintWords Go.Proofs.YtcdhhaedgohlgaaGreatDoorW.PrintLast

theorem BasicsSpec_j1 (n : Int) (L : List (List Int)) (m : Int) (M : List (List Int)) (a b : List Int) (t : List Bool) (hS : SmallL L) (ha : a.length < 4611686018427387904) (hb : b.length < 4611686018427387904) :
    EvL (fun k => chalklinelaw14_CnfBasicsSpec.j1 k a b t true n L m M) true := by
  have hC := RCheck_f n L hS
  have hSm := RSame_f n L m M hS
  have hH := RHolds_f a t ha
  have hV := RValue_f n L t hS
  have hSu := RSubsumes_f a b ha hb
  have h5 : EvL (fun k => (chalklineref14_Subsumes.f k a b).bind fun t247 => (some (subsumesV a b == t247))) true :=
    EvL.bind hSu (h := fun t247 _ => some (subsumesV a b == t247)) (EvL.eq (EvL.const true) fun k => by simp)
  have h4 : EvL (fun k => (chalklineref14_Value.f k n L t).bind fun t245 => (if (valueV n L t == t245) = true then ((cnf_Subsumes.f a b).bind fun t246 => ((chalklineref14_Subsumes.f k a b).bind fun t247 => (some (t246 == t247)))) else (some false))) true :=
    EvL.bind hV (h := fun t245 k => if (valueV n L t == t245) = true then ((cnf_Subsumes.f a b).bind fun t246 => ((chalklineref14_Subsumes.f k a b).bind fun t247 => (some (t246 == t247)))) else (some false)) (EvL.eq h5 fun k => by rw [if_pos (by simp), cnf_Subsumes.f, Option.bind_some])
  have h3 : EvL (fun k => (chalklineref14_Holds.f k a t).bind fun t243 => (if (holdsV a t == t243) = true then ((cnf_Value.f n L t).bind fun t244 => ((chalklineref14_Value.f k n L t).bind fun t245 => (if (t244 == t245) = true then ((cnf_Subsumes.f a b).bind fun t246 => ((chalklineref14_Subsumes.f k a b).bind fun t247 => (some (t246 == t247)))) else (some false)))) else (some false))) true :=
    EvL.bind hH (h := fun t243 k => if (holdsV a t == t243) = true then ((cnf_Value.f n L t).bind fun t244 => ((chalklineref14_Value.f k n L t).bind fun t245 => (if (t244 == t245) = true then ((cnf_Subsumes.f a b).bind fun t246 => ((chalklineref14_Subsumes.f k a b).bind fun t247 => (some (t246 == t247)))) else (some false)))) else (some false)) (EvL.eq h4 fun k => by rw [if_pos (by simp), cnf_Value.f, Option.bind_some])
  have h2 : EvL (fun k => (chalklineref14_Same.f k n L m M).bind fun t241 => (if (sameV n L m M == t241) = true then ((cnf_Holds.f a t).bind fun t242 => ((chalklineref14_Holds.f k a t).bind fun t243 => (if (t242 == t243) = true then ((cnf_Value.f n L t).bind fun t244 => ((chalklineref14_Value.f k n L t).bind fun t245 => (if (t244 == t245) = true then ((cnf_Subsumes.f a b).bind fun t246 => ((chalklineref14_Subsumes.f k a b).bind fun t247 => (some (t246 == t247)))) else (some false)))) else (some false)))) else (some false))) true :=
    EvL.bind hSm (h := fun t241 k => if (sameV n L m M == t241) = true then ((cnf_Holds.f a t).bind fun t242 => ((chalklineref14_Holds.f k a t).bind fun t243 => (if (t242 == t243) = true then ((cnf_Value.f n L t).bind fun t244 => ((chalklineref14_Value.f k n L t).bind fun t245 => (if (t244 == t245) = true then ((cnf_Subsumes.f a b).bind fun t246 => ((chalklineref14_Subsumes.f k a b).bind fun t247 => (some (t246 == t247)))) else (some false)))) else (some false)))) else (some false)) (EvL.eq h3 fun k => by rw [if_pos (by simp), cnf_Holds.f, Option.bind_some])
  refine EvL.step (EvL.bind hC (h := fun t239 k => if checkV n L = t239 then ((cnf_Same.f n L m M).bind fun t240 => ((chalklineref14_Same.f k n L m M).bind fun t241 => (if (t240 == t241) = true then ((cnf_Holds.f a t).bind fun t242 => ((chalklineref14_Holds.f k a t).bind fun t243 => (if (t242 == t243) = true then ((cnf_Value.f n L t).bind fun t244 => ((chalklineref14_Value.f k n L t).bind fun t245 => (if (t244 == t245) = true then ((cnf_Subsumes.f a b).bind fun t246 => ((chalklineref14_Subsumes.f k a b).bind fun t247 => (some (t246 == t247)))) else (some false)))) else (some false)))) else (some false))) ) else (some false)) (EvL.eq h2 fun k => by rw [if_pos rfl, cnf_Same.f, Option.bind_some])) (fun k => ?_)
  simp only [chalklinelaw14_CnfBasicsSpec.j1]
  rw [if_pos trivial, cnf_Check.f, Option.bind_some]
theorem CnfBasicsSpec (n : Int) (L : List (List Int)) (m : Int) (M : List (List Int)) (a b : List Int) (t : List Bool) (hS : SmallL L) (hS2 : SmallL M) (ha : a.length ≤ 17592186043904) (hb : b.length ≤ 17592186043904) : ∃ k, chalklinelaw14_CnfBasicsSpec.f k n L m M a b t = some true := by
  have hT : EvL (fun k => chalklinelaw14_CnfBasicsSpec.j0 k a b t true n L m M) true := EvL.step (EvL.const true) (fun k => by simp only [chalklinelaw14_CnfBasicsSpec.j0]; rw [if_pos trivial])
  have hF0 : ¬ (a.length : Int) > 100 → EvL (fun k => chalklinelaw14_CnfBasicsSpec.j0 k a b t false n L m M) true := by
    intro hle
    have hn := normL_len a
    have hN := Norm_f a (by omega)
    have hI := Ints_same (normL a) (normL a) (by omega) rfl
    have h1 : EvL (fun k => (chalklineref14_Ints.f k (normL a) (normL a)).bind fun t237 => (if t237 = true then (chalklinelaw14_CnfBasicsSpec.j1 k a b t (tautL a == tautL a) n L m M) else (chalklinelaw14_CnfBasicsSpec.j1 k a b t false n L m M))) true :=
      EvL.bind hI (h := fun t237 k => if t237 = true then (chalklinelaw14_CnfBasicsSpec.j1 k a b t (tautL a == tautL a) n L m M) else (chalklinelaw14_CnfBasicsSpec.j1 k a b t false n L m M)) (EvL.eq (BasicsSpec_j1 n L m M a b t hS (by omega) (by omega)) fun k => by rw [if_pos rfl, beq_self_eq_true])
    refine EvL.step (EvL.bind hN (h := fun bt233 k => (chalklineref14_Ints.f k (normL a) bt233.1).bind fun t237 => (if t237 = true then (chalklinelaw14_CnfBasicsSpec.j1 k a b t (tautL a == bt233.2) n L m M) else (chalklinelaw14_CnfBasicsSpec.j1 k a b t false n L m M))) h1) (fun k => ?_)
    have hnf : cnf_Norm.f a = some (normL a, tautL a) := by unfold cnf_Norm.f; rw [if_pos (by omega)]
    simp only [chalklinelaw14_CnfBasicsSpec.j0]
    rw [if_neg (by simp), hnf, Option.bind_some]
  have g1 := few_f n L hS
  have g2 := few_f m M hS2
  have hin : EvL (fun k => if (a.length : Int) > 100 then (chalklinelaw14_CnfBasicsSpec.j0 k a b t true n L m M) else (if (b.length : Int) > 100 then (chalklinelaw14_CnfBasicsSpec.j0 k a b t true n L m M) else (chalklinelaw14_CnfBasicsSpec.j0 k a b t (decide ((t.length : Int) > 200)) n L m M))) true := by
    by_cases h1 : (a.length : Int) > 100
    · exact EvL.eq hT fun k => if_pos h1
    · by_cases h2 : (b.length : Int) > 100
      · exact EvL.eq hT fun k => by rw [if_neg h1, if_pos h2]
      · by_cases h3 : (t.length : Int) > 200
        · exact EvL.eq hT fun k => by rw [if_neg h1, if_neg h2, decide_eq_true h3]
        · exact EvL.eq (hF0 h1) fun k => by rw [if_neg h1, if_neg h2, decide_eq_false h3]
  have h2 : ∀ b2 : Bool, EvL (fun k => if b2 = true then (if (a.length : Int) > 100 then (chalklinelaw14_CnfBasicsSpec.j0 k a b t true n L m M) else (if (b.length : Int) > 100 then (chalklinelaw14_CnfBasicsSpec.j0 k a b t true n L m M) else (chalklinelaw14_CnfBasicsSpec.j0 k a b t (decide ((t.length : Int) > 200)) n L m M))) else (chalklinelaw14_CnfBasicsSpec.j0 k a b t true n L m M)) true := by
    intro b2
    cases b2 with
    | true => exact EvL.eq hin fun k => if_pos rfl
    | false => exact EvL.eq hT fun k => if_neg (by simp)
  have h1 : ∀ b1 : Bool, EvL (fun k => if b1 = true then ((chalklinelaw14_few.f k m M).bind fun t228 => (if t228 = true then (if (a.length : Int) > 100 then (chalklinelaw14_CnfBasicsSpec.j0 k a b t true n L m M) else (if (b.length : Int) > 100 then (chalklinelaw14_CnfBasicsSpec.j0 k a b t true n L m M) else (chalklinelaw14_CnfBasicsSpec.j0 k a b t (decide ((t.length : Int) > 200)) n L m M))) else (chalklinelaw14_CnfBasicsSpec.j0 k a b t true n L m M))) else (chalklinelaw14_CnfBasicsSpec.j0 k a b t true n L m M)) true := by
    intro b1
    cases b1 with
    | true => exact EvL.eq (EvL.bind g2 (h := fun t228 k => if t228 = true then (if (a.length : Int) > 100 then (chalklinelaw14_CnfBasicsSpec.j0 k a b t true n L m M) else (if (b.length : Int) > 100 then (chalklinelaw14_CnfBasicsSpec.j0 k a b t true n L m M) else (chalklinelaw14_CnfBasicsSpec.j0 k a b t (decide ((t.length : Int) > 200)) n L m M))) else (chalklinelaw14_CnfBasicsSpec.j0 k a b t true n L m M)) (h2 _)) fun k => if_pos rfl
    | false => exact EvL.eq hT fun k => if_neg (by simp)
  refine EvL.some_ (EvL.eq (f := fun k => chalklinelaw14_CnfBasicsSpec.f k n L m M a b t) (EvL.bind g1 (h := fun t227 k => if t227 = true then ((chalklinelaw14_few.f k m M).bind fun t228 => (if t228 = true then (if (a.length : Int) > 100 then (chalklinelaw14_CnfBasicsSpec.j0 k a b t true n L m M) else (if (b.length : Int) > 100 then (chalklinelaw14_CnfBasicsSpec.j0 k a b t true n L m M) else (chalklinelaw14_CnfBasicsSpec.j0 k a b t (decide ((t.length : Int) > 200)) n L m M))) else (chalklinelaw14_CnfBasicsSpec.j0 k a b t true n L m M))) else (chalklinelaw14_CnfBasicsSpec.j0 k a b t true n L m M)) (h1 _)) (fun k => rfl))
end Go.Proofs.YtcdhhaedgohlgaaGreatDoor.Pure
