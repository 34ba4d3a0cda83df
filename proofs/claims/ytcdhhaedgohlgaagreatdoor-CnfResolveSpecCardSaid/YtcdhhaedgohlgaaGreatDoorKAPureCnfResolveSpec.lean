/- For all clauses a and b and every v the program's Resolve and the reference's answer alike: no condition. -/
import Derived.Test.YtcdhhaedgohlgaaGreatDoorKAPXCnfResolveSpec
import Derived.Test.YtcdhhaedgohlgaaGreatDoorKA6
namespace Go.Proofs.YtcdhhaedgohlgaaGreatDoor.Pure
open Go.RowKit Go.Proofs.YtcdhhaedgohlgaaGreatDoor.P Go.Proofs.YtcdhhaedgohlgaaGreatDoorW.PrintWords Go.Proofs.YtcdhhaedgohlgaaGreatDoorW.PrintLast

theorem resolve_some (a b : List Int) (v : Int) (h : a.length + b.length < 17592186044416) : cnf_Resolve.f a b v = some (resolveV a b v) := by unfold cnf_Resolve.f; rw [if_pos h]
theorem resolveV_len (a b : List Int) (v : Int) : (resolveV a b v).1.length ≤ a.length + b.length := by
  rcases resolveV_cases a b v with e | ⟨x, _, _, _, e⟩
  · rw [e]; simp
  · rw [e]
    have h1 := normL_len (drp a x ++ drp b (-x))
    have h2 : (drp a x).length ≤ a.length := List.length_filter_le _ _
    have h3 : (drp b (-x)).length ≤ b.length := List.length_filter_le _ _
    rw [List.length_append] at h1
    show (normL _).length ≤ _
    omega
theorem CnfResolveSpec : chalklinelaw14_CnfResolveSpec.Pure := by
  intro l0 l1 a2 hm0 y0 hw0 hm1 y1 hw1 w2
  have hT : EvL (fun k => chalklinelaw14_CnfResolveSpec.j0 k l0 l1 a2 true) true := EvL.step (EvL.const true) (fun k => by simp only [chalklinelaw14_CnfResolveSpec.j0]; rw [if_pos trivial])
  refine EvL.some_ (EvL.eq (f := fun k => chalklinelaw14_CnfResolveSpec.f k l0 l1 a2) (g := fun k => if (l0.length : Int) > 100 then (chalklinelaw14_CnfResolveSpec.j0 k l0 l1 a2 true) else (chalklinelaw14_CnfResolveSpec.j0 k l0 l1 a2 (decide ((l1.length : Int) > 100)))) ?_ (fun k => rfl))
  by_cases h0 : (l0.length : Int) > 100
  · exact EvL.eq hT (fun k => if_pos h0)
  · by_cases h1 : (l1.length : Int) > 100
    · exact EvL.eq hT (fun k => by rw [if_neg h0, decide_eq_true h1])
    · refine EvL.eq (g := fun k => chalklinelaw14_CnfResolveSpec.j0 k l0 l1 a2 false) ?_ (fun k => by rw [if_neg h0, decide_eq_false h1])
      have hr := Resolve_f l0 l1 a2 (by omega) (by omega)
      have hi := Ints_same (resolveV l0 l1 a2).1 (resolveV l0 l1 a2).1 (by have := resolveV_len l0 l1 a2; omega) rfl
      refine EvL.step (EvL.bind hr (h := fun bt k => (chalklineref14_Ints.f k (resolveV l0 l1 a2).1 bt.1).bind fun t275 => (if t275 = true then (some ((resolveV l0 l1 a2).2 == bt.2)) else (some false))) (EvL.bind hi (h := fun t k => if t = true then (some ((resolveV l0 l1 a2).2 == (resolveV l0 l1 a2).2)) else (some false)) ?_)) (fun k => ?_)
      · exact EvL.eq (EvL.const true) (fun k => by rw [if_pos rfl, beq_self_eq_true])
      · simp only [chalklinelaw14_CnfResolveSpec.j0]
        rw [if_neg (by simp), resolve_some l0 l1 a2 (by omega), Option.bind_some]
end Go.Proofs.YtcdhhaedgohlgaaGreatDoor.Pure
