/- For all clauses a and b, every v and assignment t: what Resolve gives holds wherever a and b hold, the parents' order does not matter, and a unit parent only takes literals away. -/
import Derived.Test.YtcdhhaedgohlgaaGreatDoorKAPXCnfResolveSound
import Derived.Test.YtcdhhaedgohlgaaGreatDoorKA6
namespace Go.Proofs.YtcdhhaedgohlgaaGreatDoor.P
open Go.RowKit Go.Proofs.YtcdhhaedgohlgaaGreatDoorW.PrintWords Go.Proofs.YtcdhhaedgohlgaaGreatDoorW.PrintLast
def chalklinelaw14_CnfResolveSound.Pure : Prop := ∀ (l0 l1 : List Int) (a2 : Int) (l3 : List Bool), (∀ x ∈ l0, (Lit.int .i64 x).wf = true) → (∀ x ∈ l1, (Lit.int .i64 x).wf = true) → (Lit.int .i64 a2).wf = true → ∃ k, chalklinelaw14_CnfResolveSound.f k l0 l1 a2 l3 = some true
end Go.Proofs.YtcdhhaedgohlgaaGreatDoor.P
namespace Go.Proofs.YtcdhhaedgohlgaaGreatDoor.Pure
open Go.RowKit Go.Proofs.YtcdhhaedgohlgaaGreatDoor.P Go.Proofs.YtcdhhaedgohlgaaGreatDoorW.PrintWords Go.Proofs.YtcdhhaedgohlgaaGreatDoorW.PrintLast

theorem wf_range {x : Int} (h : (Lit.int .i64 x).wf = true) : -9223372036854775808 ≤ x ∧ x ≤ 9223372036854775807 := by
  have h2 : IntKind.i64.min ≤ x ∧ x ≤ 9223372036854775807 := by simpa [Lit.wf] using h
  have e : IntKind.i64.min = -9223372036854775808 := by decide
  rw [e] at h2
  exact h2
theorem rs_resolve_some (a b : List Int) (v : Int) (h : a.length + b.length < 17592186044416) : cnf_Resolve.f a b v = some (resolveV a b v) := by unfold cnf_Resolve.f; rw [if_pos h]
theorem rs_resolveV_len (a b : List Int) (v : Int) : (resolveV a b v).1.length ≤ a.length + b.length := by
  rcases resolveV_cases a b v with e | ⟨x, _, _, _, e⟩
  · rw [e]; simp
  · rw [e]
    have h1 := normL_len (drp a x ++ drp b (-x))
    have h2 : (drp a x).length ≤ a.length := List.length_filter_le _ _
    have h3 : (drp b (-x)).length ≤ b.length := List.length_filter_le _ _
    rw [List.length_append] at h1
    show (normL _).length ≤ _
    omega
theorem rs_j2 (a b X : List Int) (t : List Bool) (h : holdsV a t = true → holdsV b t = true → holdsV X t = true) : EvL (fun k => chalklinelaw14_CnfResolveSound.j2 k a b t X true false) true := by
  refine EvL.step (EvL.const true) (fun k => ?_)
  by_cases ha : holdsV a t = true
  · by_cases hb : holdsV b t = true
    · simp [chalklinelaw14_CnfResolveSound.j2, cnf_Holds.f, ha, hb, h ha hb]
    · simp [chalklinelaw14_CnfResolveSound.j2, cnf_Holds.f, ha, hb]
  · simp [chalklinelaw14_CnfResolveSound.j2, cnf_Holds.f, ha]
theorem rs_j1 (a b : List Int) (v : Int) (t : List Bool) (ha : a.length ≤ 100) (hb : b.length ≤ 100) (wa : ∀ x ∈ a, (Lit.int .i64 x).wf = true) (wv : (Lit.int .i64 v).wf = true)
    (he : (resolveV a b v).2 = 0) : EvL (fun k => chalklinelaw14_CnfResolveSound.j1 k a b v t (resolveV a b v).1 (resolveV b a v).1 (resolveV b a v).2 true) true := by
  have hJ : EvL (fun k => chalklinelaw14_CnfResolveSound.j2 k a b t (resolveV a b v).1 true false) true := rs_j2 a b _ t (resolveV_holds a b v t he)
  by_cases hf : (resolveV b a v).2 = 0
  · refine EvL.step (EvL.bind (Has_f a (wrap64 (-v)) (by omega)) (h := fun t339 k => if t339 = true then (chalklinelaw14_CnfResolveSound.j2 k a b t (resolveV a b v).1 true false) else ((chalklineref14_Has.f k b v).bind fun t340 => (if t340 = true then (chalklinelaw14_CnfResolveSound.j2 k a b t (resolveV a b v).1 true false) else ((chalklineref14_Ints.f k (resolveV a b v).1 (resolveV b a v).1).bind fun t341 => (chalklinelaw14_CnfResolveSound.j2 k a b t (resolveV a b v).1 true (!t341)))))) ?_) (fun k => by simp only [chalklinelaw14_CnfResolveSound.j1]; rw [if_pos hf])
    by_cases h1 : wrap64 (-v) ∈ a
    · rw [decide_eq_true h1]
      exact EvL.eq hJ (fun k => if_pos rfl)
    · rw [decide_eq_false h1]
      refine EvL.eq (EvL.bind (Has_f b v (by omega)) (h := fun t340 k => (if t340 = true then (chalklinelaw14_CnfResolveSound.j2 k a b t (resolveV a b v).1 true false) else ((chalklineref14_Ints.f k (resolveV a b v).1 (resolveV b a v).1).bind fun t341 => (chalklinelaw14_CnfResolveSound.j2 k a b t (resolveV a b v).1 true (!t341))))) ?_) (fun k => if_neg (by simp))
      by_cases h2 : v ∈ b
      · rw [decide_eq_true h2]
        exact EvL.eq hJ (fun k => if_pos rfl)
      · rw [decide_eq_false h2]
        have hna : -v ∉ a := by
          have r := wf_range wv
          by_cases hm : v = -9223372036854775808
          · intro hin
            have := wf_range (wa _ hin)
            omega
          · rwa [w_neg v (by omega) r.2] at h1
        have hl := rs_resolveV_len a b v
        refine EvL.eq (EvL.bind (Ints_same (resolveV a b v).1 (resolveV b a v).1 (by omega) (resolveV_turn a b v he hf hna h2)) (h := fun t341 k => (chalklinelaw14_CnfResolveSound.j2 k a b t (resolveV a b v).1 true (!t341))) hJ) (fun k => if_neg (by simp))
  · exact EvL.step hJ (fun k => by simp only [chalklinelaw14_CnfResolveSound.j1]; rw [if_neg hf])
theorem CnfResolveSound : chalklinelaw14_CnfResolveSound.Pure := by
  intro l0 l1 a2 l3 wa _ wv
  have hT : EvL (fun k => chalklinelaw14_CnfResolveSound.j0 k l0 l1 a2 l3 true) true := EvL.step (EvL.const true) (fun k => by simp only [chalklinelaw14_CnfResolveSound.j0]; rw [if_pos trivial])
  refine EvL.some_ (EvL.eq (f := fun k => chalklinelaw14_CnfResolveSound.f k l0 l1 a2 l3) (g := fun k => if (l0.length : Int) > 100 then (chalklinelaw14_CnfResolveSound.j0 k l0 l1 a2 l3 true) else (if (l1.length : Int) > 100 then (chalklinelaw14_CnfResolveSound.j0 k l0 l1 a2 l3 true) else (chalklinelaw14_CnfResolveSound.j0 k l0 l1 a2 l3 (decide ((l3.length : Int) > 300))))) ?_ (fun k => rfl))
  by_cases h0 : (l0.length : Int) > 100
  · exact EvL.eq hT (fun k => if_pos h0)
  · by_cases h1 : (l1.length : Int) > 100
    · exact EvL.eq hT (fun k => by rw [if_neg h0, if_pos h1])
    · by_cases h3 : (l3.length : Int) > 300
      · exact EvL.eq hT (fun k => by rw [if_neg h0, if_neg h1, decide_eq_true h3])
      · refine EvL.eq (g := fun k => chalklinelaw14_CnfResolveSound.j0 k l0 l1 a2 l3 false) ?_ (fun k => by rw [if_neg h0, if_neg h1, decide_eq_false h3])
        by_cases he : (resolveV l0 l1 a2).2 = 0
        · have hJ := rs_j1 l0 l1 a2 l3 (by omega) (by omega) wa wv he
          refine EvL.step hJ (fun k => ?_)
          simp only [chalklinelaw14_CnfResolveSound.j0]
          rw [if_neg (by simp), rs_resolve_some l0 l1 a2 (by omega), Option.bind_some, if_pos he, rs_resolve_some l1 l0 a2 (by omega), Option.bind_some]
          by_cases hl : (l0.length : Int) = 1
          · rw [if_pos hl]
            have hu := resolveV_unit l0 l1 a2 he (by omega)
            simp only [cnf_Subsumes.f, hu, Option.bind_some, if_true]
          · rw [if_neg hl]
            have : ((l0.length : Int) != 1) = true := by simpa using hl
            rw [this]
        · have e := resolveV_err l0 l1 a2 he
          refine EvL.step (EvL.const true) (fun k => ?_)
          simp only [chalklinelaw14_CnfResolveSound.j0]
          rw [if_neg (by simp), rs_resolve_some l0 l1 a2 (by omega), Option.bind_some, if_neg he, e]
          rfl
end Go.Proofs.YtcdhhaedgohlgaaGreatDoor.Pure
