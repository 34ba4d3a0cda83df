/- For all clauses a and b and every assignment t: where a subsumes b, b holds wherever a does; where it does not and b is no tautology, an assignment satisfies a and not b. No condition. -/
import Derived.Test.YtcdhhaedgohlgaaGreatDoorKAPXCnfSubsumesSound
import Derived.Test.YtcdhhaedgohlgaaGreatDoorKA6
namespace Go.Proofs.YtcdhhaedgohlgaaGreatDoor.P
open Go.RowKit Go.Proofs.YtcdhhaedgohlgaaGreatDoorW.PrintWords Go.Proofs.YtcdhhaedgohlgaaGreatDoorW.PrintLast
def chalklinelaw14_CnfSubsumesSound.Pure : Prop := ∀ (l0 l1 : List Int) (l2 : List Bool), ∃ k, chalklinelaw14_CnfSubsumesSound.f k l0 l1 l2 = some true
end Go.Proofs.YtcdhhaedgohlgaaGreatDoor.P
namespace Go.Proofs.YtcdhhaedgohlgaaGreatDoor.Pure
open Go.RowKit Go.Proofs.YtcdhhaedgohlgaaGreatDoor.P Go.Proofs.YtcdhhaedgohlgaaGreatDoorW.PrintWords Go.Proofs.YtcdhhaedgohlgaaGreatDoorW.PrintLast

theorem ss_norm_some (l : List Int) (h : l.length < 17592186044416) : cnf_Norm.f l = some (normL l, tautL l) := by unfold cnf_Norm.f; rw [if_pos h]
theorem ss_l1 (a b : List Int) (T : List Bool) (hla : (normL a).length ≤ 60) (hlb : (normL b).length ≤ 60) (hl : T.length = 65537) (hT : ∀ v : Nat, 1 ≤ v → v ≤ 65536 → T.getD v false = decide (-(v : Int) ∈ normL b)) (ht : tautL b = false) :
    ∀ d i : Nat, i + d = (normL a).length → (∀ x ∈ (normL a).take i, x ∈ normL b) → EvL (fun k => chalklinelaw14_CnfSubsumesSound.l1 k a b (normL a) (normL b) T (i : Int)) true
  | 0, i, hi, hm => by
    rw [List.take_of_length_le (by omega)] at hm
    refine EvL.step (EvL.const true) (fun k => ?_)
    simp only [chalklinelaw14_CnfSubsumesSound.l1]
    rw [if_neg (by omega), cnf_Subsumes.f, (subsumesV_iff _ _).2 hm]
    rfl
  | d + 1, i, hi, hm => by
    have hlt : i < (normL a).length := by omega
    have hxm : (normL a)[i] ∈ normL a := List.getElem_mem hlt
    have hx : litB 65536 (normL a)[i] = true := ((mem_normL a _).1 hxm).2
    have hr := litB_range hx
    have hmx := mx_abs (normL a)[i] (by omega) (by omega)
    have hrd := rd_at (normL a) i hlt
    refine EvL.step (EvL.bind (Has_f (normL b) (normL a)[i] (by omega)) (h := fun t369 k => if t369 = true then (chalklinelaw14_CnfSubsumesSound.j3 k a b (normL a) (normL b) T (i : Int) ((normL a)[i].natAbs : Int) false) else (chalklinelaw14_CnfSubsumesSound.j3 k a b (normL a) (normL b) T (i : Int) ((normL a)[i].natAbs : Int) true)) ?_) (fun k => ?_)
    · by_cases h : (normL a)[i] ∈ normL b
      · rw [decide_eq_true h]
        refine EvL.eq (EvL.step (ss_l1 a b T hla hlb hl hT ht d (i + 1) (by omega) ?_) (f := fun k => chalklinelaw14_CnfSubsumesSound.j3 k a b (normL a) (normL b) T (i : Int) ((normL a)[i].natAbs : Int) false) (fun k => ?_)) (fun k => if_pos rfl)
        · intro x hx
          rw [List.take_succ_eq_append_getElem hlt, List.mem_append] at hx
          rcases hx with hx | hx
          · exact hm x hx
          · rw [List.mem_singleton.1 hx]; exact h
        · simp only [chalklinelaw14_CnfSubsumesSound.j3]
          rw [if_neg (by simp), w_succ i (by omega)]
      · rw [decide_eq_false h]
        obtain ⟨h1, h2⟩ := subs_sound hl hT hxm h ht
        refine EvL.eq (EvL.step (EvL.const true) (f := fun k => chalklinelaw14_CnfSubsumesSound.j3 k a b (normL a) (normL b) T (i : Int) ((normL a)[i].natAbs : Int) true) (fun k => ?_)) (fun k => if_neg (by simp))
        simp only [chalklinelaw14_CnfSubsumesSound.j3]
        rw [if_pos trivial, if_pos (by omega), if_pos (by omega), if_pos (by omega), if_pos (by omega), hrd, Int.toNat_natCast, Option.bind_some, cnf_Holds.f, h1, Option.bind_some, if_pos rfl, cnf_Holds.f, h2, Option.bind_some]
        rfl
    · simp only [chalklinelaw14_CnfSubsumesSound.l1]
      rw [if_pos (by omega), if_pos (by omega), hrd, hmx]
      congr 1
      funext t369
      by_cases h : t369 = true
      · rw [if_pos h, if_pos h]
      · rw [if_neg h, if_neg h, if_pos (by omega), decide_eq_true (by omega)]
theorem ss_l0 (a b : List Int) (hla : (normL a).length ≤ 60) (hlb : (normL b).length ≤ 60) (ht : tautL b = false) :
    ∀ (d i : Nat) (T : List Bool), i + d = (normL b).length → T.length = 65537 → (∀ v : Nat, 1 ≤ v → v ≤ 65536 → T.getD v false = decide (-(v : Int) ∈ (normL b).take i)) → EvL (fun k => chalklinelaw14_CnfSubsumesSound.l0 k a b (normL a) (normL b) T (i : Int)) true
  | 0, i, T, hi, hl, hT => by
    rw [List.take_of_length_le (by omega)] at hT
    refine EvL.step (ss_l1 a b T hla hlb hl hT ht (normL a).length 0 (by omega) (by simp)) (fun k => ?_)
    simp only [chalklinelaw14_CnfSubsumesSound.l0]
    rw [if_neg (by omega)]
    rfl
  | d + 1, i, T, hi, hl, hT => by
    have hlt : i < (normL b).length := by omega
    have hx : litB 65536 (normL b)[i] = true := ((mem_normL b _).1 (List.getElem_mem hlt)).2
    have hr := litB_range hx
    have hrd := rd_at (normL b) i hlt
    by_cases hn : (normL b)[i] < 0
    · have hw := w_neg (normL b)[i] (by omega) (by omega)
      refine EvL.step (ss_l0 a b hla hlb ht d (i + 1) (T.set (-(normL b)[i]).toNat true) (by omega) (by rw [List.length_set, hl]) ?_) (fun k => ?_)
      · intro v h1 h2
        rw [getD_set T _ v true (by omega), List.take_succ_eq_append_getElem hlt]
        by_cases e : v = (-(normL b)[i]).toNat
        · rw [if_pos e, decide_eq_true]
          rw [List.mem_append, List.mem_singleton]
          exact Or.inr (by omega)
        · rw [if_neg e, hT v h1 h2]
          refine decide_eq_decide.2 ?_
          rw [List.mem_append, List.mem_singleton]
          exact ⟨Or.inl, fun h => h.resolve_right (by omega)⟩
      · simp only [chalklinelaw14_CnfSubsumesSound.l0]
        rw [if_pos (by omega), if_pos (by omega), hrd, hw, if_pos hn, if_pos (by omega), if_pos (by omega), if_pos (by omega), w_succ i (by omega)]
    · refine EvL.step (ss_l0 a b hla hlb ht d (i + 1) T (by omega) hl ?_) (fun k => ?_)
      · intro v h1 h2
        rw [hT v h1 h2, List.take_succ_eq_append_getElem hlt]
        refine decide_eq_decide.2 ?_
        rw [List.mem_append, List.mem_singleton]
        exact ⟨Or.inl, fun h => h.resolve_right (by omega)⟩
      · simp only [chalklinelaw14_CnfSubsumesSound.l0]
        rw [if_pos (by omega), if_pos (by omega), hrd, if_neg hn, w_succ i (by omega)]
theorem CnfSubsumesSound : chalklinelaw14_CnfSubsumesSound.Pure := by
  intro l0 l1 l2
  have hT : EvL (fun k => chalklinelaw14_CnfSubsumesSound.j0 k l0 l1 l2 true) true := EvL.step (EvL.const true) (fun k => by simp only [chalklinelaw14_CnfSubsumesSound.j0]; rw [if_pos trivial])
  refine EvL.some_ (EvL.eq (f := fun k => chalklinelaw14_CnfSubsumesSound.f k l0 l1 l2) (g := fun k => if (l0.length : Int) > 60 then (chalklinelaw14_CnfSubsumesSound.j0 k l0 l1 l2 true) else (if (l1.length : Int) > 60 then (chalklinelaw14_CnfSubsumesSound.j0 k l0 l1 l2 true) else (chalklinelaw14_CnfSubsumesSound.j0 k l0 l1 l2 (decide ((l2.length : Int) > 300))))) ?_ (fun k => rfl))
  by_cases h0 : (l0.length : Int) > 60
  · exact EvL.eq hT (fun k => if_pos h0)
  · by_cases h1 : (l1.length : Int) > 60
    · exact EvL.eq hT (fun k => by rw [if_neg h0, if_pos h1])
    · by_cases h3 : (l2.length : Int) > 300
      · exact EvL.eq hT (fun k => by rw [if_neg h0, if_neg h1, decide_eq_true h3])
      · refine EvL.eq (g := fun k => chalklinelaw14_CnfSubsumesSound.j0 k l0 l1 l2 false) ?_ (fun k => by rw [if_neg h0, if_neg h1, decide_eq_false h3])
        have n0 := normL_len l0
        have n1 := normL_len l1
        by_cases hs : subsumesV l0 l1 = true
        · refine EvL.step (EvL.const true) (fun k => ?_)
          simp only [chalklinelaw14_CnfSubsumesSound.j0]
          by_cases ha : holdsV l0 l2 = true
          · rw [if_neg (by simp), cnf_Subsumes.f, hs, Option.bind_some, if_pos rfl, cnf_Holds.f, ha, Option.bind_some, if_pos rfl, cnf_Holds.f, subsumesV_holds hs ha]
            rfl
          · have ha' : holdsV l0 l2 = false := by simpa using ha
            rw [if_neg (by simp), cnf_Subsumes.f, hs, Option.bind_some, if_pos rfl, cnf_Holds.f, ha', Option.bind_some, if_neg (by simp)]
        · have hs' : subsumesV l0 l1 = false := by simpa using hs
          by_cases hb : tautL l1 = true
          · refine EvL.step (EvL.const true) (fun k => ?_)
            simp only [chalklinelaw14_CnfSubsumesSound.j0]
            rw [if_neg (by simp), cnf_Subsumes.f, hs', Option.bind_some, if_neg (by simp), ss_norm_some l0 (by omega), Option.bind_some, ss_norm_some l1 (by omega), Option.bind_some, if_pos hb, cnf_Holds.f, tautL_holds l2 hb]
            rfl
          · have hb' : tautL l1 = false := by simpa using hb
            refine EvL.step (ss_l0 l0 l1 (by omega) (by omega) hb' (normL l1).length 0 (List.replicate 65537 false) (by omega) List.length_replicate ?_) (fun k => ?_)
            · intro v _ h2
              rw [List.getD_eq_getElem?_getD, List.getElem?_replicate, if_pos (by omega)]
              simp
            · simp only [chalklinelaw14_CnfSubsumesSound.j0]
              rw [if_neg (by simp), cnf_Subsumes.f, hs', Option.bind_some, if_neg (by simp), ss_norm_some l0 (by omega), Option.bind_some, ss_norm_some l1 (by omega), Option.bind_some, if_neg hb, if_pos (by omega)]
              rfl
end Go.Proofs.YtcdhhaedgohlgaaGreatDoor.Pure
