/- The law CnfConjunction answers true at every input, each argument reads afterwards as it read before; the listed tables of the library are tied to the program's text. -/
import Derived.Test.YtcdhhaedgohlgaaGreatDoorRows
import Derived.Test.YtcdhhaedgohlgaaGreatDoorKD5
import Derived.Test.YtcdhhaedgohlgaaGreatDoorKDLFCnfConjunction
import Derived.Test.YtcdhhaedgohlgaaGreatDoorTie
import Derived.Test.YtcdhhaedgohlgaaGreatDoorCards
import Derived.Test.YtcdhhaedgohlgaaGreatDoorKDHBools
import Derived.Lay
import Derived.SevenTiedAt
import Derived.WalkKit
import Derived.ProofKit
import Derived.OpenShut
import Derived.ShutString
import Derived.ChangeOld
import Derived.Below
import Derived.SizedLaws
namespace Go.Proofs.YtcdhhaedgohlgaaGreatDoor.cnfConjunction
open Go.ChangeShapes Go.WideShapes Go.ChangeAt Go.RowKit Go.Proofs.YtcdhhaedgohlgaaGreatDoorW.PrintWords Go.Proofs.YtcdhhaedgohlgaaGreatDoorW.PrintLast
open Go.ChangeMaps (open_string shut_string)
set_option linter.unusedVariables false
theorem own : ownKnob Tryz.prog.godebug = none := by kernel_rfl
theorem laidOut : laidOutB Tryz.prog = true := by kernel_rfl
def IsRow (k : IntKind) (w : World) (a : Option Addr) (len cap : Nat) (zs : List Int) : Prop :=
  (a = none ∧ len = 0 ∧ cap = 0 ∧ zs = []) ∨
  ∃ x, a = some x ∧ len ≤ cap ∧ cap ≤ maxLen ∧ zs.length = cap ∧ (∀ i, i < zs.length → w.cell? (x.add i) = some (.int k (zs.getD i 0))) ∧ ∀ n ∈ zs, (Lit.int k n).wf = true
set_option maxRecDepth 100000 in
theorem lifted (os : Os) (started : os.Started) (H : Type) (enc : TypeId × Value → H) :
    ReturnsInHanded {} Tryz.checked os 11 .any (fun w args => (Rows.cnfConjunctionSpec.pre enc Tryz.prog Tryz.f11 Rows.cnfConjunctionRow.domain false w args ∧ laidMetH Tryz.prog Rows.cnfConjunctionRow.laid w) ∧ sizedMet enc Tryz.prog Tryz.f11 (OpenSpec.ofChange Rows.cnfConjunctionSpec) false w args) (Rows.cnfConjunctionSpec.post enc Tryz.prog Tryz.f11 false true false false) := by
  refine returnsInHanded_of_change_and (C := Tryz.checked) (X := fun w _ => laidMetH Tryz.prog Rows.cnfConjunctionRow.laid w) (fun _ _ _ hh h => h.of_heap hh) own started (by kernel_rfl) Tryz.func11
    (ChangeSpec.witness_shaped (enc := enc) (C := Tryz.checked) (os := os) (X := fun w _ => laidMetH Tryz.prog Rows.cnfConjunctionRow.laid w) false (World.laidAll Tryz.prog os Rows.cnfConjunctionRow.laid) #[.agg #[.int .i64 0, .slice none 0 0], .slice none 0 0, .int .i64 0, .slice none 0 0] 8 (World.laidAll_os _ _ _)
      (World.shaped_of_ZipB (by kernel_rfl) (by kernel_rfl)) (by kernel_rfl) (by kernel_rfl) (by kernel_rfl)
      (by rw [MakeChecks.laidMetH_plain _ _ _ (by kernel_rfl)]; exact laidMet_laidAll _ (by kernel_rfl) (by kernel_rfl))) ?_
  intro W base args ds gs before hval0 hW hcnd hsz0 hL0 _
  have hL := hL0
  rw [MakeChecks.laidMetH_plain _ _ _ (by kernel_rfl)] at hL
  have hLaid : P.Laid W := P.Laid.of_met hL (by simp [Rows.cnfConjunctionRow]) (by simp [Rows.cnfConjunctionRow]) (by simp [Rows.cnfConjunctionRow])
  have hsz : (DataW.weightsEach Tryz.prog (Tryz.f11.params.toList ++ Rows.cnfConjunctionSpec.plain.varTypes Tryz.prog) (ds ++ gs)).all (· ≤ reachBytes) = true := hsz0
  have hval : ∀ (j : Nat) t v, Tryz.f11.params[j]? = some t → args[j]? = some v → Value.okWide Tryz.prog W .any base t v := hval0
  have hW' := hW
  obtain ⟨p, q, hA0, hV, rfl, hfz, hnd⟩ := hW
  have hA : DataW.TrodAll enc Tryz.prog W 0 (fun _ => true) true Tryz.f11.params.toList args.toList ds p := hA0
  rw [Tryz.params11] at hA hval hsz
  obtain ⟨v0, vs0, d0, ds0, p0, q0, hargs, rfl, rfl, h0, r0⟩ := trodAll_cons hA
  obtain ⟨v1, vs1, d1, ds1, p1, q1, rfl, rfl, rfl, h1, r1⟩ := trodAll_cons r0
  obtain ⟨v2, vs2, d2, ds2, p2, q2, rfl, rfl, rfl, h2, r2⟩ := trodAll_cons r1
  obtain ⟨v3, vs3, d3, ds3, p3, q3, rfl, rfl, rfl, h3, r3⟩ := trodAll_cons r2
  obtain ⟨rfl, rfl, rfl⟩ := trodAll_nil r3
  obtain rfl : args = #[v0, v1, v2, v3] := by cases args; simp_all
  obtain ⟨rfl, rfl⟩ := trodVars_none hV
  have k0 := h0
  have lt0 : ∀ x ∈ p0, x.block < W.heap.size := by obtain ⟨m, hm⟩ := k0; exact DataW.trod_lt m _ _ _ hm
  obtain ⟨n0, A0, c0, l0, rfl, wn0, hr0, hc0, sz0, hin0⟩ := P.cnf_arg 3 hsz (j := 0) (t := 24) rfl rfl Tryz.underlying24 (by kernel_rfl) (by kernel_rfl) Tryz.underlying3 Tryz.underlying22 Tryz.underlying25 Tryz.underlying3 (by kernel_rfl) (by kernel_rfl) (E := 24) (Q := 8) (by kernel_rfl) (by kernel_rfl) (hval 0 24 v0 rfl rfl) h0
  have k1 := h1
  have lt1 : ∀ x ∈ p1, x.block < W.heap.size := by obtain ⟨m, hm⟩ := k1; exact DataW.trod_lt m _ _ _ hm
  obtain ⟨a1, len1, cap1, rfl⟩ := okWide_slice Tryz.underlying22 (hval 1 22 v1 rfl rfl)
  obtain ⟨l1, rfl, hr1, hc1, sz1, hin1⟩ := P.rows_arg 3 hsz (j := 1) (t := 22) rfl rfl Tryz.underlying22 Tryz.underlying25 Tryz.underlying3 (by kernel_rfl) (by kernel_rfl) (E := 24) (Q := 8) (by kernel_rfl) (by kernel_rfl) h1
  obtain ⟨a2, rfl, rfl, rfl, w2⟩ := open_int Tryz.underlying3 (hval 2 3 v2 rfl rfl) h2
  have k3 := h3
  have lt3 : ∀ x ∈ p3, x.block < W.heap.size := by obtain ⟨m, hm⟩ := k3; exact DataW.trod_lt m _ _ _ hm
  obtain ⟨a3, len3, cap3, rfl⟩ := okWide_slice Tryz.underlying26 (hval 3 26 v3 rfl rfl)
  obtain ⟨l3, rfl, hr3, hc3, hm3⟩ := P.bools_open (Tryz.underlying26) (Tryz.underlying4) (by kernel_rfl) h3
  clear hA0 hval0 hsz0 hsz
  refine (P.Conj_calls n0 _ _ l0 _ _ l1 a2 _ _ l3 W hLaid hr0 hc0 hr1 hc1 hr3 hc3 ⟨by omega, fun r hr => by have := (hin0 r hr).1; omega⟩ ⟨by omega, fun r hr => by have := (hin1 r hr).1; omega⟩).mono fun e W' ⟨he, bel⟩ => ?_
  subst he
  exact ⟨_, rfl, _, _, _, [], _, [], hW', trodAll_mk1 (shut_bool Tryz.underlying4 _), (trodAll_cons_mk (Below.trod laidOut (by kernel_rfl) (of_decide_eq_true (by kernel_rfl)) k0 bel lt0) (trodAll_cons_mk (Below.trod laidOut (by kernel_rfl) (of_decide_eq_true (by kernel_rfl)) k1 bel lt1) (trodAll_cons_mk (shut_int Tryz.underlying3 w2) (trodAll_cons_mk (Below.trod laidOut (by kernel_rfl) (of_decide_eq_true (by kernel_rfl)) k3 bel lt3) trodAll_mk0)))), rfl, bel.frame _, fun h => by cases h⟩
theorem over : Rows.cnfConjunctionRow.holds Tryz.pinned (OpenSpec.ofChange Rows.cnfConjunctionSpec) :=
  OpenClaim.holds_of_wide 11 Tryz.f11 rfl rfl rfl rfl rfl rfl rfl ⟨rfl, rfl, rfl, rfl, rfl⟩ rfl rfl rfl rfl rfl LFCnfConjunction.named Tryz.func11 LFCnfConjunction.closed
    LFCnfConjunction.inst LFCnfConjunction.wrap
    (fun os started H enc _ => lifted os started H enc)
theorem proved : Rows.CnfConjunctionSaid := over
theorem wf : Rows.cnfConjunctionRow.wfByText (OpenSpec.ofChange Rows.cnfConjunctionSpec) = true := by kernel_rfl
theorem card : Rows.CnfConjunctionCardSaid :=
  Claim7.holds_tied_plain_at .later [] [.data, .data, .data, .data, .sentinel, .pinned] true (true, "fc784c6fe05591a51cdcde09b567985ec7f68a3b02e4d15942be336fc0b172bd") true proved (fun _ h => by cases h) wf (fun _ h => by cases h) cnfConjunction_row_tie rfl ⟨rfl, rfl⟩ FP.main_is rfl
    (fun f fn hf hfn => by
      obtain rfl : f = 11 := Option.some.inj (LFCnfConjunction.named.symm.trans hf) |>.symm
      obtain rfl : fn = Tryz.f11 := (Option.some.inj (Tryz.func11.symm.trans hfn)).symm
      exact ⟨FP.looks_, fun j t ht => by
        rw [Tryz.params11] at ht
        have hm : t ∈ [24, 22, 3, 26] := by simpa using Array.mem_of_getElem? ht
        have hm2 : t ∈ [3, 22, 24, 25, 26, 41, 55] := by
          simp only [List.mem_cons, List.mem_nil_iff, or_false] at hm
          rcases hm with rfl | rfl | rfl | rfl <;> simp
        exact (show Tryz.prog.wantsStandIn t = false by simpa using List.all_eq_true.1 FP.stands t hm2)⟩)
    LFCnfConjunction.goes
end Go.Proofs.YtcdhhaedgohlgaaGreatDoor.cnfConjunction
namespace Go.Proofs.YtcdhhaedgohlgaaGreatDoor
/-- The card, under a short name, for the claim. -/
theorem cnfConjunction_holds : Rows.CnfConjunctionCardSaid := cnfConjunction.card
end Go.Proofs.YtcdhhaedgohlgaaGreatDoor
