/- The law CnfDimacsRoundTrip answers true at every input, each argument reads afterwards as it read before; the listed tables of the library are tied to the program's text. -/
import Derived.Test.YtcdhhaedgohlgaaGreatDoorRows
import Derived.Test.YtcdhhaedgohlgaaGreatDoorKCPXCnfDimacsRoundTrip
import Derived.Test.YtcdhhaedgohlgaaGreatDoorKCPureCnfDimacsRoundTrip
import Derived.Test.YtcdhhaedgohlgaaGreatDoorKCLFCnfDimacsRoundTrip
import Derived.Test.YtcdhhaedgohlgaaGreatDoorKC5
import Derived.Test.YtcdhhaedgohlgaaGreatDoorTie
import Derived.Test.YtcdhhaedgohlgaaGreatDoorCards
import Derived.Test.YtcdhhaedgohlgaaGreatDoorKCHBools
import Derived.Lay
import Derived.SevenTiedAt
import Derived.WalkKit
import Derived.ProofKit
import Derived.OpenShut
import Derived.ShutString
import Derived.ChangeOld
import Derived.Below
import Derived.SizedLaws
namespace Go.Proofs.YtcdhhaedgohlgaaGreatDoor.cnfDimacsRoundTrip
open Go.ChangeShapes Go.WideShapes Go.ChangeAt Go.RowKit Go.Proofs.YtcdhhaedgohlgaaGreatDoorW.PrintWords Go.Proofs.YtcdhhaedgohlgaaGreatDoorW.PrintLast
open Go.ChangeMaps (open_string shut_string)
set_option linter.unusedVariables false
theorem own : ownKnob Tryz.prog.godebug = none := by kernel_rfl
theorem laidOut : laidOutB Tryz.prog = true := by kernel_rfl
def IsRow (k : IntKind) (w : World) (a : Option Addr) (len cap : Nat) (zs : List Int) : Prop :=
  (a = none ∧ len = 0 ∧ cap = 0 ∧ zs = []) ∨
  ∃ x, a = some x ∧ len ≤ cap ∧ cap ≤ maxLen ∧ zs.length = cap ∧ (∀ i, i < zs.length → w.cell? (x.add i) = some (.int k (zs.getD i 0))) ∧ ∀ n ∈ zs, (Lit.int k n).wf = true
set_option maxRecDepth 100000 in
theorem lifted (os : Os) (started : os.Started) (H : Type) (enc : TypeId × Value → H) :
    ReturnsInHanded {} Tryz.checked os 9 .any (fun w args => (Rows.cnfDimacsRoundTripSpec.pre enc Tryz.prog Tryz.f9 Rows.cnfDimacsRoundTripRow.domain false w args ∧ laidMetH Tryz.prog Rows.cnfDimacsRoundTripRow.laid w) ∧ sizedMet enc Tryz.prog Tryz.f9 (OpenSpec.ofChange Rows.cnfDimacsRoundTripSpec) false w args) (Rows.cnfDimacsRoundTripSpec.post enc Tryz.prog Tryz.f9 false true false false) := by
  refine returnsInHanded_of_change_and (C := Tryz.checked) (X := fun w _ => laidMetH Tryz.prog Rows.cnfDimacsRoundTripRow.laid w) (fun _ _ _ hh h => h.of_heap hh) own started (by kernel_rfl) Tryz.func9
    (ChangeSpec.witness_shaped (enc := enc) (C := Tryz.checked) (os := os) (X := fun w _ => laidMetH Tryz.prog Rows.cnfDimacsRoundTripRow.laid w) false (World.laidAll Tryz.prog os Rows.cnfDimacsRoundTripRow.laid) #[.agg #[.int .i64 0, .slice none 0 0], .slice none 0 0] 8 (World.laidAll_os _ _ _)
      (World.shaped_of_ZipB (by kernel_rfl) (by kernel_rfl)) (by kernel_rfl) (by kernel_rfl) (by kernel_rfl)
      (by rw [MakeChecks.laidMetH_plain _ _ _ (by kernel_rfl)]; exact laidMet_laidAll _ (by kernel_rfl) (by kernel_rfl))) ?_
  intro W base args ds gs before hval0 hW hcnd hsz0 hL0 _
  have hL := hL0
  rw [MakeChecks.laidMetH_plain _ _ _ (by kernel_rfl)] at hL
  have hLaid : P.Laid W := P.Laid.of_met hL (by simp [Rows.cnfDimacsRoundTripRow]) (by simp [Rows.cnfDimacsRoundTripRow]) (by simp [Rows.cnfDimacsRoundTripRow])
  have hsz : (DataW.weightsEach Tryz.prog (Tryz.f9.params.toList ++ Rows.cnfDimacsRoundTripSpec.plain.varTypes Tryz.prog) (ds ++ gs)).all (· ≤ reachBytes) = true := hsz0
  have hval : ∀ (j : Nat) t v, Tryz.f9.params[j]? = some t → args[j]? = some v → Value.okWide Tryz.prog W .any base t v := hval0
  have hW' := hW
  obtain ⟨p, q, hA0, hV, rfl, hfz, hnd⟩ := hW
  have hA : DataW.TrodAll enc Tryz.prog W 0 (fun _ => true) true Tryz.f9.params.toList args.toList ds p := hA0
  rw [Tryz.params9] at hA hval hsz
  obtain ⟨v0, vs0, d0, ds0, p0, q0, hargs, rfl, rfl, h0, r0⟩ := trodAll_cons hA
  obtain ⟨v1, vs1, d1, ds1, p1, q1, rfl, rfl, rfl, h1, r1⟩ := trodAll_cons r0
  obtain ⟨rfl, rfl, rfl⟩ := trodAll_nil r1
  obtain rfl : args = #[v0, v1] := by cases args; simp_all
  obtain ⟨rfl, rfl⟩ := trodVars_none hV
  have k0 := h0
  have lt0 : ∀ x ∈ p0, x.block < W.heap.size := by obtain ⟨m, hm⟩ := k0; exact DataW.trod_lt m _ _ _ hm
  obtain ⟨n0, A0, c0, l0, rfl, wn0, hr0, hc0, sz0, hin0⟩ := P.cnf_arg 3 hsz (j := 0) (t := 24) rfl rfl Tryz.underlying24 (by kernel_rfl) (by kernel_rfl) Tryz.underlying3 Tryz.underlying22 Tryz.underlying25 Tryz.underlying3 (by kernel_rfl) (by kernel_rfl) (E := 24) (Q := 8) (by kernel_rfl) (by kernel_rfl) (hval 0 24 v0 rfl rfl) h0
  have k1 := h1
  have lt1 : ∀ x ∈ p1, x.block < W.heap.size := by obtain ⟨m, hm⟩ := k1; exact DataW.trod_lt m _ _ _ hm
  obtain ⟨a1, len1, cap1, rfl⟩ := okWide_slice Tryz.underlying41 (hval 1 41 v1 rfl rfl)
  obtain ⟨z1, w1⟩ : ∃ zs, IsRow .u8 W a1 len1 cap1 zs := by
    obtain ⟨fuel, hf⟩ := h1
    rcases open_ints Tryz.underlying41 Tryz.underlying5 (by kernel_rfl) hf with ⟨hcs, _⟩ | ⟨x, l, c, zs, hcs, _, hl, hm, hz, _, hcell, hwz⟩
    · simp [Value.cells] at hcs
      obtain ⟨rfl, rfl, rfl⟩ := hcs
      exact ⟨[], .inl ⟨rfl, rfl, rfl, rfl⟩⟩
    · simp [Value.cells] at hcs
      obtain ⟨rfl, rfl, rfl⟩ := hcs
      exact ⟨zs, .inr ⟨_, rfl, hl, hm, by simpa using hz, hcell, hwz⟩⟩
  have y1 : len1 * 1 ≤ 140737488351232 := YtcdhhaedgohlgaaGreatDoorW.PrintWords.sized_ints hsz (j := 1) (t := 41) rfl rfl Tryz.underlying41 Tryz.underlying5 (by kernel_rfl) (by kernel_rfl) h1
  clear hA0 hval0 hsz0 hsz
  obtain ⟨l1, rfl, hr1, hm1, hw1, hc1⟩ := ReadsInt.ofRowC w1
  obtain ⟨k, h⟩ := Pure.CnfDimacsRoundTrip n0 l0 l1 ⟨by omega, fun r hr => by have := (hin0 r hr).1; omega⟩ hw1
  refine (P.chalklinelaw14_CnfDimacsRoundTrip.calls k n0 _ _ l0 _ _ l1 true W hLaid rfl hr0 hc0 (Kd.C_of_reads (d := (0 : Int)) (h1 := fun _ => rfl) hr1) hc1 h).mono fun e W' ⟨he, bel⟩ => ?_
  subst he
  exact ⟨_, rfl, _, _, _, [], _, [], hW', trodAll_mk1 (shut_bool Tryz.underlying4 _), (trodAll_cons_mk (Below.trod laidOut (by kernel_rfl) (of_decide_eq_true (by kernel_rfl)) k0 bel lt0) (trodAll_cons_mk (Below.trod laidOut (by kernel_rfl) (of_decide_eq_true (by kernel_rfl)) k1 bel lt1) trodAll_mk0)), rfl, bel.frame _, fun h => by cases h⟩
theorem over : Rows.cnfDimacsRoundTripRow.holds Tryz.pinned (OpenSpec.ofChange Rows.cnfDimacsRoundTripSpec) :=
  OpenClaim.holds_of_wide 9 Tryz.f9 rfl rfl rfl rfl rfl rfl rfl ⟨rfl, rfl, rfl, rfl, rfl⟩ rfl rfl rfl rfl rfl LFCnfDimacsRoundTrip.named Tryz.func9 LFCnfDimacsRoundTrip.closed
    LFCnfDimacsRoundTrip.inst LFCnfDimacsRoundTrip.wrap
    (fun os started H enc _ => lifted os started H enc)
theorem proved : Rows.CnfDimacsRoundTripSaid := over
theorem wf : Rows.cnfDimacsRoundTripRow.wfByText (OpenSpec.ofChange Rows.cnfDimacsRoundTripSpec) = true := by kernel_rfl
theorem card : Rows.CnfDimacsRoundTripCardSaid :=
  Claim7.holds_tied_plain_at .later [] [.data, .data, .data, .data, .sentinel, .pinned] true (true, "fc784c6fe05591a51cdcde09b567985ec7f68a3b02e4d15942be336fc0b172bd") true proved (fun _ h => by cases h) wf (fun _ h => by cases h) cnfDimacsRoundTrip_row_tie rfl ⟨rfl, rfl⟩ FP.main_is rfl
    (fun f fn hf hfn => by
      obtain rfl : f = 9 := Option.some.inj (LFCnfDimacsRoundTrip.named.symm.trans hf) |>.symm
      obtain rfl : fn = Tryz.f9 := (Option.some.inj (Tryz.func9.symm.trans hfn)).symm
      exact ⟨FP.looks_, fun j t ht => by
        rw [Tryz.params9] at ht
        have hm : t ∈ [24, 41] := by simpa using Array.mem_of_getElem? ht
        have hm2 : t ∈ [3, 22, 24, 25, 26, 41, 55] := by
          simp only [List.mem_cons, List.mem_nil_iff, or_false] at hm
          rcases hm with rfl | rfl <;> simp
        exact (show Tryz.prog.wantsStandIn t = false by simpa using List.all_eq_true.1 FP.stands t hm2)⟩)
    LFCnfDimacsRoundTrip.goes
end Go.Proofs.YtcdhhaedgohlgaaGreatDoor.cnfDimacsRoundTrip
namespace Go.Proofs.YtcdhhaedgohlgaaGreatDoor
/-- The card, under a short name, for the claim. -/
theorem cnfDimacsRoundTrip_holds : Rows.CnfDimacsRoundTripCardSaid := cnfDimacsRoundTrip.card
end Go.Proofs.YtcdhhaedgohlgaaGreatDoor
