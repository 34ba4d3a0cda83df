/- The law CnfBasicsSpec answers true at every input, each argument reads afterwards as it read before; the listed tables of the library are tied to the program's text. -/
import Derived.Test.YtcdhhaedgohlgaaGreatDoorRows
import Derived.Test.YtcdhhaedgohlgaaGreatDoorKCPXCnfBasicsSpec
import Derived.Test.YtcdhhaedgohlgaaGreatDoorKCPureCnfBasicsSpec
import Derived.Test.YtcdhhaedgohlgaaGreatDoorKCLFCnfBasicsSpec
import Derived.Test.YtcdhhaedgohlgaaGreatDoorKC5
import Derived.Test.YtcdhhaedgohlgaaGreatDoorTie
import Derived.Test.YtcdhhaedgohlgaaGreatDoorCards
import Derived.Test.YtcdhhaedgohlgaaGreatDoorKCHBools
import Derived.Lay
import Derived.SevenTiedAt
import Derived.WalkKit
import Derived.ProofKit
import Derived.OpenShut
import Derived.ShutString
import Derived.ChangeOld
import Derived.Below
import Derived.SizedLaws
namespace Go.Proofs.YtcdhhaedgohlgaaGreatDoor.cnfBasicsSpec
open Go.ChangeShapes Go.WideShapes Go.ChangeAt Go.RowKit Go.Proofs.YtcdhhaedgohlgaaGreatDoorW.PrintWords Go.Proofs.YtcdhhaedgohlgaaGreatDoorW.PrintLast
open Go.ChangeMaps (open_string shut_string)
set_option linter.unusedVariables false
theorem own : ownKnob Tryz.prog.godebug = none := by kernel_rfl
theorem laidOut : laidOutB Tryz.prog = true := by kernel_rfl
def IsRow (k : IntKind) (w : World) (a : Option Addr) (len cap : Nat) (zs : List Int) : Prop :=
  (a = none ∧ len = 0 ∧ cap = 0 ∧ zs = []) ∨
  ∃ x, a = some x ∧ len ≤ cap ∧ cap ≤ maxLen ∧ zs.length = cap ∧ (∀ i, i < zs.length → w.cell? (x.add i) = some (.int k (zs.getD i 0))) ∧ ∀ n ∈ zs, (Lit.int k n).wf = true
set_option maxRecDepth 100000 in
theorem lifted (os : Os) (started : os.Started) (H : Type) (enc : TypeId × Value → H) :
    ReturnsInHanded {} Tryz.checked os 3 .any (fun w args => (Rows.cnfBasicsSpecSpec.pre enc Tryz.prog Tryz.f3 Rows.cnfBasicsSpecRow.domain false w args ∧ laidMetH Tryz.prog Rows.cnfBasicsSpecRow.laid w) ∧ sizedMet enc Tryz.prog Tryz.f3 (OpenSpec.ofChange Rows.cnfBasicsSpecSpec) false w args) (Rows.cnfBasicsSpecSpec.post enc Tryz.prog Tryz.f3 false true false false) := by
  refine returnsInHanded_of_change_and (C := Tryz.checked) (X := fun w _ => laidMetH Tryz.prog Rows.cnfBasicsSpecRow.laid w) (fun _ _ _ hh h => h.of_heap hh) own started (by kernel_rfl) Tryz.func3
    (ChangeSpec.witness_shaped (enc := enc) (C := Tryz.checked) (os := os) (X := fun w _ => laidMetH Tryz.prog Rows.cnfBasicsSpecRow.laid w) false (World.laidAll Tryz.prog os Rows.cnfBasicsSpecRow.laid) #[.agg #[.int .i64 0, .slice none 0 0], .agg #[.int .i64 0, .slice none 0 0], .slice none 0 0, .slice none 0 0, .slice none 0 0] 8 (World.laidAll_os _ _ _)
      (World.shaped_of_ZipB (by kernel_rfl) (by kernel_rfl)) (by kernel_rfl) (by kernel_rfl) (by kernel_rfl)
      (by rw [MakeChecks.laidMetH_plain _ _ _ (by kernel_rfl)]; exact laidMet_laidAll _ (by kernel_rfl) (by kernel_rfl))) ?_
  intro W base args ds gs before hval0 hW hcnd hsz0 hL0 _
  have hL := hL0
  rw [MakeChecks.laidMetH_plain _ _ _ (by kernel_rfl)] at hL
  have hLaid : P.Laid W := P.Laid.of_met hL (by simp [Rows.cnfBasicsSpecRow]) (by simp [Rows.cnfBasicsSpecRow]) (by simp [Rows.cnfBasicsSpecRow])
  have hsz : (DataW.weightsEach Tryz.prog (Tryz.f3.params.toList ++ Rows.cnfBasicsSpecSpec.plain.varTypes Tryz.prog) (ds ++ gs)).all (· ≤ reachBytes) = true := hsz0
  have hval : ∀ (j : Nat) t v, Tryz.f3.params[j]? = some t → args[j]? = some v → Value.okWide Tryz.prog W .any base t v := hval0
  have hW' := hW
  obtain ⟨p, q, hA0, hV, rfl, hfz, hnd⟩ := hW
  have hA : DataW.TrodAll enc Tryz.prog W 0 (fun _ => true) true Tryz.f3.params.toList args.toList ds p := hA0
  rw [Tryz.params3] at hA hval hsz
  obtain ⟨v0, vs0, d0, ds0, p0, q0, hargs, rfl, rfl, h0, r0⟩ := trodAll_cons hA
  obtain ⟨v1, vs1, d1, ds1, p1, q1, rfl, rfl, rfl, h1, r1⟩ := trodAll_cons r0
  obtain ⟨v2, vs2, d2, ds2, p2, q2, rfl, rfl, rfl, h2, r2⟩ := trodAll_cons r1
  obtain ⟨v3, vs3, d3, ds3, p3, q3, rfl, rfl, rfl, h3, r3⟩ := trodAll_cons r2
  obtain ⟨v4, vs4, d4, ds4, p4, q4, rfl, rfl, rfl, h4, r4⟩ := trodAll_cons r3
  obtain ⟨rfl, rfl, rfl⟩ := trodAll_nil r4
  obtain rfl : args = #[v0, v1, v2, v3, v4] := by cases args; simp_all
  obtain ⟨rfl, rfl⟩ := trodVars_none hV
  have k0 := h0
  have lt0 : ∀ x ∈ p0, x.block < W.heap.size := by obtain ⟨m, hm⟩ := k0; exact DataW.trod_lt m _ _ _ hm
  obtain ⟨n0, A0, c0, l0, rfl, wn0, hr0, hc0, sz0, hin0⟩ := P.cnf_arg 3 hsz (j := 0) (t := 24) rfl rfl Tryz.underlying24 (by kernel_rfl) (by kernel_rfl) Tryz.underlying3 Tryz.underlying22 Tryz.underlying25 Tryz.underlying3 (by kernel_rfl) (by kernel_rfl) (E := 24) (Q := 8) (by kernel_rfl) (by kernel_rfl) (hval 0 24 v0 rfl rfl) h0
  have k1 := h1
  have lt1 : ∀ x ∈ p1, x.block < W.heap.size := by obtain ⟨m, hm⟩ := k1; exact DataW.trod_lt m _ _ _ hm
  obtain ⟨n1, A1, c1, l1, rfl, wn1, hr1, hc1, sz1, hin1⟩ := P.cnf_arg 3 hsz (j := 1) (t := 24) rfl rfl Tryz.underlying24 (by kernel_rfl) (by kernel_rfl) Tryz.underlying3 Tryz.underlying22 Tryz.underlying25 Tryz.underlying3 (by kernel_rfl) (by kernel_rfl) (E := 24) (Q := 8) (by kernel_rfl) (by kernel_rfl) (hval 1 24 v1 rfl rfl) h1
  have k2 := h2
  have lt2 : ∀ x ∈ p2, x.block < W.heap.size := by obtain ⟨m, hm⟩ := k2; exact DataW.trod_lt m _ _ _ hm
  obtain ⟨a2, len2, cap2, rfl⟩ := okWide_slice Tryz.underlying25 (hval 2 25 v2 rfl rfl)
  obtain ⟨z2, w2⟩ : ∃ zs, IsRow .i64 W a2 len2 cap2 zs := by
    obtain ⟨fuel, hf⟩ := h2
    rcases open_ints Tryz.underlying25 Tryz.underlying3 (by kernel_rfl) hf with ⟨hcs, _⟩ | ⟨x, l, c, zs, hcs, _, hl, hm, hz, _, hcell, hwz⟩
    · simp [Value.cells] at hcs
      obtain ⟨rfl, rfl, rfl⟩ := hcs
      exact ⟨[], .inl ⟨rfl, rfl, rfl, rfl⟩⟩
    · simp [Value.cells] at hcs
      obtain ⟨rfl, rfl, rfl⟩ := hcs
      exact ⟨zs, .inr ⟨_, rfl, hl, hm, by simpa using hz, hcell, hwz⟩⟩
  have y2 : len2 * 8 ≤ 140737488351232 := YtcdhhaedgohlgaaGreatDoorW.PrintWords.sized_ints hsz (j := 2) (t := 25) rfl rfl Tryz.underlying25 Tryz.underlying3 (by kernel_rfl) (by kernel_rfl) h2
  have k3 := h3
  have lt3 : ∀ x ∈ p3, x.block < W.heap.size := by obtain ⟨m, hm⟩ := k3; exact DataW.trod_lt m _ _ _ hm
  obtain ⟨a3, len3, cap3, rfl⟩ := okWide_slice Tryz.underlying25 (hval 3 25 v3 rfl rfl)
  obtain ⟨z3, w3⟩ : ∃ zs, IsRow .i64 W a3 len3 cap3 zs := by
    obtain ⟨fuel, hf⟩ := h3
    rcases open_ints Tryz.underlying25 Tryz.underlying3 (by kernel_rfl) hf with ⟨hcs, _⟩ | ⟨x, l, c, zs, hcs, _, hl, hm, hz, _, hcell, hwz⟩
    · simp [Value.cells] at hcs
      obtain ⟨rfl, rfl, rfl⟩ := hcs
      exact ⟨[], .inl ⟨rfl, rfl, rfl, rfl⟩⟩
    · simp [Value.cells] at hcs
      obtain ⟨rfl, rfl, rfl⟩ := hcs
      exact ⟨zs, .inr ⟨_, rfl, hl, hm, by simpa using hz, hcell, hwz⟩⟩
  have y3 : len3 * 8 ≤ 140737488351232 := YtcdhhaedgohlgaaGreatDoorW.PrintWords.sized_ints hsz (j := 3) (t := 25) rfl rfl Tryz.underlying25 Tryz.underlying3 (by kernel_rfl) (by kernel_rfl) h3
  have k4 := h4
  have lt4 : ∀ x ∈ p4, x.block < W.heap.size := by obtain ⟨m, hm⟩ := k4; exact DataW.trod_lt m _ _ _ hm
  obtain ⟨a4, len4, cap4, rfl⟩ := okWide_slice Tryz.underlying26 (hval 4 26 v4 rfl rfl)
  obtain ⟨l4, rfl, hr4, hc4, hm4⟩ := P.bools_open (Tryz.underlying26) (Tryz.underlying4) (by kernel_rfl) h4
  clear hA0 hval0 hsz0 hsz
  obtain ⟨l2, rfl, hr2, hm2, hw2, hc2⟩ := ReadsInt.ofRowC w2
  obtain ⟨l3, rfl, hr3, hm3, hw3, hc3⟩ := ReadsInt.ofRowC w3
  obtain ⟨k, h⟩ := Pure.CnfBasicsSpec n0 l0 n1 l1 l2 l3 l4 ⟨by omega, fun r hr => by have := (hin0 r hr).1; omega⟩ ⟨by omega, fun r hr => by have := (hin1 r hr).1; omega⟩ (by omega) (by omega)
  refine (P.chalklinelaw14_CnfBasicsSpec.calls k n0 _ _ l0 n1 _ _ l1 _ _ l2 _ _ l3 _ _ l4 true W hLaid rfl hr0 hc0 hr1 hc1 (Kd.C_of_reads (d := (0 : Int)) (h1 := fun _ => rfl) hr2) hc2 (Kd.C_of_reads (d := (0 : Int)) (h1 := fun _ => rfl) hr3) hc3 hr4 hc4 h).mono fun e W' ⟨he, bel⟩ => ?_
  subst he
  exact ⟨_, rfl, _, _, _, [], _, [], hW', trodAll_mk1 (shut_bool Tryz.underlying4 _), (trodAll_cons_mk (Below.trod laidOut (by kernel_rfl) (of_decide_eq_true (by kernel_rfl)) k0 bel lt0) (trodAll_cons_mk (Below.trod laidOut (by kernel_rfl) (of_decide_eq_true (by kernel_rfl)) k1 bel lt1) (trodAll_cons_mk (Below.trod laidOut (by kernel_rfl) (of_decide_eq_true (by kernel_rfl)) k2 bel lt2) (trodAll_cons_mk (Below.trod laidOut (by kernel_rfl) (of_decide_eq_true (by kernel_rfl)) k3 bel lt3) (trodAll_cons_mk (Below.trod laidOut (by kernel_rfl) (of_decide_eq_true (by kernel_rfl)) k4 bel lt4) trodAll_mk0))))), rfl, bel.frame _, fun h => by cases h⟩
theorem over : Rows.cnfBasicsSpecRow.holds Tryz.pinned (OpenSpec.ofChange Rows.cnfBasicsSpecSpec) :=
  OpenClaim.holds_of_wide 3 Tryz.f3 rfl rfl rfl rfl rfl rfl rfl ⟨rfl, rfl, rfl, rfl, rfl⟩ rfl rfl rfl rfl rfl LFCnfBasicsSpec.named Tryz.func3 LFCnfBasicsSpec.closed
    LFCnfBasicsSpec.inst LFCnfBasicsSpec.wrap
    (fun os started H enc _ => lifted os started H enc)
theorem proved : Rows.CnfBasicsSpecSaid := over
theorem wf : Rows.cnfBasicsSpecRow.wfByText (OpenSpec.ofChange Rows.cnfBasicsSpecSpec) = true := by kernel_rfl
theorem card : Rows.CnfBasicsSpecCardSaid :=
  Claim7.holds_tied_plain_at .later [] [.data, .data, .data, .data, .sentinel, .pinned] true (true, "fc784c6fe05591a51cdcde09b567985ec7f68a3b02e4d15942be336fc0b172bd") true proved (fun _ h => by cases h) wf (fun _ h => by cases h) cnfBasicsSpec_row_tie rfl ⟨rfl, rfl⟩ FP.main_is rfl
    (fun f fn hf hfn => by
      obtain rfl : f = 3 := Option.some.inj (LFCnfBasicsSpec.named.symm.trans hf) |>.symm
      obtain rfl : fn = Tryz.f3 := (Option.some.inj (Tryz.func3.symm.trans hfn)).symm
      exact ⟨FP.looks_, fun j t ht => by
        rw [Tryz.params3] at ht
        have hm : t ∈ [24, 24, 25, 25, 26] := by simpa using Array.mem_of_getElem? ht
        have hm2 : t ∈ [3, 22, 24, 25, 26, 41, 55] := by
          simp only [List.mem_cons, List.mem_nil_iff, or_false] at hm
          rcases hm with rfl | rfl | rfl | rfl | rfl <;> simp
        exact (show Tryz.prog.wantsStandIn t = false by simpa using List.all_eq_true.1 FP.stands t hm2)⟩)
    LFCnfBasicsSpec.goes
end Go.Proofs.YtcdhhaedgohlgaaGreatDoor.cnfBasicsSpec
namespace Go.Proofs.YtcdhhaedgohlgaaGreatDoor
/-- The card, under a short name, for the claim. -/
theorem cnfBasicsSpec_holds : Rows.CnfBasicsSpecCardSaid := cnfBasicsSpec.card
end Go.Proofs.YtcdhhaedgohlgaaGreatDoor
