/- The law CnfResolveSound answers true at every input, each argument reads afterwards as it read before; the listed tables of the library are tied to the program's text. -/
import Derived.Test.YtcdhhaedgohlgaaGreatDoorRows
import Derived.Test.YtcdhhaedgohlgaaGreatDoorKAPXCnfResolveSound
import Derived.Test.YtcdhhaedgohlgaaGreatDoorKAPureCnfResolveSound
import Derived.Test.YtcdhhaedgohlgaaGreatDoorKALFCnfResolveSound
import Derived.Test.YtcdhhaedgohlgaaGreatDoorKA6
import Derived.Test.YtcdhhaedgohlgaaGreatDoorTie
import Derived.Test.YtcdhhaedgohlgaaGreatDoorCards
import Derived.Test.YtcdhhaedgohlgaaGreatDoorKAHBools
import Derived.Lay
import Derived.SevenTiedAt
import Derived.WalkKit
import Derived.ProofKit
import Derived.OpenShut
import Derived.ShutString
import Derived.ChangeOld
import Derived.Below
import Derived.SizedLaws
namespace Go.Proofs.YtcdhhaedgohlgaaGreatDoor.cnfResolveSound
open Go.ChangeShapes Go.WideShapes Go.ChangeAt Go.RowKit Go.Proofs.YtcdhhaedgohlgaaGreatDoorW.PrintWords Go.Proofs.YtcdhhaedgohlgaaGreatDoorW.PrintLast
open Go.ChangeMaps (open_string shut_string)
set_option linter.unusedVariables false
theorem own : ownKnob Tryz.prog.godebug = none := by kernel_rfl
theorem laidOut : laidOutB Tryz.prog = true := by kernel_rfl
def IsRow (k : IntKind) (w : World) (a : Option Addr) (len cap : Nat) (zs : List Int) : Prop :=
  (a = none ∧ len = 0 ∧ cap = 0 ∧ zs = []) ∨
  ∃ x, a = some x ∧ len ≤ cap ∧ cap ≤ maxLen ∧ zs.length = cap ∧ (∀ i, i < zs.length → w.cell? (x.add i) = some (.int k (zs.getD i 0))) ∧ ∀ n ∈ zs, (Lit.int k n).wf = true
set_option maxRecDepth 100000 in
theorem lifted (os : Os) (started : os.Started) (H : Type) (enc : TypeId × Value → H) :
    ReturnsInHanded {} Tryz.checked os 6 .any (fun w args => (Rows.cnfResolveSoundSpec.pre enc Tryz.prog Tryz.f6 Rows.cnfResolveSoundRow.domain false w args ∧ laidMetH Tryz.prog Rows.cnfResolveSoundRow.laid w) ∧ sizedMet enc Tryz.prog Tryz.f6 (OpenSpec.ofChange Rows.cnfResolveSoundSpec) false w args) (Rows.cnfResolveSoundSpec.post enc Tryz.prog Tryz.f6 false true false false) := by
  refine returnsInHanded_of_change_and (C := Tryz.checked) (X := fun w _ => laidMetH Tryz.prog Rows.cnfResolveSoundRow.laid w) (fun _ _ _ hh h => h.of_heap hh) own started (by kernel_rfl) Tryz.func6
    (ChangeSpec.witness_shaped (enc := enc) (C := Tryz.checked) (os := os) (X := fun w _ => laidMetH Tryz.prog Rows.cnfResolveSoundRow.laid w) false (World.laidAll Tryz.prog os Rows.cnfResolveSoundRow.laid) #[.slice none 0 0, .slice none 0 0, .int .i64 0, .slice none 0 0] 8 (World.laidAll_os _ _ _)
      (World.shaped_of_ZipB (by kernel_rfl) (by kernel_rfl)) (by kernel_rfl) (by kernel_rfl) (by kernel_rfl)
      (by rw [MakeChecks.laidMetH_plain _ _ _ (by kernel_rfl)]; exact laidMet_laidAll _ (by kernel_rfl) (by kernel_rfl))) ?_
  intro W base args ds gs before hval0 hW hcnd hsz0 hL0 _
  have hL := hL0
  rw [MakeChecks.laidMetH_plain _ _ _ (by kernel_rfl)] at hL
  have hLaid : P.Laid W := P.Laid.of_met hL (by simp [Rows.cnfResolveSoundRow]) (by simp [Rows.cnfResolveSoundRow]) (by simp [Rows.cnfResolveSoundRow])
  have hsz : (DataW.weightsEach Tryz.prog (Tryz.f6.params.toList ++ Rows.cnfResolveSoundSpec.plain.varTypes Tryz.prog) (ds ++ gs)).all (· ≤ reachBytes) = true := hsz0
  have hval : ∀ (j : Nat) t v, Tryz.f6.params[j]? = some t → args[j]? = some v → Value.okWide Tryz.prog W .any base t v := hval0
  have hW' := hW
  obtain ⟨p, q, hA0, hV, rfl, hfz, hnd⟩ := hW
  have hA : DataW.TrodAll enc Tryz.prog W 0 (fun _ => true) true Tryz.f6.params.toList args.toList ds p := hA0
  rw [Tryz.params6] at hA hval hsz
  obtain ⟨v0, vs0, d0, ds0, p0, q0, hargs, rfl, rfl, h0, r0⟩ := trodAll_cons hA
  obtain ⟨v1, vs1, d1, ds1, p1, q1, rfl, rfl, rfl, h1, r1⟩ := trodAll_cons r0
  obtain ⟨v2, vs2, d2, ds2, p2, q2, rfl, rfl, rfl, h2, r2⟩ := trodAll_cons r1
  obtain ⟨v3, vs3, d3, ds3, p3, q3, rfl, rfl, rfl, h3, r3⟩ := trodAll_cons r2
  obtain ⟨rfl, rfl, rfl⟩ := trodAll_nil r3
  obtain rfl : args = #[v0, v1, v2, v3] := by cases args; simp_all
  obtain ⟨rfl, rfl⟩ := trodVars_none hV
  obtain ⟨a0, len0, cap0, rfl⟩ := okWide_slice Tryz.underlying25 (hval 0 25 v0 rfl rfl)
  have k0 := h0
  have lt0 : ∀ x ∈ p0, x.block < W.heap.size := by obtain ⟨m, hm⟩ := k0; exact DataW.trod_lt m _ _ _ hm
  obtain ⟨z0, w0⟩ : ∃ zs, IsRow .i64 W a0 len0 cap0 zs := by
    obtain ⟨fuel, hf⟩ := h0
    rcases open_ints Tryz.underlying25 Tryz.underlying3 (by kernel_rfl) hf with ⟨hcs, _⟩ | ⟨x, l, c, zs, hcs, _, hl, hm, hz, _, hcell, hwz⟩
    · simp [Value.cells] at hcs
      obtain ⟨rfl, rfl, rfl⟩ := hcs
      exact ⟨[], .inl ⟨rfl, rfl, rfl, rfl⟩⟩
    · simp [Value.cells] at hcs
      obtain ⟨rfl, rfl, rfl⟩ := hcs
      exact ⟨zs, .inr ⟨_, rfl, hl, hm, by simpa using hz, hcell, hwz⟩⟩
  have y0 : len0 * 8 ≤ 140737488351232 := YtcdhhaedgohlgaaGreatDoorW.PrintWords.sized_ints hsz (j := 0) (t := 25) rfl rfl Tryz.underlying25 Tryz.underlying3 (by kernel_rfl) (by kernel_rfl) h0
  obtain ⟨a1, len1, cap1, rfl⟩ := okWide_slice Tryz.underlying25 (hval 1 25 v1 rfl rfl)
  have k1 := h1
  have lt1 : ∀ x ∈ p1, x.block < W.heap.size := by obtain ⟨m, hm⟩ := k1; exact DataW.trod_lt m _ _ _ hm
  obtain ⟨z1, w1⟩ : ∃ zs, IsRow .i64 W a1 len1 cap1 zs := by
    obtain ⟨fuel, hf⟩ := h1
    rcases open_ints Tryz.underlying25 Tryz.underlying3 (by kernel_rfl) hf with ⟨hcs, _⟩ | ⟨x, l, c, zs, hcs, _, hl, hm, hz, _, hcell, hwz⟩
    · simp [Value.cells] at hcs
      obtain ⟨rfl, rfl, rfl⟩ := hcs
      exact ⟨[], .inl ⟨rfl, rfl, rfl, rfl⟩⟩
    · simp [Value.cells] at hcs
      obtain ⟨rfl, rfl, rfl⟩ := hcs
      exact ⟨zs, .inr ⟨_, rfl, hl, hm, by simpa using hz, hcell, hwz⟩⟩
  have y1 : len1 * 8 ≤ 140737488351232 := YtcdhhaedgohlgaaGreatDoorW.PrintWords.sized_ints hsz (j := 1) (t := 25) rfl rfl Tryz.underlying25 Tryz.underlying3 (by kernel_rfl) (by kernel_rfl) h1
  obtain ⟨a2, rfl, rfl, rfl, w2⟩ := open_int Tryz.underlying3 (hval 2 3 v2 rfl rfl) h2
  obtain ⟨a3, len3, cap3, rfl⟩ := okWide_slice Tryz.underlying26 (hval 3 26 v3 rfl rfl)
  have k3 := h3
  have lt3 : ∀ x ∈ p3, x.block < W.heap.size := by obtain ⟨m, hm⟩ := k3; exact DataW.trod_lt m _ _ _ hm
  obtain ⟨l3, rfl, hr3, hc3, hm3⟩ := P.bools_open (Tryz.underlying26) (Tryz.underlying4) (by kernel_rfl) h3
  clear hA0 hval0 hsz0 hsz
  obtain ⟨l0, rfl, hr0, hm0, hw0, hc0⟩ := ReadsInt.ofRowC w0
  obtain ⟨l1, rfl, hr1, hm1, hw1, hc1⟩ := ReadsInt.ofRowC w1
  obtain ⟨k, h⟩ := Pure.CnfResolveSound l0 l1 a2 l3 hw0 hw1 w2
  refine (P.chalklinelaw14_CnfResolveSound.calls k _ _ l0 _ _ l1 a2 _ _ l3 true W hLaid (Kd.C_of_reads (d := (0 : Int)) (h1 := fun _ => rfl) hr0) hc0 (Kd.C_of_reads (d := (0 : Int)) (h1 := fun _ => rfl) hr1) hc1 hr3 hc3 h).mono fun e W' ⟨he, bel⟩ => ?_
  subst he
  exact ⟨_, rfl, _, _, _, [], _, [], hW', trodAll_mk1 (shut_bool Tryz.underlying4 _), (trodAll_cons_mk (Below.trod laidOut (by kernel_rfl) (of_decide_eq_true (by kernel_rfl)) k0 bel lt0) (trodAll_cons_mk (Below.trod laidOut (by kernel_rfl) (of_decide_eq_true (by kernel_rfl)) k1 bel lt1) (trodAll_cons_mk (shut_int Tryz.underlying3 w2) (trodAll_cons_mk (Below.trod laidOut (by kernel_rfl) (of_decide_eq_true (by kernel_rfl)) k3 bel lt3) trodAll_mk0)))), rfl, bel.frame _, fun h => by cases h⟩
theorem over : Rows.cnfResolveSoundRow.holds Tryz.pinned (OpenSpec.ofChange Rows.cnfResolveSoundSpec) :=
  OpenClaim.holds_of_wide 6 Tryz.f6 rfl rfl rfl rfl rfl rfl rfl ⟨rfl, rfl, rfl, rfl, rfl⟩ rfl rfl rfl rfl rfl LFCnfResolveSound.named Tryz.func6 LFCnfResolveSound.closed
    LFCnfResolveSound.inst LFCnfResolveSound.wrap
    (fun os started H enc _ => lifted os started H enc)
theorem proved : Rows.CnfResolveSoundSaid := over
theorem wf : Rows.cnfResolveSoundRow.wfByText (OpenSpec.ofChange Rows.cnfResolveSoundSpec) = true := by kernel_rfl
theorem card : Rows.CnfResolveSoundCardSaid :=
  Claim7.holds_tied_plain_at .later [] [.data, .data, .data, .data, .sentinel, .pinned] true (true, "fc784c6fe05591a51cdcde09b567985ec7f68a3b02e4d15942be336fc0b172bd") true proved (fun _ h => by cases h) wf (fun _ h => by cases h) cnfResolveSound_row_tie rfl ⟨rfl, rfl⟩ FP.main_is rfl
    (fun f fn hf hfn => by
      obtain rfl : f = 6 := Option.some.inj (LFCnfResolveSound.named.symm.trans hf) |>.symm
      obtain rfl : fn = Tryz.f6 := (Option.some.inj (Tryz.func6.symm.trans hfn)).symm
      exact ⟨FP.looks_, fun j t ht => by
        rw [Tryz.params6] at ht
        have hm : t ∈ [25, 25, 3, 26] := by simpa using Array.mem_of_getElem? ht
        have hm2 : t ∈ [3, 22, 24, 25, 26, 41, 55] := by
          simp only [List.mem_cons, List.mem_nil_iff, or_false] at hm
          rcases hm with rfl | rfl | rfl | rfl <;> simp
        exact (show Tryz.prog.wantsStandIn t = false by simpa using List.all_eq_true.1 FP.stands t hm2)⟩)
    LFCnfResolveSound.goes
end Go.Proofs.YtcdhhaedgohlgaaGreatDoor.cnfResolveSound
namespace Go.Proofs.YtcdhhaedgohlgaaGreatDoor
/-- The card, under a short name, for the claim. -/
theorem cnfResolveSound_holds : Rows.CnfResolveSoundCardSaid := cnfResolveSound.card
end Go.Proofs.YtcdhhaedgohlgaaGreatDoor
