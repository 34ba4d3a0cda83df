/- The law CnfDimacsReadable answers true at every input, and each argument reads afterwards as it read before; the listed tables of the library are tied to the program's text. -/
import Derived.Test.YtcdhhaedgohlgaaGreatDoorRows
import Derived.Test.YtcdhhaedgohlgaaGreatDoorKAPXCnfDimacsReadable
import Derived.Test.YtcdhhaedgohlgaaGreatDoorKAPureCnfDimacsReadable
import Derived.Test.YtcdhhaedgohlgaaGreatDoorKALFCnfDimacsReadable
import Derived.Test.YtcdhhaedgohlgaaGreatDoorKAXCnfDimacsReadable
import Derived.Test.YtcdhhaedgohlgaaGreatDoorTie
import Derived.Test.YtcdhhaedgohlgaaGreatDoorCards
import Derived.Lay
import Derived.SevenTiedAt
import Derived.WalkKit
import Derived.ProofKit
import Derived.OpenShut
import Derived.ShutString
import Derived.ChangeOld
import Derived.Below
import Derived.SizedLaws
namespace Go.Proofs.YtcdhhaedgohlgaaGreatDoor.cnfDimacsReadable
open Go.ChangeShapes Go.WideShapes Go.ChangeAt Go.RowKit
open Go.ChangeMaps (open_string shut_string)
set_option linter.unusedVariables false
theorem own : ownKnob Tryz.prog.godebug = none := by kernel_rfl
theorem laidOut : laidOutB Tryz.prog = true := by kernel_rfl
def IsRow (k : IntKind) (w : World) (a : Option Addr) (len cap : Nat) (zs : List Int) : Prop :=
  (a = none ∧ len = 0 ∧ cap = 0 ∧ zs = []) ∨
  ∃ x, a = some x ∧ len ≤ cap ∧ cap ≤ maxLen ∧ zs.length = cap ∧ (∀ i, i < zs.length → w.cell? (x.add i) = some (.int k (zs.getD i 0))) ∧ ∀ n ∈ zs, (Lit.int k n).wf = true
set_option maxRecDepth 100000 in
theorem lifted (os : Os) (started : os.Started) (H : Type) (enc : TypeId × Value → H) :
    ReturnsInHanded {} Tryz.checked os 10 .any (fun w args => (Rows.cnfDimacsReadableSpec.pre enc Tryz.prog Tryz.f10 Rows.cnfDimacsReadableRow.domain false w args ∧ laidMetH Tryz.prog Rows.cnfDimacsReadableRow.laid w) ∧ sizedMet enc Tryz.prog Tryz.f10 (OpenSpec.ofChange Rows.cnfDimacsReadableSpec) false w args) (Rows.cnfDimacsReadableSpec.post enc Tryz.prog Tryz.f10 false true false false) := by
  refine returnsInHanded_of_change_and (C := Tryz.checked) (X := fun w _ => laidMetH Tryz.prog Rows.cnfDimacsReadableRow.laid w) (fun _ _ _ hh h => h.of_heap hh) own started (by kernel_rfl) Tryz.func10
    (ChangeSpec.witness_shaped (enc := enc) (C := Tryz.checked) (os := os) (X := fun w _ => laidMetH Tryz.prog Rows.cnfDimacsReadableRow.laid w) false (World.laidAll Tryz.prog os Rows.cnfDimacsReadableRow.laid) #[.slice none 0 0] 8 (World.laidAll_os _ _ _)
      (World.shaped_of_ZipB (by kernel_rfl) (by kernel_rfl)) (by kernel_rfl) (by kernel_rfl) (by kernel_rfl)
      (by rw [MakeChecks.laidMetH_plain _ _ _ (by kernel_rfl)]; exact laidMet_laidAll _ (by kernel_rfl) (by kernel_rfl))) ?_
  intro W base args ds gs before hval0 hW hcnd hsz0 hL0 _
  have hL := hL0
  rw [MakeChecks.laidMetH_plain _ _ _ (by kernel_rfl)] at hL
  have hLaid : P.Laid W := P.Laid.of_met hL (by simp [Rows.cnfDimacsReadableRow]) (by simp [Rows.cnfDimacsReadableRow]) (by simp [Rows.cnfDimacsReadableRow])
  have hsz : (DataW.weightsEach Tryz.prog (Tryz.f10.params.toList ++ Rows.cnfDimacsReadableSpec.plain.varTypes Tryz.prog) (ds ++ gs)).all (· ≤ reachBytes) = true := hsz0
  have hval : ∀ (j : Nat) t v, Tryz.f10.params[j]? = some t → args[j]? = some v → Value.okWide Tryz.prog W .any base t v := hval0
  have hW' := hW
  obtain ⟨p, q, hA0, hV, rfl, hfz, hnd⟩ := hW
  have hA : DataW.TrodAll enc Tryz.prog W 0 (fun _ => true) true Tryz.f10.params.toList args.toList ds p := hA0
  rw [Tryz.params10] at hA hval hsz
  obtain ⟨v0, vs0, d0, ds0, p0, q0, hargs, rfl, rfl, h0, r0⟩ := trodAll_cons hA
  obtain ⟨rfl, rfl, rfl⟩ := trodAll_nil r0
  obtain rfl : args = #[v0] := by cases args; simp_all
  obtain ⟨rfl, rfl⟩ := trodVars_none hV
  obtain ⟨a0, len0, cap0, rfl⟩ := okWide_slice Tryz.underlying41 (hval 0 41 v0 rfl rfl)
  have k0 := h0
  have lt0 : ∀ x ∈ p0, x.block < W.heap.size := by obtain ⟨m, hm⟩ := k0; exact DataW.trod_lt m _ _ _ hm
  obtain ⟨z0, w0⟩ : ∃ zs, IsRow .u8 W a0 len0 cap0 zs := by
    obtain ⟨fuel, hf⟩ := h0
    rcases open_ints Tryz.underlying41 Tryz.underlying5 (by kernel_rfl) hf with ⟨hcs, _⟩ | ⟨x, l, c, zs, hcs, _, hl, hm, hz, _, hcell, hwz⟩
    · simp [Value.cells] at hcs
      obtain ⟨rfl, rfl, rfl⟩ := hcs
      exact ⟨[], .inl ⟨rfl, rfl, rfl, rfl⟩⟩
    · simp [Value.cells] at hcs
      obtain ⟨rfl, rfl, rfl⟩ := hcs
      exact ⟨zs, .inr ⟨_, rfl, hl, hm, by simpa using hz, hcell, hwz⟩⟩
  have y0 : len0 * 1 ≤ 140737488351232 := YtcdhhaedgohlgaaGreatDoorW.PrintWords.sized_ints hsz (j := 0) (t := 41) rfl rfl Tryz.underlying41 Tryz.underlying5 (by kernel_rfl) (by kernel_rfl) h0
  clear hA0 hval0 hsz0 hsz
  refine (P.chalklinelaw14_CnfDimacsReadable.walk Pure.CnfDimacsReadable a0 len0 cap0 z0 W hLaid w0 y0).mono fun e W' ⟨he, bel⟩ => ?_
  subst he
  exact ⟨_, rfl, _, _, _, [], _, [], hW', trodAll_mk1 (shut_bool Tryz.underlying4 _), (trodAll_cons_mk (Below.trod laidOut (by kernel_rfl) (of_decide_eq_true (by kernel_rfl)) k0 bel lt0) trodAll_mk0), rfl, bel.frame _, fun h => by cases h⟩
theorem over : Rows.cnfDimacsReadableRow.holds Tryz.pinned (OpenSpec.ofChange Rows.cnfDimacsReadableSpec) :=
  OpenClaim.holds_of_wide 10 Tryz.f10 rfl rfl rfl rfl rfl rfl rfl ⟨rfl, rfl, rfl, rfl, rfl⟩ rfl rfl rfl rfl rfl LFCnfDimacsReadable.named Tryz.func10 LFCnfDimacsReadable.closed
    LFCnfDimacsReadable.inst LFCnfDimacsReadable.wrap
    (fun os started H enc _ => lifted os started H enc)
theorem proved : Rows.CnfDimacsReadableSaid := over
theorem wf : Rows.cnfDimacsReadableRow.wfByText (OpenSpec.ofChange Rows.cnfDimacsReadableSpec) = true := by kernel_rfl
theorem card : Rows.CnfDimacsReadableCardSaid :=
  Claim7.holds_tied_plain_at .later [] [.data, .data, .data, .data, .sentinel, .pinned] true (true, "fc784c6fe05591a51cdcde09b567985ec7f68a3b02e4d15942be336fc0b172bd") true proved (fun _ h => by cases h) wf (fun _ h => by cases h) cnfDimacsReadable_row_tie rfl ⟨rfl, rfl⟩ FP.main_is rfl
    (fun f fn hf hfn => by
      obtain rfl : f = 10 := Option.some.inj (LFCnfDimacsReadable.named.symm.trans hf) |>.symm
      obtain rfl : fn = Tryz.f10 := (Option.some.inj (Tryz.func10.symm.trans hfn)).symm
      exact ⟨FP.looks_, fun j t ht => by
        rw [Tryz.params10] at ht
        have hm : t ∈ [41] := by simpa using Array.mem_of_getElem? ht
        have hm2 : t ∈ [3, 22, 24, 25, 26, 41, 55] := by
          simp only [List.mem_cons, List.mem_nil_iff, or_false] at hm
          rcases hm with rfl <;> simp
        exact (show Tryz.prog.wantsStandIn t = false by simpa using List.all_eq_true.1 FP.stands t hm2)⟩)
    LFCnfDimacsReadable.goes
end Go.Proofs.YtcdhhaedgohlgaaGreatDoor.cnfDimacsReadable
namespace Go.Proofs.YtcdhhaedgohlgaaGreatDoor
/-- The card, under a short name, for the claim. -/
theorem cnfDimacsReadable_holds : Rows.CnfDimacsReadableCardSaid := cnfDimacsReadable.card
end Go.Proofs.YtcdhhaedgohlgaaGreatDoor
