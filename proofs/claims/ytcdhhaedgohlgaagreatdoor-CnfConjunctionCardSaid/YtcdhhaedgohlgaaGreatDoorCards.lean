/-
  DERIVED. GIVEN WITH THE SEED: THE CARDS: each row of YtcdhhaedgohlgaaGreatDoorRows.lean that lists a variable, with what it lists TIED to the program's text (the seventh form; the later family's looks); each row that meets fmt, with fmt's text TOLD by the authors' own Lean function (tested against real Go, not proved from fmt's source: count such statements apart). THE CARD IS WHAT COUNTS. Prove the row's statement (the work); the ties are given (YtcdhhaedgohlgaaGreatDoorTie.lean); close each card by the builder's one call (the guide's Derived/Test/ToyasCard.lean, 'card_holds'). Laid BY PROGRAM, IN A SANDBOX (cutbox-door.mjs). By AI agents, Wed Nov 11 2026. No macro, syntax, notation, axiom, sorry.
-/
import Derived.Test.YtcdhhaedgohlgaaGreatDoorRows
import GoSem.ClaimSeven
namespace Go.Proofs.YtcdhhaedgohlgaaGreatDoor
namespace Rows

/-- THE TIED CARD OF 'chalklinelaw14.CnfBasicsSpec'. -/
def cnfBasicsSpecCard : Claim7 := { stood := { row := cnfBasicsSpecRow, standIns := [], harness := (true, "fc784c6fe05591a51cdcde09b567985ec7f68a3b02e4d15942be336fc0b172bd"), looks := true }, kinds := [], alts := [], laidByText := true, laidKinds := [.data, .data, .data, .data, .sentinel, .pinned], laidTests := true, laidLooks := .later }
def CnfBasicsSpecCardSaid : Prop := Claim7.holds Tryz.pinned (.plain (OpenSpec.ofChange cnfBasicsSpecSpec)) cnfBasicsSpecCard

/-- THE TIED CARD OF 'chalklinelaw14.CnfResolveSpec'. -/
def cnfResolveSpecCard : Claim7 := { stood := { row := cnfResolveSpecRow, standIns := [], harness := (true, "fc784c6fe05591a51cdcde09b567985ec7f68a3b02e4d15942be336fc0b172bd"), looks := true }, kinds := [], alts := [], laidByText := true, laidKinds := [.data, .data, .data, .data, .sentinel, .pinned], laidTests := true, laidLooks := .later }
def CnfResolveSpecCardSaid : Prop := Claim7.holds Tryz.pinned (.plain (OpenSpec.ofChange cnfResolveSpecSpec)) cnfResolveSpecCard

/-- THE TIED CARD OF 'chalklinelaw14.CnfDimacsSpec'. -/
def cnfDimacsSpecCard : Claim7 := { stood := { row := cnfDimacsSpecRow, standIns := [], harness := (true, "fc784c6fe05591a51cdcde09b567985ec7f68a3b02e4d15942be336fc0b172bd"), looks := true }, kinds := [], alts := [], laidByText := true, laidKinds := [.data, .data, .data, .data, .sentinel, .pinned], laidTests := true, laidLooks := .later }
def CnfDimacsSpecCardSaid : Prop := Claim7.holds Tryz.pinned (.plain (OpenSpec.ofChange cnfDimacsSpecSpec)) cnfDimacsSpecCard

/-- THE TIED CARD OF 'chalklinelaw14.CnfResolveSound'. -/
def cnfResolveSoundCard : Claim7 := { stood := { row := cnfResolveSoundRow, standIns := [], harness := (true, "fc784c6fe05591a51cdcde09b567985ec7f68a3b02e4d15942be336fc0b172bd"), looks := true }, kinds := [], alts := [], laidByText := true, laidKinds := [.data, .data, .data, .data, .sentinel, .pinned], laidTests := true, laidLooks := .later }
def CnfResolveSoundCardSaid : Prop := Claim7.holds Tryz.pinned (.plain (OpenSpec.ofChange cnfResolveSoundSpec)) cnfResolveSoundCard

/-- THE TIED CARD OF 'chalklinelaw14.CnfSubsumesSound'. -/
def cnfSubsumesSoundCard : Claim7 := { stood := { row := cnfSubsumesSoundRow, standIns := [], harness := (true, "fc784c6fe05591a51cdcde09b567985ec7f68a3b02e4d15942be336fc0b172bd"), looks := true }, kinds := [], alts := [], laidByText := true, laidKinds := [.data, .data, .data, .data, .sentinel, .pinned], laidTests := true, laidLooks := .later }
def CnfSubsumesSoundCardSaid : Prop := Claim7.holds Tryz.pinned (.plain (OpenSpec.ofChange cnfSubsumesSoundSpec)) cnfSubsumesSoundCard

/-- THE TIED CARD OF 'chalklinelaw14.CnfNormEquivalent'. -/
def cnfNormEquivalentCard : Claim7 := { stood := { row := cnfNormEquivalentRow, standIns := [], harness := (true, "fc784c6fe05591a51cdcde09b567985ec7f68a3b02e4d15942be336fc0b172bd"), looks := true }, kinds := [], alts := [], laidByText := true, laidKinds := [.data, .data, .data, .data, .sentinel, .pinned], laidTests := true, laidLooks := .later }
def CnfNormEquivalentCardSaid : Prop := Claim7.holds Tryz.pinned (.plain (OpenSpec.ofChange cnfNormEquivalentSpec)) cnfNormEquivalentCard

/-- THE TIED CARD OF 'chalklinelaw14.CnfDimacsRoundTrip'. -/
def cnfDimacsRoundTripCard : Claim7 := { stood := { row := cnfDimacsRoundTripRow, standIns := [], harness := (true, "fc784c6fe05591a51cdcde09b567985ec7f68a3b02e4d15942be336fc0b172bd"), looks := true }, kinds := [], alts := [], laidByText := true, laidKinds := [.data, .data, .data, .data, .sentinel, .pinned], laidTests := true, laidLooks := .later }
def CnfDimacsRoundTripCardSaid : Prop := Claim7.holds Tryz.pinned (.plain (OpenSpec.ofChange cnfDimacsRoundTripSpec)) cnfDimacsRoundTripCard

/-- THE TIED CARD OF 'chalklinelaw14.CnfDimacsReadable'. -/
def cnfDimacsReadableCard : Claim7 := { stood := { row := cnfDimacsReadableRow, standIns := [], harness := (true, "fc784c6fe05591a51cdcde09b567985ec7f68a3b02e4d15942be336fc0b172bd"), looks := true }, kinds := [], alts := [], laidByText := true, laidKinds := [.data, .data, .data, .data, .sentinel, .pinned], laidTests := true, laidLooks := .later }
def CnfDimacsReadableCardSaid : Prop := Claim7.holds Tryz.pinned (.plain (OpenSpec.ofChange cnfDimacsReadableSpec)) cnfDimacsReadableCard

/-- THE TIED CARD OF 'chalklinelaw14.CnfConjunction'. -/
def cnfConjunctionCard : Claim7 := { stood := { row := cnfConjunctionRow, standIns := [], harness := (true, "fc784c6fe05591a51cdcde09b567985ec7f68a3b02e4d15942be336fc0b172bd"), looks := true }, kinds := [], alts := [], laidByText := true, laidKinds := [.data, .data, .data, .data, .sentinel, .pinned], laidTests := true, laidLooks := .later }
def CnfConjunctionCardSaid : Prop := Claim7.holds Tryz.pinned (.plain (OpenSpec.ofChange cnfConjunctionSpec)) cnfConjunctionCard

/-- THE TIED CARD OF 'chalklinelaw24.ProofFollows'. -/
def proofFollowsCard : Claim7 := { stood := { row := proofFollowsRow, standIns := [], harness := (true, "fc784c6fe05591a51cdcde09b567985ec7f68a3b02e4d15942be336fc0b172bd"), looks := true }, kinds := [], alts := [], laidByText := true, laidKinds := [.data, .data, .data, .data, .sentinel, .sentinel, .pinned], laidTests := true, laidLooks := .later }
def ProofFollowsCardSaid : Prop := Claim7.holds Tryz.pinned (.plain (OpenSpec.ofChange proofFollowsSpec)) proofFollowsCard

/-- THE TIED CARD OF 'chalklinelaw24.ProofChecks'. -/
def proofChecksCard : Claim7 := { stood := { row := proofChecksRow, standIns := [], harness := (true, "fc784c6fe05591a51cdcde09b567985ec7f68a3b02e4d15942be336fc0b172bd"), looks := true }, kinds := [], alts := [], laidByText := true, laidKinds := [.data, .data, .data, .data, .sentinel, .sentinel, .pinned], laidTests := true, laidLooks := .later }
def ProofChecksCardSaid : Prop := Claim7.holds Tryz.pinned (.plain (OpenSpec.ofChange proofChecksSpec)) proofChecksCard

/-- THE TIED CARD OF 'chalklinelaw24.ProofTexts'. -/
def proofTextsCard : Claim7 := { stood := { row := proofTextsRow, standIns := [], harness := (true, "fc784c6fe05591a51cdcde09b567985ec7f68a3b02e4d15942be336fc0b172bd"), looks := true }, kinds := [], alts := [], laidByText := true, laidKinds := [.data, .data, .data, .data, .sentinel, .sentinel, .pinned], laidTests := true, laidLooks := .later }
def ProofTextsCardSaid : Prop := Claim7.holds Tryz.pinned (.plain (OpenSpec.ofChange proofTextsSpec)) proofTextsCard

/-- THE TIED CARD OF 'chalklinelaw24.ProofBack'. -/
def proofBackCard : Claim7 := { stood := { row := proofBackRow, standIns := [], harness := (true, "fc784c6fe05591a51cdcde09b567985ec7f68a3b02e4d15942be336fc0b172bd"), looks := true }, kinds := [], alts := [], laidByText := true, laidKinds := [.data, .data, .data, .data, .sentinel, .sentinel, .pinned], laidTests := true, laidLooks := .later }
def ProofBackCardSaid : Prop := Claim7.holds Tryz.pinned (.plain (OpenSpec.ofChange proofBackSpec)) proofBackCard

/-- THE TIED CARD OF 'chalklinelaw24.ProofOrder'. -/
def proofOrderCard : Claim7 := { stood := { row := proofOrderRow, standIns := [], harness := (true, "fc784c6fe05591a51cdcde09b567985ec7f68a3b02e4d15942be336fc0b172bd"), looks := true }, kinds := [], alts := [], laidByText := true, laidKinds := [.data, .data, .data, .data, .sentinel, .sentinel, .pinned], laidTests := true, laidLooks := .later }
def ProofOrderCardSaid : Prop := Claim7.holds Tryz.pinned (.plain (OpenSpec.ofChange proofOrderSpec)) proofOrderCard

/-- THE TIED CARD OF 'chalklinelaw24.ProofSound'. -/
def proofSoundCard : Claim7 := { stood := { row := proofSoundRow, standIns := [], harness := (true, "fc784c6fe05591a51cdcde09b567985ec7f68a3b02e4d15942be336fc0b172bd"), looks := true }, kinds := [], alts := [], laidByText := true, laidKinds := [.data, .data, .data, .data, .sentinel, .sentinel, .pinned], laidTests := true, laidLooks := .later }
def ProofSoundCardSaid : Prop := Claim7.holds Tryz.pinned (.plain (OpenSpec.ofChange proofSoundSpec)) proofSoundCard

/-- THE TIED CARD OF 'chalklinelaw24.ProofImplied'. -/
def proofImpliedCard : Claim7 := { stood := { row := proofImpliedRow, standIns := [], harness := (true, "fc784c6fe05591a51cdcde09b567985ec7f68a3b02e4d15942be336fc0b172bd"), looks := true }, kinds := [], alts := [], laidByText := true, laidKinds := [.data, .data, .data, .data, .sentinel, .sentinel, .pinned], laidTests := true, laidLooks := .later }
def ProofImpliedCardSaid : Prop := Claim7.holds Tryz.pinned (.plain (OpenSpec.ofChange proofImpliedSpec)) proofImpliedCard

/-- THE TIED CARD OF 'chalklinelaw24.ProofTidy'. -/
def proofTidyCard : Claim7 := { stood := { row := proofTidyRow, standIns := [], harness := (true, "fc784c6fe05591a51cdcde09b567985ec7f68a3b02e4d15942be336fc0b172bd"), looks := true }, kinds := [], alts := [], laidByText := true, laidKinds := [.data, .data, .data, .data, .sentinel, .sentinel, .pinned], laidTests := true, laidLooks := .later }
def ProofTidyCardSaid : Prop := Claim7.holds Tryz.pinned (.plain (OpenSpec.ofChange proofTidySpec)) proofTidyCard

/-- THE TIED CARD OF 'chalklinelaw24.ProofResolved'. -/
def proofResolvedCard : Claim7 := { stood := { row := proofResolvedRow, standIns := [], harness := (true, "fc784c6fe05591a51cdcde09b567985ec7f68a3b02e4d15942be336fc0b172bd"), looks := true }, kinds := [], alts := [], laidByText := true, laidKinds := [.data, .data, .data, .data, .sentinel, .sentinel, .pinned], laidTests := true, laidLooks := .later }
def ProofResolvedCardSaid : Prop := Claim7.holds Tryz.pinned (.plain (OpenSpec.ofChange proofResolvedSpec)) proofResolvedCard

/-- THE SECOND FORM's CARD OF 'chalklinelaw14.CnfBasicsSpec'. -/
def cnfBasicsSpecUptoCard : Claim7 := { stood := { row := cnfBasicsSpecUptoRow, standIns := [], harness := (true, "fc784c6fe05591a51cdcde09b567985ec7f68a3b02e4d15942be336fc0b172bd"), looks := true }, kinds := [], alts := [], laidByText := true, laidKinds := [.data, .data, .data, .data, .sentinel, .pinned], laidTests := true, laidLooks := .later }
def CnfBasicsSpecUptoCardSaid : Prop := Claim7.holds Tryz.pinned (.plain (OpenSpec.upto cnfBasicsSpecSpec)) cnfBasicsSpecUptoCard

/-- THE SECOND FORM's CARD OF 'chalklinelaw14.CnfResolveSpec'. -/
def cnfResolveSpecUptoCard : Claim7 := { stood := { row := cnfResolveSpecUptoRow, standIns := [], harness := (true, "fc784c6fe05591a51cdcde09b567985ec7f68a3b02e4d15942be336fc0b172bd"), looks := true }, kinds := [], alts := [], laidByText := true, laidKinds := [.data, .data, .data, .data, .sentinel, .pinned], laidTests := true, laidLooks := .later }
def CnfResolveSpecUptoCardSaid : Prop := Claim7.holds Tryz.pinned (.plain (OpenSpec.upto cnfResolveSpecSpec)) cnfResolveSpecUptoCard

/-- THE SECOND FORM's CARD OF 'chalklinelaw14.CnfDimacsSpec'. -/
def cnfDimacsSpecUptoCard : Claim7 := { stood := { row := cnfDimacsSpecUptoRow, standIns := [], harness := (true, "fc784c6fe05591a51cdcde09b567985ec7f68a3b02e4d15942be336fc0b172bd"), looks := true }, kinds := [], alts := [], laidByText := true, laidKinds := [.data, .data, .data, .data, .sentinel, .pinned], laidTests := true, laidLooks := .later }
def CnfDimacsSpecUptoCardSaid : Prop := Claim7.holds Tryz.pinned (.plain (OpenSpec.upto cnfDimacsSpecSpec)) cnfDimacsSpecUptoCard

/-- THE SECOND FORM's CARD OF 'chalklinelaw14.CnfResolveSound'. -/
def cnfResolveSoundUptoCard : Claim7 := { stood := { row := cnfResolveSoundUptoRow, standIns := [], harness := (true, "fc784c6fe05591a51cdcde09b567985ec7f68a3b02e4d15942be336fc0b172bd"), looks := true }, kinds := [], alts := [], laidByText := true, laidKinds := [.data, .data, .data, .data, .sentinel, .pinned], laidTests := true, laidLooks := .later }
def CnfResolveSoundUptoCardSaid : Prop := Claim7.holds Tryz.pinned (.plain (OpenSpec.upto cnfResolveSoundSpec)) cnfResolveSoundUptoCard

/-- THE SECOND FORM's CARD OF 'chalklinelaw14.CnfSubsumesSound'. -/
def cnfSubsumesSoundUptoCard : Claim7 := { stood := { row := cnfSubsumesSoundUptoRow, standIns := [], harness := (true, "fc784c6fe05591a51cdcde09b567985ec7f68a3b02e4d15942be336fc0b172bd"), looks := true }, kinds := [], alts := [], laidByText := true, laidKinds := [.data, .data, .data, .data, .sentinel, .pinned], laidTests := true, laidLooks := .later }
def CnfSubsumesSoundUptoCardSaid : Prop := Claim7.holds Tryz.pinned (.plain (OpenSpec.upto cnfSubsumesSoundSpec)) cnfSubsumesSoundUptoCard

/-- THE SECOND FORM's CARD OF 'chalklinelaw14.CnfNormEquivalent'. -/
def cnfNormEquivalentUptoCard : Claim7 := { stood := { row := cnfNormEquivalentUptoRow, standIns := [], harness := (true, "fc784c6fe05591a51cdcde09b567985ec7f68a3b02e4d15942be336fc0b172bd"), looks := true }, kinds := [], alts := [], laidByText := true, laidKinds := [.data, .data, .data, .data, .sentinel, .pinned], laidTests := true, laidLooks := .later }
def CnfNormEquivalentUptoCardSaid : Prop := Claim7.holds Tryz.pinned (.plain (OpenSpec.upto cnfNormEquivalentSpec)) cnfNormEquivalentUptoCard

/-- THE SECOND FORM's CARD OF 'chalklinelaw14.CnfDimacsRoundTrip'. -/
def cnfDimacsRoundTripUptoCard : Claim7 := { stood := { row := cnfDimacsRoundTripUptoRow, standIns := [], harness := (true, "fc784c6fe05591a51cdcde09b567985ec7f68a3b02e4d15942be336fc0b172bd"), looks := true }, kinds := [], alts := [], laidByText := true, laidKinds := [.data, .data, .data, .data, .sentinel, .pinned], laidTests := true, laidLooks := .later }
def CnfDimacsRoundTripUptoCardSaid : Prop := Claim7.holds Tryz.pinned (.plain (OpenSpec.upto cnfDimacsRoundTripSpec)) cnfDimacsRoundTripUptoCard

/-- THE SECOND FORM's CARD OF 'chalklinelaw14.CnfDimacsReadable'. -/
def cnfDimacsReadableUptoCard : Claim7 := { stood := { row := cnfDimacsReadableUptoRow, standIns := [], harness := (true, "fc784c6fe05591a51cdcde09b567985ec7f68a3b02e4d15942be336fc0b172bd"), looks := true }, kinds := [], alts := [], laidByText := true, laidKinds := [.data, .data, .data, .data, .sentinel, .pinned], laidTests := true, laidLooks := .later }
def CnfDimacsReadableUptoCardSaid : Prop := Claim7.holds Tryz.pinned (.plain (OpenSpec.upto cnfDimacsReadableSpec)) cnfDimacsReadableUptoCard

/-- THE SECOND FORM's CARD OF 'chalklinelaw14.CnfConjunction'. -/
def cnfConjunctionUptoCard : Claim7 := { stood := { row := cnfConjunctionUptoRow, standIns := [], harness := (true, "fc784c6fe05591a51cdcde09b567985ec7f68a3b02e4d15942be336fc0b172bd"), looks := true }, kinds := [], alts := [], laidByText := true, laidKinds := [.data, .data, .data, .data, .sentinel, .pinned], laidTests := true, laidLooks := .later }
def CnfConjunctionUptoCardSaid : Prop := Claim7.holds Tryz.pinned (.plain (OpenSpec.upto cnfConjunctionSpec)) cnfConjunctionUptoCard

/-- THE SECOND FORM's CARD OF 'chalklinelaw24.ProofFollows'. -/
def proofFollowsUptoCard : Claim7 := { stood := { row := proofFollowsUptoRow, standIns := [], harness := (true, "fc784c6fe05591a51cdcde09b567985ec7f68a3b02e4d15942be336fc0b172bd"), looks := true }, kinds := [], alts := [], laidByText := true, laidKinds := [.data, .data, .data, .data, .sentinel, .sentinel, .pinned], laidTests := true, laidLooks := .later }
def ProofFollowsUptoCardSaid : Prop := Claim7.holds Tryz.pinned (.plain (OpenSpec.upto proofFollowsSpec)) proofFollowsUptoCard

/-- THE SECOND FORM's CARD OF 'chalklinelaw24.ProofChecks'. -/
def proofChecksUptoCard : Claim7 := { stood := { row := proofChecksUptoRow, standIns := [], harness := (true, "fc784c6fe05591a51cdcde09b567985ec7f68a3b02e4d15942be336fc0b172bd"), looks := true }, kinds := [], alts := [], laidByText := true, laidKinds := [.data, .data, .data, .data, .sentinel, .sentinel, .pinned], laidTests := true, laidLooks := .later }
def ProofChecksUptoCardSaid : Prop := Claim7.holds Tryz.pinned (.plain (OpenSpec.upto proofChecksSpec)) proofChecksUptoCard

/-- THE SECOND FORM's CARD OF 'chalklinelaw24.ProofTexts'. -/
def proofTextsUptoCard : Claim7 := { stood := { row := proofTextsUptoRow, standIns := [], harness := (true, "fc784c6fe05591a51cdcde09b567985ec7f68a3b02e4d15942be336fc0b172bd"), looks := true }, kinds := [], alts := [], laidByText := true, laidKinds := [.data, .data, .data, .data, .sentinel, .sentinel, .pinned], laidTests := true, laidLooks := .later }
def ProofTextsUptoCardSaid : Prop := Claim7.holds Tryz.pinned (.plain (OpenSpec.upto proofTextsSpec)) proofTextsUptoCard

/-- THE SECOND FORM's CARD OF 'chalklinelaw24.ProofBack'. -/
def proofBackUptoCard : Claim7 := { stood := { row := proofBackUptoRow, standIns := [], harness := (true, "fc784c6fe05591a51cdcde09b567985ec7f68a3b02e4d15942be336fc0b172bd"), looks := true }, kinds := [], alts := [], laidByText := true, laidKinds := [.data, .data, .data, .data, .sentinel, .sentinel, .pinned], laidTests := true, laidLooks := .later }
def ProofBackUptoCardSaid : Prop := Claim7.holds Tryz.pinned (.plain (OpenSpec.upto proofBackSpec)) proofBackUptoCard

/-- THE SECOND FORM's CARD OF 'chalklinelaw24.ProofOrder'. -/
def proofOrderUptoCard : Claim7 := { stood := { row := proofOrderUptoRow, standIns := [], harness := (true, "fc784c6fe05591a51cdcde09b567985ec7f68a3b02e4d15942be336fc0b172bd"), looks := true }, kinds := [], alts := [], laidByText := true, laidKinds := [.data, .data, .data, .data, .sentinel, .sentinel, .pinned], laidTests := true, laidLooks := .later }
def ProofOrderUptoCardSaid : Prop := Claim7.holds Tryz.pinned (.plain (OpenSpec.upto proofOrderSpec)) proofOrderUptoCard

/-- THE SECOND FORM's CARD OF 'chalklinelaw24.ProofSound'. -/
def proofSoundUptoCard : Claim7 := { stood := { row := proofSoundUptoRow, standIns := [], harness := (true, "fc784c6fe05591a51cdcde09b567985ec7f68a3b02e4d15942be336fc0b172bd"), looks := true }, kinds := [], alts := [], laidByText := true, laidKinds := [.data, .data, .data, .data, .sentinel, .sentinel, .pinned], laidTests := true, laidLooks := .later }
def ProofSoundUptoCardSaid : Prop := Claim7.holds Tryz.pinned (.plain (OpenSpec.upto proofSoundSpec)) proofSoundUptoCard

/-- THE SECOND FORM's CARD OF 'chalklinelaw24.ProofImplied'. -/
def proofImpliedUptoCard : Claim7 := { stood := { row := proofImpliedUptoRow, standIns := [], harness := (true, "fc784c6fe05591a51cdcde09b567985ec7f68a3b02e4d15942be336fc0b172bd"), looks := true }, kinds := [], alts := [], laidByText := true, laidKinds := [.data, .data, .data, .data, .sentinel, .sentinel, .pinned], laidTests := true, laidLooks := .later }
def ProofImpliedUptoCardSaid : Prop := Claim7.holds Tryz.pinned (.plain (OpenSpec.upto proofImpliedSpec)) proofImpliedUptoCard

/-- THE SECOND FORM's CARD OF 'chalklinelaw24.ProofTidy'. -/
def proofTidyUptoCard : Claim7 := { stood := { row := proofTidyUptoRow, standIns := [], harness := (true, "fc784c6fe05591a51cdcde09b567985ec7f68a3b02e4d15942be336fc0b172bd"), looks := true }, kinds := [], alts := [], laidByText := true, laidKinds := [.data, .data, .data, .data, .sentinel, .sentinel, .pinned], laidTests := true, laidLooks := .later }
def ProofTidyUptoCardSaid : Prop := Claim7.holds Tryz.pinned (.plain (OpenSpec.upto proofTidySpec)) proofTidyUptoCard

/-- THE SECOND FORM's CARD OF 'chalklinelaw24.ProofResolved'. -/
def proofResolvedUptoCard : Claim7 := { stood := { row := proofResolvedUptoRow, standIns := [], harness := (true, "fc784c6fe05591a51cdcde09b567985ec7f68a3b02e4d15942be336fc0b172bd"), looks := true }, kinds := [], alts := [], laidByText := true, laidKinds := [.data, .data, .data, .data, .sentinel, .sentinel, .pinned], laidTests := true, laidLooks := .later }
def ProofResolvedUptoCardSaid : Prop := Claim7.holds Tryz.pinned (.plain (OpenSpec.upto proofResolvedSpec)) proofResolvedUptoCard
end Rows
end Go.Proofs.YtcdhhaedgohlgaaGreatDoor
