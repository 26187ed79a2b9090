/-
  DERIVED. GIVEN WITH THE SEED: THE CARDS: each row of YtmehafolnpkmhaaDoorRows.lean that lists a variable, with what it lists TIED to the program's text (the seventh form; the later family's looks); each row that meets fmt, with fmt's text TOLD by the authors' own Lean function (tested against real Go, not proved from fmt's source: count such statements apart). THE CARD IS WHAT COUNTS. Prove the row's statement (the work); the ties are given (YtmehafolnpkmhaaDoorTie.lean); close each card by the builder's one call (the guide's Derived/Test/ToyasCard.lean, 'card_holds'). Laid BY PROGRAM, IN A SANDBOX (cutbox-door.mjs). By AI agents, Wed Nov 11 2026. No macro, syntax, notation, axiom, sorry.
-/
import Derived.Test.YtmehafolnpkmhaaDoorRows
import GoSem.ClaimSeven
namespace Go.Proofs.YtmehafolnpkmhaaDoor
namespace Rows

/-- THE TIED CARD OF 'fuglemanlaw05.MembersNext'. -/
def membersNextCard : Claim7 := { stood := { row := membersNextRow, standIns := [], harness := (true, "c9e35d919e08ca304783203bcf714e98478924e61a1a71ea5d5f11b0cff94060"), looks := false }, kinds := [], alts := [], laidByText := true, laidKinds := [.data, .data, .data], laidTests := true, laidLooks := .later }
def MembersNextCardSaid : Prop := Claim7.holds Tryd.pinned (.plain (OpenSpec.ofChange membersNextSpec)) membersNextCard

/-- THE TIED CARD OF 'fuglemanlaw05.MembersSets'. -/
def membersSetsCard : Claim7 := { stood := { row := membersSetsRow, standIns := [], harness := (true, "c9e35d919e08ca304783203bcf714e98478924e61a1a71ea5d5f11b0cff94060"), looks := false }, kinds := [], alts := [], laidByText := true, laidKinds := [.data, .data, .data], laidTests := true, laidLooks := .later }
def MembersSetsCardSaid : Prop := Claim7.holds Tryd.pinned (.plain (OpenSpec.ofChange membersSetsSpec)) membersSetsCard

/-- THE TIED CARD OF 'fuglemanlaw05.MembersRound'. -/
def membersRoundCard : Claim7 := { stood := { row := membersRoundRow, standIns := [], harness := (true, "c9e35d919e08ca304783203bcf714e98478924e61a1a71ea5d5f11b0cff94060"), looks := false }, kinds := [], alts := [], laidByText := true, laidKinds := [.data, .data, .data], laidTests := true, laidLooks := .later }
def MembersRoundCardSaid : Prop := Claim7.holds Tryd.pinned (.plain (OpenSpec.ofChange membersRoundSpec)) membersRoundCard

/-- THE TIED CARD OF 'fuglemanlaw05.MembersBetween'. -/
def membersBetweenCard : Claim7 := { stood := { row := membersBetweenRow, standIns := [], harness := (true, "c9e35d919e08ca304783203bcf714e98478924e61a1a71ea5d5f11b0cff94060"), looks := false }, kinds := [], alts := [], laidByText := true, laidKinds := [.data, .data, .data], laidTests := true, laidLooks := .later }
def MembersBetweenCardSaid : Prop := Claim7.holds Tryd.pinned (.plain (OpenSpec.ofChange membersBetweenSpec)) membersBetweenCard

/-- THE TIED CARD OF 'fuglemanlaw05.MembersParts'. -/
def membersPartsCard : Claim7 := { stood := { row := membersPartsRow, standIns := [], harness := (true, "c9e35d919e08ca304783203bcf714e98478924e61a1a71ea5d5f11b0cff94060"), looks := false }, kinds := [], alts := [], laidByText := true, laidKinds := [.data, .data, .data], laidTests := true, laidLooks := .later }
def MembersPartsCardSaid : Prop := Claim7.holds Tryd.pinned (.plain (OpenSpec.ofChange membersPartsSpec)) membersPartsCard

/-- THE TIED CARD OF 'fuglemanlaw04.FrameMakes'. -/
def frameMakesCard : Claim7 := { stood := { row := frameMakesRow, standIns := [], harness := (true, "c9e35d919e08ca304783203bcf714e98478924e61a1a71ea5d5f11b0cff94060"), looks := false }, kinds := [], alts := [], laidByText := true, laidKinds := [.data, .data, .data], laidTests := true, laidLooks := .later }
def FrameMakesCardSaid : Prop := Claim7.holds Tryd.pinned (.plain (OpenSpec.ofChange frameMakesSpec)) frameMakesCard

/-- THE TIED CARD OF 'fuglemanlaw04.FrameReads'. -/
def frameReadsCard : Claim7 := { stood := { row := frameReadsRow, standIns := [], harness := (true, "c9e35d919e08ca304783203bcf714e98478924e61a1a71ea5d5f11b0cff94060"), looks := false }, kinds := [], alts := [], laidByText := true, laidKinds := [.data, .data, .data], laidTests := true, laidLooks := .later }
def FrameReadsCardSaid : Prop := Claim7.holds Tryd.pinned (.plain (OpenSpec.ofChange frameReadsSpec)) frameReadsCard

/-- THE TIED CARD OF 'fuglemanlaw04.FrameSealed'. -/
def frameSealedCard : Claim7 := { stood := { row := frameSealedRow, standIns := [], harness := (true, "c9e35d919e08ca304783203bcf714e98478924e61a1a71ea5d5f11b0cff94060"), looks := false }, kinds := [], alts := [], laidByText := true, laidKinds := [.data, .data, .data], laidTests := true, laidLooks := .later }
def FrameSealedCardSaid : Prop := Claim7.holds Tryd.pinned (.plain (OpenSpec.ofChange frameSealedSpec)) frameSealedCard

/-- THE TIED CARD OF 'fuglemanlaw04.FrameCuts'. -/
def frameCutsCard : Claim7 := { stood := { row := frameCutsRow, standIns := [], harness := (true, "c9e35d919e08ca304783203bcf714e98478924e61a1a71ea5d5f11b0cff94060"), looks := false }, kinds := [], alts := [], laidByText := true, laidKinds := [.data, .data, .data], laidTests := true, laidLooks := .later }
def FrameCutsCardSaid : Prop := Claim7.holds Tryd.pinned (.plain (OpenSpec.ofChange frameCutsSpec)) frameCutsCard

/-- THE TIED CARD OF 'fuglemanlaw04.FrameBursts'. -/
def frameBurstsCard : Claim7 := { stood := { row := frameBurstsRow, standIns := [], harness := (true, "c9e35d919e08ca304783203bcf714e98478924e61a1a71ea5d5f11b0cff94060"), looks := false }, kinds := [], alts := [], laidByText := true, laidKinds := [.data, .data, .data], laidTests := true, laidLooks := .later }
def FrameBurstsCardSaid : Prop := Claim7.holds Tryd.pinned (.plain (OpenSpec.ofChange frameBurstsSpec)) frameBurstsCard

/-- THE SECOND FORM's CARD OF 'fuglemanlaw05.MembersNext'. -/
def membersNextUptoCard : Claim7 := { stood := { row := membersNextUptoRow, standIns := [], harness := (true, "c9e35d919e08ca304783203bcf714e98478924e61a1a71ea5d5f11b0cff94060"), looks := false }, kinds := [], alts := [], laidByText := true, laidKinds := [.data, .data, .data], laidTests := true, laidLooks := .later }
def MembersNextUptoCardSaid : Prop := Claim7.holds Tryd.pinned (.plain (OpenSpec.upto membersNextSpec)) membersNextUptoCard

/-- THE SECOND FORM's CARD OF 'fuglemanlaw05.MembersSets'. -/
def membersSetsUptoCard : Claim7 := { stood := { row := membersSetsUptoRow, standIns := [], harness := (true, "c9e35d919e08ca304783203bcf714e98478924e61a1a71ea5d5f11b0cff94060"), looks := false }, kinds := [], alts := [], laidByText := true, laidKinds := [.data, .data, .data], laidTests := true, laidLooks := .later }
def MembersSetsUptoCardSaid : Prop := Claim7.holds Tryd.pinned (.plain (OpenSpec.upto membersSetsSpec)) membersSetsUptoCard

/-- THE SECOND FORM's CARD OF 'fuglemanlaw05.MembersRound'. -/
def membersRoundUptoCard : Claim7 := { stood := { row := membersRoundUptoRow, standIns := [], harness := (true, "c9e35d919e08ca304783203bcf714e98478924e61a1a71ea5d5f11b0cff94060"), looks := false }, kinds := [], alts := [], laidByText := true, laidKinds := [.data, .data, .data], laidTests := true, laidLooks := .later }
def MembersRoundUptoCardSaid : Prop := Claim7.holds Tryd.pinned (.plain (OpenSpec.upto membersRoundSpec)) membersRoundUptoCard

/-- THE SECOND FORM's CARD OF 'fuglemanlaw05.MembersBetween'. -/
def membersBetweenUptoCard : Claim7 := { stood := { row := membersBetweenUptoRow, standIns := [], harness := (true, "c9e35d919e08ca304783203bcf714e98478924e61a1a71ea5d5f11b0cff94060"), looks := false }, kinds := [], alts := [], laidByText := true, laidKinds := [.data, .data, .data], laidTests := true, laidLooks := .later }
def MembersBetweenUptoCardSaid : Prop := Claim7.holds Tryd.pinned (.plain (OpenSpec.upto membersBetweenSpec)) membersBetweenUptoCard

/-- THE SECOND FORM's CARD OF 'fuglemanlaw05.MembersParts'. -/
def membersPartsUptoCard : Claim7 := { stood := { row := membersPartsUptoRow, standIns := [], harness := (true, "c9e35d919e08ca304783203bcf714e98478924e61a1a71ea5d5f11b0cff94060"), looks := false }, kinds := [], alts := [], laidByText := true, laidKinds := [.data, .data, .data], laidTests := true, laidLooks := .later }
def MembersPartsUptoCardSaid : Prop := Claim7.holds Tryd.pinned (.plain (OpenSpec.upto membersPartsSpec)) membersPartsUptoCard

/-- THE SECOND FORM's CARD OF 'fuglemanlaw04.FrameMakes'. -/
def frameMakesUptoCard : Claim7 := { stood := { row := frameMakesUptoRow, standIns := [], harness := (true, "c9e35d919e08ca304783203bcf714e98478924e61a1a71ea5d5f11b0cff94060"), looks := false }, kinds := [], alts := [], laidByText := true, laidKinds := [.data, .data, .data], laidTests := true, laidLooks := .later }
def FrameMakesUptoCardSaid : Prop := Claim7.holds Tryd.pinned (.plain (OpenSpec.upto frameMakesSpec)) frameMakesUptoCard

/-- THE SECOND FORM's CARD OF 'fuglemanlaw04.FrameReads'. -/
def frameReadsUptoCard : Claim7 := { stood := { row := frameReadsUptoRow, standIns := [], harness := (true, "c9e35d919e08ca304783203bcf714e98478924e61a1a71ea5d5f11b0cff94060"), looks := false }, kinds := [], alts := [], laidByText := true, laidKinds := [.data, .data, .data], laidTests := true, laidLooks := .later }
def FrameReadsUptoCardSaid : Prop := Claim7.holds Tryd.pinned (.plain (OpenSpec.upto frameReadsSpec)) frameReadsUptoCard

/-- THE SECOND FORM's CARD OF 'fuglemanlaw04.FrameSealed'. -/
def frameSealedUptoCard : Claim7 := { stood := { row := frameSealedUptoRow, standIns := [], harness := (true, "c9e35d919e08ca304783203bcf714e98478924e61a1a71ea5d5f11b0cff94060"), looks := false }, kinds := [], alts := [], laidByText := true, laidKinds := [.data, .data, .data], laidTests := true, laidLooks := .later }
def FrameSealedUptoCardSaid : Prop := Claim7.holds Tryd.pinned (.plain (OpenSpec.upto frameSealedSpec)) frameSealedUptoCard

/-- THE SECOND FORM's CARD OF 'fuglemanlaw04.FrameCuts'. -/
def frameCutsUptoCard : Claim7 := { stood := { row := frameCutsUptoRow, standIns := [], harness := (true, "c9e35d919e08ca304783203bcf714e98478924e61a1a71ea5d5f11b0cff94060"), looks := false }, kinds := [], alts := [], laidByText := true, laidKinds := [.data, .data, .data], laidTests := true, laidLooks := .later }
def FrameCutsUptoCardSaid : Prop := Claim7.holds Tryd.pinned (.plain (OpenSpec.upto frameCutsSpec)) frameCutsUptoCard

/-- THE SECOND FORM's CARD OF 'fuglemanlaw04.FrameBursts'. -/
def frameBurstsUptoCard : Claim7 := { stood := { row := frameBurstsUptoRow, standIns := [], harness := (true, "c9e35d919e08ca304783203bcf714e98478924e61a1a71ea5d5f11b0cff94060"), looks := false }, kinds := [], alts := [], laidByText := true, laidKinds := [.data, .data, .data], laidTests := true, laidLooks := .later }
def FrameBurstsUptoCardSaid : Prop := Claim7.holds Tryd.pinned (.plain (OpenSpec.upto frameBurstsSpec)) frameBurstsUptoCard
end Rows
end Go.Proofs.YtmehafolnpkmhaaDoor
