/-
  DERIVED. GIVEN WITH THE SEED: THE CARDS: each row of YtkeeledkdoiglaaDoorRows.lean that lists a variable, with what it lists TIED to the program's text (the seventh form; the later family's looks); each row that meets fmt, with fmt's text TOLD by the authors' own Lean function (tested against real Go, not proved from fmt's source: count such statements apart). THE CARD IS WHAT COUNTS. Prove the row's statement (the work); the ties are given (YtkeeledkdoiglaaDoorTie.lean); close each card by the builder's one call (the guide's Derived/Test/ToyasCard.lean, 'card_holds'). Laid BY PROGRAM, IN A SANDBOX (cutbox-door.mjs). By AI agents, Wed Nov 11 2026. No macro, syntax, notation, axiom, sorry.
-/
import Derived.Test.YtkeeledkdoiglaaDoorRows
import GoSem.ClaimSeven
namespace Go.Proofs.YtkeeledkdoiglaaDoor
namespace Rows

/-- THE TIED CARD OF 'fuglemanlaw08.WheelComes'. -/
def wheelComesCard : Claim7 := { stood := { row := wheelComesRow, standIns := [], harness := (true, "1185b71db2ea2b5c2695a1f748f2acf1b510478fff9135a6d5e244ac94a34792"), looks := false }, kinds := [], alts := [], laidByText := true, laidKinds := [.data], laidTests := true, laidLooks := .later }
def WheelComesCardSaid : Prop := Claim7.holds Tryd.pinned (.plain (OpenSpec.ofChange wheelComesSpec)) wheelComesCard

/-- THE TIED CARD OF 'fuglemanlaw08.WheelRuns'. -/
def wheelRunsCard : Claim7 := { stood := { row := wheelRunsRow, standIns := [], harness := (true, "1185b71db2ea2b5c2695a1f748f2acf1b510478fff9135a6d5e244ac94a34792"), looks := false }, kinds := [], alts := [], laidByText := true, laidKinds := [.data], laidTests := true, laidLooks := .later }
def WheelRunsCardSaid : Prop := Claim7.holds Tryd.pinned (.plain (OpenSpec.ofChange wheelRunsSpec)) wheelRunsCard

/-- THE TIED CARD OF 'fuglemanlaw08.WheelSkips'. -/
def wheelSkipsCard : Claim7 := { stood := { row := wheelSkipsRow, standIns := [], harness := (true, "1185b71db2ea2b5c2695a1f748f2acf1b510478fff9135a6d5e244ac94a34792"), looks := false }, kinds := [], alts := [], laidByText := true, laidKinds := [.data], laidTests := true, laidLooks := .later }
def WheelSkipsCardSaid : Prop := Claim7.holds Tryd.pinned (.plain (OpenSpec.ofChange wheelSkipsSpec)) wheelSkipsCard

/-- THE TIED CARD OF 'fuglemanlaw37.TallyShares'. -/
def tallySharesCard : Claim7 := { stood := { row := tallySharesRow, standIns := [], harness := (true, "1185b71db2ea2b5c2695a1f748f2acf1b510478fff9135a6d5e244ac94a34792"), looks := false }, kinds := [], alts := [], laidByText := true, laidKinds := [.data, .data, .data], laidTests := true, laidLooks := .later }
def TallySharesCardSaid : Prop := Claim7.holds Tryd.pinned (.plain (OpenSpec.ofChange tallySharesSpec)) tallySharesCard

/-- THE SECOND FORM's CARD OF 'fuglemanlaw08.WheelComes'. -/
def wheelComesUptoCard : Claim7 := { stood := { row := wheelComesUptoRow, standIns := [], harness := (true, "1185b71db2ea2b5c2695a1f748f2acf1b510478fff9135a6d5e244ac94a34792"), looks := false }, kinds := [], alts := [], laidByText := true, laidKinds := [.data], laidTests := true, laidLooks := .later }
def WheelComesUptoCardSaid : Prop := Claim7.holds Tryd.pinned (.plain (OpenSpec.upto wheelComesSpec)) wheelComesUptoCard

/-- THE SECOND FORM's CARD OF 'fuglemanlaw08.WheelRuns'. -/
def wheelRunsUptoCard : Claim7 := { stood := { row := wheelRunsUptoRow, standIns := [], harness := (true, "1185b71db2ea2b5c2695a1f748f2acf1b510478fff9135a6d5e244ac94a34792"), looks := false }, kinds := [], alts := [], laidByText := true, laidKinds := [.data], laidTests := true, laidLooks := .later }
def WheelRunsUptoCardSaid : Prop := Claim7.holds Tryd.pinned (.plain (OpenSpec.upto wheelRunsSpec)) wheelRunsUptoCard

/-- THE SECOND FORM's CARD OF 'fuglemanlaw08.WheelSkips'. -/
def wheelSkipsUptoCard : Claim7 := { stood := { row := wheelSkipsUptoRow, standIns := [], harness := (true, "1185b71db2ea2b5c2695a1f748f2acf1b510478fff9135a6d5e244ac94a34792"), looks := false }, kinds := [], alts := [], laidByText := true, laidKinds := [.data], laidTests := true, laidLooks := .later }
def WheelSkipsUptoCardSaid : Prop := Claim7.holds Tryd.pinned (.plain (OpenSpec.upto wheelSkipsSpec)) wheelSkipsUptoCard

/-- THE SECOND FORM's CARD OF 'fuglemanlaw37.TallyShares'. -/
def tallySharesUptoCard : Claim7 := { stood := { row := tallySharesUptoRow, standIns := [], harness := (true, "1185b71db2ea2b5c2695a1f748f2acf1b510478fff9135a6d5e244ac94a34792"), looks := false }, kinds := [], alts := [], laidByText := true, laidKinds := [.data, .data, .data], laidTests := true, laidLooks := .later }
def TallySharesUptoCardSaid : Prop := Claim7.holds Tryd.pinned (.plain (OpenSpec.upto tallySharesSpec)) tallySharesUptoCard
end Rows
end Go.Proofs.YtkeeledkdoiglaaDoor
