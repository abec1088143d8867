/-
  DERIVED. GIVEN WITH THE SEED: THE CARDS: each row of YtfedfdcbhggipaaDoorRows.lean that lists a variable, with what it lists TIED to the program's text (the seventh form; the later family's looks); each row that meets fmt, with fmt's text TOLD by the authors' own Lean function (tested against real Go, not proved from fmt's source: count such statements apart). THE CARD IS WHAT COUNTS. Prove the row's statement (the work); the ties are given (YtfedfdcbhggipaaDoorTie.lean); close each card by the builder's one call (the guide's Derived/Test/ToyasCard.lean, 'card_holds'). Laid BY PROGRAM, IN A SANDBOX (cutbox-door.mjs). By AI agents, Wed Nov 11 2026. No macro, syntax, notation, axiom, sorry.
-/
import Derived.Test.YtfedfdcbhggipaaDoorRows
import GoSem.ClaimSeven
namespace Go.Proofs.YtfedfdcbhggipaaDoor
namespace Rows

/-- THE TIED CARD OF 'breakwaterlaw08.SpaceNews'. -/
def spaceNewsCard : Claim7 := { stood := { row := spaceNewsRow, standIns := [], harness := (true, "cdfbb34a431383dca311012fc0dbb4271690108afd2a4957605930f80b9e63a0"), looks := false }, kinds := [], alts := [], laidByText := true, laidKinds := [.data], laidTests := true, laidLooks := .later }
def SpaceNewsCardSaid : Prop := Claim7.holds Tryd.pinned (.plain (OpenSpec.ofChange spaceNewsSpec)) spaceNewsCard

/-- THE TIED CARD OF 'breakwaterlaw08.SpaceInodes'. -/
def spaceInodesCard : Claim7 := { stood := { row := spaceInodesRow, standIns := [], harness := (true, "cdfbb34a431383dca311012fc0dbb4271690108afd2a4957605930f80b9e63a0"), looks := false }, kinds := [], alts := [], laidByText := true, laidKinds := [.data], laidTests := true, laidLooks := .later }
def SpaceInodesCardSaid : Prop := Claim7.holds Tryd.pinned (.plain (OpenSpec.ofChange spaceInodesSpec)) spaceInodesCard

/-- THE TIED CARD OF 'breakwaterlaw08.SpaceGives'. -/
def spaceGivesCard : Claim7 := { stood := { row := spaceGivesRow, standIns := [], harness := (true, "cdfbb34a431383dca311012fc0dbb4271690108afd2a4957605930f80b9e63a0"), looks := false }, kinds := [], alts := [], laidByText := true, laidKinds := [.data], laidTests := true, laidLooks := .later }
def SpaceGivesCardSaid : Prop := Claim7.holds Tryd.pinned (.plain (OpenSpec.ofChange spaceGivesSpec)) spaceGivesCard

/-- THE TIED CARD OF 'breakwaterlaw08.SpaceFull'. -/
def spaceFullCard : Claim7 := { stood := { row := spaceFullRow, standIns := [], harness := (true, "cdfbb34a431383dca311012fc0dbb4271690108afd2a4957605930f80b9e63a0"), looks := false }, kinds := [], alts := [], laidByText := true, laidKinds := [.data], laidTests := true, laidLooks := .later }
def SpaceFullCardSaid : Prop := Claim7.holds Tryd.pinned (.plain (OpenSpec.ofChange spaceFullSpec)) spaceFullCard

/-- THE TIED CARD OF 'breakwaterlaw08.SpacePlays'. -/
def spacePlaysCard : Claim7 := { stood := { row := spacePlaysRow, standIns := [], harness := (true, "cdfbb34a431383dca311012fc0dbb4271690108afd2a4957605930f80b9e63a0"), looks := false }, kinds := [], alts := [], laidByText := true, laidKinds := [.data], laidTests := true, laidLooks := .later }
def SpacePlaysCardSaid : Prop := Claim7.holds Tryd.pinned (.plain (OpenSpec.ofChange spacePlaysSpec)) spacePlaysCard

/-- THE TIED CARD OF 'breakwaterlaw08.SpaceRefused'. -/
def spaceRefusedCard : Claim7 := { stood := { row := spaceRefusedRow, standIns := [], harness := (true, "cdfbb34a431383dca311012fc0dbb4271690108afd2a4957605930f80b9e63a0"), looks := false }, kinds := [], alts := [], laidByText := true, laidKinds := [.data], laidTests := true, laidLooks := .later }
def SpaceRefusedCardSaid : Prop := Claim7.holds Tryd.pinned (.plain (OpenSpec.ofChange spaceRefusedSpec)) spaceRefusedCard

/-- THE SECOND FORM's CARD OF 'breakwaterlaw08.SpaceNews'. -/
def spaceNewsUptoCard : Claim7 := { stood := { row := spaceNewsUptoRow, standIns := [], harness := (true, "cdfbb34a431383dca311012fc0dbb4271690108afd2a4957605930f80b9e63a0"), looks := false }, kinds := [], alts := [], laidByText := true, laidKinds := [.data], laidTests := true, laidLooks := .later }
def SpaceNewsUptoCardSaid : Prop := Claim7.holds Tryd.pinned (.plain (OpenSpec.upto spaceNewsSpec)) spaceNewsUptoCard

/-- THE SECOND FORM's CARD OF 'breakwaterlaw08.SpaceInodes'. -/
def spaceInodesUptoCard : Claim7 := { stood := { row := spaceInodesUptoRow, standIns := [], harness := (true, "cdfbb34a431383dca311012fc0dbb4271690108afd2a4957605930f80b9e63a0"), looks := false }, kinds := [], alts := [], laidByText := true, laidKinds := [.data], laidTests := true, laidLooks := .later }
def SpaceInodesUptoCardSaid : Prop := Claim7.holds Tryd.pinned (.plain (OpenSpec.upto spaceInodesSpec)) spaceInodesUptoCard

/-- THE SECOND FORM's CARD OF 'breakwaterlaw08.SpaceGives'. -/
def spaceGivesUptoCard : Claim7 := { stood := { row := spaceGivesUptoRow, standIns := [], harness := (true, "cdfbb34a431383dca311012fc0dbb4271690108afd2a4957605930f80b9e63a0"), looks := false }, kinds := [], alts := [], laidByText := true, laidKinds := [.data], laidTests := true, laidLooks := .later }
def SpaceGivesUptoCardSaid : Prop := Claim7.holds Tryd.pinned (.plain (OpenSpec.upto spaceGivesSpec)) spaceGivesUptoCard

/-- THE SECOND FORM's CARD OF 'breakwaterlaw08.SpaceFull'. -/
def spaceFullUptoCard : Claim7 := { stood := { row := spaceFullUptoRow, standIns := [], harness := (true, "cdfbb34a431383dca311012fc0dbb4271690108afd2a4957605930f80b9e63a0"), looks := false }, kinds := [], alts := [], laidByText := true, laidKinds := [.data], laidTests := true, laidLooks := .later }
def SpaceFullUptoCardSaid : Prop := Claim7.holds Tryd.pinned (.plain (OpenSpec.upto spaceFullSpec)) spaceFullUptoCard

/-- THE SECOND FORM's CARD OF 'breakwaterlaw08.SpacePlays'. -/
def spacePlaysUptoCard : Claim7 := { stood := { row := spacePlaysUptoRow, standIns := [], harness := (true, "cdfbb34a431383dca311012fc0dbb4271690108afd2a4957605930f80b9e63a0"), looks := false }, kinds := [], alts := [], laidByText := true, laidKinds := [.data], laidTests := true, laidLooks := .later }
def SpacePlaysUptoCardSaid : Prop := Claim7.holds Tryd.pinned (.plain (OpenSpec.upto spacePlaysSpec)) spacePlaysUptoCard

/-- THE SECOND FORM's CARD OF 'breakwaterlaw08.SpaceRefused'. -/
def spaceRefusedUptoCard : Claim7 := { stood := { row := spaceRefusedUptoRow, standIns := [], harness := (true, "cdfbb34a431383dca311012fc0dbb4271690108afd2a4957605930f80b9e63a0"), looks := false }, kinds := [], alts := [], laidByText := true, laidKinds := [.data], laidTests := true, laidLooks := .later }
def SpaceRefusedUptoCardSaid : Prop := Claim7.holds Tryd.pinned (.plain (OpenSpec.upto spaceRefusedSpec)) spaceRefusedUptoCard
end Rows
end Go.Proofs.YtfedfdcbhggipaaDoor
