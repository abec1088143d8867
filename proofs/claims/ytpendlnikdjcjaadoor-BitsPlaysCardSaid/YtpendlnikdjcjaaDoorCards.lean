/-
  DERIVED. GIVEN WITH THE SEED: THE CARDS: each row of YtpendlnikdjcjaaDoorRows.lean that lists a variable, with what it lists TIED to the program's text (the seventh form; the later family's looks); each row that meets fmt, with fmt's text TOLD by the authors' own Lean function (tested against real Go, not proved from fmt's source: count such statements apart). THE CARD IS WHAT COUNTS. Prove the row's statement (the work); the ties are given (YtpendlnikdjcjaaDoorTie.lean); close each card by the builder's one call (the guide's Derived/Test/ToyasCard.lean, 'card_holds'). Laid BY PROGRAM, IN A SANDBOX (cutbox-door.mjs). By AI agents, Wed Nov 11 2026. No macro, syntax, notation, axiom, sorry.
-/
import Derived.Test.YtpendlnikdjcjaaDoorRows
import GoSem.ClaimSeven
namespace Go.Proofs.YtpendlnikdjcjaaDoor
namespace Rows

/-- THE TIED CARD OF 'breakwaterlaw05.BitsSizes'. -/
def bitsSizesCard : Claim7 := { stood := { row := bitsSizesRow, standIns := [], harness := (true, "6cff4f8b61ce6b253aeb9107123f99aedfed2dbd2a13675e38788373cc0e145c"), looks := false }, kinds := [], alts := [], laidByText := true, laidKinds := [.data], laidTests := true, laidLooks := .later }
def BitsSizesCardSaid : Prop := Claim7.holds Tryd.pinned (.plain (OpenSpec.ofChange bitsSizesSpec)) bitsSizesCard

/-- THE TIED CARD OF 'breakwaterlaw05.BitsFirst'. -/
def bitsFirstCard : Claim7 := { stood := { row := bitsFirstRow, standIns := [], harness := (true, "6cff4f8b61ce6b253aeb9107123f99aedfed2dbd2a13675e38788373cc0e145c"), looks := false }, kinds := [], alts := [], laidByText := true, laidKinds := [.data], laidTests := true, laidLooks := .later }
def BitsFirstCardSaid : Prop := Claim7.holds Tryd.pinned (.plain (OpenSpec.ofChange bitsFirstSpec)) bitsFirstCard

/-- THE TIED CARD OF 'breakwaterlaw05.BitsCounts'. -/
def bitsCountsCard : Claim7 := { stood := { row := bitsCountsRow, standIns := [], harness := (true, "6cff4f8b61ce6b253aeb9107123f99aedfed2dbd2a13675e38788373cc0e145c"), looks := false }, kinds := [], alts := [], laidByText := true, laidKinds := [.data], laidTests := true, laidLooks := .later }
def BitsCountsCardSaid : Prop := Claim7.holds Tryd.pinned (.plain (OpenSpec.ofChange bitsCountsSpec)) bitsCountsCard

/-- THE TIED CARD OF 'breakwaterlaw05.BitsFills'. -/
def bitsFillsCard : Claim7 := { stood := { row := bitsFillsRow, standIns := [], harness := (true, "6cff4f8b61ce6b253aeb9107123f99aedfed2dbd2a13675e38788373cc0e145c"), looks := false }, kinds := [], alts := [], laidByText := true, laidKinds := [.data], laidTests := true, laidLooks := .later }
def BitsFillsCardSaid : Prop := Claim7.holds Tryd.pinned (.plain (OpenSpec.ofChange bitsFillsSpec)) bitsFillsCard

/-- THE TIED CARD OF 'breakwaterlaw05.BitsPlays'. -/
def bitsPlaysCard : Claim7 := { stood := { row := bitsPlaysRow, standIns := [], harness := (true, "6cff4f8b61ce6b253aeb9107123f99aedfed2dbd2a13675e38788373cc0e145c"), looks := false }, kinds := [], alts := [], laidByText := true, laidKinds := [.data], laidTests := true, laidLooks := .later }
def BitsPlaysCardSaid : Prop := Claim7.holds Tryd.pinned (.plain (OpenSpec.ofChange bitsPlaysSpec)) bitsPlaysCard

/-- THE TIED CARD OF 'breakwaterlaw05.BitsRefused'. -/
def bitsRefusedCard : Claim7 := { stood := { row := bitsRefusedRow, standIns := [], harness := (true, "6cff4f8b61ce6b253aeb9107123f99aedfed2dbd2a13675e38788373cc0e145c"), looks := false }, kinds := [], alts := [], laidByText := true, laidKinds := [.data], laidTests := true, laidLooks := .later }
def BitsRefusedCardSaid : Prop := Claim7.holds Tryd.pinned (.plain (OpenSpec.ofChange bitsRefusedSpec)) bitsRefusedCard

/-- THE SECOND FORM's CARD OF 'breakwaterlaw05.BitsSizes'. -/
def bitsSizesUptoCard : Claim7 := { stood := { row := bitsSizesUptoRow, standIns := [], harness := (true, "6cff4f8b61ce6b253aeb9107123f99aedfed2dbd2a13675e38788373cc0e145c"), looks := false }, kinds := [], alts := [], laidByText := true, laidKinds := [.data], laidTests := true, laidLooks := .later }
def BitsSizesUptoCardSaid : Prop := Claim7.holds Tryd.pinned (.plain (OpenSpec.upto bitsSizesSpec)) bitsSizesUptoCard

/-- THE SECOND FORM's CARD OF 'breakwaterlaw05.BitsFirst'. -/
def bitsFirstUptoCard : Claim7 := { stood := { row := bitsFirstUptoRow, standIns := [], harness := (true, "6cff4f8b61ce6b253aeb9107123f99aedfed2dbd2a13675e38788373cc0e145c"), looks := false }, kinds := [], alts := [], laidByText := true, laidKinds := [.data], laidTests := true, laidLooks := .later }
def BitsFirstUptoCardSaid : Prop := Claim7.holds Tryd.pinned (.plain (OpenSpec.upto bitsFirstSpec)) bitsFirstUptoCard

/-- THE SECOND FORM's CARD OF 'breakwaterlaw05.BitsCounts'. -/
def bitsCountsUptoCard : Claim7 := { stood := { row := bitsCountsUptoRow, standIns := [], harness := (true, "6cff4f8b61ce6b253aeb9107123f99aedfed2dbd2a13675e38788373cc0e145c"), looks := false }, kinds := [], alts := [], laidByText := true, laidKinds := [.data], laidTests := true, laidLooks := .later }
def BitsCountsUptoCardSaid : Prop := Claim7.holds Tryd.pinned (.plain (OpenSpec.upto bitsCountsSpec)) bitsCountsUptoCard

/-- THE SECOND FORM's CARD OF 'breakwaterlaw05.BitsFills'. -/
def bitsFillsUptoCard : Claim7 := { stood := { row := bitsFillsUptoRow, standIns := [], harness := (true, "6cff4f8b61ce6b253aeb9107123f99aedfed2dbd2a13675e38788373cc0e145c"), looks := false }, kinds := [], alts := [], laidByText := true, laidKinds := [.data], laidTests := true, laidLooks := .later }
def BitsFillsUptoCardSaid : Prop := Claim7.holds Tryd.pinned (.plain (OpenSpec.upto bitsFillsSpec)) bitsFillsUptoCard

/-- THE SECOND FORM's CARD OF 'breakwaterlaw05.BitsPlays'. -/
def bitsPlaysUptoCard : Claim7 := { stood := { row := bitsPlaysUptoRow, standIns := [], harness := (true, "6cff4f8b61ce6b253aeb9107123f99aedfed2dbd2a13675e38788373cc0e145c"), looks := false }, kinds := [], alts := [], laidByText := true, laidKinds := [.data], laidTests := true, laidLooks := .later }
def BitsPlaysUptoCardSaid : Prop := Claim7.holds Tryd.pinned (.plain (OpenSpec.upto bitsPlaysSpec)) bitsPlaysUptoCard

/-- THE SECOND FORM's CARD OF 'breakwaterlaw05.BitsRefused'. -/
def bitsRefusedUptoCard : Claim7 := { stood := { row := bitsRefusedUptoRow, standIns := [], harness := (true, "6cff4f8b61ce6b253aeb9107123f99aedfed2dbd2a13675e38788373cc0e145c"), looks := false }, kinds := [], alts := [], laidByText := true, laidKinds := [.data], laidTests := true, laidLooks := .later }
def BitsRefusedUptoCardSaid : Prop := Claim7.holds Tryd.pinned (.plain (OpenSpec.upto bitsRefusedSpec)) bitsRefusedUptoCard
end Rows
end Go.Proofs.YtpendlnikdjcjaaDoor
