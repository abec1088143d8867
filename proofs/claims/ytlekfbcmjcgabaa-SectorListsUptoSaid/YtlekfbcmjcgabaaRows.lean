/-
  No cell of these rows narrows 'for every input' (looked for: loops, veiled, ifaces, maps, wideKeys, modest, calm, conditions, laid).
  DERIVED. THE GIVEN ROWS OF THIS SEAT. 9 by the template 'for every input the law returns true; each argument reads behind the call as it read before'; 0 by the template 'total and deterministic' (their statements: YtlekfbcmjcgabaaTotals.lean).
  GIVEN WITH THE SEED: the statements are not yours to turn. If you find one false, say at which input.
  Laid BY PROGRAM, IN A SANDBOX (cutbox-rows.mjs): the forced cells as the released guide's own fill.sh prints them over the translation cb8a9f5fa3722feb… (all of the seat's roots in one cut). By AI agents, Wed Nov 11 2026. No macro, syntax, notation, axiom, sorry.
-/
import Derived.Test.YtlekfbcmjcgabaaChecked
import GoSem.Claim
import GoSem.ClaimJoined
import GoSem.ClaimMapViews
import Derived.JoinedTies
import Derived.KernelRfl
namespace Go.Proofs.Ytlekfbcmjcgabaa
/- THE CELL 'sum', in the pinned program and in every row, IS THE sha256 OF THE DUMP (.gsa) THAT YtlekfbcmjcgabaaProg.lean LOADS. Nothing in Lean hashes anything: it is a label: what it is worth is what the hold of that sum in a sandbox is worth. -/
noncomputable def Try.pinned : Pinned := { name := "ytlekfbcmjcgabaa", sum := "cb8a9f5fa3722feb70fcb5d4c357b9b590da3722f2c1c77187b00127f86e1975", checked := Try.checked }
namespace Rows
def none {H : Type} : Left H := { results := [], args := [] }

/-- 'breakwaterlaw01.SectorNames': WHATEVER THE INPUT: true; the input reads as it did. -/
def sectorNamesSpec : ChangeSpec := { name := "sectorNames", fn := fun _ => fun
  | [] => { results := [.lit (.bool true)], args := [] }
  | _ => none }
def sectorNamesRow : OpenClaim := { program := "ytlekfbcmjcgabaa", sum := "cb8a9f5fa3722feb70fcb5d4c357b9b590da3722f2c1c77187b00127f86e1975", func := "breakwater/breakwaterlaw01.SectorNames", spec := "sectorNames", apart := false }
def SectorNamesSaid : Prop := sectorNamesRow.holds Try.pinned (OpenSpec.ofChange sectorNamesSpec)

/-- ITS FALSE NEIGHBOUR: 'it returns false'. Refute it at one input. -/
def sectorNamesWrong : ChangeSpec := { name := "sectorNames", fn := fun _ => fun
  | [] => { results := [.lit (.bool false)], args := [] }
  | _ => none }
def SectorNamesWrongFalsely : Prop := sectorNamesRow.holds Try.pinned (OpenSpec.ofChange sectorNamesWrong)

/-- 'breakwaterlaw01.SectorLists': WHATEVER THE INPUT: true; the input reads as it did. -/
def sectorListsSpec : ChangeSpec := { name := "sectorLists", fn := fun _ => fun
  | [d1, d2, d3] => { results := [.lit (.bool true)], args := [d1, d2, d3] }
  | _ => none }
def sectorListsRow : OpenClaim := { program := "ytlekfbcmjcgabaa", sum := "cb8a9f5fa3722feb70fcb5d4c357b9b590da3722f2c1c77187b00127f86e1975", func := "breakwater/breakwaterlaw01.SectorLists", spec := "sectorLists", apart := false }
def SectorListsSaid : Prop := sectorListsRow.holds Try.pinned (OpenSpec.ofChange sectorListsSpec)

/-- ITS FALSE NEIGHBOUR: 'it returns false'. Refute it at one input. -/
def sectorListsWrong : ChangeSpec := { name := "sectorLists", fn := fun _ => fun
  | [d1, d2, d3] => { results := [.lit (.bool false)], args := [d1, d2, d3] }
  | _ => none }
def SectorListsWrongFalsely : Prop := sectorListsRow.holds Try.pinned (OpenSpec.ofChange sectorListsWrong)

/-- 'breakwaterlaw01.SectorBack': WHATEVER THE INPUT: true; the input reads as it did. -/
def sectorBackSpec : ChangeSpec := { name := "sectorBack", fn := fun _ => fun
  | [d1, d2, d3] => { results := [.lit (.bool true)], args := [d1, d2, d3] }
  | _ => none }
def sectorBackRow : OpenClaim := { program := "ytlekfbcmjcgabaa", sum := "cb8a9f5fa3722feb70fcb5d4c357b9b590da3722f2c1c77187b00127f86e1975", func := "breakwater/breakwaterlaw01.SectorBack", spec := "sectorBack", apart := false }
def SectorBackSaid : Prop := sectorBackRow.holds Try.pinned (OpenSpec.ofChange sectorBackSpec)

/-- ITS FALSE NEIGHBOUR: 'it returns false'. Refute it at one input. -/
def sectorBackWrong : ChangeSpec := { name := "sectorBack", fn := fun _ => fun
  | [d1, d2, d3] => { results := [.lit (.bool false)], args := [d1, d2, d3] }
  | _ => none }
def SectorBackWrongFalsely : Prop := sectorBackRow.holds Try.pinned (OpenSpec.ofChange sectorBackWrong)

/-- 'breakwaterlaw01.SectorHalves': WHATEVER THE INPUT: true; the input reads as it did. -/
def sectorHalvesSpec : ChangeSpec := { name := "sectorHalves", fn := fun _ => fun
  | [d1, d2, d3] => { results := [.lit (.bool true)], args := [d1, d2, d3] }
  | _ => none }
def sectorHalvesRow : OpenClaim := { program := "ytlekfbcmjcgabaa", sum := "cb8a9f5fa3722feb70fcb5d4c357b9b590da3722f2c1c77187b00127f86e1975", func := "breakwater/breakwaterlaw01.SectorHalves", spec := "sectorHalves", apart := false }
def SectorHalvesSaid : Prop := sectorHalvesRow.holds Try.pinned (OpenSpec.ofChange sectorHalvesSpec)

/-- ITS FALSE NEIGHBOUR: 'it returns false'. Refute it at one input. -/
def sectorHalvesWrong : ChangeSpec := { name := "sectorHalves", fn := fun _ => fun
  | [d1, d2, d3] => { results := [.lit (.bool false)], args := [d1, d2, d3] }
  | _ => none }
def SectorHalvesWrongFalsely : Prop := sectorHalvesRow.holds Try.pinned (OpenSpec.ofChange sectorHalvesWrong)

/-- 'breakwaterlaw01.SectorWhole': WHATEVER THE INPUT: true; the input reads as it did. -/
def sectorWholeSpec : ChangeSpec := { name := "sectorWhole", fn := fun _ => fun
  | [d1, d2] => { results := [.lit (.bool true)], args := [d1, d2] }
  | _ => none }
def sectorWholeRow : OpenClaim := { program := "ytlekfbcmjcgabaa", sum := "cb8a9f5fa3722feb70fcb5d4c357b9b590da3722f2c1c77187b00127f86e1975", func := "breakwater/breakwaterlaw01.SectorWhole", spec := "sectorWhole", apart := false }
def SectorWholeSaid : Prop := sectorWholeRow.holds Try.pinned (OpenSpec.ofChange sectorWholeSpec)

/-- ITS FALSE NEIGHBOUR: 'it returns false'. Refute it at one input. -/
def sectorWholeWrong : ChangeSpec := { name := "sectorWhole", fn := fun _ => fun
  | [d1, d2] => { results := [.lit (.bool false)], args := [d1, d2] }
  | _ => none }
def SectorWholeWrongFalsely : Prop := sectorWholeRow.holds Try.pinned (OpenSpec.ofChange sectorWholeWrong)

/-- 'breakwaterlaw01.SectorWipes': WHATEVER THE INPUT: true; the input reads as it did. -/
def sectorWipesSpec : ChangeSpec := { name := "sectorWipes", fn := fun _ => fun
  | [d1, d2, d3] => { results := [.lit (.bool true)], args := [d1, d2, d3] }
  | _ => none }
def sectorWipesRow : OpenClaim := { program := "ytlekfbcmjcgabaa", sum := "cb8a9f5fa3722feb70fcb5d4c357b9b590da3722f2c1c77187b00127f86e1975", func := "breakwater/breakwaterlaw01.SectorWipes", spec := "sectorWipes", apart := false }
def SectorWipesSaid : Prop := sectorWipesRow.holds Try.pinned (OpenSpec.ofChange sectorWipesSpec)

/-- ITS FALSE NEIGHBOUR: 'it returns false'. Refute it at one input. -/
def sectorWipesWrong : ChangeSpec := { name := "sectorWipes", fn := fun _ => fun
  | [d1, d2, d3] => { results := [.lit (.bool false)], args := [d1, d2, d3] }
  | _ => none }
def SectorWipesWrongFalsely : Prop := sectorWipesRow.holds Try.pinned (OpenSpec.ofChange sectorWipesWrong)

/-- 'breakwaterlaw01.SectorApart': WHATEVER THE INPUT: true; the input reads as it did. -/
def sectorApartSpec : ChangeSpec := { name := "sectorApart", fn := fun _ => fun
  | [d1, d2] => { results := [.lit (.bool true)], args := [d1, d2] }
  | _ => none }
def sectorApartRow : OpenClaim := { program := "ytlekfbcmjcgabaa", sum := "cb8a9f5fa3722feb70fcb5d4c357b9b590da3722f2c1c77187b00127f86e1975", func := "breakwater/breakwaterlaw01.SectorApart", spec := "sectorApart", apart := false }
def SectorApartSaid : Prop := sectorApartRow.holds Try.pinned (OpenSpec.ofChange sectorApartSpec)

/-- ITS FALSE NEIGHBOUR: 'it returns false'. Refute it at one input. -/
def sectorApartWrong : ChangeSpec := { name := "sectorApart", fn := fun _ => fun
  | [d1, d2] => { results := [.lit (.bool false)], args := [d1, d2] }
  | _ => none }
def SectorApartWrongFalsely : Prop := sectorApartRow.holds Try.pinned (OpenSpec.ofChange sectorApartWrong)

/-- 'breakwaterlaw01.SectorRefuses': WHATEVER THE INPUT: true; the input reads as it did. -/
def sectorRefusesSpec : ChangeSpec := { name := "sectorRefuses", fn := fun _ => fun
  | [d1, d2, d3] => { results := [.lit (.bool true)], args := [d1, d2, d3] }
  | _ => none }
def sectorRefusesRow : OpenClaim := { program := "ytlekfbcmjcgabaa", sum := "cb8a9f5fa3722feb70fcb5d4c357b9b590da3722f2c1c77187b00127f86e1975", func := "breakwater/breakwaterlaw01.SectorRefuses", spec := "sectorRefuses", apart := false }
def SectorRefusesSaid : Prop := sectorRefusesRow.holds Try.pinned (OpenSpec.ofChange sectorRefusesSpec)

/-- ITS FALSE NEIGHBOUR: 'it returns false'. Refute it at one input. -/
def sectorRefusesWrong : ChangeSpec := { name := "sectorRefuses", fn := fun _ => fun
  | [d1, d2, d3] => { results := [.lit (.bool false)], args := [d1, d2, d3] }
  | _ => none }
def SectorRefusesWrongFalsely : Prop := sectorRefusesRow.holds Try.pinned (OpenSpec.ofChange sectorRefusesWrong)

/-- 'breakwaterlaw01.SectorTells': WHATEVER THE INPUT: true; the input reads as it did. -/
def sectorTellsSpec : ChangeSpec := { name := "sectorTells", fn := fun _ => fun
  | [d] => { results := [.lit (.bool true)], args := [d] }
  | _ => none }
def sectorTellsRow : OpenClaim := { program := "ytlekfbcmjcgabaa", sum := "cb8a9f5fa3722feb70fcb5d4c357b9b590da3722f2c1c77187b00127f86e1975", func := "breakwater/breakwaterlaw01.SectorTells", spec := "sectorTells", apart := false }
def SectorTellsSaid : Prop := sectorTellsRow.holds Try.pinned (OpenSpec.ofChange sectorTellsSpec)

/-- ITS FALSE NEIGHBOUR: 'it returns false'. Refute it at one input. -/
def sectorTellsWrong : ChangeSpec := { name := "sectorTells", fn := fun _ => fun
  | [d] => { results := [.lit (.bool false)], args := [d] }
  | _ => none }
def SectorTellsWrongFalsely : Prop := sectorTellsRow.holds Try.pinned (OpenSpec.ofChange sectorTellsWrong)

/- THE SECOND FORM. 'bulk': how many values and letters a reading holds, each counted each time it is reached (what is shared counts as often as it is met; a slice's spare places count too). A statement '..UptoSaid' is the law's where the arguments, and the package variables that the reading takes, are together of bulk at most 1048576: NARROWER than '..Said'. Prove '..Said' where nothing that the law and all that it calls make is longer than what came in: it says more and counts as full. Else prove '..UptoSaid'. A law counts once. -/
mutual
def uptoBulk {H : Type} : DataW H → Nat
  | .lit (.string bytes) => bytes.length + 1
  | .lit _ => 1
  | .nil => 1
  | .ptr d => uptoBulk d + 1
  | .slice elems spare => uptoBulkAll elems + uptoBulkAll spare + 1
  | .agg parts => uptoBulkAll parts + 1
  | .iface _ d => uptoBulk d + 1
  | .map entries => uptoBulkEntries entries + 1
  | .held _ => 1
def uptoBulkAll {H : Type} : List (DataW H) → Nat
  | [] => 0
  | d :: r => uptoBulk d + uptoBulkAll r
def uptoBulkEntries {H : Type} : List (Lit × DataW H) → Nat
  | [] => 0
  | x :: r => uptoBulkEntry x + uptoBulkEntries r
def uptoBulkEntry {H : Type} : Lit × DataW H → Nat
  | (.string bytes, d) => bytes.length + uptoBulk d + 1
  | (_, d) => uptoBulk d + 1
 end
def uptoSmall : (H : Type) → List (DataW H) → Bool := fun _ ds => decide (uptoBulkAll ds ≤ 1048576)
def OpenSpec.upto (s : _root_.Go.ChangeSpec) : _root_.Go.OpenSpec := { _root_.Go.OpenSpec.ofChange s with cond := some uptoSmall }

/-- 'breakwaterlaw01.SectorNames', WHERE WHAT IT READS IS OF BULK AT MOST 1048576: true; the input reads as it did. -/
def sectorNamesUptoRow : OpenClaim := { program := "ytlekfbcmjcgabaa", sum := "cb8a9f5fa3722feb70fcb5d4c357b9b590da3722f2c1c77187b00127f86e1975", func := "breakwater/breakwaterlaw01.SectorNames", spec := "sectorNames", apart := false, narrowed := true }
def SectorNamesUptoSaid : Prop := sectorNamesUptoRow.holds Try.pinned (OpenSpec.upto sectorNamesSpec)

/-- 'breakwaterlaw01.SectorLists', WHERE WHAT IT READS IS OF BULK AT MOST 1048576: true; the input reads as it did. -/
def sectorListsUptoRow : OpenClaim := { program := "ytlekfbcmjcgabaa", sum := "cb8a9f5fa3722feb70fcb5d4c357b9b590da3722f2c1c77187b00127f86e1975", func := "breakwater/breakwaterlaw01.SectorLists", spec := "sectorLists", apart := false, narrowed := true }
def SectorListsUptoSaid : Prop := sectorListsUptoRow.holds Try.pinned (OpenSpec.upto sectorListsSpec)

/-- 'breakwaterlaw01.SectorBack', WHERE WHAT IT READS IS OF BULK AT MOST 1048576: true; the input reads as it did. -/
def sectorBackUptoRow : OpenClaim := { program := "ytlekfbcmjcgabaa", sum := "cb8a9f5fa3722feb70fcb5d4c357b9b590da3722f2c1c77187b00127f86e1975", func := "breakwater/breakwaterlaw01.SectorBack", spec := "sectorBack", apart := false, narrowed := true }
def SectorBackUptoSaid : Prop := sectorBackUptoRow.holds Try.pinned (OpenSpec.upto sectorBackSpec)

/-- 'breakwaterlaw01.SectorHalves', WHERE WHAT IT READS IS OF BULK AT MOST 1048576: true; the input reads as it did. -/
def sectorHalvesUptoRow : OpenClaim := { program := "ytlekfbcmjcgabaa", sum := "cb8a9f5fa3722feb70fcb5d4c357b9b590da3722f2c1c77187b00127f86e1975", func := "breakwater/breakwaterlaw01.SectorHalves", spec := "sectorHalves", apart := false, narrowed := true }
def SectorHalvesUptoSaid : Prop := sectorHalvesUptoRow.holds Try.pinned (OpenSpec.upto sectorHalvesSpec)

/-- 'breakwaterlaw01.SectorWhole', WHERE WHAT IT READS IS OF BULK AT MOST 1048576: true; the input reads as it did. -/
def sectorWholeUptoRow : OpenClaim := { program := "ytlekfbcmjcgabaa", sum := "cb8a9f5fa3722feb70fcb5d4c357b9b590da3722f2c1c77187b00127f86e1975", func := "breakwater/breakwaterlaw01.SectorWhole", spec := "sectorWhole", apart := false, narrowed := true }
def SectorWholeUptoSaid : Prop := sectorWholeUptoRow.holds Try.pinned (OpenSpec.upto sectorWholeSpec)

/-- 'breakwaterlaw01.SectorWipes', WHERE WHAT IT READS IS OF BULK AT MOST 1048576: true; the input reads as it did. -/
def sectorWipesUptoRow : OpenClaim := { program := "ytlekfbcmjcgabaa", sum := "cb8a9f5fa3722feb70fcb5d4c357b9b590da3722f2c1c77187b00127f86e1975", func := "breakwater/breakwaterlaw01.SectorWipes", spec := "sectorWipes", apart := false, narrowed := true }
def SectorWipesUptoSaid : Prop := sectorWipesUptoRow.holds Try.pinned (OpenSpec.upto sectorWipesSpec)

/-- 'breakwaterlaw01.SectorApart', WHERE WHAT IT READS IS OF BULK AT MOST 1048576: true; the input reads as it did. -/
def sectorApartUptoRow : OpenClaim := { program := "ytlekfbcmjcgabaa", sum := "cb8a9f5fa3722feb70fcb5d4c357b9b590da3722f2c1c77187b00127f86e1975", func := "breakwater/breakwaterlaw01.SectorApart", spec := "sectorApart", apart := false, narrowed := true }
def SectorApartUptoSaid : Prop := sectorApartUptoRow.holds Try.pinned (OpenSpec.upto sectorApartSpec)

/-- 'breakwaterlaw01.SectorRefuses', WHERE WHAT IT READS IS OF BULK AT MOST 1048576: true; the input reads as it did. -/
def sectorRefusesUptoRow : OpenClaim := { program := "ytlekfbcmjcgabaa", sum := "cb8a9f5fa3722feb70fcb5d4c357b9b590da3722f2c1c77187b00127f86e1975", func := "breakwater/breakwaterlaw01.SectorRefuses", spec := "sectorRefuses", apart := false, narrowed := true }
def SectorRefusesUptoSaid : Prop := sectorRefusesUptoRow.holds Try.pinned (OpenSpec.upto sectorRefusesSpec)

/-- 'breakwaterlaw01.SectorTells', WHERE WHAT IT READS IS OF BULK AT MOST 1048576: true; the input reads as it did. -/
def sectorTellsUptoRow : OpenClaim := { program := "ytlekfbcmjcgabaa", sum := "cb8a9f5fa3722feb70fcb5d4c357b9b590da3722f2c1c77187b00127f86e1975", func := "breakwater/breakwaterlaw01.SectorTells", spec := "sectorTells", apart := false, narrowed := true }
def SectorTellsUptoSaid : Prop := sectorTellsUptoRow.holds Try.pinned (OpenSpec.upto sectorTellsSpec)

end Rows
end Go.Proofs.Ytlekfbcmjcgabaa
