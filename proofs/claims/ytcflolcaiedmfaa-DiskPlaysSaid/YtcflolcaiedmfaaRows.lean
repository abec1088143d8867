/-
  No cell of these rows narrows 'for every input' (looked for: loops, veiled, ifaces, maps, wideKeys, modest, calm, conditions, laid).
  DERIVED. THE GIVEN ROWS OF THIS SEAT. 7 by the template 'for every input the law returns true; each argument reads behind the call as it read before'; 0 by the template 'total and deterministic' (their statements: YtcflolcaiedmfaaTotals.lean).
  GIVEN WITH THE SEED: the statements are not yours to turn. If you find one false, say at which input.
  Laid BY PROGRAM, IN A SANDBOX (cutbox-rows.mjs): the forced cells as the released guide's own fill.sh prints them over the translation 42761fa2a342bed3… (all of the seat's roots in one cut). By AI agents, Wed Nov 11 2026. No macro, syntax, notation, axiom, sorry.
-/
import Derived.Test.YtcflolcaiedmfaaChecked
import GoSem.Claim
import GoSem.ClaimJoined
import GoSem.ClaimMapViews
import Derived.JoinedTies
import Derived.KernelRfl
namespace Go.Proofs.Ytcflolcaiedmfaa
/- THE CELL 'sum', in the pinned program and in every row, IS THE sha256 OF THE DUMP (.gsa) THAT YtcflolcaiedmfaaProg.lean LOADS. Nothing in Lean hashes anything: it is a label: what it is worth is what the hold of that sum in a sandbox is worth. -/
noncomputable def Try.pinned : Pinned := { name := "ytcflolcaiedmfaa", sum := "42761fa2a342bed3eae36caa1bd24478943d44c1d20d147cbeaba40b4cf646d5", checked := Try.checked }
namespace Rows
def none {H : Type} : Left H := { results := [], args := [] }

/-- 'breakwaterlaw02.DiskSizes': WHATEVER THE INPUT: true; the input reads as it did. -/
def diskSizesSpec : ChangeSpec := { name := "diskSizes", fn := fun _ => fun
  | [d] => { results := [.lit (.bool true)], args := [d] }
  | _ => none }
def diskSizesRow : OpenClaim := { program := "ytcflolcaiedmfaa", sum := "42761fa2a342bed3eae36caa1bd24478943d44c1d20d147cbeaba40b4cf646d5", func := "breakwater/breakwaterlaw02.DiskSizes", spec := "diskSizes", apart := false }
def DiskSizesSaid : Prop := diskSizesRow.holds Try.pinned (OpenSpec.ofChange diskSizesSpec)

/-- ITS FALSE NEIGHBOUR: 'it returns false'. Refute it at one input. -/
def diskSizesWrong : ChangeSpec := { name := "diskSizes", fn := fun _ => fun
  | [d] => { results := [.lit (.bool false)], args := [d] }
  | _ => none }
def DiskSizesWrongFalsely : Prop := diskSizesRow.holds Try.pinned (OpenSpec.ofChange diskSizesWrong)

/-- 'breakwaterlaw02.DiskRefused': WHATEVER THE INPUT: true; the input reads as it did. -/
def diskRefusedSpec : ChangeSpec := { name := "diskRefused", fn := fun _ => fun
  | [d1, d2, d3] => { results := [.lit (.bool true)], args := [d1, d2, d3] }
  | _ => none }
def diskRefusedRow : OpenClaim := { program := "ytcflolcaiedmfaa", sum := "42761fa2a342bed3eae36caa1bd24478943d44c1d20d147cbeaba40b4cf646d5", func := "breakwater/breakwaterlaw02.DiskRefused", spec := "diskRefused", apart := false }
def DiskRefusedSaid : Prop := diskRefusedRow.holds Try.pinned (OpenSpec.ofChange diskRefusedSpec)

/-- ITS FALSE NEIGHBOUR: 'it returns false'. Refute it at one input. -/
def diskRefusedWrong : ChangeSpec := { name := "diskRefused", fn := fun _ => fun
  | [d1, d2, d3] => { results := [.lit (.bool false)], args := [d1, d2, d3] }
  | _ => none }
def DiskRefusedWrongFalsely : Prop := diskRefusedRow.holds Try.pinned (OpenSpec.ofChange diskRefusedWrong)

/-- 'breakwaterlaw02.DiskFroms': WHATEVER THE INPUT: true; the input reads as it did. -/
def diskFromsSpec : ChangeSpec := { name := "diskFroms", fn := fun _ => fun
  | [d] => { results := [.lit (.bool true)], args := [d] }
  | _ => none }
def diskFromsRow : OpenClaim := { program := "ytcflolcaiedmfaa", sum := "42761fa2a342bed3eae36caa1bd24478943d44c1d20d147cbeaba40b4cf646d5", func := "breakwater/breakwaterlaw02.DiskFroms", spec := "diskFroms", apart := false }
def DiskFromsSaid : Prop := diskFromsRow.holds Try.pinned (OpenSpec.ofChange diskFromsSpec)

/-- ITS FALSE NEIGHBOUR: 'it returns false'. Refute it at one input. -/
def diskFromsWrong : ChangeSpec := { name := "diskFroms", fn := fun _ => fun
  | [d] => { results := [.lit (.bool false)], args := [d] }
  | _ => none }
def DiskFromsWrongFalsely : Prop := diskFromsRow.holds Try.pinned (OpenSpec.ofChange diskFromsWrong)

/-- 'breakwaterlaw02.DiskApart': WHATEVER THE INPUT: true; the input reads as it did. -/
def diskApartSpec : ChangeSpec := { name := "diskApart", fn := fun _ => fun
  | [d] => { results := [.lit (.bool true)], args := [d] }
  | _ => none }
def diskApartRow : OpenClaim := { program := "ytcflolcaiedmfaa", sum := "42761fa2a342bed3eae36caa1bd24478943d44c1d20d147cbeaba40b4cf646d5", func := "breakwater/breakwaterlaw02.DiskApart", spec := "diskApart", apart := false }
def DiskApartSaid : Prop := diskApartRow.holds Try.pinned (OpenSpec.ofChange diskApartSpec)

/-- ITS FALSE NEIGHBOUR: 'it returns false'. Refute it at one input. -/
def diskApartWrong : ChangeSpec := { name := "diskApart", fn := fun _ => fun
  | [d] => { results := [.lit (.bool false)], args := [d] }
  | _ => none }
def DiskApartWrongFalsely : Prop := diskApartRow.holds Try.pinned (OpenSpec.ofChange diskApartWrong)

/-- 'breakwaterlaw02.DiskStands': WHATEVER THE INPUT: true; the input reads as it did. -/
def diskStandsSpec : ChangeSpec := { name := "diskStands", fn := fun _ => fun
  | [d1, d2] => { results := [.lit (.bool true)], args := [d1, d2] }
  | _ => none }
def diskStandsRow : OpenClaim := { program := "ytcflolcaiedmfaa", sum := "42761fa2a342bed3eae36caa1bd24478943d44c1d20d147cbeaba40b4cf646d5", func := "breakwater/breakwaterlaw02.DiskStands", spec := "diskStands", apart := false }
def DiskStandsSaid : Prop := diskStandsRow.holds Try.pinned (OpenSpec.ofChange diskStandsSpec)

/-- ITS FALSE NEIGHBOUR: 'it returns false'. Refute it at one input. -/
def diskStandsWrong : ChangeSpec := { name := "diskStands", fn := fun _ => fun
  | [d1, d2] => { results := [.lit (.bool false)], args := [d1, d2] }
  | _ => none }
def DiskStandsWrongFalsely : Prop := diskStandsRow.holds Try.pinned (OpenSpec.ofChange diskStandsWrong)

/-- 'breakwaterlaw02.DiskArms': WHATEVER THE INPUT: true; the input reads as it did. -/
def diskArmsSpec : ChangeSpec := { name := "diskArms", fn := fun _ => fun
  | [d1, d2, d3] => { results := [.lit (.bool true)], args := [d1, d2, d3] }
  | _ => none }
def diskArmsRow : OpenClaim := { program := "ytcflolcaiedmfaa", sum := "42761fa2a342bed3eae36caa1bd24478943d44c1d20d147cbeaba40b4cf646d5", func := "breakwater/breakwaterlaw02.DiskArms", spec := "diskArms", apart := false }
def DiskArmsSaid : Prop := diskArmsRow.holds Try.pinned (OpenSpec.ofChange diskArmsSpec)

/-- ITS FALSE NEIGHBOUR: 'it returns false'. Refute it at one input. -/
def diskArmsWrong : ChangeSpec := { name := "diskArms", fn := fun _ => fun
  | [d1, d2, d3] => { results := [.lit (.bool false)], args := [d1, d2, d3] }
  | _ => none }
def DiskArmsWrongFalsely : Prop := diskArmsRow.holds Try.pinned (OpenSpec.ofChange diskArmsWrong)

/-- 'breakwaterlaw02.DiskPlays': WHATEVER THE INPUT: true; the input reads as it did. -/
def diskPlaysSpec : ChangeSpec := { name := "diskPlays", fn := fun _ => fun
  | [d1, d2] => { results := [.lit (.bool true)], args := [d1, d2] }
  | _ => none }
def diskPlaysRow : OpenClaim := { program := "ytcflolcaiedmfaa", sum := "42761fa2a342bed3eae36caa1bd24478943d44c1d20d147cbeaba40b4cf646d5", func := "breakwater/breakwaterlaw02.DiskPlays", spec := "diskPlays", apart := false }
def DiskPlaysSaid : Prop := diskPlaysRow.holds Try.pinned (OpenSpec.ofChange diskPlaysSpec)

/-- ITS FALSE NEIGHBOUR: 'it returns false'. Refute it at one input. -/
def diskPlaysWrong : ChangeSpec := { name := "diskPlays", fn := fun _ => fun
  | [d1, d2] => { results := [.lit (.bool false)], args := [d1, d2] }
  | _ => none }
def DiskPlaysWrongFalsely : Prop := diskPlaysRow.holds Try.pinned (OpenSpec.ofChange diskPlaysWrong)

/- THE SECOND FORM. 'bulk': how many values and letters a reading holds, each counted each time it is reached (what is shared counts as often as it is met; a slice's spare places count too). A statement '..UptoSaid' is the law's where the arguments, and the package variables that the reading takes, are together of bulk at most 1048576: NARROWER than '..Said'. Prove '..Said' where nothing that the law and all that it calls make is longer than what came in: it says more and counts as full. Else prove '..UptoSaid'. A law counts once. -/
mutual
def uptoBulk {H : Type} : DataW H → Nat
  | .lit (.string bytes) => bytes.length + 1
  | .lit _ => 1
  | .nil => 1
  | .ptr d => uptoBulk d + 1
  | .slice elems spare => uptoBulkAll elems + uptoBulkAll spare + 1
  | .agg parts => uptoBulkAll parts + 1
  | .iface _ d => uptoBulk d + 1
  | .map entries => uptoBulkEntries entries + 1
  | .held _ => 1
def uptoBulkAll {H : Type} : List (DataW H) → Nat
  | [] => 0
  | d :: r => uptoBulk d + uptoBulkAll r
def uptoBulkEntries {H : Type} : List (Lit × DataW H) → Nat
  | [] => 0
  | x :: r => uptoBulkEntry x + uptoBulkEntries r
def uptoBulkEntry {H : Type} : Lit × DataW H → Nat
  | (.string bytes, d) => bytes.length + uptoBulk d + 1
  | (_, d) => uptoBulk d + 1
 end
def uptoSmall : (H : Type) → List (DataW H) → Bool := fun _ ds => decide (uptoBulkAll ds ≤ 1048576)
def OpenSpec.upto (s : _root_.Go.ChangeSpec) : _root_.Go.OpenSpec := { _root_.Go.OpenSpec.ofChange s with cond := some uptoSmall }

/-- 'breakwaterlaw02.DiskSizes', WHERE WHAT IT READS IS OF BULK AT MOST 1048576: true; the input reads as it did. -/
def diskSizesUptoRow : OpenClaim := { program := "ytcflolcaiedmfaa", sum := "42761fa2a342bed3eae36caa1bd24478943d44c1d20d147cbeaba40b4cf646d5", func := "breakwater/breakwaterlaw02.DiskSizes", spec := "diskSizes", apart := false, narrowed := true }
def DiskSizesUptoSaid : Prop := diskSizesUptoRow.holds Try.pinned (OpenSpec.upto diskSizesSpec)

/-- 'breakwaterlaw02.DiskRefused', WHERE WHAT IT READS IS OF BULK AT MOST 1048576: true; the input reads as it did. -/
def diskRefusedUptoRow : OpenClaim := { program := "ytcflolcaiedmfaa", sum := "42761fa2a342bed3eae36caa1bd24478943d44c1d20d147cbeaba40b4cf646d5", func := "breakwater/breakwaterlaw02.DiskRefused", spec := "diskRefused", apart := false, narrowed := true }
def DiskRefusedUptoSaid : Prop := diskRefusedUptoRow.holds Try.pinned (OpenSpec.upto diskRefusedSpec)

/-- 'breakwaterlaw02.DiskFroms', WHERE WHAT IT READS IS OF BULK AT MOST 1048576: true; the input reads as it did. -/
def diskFromsUptoRow : OpenClaim := { program := "ytcflolcaiedmfaa", sum := "42761fa2a342bed3eae36caa1bd24478943d44c1d20d147cbeaba40b4cf646d5", func := "breakwater/breakwaterlaw02.DiskFroms", spec := "diskFroms", apart := false, narrowed := true }
def DiskFromsUptoSaid : Prop := diskFromsUptoRow.holds Try.pinned (OpenSpec.upto diskFromsSpec)

/-- 'breakwaterlaw02.DiskApart', WHERE WHAT IT READS IS OF BULK AT MOST 1048576: true; the input reads as it did. -/
def diskApartUptoRow : OpenClaim := { program := "ytcflolcaiedmfaa", sum := "42761fa2a342bed3eae36caa1bd24478943d44c1d20d147cbeaba40b4cf646d5", func := "breakwater/breakwaterlaw02.DiskApart", spec := "diskApart", apart := false, narrowed := true }
def DiskApartUptoSaid : Prop := diskApartUptoRow.holds Try.pinned (OpenSpec.upto diskApartSpec)

/-- 'breakwaterlaw02.DiskStands', WHERE WHAT IT READS IS OF BULK AT MOST 1048576: true; the input reads as it did. -/
def diskStandsUptoRow : OpenClaim := { program := "ytcflolcaiedmfaa", sum := "42761fa2a342bed3eae36caa1bd24478943d44c1d20d147cbeaba40b4cf646d5", func := "breakwater/breakwaterlaw02.DiskStands", spec := "diskStands", apart := false, narrowed := true }
def DiskStandsUptoSaid : Prop := diskStandsUptoRow.holds Try.pinned (OpenSpec.upto diskStandsSpec)

/-- 'breakwaterlaw02.DiskArms', WHERE WHAT IT READS IS OF BULK AT MOST 1048576: true; the input reads as it did. -/
def diskArmsUptoRow : OpenClaim := { program := "ytcflolcaiedmfaa", sum := "42761fa2a342bed3eae36caa1bd24478943d44c1d20d147cbeaba40b4cf646d5", func := "breakwater/breakwaterlaw02.DiskArms", spec := "diskArms", apart := false, narrowed := true }
def DiskArmsUptoSaid : Prop := diskArmsUptoRow.holds Try.pinned (OpenSpec.upto diskArmsSpec)

/-- 'breakwaterlaw02.DiskPlays', WHERE WHAT IT READS IS OF BULK AT MOST 1048576: true; the input reads as it did. -/
def diskPlaysUptoRow : OpenClaim := { program := "ytcflolcaiedmfaa", sum := "42761fa2a342bed3eae36caa1bd24478943d44c1d20d147cbeaba40b4cf646d5", func := "breakwater/breakwaterlaw02.DiskPlays", spec := "diskPlays", apart := false, narrowed := true }
def DiskPlaysUptoSaid : Prop := diskPlaysUptoRow.holds Try.pinned (OpenSpec.upto diskPlaysSpec)

end Rows
end Go.Proofs.Ytcflolcaiedmfaa
