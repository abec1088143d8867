/-
  No cell of these rows narrows 'for every input' (looked for: loops, veiled, ifaces, maps, wideKeys, modest, calm, conditions, laid).
  DERIVED. THE GIVEN ROWS OF THIS SEAT. 9 by the template 'for every input the law returns true; each argument reads behind the call as it read before'; 0 by the template 'total and deterministic' (their statements: YtdlnfdlgnbkppaaTotals.lean).
  GIVEN WITH THE SEED: the statements are not yours to turn. If you find one false, say at which input.
  Laid BY PROGRAM, IN A SANDBOX (cutbox-rows.mjs): the forced cells as the released guide's own fill.sh prints them over the translation b1da485b11b05ce4… (all of the seat's roots in one cut). By AI agents, Wed Nov 11 2026. No macro, syntax, notation, axiom, sorry.
-/
import Derived.Test.YtdlnfdlgnbkppaaChecked
import GoSem.Claim
import GoSem.ClaimJoined
import GoSem.ClaimMapViews
import Derived.JoinedTies
import Derived.KernelRfl
namespace Go.Proofs.Ytdlnfdlgnbkppaa
/- THE CELL 'sum', in the pinned program and in every row, IS THE sha256 OF THE DUMP (.gsa) THAT YtdlnfdlgnbkppaaProg.lean LOADS. Nothing in Lean hashes anything: it is a label: what it is worth is what the hold of that sum in a sandbox is worth. -/
noncomputable def Try.pinned : Pinned := { name := "ytdlnfdlgnbkppaa", sum := "b1da485b11b05ce421cc539c45b54a5a1addf924558d6ea38f526dc5e7a3a9b0", checked := Try.checked }
namespace Rows
def none {H : Type} : Left H := { results := [], args := [] }

/-- 'breakwaterlaw09.BlocksWays': WHATEVER THE INPUT: true; the input reads as it did. -/
def blocksWaysSpec : ChangeSpec := { name := "blocksWays", fn := fun _ => fun
  | [d1, d2] => { results := [.lit (.bool true)], args := [d1, d2] }
  | _ => none }
def blocksWaysRow : OpenClaim := { program := "ytdlnfdlgnbkppaa", sum := "b1da485b11b05ce421cc539c45b54a5a1addf924558d6ea38f526dc5e7a3a9b0", func := "breakwater/breakwaterlaw09.BlocksWays", spec := "blocksWays", unfollowed := true, recurses := true, plainKeys := false, apart := false }
def BlocksWaysSaid : Prop := blocksWaysRow.holds Try.pinned (OpenSpec.ofChange blocksWaysSpec)

/-- ITS FALSE NEIGHBOUR: 'it returns false'. Refute it at one input. -/
def blocksWaysWrong : ChangeSpec := { name := "blocksWays", fn := fun _ => fun
  | [d1, d2] => { results := [.lit (.bool false)], args := [d1, d2] }
  | _ => none }
def BlocksWaysWrongFalsely : Prop := blocksWaysRow.holds Try.pinned (OpenSpec.ofChange blocksWaysWrong)

/-- 'breakwaterlaw09.BlocksFinds': WHATEVER THE INPUT: true; the input reads as it did. -/
def blocksFindsSpec : ChangeSpec := { name := "blocksFinds", fn := fun _ => fun
  | [d1, d2] => { results := [.lit (.bool true)], args := [d1, d2] }
  | _ => none }
def blocksFindsRow : OpenClaim := { program := "ytdlnfdlgnbkppaa", sum := "b1da485b11b05ce421cc539c45b54a5a1addf924558d6ea38f526dc5e7a3a9b0", func := "breakwater/breakwaterlaw09.BlocksFinds", spec := "blocksFinds", unfollowed := true, recurses := true, plainKeys := false, apart := false }
def BlocksFindsSaid : Prop := blocksFindsRow.holds Try.pinned (OpenSpec.ofChange blocksFindsSpec)

/-- ITS FALSE NEIGHBOUR: 'it returns false'. Refute it at one input. -/
def blocksFindsWrong : ChangeSpec := { name := "blocksFinds", fn := fun _ => fun
  | [d1, d2] => { results := [.lit (.bool false)], args := [d1, d2] }
  | _ => none }
def BlocksFindsWrongFalsely : Prop := blocksFindsRow.holds Try.pinned (OpenSpec.ofChange blocksFindsWrong)

/-- 'breakwaterlaw09.BlocksSpots': WHATEVER THE INPUT: true; the input reads as it did. -/
def blocksSpotsSpec : ChangeSpec := { name := "blocksSpots", fn := fun _ => fun
  | [d] => { results := [.lit (.bool true)], args := [d] }
  | _ => none }
def blocksSpotsRow : OpenClaim := { program := "ytdlnfdlgnbkppaa", sum := "b1da485b11b05ce421cc539c45b54a5a1addf924558d6ea38f526dc5e7a3a9b0", func := "breakwater/breakwaterlaw09.BlocksSpots", spec := "blocksSpots", unfollowed := true, recurses := true, plainKeys := false, apart := false }
def BlocksSpotsSaid : Prop := blocksSpotsRow.holds Try.pinned (OpenSpec.ofChange blocksSpotsSpec)

/-- ITS FALSE NEIGHBOUR: 'it returns false'. Refute it at one input. -/
def blocksSpotsWrong : ChangeSpec := { name := "blocksSpots", fn := fun _ => fun
  | [d] => { results := [.lit (.bool false)], args := [d] }
  | _ => none }
def BlocksSpotsWrongFalsely : Prop := blocksSpotsRow.holds Try.pinned (OpenSpec.ofChange blocksSpotsWrong)

/-- 'breakwaterlaw09.BlocksNeeds': WHATEVER THE INPUT: true; the input reads as it did. -/
def blocksNeedsSpec : ChangeSpec := { name := "blocksNeeds", fn := fun _ => fun
  | [d1, d2, d3] => { results := [.lit (.bool true)], args := [d1, d2, d3] }
  | _ => none }
def blocksNeedsRow : OpenClaim := { program := "ytdlnfdlgnbkppaa", sum := "b1da485b11b05ce421cc539c45b54a5a1addf924558d6ea38f526dc5e7a3a9b0", func := "breakwater/breakwaterlaw09.BlocksNeeds", spec := "blocksNeeds", unfollowed := true, recurses := true, plainKeys := false, apart := false }
def BlocksNeedsSaid : Prop := blocksNeedsRow.holds Try.pinned (OpenSpec.ofChange blocksNeedsSpec)

/-- ITS FALSE NEIGHBOUR: 'it returns false'. Refute it at one input. -/
def blocksNeedsWrong : ChangeSpec := { name := "blocksNeeds", fn := fun _ => fun
  | [d1, d2, d3] => { results := [.lit (.bool false)], args := [d1, d2, d3] }
  | _ => none }
def BlocksNeedsWrongFalsely : Prop := blocksNeedsRow.holds Try.pinned (OpenSpec.ofChange blocksNeedsWrong)

/-- 'breakwaterlaw09.BlocksOwns': WHATEVER THE INPUT: true; the input reads as it did. -/
def blocksOwnsSpec : ChangeSpec := { name := "blocksOwns", fn := fun _ => fun
  | [d1, d2] => { results := [.lit (.bool true)], args := [d1, d2] }
  | _ => none }
def blocksOwnsRow : OpenClaim := { program := "ytdlnfdlgnbkppaa", sum := "b1da485b11b05ce421cc539c45b54a5a1addf924558d6ea38f526dc5e7a3a9b0", func := "breakwater/breakwaterlaw09.BlocksOwns", spec := "blocksOwns", unfollowed := true, recurses := true, plainKeys := false, apart := false }
def BlocksOwnsSaid : Prop := blocksOwnsRow.holds Try.pinned (OpenSpec.ofChange blocksOwnsSpec)

/-- ITS FALSE NEIGHBOUR: 'it returns false'. Refute it at one input. -/
def blocksOwnsWrong : ChangeSpec := { name := "blocksOwns", fn := fun _ => fun
  | [d1, d2] => { results := [.lit (.bool false)], args := [d1, d2] }
  | _ => none }
def BlocksOwnsWrongFalsely : Prop := blocksOwnsRow.holds Try.pinned (OpenSpec.ofChange blocksOwnsWrong)

/-- 'breakwaterlaw09.BlocksNothing': WHATEVER THE INPUT: true; the input reads as it did. -/
def blocksNothingSpec : ChangeSpec := { name := "blocksNothing", fn := fun _ => fun
  | [d1, d2] => { results := [.lit (.bool true)], args := [d1, d2] }
  | _ => none }
def blocksNothingRow : OpenClaim := { program := "ytdlnfdlgnbkppaa", sum := "b1da485b11b05ce421cc539c45b54a5a1addf924558d6ea38f526dc5e7a3a9b0", func := "breakwater/breakwaterlaw09.BlocksNothing", spec := "blocksNothing", unfollowed := true, recurses := true, plainKeys := false, apart := false }
def BlocksNothingSaid : Prop := blocksNothingRow.holds Try.pinned (OpenSpec.ofChange blocksNothingSpec)

/-- ITS FALSE NEIGHBOUR: 'it returns false'. Refute it at one input. -/
def blocksNothingWrong : ChangeSpec := { name := "blocksNothing", fn := fun _ => fun
  | [d1, d2] => { results := [.lit (.bool false)], args := [d1, d2] }
  | _ => none }
def BlocksNothingWrongFalsely : Prop := blocksNothingRow.holds Try.pinned (OpenSpec.ofChange blocksNothingWrong)

/-- 'breakwaterlaw09.BlocksAll': WHATEVER THE INPUT: true; the input reads as it did. -/
def blocksAllSpec : ChangeSpec := { name := "blocksAll", fn := fun _ => fun
  | [d] => { results := [.lit (.bool true)], args := [d] }
  | _ => none }
def blocksAllRow : OpenClaim := { program := "ytdlnfdlgnbkppaa", sum := "b1da485b11b05ce421cc539c45b54a5a1addf924558d6ea38f526dc5e7a3a9b0", func := "breakwater/breakwaterlaw09.BlocksAll", spec := "blocksAll", unfollowed := true, recurses := true, plainKeys := false, apart := false }
def BlocksAllSaid : Prop := blocksAllRow.holds Try.pinned (OpenSpec.ofChange blocksAllSpec)

/-- ITS FALSE NEIGHBOUR: 'it returns false'. Refute it at one input. -/
def blocksAllWrong : ChangeSpec := { name := "blocksAll", fn := fun _ => fun
  | [d] => { results := [.lit (.bool false)], args := [d] }
  | _ => none }
def BlocksAllWrongFalsely : Prop := blocksAllRow.holds Try.pinned (OpenSpec.ofChange blocksAllWrong)

/-- 'breakwaterlaw09.BlocksAgree': WHATEVER THE INPUT: true; the input reads as it did. -/
def blocksAgreeSpec : ChangeSpec := { name := "blocksAgree", fn := fun _ => fun
  | [d] => { results := [.lit (.bool true)], args := [d] }
  | _ => none }
def blocksAgreeRow : OpenClaim := { program := "ytdlnfdlgnbkppaa", sum := "b1da485b11b05ce421cc539c45b54a5a1addf924558d6ea38f526dc5e7a3a9b0", func := "breakwater/breakwaterlaw09.BlocksAgree", spec := "blocksAgree", unfollowed := true, recurses := true, plainKeys := false, apart := false }
def BlocksAgreeSaid : Prop := blocksAgreeRow.holds Try.pinned (OpenSpec.ofChange blocksAgreeSpec)

/-- ITS FALSE NEIGHBOUR: 'it returns false'. Refute it at one input. -/
def blocksAgreeWrong : ChangeSpec := { name := "blocksAgree", fn := fun _ => fun
  | [d] => { results := [.lit (.bool false)], args := [d] }
  | _ => none }
def BlocksAgreeWrongFalsely : Prop := blocksAgreeRow.holds Try.pinned (OpenSpec.ofChange blocksAgreeWrong)

/-- 'breakwaterlaw09.BlocksAdds': WHATEVER THE INPUT: true; the input reads as it did. -/
def blocksAddsSpec : ChangeSpec := { name := "blocksAdds", fn := fun _ => fun
  | [d1, d2, d3] => { results := [.lit (.bool true)], args := [d1, d2, d3] }
  | _ => none }
def blocksAddsRow : OpenClaim := { program := "ytdlnfdlgnbkppaa", sum := "b1da485b11b05ce421cc539c45b54a5a1addf924558d6ea38f526dc5e7a3a9b0", func := "breakwater/breakwaterlaw09.BlocksAdds", spec := "blocksAdds", unfollowed := true, recurses := true, plainKeys := false, apart := false }
def BlocksAddsSaid : Prop := blocksAddsRow.holds Try.pinned (OpenSpec.ofChange blocksAddsSpec)

/-- ITS FALSE NEIGHBOUR: 'it returns false'. Refute it at one input. -/
def blocksAddsWrong : ChangeSpec := { name := "blocksAdds", fn := fun _ => fun
  | [d1, d2, d3] => { results := [.lit (.bool false)], args := [d1, d2, d3] }
  | _ => none }
def BlocksAddsWrongFalsely : Prop := blocksAddsRow.holds Try.pinned (OpenSpec.ofChange blocksAddsWrong)

/- THE SECOND FORM. 'bulk': how many values and letters a reading holds, each counted each time it is reached (what is shared counts as often as it is met; a slice's spare places count too). A statement '..UptoSaid' is the law's where the arguments, and the package variables that the reading takes, are together of bulk at most 1048576: NARROWER than '..Said'. Prove '..Said' where nothing that the law and all that it calls make is longer than what came in: it says more and counts as full. Else prove '..UptoSaid'. A law counts once. -/
mutual
def uptoBulk {H : Type} : DataW H → Nat
  | .lit (.string bytes) => bytes.length + 1
  | .lit _ => 1
  | .nil => 1
  | .ptr d => uptoBulk d + 1
  | .slice elems spare => uptoBulkAll elems + uptoBulkAll spare + 1
  | .agg parts => uptoBulkAll parts + 1
  | .iface _ d => uptoBulk d + 1
  | .map entries => uptoBulkEntries entries + 1
  | .held _ => 1
def uptoBulkAll {H : Type} : List (DataW H) → Nat
  | [] => 0
  | d :: r => uptoBulk d + uptoBulkAll r
def uptoBulkEntries {H : Type} : List (Lit × DataW H) → Nat
  | [] => 0
  | x :: r => uptoBulkEntry x + uptoBulkEntries r
def uptoBulkEntry {H : Type} : Lit × DataW H → Nat
  | (.string bytes, d) => bytes.length + uptoBulk d + 1
  | (_, d) => uptoBulk d + 1
 end
def uptoSmall : (H : Type) → List (DataW H) → Bool := fun _ ds => decide (uptoBulkAll ds ≤ 1048576)
def OpenSpec.upto (s : _root_.Go.ChangeSpec) : _root_.Go.OpenSpec := { _root_.Go.OpenSpec.ofChange s with cond := some uptoSmall }

/-- 'breakwaterlaw09.BlocksWays', WHERE WHAT IT READS IS OF BULK AT MOST 1048576: true; the input reads as it did. -/
def blocksWaysUptoRow : OpenClaim := { program := "ytdlnfdlgnbkppaa", sum := "b1da485b11b05ce421cc539c45b54a5a1addf924558d6ea38f526dc5e7a3a9b0", func := "breakwater/breakwaterlaw09.BlocksWays", spec := "blocksWays", unfollowed := true, recurses := true, plainKeys := false, apart := false, narrowed := true }
def BlocksWaysUptoSaid : Prop := blocksWaysUptoRow.holds Try.pinned (OpenSpec.upto blocksWaysSpec)

/-- 'breakwaterlaw09.BlocksFinds', WHERE WHAT IT READS IS OF BULK AT MOST 1048576: true; the input reads as it did. -/
def blocksFindsUptoRow : OpenClaim := { program := "ytdlnfdlgnbkppaa", sum := "b1da485b11b05ce421cc539c45b54a5a1addf924558d6ea38f526dc5e7a3a9b0", func := "breakwater/breakwaterlaw09.BlocksFinds", spec := "blocksFinds", unfollowed := true, recurses := true, plainKeys := false, apart := false, narrowed := true }
def BlocksFindsUptoSaid : Prop := blocksFindsUptoRow.holds Try.pinned (OpenSpec.upto blocksFindsSpec)

/-- 'breakwaterlaw09.BlocksSpots', WHERE WHAT IT READS IS OF BULK AT MOST 1048576: true; the input reads as it did. -/
def blocksSpotsUptoRow : OpenClaim := { program := "ytdlnfdlgnbkppaa", sum := "b1da485b11b05ce421cc539c45b54a5a1addf924558d6ea38f526dc5e7a3a9b0", func := "breakwater/breakwaterlaw09.BlocksSpots", spec := "blocksSpots", unfollowed := true, recurses := true, plainKeys := false, apart := false, narrowed := true }
def BlocksSpotsUptoSaid : Prop := blocksSpotsUptoRow.holds Try.pinned (OpenSpec.upto blocksSpotsSpec)

/-- 'breakwaterlaw09.BlocksNeeds', WHERE WHAT IT READS IS OF BULK AT MOST 1048576: true; the input reads as it did. -/
def blocksNeedsUptoRow : OpenClaim := { program := "ytdlnfdlgnbkppaa", sum := "b1da485b11b05ce421cc539c45b54a5a1addf924558d6ea38f526dc5e7a3a9b0", func := "breakwater/breakwaterlaw09.BlocksNeeds", spec := "blocksNeeds", unfollowed := true, recurses := true, plainKeys := false, apart := false, narrowed := true }
def BlocksNeedsUptoSaid : Prop := blocksNeedsUptoRow.holds Try.pinned (OpenSpec.upto blocksNeedsSpec)

/-- 'breakwaterlaw09.BlocksOwns', WHERE WHAT IT READS IS OF BULK AT MOST 1048576: true; the input reads as it did. -/
def blocksOwnsUptoRow : OpenClaim := { program := "ytdlnfdlgnbkppaa", sum := "b1da485b11b05ce421cc539c45b54a5a1addf924558d6ea38f526dc5e7a3a9b0", func := "breakwater/breakwaterlaw09.BlocksOwns", spec := "blocksOwns", unfollowed := true, recurses := true, plainKeys := false, apart := false, narrowed := true }
def BlocksOwnsUptoSaid : Prop := blocksOwnsUptoRow.holds Try.pinned (OpenSpec.upto blocksOwnsSpec)

/-- 'breakwaterlaw09.BlocksNothing', WHERE WHAT IT READS IS OF BULK AT MOST 1048576: true; the input reads as it did. -/
def blocksNothingUptoRow : OpenClaim := { program := "ytdlnfdlgnbkppaa", sum := "b1da485b11b05ce421cc539c45b54a5a1addf924558d6ea38f526dc5e7a3a9b0", func := "breakwater/breakwaterlaw09.BlocksNothing", spec := "blocksNothing", unfollowed := true, recurses := true, plainKeys := false, apart := false, narrowed := true }
def BlocksNothingUptoSaid : Prop := blocksNothingUptoRow.holds Try.pinned (OpenSpec.upto blocksNothingSpec)

/-- 'breakwaterlaw09.BlocksAll', WHERE WHAT IT READS IS OF BULK AT MOST 1048576: true; the input reads as it did. -/
def blocksAllUptoRow : OpenClaim := { program := "ytdlnfdlgnbkppaa", sum := "b1da485b11b05ce421cc539c45b54a5a1addf924558d6ea38f526dc5e7a3a9b0", func := "breakwater/breakwaterlaw09.BlocksAll", spec := "blocksAll", unfollowed := true, recurses := true, plainKeys := false, apart := false, narrowed := true }
def BlocksAllUptoSaid : Prop := blocksAllUptoRow.holds Try.pinned (OpenSpec.upto blocksAllSpec)

/-- 'breakwaterlaw09.BlocksAgree', WHERE WHAT IT READS IS OF BULK AT MOST 1048576: true; the input reads as it did. -/
def blocksAgreeUptoRow : OpenClaim := { program := "ytdlnfdlgnbkppaa", sum := "b1da485b11b05ce421cc539c45b54a5a1addf924558d6ea38f526dc5e7a3a9b0", func := "breakwater/breakwaterlaw09.BlocksAgree", spec := "blocksAgree", unfollowed := true, recurses := true, plainKeys := false, apart := false, narrowed := true }
def BlocksAgreeUptoSaid : Prop := blocksAgreeUptoRow.holds Try.pinned (OpenSpec.upto blocksAgreeSpec)

/-- 'breakwaterlaw09.BlocksAdds', WHERE WHAT IT READS IS OF BULK AT MOST 1048576: true; the input reads as it did. -/
def blocksAddsUptoRow : OpenClaim := { program := "ytdlnfdlgnbkppaa", sum := "b1da485b11b05ce421cc539c45b54a5a1addf924558d6ea38f526dc5e7a3a9b0", func := "breakwater/breakwaterlaw09.BlocksAdds", spec := "blocksAdds", unfollowed := true, recurses := true, plainKeys := false, apart := false, narrowed := true }
def BlocksAddsUptoSaid : Prop := blocksAddsUptoRow.holds Try.pinned (OpenSpec.upto blocksAddsSpec)

end Rows
end Go.Proofs.Ytdlnfdlgnbkppaa
