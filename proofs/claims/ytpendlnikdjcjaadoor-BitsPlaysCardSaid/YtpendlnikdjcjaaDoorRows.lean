/-
  NARROWER THAN 'FOR EVERY INPUT', by the rows' own cells (each row's printed sentence says how): BitsSizes: laid · BitsFirst: laid · BitsCounts: laid · BitsFills: laid · BitsPlays: laid · BitsRefused: laid.
  DERIVED. THE GIVEN ROWS OF THIS SEAT. 6 by the template 'for every input the law returns true; each argument reads behind the call as it read before'; 0 by the template 'total and deterministic' (their statements: YtpendlnikdjcjaaDoorTotals.lean).
  GIVEN WITH THE SEED: the statements are not yours to turn. If you find one false, say at which input.
  Laid BY PROGRAM, IN A SANDBOX (cutbox-rows.mjs): the forced cells as the released guide's own fill.sh prints them over the translation e58002c68cfa3a1c… (all of the seat's roots in one cut). By AI agents, Wed Nov 11 2026. No macro, syntax, notation, axiom, sorry.
-/
import Derived.Test.YtpendlnikdjcjaaDoorChecked
import GoSem.Claim
import GoSem.ClaimJoined
import GoSem.ClaimMapViews
import Derived.JoinedTies
import Derived.KernelRfl
namespace Go.Proofs.YtpendlnikdjcjaaDoor
/- THE CELL 'sum', in the pinned program and in every row, IS THE sha256 OF THE DUMP (.gsa) THAT YtpendlnikdjcjaaDoorProg.lean LOADS. Nothing in Lean hashes anything: it is a label: what it is worth is what the hold of that sum in a sandbox is worth. -/
noncomputable def Tryd.pinned : Pinned := { name := "ytpendlnikdjcjaadoor", sum := "e58002c68cfa3a1c0eaeb776540081464c48a18d410fb8a36fc984c16d000d7a", checked := Tryd.checked }
namespace Rows
def none {H : Type} : Left H := { results := [], args := [] }

/- WHAT THE LISTED PACKAGE-LEVEL VARIABLES READ AS WHEN THE CALL BEGINS. Each datum BY PROGRAM (the guide's laid-datum.mjs) off the statement by which the dump's own 'gosem.cut.vars' lays the variable. In a bare row this is a premise. The card (YtpendlnikdjcjaaDoorCards.lean) ties it to the program's text. -/
def laid_math_bits_deBruijn64tab {H : Type} : DataW H := .agg [.lit (.int .u8 0), .lit (.int .u8 1), .lit (.int .u8 56), .lit (.int .u8 2), .lit (.int .u8 57), .lit (.int .u8 49), .lit (.int .u8 28), .lit (.int .u8 3), .lit (.int .u8 61), .lit (.int .u8 58), .lit (.int .u8 42), .lit (.int .u8 50), .lit (.int .u8 38), .lit (.int .u8 29), .lit (.int .u8 17), .lit (.int .u8 4), .lit (.int .u8 62), .lit (.int .u8 47), .lit (.int .u8 59), .lit (.int .u8 36), .lit (.int .u8 45), .lit (.int .u8 43), .lit (.int .u8 51), .lit (.int .u8 22), .lit (.int .u8 53), .lit (.int .u8 39), .lit (.int .u8 33), .lit (.int .u8 30), .lit (.int .u8 24), .lit (.int .u8 18), .lit (.int .u8 12), .lit (.int .u8 5), .lit (.int .u8 63), .lit (.int .u8 55), .lit (.int .u8 48), .lit (.int .u8 27), .lit (.int .u8 60), .lit (.int .u8 41), .lit (.int .u8 37), .lit (.int .u8 16), .lit (.int .u8 46), .lit (.int .u8 35), .lit (.int .u8 44), .lit (.int .u8 21), .lit (.int .u8 52), .lit (.int .u8 32), .lit (.int .u8 23), .lit (.int .u8 11), .lit (.int .u8 54), .lit (.int .u8 26), .lit (.int .u8 40), .lit (.int .u8 15), .lit (.int .u8 34), .lit (.int .u8 20), .lit (.int .u8 31), .lit (.int .u8 10), .lit (.int .u8 25), .lit (.int .u8 14), .lit (.int .u8 19), .lit (.int .u8 9), .lit (.int .u8 13), .lit (.int .u8 8), .lit (.int .u8 7), .lit (.int .u8 6)]

/-- 'breakwaterlaw05.BitsSizes': WHATEVER THE INPUT: true; the input reads as it did. -/
def bitsSizesSpec : ChangeSpec := { name := "bitsSizes", fn := fun _ => fun
  | [d] => { results := [.lit (.bool true)], args := [d] }
  | _ => none }
def bitsSizesRow : OpenClaim := { program := "ytpendlnikdjcjaadoor", sum := "e58002c68cfa3a1c0eaeb776540081464c48a18d410fb8a36fc984c16d000d7a", func := "breakwater/breakwaterlaw05.BitsSizes", spec := "bitsSizes", named := ["math/bits.deBruijn64tab"], apart := false, laid := [("math/bits.deBruijn64tab", laid_math_bits_deBruijn64tab)] }
def BitsSizesSaid : Prop := bitsSizesRow.holds Tryd.pinned (OpenSpec.ofChange bitsSizesSpec)

/-- ITS FALSE NEIGHBOUR: 'it returns false'. Refute it at one input. -/
def bitsSizesWrong : ChangeSpec := { name := "bitsSizes", fn := fun _ => fun
  | [d] => { results := [.lit (.bool false)], args := [d] }
  | _ => none }
def BitsSizesWrongFalsely : Prop := bitsSizesRow.holds Tryd.pinned (OpenSpec.ofChange bitsSizesWrong)

/-- 'breakwaterlaw05.BitsFirst': WHATEVER THE INPUT: true; the input reads as it did. -/
def bitsFirstSpec : ChangeSpec := { name := "bitsFirst", fn := fun _ => fun
  | [d] => { results := [.lit (.bool true)], args := [d] }
  | _ => none }
def bitsFirstRow : OpenClaim := { program := "ytpendlnikdjcjaadoor", sum := "e58002c68cfa3a1c0eaeb776540081464c48a18d410fb8a36fc984c16d000d7a", func := "breakwater/breakwaterlaw05.BitsFirst", spec := "bitsFirst", named := ["math/bits.deBruijn64tab"], apart := false, laid := [("math/bits.deBruijn64tab", laid_math_bits_deBruijn64tab)] }
def BitsFirstSaid : Prop := bitsFirstRow.holds Tryd.pinned (OpenSpec.ofChange bitsFirstSpec)

/-- ITS FALSE NEIGHBOUR: 'it returns false'. Refute it at one input. -/
def bitsFirstWrong : ChangeSpec := { name := "bitsFirst", fn := fun _ => fun
  | [d] => { results := [.lit (.bool false)], args := [d] }
  | _ => none }
def BitsFirstWrongFalsely : Prop := bitsFirstRow.holds Tryd.pinned (OpenSpec.ofChange bitsFirstWrong)

/-- 'breakwaterlaw05.BitsCounts': WHATEVER THE INPUT: true; the input reads as it did. -/
def bitsCountsSpec : ChangeSpec := { name := "bitsCounts", fn := fun _ => fun
  | [d1, d2, d3] => { results := [.lit (.bool true)], args := [d1, d2, d3] }
  | _ => none }
def bitsCountsRow : OpenClaim := { program := "ytpendlnikdjcjaadoor", sum := "e58002c68cfa3a1c0eaeb776540081464c48a18d410fb8a36fc984c16d000d7a", func := "breakwater/breakwaterlaw05.BitsCounts", spec := "bitsCounts", named := ["math/bits.deBruijn64tab"], apart := false, laid := [("math/bits.deBruijn64tab", laid_math_bits_deBruijn64tab)] }
def BitsCountsSaid : Prop := bitsCountsRow.holds Tryd.pinned (OpenSpec.ofChange bitsCountsSpec)

/-- ITS FALSE NEIGHBOUR: 'it returns false'. Refute it at one input. -/
def bitsCountsWrong : ChangeSpec := { name := "bitsCounts", fn := fun _ => fun
  | [d1, d2, d3] => { results := [.lit (.bool false)], args := [d1, d2, d3] }
  | _ => none }
def BitsCountsWrongFalsely : Prop := bitsCountsRow.holds Tryd.pinned (OpenSpec.ofChange bitsCountsWrong)

/-- 'breakwaterlaw05.BitsFills': WHATEVER THE INPUT: true; the input reads as it did. -/
def bitsFillsSpec : ChangeSpec := { name := "bitsFills", fn := fun _ => fun
  | [d1, d2, d3] => { results := [.lit (.bool true)], args := [d1, d2, d3] }
  | _ => none }
def bitsFillsRow : OpenClaim := { program := "ytpendlnikdjcjaadoor", sum := "e58002c68cfa3a1c0eaeb776540081464c48a18d410fb8a36fc984c16d000d7a", func := "breakwater/breakwaterlaw05.BitsFills", spec := "bitsFills", named := ["math/bits.deBruijn64tab"], apart := false, laid := [("math/bits.deBruijn64tab", laid_math_bits_deBruijn64tab)] }
def BitsFillsSaid : Prop := bitsFillsRow.holds Tryd.pinned (OpenSpec.ofChange bitsFillsSpec)

/-- ITS FALSE NEIGHBOUR: 'it returns false'. Refute it at one input. -/
def bitsFillsWrong : ChangeSpec := { name := "bitsFills", fn := fun _ => fun
  | [d1, d2, d3] => { results := [.lit (.bool false)], args := [d1, d2, d3] }
  | _ => none }
def BitsFillsWrongFalsely : Prop := bitsFillsRow.holds Tryd.pinned (OpenSpec.ofChange bitsFillsWrong)

/-- 'breakwaterlaw05.BitsPlays': WHATEVER THE INPUT: true; the input reads as it did. -/
def bitsPlaysSpec : ChangeSpec := { name := "bitsPlays", fn := fun _ => fun
  | [d1, d2, d3] => { results := [.lit (.bool true)], args := [d1, d2, d3] }
  | _ => none }
def bitsPlaysRow : OpenClaim := { program := "ytpendlnikdjcjaadoor", sum := "e58002c68cfa3a1c0eaeb776540081464c48a18d410fb8a36fc984c16d000d7a", func := "breakwater/breakwaterlaw05.BitsPlays", spec := "bitsPlays", named := ["math/bits.deBruijn64tab"], apart := false, laid := [("math/bits.deBruijn64tab", laid_math_bits_deBruijn64tab)] }
def BitsPlaysSaid : Prop := bitsPlaysRow.holds Tryd.pinned (OpenSpec.ofChange bitsPlaysSpec)

/-- ITS FALSE NEIGHBOUR: 'it returns false'. Refute it at one input. -/
def bitsPlaysWrong : ChangeSpec := { name := "bitsPlays", fn := fun _ => fun
  | [d1, d2, d3] => { results := [.lit (.bool false)], args := [d1, d2, d3] }
  | _ => none }
def BitsPlaysWrongFalsely : Prop := bitsPlaysRow.holds Tryd.pinned (OpenSpec.ofChange bitsPlaysWrong)

/-- 'breakwaterlaw05.BitsRefused': WHATEVER THE INPUT: true; the input reads as it did. -/
def bitsRefusedSpec : ChangeSpec := { name := "bitsRefused", fn := fun _ => fun
  | [d1, d2, d3] => { results := [.lit (.bool true)], args := [d1, d2, d3] }
  | _ => none }
def bitsRefusedRow : OpenClaim := { program := "ytpendlnikdjcjaadoor", sum := "e58002c68cfa3a1c0eaeb776540081464c48a18d410fb8a36fc984c16d000d7a", func := "breakwater/breakwaterlaw05.BitsRefused", spec := "bitsRefused", named := ["math/bits.deBruijn64tab"], apart := false, laid := [("math/bits.deBruijn64tab", laid_math_bits_deBruijn64tab)] }
def BitsRefusedSaid : Prop := bitsRefusedRow.holds Tryd.pinned (OpenSpec.ofChange bitsRefusedSpec)

/-- ITS FALSE NEIGHBOUR: 'it returns false'. Refute it at one input. -/
def bitsRefusedWrong : ChangeSpec := { name := "bitsRefused", fn := fun _ => fun
  | [d1, d2, d3] => { results := [.lit (.bool false)], args := [d1, d2, d3] }
  | _ => none }
def BitsRefusedWrongFalsely : Prop := bitsRefusedRow.holds Tryd.pinned (OpenSpec.ofChange bitsRefusedWrong)

/- THE SECOND FORM. 'bulk': how many values and letters a reading holds, each counted each time it is reached (what is shared counts as often as it is met; a slice's spare places count too). A statement '..UptoSaid' is the law's where the arguments, and the package variables that the reading takes, are together of bulk at most 1048576: NARROWER than '..Said'. Prove '..Said' where nothing that the law and all that it calls make is longer than what came in: it says more and counts as full. Else prove '..UptoSaid'. A law counts once. -/
mutual
def uptoBulk {H : Type} : DataW H → Nat
  | .lit (.string bytes) => bytes.length + 1
  | .lit _ => 1
  | .nil => 1
  | .ptr d => uptoBulk d + 1
  | .slice elems spare => uptoBulkAll elems + uptoBulkAll spare + 1
  | .agg parts => uptoBulkAll parts + 1
  | .iface _ d => uptoBulk d + 1
  | .map entries => uptoBulkEntries entries + 1
  | .held _ => 1
def uptoBulkAll {H : Type} : List (DataW H) → Nat
  | [] => 0
  | d :: r => uptoBulk d + uptoBulkAll r
def uptoBulkEntries {H : Type} : List (Lit × DataW H) → Nat
  | [] => 0
  | x :: r => uptoBulkEntry x + uptoBulkEntries r
def uptoBulkEntry {H : Type} : Lit × DataW H → Nat
  | (.string bytes, d) => bytes.length + uptoBulk d + 1
  | (_, d) => uptoBulk d + 1
 end
def uptoSmall : (H : Type) → List (DataW H) → Bool := fun _ ds => decide (uptoBulkAll ds ≤ 1048576)
def OpenSpec.upto (s : _root_.Go.ChangeSpec) : _root_.Go.OpenSpec := { _root_.Go.OpenSpec.ofChange s with cond := some uptoSmall }

/-- 'breakwaterlaw05.BitsSizes', WHERE WHAT IT READS IS OF BULK AT MOST 1048576: true; the input reads as it did. -/
def bitsSizesUptoRow : OpenClaim := { program := "ytpendlnikdjcjaadoor", sum := "e58002c68cfa3a1c0eaeb776540081464c48a18d410fb8a36fc984c16d000d7a", func := "breakwater/breakwaterlaw05.BitsSizes", spec := "bitsSizes", named := ["math/bits.deBruijn64tab"], apart := false, laid := [("math/bits.deBruijn64tab", laid_math_bits_deBruijn64tab)], narrowed := true }
def BitsSizesUptoSaid : Prop := bitsSizesUptoRow.holds Tryd.pinned (OpenSpec.upto bitsSizesSpec)

/-- 'breakwaterlaw05.BitsFirst', WHERE WHAT IT READS IS OF BULK AT MOST 1048576: true; the input reads as it did. -/
def bitsFirstUptoRow : OpenClaim := { program := "ytpendlnikdjcjaadoor", sum := "e58002c68cfa3a1c0eaeb776540081464c48a18d410fb8a36fc984c16d000d7a", func := "breakwater/breakwaterlaw05.BitsFirst", spec := "bitsFirst", named := ["math/bits.deBruijn64tab"], apart := false, laid := [("math/bits.deBruijn64tab", laid_math_bits_deBruijn64tab)], narrowed := true }
def BitsFirstUptoSaid : Prop := bitsFirstUptoRow.holds Tryd.pinned (OpenSpec.upto bitsFirstSpec)

/-- 'breakwaterlaw05.BitsCounts', WHERE WHAT IT READS IS OF BULK AT MOST 1048576: true; the input reads as it did. -/
def bitsCountsUptoRow : OpenClaim := { program := "ytpendlnikdjcjaadoor", sum := "e58002c68cfa3a1c0eaeb776540081464c48a18d410fb8a36fc984c16d000d7a", func := "breakwater/breakwaterlaw05.BitsCounts", spec := "bitsCounts", named := ["math/bits.deBruijn64tab"], apart := false, laid := [("math/bits.deBruijn64tab", laid_math_bits_deBruijn64tab)], narrowed := true }
def BitsCountsUptoSaid : Prop := bitsCountsUptoRow.holds Tryd.pinned (OpenSpec.upto bitsCountsSpec)

/-- 'breakwaterlaw05.BitsFills', WHERE WHAT IT READS IS OF BULK AT MOST 1048576: true; the input reads as it did. -/
def bitsFillsUptoRow : OpenClaim := { program := "ytpendlnikdjcjaadoor", sum := "e58002c68cfa3a1c0eaeb776540081464c48a18d410fb8a36fc984c16d000d7a", func := "breakwater/breakwaterlaw05.BitsFills", spec := "bitsFills", named := ["math/bits.deBruijn64tab"], apart := false, laid := [("math/bits.deBruijn64tab", laid_math_bits_deBruijn64tab)], narrowed := true }
def BitsFillsUptoSaid : Prop := bitsFillsUptoRow.holds Tryd.pinned (OpenSpec.upto bitsFillsSpec)

/-- 'breakwaterlaw05.BitsPlays', WHERE WHAT IT READS IS OF BULK AT MOST 1048576: true; the input reads as it did. -/
def bitsPlaysUptoRow : OpenClaim := { program := "ytpendlnikdjcjaadoor", sum := "e58002c68cfa3a1c0eaeb776540081464c48a18d410fb8a36fc984c16d000d7a", func := "breakwater/breakwaterlaw05.BitsPlays", spec := "bitsPlays", named := ["math/bits.deBruijn64tab"], apart := false, laid := [("math/bits.deBruijn64tab", laid_math_bits_deBruijn64tab)], narrowed := true }
def BitsPlaysUptoSaid : Prop := bitsPlaysUptoRow.holds Tryd.pinned (OpenSpec.upto bitsPlaysSpec)

/-- 'breakwaterlaw05.BitsRefused', WHERE WHAT IT READS IS OF BULK AT MOST 1048576: true; the input reads as it did. -/
def bitsRefusedUptoRow : OpenClaim := { program := "ytpendlnikdjcjaadoor", sum := "e58002c68cfa3a1c0eaeb776540081464c48a18d410fb8a36fc984c16d000d7a", func := "breakwater/breakwaterlaw05.BitsRefused", spec := "bitsRefused", named := ["math/bits.deBruijn64tab"], apart := false, laid := [("math/bits.deBruijn64tab", laid_math_bits_deBruijn64tab)], narrowed := true }
def BitsRefusedUptoSaid : Prop := bitsRefusedUptoRow.holds Tryd.pinned (OpenSpec.upto bitsRefusedSpec)

end Rows
end Go.Proofs.YtpendlnikdjcjaaDoor
