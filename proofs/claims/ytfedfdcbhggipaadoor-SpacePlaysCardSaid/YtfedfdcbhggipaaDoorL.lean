/- What the row's listed variable gives the walks: the library's table lies where it lies. -/
import Derived.Test.YtfedfdcbhggipaaDoorRows
import Derived.Test.YtfedfdcbhggipaaDoorB
import Derived.ProofKit
import Derived.LaidMore
import Derived.Lib.LaidTab
import Derived.OpenShut
import Derived.Stop.Joined
namespace Go.Proofs.YtfedfdcbhggipaaDoor
set_option linter.unusedVariables false
open Go Go.Sp
open Go.ChangeShapes Go.WideShapes Go.ChangeAt Go.RowKit

def laidL : List (String × DataW Unit) := [("math/bits.deBruijn64tab", Rows.laid_math_bits_deBruijn64tab)]
theorem own : ownKnob Tryd.prog.godebug = none := by kernel_rfl
theorem laidOut : laidOutB Tryd.prog = true := by kernel_rfl
theorem gTab : Tryd.prog.globalNamed "math/bits.deBruijn64tab" = some 0 := by kernel_rfl
theorem tTab : (Tryd.prog.globals[0]?).map (·.type) = some 84 := by kernel_rfl
theorem cOf5 : Tryd.prog.cellsOf 5 = 1 := by kernel_rfl
theorem cOf84 : Tryd.prog.cellsOf 84 = 64 := by kernel_rfl
theorem datum : (Rows.laid_math_bits_deBruijn64tab : DataW Unit) = Lib.tabData .u8 (Lib.deBruijn64tab.map fun k : Nat => (k : Int)) := rfl
theorem door_met (os : Os) (args : Array Value) : laidMetH Tryd.prog laidL ((World.doorLaid Tryd.prog 400 os).forCall (fun _ _ => 0) ⟨#[], args, []⟩).memory :=
  laidMetH_of_parts3 (fuel := 8) (laidMet_of_run' 8 (by kernel_rfl) (by kernel_rfl)) (by kernel_rfl) (by kernel_rfl)
theorem of_laid {W : World} (h : laidMetH Tryd.prog laidL W) : Rd W 0 0 64 tabV := by
  rw [MakeChecks.laidMetH_plain _ _ _ (by kernel_rfl)] at h
  obtain ⟨ps, ⟨g0, t0, cs0, f0, p0, q0, hg0, ht0, hv0, hd0, _, _⟩, _, _⟩ := h
  obtain rfl := Option.some.inj (gTab.symm.trans hg0)
  obtain rfl := Option.some.inj (tTab.symm.trans ht0)
  rw [datum] at hd0
  have hcs := Lib.cells_of_tab Tryd.underlying84 Tryd.underlying5 cOf5 cOf84 hd0
  intro j hj
  have := World.var?_cell hg0 hv0 (0 + j)
  rw [this, Nat.zero_add, ← Array.getElem?_toList, hcs]
  simp only [List.map_map, List.getElem?_map]
  have hl : Lib.deBruijn64tab.length = 64 := by decide
  rw [List.getElem?_eq_getElem (by omega)]
  simp only [Option.map_some, Function.comp, tabV, List.getD_eq_getElem?_getD]
  rw [List.getElem?_eq_getElem (by omega)]
  rfl
end Go.Proofs.YtfedfdcbhggipaaDoor
