/- A slice without an address has no room. -/
import Derived.Test.YtdlnfdlgnbkppaaOpenF
namespace Go.Proofs.Ytdlnfdlgnbkppaa
set_option linter.unusedVariables false
open Go Go.Sp Go.RowKit Go.ChangeShapes Go.WideShapes Go.Joins Go.Deep
theorem open_nilcap {H : Type} {enc : TypeId × Value → H} {P : Program} {w : World} {base : Nat} {spare : Nat → Bool} {held : Bool} {t e : TypeId} {d : DataW H} {p : List MemPlace} {ao : Option Addr} {n c : Nat} (ht : P.underlying t = some (.slice e)) (h : DataW.Trod enc P w base spare held t (.slice ao n c) d p) (h0 : ao = none) : c = 0 := by
  obtain ⟨fuel, hf⟩ := h
  rcases DataW.trod_slice ht hf with ⟨hcs, _⟩ | ⟨a, len, cap, elems, rest, m, _, hcs, _⟩
  · simp [Value.cells] at hcs
    exact hcs.2.2
  · simp [Value.cells] at hcs
    rw [hcs.1] at h0
    cases h0
end Go.Proofs.Ytdlnfdlgnbkppaa
