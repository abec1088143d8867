/- A struct of a struct of two numbers, and of two lists, opened. -/
import Derived.Test.YtfedfdcbhggipaaDoorOpen5
import Derived.Test.YtfedfdcbhggipaaDoorOpen4
import Derived.Test.YtfedfdcbhggipaaDoorOpen2
set_option linter.unusedVariables false
namespace Go.Sp
open Go Go.ChangeShapes Go.WideShapes Go.Joins Go.Deep

section
variable {H : Type} {enc : TypeId × Value → H} {P : Program} {w : World} {base : Nat} {spare : Nat → Bool} {held : Bool} {fuel : Nat} {t : TypeId}
theorem open_begin {e : TypeId} {f0 f1 f2 g0 g1 : Field} {r : Reach} {b0 : Nat} {v : Value} {d : DataW H} {p : List MemPlace} (hs : P.underlying t = some (.struct #[f0, f1, f2])) (ho : f0.offset = 0 ∧ f1.offset = 2 ∧ f2.offset = 3) (hC : P.cellsOf t = 4)
    (hn0 : P.cellsOf f0.type = 2) (hn1 : P.cellsOf f1.type = 1) (hn2 : P.cellsOf f2.type = 1)
    (h0 : P.underlying f0.type = some (.struct #[g0, g1])) (hone : oneCellFields P #[g0, g1] = true) (hg0 : P.underlying g0.type = some (.int .i64)) (hg1 : P.underlying g1.type = some (.int .i64)) (h1 : P.underlying f1.type = some (.slice e)) (h2 : P.underlying f2.type = some (.slice e)) (he : P.underlying e = some (.int .i64)) (hce : P.cellsOf e = 1) (hb : P.bytesOf e = 8)
    (hv : Value.okWide P w r b0 t v) (h : DataW.Trod enc P w base spare held t v d p) (hw : Wts P t d) :
    ∃ (X0 X1 : Int) (N1 c1 N2 c2 db1 do1 db2 do2 : Nat) (ao1 ao2 : Option Addr) (G1 G2 : Nat → Int), v = .agg #[.int .i64 X0, .int .i64 X1, .slice ao1 N1 c1, .slice ao2 N2 c2] ∧ N1 * 8 ≤ 140737488351232 ∧ N2 * 8 ≤ 140737488351232 ∧ Ints w (.slice ao1 N1 c1) ao1 N1 c1 db1 do1 G1 ∧ Ints w (.slice ao2 N2 c2) ao2 N2 c2 db2 do2 G2 := by
  obtain ⟨cs, fuel, rfl, hl, hf⟩ := open_struct hs hv h
  obtain ⟨c0, c1, c2, c3, hcs⟩ := list4 (hl.trans hC)
  rw [hcs] at hf
  obtain ⟨y0, m0, hy0, _⟩ := open_fieldW hs hf 0 rfl ho.1 hn0
  obtain ⟨y1, m1, hy1, hW1⟩ := open_fieldW hs hf 1 rfl ho.2.1 hn1
  obtain ⟨y2, m2, hy2, hW2⟩ := open_fieldW hs hf 2 rfl ho.2.2 hn2
  obtain ⟨a, rfl, ha⟩ := field_int (cs := [c0, c1]) h0 hone hy0 0 rfl rfl hg0
  obtain ⟨b, rfl, hb'⟩ := field_int (cs := [_, c1]) h0 hone hy0 1 rfl rfl hg1
  obtain ⟨ao1, N1, k1, db1, do1, G1, rfl, hle1, hmx1, hao1, hrd1, hwf1, hd1⟩ := open_intsC (v := c2) h1 he hce hy1
  obtain ⟨ao2, N2, k2, db2, do2, G2, rfl, hle2, hmx2, hao2, hrd2, hwf2, hd2⟩ := open_intsC (v := c3) h2 he hce hy2
  have len : ∀ {f : Field} {y : DataW H × List MemPlace} {n : Nat}, P.underlying f.type = some (.slice e) → Wts P f.type y.1 → ((y.1 = .nil ∧ n = 0) ∨ ∃ elems sp, y.1 = .slice elems sp ∧ elems.length = n) → n * 8 ≤ 140737488351232 := by
    intro f y n hu hW hd
    rcases hd with ⟨_, rfl⟩ | ⟨el, sp, e1, rfl⟩
    · omega
    · rw [e1] at hW
      have := hW.len hu hb
      unfold reachBytes at this
      omega
  exact ⟨a, b, N1, k1, N2, k2, db1, do1, db2, do2, ao1, ao2, G1, G2, by rw [arr_list hcs], len h1 (hW1 hw) hd1, len h2 (hW2 hw) hd2, ⟨rfl, hle1, hmx1, hao1, hrd1, fun i hi => wf_i64 (hwf1 i hi)⟩, ⟨rfl, hle2, hmx2, hao2, hrd2, fun i hi => wf_i64 (hwf2 i hi)⟩⟩
end
end Go.Sp
