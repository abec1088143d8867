/- A script of steps: a slice of structs of three numbers and a list, opened. -/
import Derived.Test.YtfedfdcbhggipaaDoorV
import Derived.Test.YtfedfdcbhggipaaDoorOpen5
import Derived.Test.YtfedfdcbhggipaaDoorOpen4
import Derived.Test.YtfedfdcbhggipaaDoorOpen2
namespace Go.Proofs.YtfedfdcbhggipaaDoor
set_option linter.unusedVariables false
open Go Go.Sp Go.ChangeShapes Go.WideShapes Go.Joins Go.Deep

section
variable {H : Type} {enc : TypeId × Value → H} {P : Program} {w : World} {base : Nat} {spare : Nat → Bool} {held : Bool} {fuel : Nat} {t e et : TypeId} {x : DataW H × List MemPlace}
theorem open_script {f0 f1 f2 f3 : Field} {v : Value} (ht : P.underlying t = some (.slice e)) (hs : P.underlying e = some (.struct #[f0, f1, f2, f3])) (hone : oneCellFields P #[f0, f1, f2, f3] = true) (hce : P.cellsOf e = 4)
    (h0 : P.underlying f0.type = some (.int .i64)) (h1 : P.underlying f1.type = some (.int .i64)) (h2 : P.underlying f2.type = some (.int .i64)) (h3 : P.underlying f3.type = some (.slice et)) (o3 : f3.offset = 3) (n3 : P.cellsOf f3.type = 1)
    (he : P.underlying et = some (.int .i64)) (hcet : P.cellsOf et = 1) (hb : P.bytesOf et = 8) (hf : DataW.trod enc P w base spare held fuel t [v] = some x) (hW : Wts P t x.1) :
    ∃ (ao : Option Addr) (n cap db doff : Nat), v = .slice ao n cap ∧ n ≤ cap ∧ cap ≤ maxLen ∧ (0 < n → ao = some ⟨db, doff, none⟩) ∧ Script w db doff n := by
  obtain ⟨ao, n, cap, db, doff, g1, g2, g3, g4, _, g5⟩ := open_elemsW ht (by omega) hf
  refine ⟨ao, n, cap, db, doff, g1, g2, g3, g4, fun i hi => ?_⟩
  obtain ⟨cs, y, m, hl, hc, htr, hwy⟩ := g5 i hi
  rw [hce] at hl hc
  obtain ⟨c0, c1, c2, c3, rfl⟩ := list4 hl
  obtain ⟨a, rfl, ha⟩ := field_int hs hone htr 0 rfl rfl h0
  obtain ⟨b, rfl, hbb⟩ := field_int hs hone htr 1 rfl rfl h1
  obtain ⟨c, rfl, hcc⟩ := field_int hs hone htr 2 rfl rfl h2
  obtain ⟨y3, m3, hy3, hW3⟩ := open_fieldW hs htr 3 rfl o3 n3
  obtain ⟨la, ln, lc, lb, lo, lg, rfl, hle, hmx, hao, hrd, hwf, hd⟩ := open_intsC (v := c3) h3 he hcet hy3
  have hsz : ln * 8 ≤ 140737488351232 := by
    rcases hd with ⟨_, rfl⟩ | ⟨el, sp, e1, rfl⟩
    · omega
    · have h := hW3 (hwy hW)
      rw [e1] at h
      have := h.len h3 hb
      unfold reachBytes at this
      omega
  have q0 := hc 0 _ rfl
  rw [Nat.add_zero] at q0
  exact ⟨a, b, c, la, ln, lc, lb, lo, lg, ⟨q0, hc 1 _ rfl, hc 2 _ rfl, hc 3 _ rfl, hbb, hcc, ⟨rfl, hle, hmx, hao, hrd, fun i hi => wf_i64 (hwf i hi)⟩, hsz⟩⟩
end
end Go.Proofs.YtfedfdcbhggipaaDoor
