/- A list of steps, opened. -/
import Derived.Test.YtlekfbcmjcgabaaWTells
namespace Go.Proofs.Ytlekfbcmjcgabaa
set_option linter.unusedVariables false
open Go Go.Sp Go.ChangeShapes Go.WideShapes Go.Joins Go.Deep

section
variable {H : Type} {enc : TypeId × Value → H} {P : Program} {w : World} {base : Nat} {spare : Nat → Bool} {held : Bool} {fuel : Nat} {t e e1 : TypeId} {x : DataW H × List MemPlace}
theorem open_int1D {cs : List Value} {j : Nat} {t : TypeId} {y : DataW H × List MemPlace} {m : Nat} (hj : j < cs.length) (ht : P.underlying t = some (.int .i64)) (h : DataW.trod enc P w base spare held m t ((cs.drop j).take 1) = some y) :
    ∃ a : Int, cs[j]? = some (.int .i64 a) ∧ -9223372036854775808 ≤ a ∧ a ≤ 9223372036854775807 := by
  rw [take1 hj] at h
  obtain ⟨a, ha, hb⟩ := open_int1 ht h
  exact ⟨a, by rw [List.getElem?_eq_getElem hj, ha], hb⟩
theorem open_step {f0 f1 f2 f3 f4 f5 : Field} {cs : List Value} (hs : P.underlying e = some (.struct #[f0, f1, f2, f3, f4, f5]))
    (hoff : f0.offset = 0 ∧ f1.offset = 1 ∧ f2.offset = 129 ∧ f3.offset = 130 ∧ f4.offset = 131 ∧ f5.offset = 132)
    (hc : P.cellsOf f0.type = 1 ∧ P.cellsOf f1.type = 128 ∧ P.cellsOf f2.type = 1 ∧ P.cellsOf f3.type = 1 ∧ P.cellsOf f4.type = 1 ∧ P.cellsOf f5.type = 1)
    (h0 : P.underlying f0.type = some (.int .i64)) (h1 : P.underlying f1.type = some (.array 128 e1)) (h2 : P.underlying f2.type = some (.int .i64)) (h3 : P.underlying f3.type = some (.int .i64)) (h4 : P.underlying f4.type = some (.int .i64)) (h5 : P.underlying f5.type = some (.slice e1))
    (he1 : P.underlying e1 = some (.int .u8)) (hce1 : P.cellsOf e1 = 1) (hb : P.bytesOf e1 = 1) (hl : cs.length = 133) (hf : DataW.trod enc P w base spare held fuel e cs = some x) (hw : Wts P e x.1) {b off : Nat} (hcell : ∀ j u, cs[j]? = some u → w.cell? ⟨b, off + j, none⟩ = some u) :
    ∃ s : StepV, StepOk w b off s := by
  obtain ⟨o0, o1, o2, o3, o4, o5⟩ := hoff
  obtain ⟨c0, c1, c2, c3, c4, c5⟩ := hc
  obtain ⟨y0, m0, g0, _⟩ := open_fieldW hs hf 0 rfl o0 c0
  obtain ⟨y1, m1, g1, _⟩ := open_fieldW hs hf 1 rfl o1 c1
  obtain ⟨y2, m2, g2, _⟩ := open_fieldW hs hf 2 rfl o2 c2
  obtain ⟨y3, m3, g3, _⟩ := open_fieldW hs hf 3 rfl o3 c3
  obtain ⟨y4, m4, g4, _⟩ := open_fieldW hs hf 4 rfl o4 c4
  obtain ⟨y5, m5, g5, w5⟩ := open_fieldW hs hf 5 rfl o5 c5
  obtain ⟨kd, k0, b0⟩ := open_int1D (by omega) h0 g0
  obtain ⟨F, hF⟩ := cells_bytes h1 he1 hce1 g1 (by simp [hl])
  obtain ⟨at1, k2, b2⟩ := open_int1D (by omega) h2 g2
  obtain ⟨wd, k3, b3⟩ := open_int1D (by omega) h3 g3
  obtain ⟨vv, k4, b4⟩ := open_int1D (by omega) h4 g4
  rw [take1 (by omega)] at g5
  obtain ⟨ao, n, cap, db, doff, G, hv, hle, hmx, hao, hrd, _⟩ := open_bytesC h5 he1 hce1 g5
  obtain ⟨ao', n', cap', _, _, hv', _, _, _, hwt, _⟩ := open_elemsW h5 (by omega) g5
  rw [hv] at hv'
  cases hv'
  have hn := hwt (w5 hw) 1 hb
  rw [Nat.mul_one] at hn
  simp only [reachBytes] at hn
  have k5 : cs[132]? = some (.slice ao n cap) := by rw [List.getElem?_eq_getElem (by omega), hv]
  refine ⟨⟨kd, at1, wd, vv, F, G, ao, n, cap, db, doff⟩, fun j hj => hcell j _ ?_, b0, b2, b3, b4, by omega, hao, hrd⟩
  simp only [stepC]
  by_cases j0 : j = 0
  · subst j0; rw [if_pos rfl, k0]
  · rw [if_neg j0]
    by_cases j1 : j = 129
    · subst j1; rw [if_pos rfl, k2]
    · rw [if_neg j1]
      by_cases j2 : j = 130
      · subst j2; rw [if_pos rfl, k3]
      · rw [if_neg j2]
        by_cases j3 : j = 131
        · subst j3; rw [if_pos rfl, k4]
        · rw [if_neg j3]
          by_cases j4 : j = 132
          · subst j4; rw [if_pos rfl, k5]
          · rw [if_neg j4]
            have := congrArg (fun a => a[j - 1]?) hF
            simp only [List.getElem?_toArray] at this
            rw [rowOf_get (by omega), List.getElem?_take, if_pos (by omega), List.getElem?_drop, show 1 + (j - 1) = j by omega] at this
            exact this
theorem open_steps {f0 f1 f2 f3 f4 f5 : Field} {v : Value} (ht : P.underlying t = some (.slice e)) (hs : P.underlying e = some (.struct #[f0, f1, f2, f3, f4, f5]))
    (hoff : f0.offset = 0 ∧ f1.offset = 1 ∧ f2.offset = 129 ∧ f3.offset = 130 ∧ f4.offset = 131 ∧ f5.offset = 132) (hce : P.cellsOf e = 133)
    (hc : P.cellsOf f0.type = 1 ∧ P.cellsOf f1.type = 128 ∧ P.cellsOf f2.type = 1 ∧ P.cellsOf f3.type = 1 ∧ P.cellsOf f4.type = 1 ∧ P.cellsOf f5.type = 1)
    (h0 : P.underlying f0.type = some (.int .i64)) (h1 : P.underlying f1.type = some (.array 128 e1)) (h2 : P.underlying f2.type = some (.int .i64)) (h3 : P.underlying f3.type = some (.int .i64)) (h4 : P.underlying f4.type = some (.int .i64)) (h5 : P.underlying f5.type = some (.slice e1))
    (he1 : P.underlying e1 = some (.int .u8)) (hce1 : P.cellsOf e1 = 1) (hb : P.bytesOf e1 = 1) (hf : DataW.trod enc P w base spare held fuel t [v] = some x) (hw : Wts P t x.1) :
    ∃ (ao : Option Addr) (n cap db doff : Nat) (K : Nat → StepV), v = .slice ao n cap ∧ n ≤ cap ∧ cap ≤ maxLen ∧ (0 < n → ao = some ⟨db, doff, none⟩) ∧ ∀ i, i < n → StepOk w db (doff + i * 133) (K i) := by
  obtain ⟨ao, n, cap, db, doff, g1, g2, g3, g4, _, g5⟩ := open_elemsW ht (by omega) hf
  have each : ∀ i, ∃ s : StepV, i < n → StepOk w db (doff + i * 133) s := fun i => by
    by_cases hi : i < n
    · obtain ⟨cs, y, m, hl, hcell, htr, hwy⟩ := g5 i hi
      rw [hce] at hl hcell
      obtain ⟨s, hs⟩ := open_step hs hoff hc h0 h1 h2 h3 h4 h5 he1 hce1 hb hl htr (hwy hw) hcell
      exact ⟨s, fun _ => hs⟩
    · exact ⟨⟨0, 0, 0, 0, fun _ => 0, fun _ => 0, none, 0, 0, 0, 0⟩, fun h => absurd h hi⟩
  obtain ⟨K, hK⟩ := Classical.axiomOfChoice each
  exact ⟨ao, n, cap, db, doff, K, g1, g2, g3, g4, hK⟩
theorem tells_walk {b off M cap : Nat} {ao : Option Addr} (K : Nat → StepV) (w : World) (hle : M ≤ cap) (hmx : cap ≤ maxLen) (hao : 0 < M → ao = some ⟨b, off, none⟩) (hK : ∀ i, i < M → StepOk w b (off + i * 133) (K i)) :
    Calls Try.prog 11 #[.slice ao M cap] w fun e w' => e = .returned (.bool true) ∧ RowKit.Below w.heap.size w w' := by
  unfold maxLen at hmx
  exact (tells_core M cap ao b off K w (by omega) hao hK).mono fun e w' ⟨he, ht⟩ => ⟨he, ht.below⟩
end
end Go.Proofs.Ytlekfbcmjcgabaa
