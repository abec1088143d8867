/- Arguments, opened: a slice of bytes within a struct; structs of more fields. -/
import Derived.Test.YtcflolcaiedmfaaOpen
set_option linter.unusedVariables false
namespace Go.Sp
open Go Go.ChangeShapes Go.WideShapes Go.Joins Go.Deep

section
variable {H : Type} {enc : TypeId × Value → H} {P : Program} {w : World} {base : Nat} {spare : Nat → Bool} {held : Bool} {fuel : Nat} {t e : TypeId} {v : Value} {x : DataW H × List MemPlace}

/-- A slice of integers of one kind, by its cell. -/
theorem open_intsC {k : IntKind} (ht : P.underlying t = some (.slice e)) (he : P.underlying e = some (.int k)) (hce : P.cellsOf e = 1) (hf : DataW.trod enc P w base spare held fuel t [v] = some x) :
    ∃ (ao : Option Addr) (n cap db doff : Nat) (G : Nat → Int), v = .slice ao n cap ∧ n ≤ cap ∧ cap ≤ maxLen ∧ (0 < n → ao = some ⟨db, doff, none⟩) ∧ Rd w db doff n (fun i => .int k (G i)) ∧ (∀ i, i < n → (Lit.int k (G i)).wf = true) ∧
      ((x.1 = .nil ∧ n = 0) ∨ ∃ elems sp, x.1 = .slice elems sp ∧ elems.length = n) := by
  rcases open_ints ht he hce hf with ⟨hcs, hx⟩ | ⟨a, l, c, zs, hcs, _, hl, hm, hz, hx, hcell, hwz⟩
  · simp at hcs
    subst hcs
    exact ⟨none, 0, 0, 0, 0, fun _ => 0, rfl, Nat.le_refl _, by unfold maxLen; omega, fun h => by omega, fun j hj => by omega, fun i hi => by omega, .inl ⟨by rw [hx], rfl⟩⟩
  · simp at hcs
    subst hcs
    have hzl : l ≤ zs.length := by rw [hz]; split <;> omega
    have hns : 0 < l → a = ⟨a.block, a.off, none⟩ := fun h0 => by
      have := hcell 0 (by omega)
      rw [show a.add 0 = a from rfl] at this
      exact spot_none this
    refine ⟨_, l, c, a.block, a.off, fun i => zs.getD i 0, rfl, hl, hm, fun h0 => congrArg some (hns h0), fun j hj => ?_, fun i hi => ?_, .inr ⟨_, _, by rw [hx], by simp [lits]; omega⟩⟩
    · have h1 := hcell j (by omega)
      rw [hns (by omega), Addr.add_mid] at h1
      exact h1
    · refine hwz _ ?_
      have hi' : i < zs.length := by omega
      have e : zs.getD i 0 = zs[i] := by simp [List.getD, hi']
      show zs.getD i 0 ∈ zs
      rw [e]
      exact List.getElem_mem _

/-- .. of bytes. -/
theorem open_bytesC (ht : P.underlying t = some (.slice e)) (he : P.underlying e = some (.int .u8)) (hce : P.cellsOf e = 1) (hf : DataW.trod enc P w base spare held fuel t [v] = some x) :
    ∃ (ao : Option Addr) (n cap db doff : Nat) (G : Nat → UInt8), v = .slice ao n cap ∧ n ≤ cap ∧ cap ≤ maxLen ∧ (0 < n → ao = some ⟨db, doff, none⟩) ∧ Rd w db doff n (u8v G) ∧
      ((x.1 = .nil ∧ n = 0) ∨ ∃ elems sp, x.1 = .slice elems sp ∧ elems.length = n) := by
  obtain ⟨ao, n, cap, db, doff, G, h1, h2, h3, h4, h5, h6, h7⟩ := open_intsC ht he hce hf
  refine ⟨ao, n, cap, db, doff, fun i => UInt8.ofNat (G i).toNat, h1, h2, h3, h4, h5.congr fun j hj => ?_, h7⟩
  simp only [u8v]
  rw [ofNat_u8 (wf_u8 (h6 j hj))]

theorem array5 {α : Type} {cs : Array α} (h : cs.size = 5) : ∃ c0 c1 c2 c3 c4, cs = #[c0, c1, c2, c3, c4] := by
  obtain ⟨l⟩ := cs
  match l, h with
  | [c0, c1, c2, c3, c4], _ => exact ⟨c0, c1, c2, c3, c4, rfl⟩

theorem open_int1 {v : Value} (ht : P.underlying t = some (.int .i64)) (h : DataW.trod enc P w base spare held fuel t [v] = some x) : ∃ a : Int, v = .int .i64 a ∧ (-9223372036854775808 ≤ a ∧ a ≤ 9223372036854775807) := by
  obtain ⟨a, ea, _, wa⟩ := DataW.trod_int ht h
  simp at ea
  exact ⟨a, ea, wf_i64 wa⟩

/-- A struct of four integers and a slice of bytes. -/
theorem open_ints4b {r : Reach} {b0 : Nat} {f0 f1 f2 f3 f4 : Field} {d : DataW H} {p : List MemPlace} (hs : P.underlying t = some (.struct #[f0, f1, f2, f3, f4])) (hone : oneCellFields P #[f0, f1, f2, f3, f4] = true) (hC : P.cellsOf t = 5)
    (h0 : P.underlying f0.type = some (.int .i64)) (h1 : P.underlying f1.type = some (.int .i64)) (h2 : P.underlying f2.type = some (.int .i64)) (h3 : P.underlying f3.type = some (.int .i64)) (h4 : P.underlying f4.type = some (.slice e)) (he : P.underlying e = some (.int .u8)) (hce : P.cellsOf e = 1)
    (hv : Value.okWide P w r b0 t v) (h : DataW.Trod enc P w base spare held t v d p) :
    ∃ (a b c g : Int) (ao : Option Addr) (n cap db doff : Nat) (G : Nat → UInt8), v = .agg #[.int .i64 a, .int .i64 b, .int .i64 c, .int .i64 g, .slice ao n cap] ∧ (-9223372036854775808 ≤ a ∧ a ≤ 9223372036854775807) ∧ (-9223372036854775808 ≤ b ∧ b ≤ 9223372036854775807) ∧
      (-9223372036854775808 ≤ c ∧ c ≤ 9223372036854775807) ∧ (-9223372036854775808 ≤ g ∧ g ≤ 9223372036854775807) ∧ n ≤ cap ∧ cap ≤ maxLen ∧ (0 < n → ao = some ⟨db, doff, none⟩) ∧ Rd w db doff n (u8v G) := by
  obtain ⟨cs, rfl, hsz⟩ := okWide_struct hs hv
  obtain ⟨c0, c1, c2, c3, c4, rfl⟩ := array5 (hsz.trans hC)
  obtain ⟨fuel, hf⟩ := h
  obtain ⟨xs, n, _, hx, hl, hlen, hg⟩ := DataW.trod_struct hs hf
  obtain ⟨o0, k0⟩ := hone_of hone 0 f0 rfl
  obtain ⟨o1, k1⟩ := hone_of hone 1 f1 rfl
  obtain ⟨o2, k2⟩ := hone_of hone 2 f2 rfl
  obtain ⟨o3, k3⟩ := hone_of hone 3 f3 rfl
  obtain ⟨o4, k4⟩ := hone_of hone 4 f4 rfl
  match xs, hlen with
  | [y0, y1, y2, y3, y4], _ =>
    have g0 := hg 0 f0 rfl
    have g1 := hg 1 f1 rfl
    have g2 := hg 2 f2 rfl
    have g3 := hg 3 f3 rfl
    have g4 := hg 4 f4 rfl
    obtain ⟨a, rfl, ha⟩ := open_int1 (v := c0) (x := y0) h0 (by simpa [Value.cells, o0, k0] using g0)
    obtain ⟨b, rfl, hb⟩ := open_int1 (v := c1) (x := y1) h1 (by simpa [Value.cells, o1, k1] using g1)
    obtain ⟨c, rfl, hc⟩ := open_int1 (v := c2) (x := y2) h2 (by simpa [Value.cells, o2, k2] using g2)
    obtain ⟨g, rfl, hgg⟩ := open_int1 (v := c3) (x := y3) h3 (by simpa [Value.cells, o3, k3] using g3)
    obtain ⟨ao, m, cap, db, doff, G, rfl, q1, q2, q3, q4, _⟩ := open_bytesC (v := c4) (x := y4) h4 he hce (by simpa [Value.cells, o4, k4] using g4)
    exact ⟨a, b, c, g, ao, m, cap, db, doff, G, rfl, ha, hb, hc, hgg, q1, q2, q3, q4⟩
end
end Go.Sp
