/- A list of calls, opened: structs of four numbers and bytes. -/
import Derived.Test.YtcflolcaiedmfaaOpen4
namespace Go.Sp
set_option linter.unusedVariables false
open Go Go.ChangeShapes Go.WideShapes Go.Joins Go.Deep

structure OpV where
  kd : Int
  on : Int
  tt : Int
  nn : Int
  v : Value
  F : Nat → UInt8
structure OpAt (w : World) (b off : Nat) (x : OpV) : Prop where
  c0 : w.cell? ⟨b, off, none⟩ = some (.int .i64 x.kd)
  c1 : w.cell? ⟨b, off + 1, none⟩ = some (.int .i64 x.on)
  c2 : w.cell? ⟨b, off + 2, none⟩ = some (.int .i64 x.tt)
  c3 : w.cell? ⟨b, off + 3, none⟩ = some (.int .i64 x.nn)
  c4 : w.cell? ⟨b, off + 4, none⟩ = some x.v
  h0 : -9223372036854775808 ≤ x.kd ∧ x.kd ≤ 9223372036854775807
  h1 : -9223372036854775808 ≤ x.on ∧ x.on ≤ 9223372036854775807
  h2 : -9223372036854775808 ≤ x.tt ∧ x.tt ≤ 9223372036854775807
  h3 : -9223372036854775808 ≤ x.nn ∧ x.nn ≤ 9223372036854775807
  hb : isBytes w x.v x.F
section
variable {H : Type} {enc : TypeId × Value → H} {P : Program} {w : World} {base : Nat} {spare : Nat → Bool} {held : Bool} {fuel : Nat} {t e : TypeId} {x : DataW H × List MemPlace}
theorem open_ops5 {u : TypeId} {f0 f1 f2 f3 f4 : Field} {v : Value} (ht : P.underlying t = some (.slice e)) (hs : P.underlying e = some (.struct #[f0, f1, f2, f3, f4])) (hone : oneCellFields P #[f0, f1, f2, f3, f4] = true) (hce : P.cellsOf e = 5)
    (h0 : P.underlying f0.type = some (.int .i64)) (h1 : P.underlying f1.type = some (.int .i64)) (h2 : P.underlying f2.type = some (.int .i64)) (h3 : P.underlying f3.type = some (.int .i64)) (hu : P.underlying f4.type = some (.slice u)) (hu8 : P.underlying u = some (.int .u8)) (hcu : P.cellsOf u = 1) (hf : DataW.trod enc P w base spare held fuel t [v] = some x) :
    ∃ (ao : Option Addr) (n cap db doff : Nat) (K : Nat → OpV), v = .slice ao n cap ∧ n ≤ cap ∧ cap ≤ maxLen ∧ (0 < n → ao = some ⟨db, doff, none⟩) ∧ ((x.1 = .nil ∧ n = 0) ∨ ∃ elems sp, x.1 = .slice elems sp ∧ elems.length = n) ∧ ∀ i, i < n → OpAt w db (doff + i * 5) (K i) := by
  obtain ⟨ao, n, cap, db, doff, g1, g2, g3, g4, hx, g5⟩ := open_elems ht (by omega) hf
  have each : ∀ i, ∃ p : OpV, i < n → OpAt w db (doff + i * 5) p := fun i => by
    by_cases hi : i < n
    · obtain ⟨cs, y, m, hl, hc, htr⟩ := g5 i hi
      rw [hce] at hl hc
      obtain ⟨c0, c1, c2, c3, c4, rfl⟩ := list5 hl
      obtain ⟨a0, rfl, ha0⟩ := field_int hs hone htr 0 rfl rfl h0
      obtain ⟨a1, rfl, ha1⟩ := field_int hs hone htr 1 rfl rfl h1
      obtain ⟨a2, rfl, ha2⟩ := field_int hs hone htr 2 rfl rfl h2
      obtain ⟨a3, rfl, ha3⟩ := field_int hs hone htr 3 rfl rfl h3
      obtain ⟨y4, m4, g⟩ := open_field hs hone htr 4 rfl rfl
      obtain ⟨F, hF⟩ := isBytes_of hu hu8 hcu g
      exact ⟨⟨a0, a1, a2, a3, c4, F⟩, fun _ => ⟨by have := hc 0 _ rfl; rwa [Nat.add_zero] at this, hc 1 _ rfl, hc 2 _ rfl, hc 3 _ rfl, hc 4 _ rfl, ha0, ha1, ha2, ha3, hF⟩⟩
    · exact ⟨⟨0, 0, 0, 0, undef, fun _ => 0⟩, fun h => absurd h hi⟩
  obtain ⟨K, hK⟩ := Classical.axiomOfChoice each
  exact ⟨ao, n, cap, db, doff, K, g1, g2, g3, g4, hx, hK⟩
end
end Go.Sp
