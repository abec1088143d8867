/- Arguments, opened: structs field by field; slices of structs; a struct of a number, two lists of numbers, a number. -/
import Derived.Test.YtcflolcaiedmfaaOpen3
set_option linter.unusedVariables false
namespace Go.Sp
open Go Go.ChangeShapes Go.WideShapes Go.Joins Go.Deep

section
variable {H : Type} {enc : TypeId × Value → H} {P : Program} {w : World} {base : Nat} {spare : Nat → Bool} {held : Bool} {fuel : Nat} {t e : TypeId} {x : DataW H × List MemPlace}

/-- A struct whose fields have one cell each: each field's reading. -/
theorem open_field {fs : Array Field} {cs : List Value} (hs : P.underlying t = some (.struct fs)) (hone : oneCellFields P fs = true) (h : DataW.trod enc P w base spare held fuel t cs = some x) (j : Nat) {f : Field} {c : Value} (hj : fs[j]? = some f) (hc : cs[j]? = some c) :
    ∃ (y : DataW H × List MemPlace) (m : Nat), DataW.trod enc P w base spare held m f.type [c] = some y := by
  obtain ⟨xs, m, _, hx, hl, hlen, hg⟩ := DataW.trod_struct hs h
  obtain ⟨o0, k0⟩ := hone_of hone j f hj
  have hjx : j < xs.length := by
    have := (Array.getElem?_eq_some_iff.1 hj).1
    omega
  have g := hg j f hj
  rw [o0, k0, List.getElem?_eq_getElem hjx] at g
  have e : (cs.drop j).take 1 = [c] := by
    apply List.ext_getElem?
    intro i
    match i with
    | 0 => simpa [List.getElem?_take, List.getElem?_drop] using hc
    | i + 1 => simp [List.getElem?_take]
  rw [e] at g
  exact ⟨_, _, g⟩
theorem field_int {fs : Array Field} {cs : List Value} (hs : P.underlying t = some (.struct fs)) (hone : oneCellFields P fs = true) (h : DataW.trod enc P w base spare held fuel t cs = some x) (j : Nat) {f : Field} {c : Value} (hj : fs[j]? = some f) (hc : cs[j]? = some c)
    (hf : P.underlying f.type = some (.int .i64)) : ∃ a : Int, c = .int .i64 a ∧ -9223372036854775808 ≤ a ∧ a ≤ 9223372036854775807 := by
  obtain ⟨y, m, h1⟩ := open_field hs hone h j hj hc
  exact open_int1 hf h1
/-- A slice of numbers in a cell. -/
structure Ints (w : World) (c : Value) (ao : Option Addr) (n cap db doff : Nat) (G : Nat → Int) : Prop where
  eq : c = .slice ao n cap
  le : n ≤ cap
  max : cap ≤ maxLen
  ao : 0 < n → ao = some ⟨db, doff, none⟩
  rd : Rd w db doff n fun i => .int .i64 (G i)
  wf : ∀ i, i < n → -9223372036854775808 ≤ G i ∧ G i ≤ 9223372036854775807
theorem Ints.keep {w0 w : World} {L : List Res} {c : Value} {ao : Option Addr} {n cap db doff : Nat} {G : Nat → Int} (h : Ints w0 c ao n cap db doff G) (hs : Tr w0 [] w L) : Ints w c ao n cap db doff G :=
  ⟨h.eq, h.le, h.max, h.ao, h.rd.keep hs, h.wf⟩
theorem ints_of {et : TypeId} {c : Value} (ht : P.underlying t = some (.slice et)) (he : P.underlying et = some (.int .i64)) (hce : P.cellsOf et = 1) (hf : DataW.trod enc P w base spare held fuel t [c] = some x) :
    ∃ ao n cap db doff G, Ints w c ao n cap db doff G := by
  obtain ⟨ao, n, cap, db, doff, G, h1, h2, h3, h4, h5, h6, _⟩ := open_intsC ht he hce hf
  exact ⟨ao, n, cap, db, doff, G, h1, h2, h3, h4, h5, fun i hi => wf_i64 (h6 i hi)⟩
theorem field_ints {fs : Array Field} {cs : List Value} {et : TypeId} (hs : P.underlying t = some (.struct fs)) (hone : oneCellFields P fs = true) (h : DataW.trod enc P w base spare held fuel t cs = some x) (j : Nat) {f : Field} {c : Value} (hj : fs[j]? = some f) (hc : cs[j]? = some c)
    (hf : P.underlying f.type = some (.slice et)) (he : P.underlying et = some (.int .i64)) (hce : P.cellsOf et = 1) : ∃ ao n cap db doff G, Ints w c ao n cap db doff G := by
  obtain ⟨y, m, h1⟩ := open_field hs hone h j hj hc
  exact ints_of hf he hce h1
theorem list3 {α : Type} {cs : List α} (h : cs.length = 3) : ∃ c0 c1 c2, cs = [c0, c1, c2] := by
  match cs, h with
  | [a, b, c], _ => exact ⟨a, b, c, rfl⟩
theorem list4 {α : Type} {cs : List α} (h : cs.length = 4) : ∃ c0 c1 c2 c3, cs = [c0, c1, c2, c3] := by
  match cs, h with
  | [a, b, c, d], _ => exact ⟨a, b, c, d, rfl⟩
theorem list5 {α : Type} {cs : List α} (h : cs.length = 5) : ∃ c0 c1 c2 c3 c4, cs = [c0, c1, c2, c3, c4] := by
  match cs, h with
  | [a, b, c, d, e], _ => exact ⟨a, b, c, d, e, rfl⟩
theorem arr_list {α : Type} {cs : Array α} {l : List α} (h : cs.toList = l) : cs = l.toArray := by rw [← h]

/-- A struct's cells. -/
theorem open_struct {fs : Array Field} {r : Reach} {b0 : Nat} {v : Value} {d : DataW H} {p : List MemPlace} (hs : P.underlying t = some (.struct fs)) (hv : Value.okWide P w r b0 t v) (h : DataW.Trod enc P w base spare held t v d p) :
    ∃ (cs : Array Value) (fuel : Nat), v = .agg cs ∧ cs.toList.length = P.cellsOf t ∧ DataW.trod enc P w base spare held fuel t cs.toList = some (d, p) := by
  obtain ⟨cs, rfl, hsz⟩ := okWide_struct hs hv
  obtain ⟨fuel, hf⟩ := h
  exact ⟨cs, fuel, rfl, by simpa using hsz, by simpa [Value.cells] using hf⟩

/-- A number, two lists of numbers, a number. -/
theorem open_row4 {et : TypeId} {f0 f1 f2 f3 : Field} {r : Reach} {b0 : Nat} {v : Value} {d : DataW H} {p : List MemPlace} (hs : P.underlying t = some (.struct #[f0, f1, f2, f3])) (hone : oneCellFields P #[f0, f1, f2, f3] = true) (hC : P.cellsOf t = 4)
    (h0 : P.underlying f0.type = some (.int .i64)) (h1 : P.underlying f1.type = some (.slice et)) (h2 : P.underlying f2.type = some (.slice et)) (h3 : P.underlying f3.type = some (.int .i64)) (he : P.underlying et = some (.int .i64)) (hce : P.cellsOf et = 1)
    (hv : Value.okWide P w r b0 t v) (h : DataW.Trod enc P w base spare held t v d p) :
    ∃ (a b : Int) (ao1 : Option Addr) (n1 cap1 db1 do1 : Nat) (G1 : Nat → Int) (ao2 : Option Addr) (n2 cap2 db2 do2 : Nat) (G2 : Nat → Int), v = .agg #[.int .i64 a, .slice ao1 n1 cap1, .slice ao2 n2 cap2, .int .i64 b] ∧
      (-9223372036854775808 ≤ a ∧ a ≤ 9223372036854775807) ∧ (-9223372036854775808 ≤ b ∧ b ≤ 9223372036854775807) ∧ Ints w (.slice ao1 n1 cap1) ao1 n1 cap1 db1 do1 G1 ∧ Ints w (.slice ao2 n2 cap2) ao2 n2 cap2 db2 do2 G2 := by
  obtain ⟨cs, fuel, rfl, hl, hf⟩ := open_struct hs hv h
  obtain ⟨c0, c1, c2, c3, hcs⟩ := list4 (hl.trans hC)
  rw [hcs] at hf
  obtain ⟨a, rfl, ha⟩ := field_int hs hone hf 0 rfl rfl h0
  obtain ⟨ao1, n1, cap1, db1, do1, G1, g1⟩ := field_ints hs hone hf 1 rfl rfl h1 he hce
  obtain ⟨ao2, n2, cap2, db2, do2, G2, g2⟩ := field_ints hs hone hf 2 rfl rfl h2 he hce
  obtain ⟨b, rfl, hb⟩ := field_int hs hone hf 3 rfl rfl h3
  obtain rfl := g1.eq
  obtain rfl := g2.eq
  exact ⟨a, b, ao1, n1, cap1, db1, do1, G1, ao2, n2, cap2, db2, do2, G2, by rw [arr_list hcs], ha, hb, g1, g2⟩

/-- A slice of structs of three numbers. -/
theorem open_ops3 {f0 f1 f2 : Field} {v : Value} (ht : P.underlying t = some (.slice e)) (hs : P.underlying e = some (.struct #[f0, f1, f2])) (hone : oneCellFields P #[f0, f1, f2] = true) (hce : P.cellsOf e = 3)
    (h0 : P.underlying f0.type = some (.int .i64)) (h1 : P.underlying f1.type = some (.int .i64)) (h2 : P.underlying f2.type = some (.int .i64)) (hf : DataW.trod enc P w base spare held fuel t [v] = some x) :
    ∃ (ao : Option Addr) (n cap db doff : Nat) (A B C : Nat → Int), v = .slice ao n cap ∧ n ≤ cap ∧ cap ≤ maxLen ∧ (0 < n → ao = some ⟨db, doff, none⟩) ∧
      ∀ i, i < n → (w.cell? ⟨db, doff + i * 3, none⟩ = some (.int .i64 (A i)) ∧ w.cell? ⟨db, doff + i * 3 + 1, none⟩ = some (.int .i64 (B i)) ∧ w.cell? ⟨db, doff + i * 3 + 2, none⟩ = some (.int .i64 (C i))) ∧
        (-9223372036854775808 ≤ A i ∧ A i ≤ 9223372036854775807) ∧ (-9223372036854775808 ≤ B i ∧ B i ≤ 9223372036854775807) ∧ (-9223372036854775808 ≤ C i ∧ C i ≤ 9223372036854775807) := by
  obtain ⟨ao, n, cap, db, doff, g1, g2, g3, g4, hx, g5⟩ := open_elems ht (by omega) hf
  have each : ∀ i, ∃ p : Int × Int × Int, i < n → (w.cell? ⟨db, doff + i * 3, none⟩ = some (.int .i64 p.1) ∧ w.cell? ⟨db, doff + i * 3 + 1, none⟩ = some (.int .i64 p.2.1) ∧ w.cell? ⟨db, doff + i * 3 + 2, none⟩ = some (.int .i64 p.2.2)) ∧
        (-9223372036854775808 ≤ p.1 ∧ p.1 ≤ 9223372036854775807) ∧ (-9223372036854775808 ≤ p.2.1 ∧ p.2.1 ≤ 9223372036854775807) ∧ (-9223372036854775808 ≤ p.2.2 ∧ p.2.2 ≤ 9223372036854775807) := fun i => by
    by_cases hi : i < n
    · obtain ⟨cs, y, m, hl, hc, htr⟩ := g5 i hi
      rw [hce] at hl hc
      obtain ⟨c0, c1, c2, rfl⟩ := list3 hl
      obtain ⟨a, rfl, ha⟩ := field_int hs hone htr 0 rfl rfl h0
      obtain ⟨b, rfl, hb⟩ := field_int hs hone htr 1 rfl rfl h1
      obtain ⟨c, rfl, hcc⟩ := field_int hs hone htr 2 rfl rfl h2
      refine ⟨(a, b, c), fun _ => ⟨⟨?_, hc 1 _ rfl, hc 2 _ rfl⟩, ha, hb, hcc⟩⟩
      have := hc 0 _ rfl
      rwa [Nat.add_zero] at this
    · exact ⟨(0, 0, 0), fun h => absurd h hi⟩
  obtain ⟨f, hf⟩ := Classical.axiomOfChoice each
  exact ⟨ao, n, cap, db, doff, fun i => (f i).1, fun i => (f i).2.1, fun i => (f i).2.2, g1, g2, g3, g4, hf⟩
end
end Go.Sp
