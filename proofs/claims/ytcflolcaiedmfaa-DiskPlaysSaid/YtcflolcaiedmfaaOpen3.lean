/- Arguments, opened: slices of slices of bytes; slices of a number and bytes. -/
import Derived.Test.YtcflolcaiedmfaaOpen2
set_option linter.unusedVariables false
namespace Go.Sp
open Go Go.ChangeShapes Go.WideShapes Go.Joins Go.Deep

/-- A slice of bytes; F: its bytes, then zeros. -/
def isBytes (w : World) (v : Value) (F : Nat → UInt8) : Prop :=
  ∃ (ao : Option Addr) (n c db doff : Nat) (G : Nat → UInt8), v = .slice ao n c ∧ n ≤ c ∧ (0 < n → ao = some ⟨db, doff, none⟩) ∧ Rd w db doff n (u8v G) ∧ F = fun i => if i < n then G i else 0
theorem isBytes.keep {w0 w : World} {L : List Res} {v : Value} {F : Nat → UInt8} (h : isBytes w0 v F) (hs : Tr w0 [] w L) : isBytes w v F := by
  obtain ⟨ao, n, c, db, doff, G, h1, h2, h3, h4, h5⟩ := h
  exact ⟨ao, n, c, db, doff, G, h1, h2, h3, h4.keep hs, h5⟩

section
variable {H : Type} {enc : TypeId × Value → H} {P : Program} {w : World} {base : Nat} {spare : Nat → Bool} {held : Bool} {fuel : Nat} {t e : TypeId} {x : DataW H × List MemPlace}

/-- A slice: its elements' cells, and their readings. -/
theorem open_elems {v : Value} (ht : P.underlying t = some (.slice e)) (hce : 0 < P.cellsOf e) (hf : DataW.trod enc P w base spare held fuel t [v] = some x) :
    ∃ (ao : Option Addr) (n cap db doff : Nat), v = .slice ao n cap ∧ n ≤ cap ∧ cap ≤ maxLen ∧ (0 < n → ao = some ⟨db, doff, none⟩) ∧ ((x.1 = .nil ∧ n = 0) ∨ ∃ elems sp, x.1 = .slice elems sp ∧ elems.length = n) ∧
      ∀ i, i < n → ∃ (cs : List Value) (y : DataW H × List MemPlace) (m : Nat), cs.length = P.cellsOf e ∧ (∀ j u, cs[j]? = some u → w.cell? ⟨db, doff + i * P.cellsOf e + j, none⟩ = some u) ∧ DataW.trod enc P w base spare held m e cs = some y := by
  rcases DataW.trod_slice ht hf with ⟨hcs, hx⟩ | ⟨a, len, cap, elems, rest, m, _, hcs, hx, _, hl, hm, hlen, hel, _⟩
  · simp at hcs
    subst hcs
    exact ⟨none, 0, 0, 0, 0, rfl, Nat.le_refl _, by unfold maxLen; omega, fun h => by omega, .inl ⟨by rw [hx], rfl⟩, fun i hi => by omega⟩
  · simp at hcs
    subst hcs
    have each : ∀ i, i < len → ∃ cs y, w.cells? base (a.add (i * P.cellsOf e)) (P.cellsOf e) = some cs ∧ DataW.trod enc P w base spare held m e cs = some y := fun i hi => by
      have h1 := hel i hi
      rw [List.getElem?_eq_getElem (by omega)] at h1
      obtain ⟨cs, hc1, hc2⟩ := Option.bind_eq_some_iff.1 h1
      exact ⟨cs, _, hc1, hc2⟩
    have hns : 0 < len → a = ⟨a.block, a.off, none⟩ := fun h0 => by
      obtain ⟨cs, y, h1, _⟩ := each 0 h0
      obtain ⟨_, hlen', hc⟩ := World.cells?_some h1
      have h0' : 0 < cs.length := by omega
      have := hc 0 (by omega)
      rw [Nat.zero_mul, List.getElem?_eq_getElem h0'] at this
      exact spot_none (v := cs[0]) (by simpa [Addr.add] using this)
    refine ⟨some a, len, cap, a.block, a.off, rfl, hl, hm, fun h0 => congrArg some (hns h0), .inr ⟨_, _, by rw [hx], by simpa using hlen⟩, fun i hi => ?_⟩
    obtain ⟨cs, y, h1, h2⟩ := each i hi
    obtain ⟨_, hlen', hc⟩ := World.cells?_some h1
    refine ⟨cs, y, m, hlen', fun j u hju => ?_, h2⟩
    have hj : j < cs.length := (List.getElem?_eq_some_iff.1 hju).1
    have := hc j (by omega)
    rw [hju, hns (by omega), Addr.add_mid, Addr.add_mid] at this
    exact this

/-- The reach of a slice. -/
theorem reach_slice {ts : List TypeId} {ds : List (DataW H)} (h : (DataW.weightsEach P ts ds).all (· ≤ reachBytes) = true) (j : Nat) {n : Nat} {d : DataW H} (ht : ts[j]? = some t) (hd : ds[j]? = some d) (hu : P.underlying t = some (.slice e)) {k : Nat} (hb : P.bytesOf e = k)
    (hn : (d = .nil ∧ n = 0) ∨ ∃ elems sp, d = .slice elems sp ∧ elems.length = n) : n * k ≤ 140737488351232 := by
  rcases hn with ⟨_, rfl⟩ | ⟨elems, sp, rfl, rfl⟩
  · omega
  · have := sized_slice h ht hd hu
    rw [hb, Nat.add_mul] at this
    simp only [reachBytes] at this
    omega

theorem isBytes_of {et : TypeId} {v : Value} {y : DataW H × List MemPlace} {m : Nat} (ht : P.underlying t = some (.slice et)) (he : P.underlying et = some (.int .u8)) (hce : P.cellsOf et = 1) (hf : DataW.trod enc P w base spare held m t [v] = some y) : ∃ F, isBytes w v F := by
  obtain ⟨ao, n, c, db, doff, G, h1, h2, _, h3, h4, _⟩ := open_bytesC ht he hce hf
  exact ⟨_, ao, n, c, db, doff, G, h1, h2, h3, h4, rfl⟩

/-- A slice of slices of bytes. -/
theorem open_lists {u : TypeId} {v : Value} (ht : P.underlying t = some (.slice e)) (hu : P.underlying e = some (.slice u)) (hu8 : P.underlying u = some (.int .u8)) (hce : P.cellsOf e = 1) (hcu : P.cellsOf u = 1) (hf : DataW.trod enc P w base spare held fuel t [v] = some x) :
    ∃ (ao : Option Addr) (n cap db doff : Nat) (V : Nat → Value) (SF : Nat → Nat → UInt8), v = .slice ao n cap ∧ n ≤ cap ∧ cap ≤ maxLen ∧ (0 < n → ao = some ⟨db, doff, none⟩) ∧ Rd w db doff n V ∧ ∀ i, i < n → isBytes w (V i) (SF i) := by
  obtain ⟨ao, n, cap, db, doff, h1, h2, h3, h4, hx, h5⟩ := open_elems ht (by omega) hf
  have each : ∀ i, ∃ p : Value × (Nat → UInt8), i < n → w.cell? ⟨db, doff + i, none⟩ = some p.1 ∧ isBytes w p.1 p.2 := fun i => by
    by_cases hi : i < n
    · obtain ⟨cs, y, m, hl, hc, ht⟩ := h5 i hi
      rw [hce] at hl
      obtain ⟨c0, rfl⟩ : ∃ c0, cs = [c0] := List.length_eq_one_iff.1 hl
      obtain ⟨F, hF⟩ := isBytes_of hu hu8 hcu ht
      refine ⟨(c0, F), fun _ => ⟨?_, hF⟩⟩
      have := hc 0 c0 rfl
      rwa [hce, Nat.mul_one, Nat.add_zero] at this
    · exact ⟨(undef, fun _ => 0), fun h => absurd h hi⟩
  obtain ⟨f, hf⟩ := Classical.axiomOfChoice each
  exact ⟨ao, n, cap, db, doff, fun i => (f i).1, fun i => (f i).2, h1, h2, h3, h4, fun j hj => (hf j hj).1, fun i hi => (hf i hi).2⟩

/-- A slice of structs of a number and bytes. -/
theorem open_writes {u : TypeId} {f0 f1 : Field} {v : Value} (ht : P.underlying t = some (.slice e)) (hs : P.underlying e = some (.struct #[f0, f1])) (hone : oneCellFields P #[f0, f1] = true) (hce : P.cellsOf e = 2)
    (h0 : P.underlying f0.type = some (.int .i64)) (hu : P.underlying f1.type = some (.slice u)) (hu8 : P.underlying u = some (.int .u8)) (hcu : P.cellsOf u = 1) (hf : DataW.trod enc P w base spare held fuel t [v] = some x) :
    ∃ (ao : Option Addr) (n cap db doff : Nat) (N : Nat → Int) (V : Nat → Value) (SF : Nat → Nat → UInt8), v = .slice ao n cap ∧ n ≤ cap ∧ cap ≤ maxLen ∧ (0 < n → ao = some ⟨db, doff, none⟩) ∧ ((x.1 = .nil ∧ n = 0) ∨ ∃ elems sp, x.1 = .slice elems sp ∧ elems.length = n) ∧
      ∀ i, i < n → (w.cell? ⟨db, doff + i * 2, none⟩ = some (.int .i64 (N i)) ∧ w.cell? ⟨db, doff + i * 2 + 1, none⟩ = some (V i)) ∧ (-9223372036854775808 ≤ N i ∧ N i ≤ 9223372036854775807) ∧ isBytes w (V i) (SF i) := by
  obtain ⟨ao, n, cap, db, doff, h1, h2, h3, h4, hx, h5⟩ := open_elems ht (by omega) hf
  have each : ∀ i, ∃ p : Int × Value × (Nat → UInt8), i < n → (w.cell? ⟨db, doff + i * 2, none⟩ = some (.int .i64 p.1) ∧ w.cell? ⟨db, doff + i * 2 + 1, none⟩ = some p.2.1) ∧ (-9223372036854775808 ≤ p.1 ∧ p.1 ≤ 9223372036854775807) ∧ isBytes w p.2.1 p.2.2 := fun i => by
    by_cases hi : i < n
    · obtain ⟨cs, y, m, hl, hc, htr⟩ := h5 i hi
      rw [hce] at hl hc
      obtain ⟨c0, c1, rfl⟩ : ∃ c0 c1, cs = [c0, c1] := by
        match cs, hl with
        | [a, b], _ => exact ⟨a, b, rfl⟩
      obtain ⟨xs, m', _, _, _, hlen, hg⟩ := DataW.trod_struct hs htr
      obtain ⟨o0, k0⟩ := hone_of hone 0 f0 rfl
      obtain ⟨o1, k1⟩ := hone_of hone 1 f1 rfl
      match xs, hlen with
      | [y0, y1], _ =>
        have g0 := hg 0 f0 rfl
        have g1 := hg 1 f1 rfl
        obtain ⟨a, rfl, ha⟩ := open_int1 (v := c0) (x := y0) h0 (by simpa [o0, k0] using g0)
        obtain ⟨F, hF⟩ := isBytes_of (v := c1) (y := y1) hu hu8 hcu (by simpa [o1, k1] using g1)
        refine ⟨(a, c1, F), fun _ => ⟨⟨?_, ?_⟩, ha, hF⟩⟩
        · have := hc 0 _ rfl
          rwa [Nat.add_zero] at this
        · exact hc 1 _ rfl
    · exact ⟨(0, undef, fun _ => 0), fun h => absurd h hi⟩
  obtain ⟨f, hf⟩ := Classical.axiomOfChoice each
  exact ⟨ao, n, cap, db, doff, fun i => (f i).1, fun i => (f i).2.1, fun i => (f i).2.2, h1, h2, h3, h4, hx, hf⟩

theorem cells_of_slice {r : Reach} {b0 : Nat} {v : Value} {d : DataW H} {p : List MemPlace} (ht : P.underlying t = some (.slice e)) (hv : Value.okWide P w r b0 t v) (h : DataW.Trod enc P w base spare held t v d p) : ∃ fuel, DataW.trod enc P w base spare held fuel t [v] = some (d, p) := by
  obtain ⟨a0, n, cap, rfl⟩ := okWide_slice ht hv
  obtain ⟨fuel, hf⟩ := h
  exact ⟨fuel, by simpa [Value.cells] using hf⟩
end
end Go.Sp
