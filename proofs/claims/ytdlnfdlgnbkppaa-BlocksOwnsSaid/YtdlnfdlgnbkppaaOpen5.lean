/- Arguments, opened: how much memory the inner parts take. -/
import Derived.Test.YtdlnfdlgnbkppaaOpen4
set_option linter.unusedVariables false
namespace Go.Sp
open Go Go.ChangeShapes Go.WideShapes Go.Joins Go.Deep

section
variable {H : Type} {enc : TypeId × Value → H} {P : Program} {w : World} {base : Nat} {spare : Nat → Bool} {held : Bool} {fuel : Nat} {t e : TypeId} {x : DataW H × List MemPlace}

/-- No part takes more than the reach. -/
def Wts (P : Program) (t : TypeId) (d : DataW H) : Prop := ∀ n ∈ d.weights P t, n ≤ reachBytes
theorem Wts.of {ts : List TypeId} {ds : List (DataW H)} (h : (DataW.weightsEach P ts ds).all (· ≤ reachBytes) = true) (j : Nat) {d : DataW H} (ht : ts[j]? = some t) (hd : ds[j]? = some d) : Wts P t d := fun n hn => by
  simpa using List.all_eq_true.1 h n (DataW.weights_mem_each ht hd n hn)
theorem weights_mem_all : ∀ {ds : List (DataW H)} {j : Nat} {d : DataW H}, ds[j]? = some d → ∀ n ∈ d.weights P t, n ∈ DataW.weightsAll P t ds
  | d0 :: ds, 0, d, hd, n, hn => by
    simp only [List.getElem?_cons_zero, Option.some.injEq] at hd
    subst hd
    simp only [DataW.weightsAll, List.mem_append]
    exact Or.inl hn
  | d0 :: ds, j + 1, d, hd, n, hn => by
    simp only [List.getElem?_cons_succ] at hd
    simp only [DataW.weightsAll, List.mem_append]
    exact Or.inr (weights_mem_all hd n hn)
  | [], _, _, hd, _, _ => by simp at hd
theorem Wts.elem {elems sp : List (DataW H)} (h : Wts P t (.slice elems sp)) (hu : P.underlying t = some (.slice e)) {i : Nat} {d : DataW H} (hi : elems[i]? = some d) : Wts P e d := fun n hn => by
  refine h n ?_
  simp only [DataW.weights, hu, List.mem_cons, List.mem_append]
  exact Or.inr (Or.inl (weights_mem_all hi n hn))
theorem Wts.field {fs : Array Field} {parts : List (DataW H)} (h : Wts P t (.agg parts)) (hu : P.underlying t = some (.struct fs)) {j : Nat} {f : Field} {d : DataW H} (hj : fs[j]? = some f) (hd : parts[j]? = some d) : Wts P f.type d := fun n hn => by
  refine h n ?_
  simp only [DataW.weights, hu]
  exact DataW.weights_mem_each (j := j) (by simp [hj]) hd n hn
theorem Wts.len {elems sp : List (DataW H)} (h : Wts P t (.slice elems sp)) (hu : P.underlying t = some (.slice e)) {k : Nat} (hb : P.bytesOf e = k) : elems.length * k ≤ reachBytes := by
  have := h ((elems.length + sp.length) * P.bytesOf e) (by simp [DataW.weights, hu])
  rw [hb, Nat.add_mul] at this
  omega

/-- A slice's elements. -/
theorem open_elemsW {v : Value} (ht : P.underlying t = some (.slice e)) (hce : 0 < P.cellsOf e) (hf : DataW.trod enc P w base spare held fuel t [v] = some x) :
    ∃ (ao : Option Addr) (n cap db doff : Nat), v = .slice ao n cap ∧ n ≤ cap ∧ cap ≤ maxLen ∧ (0 < n → ao = some ⟨db, doff, none⟩) ∧ (Wts P t x.1 → ∀ k, P.bytesOf e = k → n * k ≤ reachBytes) ∧
      ∀ i, i < n → ∃ (cs : List Value) (y : DataW H × List MemPlace) (m : Nat), cs.length = P.cellsOf e ∧ (∀ j u, cs[j]? = some u → w.cell? ⟨db, doff + i * P.cellsOf e + j, none⟩ = some u) ∧ DataW.trod enc P w base spare held m e cs = some y ∧ (Wts P t x.1 → Wts P e y.1) := by
  rcases DataW.trod_slice ht hf with ⟨hcs, hx⟩ | ⟨a, len, cap, elems, rest, m, _, hcs, hx, _, hl, hm, hlen, hel, _⟩
  · simp at hcs
    subst hcs
    exact ⟨none, 0, 0, 0, 0, rfl, Nat.le_refl _, by unfold maxLen; omega, fun h => by omega, fun _ k _ => by omega, fun i hi => by omega⟩
  · simp at hcs
    subst hcs
    have each : ∀ i, i < len → ∃ cs y, elems[i]? = some y ∧ w.cells? base (a.add (i * P.cellsOf e)) (P.cellsOf e) = some cs ∧ DataW.trod enc P w base spare held m e cs = some y := fun i hi => by
      have h1 := hel i hi
      have hi2 : i < elems.length := by omega
      rw [List.getElem?_eq_getElem hi2] at h1
      obtain ⟨cs, hc1, hc2⟩ := Option.bind_eq_some_iff.1 h1
      exact ⟨cs, _, List.getElem?_eq_getElem hi2, hc1, hc2⟩
    have hns : 0 < len → a = ⟨a.block, a.off, none⟩ := fun h0 => by
      obtain ⟨cs, y, _, h1, _⟩ := each 0 h0
      obtain ⟨_, hlen', hc⟩ := World.cells?_some h1
      have h0' : 0 < cs.length := by omega
      have := hc 0 (by omega)
      rw [Nat.zero_mul, List.getElem?_eq_getElem h0'] at this
      exact spot_none (v := cs[0]) (by simpa [Addr.add] using this)
    refine ⟨some a, len, cap, a.block, a.off, rfl, hl, hm, fun h0 => congrArg some (hns h0), fun hw k hk => ?_, fun i hi => ?_⟩
    · rw [hx] at hw
      have := hw.len ht hk
      simp only [List.length_map] at this
      rwa [hlen] at this
    · obtain ⟨cs, y, h0, h1, h2⟩ := each i hi
      obtain ⟨_, hlen', hc⟩ := World.cells?_some h1
      refine ⟨cs, y, m, hlen', fun j u hju => ?_, h2, fun hw => ?_⟩
      · have hj : j < cs.length := (List.getElem?_eq_some_iff.1 hju).1
        have := hc j (by omega)
        rw [hju, hns (by omega), Addr.add_mid, Addr.add_mid] at this
        exact this
      · rw [hx] at hw
        exact hw.elem ht (by rw [List.getElem?_map, h0]; rfl)

/-- A struct's field. -/
theorem open_fieldW {fs : Array Field} {cs : List Value} (hs : P.underlying t = some (.struct fs)) (h : DataW.trod enc P w base spare held fuel t cs = some x) (j : Nat) {f : Field} (hj : fs[j]? = some f) {off n : Nat} (ho : f.offset = off) (hn : P.cellsOf f.type = n) :
    ∃ (y : DataW H × List MemPlace) (m : Nat), DataW.trod enc P w base spare held m f.type ((cs.drop off).take n) = some y ∧ (Wts P t x.1 → Wts P f.type y.1) := by
  subst ho hn
  obtain ⟨xs, m, _, hx, hl, hlen, hg⟩ := DataW.trod_struct hs h
  have hjx : j < xs.length := by
    have := (Array.getElem?_eq_some_iff.1 hj).1
    omega
  have g := hg j f hj
  rw [List.getElem?_eq_getElem hjx] at g
  refine ⟨_, _, g, fun hw => ?_⟩
  rw [hx] at hw
  exact hw.field hs hj (by rw [List.getElem?_map, List.getElem?_eq_getElem hjx]; rfl)
/-- Four numbers. -/
theorem open_four {f0 f1 f2 f3 : Field} {r : Reach} {b0 : Nat} {v : Value} {d : DataW H} {p : List MemPlace} (hs : P.underlying t = some (.struct #[f0, f1, f2, f3])) (hone : oneCellFields P #[f0, f1, f2, f3] = true) (hC : P.cellsOf t = 4)
    (h0 : P.underlying f0.type = some (.int .i64)) (h1 : P.underlying f1.type = some (.int .i64)) (h2 : P.underlying f2.type = some (.int .i64)) (h3 : P.underlying f3.type = some (.int .i64))
    (hv : Value.okWide P w r b0 t v) (h : DataW.Trod enc P w base spare held t v d p) :
    ∃ a b c e : Int, v = .agg #[.int .i64 a, .int .i64 b, .int .i64 c, .int .i64 e] ∧ (-9223372036854775808 ≤ a ∧ a ≤ 9223372036854775807) ∧ (-9223372036854775808 ≤ b ∧ b ≤ 9223372036854775807) ∧
      (-9223372036854775808 ≤ c ∧ c ≤ 9223372036854775807) ∧ (-9223372036854775808 ≤ e ∧ e ≤ 9223372036854775807) := by
  obtain ⟨cs, fuel, rfl, hl, hf⟩ := open_struct hs hv h
  obtain ⟨c0, c1, c2, c3, hcs⟩ := list4 (hl.trans hC)
  rw [hcs] at hf
  obtain ⟨a, rfl, ha⟩ := field_int hs hone hf 0 rfl rfl h0
  obtain ⟨b, rfl, hb⟩ := field_int hs hone hf 1 rfl rfl h1
  obtain ⟨c, rfl, hc⟩ := field_int hs hone hf 2 rfl rfl h2
  obtain ⟨e, rfl, he⟩ := field_int hs hone hf 3 rfl rfl h3
  exact ⟨a, b, c, e, by rw [arr_list hcs], ha, hb, hc, he⟩
theorem take1 {α : Type} {l : List α} {j : Nat} (h : j < l.length) : (l.drop j).take 1 = [l[j]] := by
  apply List.ext_getElem?
  intro i
  match i with
  | 0 => simp [List.getElem?_drop, h]
  | i + 1 => simp [List.getElem?_take]
end
end Go.Sp
