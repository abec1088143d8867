/- Arguments, opened: arrays of bytes, slices of bytes, small structs. -/
import Derived.Test.YtcflolcaiedmfaaSep
import Derived.OpenShut
import Derived.SizedLaws
import Derived.Lib.SmallJoins
namespace Go.Sp
open Go Go.ChangeShapes Go.WideShapes Go.Joins Go.Deep

section
variable {H : Type} {enc : TypeId × Value → H} {P : Program} {w : World} {base : Nat} {spare : Nat → Bool} {held : Bool} {fuel : Nat} {t e : TypeId} {cs : List Value} {x : DataW H × List MemPlace}

theorem wf_u8 {n : Int} (h : (Lit.int .u8 n).wf = true) : 0 ≤ n ∧ n ≤ 255 := by simpa [Lit.wf, IntKind.min, IntKind.max, IntKind.signed, IntKind.bits] using h
theorem wf_i64 {n : Int} (h : (Lit.int .i64 n).wf = true) : -9223372036854775808 ≤ n ∧ n ≤ 9223372036854775807 := by simpa [Lit.wf, IntKind.min, IntKind.max, IntKind.signed, IntKind.bits] using h
theorem ofNat_u8 {n : Int} (h : 0 ≤ n ∧ n ≤ 255) : ((UInt8.ofNat n.toNat).toNat : Int) = n := by
  rw [UInt8.toNat_ofNat']; omega

/-- The cells of an array of bytes. -/
theorem cells_bytes {n : Nat} (ht : P.underlying t = some (.array n e)) (he : P.underlying e = some (.int .u8)) (hce : P.cellsOf e = 1) (h : DataW.trod enc P w base spare held fuel t cs = some x) (hl : cs.length = n) :
    ∃ F : Nat → UInt8, cs.toArray = rowOf n (u8v F) := by
  obtain ⟨xs, m, _, _, _, hxl, hf⟩ := DataW.trod_array ht h
  have each : ∀ i, i < n → ∃ b : UInt8, cs[i]? = some (.int .u8 (b.toNat : Int)) := fun i hi => by
    have h1 := hf i hi
    rw [hce, Nat.mul_one, List.getElem?_eq_getElem (by omega)] at h1
    obtain ⟨k, hk, _, hw⟩ := DataW.trod_int he h1
    have hc : cs[i]? = some (.int .u8 k) := by
      have := congrArg (fun l => l[0]?) hk
      simpa [List.getElem?_take, List.getElem?_drop] using this
    exact ⟨UInt8.ofNat k.toNat, by rw [hc, ofNat_u8 (wf_u8 hw)]⟩
  refine ⟨fun i => if hi : i < n then (each i hi).choose else 0, rowOf_ext (by simpa using hl) fun i hi => ?_⟩
  have := (each i hi).choose_spec
  simp only [List.getElem?_toArray, u8v, hi, dif_pos]
  exact this

theorem open_bytesA {r : Reach} {b0 : Nat} {n : Nat} {v : Value} {d : DataW H} {p : List MemPlace} (ht : P.underlying t = some (.array n e)) (he : P.underlying e = some (.int .u8)) (hce : P.cellsOf e = 1) (hct : P.cellsOf t = n)
    (hv : Value.okWide P w r b0 t v) (h : DataW.Trod enc P w base spare held t v d p) : ∃ F : Nat → UInt8, v = bytesV n F := by
  unfold Value.okWide at hv
  rw [ht] at hv
  obtain ⟨cs, rfl, hsz, _⟩ := hv
  obtain ⟨fuel, hf⟩ := h
  obtain ⟨F, hF⟩ := cells_bytes (cs := cs.toList) ht he hce hf (by simp [hsz, hct])
  exact ⟨F, by simpa [bytesV] using hF⟩

theorem spot_none {a : Addr} {v : Value} (h : w.cell? a = some v) : a = ⟨a.block, a.off, none⟩ := by
  cases a with
  | mk b o s =>
    cases s with
    | none => rfl
    | some s =>
      simp only [World.cell?] at h
      split at h <;> simp at h

/-- A slice of integers of one kind. -/
theorem open_intsS {r : Reach} {b0 : Nat} {k : IntKind} {v : Value} {d : DataW H} {p : List MemPlace} (ht : P.underlying t = some (.slice e)) (he : P.underlying e = some (.int k)) (hce : P.cellsOf e = 1)
    (hv : Value.okWide P w r b0 t v) (h : DataW.Trod enc P w base spare held t v d p) :
    ∃ (ao : Option Addr) (n cap db doff : Nat) (G : Nat → Int), v = .slice ao n cap ∧ n ≤ cap ∧ cap ≤ maxLen ∧ (0 < n → ao = some ⟨db, doff, none⟩) ∧ Rd w db doff n (fun i => .int k (G i)) ∧ (∀ i, i < n → (Lit.int k (G i)).wf = true) ∧
      ((d = .nil ∧ n = 0) ∨ ∃ elems sp, d = .slice elems sp ∧ elems.length = n) := by
  obtain ⟨a0, n, cap, rfl⟩ := okWide_slice ht hv
  obtain ⟨fuel, hf⟩ := h
  rcases open_ints ht he hce hf with ⟨hcs, hx⟩ | ⟨a, l, c, zs, hcs, _, hl, hm, hz, hx, hcell, hwz⟩
  · simp [Value.cells] at hcs
    obtain ⟨rfl, rfl, rfl⟩ := hcs
    exact ⟨none, 0, 0, 0, 0, fun _ => 0, rfl, Nat.le_refl _, by unfold maxLen; omega, fun h => by omega, fun j hj => by omega, fun i hi => by omega, .inl ⟨(Prod.mk.inj hx).1, rfl⟩⟩
  · simp [Value.cells] at hcs
    obtain ⟨rfl, rfl, rfl⟩ := hcs
    have hzl : n ≤ zs.length := by rw [hz]; split <;> omega
    have hns : 0 < n → a = ⟨a.block, a.off, none⟩ := fun h0 => by
      have := hcell 0 (by omega)
      rw [show a.add 0 = a from rfl] at this
      exact spot_none this
    refine ⟨_, n, cap, a.block, a.off, fun i => zs.getD i 0, rfl, hl, hm, fun h0 => congrArg some (hns h0), fun j hj => ?_, fun i hi => ?_, .inr ⟨_, _, (Prod.mk.inj hx).1, by simp [lits]; omega⟩⟩
    · have h1 := hcell j (by omega)
      rw [hns (by omega), Addr.add_mid] at h1
      exact h1
    · refine hwz _ ?_
      have hi' : i < zs.length := by omega
      have e : zs.getD i 0 = zs[i] := by simp [List.getD, hi']
      show zs.getD i 0 ∈ zs
      rw [e]
      exact List.getElem_mem _

/-- A slice of bytes. -/
theorem open_bytesS {r : Reach} {b0 : Nat} {v : Value} {d : DataW H} {p : List MemPlace} (ht : P.underlying t = some (.slice e)) (he : P.underlying e = some (.int .u8)) (hce : P.cellsOf e = 1)
    (hv : Value.okWide P w r b0 t v) (h : DataW.Trod enc P w base spare held t v d p) :
    ∃ (ao : Option Addr) (n cap db doff : Nat) (G : Nat → UInt8), v = .slice ao n cap ∧ n ≤ cap ∧ cap ≤ maxLen ∧ (0 < n → ao = some ⟨db, doff, none⟩) ∧ Rd w db doff n (u8v G) ∧
      ((d = .nil ∧ n = 0) ∨ ∃ elems sp, d = .slice elems sp ∧ elems.length = n) := by
  obtain ⟨ao, n, cap, db, doff, G, h1, h2, h3, h4, h5, h6, h7⟩ := open_intsS ht he hce hv h
  refine ⟨ao, n, cap, db, doff, fun i => UInt8.ofNat (G i).toNat, h1, h2, h3, h4, h5.congr fun j hj => ?_, h7⟩
  simp only [u8v]
  rw [ofNat_u8 (wf_u8 (h6 j hj))]

/-- The reach of a slice of bytes. -/
theorem reach_bytes {ts : List TypeId} {ds : List (DataW H)} (h : (DataW.weightsEach P ts ds).all (· ≤ reachBytes) = true) (j : Nat) {n : Nat} {d : DataW H} (ht : ts[j]? = some t) (hd : ds[j]? = some d) (hu : P.underlying t = some (.slice e)) (hb : P.bytesOf e = 1)
    (hn : (d = .nil ∧ n = 0) ∨ ∃ elems sp, d = .slice elems sp ∧ elems.length = n) : n ≤ 140737488351232 := by
  rcases hn with ⟨_, rfl⟩ | ⟨elems, sp, rfl, rfl⟩
  · omega
  · have := sized_slice h ht hd hu
    rw [hb] at this
    simp only [reachBytes] at this
    omega

/-- A struct of two integers. -/
theorem open_ints2 {r : Reach} {b0 : Nat} {f0 f1 : Field} {v : Value} {d : DataW H} {p : List MemPlace} (hs : P.underlying t = some (.struct #[f0, f1])) (hone : oneCellFields P #[f0, f1] = true) (hC : P.cellsOf t = 2)
    (h0 : P.underlying f0.type = some (.int .i64)) (h1 : P.underlying f1.type = some (.int .i64)) (hv : Value.okWide P w r b0 t v) (h : DataW.Trod enc P w base spare held t v d p) :
    ∃ a b : Int, v = .agg #[.int .i64 a, .int .i64 b] ∧ (-9223372036854775808 ≤ a ∧ a ≤ 9223372036854775807) ∧ (-9223372036854775808 ≤ b ∧ b ≤ 9223372036854775807) := by
  obtain ⟨c0, c1, y0, y1, m, rfl, _, _, hy0, hy1⟩ := Go.Joins.open_agg2 hs hone hC hv h
  obtain ⟨a, ea, _, wa⟩ := DataW.trod_int h0 hy0
  obtain ⟨b, eb, _, wb⟩ := DataW.trod_int h1 hy1
  simp at ea eb
  subst ea eb
  exact ⟨a, b, rfl, wf_i64 wa, wf_i64 wb⟩
end
end Go.Sp
