/- More laws: an element of an array behind a pointer; structs of three cells, read and written whole. -/
import Derived.Test.YtcflolcaiedmfaaDk
set_option linter.unusedVariables false
namespace Go.Sp
open Go Go.RowKit

section
variable {P : Program} {w0 w : World} {S : List Nat} {L : List Res} {ops : Array Oper} {Q : Exit → Act → World → Prop} {a : Act} {o : Oper} {rest : List Oper} {t e : TypeId} {x y : Operand}
/-- 'p[j]' of an array behind a pointer: its address. -/
theorem ex_indexA (ho : o.op = .indexAddr t x y) {N : Nat} (hu : P.underlying t = some (.array N e)) {sz : Nat} (hsz : (P.info? e).map (·.size) = some sz) {b off : Nat} (hx : a.eval x = .pointer (some ⟨b, off, none⟩)) {k : IntKind} {iv : Int} (hy : a.eval y = .int k iv)
    (j : Nat) (hj : iv = (j : Int)) (hjn : j < N) : (execOp a.eval o).run P w = .ok (.value (.pointer (some ⟨b, off + j * sz, none⟩))) w := by
  subst hj
  cases hq : P.info? e with
  | none => simp [hq] at hsz
  | some i =>
    have hi : i.size = sz := by simpa [hq] using hsz
    have h1 : (0 : Int) ≤ (j : Int) ∧ (j : Int) < (N : Int) := by omega
    unfold execOp
    simp [ho, hx, hy, Instr.indexAt, Instr.sureAddr, asIntOf, run_underlying hu, h1, sizeOf, typeInfo, hq, hi, Addr.add_mid, hjn]
theorem ex_indexA1 (ho : o.op = .indexAddr t x y) {N : Nat} (hu : P.underlying t = some (.array N e)) (hsz : (P.info? e).map (·.size) = some 1) {b : Nat} (hx : a.eval x = .pointer (some ⟨b, 0, none⟩)) {k : IntKind} {iv : Int} (hy : a.eval y = .int k iv)
    (j : Nat) (hj : iv = (j : Int)) (hjn : j < N) : (execOp a.eval o).run P w = .ok (.value (.pointer (some ⟨b, j, none⟩))) w := by
  have h := ex_indexA (w := w) ho hu hsz hx hy j hj hjn
  rwa [Nat.mul_one, Nat.zero_add] at h
theorem wl_indexA1 (hw : Region.wanted o (yielded ops a.tmps) = true) (ho : o.op = .indexAddr t x y) {N : Nat} (hu : P.underlying t = some (.array N e)) (hsz : (P.info? e).map (·.size) = some 1) {b : Nat} (hx : a.eval x = .pointer (some ⟨b, 0, none⟩)) {k : IntKind} {iv : Int} (hy : a.eval y = .int k iv)
    (j : Nat) (hj : iv = (j : Int)) (hjn : j < N) (k : wpList P ops Q rest (a.put o.dst (.pointer (some ⟨b, j, none⟩))) w) : wpList P ops Q (o :: rest) a w :=
  wl_run hw (ex_indexA1 ho hu hsz hx hy j hj hjn) k
theorem ex_load2 (ho : o.op = .load t x) {d : TypeDesc} (hu : P.underlying t = some d) (hd : d.isRow = true) {b off : Nat} (hn : (P.info? t).map (·.size) = some 2) (hx : a.eval x = .pointer (some ⟨b, off, none⟩))
    {v0 v1 : Value} (h0 : w.cell? ⟨b, off, none⟩ = some v0) (h1 : w.cell? ⟨b, off + 1, none⟩ = some v1) : (execOp a.eval o).run P w = .ok (.value (.agg #[v0, v1])) w := by
  have h := ex_loadA (f := fun j => if j = 0 then v0 else v1) ho hu hd hn hx (fun j hj => by
    match j, hj with
    | 0, _ => exact h0
    | 1, _ => exact h1)
  have e : (#[v0, v1] : Array Value) = rowOf 2 (fun j => if j = 0 then v0 else v1) := rowOf_ext rfl fun i hi => by
    match i, hi with
    | 0, _ => rfl
    | 1, _ => rfl
  rw [h, e]
theorem wl_load2 (hw : Region.wanted o (yielded ops a.tmps) = true) (ho : o.op = .load t x) {d : TypeDesc} (hu : P.underlying t = some d) (hd : d.isRow = true) (hn : (P.info? t).map (·.size) = some 2) {b off : Nat} (hx : a.eval x = .pointer (some ⟨b, off, none⟩))
    {v0 v1 : Value} (h0 : w.cell? ⟨b, off, none⟩ = some v0) (h1 : w.cell? ⟨b, off + 1, none⟩ = some v1) (k : wpList P ops Q rest (a.put o.dst (.agg #[v0, v1])) w) : wpList P ops Q (o :: rest) a w :=
  wl_run hw (ex_load2 ho hu hd hn hx h0 h1) k
theorem wl_load3 (hw : Region.wanted o (yielded ops a.tmps) = true) (ho : o.op = .load t x) {d : TypeDesc} (hu : P.underlying t = some d) (hd : d.isRow = true) (hn : (P.info? t).map (·.size) = some 3) {b off : Nat} (hx : a.eval x = .pointer (some ⟨b, off, none⟩))
    {v0 v1 v2 : Value} (h0 : w.cell? ⟨b, off, none⟩ = some v0) (h1 : w.cell? ⟨b, off + 1, none⟩ = some v1) (h2 : w.cell? ⟨b, off + 2, none⟩ = some v2) (k : wpList P ops Q rest (a.put o.dst (.agg #[v0, v1, v2])) w) : wpList P ops Q (o :: rest) a w :=
  wl_run hw (ex_load3 ho hu hd hn hx h0 h1 h2) k
theorem wl_loadR (hw : Region.wanted o (yielded ops a.tmps) = true) (ho : o.op = .load t x) {d : TypeDesc} (hu : P.underlying t = some d) (hd : d.isRow = true) {b off n : Nat} (hn : (P.info? t).map (·.size) = some n) (hx : a.eval x = .pointer (some ⟨b, off, none⟩)) {f : Nat → Value} (hc : Rd w b off n f)
    (k : wpList P ops Q rest (a.put o.dst (.agg (rowOf n f))) w) : wpList P ops Q (o :: rest) a w := wl_run hw (ex_loadA ho hu hd hn hx hc) k
theorem wl_eqlBR (hw : Region.wanted o (yielded ops a.tmps) = true) {yt : TypeId} (ho : o.op = .binOp .eql t x y yt) {n : Nat} {F G : Nat → UInt8} {el : TypeId} (hu : P.underlying t = some (.array n el)) (he : P.underlying el = some (.int .u8))
    (hn : (P.info? el).map (·.size) = some 1) (hq : P.eqGuardType P.depth t = false) (hx : a.eval x = bytesV n F) (hy : a.eval y = bytesV n G) (R : Bool) (hR : eqB n F G = R)
    (k : wpList P ops Q rest (a.put o.dst (.bool R)) w) : wpList P ops Q (o :: rest) a w := by
  subst hR
  exact wl_eqlB hw ho hu he hn hq hx hy k
theorem wl_neqBR (hw : Region.wanted o (yielded ops a.tmps) = true) {yt : TypeId} (ho : o.op = .binOp .neq t x y yt) {n : Nat} {F G : Nat → UInt8} {el : TypeId} (hu : P.underlying t = some (.array n el)) (he : P.underlying el = some (.int .u8))
    (hn : (P.info? el).map (·.size) = some 1) (hq : P.eqGuardType P.depth t = false) (hx : a.eval x = bytesV n F) (hy : a.eval y = bytesV n G) (R : Bool) (hR : (!eqB n F G) = R)
    (k : wpList P ops Q rest (a.put o.dst (.bool R)) w) : wpList P ops Q (o :: rest) a w := wl_run hw (ex_neqBR ho hu he hn hq hx hy hR) k
end
end Go.Sp
