/- The set of pointers that must be made: a map keyed by structs of three numbers. -/
import Derived.Test.YtdlnfdlgnbkppaaN
import Derived.Test.YtdlnfdlgnbkppaaCnt
import Derived.Maps.OwnSet
import Derived.Carry
import Derived.DeepKeys4
namespace Go.Proofs.Ytdlnfdlgnbkppaa
set_option linter.unusedVariables false
set_option linter.unusedSimpArgs false
open Go Go.Sp Go.RowKit Go.BigFrame Go.Maps

theorem wf_mk {k : Int} (h : -9223372036854775808 ≤ k ∧ k ≤ 9223372036854775807) : (Lit.int .i64 k).wf = true := by
  simp [Lit.wf, IntKind.min, IntKind.max, IntKind.signed, IntKind.bits]; omega
/-- The places, numbered: 1068 blocks; the single table, the double one, the double one's 32. -/
def k1 (i : Nat) : Int := if i < 12 then 0 else if i < 44 then 1 else if i < 1068 then 2 else if i = 1068 then 1 else 2
def k2 (i : Nat) : Int := if i < 12 then i else if i < 44 then (i : Int) - 12 else if i < 1068 then ((i - 44) / 32 : Nat) else if i < 1070 then -1 else (i : Int) - 1070
def k3 (i : Nat) : Int := if i < 44 then 0 else if i < 1068 then ((i - 44) % 32 : Nat) else if i < 1070 then 0 else -1
def keyV (i : Nat) : Value := .agg #[.int .i64 (k1 i), .int .i64 (k2 i), .int .i64 (k3 i)]
theorem k1_bd (i : Nat) : 0 ≤ k1 i ∧ k1 i ≤ 2 := by unfold k1; split; omega; split; omega; split; omega; split <;> omega
theorem k2_bd {i : Nat} (h : i < 1102) : -1 ≤ k2 i ∧ k2 i ≤ 1068 := by
  unfold k2; split; omega; split; omega; split; omega; split <;> omega
theorem k3_bd {i : Nat} (h : i < 1102) : -1 ≤ k3 i ∧ k3 i ≤ 1068 := by
  unfold k3; split; omega; split; omega; split <;> omega
def kInv (a b c : Int) : Int := if a = 0 then b else if a = 1 then (if b = -1 then 1068 else b + 12) else if b = -1 then 1069 else if c = -1 then 1070 + b else 44 + 32 * b + c
theorem kInv_key {i : Nat} (h : i < 1102) : kInv (k1 i) (k2 i) (k3 i) = i := by
  rcases (by omega : i < 12 ∨ (12 ≤ i ∧ i < 44) ∨ (44 ≤ i ∧ i < 1068) ∨ i = 1068 ∨ i = 1069 ∨ 1070 ≤ i) with a | a | a | a | a | a
  · rw [show k1 i = 0 from if_pos a, show k2 i = i from if_pos a]; rfl
  · rw [show k1 i = 1 from (if_neg (by omega)).trans (if_pos a.2), show k2 i = (i : Int) - 12 from (if_neg (by omega)).trans (if_pos a.2)]
    unfold kInv; rw [if_neg (by omega), if_pos rfl, if_neg (by omega)]; omega
  · rw [show k1 i = 2 from (if_neg (by omega)).trans ((if_neg (by omega)).trans (if_pos a.2)), show k2 i = ((i - 44) / 32 : Nat) from (if_neg (by omega)).trans ((if_neg (by omega)).trans (if_pos a.2)), show k3 i = ((i - 44) % 32 : Nat) from (if_neg (by omega)).trans (if_pos a.2)]
    unfold kInv; rw [if_neg (by omega), if_neg (by omega), if_neg (by omega), if_neg (by omega)]; omega
  · subst a; rfl
  · subst a; rfl
  · rw [show k2 i = (i : Int) - 1070 from (if_neg (by omega)).trans ((if_neg (by omega)).trans ((if_neg (by omega)).trans (if_neg (by omega)))), show k3 i = -1 from (if_neg (by omega)).trans ((if_neg (by omega)).trans (if_neg (by omega))),
      show k1 i = 2 from (if_neg (by omega)).trans ((if_neg (by omega)).trans ((if_neg (by omega)).trans (if_neg (by omega))))]
    unfold kInv; rw [if_neg (by omega), if_neg (by omega), if_neg (by omega), if_pos rfl]; omega
theorem key_inj {i j : Nat} (hi : i < 1102) (hj : j < 1102) (h1 : k1 i = k1 j) (h2 : k2 i = k2 j) (h3 : k3 i = k3 j) : i = j := by
  have := kInv_key hi
  rw [h1, h2, h3, kInv_key hj] at this
  omega
theorem laidOut : laidOutB Try.prog = true := by kernel_rfl
theorem keyed80 : Keyed Try.prog 80 := Keyed.of_law (deep_law_laid (m := 4) laidOut (by omega) (of_decide_eq_true (by kernel_rfl)) (by kernel_rfl) (by kernel_rfl))
theorem keyLits3 (d : Nat) {a : Int} (wa : (Lit.int .i64 a).wf = true) : Try.prog.keyLits (d + 1) 3 [.int .i64 a] = some [.int .i64 a] := by
  unfold Program.keyLits
  simp only [Try.underlying3]
  exact if_pos ⟨trivial, wa⟩
theorem key80 {a b c : Int} (wa : (Lit.int .i64 a).wf = true) (wb : (Lit.int .i64 b).wf = true) (wc : (Lit.int .i64 c).wf = true) :
    keyOf Try.prog 80 (.agg #[.int .i64 a, .int .i64 b, .int .i64 c]) = some (.string (keyBytes [.int .i64 a, .int .i64 b, .int .i64 c])) := by
  have hkt : Try.prog.keyType 80 = true := by kernel_rfl
  have hc80 : Try.prog.cellsOf 80 = 3 := by kernel_rfl
  have hc3 : Try.prog.cellsOf 3 = 1 := by kernel_rfl
  obtain ⟨m, hm⟩ : ∃ m, Try.prog.types.size + 1 = m + 1 + 1 := ⟨113, by kernel_rfl⟩
  unfold keyOf
  simp only [Try.underlying80]
  rw [if_pos (by simp [hkt, Value.formed, Try.underlying80, hc80]), hm]
  unfold Program.keyLits
  simp only [Try.underlying80, Value.cells]
  rw [if_pos ⟨by rw [hc80]; rfl, by kernel_rfl⟩]
  simp only [List.mapM_cons, List.mapM_nil, hc3, List.drop_zero, List.take_succ_cons, List.take_zero, List.drop_succ_cons, keyLits3 m wa, keyLits3 m wb, keyLits3 m wc]
  rfl
def keyL (i : Nat) : Lit := .string (keyBytes [.int .i64 (k1 i), .int .i64 (k2 i), .int .i64 (k3 i)])
theorem key_lit {i : Nat} (h : i < 1102) : keyOf Try.prog 80 (keyV i) = some (keyL i) :=
  key80 (wf_mk (by have := k1_bd i; omega)) (wf_mk (by have := k2_bd h; omega)) (wf_mk (by have := k3_bd h; omega))
theorem keyL_ne {i j : Nat} (hi : i < 1102) (hj : j < 1102) (h : i ≠ j) : keyL i ≠ keyL j := fun e => by
  have h1 := key_lit hi
  rw [e] at h1
  have h2 := keyed80.inj h1 (key_lit hj)
  simp only [keyV, Value.agg.injEq, List.toArray_inj] at h2
  have h3 : k1 i = k1 j ∧ k2 i = k2 j ∧ k3 i = k3 j := by simpa using h2
  exact h (key_inj hi hj h3.1 h3.2.1 h3.2.2)
theorem isKeyL (i : Nat) : WideAt.IsKeyLit (keyL i) := trivial
structure IsSet (D : DataW Unit) (f : Nat → Bool) : Prop where
  tidy : Tidy D
  size : Maps.size D = cntP f 1102
  has : ∀ i, i < 1102 → has D (keyL i) = f i
theorem isSet_nil : IsSet (.map []) fun _ => false := ⟨tidy_empty, by rw [cntP_zero fun _ _ => rfl]; rfl, fun _ _ => rfl⟩
theorem IsSet.put {D : DataW Unit} {i : Nat} {f : Nat → Bool} (h : IsSet D f) (hi : i < 1102) : IsSet (D.put (keyL i) (.lit (.bool true))) (updP f i true) := by
  refine ⟨h.tidy.put (isKeyL _) _, ?_, fun j hj => ?_⟩
  · rw [size_put h.tidy, h.has i hi, h.size]
    have := cntP_upd f i true 1102
    rw [if_pos hi, if_pos hi] at this
    cases hf : f i <;> rw [hf] at this <;> simp at this <;> simp <;> omega
  · by_cases hk : j = i
    · subst hk; rw [updP_at]; exact has_put_same h.tidy.isMap (isKeyL _) _
    · rw [updP_off hk, has_put_other (keyL_ne hj hi hk), h.has j hj]
theorem own_size {P : Program} {w : World} {k : TypeId} {R : Value → Option (DataW Unit × List MemPlace)} {b n : Nat} {D : DataW Unit} (h : w.ownsMap P k R b n D) : w.ownsMap P k R b (Maps.size D) D := by
  obtain ⟨es, clock, hb, F, hs, rfl⟩ := h
  exact ⟨es, clock, hb, F, by simp [Maps.size, length_sorted], rfl⟩
/-- The map in block q. -/
def Res.nset (q : Nat) (f : Nat → Bool) : Res where
  foot := [q]
  holds w := ∃ D : DataW Unit, w.ownsMap Try.prog 80 (plainElem Try.prog 4) q (Maps.size D) D ∧ IsSet D f
  stays w w' h hh := by
    obtain ⟨D, ⟨es, clock, hb, r⟩, hD⟩ := hh
    exact ⟨D, ⟨es, clock, by rw [h q (by simp)]; exact hb, r⟩, hD⟩
  live w h k hk := by
    simp only [List.mem_singleton] at hk
    subst hk
    obtain ⟨D, h, _⟩ := h
    exact h.lt
theorem tr_turned {w w' : World} {q : Nat} {f : Nat → Bool} (hg : w.grownBy w' (some q)) (h : (Res.nset q f).holds w') : Tr w [q] w' [Res.nset q f] :=
  ⟨hg.os, hg.tape, hg.output, hg.size, fun k hk hS => hg.block k hk (fun hc => hS (by simp at hc; simp [hc])), by simpa using h, by simp [feet, Res.nset], by simp [feet, Res.nset]⟩
theorem tr_made (w : World) : Tr w [] (w.alloc (.map #[] 0)) [Res.nset w.heap.size fun _ => false] :=
  ⟨rfl, rfl, rfl, by simp, fun _ hk _ => heap_alloc_old w _ hk, by
    simp only [List.mem_singleton, forall_eq]
    exact ⟨.map [], World.ownsMap_made w Try.prog 80 _, isSet_nil⟩, by simp [feet, Res.nset], by simp [feet, Res.nset]⟩
theorem nset_store {w : World} {q i : Nat} {f : Nat → Bool} (h : (Res.nset q f).holds w) (hi : i < 1102) :
    ∃ w', (Instr.mapUpdate 78 (.map (some q)) (keyV i) (.bool true)).run Try.prog w = .ok () w' ∧ Tr w [q] w' [Res.nset q (updP f i true)] := by
  obtain ⟨D, h1, h2⟩ := h
  have hle := cntP_le f 1102
  obtain ⟨w', hrun, r1, r2⟩ := h1.update keyed80 Try.underlying78 (by rw [h2.size]; unfold maxLen; omega) (key_lit hi) (plainElem_bool Try.underlying4 true)
  exact ⟨w', hrun, tr_turned r2 ⟨_, own_size r1, h2.put hi⟩⟩
theorem nset_len {w : World} {q : Nat} {f : Nat → Bool} (h : (Res.nset q f).holds w) (ty : TypeId) : (Builtin.len_ #[78] ty #[.map (some q)]).run Try.prog w = .ok (.int .i64 ((cntP f 1102 : Nat) : Int)) w := by
  obtain ⟨D, h1, h2⟩ := h
  have := h1.len Try.underlying78 ty
  rwa [h2.size] at this
attribute [irreducible] Res.nset
section
variable {w0 w : World} {S : List Nat} {L : List Res} {ops : Array Oper} {Q : Exit → Act → World → Prop} {a : Act} {o : Oper} {rest : List Oper} {x y z : Operand}
theorem at_updateM {t : TypeId} (_ : o.op = .mapUpdate t x y z) (h : wpList Try.prog ops Q (o :: rest) a w) : wpList Try.prog ops Q (o :: rest) a w := h
theorem at_makeM {t : TypeId} (_ : o.op = .makeMap t none) (h : wpList Try.prog ops Q (o :: rest) a w) : wpList Try.prog ops Q (o :: rest) a w := h
theorem wl_updateM (hs : Tr w0 S w L) (hw : Region.wanted o (yielded ops a.tmps) = true) (ho : o.op = .mapUpdate 78 x y z) {q : Nat} (hx : a.eval x = .map (some q)) (k : Nat) (hy : a.eval y = keyV k) (hz : a.eval z = .bool true)
    (i : Nat) {f : Nat → Bool} (hi : L[i]? = some (Res.nset q f)) (hk : k < 1102) (kk : ∀ w', Tr w0 S w' (L.set i (Res.nset q (updP f k true))) → wpList Try.prog ops Q rest (a.put o.dst undef) w') : wpList Try.prog ops Q (o :: rest) a w := by
  obtain ⟨w', hrun, ht⟩ := nset_store (hs.get i hi) hk
  refine wl_skip hw ?_ (kk w' (hs.upd i hi (by rw [show (Res.nset q f).foot = [q] by simp [Res.nset]]; exact ht)))
  unfold execOp
  simp [ho, hx, hy, hz, hrun, Result.andThen]
theorem wl_lenM (hs : Tr w0 S w L) (hw : Region.wanted o (yielded ops a.tmps) = true) (ho : o.op = .call { callee := .builtin .len, args := #[x], argTypes := #[78] }) {q : Nat} (hx : a.eval x = .map (some q))
    (i : Nat) {f : Nat → Bool} (hi : L[i]? = some (Res.nset q f)) (kk : wpList Try.prog ops Q rest (a.put o.dst (.int .i64 ((cntP f 1102 : Nat) : Int))) w) : wpList Try.prog ops Q (o :: rest) a w := by
  refine wl_run hw ?_ kk
  have hrun := nset_len (hs.get i hi) o.type
  unfold execOp
  simp [ho, resolve, invoke, builtin, hx, hrun, Result.andThen]
theorem wl_makeM (hs : Tr w0 S w L) (hw : Region.wanted o (yielded ops a.tmps) = true) (ho : o.op = .makeMap 78 none)
    (kk : ∀ w' q, Tr w0 S w' (Res.nset q (fun _ => false) :: L) → wpList Try.prog ops Q rest (a.put o.dst (.map (some q))) w') : wpList Try.prog ops Q (o :: rest) a w := by
  refine wl_run hw ?_ (kk _ _ (hs.call1 (tr_made w)))
  have hrun := run_makeMap (P := Try.prog) 78 w
  unfold execOp
  simp [ho, hrun, Result.andThen]
end
end Go.Proofs.Ytdlnfdlgnbkppaa
