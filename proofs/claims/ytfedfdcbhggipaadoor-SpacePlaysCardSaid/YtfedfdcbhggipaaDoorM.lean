/- A set of numbers, as a map from numbers to 1. -/
import Derived.Test.YtfedfdcbhggipaaDoorA
import Derived.Test.YtfedfdcbhggipaaDoorMo
import Derived.Maps.OwnSet
import Derived.Carry
namespace Go.Proofs.YtfedfdcbhggipaaDoor
set_option linter.unusedVariables false
set_option linter.unusedSimpArgs false
open Go Go.Sp Go.RowKit Go.BigFrame Go.Maps

theorem wf_mk {k : Int} (h : -9223372036854775808 ≤ k ∧ k ≤ 9223372036854775807) : (Lit.int .i64 k).wf = true := by
  simp [Lit.wf, IntKind.min, IntKind.max, IntKind.signed, IntKind.bits]; omega
/-- Is it among them? -/
def inS (N : Nat) (f : Nat → Bool) (k : Int) : Bool := if 0 ≤ k ∧ k < N then f k.toNat else false
def oneS (N : Nat) (f : Nat → Bool) (k : Int) : Int := if inS N f k then 1 else 0
structure IsSet (D : DataW Unit) (N : Nat) (f : Nat → Bool) : Prop where
  tidy : Tidy D
  size : Maps.size D = cntP f N
  has : ∀ k : Int, has D (.int .i64 k) = inS N f k
  at' : ∀ k : Int, D.atKey (.int .i64 k) (.lit (.int .i64 0)) = .lit (.int .i64 (oneS N f k))
theorem isSet_nil (N : Nat) : IsSet (.map []) N fun _ => false :=
  ⟨tidy_empty, by rw [cntP_zero fun _ _ => rfl]; rfl, fun k => by
    have : inS N (fun _ => false) k = false := by simp only [inS]; split <;> rfl
    rw [this]; rfl, fun k => by
    have : oneS N (fun _ => false) k = 0 := by
      have : inS N (fun _ => false) k = false := by simp only [inS]; split <;> rfl
      simp [oneS, this]
    rw [this]; rfl⟩
theorem inS_upd {N i : Nat} {f : Nat → Bool} {b : Bool} (hi : i < N) (k : Int) : inS N (updP f i b) k = if k = i then b else inS N f k := by
  simp only [inS]
  by_cases h : k = i
  · subst h
    rw [if_pos ⟨by omega, by omega⟩, if_pos rfl]
    exact updP_at f i b
  · rw [if_neg h]
    by_cases h2 : 0 ≤ k ∧ k < N
    · rw [if_pos h2, if_pos h2, updP_off (by omega)]
    · rw [if_neg h2, if_neg h2]
theorem lit_ne {a b : Int} (h : a ≠ b) : (Lit.int .i64 a) ≠ .int .i64 b := fun e => h (by cases e; rfl)
theorem isKey (k : Int) : WideAt.IsKeyLit (.int .i64 k) := by simp [WideAt.IsKeyLit]
theorem IsSet.put {D : DataW Unit} {N i : Nat} {f : Nat → Bool} (h : IsSet D N f) (hi : i < N) (hf : f i = false) : IsSet (D.put (.int .i64 i) (.lit (.int .i64 1))) N (updP f i true) := by
  have hh : Maps.has D (.int .i64 (i : Int)) = false := by
    rw [h.has, inS, if_pos ⟨by omega, by omega⟩]; exact hf
  refine ⟨h.tidy.put (isKey _) _, ?_, fun k => ?_, fun k => ?_⟩
  · rw [size_put h.tidy, hh, h.size]
    have := cntP_upd f i true N
    rw [if_pos hi, if_pos hi, hf] at this
    simp at this
    simp; omega
  · rw [inS_upd hi]
    by_cases hk : k = i
    · subst hk; rw [if_pos rfl]; exact has_put_same h.tidy.isMap (isKey _) _
    · rw [if_neg hk, has_put_other (lit_ne hk), h.has]
  · rw [oneS, inS_upd hi]
    by_cases hk : k = i
    · subst hk; rw [if_pos rfl]; exact atKey_put_same h.tidy.isMap (isKey _) _ _
    · rw [if_neg hk, atKey_put_other (lit_ne hk), h.at']; rfl
theorem IsSet.del {D : DataW Unit} {N i : Nat} {f : Nat → Bool} (h : IsSet D N f) (hi : i < N) (hf : f i = true) : IsSet (D.del (.int .i64 i)) N (updP f i false) := by
  have hh : Maps.has D (.int .i64 (i : Int)) = true := by
    rw [h.has, inS, if_pos ⟨by omega, by omega⟩]; exact hf
  refine ⟨h.tidy.del _, ?_, fun k => ?_, fun k => ?_⟩
  · have h1 := size_del (k := .int .i64 (i : Int)) h.tidy
    rw [hh, h.size] at h1
    have := cntP_upd f i false N
    rw [if_pos hi, if_pos hi, hf] at this
    simp at this h1
    omega
  · rw [inS_upd hi]
    by_cases hk : k = i
    · subst hk; rw [if_pos rfl]; exact has_del_same
    · rw [if_neg hk, has_del_other (lit_ne hk), h.has]
  · rw [oneS, inS_upd hi]
    by_cases hk : k = i
    · subst hk; rw [if_pos rfl]; exact atKey_del_same _
    · rw [if_neg hk, atKey_del_other (lit_ne hk), h.at']; rfl

theorem own_size {P : Program} {w : World} {k : TypeId} {R : Value → Option (DataW Unit × List MemPlace)} {b n : Nat} {D : DataW Unit} (h : w.ownsMap P k R b n D) : w.ownsMap P k R b (Maps.size D) D := by
  obtain ⟨es, clock, hb, F, hs, rfl⟩ := h
  exact ⟨es, clock, hb, F, by simp [Maps.size, length_sorted], rfl⟩
/-- The map in block q. -/
def Res.iset (q N : Nat) (f : Nat → Bool) : Res where
  foot := [q]
  holds w := ∃ D : DataW Unit, w.ownsMap Tryd.prog 3 (plainElem Tryd.prog 3) q (Maps.size D) D ∧ IsSet D N f
  stays w w' h hh := by
    obtain ⟨D, ⟨es, clock, hb, r⟩, hD⟩ := hh
    exact ⟨D, ⟨es, clock, by rw [h q (by simp)]; exact hb, r⟩, hD⟩
  live w h k hk := by
    simp only [List.mem_singleton] at hk
    subst hk
    obtain ⟨D, h, _⟩ := h
    exact h.lt
theorem tr_turned {w w' : World} {q N : Nat} {f : Nat → Bool} (hg : w.grownBy w' (some q)) (h : (Res.iset q N f).holds w') : Tr w [q] w' [Res.iset q N f] :=
  ⟨hg.os, hg.tape, hg.output, hg.size, fun k hk hS => hg.block k hk (fun hc => hS (by simp at hc; simp [hc])), by simpa using h, by simp [feet, Res.iset], by simp [feet, Res.iset]⟩
theorem iset_foot (q N : Nat) (f : Nat → Bool) : (Res.iset q N f).foot = [q] := rfl
theorem tr_made (w : World) (N : Nat) : Tr w [] (w.alloc (.map #[] 0)) [Res.iset w.heap.size N fun _ => false] :=
  ⟨rfl, rfl, rfl, by simp, fun _ hk _ => heap_alloc_old w _ hk, by
    simp only [List.mem_singleton, forall_eq]
    exact ⟨.map [], World.ownsMap_made w Tryd.prog 3 _, isSet_nil N⟩, by simp [feet, Res.iset], by simp [feet, Res.iset]⟩
theorem keyed3 : Keyed Tryd.prog 3 := int_keyed Tryd.underlying3
theorem zero3 (w : World) : (zeroValue 3).run Tryd.prog w = .ok (.int .i64 0) w := by kernel_rfl
theorem iset_lookup {w : World} {q N : Nat} {f : Nat → Bool} (h : (Res.iset q N f).holds w) (k : Int) (hk : -9223372036854775808 ≤ k ∧ k ≤ 9223372036854775807) :
    (Instr.lookup 65 (.map (some q)) (.int .i64 k) false).run Tryd.prog w = .ok (.int .i64 (oneS N f k)) w := by
  obtain ⟨D, h1, h2⟩ := h
  obtain ⟨c, hrun, hat, _⟩ := h1.lookup_int keyed3 Tryd.underlying65 Tryd.underlying3 (zero3 w) (keyOf_int_mk Tryd.underlying3 (wf_mk hk))
  rw [h2.at'] at hat
  cases hat
  exact hrun
theorem iset_store {w : World} {q N i : Nat} {f : Nat → Bool} (h : (Res.iset q N f).holds w) (hN : N ≤ 4096) (hi : i < N) (hf : f i = false) :
    ∃ w', (Instr.mapUpdate 65 (.map (some q)) (.int .i64 i) (.int .i64 1)).run Tryd.prog w = .ok () w' ∧ Tr w [q] w' [Res.iset q N (updP f i true)] := by
  obtain ⟨D, h1, h2⟩ := h
  have hle := cntP_le f N
  obtain ⟨w', hrun, r1, r2⟩ := h1.update keyed3 Tryd.underlying65 (by rw [h2.size]; unfold maxLen; omega) (keyOf_int_mk Tryd.underlying3 (wf_mk (k := (i : Int)) (by omega))) (plainElem_int Tryd.underlying3 (wf_mk (k := 1) (by omega)))
  exact ⟨w', hrun, tr_turned r2 ⟨_, own_size r1, h2.put hi hf⟩⟩
theorem iset_delete {w : World} {q N i : Nat} {f : Nat → Bool} (h : (Res.iset q N f).holds w) (hN : N ≤ 4096) (hi : i < N) (hf : f i = true) (ty : TypeId) :
    ∃ w', (Builtin.delete_ #[65, 3] ty #[.map (some q), .int .i64 i]).run Tryd.prog w = .ok (.tuple #[]) w' ∧ Tr w [q] w' [Res.iset q N (updP f i false)] := by
  obtain ⟨D, h1, h2⟩ := h
  obtain ⟨w', hrun, r1, r2⟩ := h1.drop keyed3 Tryd.underlying65 (keyOf_int_mk Tryd.underlying3 (wf_mk (k := (i : Int)) (by omega))) ty
  exact ⟨w', hrun, tr_turned r2.grown ⟨_, own_size r1, h2.del hi hf⟩⟩
theorem iset_len {w : World} {q N : Nat} {f : Nat → Bool} (h : (Res.iset q N f).holds w) (ty : TypeId) : (Builtin.len_ #[65] ty #[.map (some q)]).run Tryd.prog w = .ok (.int .i64 ((cntP f N : Nat) : Int)) w := by
  obtain ⟨D, h1, h2⟩ := h
  have := h1.len Tryd.underlying65 ty
  rwa [h2.size] at this
attribute [irreducible] Res.iset

section
variable {w0 w : World} {S : List Nat} {L : List Res} {ops : Array Oper} {Q : Exit → Act → World → Prop} {a : Act} {o : Oper} {rest : List Oper} {x y z : Operand}
theorem at_lookupM {t : TypeId} (_ : o.op = .lookup t x y false) (h : wpList Tryd.prog ops Q (o :: rest) a w) : wpList Tryd.prog ops Q (o :: rest) a w := h
theorem at_updateM {t : TypeId} (_ : o.op = .mapUpdate t x y z) (h : wpList Tryd.prog ops Q (o :: rest) a w) : wpList Tryd.prog ops Q (o :: rest) a w := h
theorem at_makeM {t : TypeId} (_ : o.op = .makeMap t none) (h : wpList Tryd.prog ops Q (o :: rest) a w) : wpList Tryd.prog ops Q (o :: rest) a w := h
theorem wl_lookupM (hs : Tr w0 S w L) (hw : Region.wanted o (yielded ops a.tmps) = true) (ho : o.op = .lookup 65 x y false) {q : Nat} (hx : a.eval x = .map (some q)) {k : Int} (hy : a.eval y = .int .i64 k) (hk : -9223372036854775808 ≤ k ∧ k ≤ 9223372036854775807)
    (i : Nat) {N : Nat} {f : Nat → Bool} (hi : L[i]? = some (Res.iset q N f)) (c : Int) (hc : oneS N f k = c) (kk : wpList Tryd.prog ops Q rest (a.put o.dst (.int .i64 c)) w) : wpList Tryd.prog ops Q (o :: rest) a w := by
  subst hc
  refine wl_run hw ?_ kk
  have hrun := iset_lookup (hs.get i hi) k hk
  unfold execOp
  simp [ho, hx, hy, hrun, Result.andThen]
theorem wl_lookupH {q N : Nat} {f : Nat → Bool} (h : (Res.iset q N f).holds w) (hw : Region.wanted o (yielded ops a.tmps) = true) (ho : o.op = .lookup 65 x y false) (hx : a.eval x = .map (some q)) {k : Int} (hy : a.eval y = .int .i64 k) (hk : -9223372036854775808 ≤ k ∧ k ≤ 9223372036854775807)
    (c : Int) (hc : oneS N f k = c) (kk : wpList Tryd.prog ops Q rest (a.put o.dst (.int .i64 c)) w) : wpList Tryd.prog ops Q (o :: rest) a w := by
  subst hc
  refine wl_run hw ?_ kk
  have hrun := iset_lookup h k hk
  unfold execOp
  simp [ho, hx, hy, hrun, Result.andThen]
theorem wl_lenH {q N : Nat} {f : Nat → Bool} (h : (Res.iset q N f).holds w) (hw : Region.wanted o (yielded ops a.tmps) = true) (ho : o.op = .call { callee := .builtin .len, args := #[x], argTypes := #[65] }) (hx : a.eval x = .map (some q))
    (kk : wpList Tryd.prog ops Q rest (a.put o.dst (.int .i64 ((cntP f N : Nat) : Int))) w) : wpList Tryd.prog ops Q (o :: rest) a w := by
  refine wl_run hw ?_ kk
  have hrun := iset_len h o.type
  unfold execOp
  simp [ho, resolve, invoke, builtin, hx, hrun, Result.andThen]
theorem wl_updateM (hs : Tr w0 S w L) (hw : Region.wanted o (yielded ops a.tmps) = true) (ho : o.op = .mapUpdate 65 x y z) {q k : Nat} (hx : a.eval x = .map (some q)) (hy : a.eval y = .int .i64 (k : Int)) (hz : a.eval z = .int .i64 1)
    (i : Nat) {N : Nat} {f : Nat → Bool} (hi : L[i]? = some (Res.iset q N f)) (hN : N ≤ 4096) (hk : k < N) (hf : f k = false) (kk : ∀ w', Tr w0 S w' (L.set i (Res.iset q N (updP f k true))) → wpList Tryd.prog ops Q rest (a.put o.dst undef) w') : wpList Tryd.prog ops Q (o :: rest) a w := by
  obtain ⟨w', hrun, ht⟩ := iset_store (hs.get i hi) hN hk hf
  refine wl_skip hw ?_ (kk w' (hs.upd i hi (by rw [show (Res.iset q N f).foot = [q] by simp [Res.iset]]; exact ht)))
  unfold execOp
  simp [ho, hx, hy, hz, hrun, Result.andThen]
theorem wl_deleteM (hs : Tr w0 S w L) (hw : Region.wanted o (yielded ops a.tmps) = true) (ho : o.op = .call { callee := .builtin .delete, args := #[x, y], argTypes := #[65, 3] }) {q k : Nat} (hx : a.eval x = .map (some q)) (hy : a.eval y = .int .i64 (k : Int))
    (i : Nat) {N : Nat} {f : Nat → Bool} (hi : L[i]? = some (Res.iset q N f)) (hN : N ≤ 4096) (hk : k < N) (hf : f k = true) (kk : ∀ w', Tr w0 S w' (L.set i (Res.iset q N (updP f k false))) → wpList Tryd.prog ops Q rest (a.put o.dst (.tuple #[])) w') : wpList Tryd.prog ops Q (o :: rest) a w := by
  obtain ⟨w', hrun, ht⟩ := iset_delete (hs.get i hi) hN hk hf o.type
  refine wl_run hw ?_ (kk w' (hs.upd i hi (by rw [show (Res.iset q N f).foot = [q] by simp [Res.iset]]; exact ht)))
  unfold execOp
  simp [ho, resolve, invoke, builtin, hx, hy, hrun, Result.andThen]
theorem wl_lenM (hs : Tr w0 S w L) (hw : Region.wanted o (yielded ops a.tmps) = true) (ho : o.op = .call { callee := .builtin .len, args := #[x], argTypes := #[65] }) {q : Nat} (hx : a.eval x = .map (some q))
    (i : Nat) {N : Nat} {f : Nat → Bool} (hi : L[i]? = some (Res.iset q N f)) (kk : wpList Tryd.prog ops Q rest (a.put o.dst (.int .i64 ((cntP f N : Nat) : Int))) w) : wpList Tryd.prog ops Q (o :: rest) a w := by
  refine wl_run hw ?_ kk
  have hrun := iset_len (hs.get i hi) o.type
  unfold execOp
  simp [ho, resolve, invoke, builtin, hx, hrun, Result.andThen]
theorem wl_makeM (hs : Tr w0 S w L) (hw : Region.wanted o (yielded ops a.tmps) = true) (ho : o.op = .makeMap 65 none) (N : Nat)
    (kk : ∀ w' q, Tr w0 S w' (Res.iset q N (fun _ => false) :: L) → wpList Tryd.prog ops Q rest (a.put o.dst (.map (some q))) w') : wpList Tryd.prog ops Q (o :: rest) a w := by
  refine wl_run hw ?_ (kk _ _ (hs.call1 (tr_made w N)))
  have hrun := run_makeMap (P := Tryd.prog) 65 w
  unfold execOp
  simp [ho, hrun, Result.andThen]
end
end Go.Proofs.YtfedfdcbhggipaaDoor
