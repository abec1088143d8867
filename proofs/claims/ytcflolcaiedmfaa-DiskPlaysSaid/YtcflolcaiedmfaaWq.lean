/- Regions that draw their order and whose operations leave alone what is owned: the class of the worlds in which it is owned. -/
import Derived.Test.YtcflolcaiedmfaaWl
import Derived.BigQuiet
set_option linter.unusedVariables false
namespace Go.Sp
open Go Go.RowKit

/-- A world in which L is owned. -/
structure Wd (w0 : World) (S : List Nat) (L : List Res) where
  w : World
  h : Tr w0 S w L

section
variable {P : Program} {w0 w : World} {S : List Nat} {L : List Res} {ops : Array Oper} {Q : Act → Prop} {a : Act} {o : Oper} {rest : List Oper} {t e : TypeId} {x y : Operand}

theorem wq_enter {id : Nat} {Q : Exit → Act → World → Prop} {l : List Oper} (hs : Tr w0 S w L) (hm : P.follows .mixedOrders = true) (hB : Region.lexB .any l.toArray = true)
    (h : Nonempty (Wd w0 S L) → wpQuiet P l.toArray (fun w' => ∃ x : Wd w0 S L, w' = x.w) (fun a' => ∀ w', Tr w0 S w' L → Q .normal a' w') l a) : (Code.region id l.toArray true).wp P Q a w := by
  refine wp_region_quiet (C := fun w' => ∃ x : Wd w0 S L, w' = x.w) hm hB ⟨⟨_, hs.drew⟩, rfl⟩ ?_
  have h2 := h ⟨⟨w, hs⟩⟩
  have e : (fun a' => ∀ w', Tr w0 S w' L → Q .normal a' w') = (fun a' => ∀ w', (∃ x : Wd w0 S L, w' = x.w) → Q .normal a' w') := by
    funext a'
    exact propext ⟨fun hh w' ⟨x, hx⟩ => by subst hx; exact hh _ x.h, fun hh w' ht => hh w' ⟨⟨w', ht⟩, rfl⟩⟩
  rw [e] at h2
  simpa using h2

theorem wq_val (hw : Region.wanted o (yielded ops a.tmps) = true) {v : Value} (hr : ∀ w, Tr w0 S w L → (execOp a.eval o).run P w = .ok (.value v) w)
    (k : wpQuiet P ops (fun w' => ∃ x : Wd w0 S L, w' = x.w) Q rest (a.put o.dst v)) : wpQuiet P ops (fun w' => ∃ x : Wd w0 S L, w' = x.w) Q (o :: rest) a := by
  refine wpQuiet_step fun K hK => ?_
  rw [if_pos hw]
  refine ⟨v, fun w ⟨x, hx⟩ => ?_, hK _ k⟩
  subst hx
  unfold Oper.quietAt
  rw [hr x.w x.h]
  exact ⟨rfl, rfl⟩

theorem wq_call {x : Wd w0 S L} {f : FuncId} {args : Array Value} {v : Value} (h : Calls P f args x.w fun e w' => e = .returned v ∧ Tr x.w [] w' []) :
    Calls P f args x.w fun e w'' => e = .returned v ∧ ∃ x' : Wd w0 S L, w'' = x'.w :=
  h.mono fun e w' ⟨he, ht⟩ => ⟨he, ⟨w', x.h.call0 ht⟩, rfl⟩
theorem wq_call_same {x : Wd w0 S L} {f : FuncId} {args : Array Value} {v : Value} (h : Calls P f args x.w fun e w' => e = .returned v ∧ x.w = w') :
    Calls P f args x.w fun e w'' => e = .returned v ∧ ∃ x' : Wd w0 S L, w'' = x'.w :=
  h.mono fun e w' ⟨he, ht⟩ => ⟨he, x, ht.symm⟩

/-- The frame, written out. -/
theorem wq_frame {C : World → Prop} {a' : Act} (h : a = a') (k : wpQuiet P ops C Q rest a') : wpQuiet P ops C Q rest a := by rw [h]; exact k

/-! Guards -/
theorem qat_load {C : World → Prop} (_ : o.op = .load t x) (h : wpQuiet P ops C Q (o :: rest) a) : wpQuiet P ops C Q (o :: rest) a := h
theorem qat_build {C : World → Prop} {ps : Array (Nat × Operand)} (_ : o.op = .build t ps) (h : wpQuiet P ops C Q (o :: rest) a) : wpQuiet P ops C Q (o :: rest) a := h
theorem qat_bin {C : World → Prop} (b : BinOp) {e : TypeId} (_ : o.op = .binOp b t x y e) (h : wpQuiet P ops C Q (o :: rest) a) : wpQuiet P ops C Q (o :: rest) a := h
theorem qat_conv {C : World → Prop} (_ : o.op = .convert t e x) (h : wpQuiet P ops C Q (o :: rest) a) : wpQuiet P ops C Q (o :: rest) a := h
theorem qat_index {C : World → Prop} (_ : o.op = .indexAddr t x y) (h : wpQuiet P ops C Q (o :: rest) a) : wpQuiet P ops C Q (o :: rest) a := h

/-! Laws -/
theorem wq_load1 (hw : Region.wanted o (yielded ops a.tmps) = true) (ho : o.op = .load t x) {d : TypeDesc} (hu : P.underlying t = some d) (hd : d.isRow = false) {b off : Nat} (hx : a.eval x = .pointer (some ⟨b, off, none⟩))
    (i : Nat) {cs : Array Value} {bt : TypeId} (hi : L[i]? = some (Res.blk b cs bt)) {v : Value} (hv : cs[off]? = some v) (k : wpQuiet P ops (fun w' => ∃ x : Wd w0 S L, w' = x.w) Q rest (a.put o.dst v)) : wpQuiet P ops (fun w' => ∃ x : Wd w0 S L, w' = x.w) Q (o :: rest) a :=
  wq_val hw (fun w hs => ex_load1 ho hu hd hx (by rw [cell_of_row w b off cs bt (0, 0) (hs.getB i hi)]; exact hv)) k

theorem wq_loadC (hw : Region.wanted o (yielded ops a.tmps) = true) (ho : o.op = .load t x) {d : TypeDesc} (hu : P.underlying t = some d) (hd : d.isRow = false) {p : Addr} (hx : a.eval x = .pointer (some p))
    {v : Value} (hv : ∀ w, Tr w0 S w L → w.cell? p = some v) (k : wpQuiet P ops (fun w' => ∃ x : Wd w0 S L, w' = x.w) Q rest (a.put o.dst v)) : wpQuiet P ops (fun w' => ∃ x : Wd w0 S L, w' = x.w) Q (o :: rest) a :=
  wq_val hw (fun w hs => ex_load1 ho hu hd hx (hv w hs)) k

theorem wq_loadB (hw : Region.wanted o (yielded ops a.tmps) = true) (ho : o.op = .load t x) {n : Nat} {el : TypeId} (hu : P.underlying t = some (.array n el)) {b : Nat} (hx : a.eval x = .pointer (some ⟨b, 0, none⟩))
    (i : Nat) {F : Nat → UInt8} {bt : TypeId} (hi : L[i]? = some (Res.blk b (rowOf n (u8v F)) bt)) (hn : (P.info? t).map (·.size) = some n) (k : wpQuiet P ops (fun w' => ∃ x : Wd w0 S L, w' = x.w) Q rest (a.put o.dst (bytesV n F))) : wpQuiet P ops (fun w' => ∃ x : Wd w0 S L, w' = x.w) Q (o :: rest) a :=
  wq_val hw (fun w hs => ex_loadAA ho hu rfl (by rw [rowOf_size]; exact hn) hx (hs.getB i hi)) k

theorem wq_loadMB (hw : Region.wanted o (yielded ops a.tmps) = true) (ho : o.op = .load t x) {n : Nat} {el : TypeId} (hu : P.underlying t = some (.array n el)) {b off : Nat} (hn : (P.info? t).map (·.size) = some n) (hx : a.eval x = .pointer (some ⟨b, off, none⟩))
    {F : Nat → UInt8} (hc : ∀ w, Tr w0 S w L → Rd w b off n (u8v F)) (k : wpQuiet P ops (fun w' => ∃ x : Wd w0 S L, w' = x.w) Q rest (a.put o.dst (bytesV n F))) : wpQuiet P ops (fun w' => ∃ x : Wd w0 S L, w' = x.w) Q (o :: rest) a :=
  wq_val hw (fun w hs => ex_loadA ho hu rfl hn hx (hc w hs)) k

theorem wq_index (hw : Region.wanted o (yielded ops a.tmps) = true) (ho : o.op = .indexAddr t x y) (hu : P.underlying t = some (.slice e)) {sz : Nat} (hsz : (P.info? e).map (·.size) = some sz) {ao : Option Addr} {n c : Nat} (hx : a.eval x = .slice ao n c) {kd : IntKind} {iv : Int} (hy : a.eval y = .int kd iv)
    (j : Nat) (hj : iv = (j : Int)) (hjn : j < n) {b off : Nat} (hao : ao = some ⟨b, off, none⟩) (k : wpQuiet P ops (fun w' => ∃ x : Wd w0 S L, w' = x.w) Q rest (a.put o.dst (.pointer (some ⟨b, off + j * sz, none⟩)))) : wpQuiet P ops (fun w' => ∃ x : Wd w0 S L, w' = x.w) Q (o :: rest) a :=
  wq_val hw (fun w _ => ex_indexS ho hu hsz hx hy j hj hjn hao) k

theorem wq_build0B (hw : Region.wanted o (yielded ops a.tmps) = true) (ho : o.op = .build t #[]) {n : Nat} {el : TypeId} (hu : P.underlying t = some (.array n el)) {F : Nat → UInt8} (hz : (P.info? t).map (·.zero) = some (some (bytesV n F))) (hel : (P.info? el).isSome = true)
    (k : wpQuiet P ops (fun w' => ∃ x : Wd w0 S L, w' = x.w) Q rest (a.put o.dst (bytesV n F))) : wpQuiet P ops (fun w' => ∃ x : Wd w0 S L, w' = x.w) Q (o :: rest) a :=
  wq_val hw (fun w _ => ex_build0 ho hu hz hel) k

theorem wq_eqlB (hw : Region.wanted o (yielded ops a.tmps) = true) {yt : TypeId} (ho : o.op = .binOp .eql t x y yt) {n : Nat} {F G : Nat → UInt8} {el : TypeId} (hu : P.underlying t = some (.array n el)) (he : P.underlying el = some (.int .u8))
    (hn : (P.info? el).map (·.size) = some 1) (hq : P.eqGuardType P.depth t = false) (hx : a.eval x = bytesV n F) (hy : a.eval y = bytesV n G)
    (k : wpQuiet P ops (fun w' => ∃ x : Wd w0 S L, w' = x.w) Q rest (a.put o.dst (.bool (eqB n F G)))) : wpQuiet P ops (fun w' => ∃ x : Wd w0 S L, w' = x.w) Q (o :: rest) a := by
  refine wq_val hw (fun w _ => ex_eqlA .eql false rfl ho hu he hn hq (f := fun i => ((F i).toNat : Int)) (g := fun i => ((G i).toNat : Int)) hx hy) ?_
  simp only [bytes_eq_iff, eqB_decide, Bool.false_eq_true, if_false]
  exact k

theorem wq_neqB (hw : Region.wanted o (yielded ops a.tmps) = true) {yt : TypeId} (ho : o.op = .binOp .neq t x y yt) {n : Nat} {F G : Nat → UInt8} {el : TypeId} (hu : P.underlying t = some (.array n el)) (he : P.underlying el = some (.int .u8))
    (hn : (P.info? el).map (·.size) = some 1) (hq : P.eqGuardType P.depth t = false) (hx : a.eval x = bytesV n F) (hy : a.eval y = bytesV n G)
    (k : wpQuiet P ops (fun w' => ∃ x : Wd w0 S L, w' = x.w) Q rest (a.put o.dst (.bool (!eqB n F G)))) : wpQuiet P ops (fun w' => ∃ x : Wd w0 S L, w' = x.w) Q (o :: rest) a := by
  refine wq_val hw (fun w _ => ex_eqlA .neq true rfl ho hu he hn hq (f := fun i => ((F i).toNat : Int)) (g := fun i => ((G i).toNat : Int)) hx hy) ?_
  simp only [bytes_eq_iff, eqB_decide, if_true]
  exact k

theorem wq_eqlBR (hw : Region.wanted o (yielded ops a.tmps) = true) {yt : TypeId} (ho : o.op = .binOp .eql t x y yt) {n : Nat} {F G : Nat → UInt8} {el : TypeId} (hu : P.underlying t = some (.array n el)) (he : P.underlying el = some (.int .u8))
    (hn : (P.info? el).map (·.size) = some 1) (hq : P.eqGuardType P.depth t = false) (hx : a.eval x = bytesV n F) (hy : a.eval y = bytesV n G) (R : Bool) (hR : eqB n F G = R)
    (k : wpQuiet P ops (fun w' => ∃ x : Wd w0 S L, w' = x.w) Q rest (a.put o.dst (.bool R))) : wpQuiet P ops (fun w' => ∃ x : Wd w0 S L, w' = x.w) Q (o :: rest) a := by
  subst hR
  exact wq_eqlB hw ho hu he hn hq hx hy k
theorem wq_neqBR (hw : Region.wanted o (yielded ops a.tmps) = true) {yt : TypeId} (ho : o.op = .binOp .neq t x y yt) {n : Nat} {F G : Nat → UInt8} {el : TypeId} (hu : P.underlying t = some (.array n el)) (he : P.underlying el = some (.int .u8))
    (hn : (P.info? el).map (·.size) = some 1) (hq : P.eqGuardType P.depth t = false) (hx : a.eval x = bytesV n F) (hy : a.eval y = bytesV n G) (R : Bool) (hR : (!eqB n F G) = R)
    (k : wpQuiet P ops (fun w' => ∃ x : Wd w0 S L, w' = x.w) Q rest (a.put o.dst (.bool R))) : wpQuiet P ops (fun w' => ∃ x : Wd w0 S L, w' = x.w) Q (o :: rest) a := by
  subst hR
  exact wq_neqB hw ho hu he hn hq hx hy k

/-- 'x == y', its answer given. -/
theorem wq_eqI (hw : Region.wanted o (yielded ops a.tmps) = true) {yt : TypeId} (ho : o.op = .binOp .eql t x y yt) {kx : IntKind} {X Y : Int} (hx : a.eval x = .int kx X) (hy : a.eval y = .int kx Y) (R : Bool) (hR : (X == Y) = R)
    (k : wpQuiet P ops (fun w' => ∃ x : Wd w0 S L, w' = x.w) Q rest (a.put o.dst (.bool R))) : wpQuiet P ops (fun w' => ∃ x : Wd w0 S L, w' = x.w) Q (o :: rest) a := by
  refine wq_val hw (fun w _ => ?_) k
  unfold execOp
  simp only [ho, hx, hy, eqGuard, binOp, Op.intCmp, hR]
  simp

/-- 'x != y', its answer given. -/
theorem wq_neI (hw : Region.wanted o (yielded ops a.tmps) = true) {yt : TypeId} (ho : o.op = .binOp .neq t x y yt) {kx : IntKind} {X Y : Int} (hx : a.eval x = .int kx X) (hy : a.eval y = .int kx Y) (R : Bool) (hR : (X != Y) = R)
    (k : wpQuiet P ops (fun w' => ∃ x : Wd w0 S L, w' = x.w) Q rest (a.put o.dst (.bool R))) : wpQuiet P ops (fun w' => ∃ x : Wd w0 S L, w' = x.w) Q (o :: rest) a := by
  refine wq_val hw (fun w _ => ?_) k
  unfold execOp
  simp only [ho, hx, hy, eqGuard, binOp, Op.intCmp, hR]
  simp
end

section
variable {P : Program} {w : World} {ops : Array Oper} {Q : Exit → Act → World → Prop} {a : Act} {o : Oper} {rest : List Oper} {t : TypeId} {x y : Operand}
/-- 'x != y', its answer given: in a plain walk. -/
theorem wl_neI (hw : Region.wanted o (yielded ops a.tmps) = true) {yt : TypeId} (ho : o.op = .binOp .neq t x y yt) {kx : IntKind} {X Y : Int} (hx : a.eval x = .int kx X) (hy : a.eval y = .int kx Y) (R : Bool) (hR : (X != Y) = R)
    (k : wpList P ops Q rest (a.put o.dst (.bool R)) w) : wpList P ops Q (o :: rest) a w := by
  refine wl_run hw ?_ k
  unfold execOp
  simp only [ho, hx, hy, eqGuard, binOp, Op.intCmp, hR]
  simp
end
end Go.Sp
