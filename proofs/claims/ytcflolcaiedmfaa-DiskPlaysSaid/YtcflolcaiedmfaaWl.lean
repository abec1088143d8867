/- The same laws at the list of a region's operations, the world behind each a variable of which Tr alone is known. -/
import Derived.Test.YtcflolcaiedmfaaOps
namespace Go.Sp
open Go Go.RowKit

/-! ### Guards: by reducible unfolding alone they tell which operation stands next. -/
section
variable {P : Program} {w : World} {ops : Array Oper} {Q : Exit → Act → World → Prop} {a : Act} {o : Oper} {rest : List Oper} {t e : TypeId} {x y : Operand}
theorem at_box (_ : o.op = .box t x) (h : wpList P ops Q (o :: rest) a w) : wpList P ops Q (o :: rest) a w := h
theorem at_alloc (_ : o.op = .alloc t) (h : wpList P ops Q (o :: rest) a w) : wpList P ops Q (o :: rest) a w := h
theorem at_load (_ : o.op = .load t x) (h : wpList P ops Q (o :: rest) a w) : wpList P ops Q (o :: rest) a w := h
theorem at_store (_ : o.op = .store t x y) (h : wpList P ops Q (o :: rest) a w) : wpList P ops Q (o :: rest) a w := h
theorem at_build {ps : Array (Nat × Operand)} (_ : o.op = .build t ps) (h : wpList P ops Q (o :: rest) a w) : wpList P ops Q (o :: rest) a w := h
theorem at_buildSlice {n : Nat} {ps : Array (Nat × Operand)} (_ : o.op = .buildSlice t n ps) (h : wpList P ops Q (o :: rest) a w) : wpList P ops Q (o :: rest) a w := h
theorem at_slice {lo hi mx : Option Operand} (_ : o.op = .slice t x lo hi mx) (h : wpList P ops Q (o :: rest) a w) : wpList P ops Q (o :: rest) a w := h
theorem at_index (_ : o.op = .indexAddr t x y) (h : wpList P ops Q (o :: rest) a w) : wpList P ops Q (o :: rest) a w := h
theorem at_mk (_ : o.op = .makeSlice t x y) (h : wpList P ops Q (o :: rest) a w) : wpList P ops Q (o :: rest) a w := h
theorem at_bin (b : BinOp) {e : TypeId} (_ : o.op = .binOp b t x y e) (h : wpList P ops Q (o :: rest) a w) : wpList P ops Q (o :: rest) a w := h
theorem at_conv (_ : o.op = .convert t e x) (h : wpList P ops Q (o :: rest) a w) : wpList P ops Q (o :: rest) a w := h
theorem at_bi (b : Builtin) {xs : Array Operand} {ts : Array TypeId} (_ : o.op = .call { callee := .builtin b, args := xs, argTypes := ts }) (h : wpList P ops Q (o :: rest) a w) : wpList P ops Q (o :: rest) a w := h
end

section
variable {P : Program} {w0 w : World} {S : List Nat} {L : List Res} {ops : Array Oper} {Q : Exit → Act → World → Prop} {a : Act} {o : Oper} {rest : List Oper} {t e : TypeId} {x y : Operand}

theorem wl_boxA (hs : Tr w0 S w L) (hw : Region.wanted o (yielded ops a.tmps) = true) (ho : o.op = .box t x) {cs : Array Value} (hx : a.eval x = .agg cs)
    (k : ∀ w' b, Tr w0 S w' (Res.blk b cs t :: L) → wpList P ops Q rest (a.put o.dst (.pointer (some ⟨b, 0, none⟩))) w') : wpList P ops Q (o :: rest) a w :=
  wl_run hw (ex_box ho hx) (k _ _ (hs.call1 (tr_alloc w cs t)))

theorem wl_box1 (hs : Tr w0 S w L) (hw : Region.wanted o (yielded ops a.tmps) = true) (ho : o.op = .box t x) {v : Value} (hx : a.eval x = v) (hv : v.cells = #[v])
    (k : ∀ w' b, Tr w0 S w' (Res.blk b #[v] t :: L) → wpList P ops Q rest (a.put o.dst (.pointer (some ⟨b, 0, none⟩))) w') : wpList P ops Q (o :: rest) a w := by
  refine wl_run hw (ex_box ho hx) (k _ _ (hs.call1 ?_))
  rw [hv]
  exact tr_alloc w _ t

theorem wl_allocA (hs : Tr w0 S w L) (hw : Region.wanted o (yielded ops a.tmps) = true) (ho : o.op = .alloc t) {cs : Array Value} (hz : (P.info? t).map (·.zero) = some (some (.agg cs)))
    (k : ∀ w' b, Tr w0 S w' (Res.blk b cs t :: L) → wpList P ops Q rest (a.put o.dst (.pointer (some ⟨b, 0, none⟩))) w') : wpList P ops Q (o :: rest) a w :=
  wl_run hw (ex_alloc ho hz) (k _ _ (hs.call1 (tr_alloc w cs t)))

theorem wl_alloc1 (hs : Tr w0 S w L) (hw : Region.wanted o (yielded ops a.tmps) = true) (ho : o.op = .alloc t) {z : Value} (hz : (P.info? t).map (·.zero) = some (some z)) (hzc : z.cells = #[z])
    (k : ∀ w' b, Tr w0 S w' (Res.blk b #[z] t :: L) → wpList P ops Q rest (a.put o.dst (.pointer (some ⟨b, 0, none⟩))) w') : wpList P ops Q (o :: rest) a w := by
  refine wl_run hw (ex_alloc ho hz) (k _ _ (hs.call1 ?_))
  rw [hzc]
  exact tr_alloc w _ t

theorem wl_load1 (hs : Tr w0 S w L) (hw : Region.wanted o (yielded ops a.tmps) = true) (ho : o.op = .load t x) {d : TypeDesc} (hu : P.underlying t = some d) (hd : d.isRow = false) {b off : Nat} (hx : a.eval x = .pointer (some ⟨b, off, none⟩))
    (i : Nat) {cs : Array Value} {bt : TypeId} (hi : L[i]? = some (Res.blk b cs bt)) {v : Value} (hv : cs[off]? = some v) (k : wpList P ops Q rest (a.put o.dst v) w) : wpList P ops Q (o :: rest) a w :=
  wl_run hw (ex_load1 ho hu hd hx (by rw [cell_of_row w b off cs bt (0, 0) (hs.getB i hi)]; exact hv)) k

theorem wl_loadC (hw : Region.wanted o (yielded ops a.tmps) = true) (ho : o.op = .load t x) {d : TypeDesc} (hu : P.underlying t = some d) (hd : d.isRow = false) {p : Addr} (hx : a.eval x = .pointer (some p))
    {v : Value} (hv : w.cell? p = some v) (k : wpList P ops Q rest (a.put o.dst v) w) : wpList P ops Q (o :: rest) a w :=
  wl_run hw (ex_load1 ho hu hd hx hv) k

/-- The whole of a block. -/
theorem wl_loadA (hs : Tr w0 S w L) (hw : Region.wanted o (yielded ops a.tmps) = true) (ho : o.op = .load t x) {d : TypeDesc} (hu : P.underlying t = some d) (hd : d.isRow = true) {b : Nat} (hx : a.eval x = .pointer (some ⟨b, 0, none⟩))
    (i : Nat) {cs : Array Value} {bt : TypeId} (hi : L[i]? = some (Res.blk b cs bt)) (hn : (P.info? t).map (·.size) = some cs.size) (k : wpList P ops Q rest (a.put o.dst (.agg cs)) w) : wpList P ops Q (o :: rest) a w :=
  wl_run hw (ex_loadAA ho hu hd hn hx (hs.getB i hi)) k

/-- .. of bytes. -/
theorem wl_loadB (hs : Tr w0 S w L) (hw : Region.wanted o (yielded ops a.tmps) = true) (ho : o.op = .load t x) {n : Nat} {el : TypeId} (hu : P.underlying t = some (.array n el)) {b : Nat} (hx : a.eval x = .pointer (some ⟨b, 0, none⟩))
    (i : Nat) {F : Nat → UInt8} {bt : TypeId} (hi : L[i]? = some (Res.blk b (rowOf n (u8v F)) bt)) (hn : (P.info? t).map (·.size) = some n) (k : wpList P ops Q rest (a.put o.dst (bytesV n F)) w) : wpList P ops Q (o :: rest) a w :=
  wl_run hw (ex_loadAA ho hu rfl (by rw [rowOf_size]; exact hn) hx (hs.getB i hi)) k

theorem wl_build0B (hw : Region.wanted o (yielded ops a.tmps) = true) (ho : o.op = .build t #[]) {n : Nat} {el : TypeId} (hu : P.underlying t = some (.array n el)) {F : Nat → UInt8} (hz : (P.info? t).map (·.zero) = some (some (bytesV n F))) (hel : (P.info? el).isSome = true)
    (k : wpList P ops Q rest (a.put o.dst (bytesV n F)) w) : wpList P ops Q (o :: rest) a w :=
  wl_run hw (ex_build0 ho hu hz hel) k

/-- n bytes, wherever they lie. -/
theorem wl_loadMB (hw : Region.wanted o (yielded ops a.tmps) = true) (ho : o.op = .load t x) {n : Nat} {el : TypeId} (hu : P.underlying t = some (.array n el)) {b off : Nat} (hn : (P.info? t).map (·.size) = some n) (hx : a.eval x = .pointer (some ⟨b, off, none⟩))
    {F : Nat → UInt8} (hc : Rd w b off n (u8v F)) (k : wpList P ops Q rest (a.put o.dst (bytesV n F)) w) : wpList P ops Q (o :: rest) a w :=
  wl_run hw (ex_loadA ho hu rfl hn hx hc) k

/-- Several cells, wherever they lie. -/
theorem wl_loadM (hw : Region.wanted o (yielded ops a.tmps) = true) (ho : o.op = .load t x) {d : TypeDesc} (hu : P.underlying t = some d) (hd : d.isRow = true) {b off n : Nat} (hn : (P.info? t).map (·.size) = some n) (hx : a.eval x = .pointer (some ⟨b, off, none⟩))
    {f : Nat → Value} (hc : ∀ j, j < n → w.cell? ⟨b, off + j, none⟩ = some (f j)) (k : wpList P ops Q rest (a.put o.dst (.agg (rowOf n f))) w) : wpList P ops Q (o :: rest) a w :=
  wl_run hw (ex_loadA ho hu hd hn hx hc) k

theorem Tr.cells (hs : Tr w0 S w L) (i : Nat) {b N : Nat} {f : Nat → Value} {bt : TypeId} (hi : L[i]? = some (Res.blk b (rowOf N f) bt)) {off n : Nat} (hfit : off + n ≤ N) : ∀ j, j < n → w.cell? ⟨b, off + j, none⟩ = some (f (off + j)) := fun j hj => by
  rw [cell_of_row w b (off + j) _ bt (0, 0) (hs.getB i hi), rowOf_get (by omega)]

theorem wl_store1 (hs : Tr w0 S w L) (hw : Region.wanted o (yielded ops a.tmps) = true) (ho : o.op = .store t x y) (hn : (P.info? t).map (·.size) = some 1) {b off : Nat} (hx : a.eval x = .pointer (some ⟨b, off, none⟩)) {v : Value} (hy : a.eval y = v) (h1 : v.oneCell' = true)
    (i : Nat) {cs : Array Value} {bt : TypeId} (hi : L[i]? = some (Res.blk b cs bt)) (hoff : off < cs.size)
    (k : ∀ w', Tr w0 S w' (L.set i (Res.blk b (cs.setIfInBounds off v) bt)) → wpList P ops Q rest (a.put o.dst undef) w') : wpList P ops Q (o :: rest) a w :=
  wl_skip hw (ex_store1 ho hn hx hy h1 (hs.getB i hi) hoff) (k _ (hs.updB0 i hi _))

/-- .. a cell of a row. -/
theorem wl_store1R (hs : Tr w0 S w L) (hw : Region.wanted o (yielded ops a.tmps) = true) (ho : o.op = .store t x y) (hn : (P.info? t).map (·.size) = some 1) {b off : Nat} (hx : a.eval x = .pointer (some ⟨b, off, none⟩)) {v : Value} (hy : a.eval y = v) (h1 : v.oneCell' = true)
    (i : Nat) {N : Nat} {f : Nat → Value} {bt : TypeId} (hi : L[i]? = some (Res.blk b (rowOf N f) bt)) (hoff : off < N) (g : Nat → Value) (hg : ∀ j, j < N → (if j = off then v else f j) = g j)
    (k : ∀ w', Tr w0 S w' (L.set i (Res.blk b (rowOf N g) bt)) → wpList P ops Q rest (a.put o.dst undef) w') : wpList P ops Q (o :: rest) a w := by
  refine wl_store1 hs hw ho hn hx hy h1 i hi (by simpa using hoff) fun w' hs' => k w' ?_
  rw [rowOf_set, rowOf_congr hg] at hs'
  exact hs'

/-- The whole of a block. -/
theorem wl_storeA (hs : Tr w0 S w L) (hw : Region.wanted o (yielded ops a.tmps) = true) (ho : o.op = .store t x y) {b : Nat} (hx : a.eval x = .pointer (some ⟨b, 0, none⟩)) {ys : Array Value} (hy : a.eval y = .agg ys) (hn : (P.info? t).map (·.size) = some ys.size)
    (h1 : ∀ v ∈ ys.toList, v.oneCell' = true) (i : Nat) {cs : Array Value} {bt : TypeId} (hi : L[i]? = some (Res.blk b cs bt)) (hfit : cs.size = ys.size)
    (k : ∀ w', Tr w0 S w' (L.set i (Res.blk b ys bt)) → wpList P ops Q rest (a.put o.dst undef) w') : wpList P ops Q (o :: rest) a w := by
  refine wl_skip hw (ex_storeA ho hn hx hy rfl h1 (hs.getB i hi) (by omega)) (k _ (hs.updB i hi ?_))
  have e : (cs.toList.take 0 ++ ys.toList ++ cs.toList.drop (0 + ys.toList.length)).toArray = ys := by
    have : cs.toList.drop ys.size = [] := List.drop_eq_nil_of_le (by simp; omega)
    simp [this]
  rw [e]
  exact tr_setRow (hs.getB i hi) _

/-- Several cells into a row. -/
theorem wl_storeM (hs : Tr w0 S w L) (hw : Region.wanted o (yielded ops a.tmps) = true) (ho : o.op = .store t x y) {b off n : Nat} (hx : a.eval x = .pointer (some ⟨b, off, none⟩)) {g : Nat → Value} (hy : a.eval y = .agg (rowOf n g)) (hn : (P.info? t).map (·.size) = some n)
    (h1 : ∀ j, j < n → (g j).oneCell' = true) (i : Nat) {N : Nat} {f : Nat → Value} {bt : TypeId} (hi : L[i]? = some (Res.blk b (rowOf N f) bt)) (hfit : off + n ≤ N) (f' : Nat → Value) (hf' : ∀ j, j < N → (if off ≤ j ∧ j < off + n then g (j - off) else f j) = f' j)
    (k : ∀ w', Tr w0 S w' (L.set i (Res.blk b (rowOf N f') bt)) → wpList P ops Q rest (a.put o.dst undef) w') : wpList P ops Q (o :: rest) a w := by
  refine wl_skip hw (ex_storeA ho hn hx hy (by simp) (rowOf_one _ _ h1) (hs.getB i hi) (by simpa using hfit)) (k _ (hs.updB i hi ?_))
  rw [rowOf_splice f g off hfit, rowOf_congr hf']
  exact tr_setRow (hs.getB i hi) _

theorem wl_eqlA (hw : Region.wanted o (yielded ops a.tmps) = true) {yt : TypeId} (ho : o.op = .binOp .eql t x y yt) {n : Nat} {f g : Nat → Int} {kd : IntKind} {el : TypeId} (hu : P.underlying t = some (.array n el)) (he : P.underlying el = some (.int kd))
    (hn : (P.info? el).map (·.size) = some 1) (hq : P.eqGuardType P.depth t = false) (hx : a.eval x = .agg (rowOf n fun i => .int kd (f i))) (hy : a.eval y = .agg (rowOf n fun i => .int kd (g i)))
    (k : wpList P ops Q rest (a.put o.dst (.bool (decide (∀ i, i < n → f i = g i)))) w) : wpList P ops Q (o :: rest) a w :=
  wl_run hw (ex_eqlA .eql false rfl ho hu he hn hq hx hy) k

theorem wl_neqA (hw : Region.wanted o (yielded ops a.tmps) = true) {yt : TypeId} (ho : o.op = .binOp .neq t x y yt) {n : Nat} {f g : Nat → Int} {kd : IntKind} {el : TypeId} (hu : P.underlying t = some (.array n el)) (he : P.underlying el = some (.int kd))
    (hn : (P.info? el).map (·.size) = some 1) (hq : P.eqGuardType P.depth t = false) (hx : a.eval x = .agg (rowOf n fun i => .int kd (f i))) (hy : a.eval y = .agg (rowOf n fun i => .int kd (g i)))
    (k : wpList P ops Q rest (a.put o.dst (.bool (!decide (∀ i, i < n → f i = g i)))) w) : wpList P ops Q (o :: rest) a w :=
  wl_run hw (ex_eqlA .neq true rfl ho hu he hn hq hx hy) k

/-- Bytes. -/
theorem bytes_eq_iff {n : Nat} {F G : Nat → UInt8} : (∀ i, i < n → ((F i).toNat : Int) = ((G i).toNat : Int)) ↔ ∀ i, i < n → F i = G i :=
  ⟨fun h i hi => UInt8.toNat_inj.1 (by have := h i hi; omega), fun h i hi => by rw [h i hi]⟩

theorem wl_eqlB (hw : Region.wanted o (yielded ops a.tmps) = true) {yt : TypeId} (ho : o.op = .binOp .eql t x y yt) {n : Nat} {F G : Nat → UInt8} {el : TypeId} (hu : P.underlying t = some (.array n el)) (he : P.underlying el = some (.int .u8))
    (hn : (P.info? el).map (·.size) = some 1) (hq : P.eqGuardType P.depth t = false) (hx : a.eval x = bytesV n F) (hy : a.eval y = bytesV n G)
    (k : wpList P ops Q rest (a.put o.dst (.bool (eqB n F G))) w) : wpList P ops Q (o :: rest) a w := by
  refine wl_eqlA hw ho hu he hn hq (f := fun i => ((F i).toNat : Int)) (g := fun i => ((G i).toNat : Int)) hx hy ?_
  simp only [bytes_eq_iff, eqB_decide]
  exact k

theorem wl_neqB (hw : Region.wanted o (yielded ops a.tmps) = true) {yt : TypeId} (ho : o.op = .binOp .neq t x y yt) {n : Nat} {F G : Nat → UInt8} {el : TypeId} (hu : P.underlying t = some (.array n el)) (he : P.underlying el = some (.int .u8))
    (hn : (P.info? el).map (·.size) = some 1) (hq : P.eqGuardType P.depth t = false) (hx : a.eval x = bytesV n F) (hy : a.eval y = bytesV n G)
    (k : wpList P ops Q rest (a.put o.dst (.bool (!eqB n F G))) w) : wpList P ops Q (o :: rest) a w := by
  refine wl_neqA hw ho hu he hn hq (f := fun i => ((F i).toNat : Int)) (g := fun i => ((G i).toNat : Int)) hx hy ?_
  simp only [bytes_eq_iff, eqB_decide]
  exact k

theorem wl_build0 (hw : Region.wanted o (yielded ops a.tmps) = true) (ho : o.op = .build t #[]) {n : Nat} {el : TypeId} (hu : P.underlying t = some (.array n el)) {cs : Array Value} (hz : (P.info? t).map (·.zero) = some (some (.agg cs))) (hel : (P.info? el).isSome = true)
    (k : wpList P ops Q rest (a.put o.dst (.agg cs)) w) : wpList P ops Q (o :: rest) a w :=
  wl_run hw (ex_build0 ho hu hz hel) k

theorem wl_make (hs : Tr w0 S w L) (hw : Region.wanted o (yielded ops a.tmps) = true) {l c : Operand} (ho : o.op = .makeSlice t l c) (hu : P.underlying t = some (.slice e)) {z : Value} {size bytes : Nat} (hi : (P.info? e).map (fun i => (i.zero, i.size, i.bytes)) = some (some z, size, bytes))
    {kl kc : IntKind} {iv : Int} (n : Nat) (hl : a.eval l = .int kl iv) (hc : a.eval c = .int kc iv) (hn : iv = (n : Int)) (hb : bytes * n ≤ 281474976710656) (h63 : n ≤ 9223372036854775807) (f : Nat → Value)
    (hf : ∀ i, i < n * size → z.cells[i % z.cells.size]! = f i)
    (k : ∀ w' b, Tr w0 S w' (Res.blk b (rowOf (n * size) f) e :: L) → wpList P ops Q rest (a.put o.dst (.slice (some ⟨b, 0, none⟩) n n)) w') : wpList P ops Q (o :: rest) a w :=
  wl_run hw (ex_make ho hu hi n hl hc hn hb h63 hf) (k _ _ (hs.call1 (tr_alloc w _ e)))

theorem wl_copy (hs : Tr w0 S w L) (hw : Region.wanted o (yielded ops a.tmps) = true) {d s : Operand} {dT sT : TypeId} (ho : o.op = .call { callee := .builtin .copy, args := #[d, s], argTypes := #[dT, sT] }) (hu : P.underlying dT = some (.slice e)) {sz : Nat} (hsz : (P.info? e).map (·.size) = some sz)
    {dp sp : Option Addr} {dLen dCap sLen sCap : Nat} (hd : a.eval d = .slice dp dLen dCap) (hsv : a.eval s = .slice sp sLen sCap) (m : Nat) (hm : m = min sLen dLen)
    (i : Nat) {b N : Nat} {f : Nat → Value} {bt : TypeId} (hi : L[i]? = some (Res.blk b (rowOf N f) bt)) (off : Nat) (hdp : 0 < m → dp = some ⟨b, off, none⟩) (hfit : off + m * sz ≤ N)
    (sb so : Nat) (g : Nat → Value) (hsp : 0 < m → sp = some ⟨sb, so, none⟩) (hc : ∀ j, j < m * sz → w.cell? ⟨sb, so + j, none⟩ = some (g j)) (h1 : ∀ j, j < m * sz → (g j).oneCell' = true)
    (f' : Nat → Value) (hf' : ∀ j, j < N → (if off ≤ j ∧ j < off + m * sz then g (j - off) else f j) = f' j)
    (k : ∀ w', Tr w0 S w' (L.set i (Res.blk b (rowOf N f') bt)) → wpList P ops Q rest (a.put o.dst (.int .i64 (m : Int))) w') : wpList P ops Q (o :: rest) a w := by
  refine wl_run hw (ex_copy ho hu hsz hd hsv hm hdp (hs.getB i hi) hfit hsp hc h1) (k _ (hs.updB i hi ?_))
  rw [rowOf_congr hf']
  exact tr_setRow (hs.getB i hi) _

/-- .. elements of one cell. -/
theorem wl_copy1 (hs : Tr w0 S w L) (hw : Region.wanted o (yielded ops a.tmps) = true) {d s : Operand} {dT sT : TypeId} (ho : o.op = .call { callee := .builtin .copy, args := #[d, s], argTypes := #[dT, sT] }) (hu : P.underlying dT = some (.slice e)) (hsz : (P.info? e).map (·.size) = some 1)
    {dp sp : Option Addr} {dLen dCap sLen sCap : Nat} (hd : a.eval d = .slice dp dLen dCap) (hsv : a.eval s = .slice sp sLen sCap) (m : Nat) (hm : m = min sLen dLen)
    (i : Nat) {b N : Nat} {f : Nat → Value} {bt : TypeId} (hi : L[i]? = some (Res.blk b (rowOf N f) bt)) (off : Nat) (hdp : 0 < m → dp = some ⟨b, off, none⟩) (hfit : off + m ≤ N)
    (sb so : Nat) (g : Nat → Value) (hsp : 0 < m → sp = some ⟨sb, so, none⟩) (hc : Rd w sb so m g) (h1 : ∀ j, j < m → (g j).oneCell' = true)
    (f' : Nat → Value) (hf' : ∀ j, j < N → (if off ≤ j ∧ j < off + m then g (j - off) else f j) = f' j)
    (k : ∀ w', Tr w0 S w' (L.set i (Res.blk b (rowOf N f') bt)) → wpList P ops Q rest (a.put o.dst (.int .i64 (m : Int))) w') : wpList P ops Q (o :: rest) a w :=
  wl_copy hs hw ho hu hsz hd hsv m hm i hi off hdp (by omega) sb so g hsp (by rw [Nat.mul_one]; exact hc) (by rw [Nat.mul_one]; exact h1) f' (by rw [Nat.mul_one]; exact hf') k

theorem wl_clear (hs : Tr w0 S w L) (hw : Region.wanted o (yielded ops a.tmps) = true) (ho : o.op = .call { callee := .builtin .clear, args := #[x], argTypes := #[t] }) (hu : P.underlying t = some (.slice e)) {z : Value} (hz : (P.info? e).map (·.zero) = some (some z)) (hz1 : z.cells = #[z]) (h1 : z.oneCell' = true)
    {ao : Option Addr} {n c : Nat} (hx : a.eval x = .slice ao n c) (i : Nat) {b N : Nat} {f : Nat → Value} {bt : TypeId} (hi : L[i]? = some (Res.blk b (rowOf N f) bt)) (off : Nat) (hao : 0 < n → ao = some ⟨b, off, none⟩) (hfit : off + n ≤ N)
    (f' : Nat → Value) (hf' : ∀ j, j < N → (if off ≤ j ∧ j < off + n then z else f j) = f' j)
    (k : ∀ w', Tr w0 S w' (L.set i (Res.blk b (rowOf N f') bt)) → wpList P ops Q rest (a.put o.dst (.tuple #[])) w') : wpList P ops Q (o :: rest) a w := by
  refine wl_run hw (ex_clear ho hu hz hz1 h1 hx hao (hs.getB i hi) hfit) (k _ (hs.updB i hi ?_))
  rw [rowOf_congr hf']
  exact tr_setRow (hs.getB i hi) _

theorem wl_index (hw : Region.wanted o (yielded ops a.tmps) = true) (ho : o.op = .indexAddr t x y) (hu : P.underlying t = some (.slice e)) {sz : Nat} (hsz : (P.info? e).map (·.size) = some sz) {ao : Option Addr} {n c : Nat} (hx : a.eval x = .slice ao n c) {kd : IntKind} {iv : Int} (hy : a.eval y = .int kd iv)
    (j : Nat) (hj : iv = (j : Int)) (hjn : j < n) {b off : Nat} (hao : ao = some ⟨b, off, none⟩) (k : wpList P ops Q rest (a.put o.dst (.pointer (some ⟨b, off + j * sz, none⟩))) w) : wpList P ops Q (o :: rest) a w :=
  wl_run hw (ex_indexS ho hu hsz hx hy j hj hjn hao) k

theorem wl_slice (hw : Region.wanted o (yielded ops a.tmps) = true) {lo hi : Option Operand} (ho : o.op = .slice t x lo hi none) (hu : P.underlying t = some (.slice e)) {sz : Nat} (hsz : (P.info? e).map (·.size) = some sz) {ao : Option Addr} {n c : Nat} (hx : a.eval x = .slice ao n c)
    (l h : Nat) (hlo : (lo = none ∧ l = 0) ∨ ∃ p k, lo = some p ∧ a.eval p = .int k (l : Int)) (hhi : (hi = none ∧ h = n) ∨ ∃ p k, hi = some p ∧ a.eval p = .int k (h : Int)) (hlh : l ≤ h) (hhc : h ≤ c) {b off : Nat} (hao : l < h → ao = some ⟨b, off, none⟩)
    (k : ∀ ao', (l < h → ao' = some ⟨b, off + l * sz, none⟩) → wpList P ops Q rest (a.put o.dst (.slice ao' (h - l) (c - l))) w) : wpList P ops Q (o :: rest) a w := by
  obtain ⟨ao', h1, h2⟩ := ex_slice (w := w) ho hu hsz hx hlo hhi hlh hhc hao
  exact wl_run hw h2 (k ao' h1)

theorem wl_sliceA (hw : Region.wanted o (yielded ops a.tmps) = true) {lo hi : Option Operand} (ho : o.op = .slice t x lo hi none) {N : Nat} (hu : P.underlying t = some (.array N e)) {sz : Nat} (hsz : (P.info? e).map (·.size) = some sz) {b off : Nat} (hx : a.eval x = .pointer (some ⟨b, off, none⟩))
    (l h : Nat) (hlo : (lo = none ∧ l = 0) ∨ ∃ p k, lo = some p ∧ a.eval p = .int k (l : Int)) (hhi : (hi = none ∧ h = N) ∨ ∃ p k, hi = some p ∧ a.eval p = .int k (h : Int)) (hlh : l ≤ h) (hhc : h ≤ N)
    (k : ∀ ao', (l < h → ao' = some ⟨b, off + l * sz, none⟩) → wpList P ops Q rest (a.put o.dst (.slice ao' (h - l) (N - l))) w) : wpList P ops Q (o :: rest) a w := by
  obtain ⟨ao', h1, h2⟩ := ex_sliceA (w := w) ho hu hsz hx hlo hhi hlh hhc
  exact wl_run hw h2 (k ao' h1)

theorem wl_buildSlice (hs : Tr w0 S w L) (hw : Region.wanted o (yielded ops a.tmps) = true) {len : Nat} {parts : Array (Nat × Operand)} (ho : o.op = .buildSlice t len parts) (hu : P.underlying t = some (.slice e)) {z : Value} {size bytes : Nat} (hi : (P.info? e).map (fun i => (i.zero, i.size, i.bytes)) = some (some z, size, bytes))
    (h24 : len * size ≤ 16777216) (h0 : len * size ≠ 0) {cells : Array Value} (hf : Instr.fill (fun i => some (i * size, size)) ((Array.range (len * size)).map (z.cells[· % z.cells.size]!)) (parts.map fun (i, x) => (i, a.eval x)).toList = some cells)
    (k : ∀ w' b, Tr w0 S w' (Res.blk b cells e :: L) → wpList P ops Q rest (a.put o.dst (.slice (some ⟨b, 0, none⟩) len len)) w') : wpList P ops Q (o :: rest) a w :=
  wl_run hw (ex_buildSlice ho hu hi h24 h0 hf) (k _ _ (hs.call1 (tr_alloc w _ e)))

theorem wl_buildSliceV (hs : Tr w0 S w L) (hw : Region.wanted o (yielded ops a.tmps) = true) {len : Nat} {l : List (Nat × Operand)} (ho : o.op = .buildSlice t len l.toArray) (hu : P.underlying t = some (.slice e)) {z : Value} {bytes : Nat} (hi : (P.info? e).map (fun i => (i.zero, i.size, i.bytes)) = some (some z, 1, bytes))
    (h24 : len ≤ 16777216) (h0 : 0 < len) (vs : List Value) (hl : l.map (fun p => (p.1, a.eval p.2)) = vs.zipIdx.map fun x => (x.2, x.1)) (hlen : vs.length = len) (h1 : ∀ v ∈ vs, v.oneCell' = true)
    (k : ∀ w' b, Tr w0 S w' (Res.blk b vs.toArray e :: L) → wpList P ops Q rest (a.put o.dst (.slice (some ⟨b, 0, none⟩) len len)) w') : wpList P ops Q (o :: rest) a w :=
  wl_run hw (ex_buildSliceV ho hu hi h24 h0 vs hl hlen h1) (k _ _ (hs.call1 (tr_alloc w _ e)))

theorem wl_buildSlice1A (hs : Tr w0 S w L) (hw : Region.wanted o (yielded ops a.tmps) = true) (ho : o.op = .buildSlice t 1 #[(0, x)]) (hu : P.underlying t = some (.slice e)) {z : Value} {size bytes : Nat} (hi : (P.info? e).map (fun i => (i.zero, i.size, i.bytes)) = some (some z, size, bytes)) (h24 : size ≤ 16777216) (h0 : 0 < size)
    {cs : Array Value} (hx : a.eval x = .agg cs) (hcs : cs.size = size)
    (k : ∀ w' b, Tr w0 S w' (Res.blk b cs e :: L) → wpList P ops Q rest (a.put o.dst (.slice (some ⟨b, 0, none⟩) 1 1)) w') : wpList P ops Q (o :: rest) a w :=
  wl_run hw (ex_buildSlice1A ho hu hi h24 h0 hx hcs) (k _ _ (hs.call1 (tr_alloc w _ e)))

theorem wl_convStr (hw : Region.wanted o (yielded ops a.tmps) = true) {src dst : TypeId} (ho : o.op = .convert src dst x) (hsrc : P.underlying src = some (.slice e)) (he : P.underlying e = some (.int .u8)) (hd : P.underlying dst = some .string) {ao : Option Addr} {n c : Nat} (hx : a.eval x = .slice ao n c)
    {b off : Nat} {F : Nat → UInt8} (hao : 0 < n → ao = some ⟨b, off, none⟩) (hc : Rd w b off n (u8v F)) (k : wpList P ops Q rest (a.put o.dst (.string (strOf n F))) w) : wpList P ops Q (o :: rest) a w :=
  wl_run hw (ex_convStr ho hsrc he hd hx hao hc) k

theorem wl_eqlS (hw : Region.wanted o (yielded ops a.tmps) = true) {yt : TypeId} (ho : o.op = .binOp .eql t x y yt) {s1 s2 : ByteArray} (hx : a.eval x = .string s1) (hy : a.eval y = .string s2) (n m : Nat) (F G : Nat → UInt8) (h1 : s1 = strOf n F) (h2 : s2 = strOf m G)
    (k : wpList P ops Q rest (a.put o.dst (.bool (eqS n F m G))) w) : wpList P ops Q (o :: rest) a w := wl_run hw (ex_eqlS .eql false rfl ho hx hy h1 h2) k

theorem wl_neqS (hw : Region.wanted o (yielded ops a.tmps) = true) {yt : TypeId} (ho : o.op = .binOp .neq t x y yt) {s1 s2 : ByteArray} (hx : a.eval x = .string s1) (hy : a.eval y = .string s2) (n m : Nat) (F G : Nat → UInt8) (h1 : s1 = strOf n F) (h2 : s2 = strOf m G)
    (k : wpList P ops Q rest (a.put o.dst (.bool (!eqS n F m G))) w) : wpList P ops Q (o :: rest) a w := wl_run hw (ex_eqlS .neq true rfl ho hx hy h1 h2) k

/-- 'x << y', its value given. -/
theorem wl_shl (hw : Region.wanted o (yielded ops a.tmps) = true) {yt : TypeId} (ho : o.op = .binOp .shl t x y yt) {kx ky : IntKind} {X : Int} (hx : a.eval x = .int kx X) (Y : Nat) (hy : a.eval y = .int ky (Y : Int)) (R : Int) (hR : kx.wrap (X * 2 ^ min Y kx.bits) = R)
    (k : wpList P ops Q rest (a.put o.dst (.int kx R)) w) : wpList P ops Q (o :: rest) a w := by
  refine wl_run hw ?_ k
  unfold execOp
  simp only [ho, hx, hy, eqGuard, binOp, shift_shl_any _ _ _ _ (Int.natCast_nonneg Y), Int.toNat_natCast]
  simp [hR]

/-- 'x >> y', its value given. -/
theorem wl_shr (hw : Region.wanted o (yielded ops a.tmps) = true) {yt : TypeId} (ho : o.op = .binOp .shr t x y yt) {kx ky : IntKind} {X : Int} (hx : a.eval x = .int kx X) (Y : Nat) (hy : a.eval y = .int ky (Y : Int)) (R : Int) (hR : X / 2 ^ min Y kx.bits = R)
    (k : wpList P ops Q rest (a.put o.dst (.int kx R)) w) : wpList P ops Q (o :: rest) a w := by
  refine wl_run hw ?_ k
  unfold execOp
  simp only [ho, hx, hy, eqGuard, binOp, shift_shr_any _ _ _ _ (Int.natCast_nonneg Y), Int.toNat_natCast]
  simp [hR]

/-- 'x > y', its answer given. -/
theorem wl_gtr (hw : Region.wanted o (yielded ops a.tmps) = true) {yt : TypeId} (ho : o.op = .binOp .gtr t x y yt) {kx : IntKind} {X Y : Int} (hx : a.eval x = .int kx X) (hy : a.eval y = .int kx Y) (R : Bool) (hR : decide (X > Y) = R)
    (k : wpList P ops Q rest (a.put o.dst (.bool R)) w) : wpList P ops Q (o :: rest) a w := by
  refine wl_run hw ?_ k
  unfold execOp
  simp only [ho, hx, hy, eqGuard, binOp, Op.intCmp, hR]
  simp

/-- 'x == y', its answer given. -/
theorem wl_eqI (hw : Region.wanted o (yielded ops a.tmps) = true) {yt : TypeId} (ho : o.op = .binOp .eql t x y yt) {kx : IntKind} {X Y : Int} (hx : a.eval x = .int kx X) (hy : a.eval y = .int kx Y) (R : Bool) (hR : (X == Y) = R)
    (k : wpList P ops Q rest (a.put o.dst (.bool R)) w) : wpList P ops Q (o :: rest) a w := by
  refine wl_run hw ?_ k
  unfold execOp
  simp only [ho, hx, hy, eqGuard, binOp, Op.intCmp, hR]
  simp

/-- append to a slice that is nil or our own. -/
theorem wl_append (hs : Tr w0 S w L) (hg : o.guard = none) {s : Operand} {ty : TypeId} (ho : o.op = .call { callee := .builtin .append, args := #[s, x], argTypes := #[ty, ty] }) (hu : P.underlying ty = some (.slice e))
    {z : Value} {size bytes : Nat} (hinfo : (P.info? e).map (fun i => (i.zero, i.size, i.bytes)) = some (some z, size, bytes)) (hzs : z.cells.size = size) (hsz : 0 < size)
    (i : Nat) {v : Value} {n : Nat} {xs : List Value} (hi : L[i]? = some (Res.own e size v n xs)) (hv : a.eval s = v)
    {ao : Option Addr} {m c : Nat} (hx : a.eval x = .slice ao m c) (sb so : Nat) (hao : ao = some ⟨sb, so, none⟩) (news : List Value) (hl : news.length = m * size) (hnews : ∀ j u, news[j]? = some u → w.cell? ⟨sb, so + j, none⟩ = some u) (h1 : ∀ u ∈ news, u.oneCell' = true)
    (h63 : n + m ≤ maxLen) (hbytes : (n + m) * bytes ≤ 140737488355328)
    (k : ∀ w' v', Tr w0 S w' (L.set i (Res.own e size v' (n + m) (xs ++ news))) → (v' = .slice none 0 0 ↔ v = .slice none 0 0 ∧ m = 0) → wpList P ops Q rest (a.put o.dst v') w') : wpList P ops Q (o :: rest) a w := by
  obtain ⟨i0, h2, h3, h4, h5⟩ := info_parts hinfo
  subst hao
  refine wpList_append_own_at w hg s x ty ho 0 e i0 z size bytes hu h2 h3 h4 h5 hzs hsz v n xs hv (hs.getO i hi) ⟨sb, so, none⟩ m c news hx hl (fun j u hj => by rw [Addr.add_mid]; exact hnews j u hj) h1 h63 hbytes (Nat.zero_le _) ?_
  intro v' w' hown hgrow hnil hblk
  exact k w' v' (hs.upd i hi (tr_grown hgrow hown hblk)) hnil
end

/-! ### What a function hands back -/
section
variable {P : Program} {fn : Func} {R : Ending → World → Prop} {w0 w : World} {S : List Nat} {L : List Res} {a : Act}

/-- The one result lies in memory. -/
theorem ret_cell (hs : Tr w0 S w L) {p : Tmp} {ty : TypeId} (h : fn.results = #[.cell p ty]) (hd : a.defers = []) {d : TypeDesc} (hu : P.underlying ty = some d) (hrow : d.isRow = true) {b : Nat} (hp : a.eval (.tmp p) = .pointer (some ⟨b, 0, none⟩))
    (i : Nat) {cs : Array Value} {bt : TypeId} (hi : L[i]? = some (Res.blk b cs bt)) (hn : (P.info? ty).map (·.size) = some cs.size) (k : R (.returned (.agg cs)) w) : bodyPost P fn R .ret a w := by
  have hr := run_loadVar_row (P := P) w b bt ty cs (0, 0) d (hs.getB i hi) hu (by cases d <;> simp_all) hn
  have hp' : a.tmps[p]?.getD undef = .pointer (some ⟨b, 0, none⟩) := by simpa [Act.eval] using hp
  exact bodyPost_ret (by simp [results, h, hp', asAddr, hr]) hd k

/-- The first of two results lies in memory. -/
theorem ret_cell2 (hs : Tr w0 S w L) {p q : Tmp} {ty : TypeId} (h : fn.results = #[.cell p ty, .tmp q]) (hd : a.defers = []) {d : TypeDesc} (hu : P.underlying ty = some d) (hrow : d.isRow = true) {b : Nat} (hp : a.eval (.tmp p) = .pointer (some ⟨b, 0, none⟩))
    {v : Value} (hq : a.eval (.tmp q) = v) (i : Nat) {cs : Array Value} {bt : TypeId} (hi : L[i]? = some (Res.blk b cs bt)) (hn : (P.info? ty).map (·.size) = some cs.size) (k : R (.returned (.tuple #[.agg cs, v])) w) : bodyPost P fn R .ret a w := by
  have hr := run_loadVar_row (P := P) w b bt ty cs (0, 0) d (hs.getB i hi) hu (by cases d <;> simp_all) hn
  have hp' : a.tmps[p]?.getD undef = .pointer (some ⟨b, 0, none⟩) := by simpa [Act.eval] using hp
  have hq' : a.tmps[q]?.getD undef = v := by simpa [Act.eval] using hq
  exact bodyPost_ret (by simp [results, h, hp', hq', asAddr, hr]) hd k
end
end Go.Sp
