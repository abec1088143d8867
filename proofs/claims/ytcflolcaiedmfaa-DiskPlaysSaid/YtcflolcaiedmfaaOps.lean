/- The laws of the operations that touch memory, over the predicate Tr: at the list of a region's operations. -/
import Derived.Test.YtcflolcaiedmfaaSep
namespace Go.Sp
open Go Go.RowKit

variable {P : Program}

/-! ### From a run to the walk -/
section
variable {ops : Array Oper} {Q : Exit → Act → World → Prop} {a : Act} {w w' : World} {o : Oper} {rest : List Oper} {v : Value}

theorem wl_run (hw : Region.wanted o (yielded ops a.tmps) = true) (hr : (execOp a.eval o).run P w = .ok (.value v) w') (k : wpList P ops Q rest (a.put o.dst v) w') :
    wpList P ops Q (o :: rest) a w :=
  wpList_step fun K hK => by
    rw [if_pos hw]
    unfold Oper.wp
    rw [hr]
    exact hK _ _ k

theorem wl_skip (hw : Region.wanted o (yielded ops a.tmps) = true) (hr : (execOp a.eval o).run P w = .ok .skip w') (k : wpList P ops Q rest (a.put o.dst undef) w') :
    wpList P ops Q (o :: rest) a w :=
  wpList_step fun K hK => by
    rw [if_pos hw]
    unfold Oper.wp
    rw [hr]
    exact hK _ _ k

theorem wl_enter (hw : Region.wanted o (yielded ops a.tmps) = true) {f : FuncId} {args : Array Value} (hr : (execOp a.eval o).run P w = .ok (.enter f args) w')
    (k : Calls P f args w' fun e w'' => ∃ v, e = .returned v ∧ wpList P ops Q rest (a.put o.dst v) w'') : wpList P ops Q (o :: rest) a w :=
  wpList_step fun K hK => by
    rw [if_pos hw]
    unfold Oper.wp
    rw [hr]
    exact k.mono fun e w'' ⟨v, he, hk⟩ => by subst he; exact hK _ _ hk
end

/-! ### Runs -/
section
variable {a : Act} {w : World} {o : Oper} {t e : TypeId} {x y : Operand}

theorem ex_box (ho : o.op = .box t x) {v : Value} (hx : a.eval x = v) : (execOp a.eval o).run P w = .ok (.value (.pointer (some ⟨w.heap.size, 0, none⟩))) (w.alloc (.cells v.cells t)) := by
  unfold execOp; simp [ho, hx, Instr.box, newVar, newRow]

theorem ex_alloc (ho : o.op = .alloc t) {z : Value} (hz : (P.info? t).map (·.zero) = some (some z)) :
    (execOp a.eval o).run P w = .ok (.value (.pointer (some ⟨w.heap.size, 0, none⟩))) (w.alloc (.cells z.cells t)) := by
  cases hq : P.info? t with
  | none => simp [hq] at hz
  | some i =>
    have hz' : i.zero = some z := by simpa [hq] using hz
    unfold execOp; simp [ho, Instr.alloc, zeroValue, typeInfo, hq, hz', newVar, newRow]

theorem ex_load1 (ho : o.op = .load t x) {d : TypeDesc} (hu : P.underlying t = some d) (hd : d.isRow = false) {p : Addr} (hx : a.eval x = .pointer (some p)) {v : Value} (hc : w.cell? p = some v) :
    (execOp a.eval o).run P w = .ok (.value v) w := by
  have hagg : (isAgg t).run P w = .ok false w := by
    unfold isAgg
    rw [Sem.run_bind, run_underlying hu w]
    cases d <;> simp_all
  unfold execOp
  simp only [ho, hx, Instr.loadAt, Instr.sureAddr, loadVar, Sem.run_bind, Sem.run_pure, Result.andThen_ok, hagg, Bool.false_eq_true, if_false, run_load, hc]

theorem ex_loadA (ho : o.op = .load t x) {d : TypeDesc} (hu : P.underlying t = some d) (hd : d.isRow = true) {b off n : Nat} (hn : (P.info? t).map (·.size) = some n) (hx : a.eval x = .pointer (some ⟨b, off, none⟩))
    {f : Nat → Value} (hc : ∀ j, j < n → w.cell? ⟨b, off + j, none⟩ = some (f j)) : (execOp a.eval o).run P w = .ok (.value (.agg (rowOf n f))) w := by
  have hr : w.rangeAt b off (rowOf n f).toList := fun j v hv => by
    simp only [Array.getElem?_toList, rowOf_getElem?] at hv
    split at hv
    · rename_i hj; rw [hc j hj]; exact hv
    · cases hv
  have := run_loadVar_mid (P := P) w b off t (rowOf n f).toList d hr hu hd (by simpa using hn)
  unfold execOp
  simp only [ho, hx, Instr.loadAt, Instr.sureAddr, Sem.run_bind, Sem.run_pure, Result.andThen_ok, this]

theorem ex_loadAA (ho : o.op = .load t x) {d : TypeDesc} (hu : P.underlying t = some d) (hd : d.isRow = true) {b : Nat} {cs : Array Value} {bt : TypeId} {fr : Nat × Nat} (hn : (P.info? t).map (·.size) = some cs.size)
    (hx : a.eval x = .pointer (some ⟨b, 0, none⟩)) (hb : w.heap[b]? = some (.cells cs bt fr)) : (execOp a.eval o).run P w = .ok (.value (.agg cs)) w := by
  have := run_loadVar_row (P := P) w b bt t cs fr d hb hu (by cases d <;> simp_all) hn
  unfold execOp
  simp only [ho, hx, Instr.loadAt, Instr.sureAddr, Sem.run_bind, Sem.run_pure, Result.andThen_ok, this]

theorem ex_store1 (ho : o.op = .store t x y) {v : Value} (hn : (P.info? t).map (·.size) = some 1) {b off : Nat} (hx : a.eval x = .pointer (some ⟨b, off, none⟩)) (hy : a.eval y = v) (h1 : v.oneCell' = true)
    {cs : Array Value} {bt : TypeId} (hb : w.heap[b]? = some (.cells cs bt (0, 0))) (hoff : off < cs.size) : (execOp a.eval o).run P w = .ok .skip (w.setRow b (cs.setIfInBounds off v)) := by
  have hcell : w.cell? ⟨b, off, none⟩ = some cs[off] := by simp [World.cell?, hb, hoff]
  have hfro : w.frozen? ⟨b, off, none⟩ = false := by simp [World.frozen?, hb]
  have hcells : v.cells = #[v] := by cases v <;> simp_all [Value.cells, Value.oneCell']
  have hst : (store (⟨b, off, none⟩ : Addr) v).run P w = .ok () (w.setRow b (cs.setIfInBounds off v)) := by
    rw [run_store P w _ v _ h1, hcell]
    simp [hfro, setCell_eq_setRow w b off cs bt (0, 0) v hb]
  cases hq : P.info? t with
  | none => simp [hq] at hn
  | some i =>
    have hs : i.size = 1 := by simpa [hq] using hn
    unfold execOp
    simp [ho, hx, hy, Instr.storeAt, Instr.sureAddr, storeVar, sizeOf, typeInfo, hq, hs, hcells, storeCells, Addr.add, hst]

theorem ex_storeA (ho : o.op = .store t x y) {n : Nat} (hn : (P.info? t).map (·.size) = some n) {b off : Nat} (hx : a.eval x = .pointer (some ⟨b, off, none⟩)) {ys : Array Value} (hy : a.eval y = .agg ys) (hys : ys.size = n)
    (h1 : ∀ v ∈ ys.toList, v.oneCell' = true) {cs : Array Value} {bt : TypeId} (hb : w.heap[b]? = some (.cells cs bt (0, 0))) (hfit : off + n ≤ cs.size) :
    (execOp a.eval o).run P w = .ok .skip (w.setRow b (cs.toList.take off ++ ys.toList ++ cs.toList.drop (off + ys.toList.length)).toArray) := by
  have hst := run_storeCells_at P b off bt ys.toList 0 cs w hb (by simp; omega) h1
  simp only [Nat.add_zero] at hst
  cases hq : P.info? t with
  | none => simp [hq] at hn
  | some i =>
    have hs : i.size = n := by simpa [hq] using hn
    unfold execOp
    simp [ho, hx, hy, Instr.storeAt, Instr.sureAddr, storeVar, sizeOf, typeInfo, hq, hs, Value.cells, hys, hst]

/-- 'x == y' on arrays of integers of one kind. -/
theorem run_forIn_eq {d : Nat} {el : TypeId} {k : IntKind} (he : P.underlying el = some (.int k)) {n : Nat} {f g : Nat → Int} (w : World) : ∀ (m s : Nat), s + m = n →
    (forIn (m := Sem) (List.range' s m) ((Option.none, ()) : Option Bool × Unit) fun i _ => do
      if !(← Op.equalIn (d + 1) el (← part el (rowOf n fun i => .int k (f i)) (i * 1)) (← part el (rowOf n fun i => .int k (g i)) (i * 1))) then pure (.done (some false, ())) else pure (.yield (Option.none, ()))).run P w =
      .ok (if ∀ j, j < m → f (s + j) = g (s + j) then ((Option.none, ()) : Option Bool × Unit) else (some false, ())) w
  | 0, s, hs => by simp
  | m + 1, s, hs => by
    have hsn : s < n := by omega
    have hagg : (isAgg el).run P w = .ok false w := by
      unfold isAgg
      rw [Sem.run_bind, run_underlying he w]
      rfl
    have hp : ∀ f : Nat → Int, (part el (rowOf n fun i => .int k (f i)) (s * 1)).run P w = .ok (.int k (f s)) w := fun f => by
      unfold part
      simp [Sem.run_bind, hagg, rowOf_get hsn]
    have ih := run_forIn_eq (d := d) he (n := n) (f := f) (g := g) w m (s + 1) (by omega)
    simp only [List.range'_succ, List.forIn_cons, Sem.run_bind, hp, Result.andThen_ok]
    rw [run_equalIn_int w d el k k (f s) (g s) he]
    simp only [Result.andThen_ok, Sem.run_ite]
    by_cases h : f s = g s
    · have e : (!(f s == g s)) = false := by simp [h]
      rw [if_neg (by rw [e]; simp)]
      simp only [Sem.run_pure, Result.andThen_ok]
      rw [ih]
      have : (∀ j, j < m → f (s + 1 + j) = g (s + 1 + j)) ↔ (∀ j, j < m + 1 → f (s + j) = g (s + j)) :=
        ⟨fun hh j h1 => by
          cases j with
          | zero => exact h
          | succ j => have := hh j (by omega); rwa [show s + 1 + j = s + (j + 1) from by omega] at this,
         fun hh j h1 => by have := hh (j + 1) (by omega); rwa [show s + (j + 1) = s + 1 + j from by omega] at this⟩
      by_cases hq : ∀ j, j < m → f (s + 1 + j) = g (s + 1 + j)
      · rw [if_pos hq, if_pos (this.1 hq)]
      · rw [if_neg hq, if_neg (fun hc => hq (this.2 hc))]
    · have e : (!(f s == g s)) = true := by simp [h]
      rw [if_pos e]
      have : ¬ ∀ j, j < m + 1 → f (s + j) = g (s + j) := fun hh => h (hh 0 (by omega))
      rw [if_neg this]
      simp

theorem run_equalIn_ints (d : Nat) {n : Nat} {f g : Nat → Int} {k : IntKind} {el : TypeId} (hu : P.underlying t = some (.array n el)) (he : P.underlying el = some (.int k)) (hn : (P.info? el).map (·.size) = some 1) (w : World) :
    (Op.equalIn (d + 2) t (.agg (rowOf n fun i => .int k (f i))) (.agg (rowOf n fun i => .int k (g i)))).run P w = .ok (decide (∀ i, i < n → f i = g i)) w := by
  cases hq : P.info? el with
  | none => simp [hq] at hn
  | some i =>
    have hs : i.size = 1 := by simpa [hq] using hn
    have hsz : (sizeOf el).run P w = .ok 1 w := by simp [sizeOf, typeInfo, hq, hs]
    have h := run_forIn_eq (P := P) (d := d) he (n := n) (f := f) (g := g) w n 0 (by omega)
    rw [show d + 2 = (d + 1) + 1 from rfl]
    rw [Op.equalIn]
    simp only [Sem.run_bind, run_underlying hu, Result.andThen_ok, hsz, Std.Legacy.Range.forIn_eq_forIn_range', Std.Legacy.Range.size, Nat.sub_zero, Nat.add_one_sub_one, Nat.div_one]
    rw [h]
    simp only [Result.andThen_ok, Nat.zero_add]
    by_cases hh : ∀ j, j < n → f j = g j
    · rw [if_pos hh]; simp only [Sem.run_pure]; rw [decide_eq_true hh]
    · rw [if_neg hh]; simp only [Sem.run_pure]; rw [decide_eq_false hh]

theorem ex_eqlA (op : BinOp) (neg : Bool) (hop : op = if neg then .neq else .eql) {yt : TypeId} (ho : o.op = .binOp op t x y yt) {n : Nat} {f g : Nat → Int} {k : IntKind} {el : TypeId} (hu : P.underlying t = some (.array n el)) (he : P.underlying el = some (.int k))
    (hn : (P.info? el).map (·.size) = some 1) (hq : P.eqGuardType P.depth t = false) (hx : a.eval x = .agg (rowOf n fun i => .int k (f i))) (hy : a.eval y = .agg (rowOf n fun i => .int k (g i))) :
    (execOp a.eval o).run P w = .ok (.value (.bool (if neg then !decide (∀ i, i < n → f i = g i) else decide (∀ i, i < n → f i = g i)))) w := by
  have h := run_equalIn_ints (P := P) 9998 hu he hn (f := f) (g := g) w
  cases neg
  · simp only [Bool.false_eq_true, if_false] at hop ⊢
    subst hop
    unfold execOp
    simp only [ho, hx, hy, Sem.run_bind, run_eqGuard_agg _ _ _ _ _ _ _ hq, Result.andThen_ok, run_eql_struct, h, Sem.run_pure]
  · simp only [if_true] at hop ⊢
    subst hop
    unfold execOp
    simp only [ho, hx, hy, Sem.run_bind, run_eqGuard_agg _ _ _ _ _ _ _ hq, Result.andThen_ok, run_neq_struct, h, Sem.run_pure]

/-- A whole array's zero value, built. -/
theorem ex_build0 (ho : o.op = .build t #[]) {n : Nat} {el : TypeId} (hu : P.underlying t = some (.array n el)) {cs : Array Value} (hz : (P.info? t).map (·.zero) = some (some (.agg cs))) (hel : (P.info? el).isSome = true) :
    (execOp a.eval o).run P w = .ok (.value (.agg cs)) w := by
  cases hq : P.info? t with
  | none => simp [hq] at hz
  | some i =>
    have hz' : i.zero = some (.agg cs) := by simpa [hq] using hz
    obtain ⟨j, hj⟩ := Option.isSome_iff_exists.1 hel
    unfold execOp
    simp [ho, Instr.build, zeroValue, typeInfo, hq, hz', run_underlying hu, sizeOf, hj, Instr.fill, Value.cells]

/-- 'make([]T, n)'. -/
theorem ex_make {l c : Operand} (ho : o.op = .makeSlice t l c) (hu : P.underlying t = some (.slice e)) {z : Value} {size bytes : Nat} (hi : (P.info? e).map (fun i => (i.zero, i.size, i.bytes)) = some (some z, size, bytes))
    {kl kc : IntKind} {iv : Int} (n : Nat) (hl : a.eval l = .int kl iv) (hc : a.eval c = .int kc iv) (hn : iv = (n : Int)) (hb : bytes * n ≤ 281474976710656) (h63 : n ≤ 9223372036854775807) {f : Nat → Value}
    (hf : ∀ i, i < n * size → z.cells[i % z.cells.size]! = f i) :
    (execOp a.eval o).run P w = .ok (.value (.slice (some ⟨w.heap.size, 0, none⟩) n n)) (w.alloc (.cells (rowOf (n * size) f) e)) := by
  obtain ⟨i, hinfo, hz, hsz, hby⟩ := info_parts hi
  have hb' : (i.bytes : Int) * (n : Int) ≤ 281474976710656 := by
    have h : ((i.bytes * n : Nat) : Int) ≤ 281474976710656 := by rw [hby]; omega
    rwa [Int.natCast_mul] at h
  have hr := run_make (P := P) w t e i z hu hinfo hz kl kc n n (by omega) (by omega) hb' (by omega)
  simp only [Int.toNat_natCast] at hr
  subst hn
  have e1 : madeCells z.cells (n * i.size) = rowOf (n * size) f := by
    rw [hsz]
    refine rowOf_ext (by simp [madeCells]) fun j hj => ?_
    simp only [madeCells, Array.getElem?_map, Array.getElem?_range, hj, if_true, Option.map_some]
    rw [hf j hj]
  rw [e1] at hr
  unfold execOp
  simp [ho, hl, hc, hr]

/-- 'copy(dst, src)', elements of sz cells: m of them go over. -/
theorem ex_copy {d s : Operand} {dT sT : TypeId} (ho : o.op = .call { callee := .builtin .copy, args := #[d, s], argTypes := #[dT, sT] }) (hu : P.underlying dT = some (.slice e)) {sz : Nat} (hsz : (P.info? e).map (·.size) = some sz)
    {dp sp : Option Addr} {dLen dCap sLen sCap m : Nat} (hd : a.eval d = .slice dp dLen dCap) (hs : a.eval s = .slice sp sLen sCap) (hm : m = min sLen dLen)
    {b off N : Nat} {f g : Nat → Value} {bt : TypeId} (hdp : 0 < m → dp = some ⟨b, off, none⟩) (hb : w.heap[b]? = some (.cells (rowOf N f) bt (0, 0))) (hfit : off + m * sz ≤ N)
    {sb so : Nat} (hsp : 0 < m → sp = some ⟨sb, so, none⟩) (hc : ∀ j, j < m * sz → w.cell? ⟨sb, so + j, none⟩ = some (g j)) (h1 : ∀ j, j < m * sz → (g j).oneCell' = true) :
    (execOp a.eval o).run P w = .ok (.value (.int .i64 (m : Int))) (w.setRow b (rowOf N fun j => if off ≤ j ∧ j < off + m * sz then g (j - off) else f j)) := by
  cases hq : P.info? e with
  | none => simp [hq] at hsz
  | some i =>
    have hi : i.size = sz := by simpa [hq] using hsz
    have hmin : Nat.min sLen dLen = m := hm.symm
    by_cases h0 : m = 0
    · subst h0
      have e1 : (rowOf N fun j => if off ≤ j ∧ j < off + 0 * sz then g (j - off) else f j) = rowOf N f := rowOf_congr fun j _ => by
        rw [if_neg (by omega)]
      rw [e1, setRow_self w b _ bt (0, 0) hb]
      have hfc : (Builtin.firstCells i.size 0 (.slice sp sLen sCap)).run P w = .ok #[] w := by
        cases sp <;> simp [Builtin.firstCells, loadCells, loadCellsFrom]
      unfold execOp
      cases dp <;> simp [ho, resolve, invoke, builtin, hd, hs, Builtin.copy_, run_underlying hu, Builtin.lenOf, sizeOf, typeInfo, hq, hmin, hfc, storeCells, goInt]
    · have hdp := hdp (by omega)
      have hsp := hsp (by omega)
      subst hdp hsp
      have hfc := run_firstCells_some (P := P) w i.size m ⟨sb, so, none⟩ sLen sCap (rowOf (m * sz) g).toList (by simp [hi]) (fun j v hv => by
        rw [Addr.add_mid]
        simp only [Array.getElem?_toList, rowOf_getElem?] at hv
        split at hv
        · rename_i hj; rw [hc j hj]; exact hv
        · cases hv)
      have hst := run_storeCells_at P b off bt (rowOf (m * sz) g).toList 0 (rowOf N f) w hb (by simp; omega) (rowOf_one _ _ h1)
      simp only [Nat.add_zero] at hst
      rw [rowOf_splice f g off hfit] at hst
      unfold execOp
      simp [ho, resolve, invoke, builtin, hd, hs, Builtin.copy_, run_underlying hu, Builtin.lenOf, sizeOf, typeInfo, hq, hmin, hfc, hst, goInt]

/-- 'clear(s)', s a slice of one-cell elements whose zero is z. -/
theorem ex_clear {x : Operand} (ho : o.op = .call { callee := .builtin .clear, args := #[x], argTypes := #[t] }) (hu : P.underlying t = some (.slice e)) {z : Value} (hz : (P.info? e).map (·.zero) = some (some z)) (hz1 : z.cells = #[z]) (h1 : z.oneCell' = true)
    {ao : Option Addr} {n c : Nat} (hx : a.eval x = .slice ao n c) {b off N : Nat} {f : Nat → Value} {bt : TypeId} (hao : 0 < n → ao = some ⟨b, off, none⟩) (hb : w.heap[b]? = some (.cells (rowOf N f) bt (0, 0))) (hfit : off + n ≤ N) :
    (execOp a.eval o).run P w = .ok (.value (.tuple #[])) (w.setRow b (rowOf N fun j => if off ≤ j ∧ j < off + n then z else f j)) := by
  cases hq : P.info? e with
  | none => simp [hq] at hz
  | some i =>
    have hz' : i.zero = some z := by simpa [hq] using hz
    by_cases h0 : n = 0
    · subst h0
      have e1 : (rowOf N fun j => if off ≤ j ∧ j < off + 0 then z else f j) = rowOf N f := rowOf_congr fun j _ => by rw [if_neg (by omega)]
      rw [e1, setRow_self w b _ bt (0, 0) hb]
      unfold execOp
      cases ao <;> simp [ho, resolve, invoke, builtin, hx, Builtin.clear_, run_underlying hu]
    · obtain rfl := hao (by omega)
      have hzc : (Builtin.zeroCells z.cells n) = rowOf n fun _ => z := by
        refine rowOf_ext (by simp [Builtin.zeroCells, hz1]) fun j hj => ?_
        simp [Builtin.zeroCells, hz1, hj, Nat.mod_one]
      have hst := run_storeCells_at P b off bt (rowOf n fun _ => z).toList 0 (rowOf N f) w hb (by simp; omega) (rowOf_one _ _ fun _ _ => h1)
      simp only [Nat.add_zero] at hst
      rw [rowOf_splice f (fun _ => z) off hfit] at hst
      obtain ⟨n, rfl⟩ : ∃ k, n = k + 1 := ⟨n - 1, by omega⟩
      unfold execOp
      simp [ho, resolve, invoke, builtin, hx, Builtin.clear_, run_underlying hu, zeroValue, typeInfo, hq, hz', hzc, hst]

/-- An element's address. -/
theorem ex_indexS {x y : Operand} (ho : o.op = .indexAddr t x y) (hu : P.underlying t = some (.slice e)) {sz : Nat} (hsz : (P.info? e).map (·.size) = some sz) {ao : Option Addr} {n c : Nat} (hx : a.eval x = .slice ao n c) {k : IntKind} {iv : Int} (hy : a.eval y = .int k iv)
    (j : Nat) (hj : iv = (j : Int)) (hjn : j < n) {b off : Nat} (hao : ao = some ⟨b, off, none⟩) : (execOp a.eval o).run P w = .ok (.value (.pointer (some ⟨b, off + j * sz, none⟩))) w := by
  subst hao hj
  cases hq : P.info? e with
  | none => simp [hq] at hsz
  | some i =>
    have hi : i.size = sz := by simpa [hq] using hsz
    have h1 : (0 : Int) ≤ (j : Int) ∧ (j : Int) < (n : Int) := by omega
    unfold execOp
    simp [ho, hx, hy, Instr.indexAt, asIntOf, run_underlying hu, h1, sizeOf, typeInfo, hq, hi, Addr.add_mid, hjn]

/-- 's[lo:hi]', the two given or not, of a slice. -/
theorem ex_slice {x : Operand} {lo hi : Option Operand} (ho : o.op = .slice t x lo hi none) (hu : P.underlying t = some (.slice e)) {sz : Nat} (hsz : (P.info? e).map (·.size) = some sz) {ao : Option Addr} {n c : Nat} (hx : a.eval x = .slice ao n c)
    {l h : Nat} (hlo : (lo = none ∧ l = 0) ∨ ∃ p k, lo = some p ∧ a.eval p = .int k (l : Int)) (hhi : (hi = none ∧ h = n) ∨ ∃ p k, hi = some p ∧ a.eval p = .int k (h : Int)) (hlh : l ≤ h) (hhc : h ≤ c) {b off : Nat} (hao : l < h → ao = some ⟨b, off, none⟩) :
    ∃ ao', (l < h → ao' = some ⟨b, off + l * sz, none⟩) ∧ (execOp a.eval o).run P w = .ok (.value (.slice ao' (h - l) (c - l))) w := by
  cases hq : P.info? e with
  | none => simp [hq] at hsz
  | some i =>
    have hi' : i.size = sz := by simpa [hq] using hsz
    refine ⟨if c = l then ao else ao.map (·.add (l * sz)), fun hlt => ?_, ?_⟩
    · rw [if_neg (by omega), hao hlt]
      simp [Addr.add_mid]
    · have hb : (Instr.sliceBounds true n c (lo.map a.eval) (hi.map a.eval) none).run P w = .ok (l, h, c) w := by
        rcases hlo with ⟨rfl, rfl⟩ | ⟨p, k, rfl, hp⟩
        · rcases hhi with ⟨rfl, rfl⟩ | ⟨p2, k2, rfl, hp2⟩
          · simp [Instr.sliceBounds]
          · have : (Instr.sliceBound (.int k2 (h : Int)) c .sliceAcap).run P w = .ok h w := by
              simp [Instr.sliceBound, asIntOf, hhc]
            simp [Instr.sliceBounds, hp2, this]
        · rcases hhi with ⟨rfl, rfl⟩ | ⟨p2, k2, rfl, hp2⟩
          · have : (Instr.sliceBound (.int k (l : Int)) h .sliceB).run P w = .ok l w := by
              simp [Instr.sliceBound, asIntOf, hlh]
            simp [Instr.sliceBounds, hp, this]
          · have h1 : (Instr.sliceBound (.int k2 (h : Int)) c .sliceAcap).run P w = .ok h w := by
              simp [Instr.sliceBound, asIntOf, hhc]
            have h2 : (Instr.sliceBound (.int k (l : Int)) h .sliceB).run P w = .ok l w := by
              simp [Instr.sliceBound, asIntOf, hlh]
            simp [Instr.sliceBounds, hp, hp2, h1, h2]
      unfold execOp
      simp [ho, hx, Instr.sliceAt, run_underlying hu, Instr.slice, hb, sizeOf, typeInfo, hq, hi']

/-- 'p[lo:hi]' of an array behind a pointer. -/
theorem ex_sliceA {x : Operand} {lo hi : Option Operand} (ho : o.op = .slice t x lo hi none) {N : Nat} (hu : P.underlying t = some (.array N e)) {sz : Nat} (hsz : (P.info? e).map (·.size) = some sz) {b off : Nat} (hx : a.eval x = .pointer (some ⟨b, off, none⟩))
    {l h : Nat} (hlo : (lo = none ∧ l = 0) ∨ ∃ p k, lo = some p ∧ a.eval p = .int k (l : Int)) (hhi : (hi = none ∧ h = N) ∨ ∃ p k, hi = some p ∧ a.eval p = .int k (h : Int)) (hlh : l ≤ h) (hhc : h ≤ N) :
    ∃ ao', (l < h → ao' = some ⟨b, off + l * sz, none⟩) ∧ (execOp a.eval o).run P w = .ok (.value (.slice ao' (h - l) (N - l))) w := by
  cases hq : P.info? e with
  | none => simp [hq] at hsz
  | some i =>
    have hi' : i.size = sz := by simpa [hq] using hsz
    refine ⟨some (if N = l then ⟨b, off, none⟩ else (⟨b, off, none⟩ : Addr).add (l * sz)), fun hlt => ?_, ?_⟩
    · rw [if_neg (by omega), Addr.add_mid]
    · have hb : (Instr.sliceBounds false N N (lo.map a.eval) (hi.map a.eval) none).run P w = .ok (l, h, N) w := by
        rcases hlo with ⟨rfl, rfl⟩ | ⟨p, k, rfl, hp⟩
        · rcases hhi with ⟨rfl, rfl⟩ | ⟨p2, k2, rfl, hp2⟩
          · simp [Instr.sliceBounds]
          · have : (Instr.sliceBound (.int k2 (h : Int)) N .sliceAlen).run P w = .ok h w := by
              simp [Instr.sliceBound, asIntOf, hhc]
            simp [Instr.sliceBounds, hp2, this]
        · rcases hhi with ⟨rfl, rfl⟩ | ⟨p2, k2, rfl, hp2⟩
          · have : (Instr.sliceBound (.int k (l : Int)) h .sliceB).run P w = .ok l w := by
              simp [Instr.sliceBound, asIntOf, hlh]
            simp [Instr.sliceBounds, hp, this]
          · have h1 : (Instr.sliceBound (.int k2 (h : Int)) N .sliceAlen).run P w = .ok h w := by
              simp [Instr.sliceBound, asIntOf, hhc]
            have h2 : (Instr.sliceBound (.int k (l : Int)) h .sliceB).run P w = .ok l w := by
              simp [Instr.sliceBound, asIntOf, hlh]
            simp [Instr.sliceBounds, hp, hp2, h1, h2]
      unfold execOp
      simp [ho, hx, Instr.sliceAt, Instr.sureAddr, run_underlying hu, hb, sizeOf, typeInfo, hq, hi']

theorem foldl_set (off : Nat) : ∀ (l : List Value) (s : Nat) (cells : Array Value), off + s + l.length ≤ cells.size →
    (l.zipIdx s).foldl (fun cs (x : Value × Nat) => cs.setIfInBounds (off + x.2) x.1) cells = (cells.toList.take (off + s) ++ l ++ cells.toList.drop (off + s + l.length)).toArray
  | [], s, cells, _ => by simp
  | v :: r, s, cells, h => by
    simp only [List.length_cons] at h
    simp only [List.zipIdx_cons, List.foldl_cons]
    rw [foldl_set off r (s + 1) _ (by simp; omega)]
    have e := list_seg_step cells.toList (off + s) v r (by simp; omega)
    simp only [List.length_cons]
    rw [show off + (s + 1) = off + s + 1 from by omega]
    simpa [Array.toList_setIfInBounds] using e

theorem ex_buildSlice {len : Nat} {parts : Array (Nat × Operand)} (ho : o.op = .buildSlice t len parts) (hu : P.underlying t = some (.slice e)) {z : Value} {size bytes : Nat} (hi : (P.info? e).map (fun i => (i.zero, i.size, i.bytes)) = some (some z, size, bytes))
    (h24 : len * size ≤ 16777216) (h0 : len * size ≠ 0) {cells : Array Value} (hf : Instr.fill (fun i => some (i * size, size)) ((Array.range (len * size)).map (z.cells[· % z.cells.size]!)) (parts.map fun (i, x) => (i, a.eval x)).toList = some cells) :
    (execOp a.eval o).run P w = .ok (.value (.slice (some ⟨w.heap.size, 0, none⟩) len len)) (w.alloc (.cells cells e)) := by
  obtain ⟨i, hinfo, hz, hsz, hby⟩ := info_parts hi
  unfold execOp
  have h24' : ¬ 16777216 < len * size := by omega
  simp only [ho, Instr.buildSlice, Sem.run_bind, run_underlying hu, Result.andThen_ok, sizeOf, typeInfo, run_program, hinfo, Sem.run_pure, hsz, zeroValue, hz, h0, if_false, gt_iff_lt, Nat.reducePow, h24', Sem.run_ite, hf, newRow, run_newObj]
  simp

theorem fill_one (size : Nat) (Z cs : Array Value) (hZ : Z.size = size) (hcs : cs.size = size) : Instr.fill (fun i => some (i * size, size)) Z [(0, .agg cs)] = some cs := by
  have hv : (Value.agg cs).cells = cs := rfl
  have hfold := foldl_set (0 * size) cs.toList 0 Z (by simp [hcs, hZ])
  have e1 : cs.zipIdx.foldl (fun cs (x : Value × Nat) => cs.setIfInBounds (0 * size + x.2) x.1) Z = cs := by
    rw [← Array.foldl_toList, Array.toList_zipIdx, hfold]
    have : Z.toList.drop (0 * size + 0 + cs.toList.length) = [] := List.drop_eq_nil_of_le (by simp [hcs, hZ])
    rw [this]
    simp
  have h1 : (decide ((Value.agg cs).cells.size ≠ size) || decide (0 * size + (Value.agg cs).cells.size > Z.size)) = false := by
    rw [hv]; simp [hcs, hZ]
  unfold Instr.fill
  simp only [h1]
  exact congrArg some e1

/-- A slice of one aggregate. -/
theorem ex_buildSlice1A {x : Operand} (ho : o.op = .buildSlice t 1 #[(0, x)]) (hu : P.underlying t = some (.slice e)) {z : Value} {size bytes : Nat} (hi : (P.info? e).map (fun i => (i.zero, i.size, i.bytes)) = some (some z, size, bytes)) (h24 : size ≤ 16777216) (h0 : 0 < size)
    {cs : Array Value} (hx : a.eval x = .agg cs) (hcs : cs.size = size) :
    (execOp a.eval o).run P w = .ok (.value (.slice (some ⟨w.heap.size, 0, none⟩) 1 1)) (w.alloc (.cells cs e)) := by
  refine ex_buildSlice ho hu hi (by omega) (by omega) ?_
  simp only [List.map_toArray, List.map_cons, List.map_nil, hx]
  exact fill_one size _ cs (by simp) hcs

/-- 'string(b)', b bytes. -/
theorem ex_convStr {src dst : TypeId} (ho : o.op = .convert src dst x) (hsrc : P.underlying src = some (.slice e)) (he : P.underlying e = some (.int .u8)) (hd : P.underlying dst = some .string) {ao : Option Addr} {n c : Nat} (hx : a.eval x = .slice ao n c)
    {b off : Nat} {F : Nat → UInt8} (hao : 0 < n → ao = some ⟨b, off, none⟩) (hc : Rd w b off n (u8v F)) : (execOp a.eval o).run P w = .ok (.value (.string (strOf n F))) w := by
  have hrun : (convert src dst (.slice ao n c)).run P w = .ok (.string (strOf n F)) w := by
    by_cases h0 : n = 0
    · subst h0
      cases ao with
      | none => exact run_convert_bytes_nil w src e hsrc he 0 c dst hd
      | some ad =>
        rw [run_convert_bytes_string w src dst e _ 0 c hsrc he hd]
        simp [Conv.bytesToString, loadCells, loadCellsFrom]
        rfl
    · have hao := hao (by omega)
      subst hao
      have h := run_convert_bytes_arg (P := P) w src e hsrc he b off n c ((List.range n).map fun i => ((F i).toNat : Int)) (by simp) (fun i hi => by
        rw [hc i hi]; simp [u8v, hi]) dst hd
      rw [h]
      congr 2
      simp only [strOfNums, strOf, List.map_map]
      congr 3
      funext i
      simp
  unfold execOp
  simp [ho, hx, hrun]

theorem ex_eqlS (op : BinOp) (neg : Bool) (hop : op = if neg then .neq else .eql) {yt : TypeId} (ho : o.op = .binOp op t x y yt) {s1 s2 : ByteArray} (hx : a.eval x = .string s1) (hy : a.eval y = .string s2) {n m : Nat} {F G : Nat → UInt8} (h1 : s1 = strOf n F) (h2 : s2 = strOf m G) :
    (execOp a.eval o).run P w = .ok (.value (.bool (if neg then !eqS n F m G else eqS n F m G))) w := by
  subst h1 h2
  cases neg
  · simp only [Bool.false_eq_true, if_false] at hop ⊢
    subst hop
    unfold execOp
    simp [ho, hx, hy, eqGuard, binOp, Op.stringOp, strOf_eq]
  · simp only [if_true] at hop ⊢
    subst hop
    unfold execOp
    simp [ho, hx, hy, eqGuard, binOp, Op.stringOp, strOf_eq]

theorem fill_scalars : ∀ (vs : List Value) (s : Nat) (Z : Array Value), (∀ v ∈ vs, v.oneCell' = true) → s + vs.length ≤ Z.size →
    Instr.fill (fun i => some (i * 1, 1)) Z ((vs.zipIdx s).map fun x => (x.2, x.1)) = some (Z.toList.take s ++ vs ++ Z.toList.drop (s + vs.length)).toArray
  | [], s, Z, _, _ => by simp [Instr.fill]
  | v :: r, s, Z, h1, h => by
    simp only [List.length_cons] at h
    have hv : v.cells = #[v] := by
      have := h1 v (by simp)
      cases v <;> simp_all [Value.cells, Value.oneCell']
    have ih := fill_scalars r (s + 1) (Z.setIfInBounds s v) (fun u hu => h1 u (by simp [hu])) (by simp; omega)
    have e := list_seg_step Z.toList s v r (by simp; omega)
    simp only [List.zipIdx_cons, List.map_cons]
    unfold Instr.fill
    have hc : (decide (v.cells.size ≠ 1) || decide (s * 1 + v.cells.size > Z.size)) = false := by rw [hv]; simp; omega
    simp only [hc]
    have hf : (v.cells.zipIdx.foldl (fun cs (x : Value × Nat) => cs.setIfInBounds (s * 1 + x.2) x.1) Z) = Z.setIfInBounds s v := by
      rw [hv, ← Array.foldl_toList, Array.toList_zipIdx]
      simp
    have hf' : (if false = true then Option.none else Instr.fill (fun i => some (i * 1, 1)) (v.cells.zipIdx.foldl (fun cs (x : Value × Nat) => cs.setIfInBounds (s * 1 + x.2) x.1) Z) ((r.zipIdx (s + 1)).map fun x => (x.2, x.1))) = some (Z.toList.take s ++ (v :: r) ++ Z.toList.drop (s + (r.length + 1))).toArray := by
      rw [hf, if_neg (by simp), ih]
      congr 2
      simpa [Array.toList_setIfInBounds] using e
    simpa using hf'

/-- A slice of one-cell values. -/
theorem ex_buildSliceV {len : Nat} {l : List (Nat × Operand)} (ho : o.op = .buildSlice t len l.toArray) (hu : P.underlying t = some (.slice e)) {z : Value} {bytes : Nat} (hi : (P.info? e).map (fun i => (i.zero, i.size, i.bytes)) = some (some z, 1, bytes))
    (h24 : len ≤ 16777216) (h0 : 0 < len) (vs : List Value) (hl : l.map (fun p => (p.1, a.eval p.2)) = vs.zipIdx.map fun x => (x.2, x.1)) (hlen : vs.length = len) (h1 : ∀ v ∈ vs, v.oneCell' = true) :
    (execOp a.eval o).run P w = .ok (.value (.slice (some ⟨w.heap.size, 0, none⟩) len len)) (w.alloc (.cells vs.toArray e)) := by
  refine ex_buildSlice ho hu hi (by omega) (by omega) ?_
  have h := fill_scalars vs 0 ((Array.range (len * 1)).map (z.cells[· % z.cells.size]!)) h1 (by simp [hlen])
  have hd : ((Array.range (len * 1)).map (z.cells[· % z.cells.size]!)).toList.drop (0 + vs.length) = [] := List.drop_eq_nil_of_le (by simp [hlen])
  rw [hd] at h
  rw [← hl] at h
  simpa using h
end
end Go.Sp
