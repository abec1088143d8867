/- A range over a function, by the predicate Tr. -/
import Derived.Test.YtdlnfdlgnbkppaaK
namespace Go.Sp
set_option linter.unusedVariables false
open Go Go.RowKit

section
variable {P : Program} {w0 w w' : World} {S : List Nat} {L : List Res}
theorem tr_putObj {b : Nat} {o o' : Obj} (hb : w.heap[b]? = some o) : Tr w [b] (w.putObj b o') [Res.obj b o'] := by
  have hlt : b < w.heap.size := (Array.getElem?_eq_some_iff.1 hb).1
  refine ⟨rfl, rfl, rfl, by simp, fun k _ hS => World.putObj_heap_other (by simpa using hS), ?_, by simp [feet, Res.obj], by simp [feet, Res.obj]⟩
  simp only [List.mem_singleton, forall_eq]
  have := World.putObj_heap_same (w := w) (o := o') hlt
  simpa [Res.obj] using this
theorem Tr.putObj (hs : Tr w0 S w L) (i : Nat) {b : Nat} {o : Obj} (hi : L[i]? = some (Res.obj b o)) (o' : Obj) : Tr w0 S (w.putObj b o') (L.set i (Res.obj b o')) := hs.updObj i hi (tr_putObj (hs.getObj i hi))
end

/-! ### Laws within a round -/
section
variable {F : Fence} {n : Nat} {P : Program} {w0 w w' : World} {S : List Nat} {L : List Res} {ops : Array Oper} {Q : Exit → Act → World → Prop} {a : Act} {o : Oper} {rest : List Oper} {t e : TypeId} {x y : Operand} {v : Value}
theorem wi_run (hF : ∀ f, F.fn f) (hd : ∀ c, o.op ≠ .defer c) (hw : Region.wanted o (yielded ops a.tmps) = true) (hr : (execOp a.eval o).run P w = .ok (.value v) w') (k : wpListIn F n P ops Q rest (a.put o.dst v) w') :
    wpListIn F n P ops Q (o :: rest) a w :=
  wpListIn_step fun K hK => by
    rw [if_pos hw]
    refine ⟨fun f _ => hF f, ?_⟩
    rw [Oper.semAt_plain F _ _ hd, hr]
    exact hK _ _ k
theorem wi_skip (hF : ∀ f, F.fn f) (hd : ∀ c, o.op ≠ .defer c) (hw : Region.wanted o (yielded ops a.tmps) = true) (hr : (execOp a.eval o).run P w = .ok .skip w') (k : wpListIn F n P ops Q rest (a.put o.dst undef) w') :
    wpListIn F n P ops Q (o :: rest) a w :=
  wpListIn_step fun K hK => by
    rw [if_pos hw]
    refine ⟨fun f _ => hF f, ?_⟩
    rw [Oper.semAt_plain F _ _ hd, hr]
    exact hK _ _ k
theorem iat_alloc (_ : o.op = .alloc t) (h : wpListIn F n P ops Q (o :: rest) a w) : wpListIn F n P ops Q (o :: rest) a w := h
theorem iat_load (_ : o.op = .load t x) (h : wpListIn F n P ops Q (o :: rest) a w) : wpListIn F n P ops Q (o :: rest) a w := h
theorem iat_store (_ : o.op = .store t x y) (h : wpListIn F n P ops Q (o :: rest) a w) : wpListIn F n P ops Q (o :: rest) a w := h
theorem iat_buildSlice {m : Nat} {ps : Array (Nat × Operand)} (_ : o.op = .buildSlice t m ps) (h : wpListIn F n P ops Q (o :: rest) a w) : wpListIn F n P ops Q (o :: rest) a w := h
theorem iat_bi (b : Builtin) {xs : Array Operand} {ts : Array TypeId} (_ : o.op = .call { callee := .builtin b, args := xs, argTypes := ts }) (h : wpListIn F n P ops Q (o :: rest) a w) : wpListIn F n P ops Q (o :: rest) a w := h
theorem wi_allocA (hF : ∀ f, F.fn f) (hs : Tr w0 S w L) (hw : Region.wanted o (yielded ops a.tmps) = true) (ho : o.op = .alloc t) {cs : Array Value} (hz : (P.info? t).map (·.zero) = some (some (.agg cs)))
    (k : ∀ w' b, Tr w0 S w' (Res.blk b cs t :: L) → wpListIn F n P ops Q rest (a.put o.dst (.pointer (some ⟨b, 0, none⟩))) w') : wpListIn F n P ops Q (o :: rest) a w :=
  wi_run hF (by rw [ho]; intro c h; cases h) hw (ex_alloc ho hz) (k _ _ (hs.call1 (tr_alloc w cs t)))
theorem wi_storeA (hF : ∀ f, F.fn f) (hs : Tr w0 S w L) (hw : Region.wanted o (yielded ops a.tmps) = true) (ho : o.op = .store t x y) {b : Nat} (hx : a.eval x = .pointer (some ⟨b, 0, none⟩)) {ys : Array Value} (hy : a.eval y = .agg ys) (hn : (P.info? t).map (·.size) = some ys.size)
    (h1 : ∀ v ∈ ys.toList, v.oneCell' = true) (i : Nat) {cs : Array Value} {bt : TypeId} (hi : L[i]? = some (Res.blk b cs bt)) (hfit : cs.size = ys.size)
    (k : ∀ w', Tr w0 S w' (L.set i (Res.blk b ys bt)) → wpListIn F n P ops Q rest (a.put o.dst undef) w') : wpListIn F n P ops Q (o :: rest) a w := by
  refine wi_skip hF (by rw [ho]; intro c h; cases h) hw (ex_storeA ho hn hx hy rfl h1 (hs.getB i hi) (by omega)) (k _ (hs.updB i hi ?_))
  have e : (cs.toList.take 0 ++ ys.toList ++ cs.toList.drop (0 + ys.toList.length)).toArray = ys := by
    have : cs.toList.drop ys.size = [] := List.drop_eq_nil_of_le (by simp; omega)
    simp [this]
  rw [e]
  exact tr_setRow (hs.getB i hi) _
theorem wi_store1 (hF : ∀ f, F.fn f) (hs : Tr w0 S w L) (hw : Region.wanted o (yielded ops a.tmps) = true) (ho : o.op = .store t x y) (hn : (P.info? t).map (·.size) = some 1) {b off : Nat} (hx : a.eval x = .pointer (some ⟨b, off, none⟩)) {v : Value} (hy : a.eval y = v) (h1 : v.oneCell' = true)
    (i : Nat) {cs : Array Value} {bt : TypeId} (hi : L[i]? = some (Res.blk b cs bt)) (hoff : off < cs.size)
    (k : ∀ w', Tr w0 S w' (L.set i (Res.blk b (cs.setIfInBounds off v) bt)) → wpListIn F n P ops Q rest (a.put o.dst undef) w') : wpListIn F n P ops Q (o :: rest) a w :=
  wi_skip hF (by rw [ho]; intro c h; cases h) hw (ex_store1 ho hn hx hy h1 (hs.getB i hi) hoff) (k _ (hs.updB0 i hi _))
theorem wi_load1 (hF : ∀ f, F.fn f) (hs : Tr w0 S w L) (hw : Region.wanted o (yielded ops a.tmps) = true) (ho : o.op = .load t x) {d : TypeDesc} (hu : P.underlying t = some d) (hd : d.isRow = false) {b off : Nat} (hx : a.eval x = .pointer (some ⟨b, off, none⟩))
    (i : Nat) {cs : Array Value} {bt : TypeId} (hi : L[i]? = some (Res.blk b cs bt)) {v : Value} (hv : cs[off]? = some v) (k : wpListIn F n P ops Q rest (a.put o.dst v) w) : wpListIn F n P ops Q (o :: rest) a w :=
  wi_run hF (by rw [ho]; intro c h; cases h) hw (ex_load1 ho hu hd hx (by rw [cell_of_row w b off cs bt (0, 0) (hs.getB i hi)]; exact hv)) k
theorem wi_loadA (hF : ∀ f, F.fn f) (hs : Tr w0 S w L) (hw : Region.wanted o (yielded ops a.tmps) = true) (ho : o.op = .load t x) {d : TypeDesc} (hu : P.underlying t = some d) (hd : d.isRow = true) {b : Nat} (hx : a.eval x = .pointer (some ⟨b, 0, none⟩))
    (i : Nat) {cs : Array Value} {bt : TypeId} (hi : L[i]? = some (Res.blk b cs bt)) (hn : (P.info? t).map (·.size) = some cs.size) (k : wpListIn F n P ops Q rest (a.put o.dst (.agg cs)) w) : wpListIn F n P ops Q (o :: rest) a w :=
  wi_run hF (by rw [ho]; intro c h; cases h) hw (ex_loadAA ho hu hd hn hx (hs.getB i hi)) k
theorem wi_buildSlice1A (hF : ∀ f, F.fn f) (hs : Tr w0 S w L) (hw : Region.wanted o (yielded ops a.tmps) = true) (ho : o.op = .buildSlice t 1 #[(0, x)]) (hu : P.underlying t = some (.slice e)) {z : Value} {size bytes : Nat} (hi : (P.info? e).map (fun i => (i.zero, i.size, i.bytes)) = some (some z, size, bytes)) (h24 : size ≤ 16777216) (h0 : 0 < size)
    {cs : Array Value} (hx : a.eval x = .agg cs) (hcs : cs.size = size)
    (k : ∀ w' b, Tr w0 S w' (Res.blk b cs e :: L) → wpListIn F n P ops Q rest (a.put o.dst (.slice (some ⟨b, 0, none⟩) 1 1)) w') : wpListIn F n P ops Q (o :: rest) a w :=
  wi_run hF (by rw [ho]; intro c h; cases h) hw (ex_buildSlice1A ho hu hi h24 h0 hx hcs) (k _ _ (hs.call1 (tr_alloc w _ e)))
theorem wi_append1 (hF : ∀ f, F.fn f) (hs : Tr w0 S w L) (hw : Region.wanted o (yielded ops a.tmps) = true) {s : Operand} {ty : TypeId} (ho : o.op = .call { callee := .builtin .append, args := #[s, x], argTypes := #[ty, ty] }) (hu : P.underlying ty = some (.slice e))
    {z : Value} {size bytes : Nat} (hinfo : (P.info? e).map (fun i => (i.zero, i.size, i.bytes)) = some (some z, size, bytes)) (hzs : z.cells.size = size) (hsz : 0 < size)
    (i : Nat) {v : Value} {m : Nat} {xs : List Value} (hi : L[i]? = some (Res.own e size v m xs)) (hv : a.eval s = v)
    (j : Nat) {b c : Nat} {cs : Array Value} {bt : TypeId} (hj : L[j]? = some (Res.blk b cs bt)) (hx : a.eval x = .slice (some ⟨b, 0, none⟩) 1 c) (hcs : cs.size = 1 * size) (h1 : ∀ u ∈ cs.toList, u.oneCell' = true)
    (h63 : m + 1 ≤ maxLen) (hbytes : (m + 1) * bytes ≤ 140737488355328)
    (k : ∀ w' v', Tr w0 S w' (L.set i (Res.own e size v' (m + 1) (xs ++ cs.toList))) → wpListIn F n P ops Q rest (a.put o.dst v') w') : wpListIn F n P ops Q (o :: rest) a w := by
  obtain ⟨v', w', hr, ht⟩ := ex_appendG hs ho hu hinfo hzs hsz i hi hv hx (fun h => by cases h) b 0 (fun _ => rfl) cs.toList (by simpa using hcs) (blk_news (hs.getB j hj)) h1 h63 hbytes
  exact wi_run hF (by rw [ho]; intro c h; cases h) hw hr (k w' v' ht)
end
end Go.Sp
namespace Go.Proofs.Ytdlnfdlgnbkppaa
set_option linter.unusedVariables false
open Go Go.Sp Go.RowKit

/-- A loop's record. -/
def recL (fn : FuncId) (tmps : Array Value) (ps : Array Tmp) (assign body : Code) (D : Nat) (st : LoopState) : Obj := .loop { state := st, pending := none, fn, tmps, params := ps, assign, body, defers := D }
theorem perm_front (A B C : List Res) : (A ++ (B ++ C)).Perm (B ++ C ++ A) := List.perm_append_comm
set_option maxHeartbeats 1000000 in
theorem wp_rangeFunc_tr {g : Operand} {ps : Array Tmp} {assign body : Code} {Q : Exit → Act → World → Prop} {a : Act} {w w0 : World} {gf : Nat} {lb : Array Value}
    (hg : a.eval g = .func (.func gf) #[] lb) (eg : ∀ args w, (callFunc gf args).run Try.prog w = .ok (.enter gf args) w) (hps : ps.size = 1)
    {F0 F1 LJ : List Res} (hs : Tr w0 [] w (F0 ++ LJ)) (J : List (Int × Int) → List Res → Prop) (h0 : J [] LJ) (xs : List (Int × Int))
    (hit : ∀ (l : Nat) (J2 : List (Int × Int) → List Res → Prop) (L2 : List Res) (W : World), J2 [] L2 → Yc l J2 w0 → Tr w0 [] W (F0 ++ L2) → Calls Try.prog gf (#[.func (.yield l) #[] #[]] ++ lb) W fun e W' => e = .returned (.tuple #[]) ∧ ∃ L', J2 xs L' ∧ Tr w0 [] W' (F1 ++ L'))
    (hround : ∀ (m l D fn : Nat) (pre : List (Int × Int)) (x y : Int) (W : World) (G L : List Res), J pre L → pre.length < 1068 → Tr w0 [] W (Res.obj l (recL fn a.tmps ps assign body D .ready) :: Res.obj D (.deferred (some [])) :: (L ++ G)) →
      assign.wpIn (Fence.wide.inRound l) m Try.prog (Exit.then (fun a₁ w₁ => ∃ NB, Tr w0 [] w₁ (NB ++ Res.obj l (recL fn a.tmps ps assign body D .ready) :: Res.obj D (.deferred (some [])) :: (L ++ G)) ∧
        ∀ w₂, Tr w0 [] w₂ (NB ++ Res.obj l (recL fn a.tmps ps assign body D .busy) :: Res.obj D (.deferred (some [])) :: (L ++ G)) →
          body.wpIn (Fence.wide.inRound l) m Try.prog (fun e _ w₃ => e = .normal ∧ ∃ L', J (pre ++ [(x, y)]) L' ∧ Tr w0 [] w₃ (Res.obj l (recL fn a.tmps ps assign body D .busy) :: Res.obj D (.deferred (some [])) :: (L' ++ G))) a₁ w₂) (fun _ _ _ => False))
        { tmps := (ps.zip #[.agg #[.int .i64 x, .int .i64 y]]).foldl (fun t (p, v) => t.setIfInBounds p v) a.tmps, defers := [] } W)
    (hdone : ∀ (D : Nat) (W : World) (L' : List Res), J xs L' → Tr w0 [] W (Res.obj D (.deferred (some [])) :: (F1 ++ L')) → Q .normal { a with defers := { target := .collected D, args := #[] } :: a.defers } W) :
    (Code.rangeFunc g ps assign body).wp Try.prog Q a w := by
  refine (wpIn_wide (n := 3)).1 (wpIn_rangeFunc ?_)
  intro fn hfn
  rw [Fence.wide_round]
  obtain ⟨W1, hW1⟩ : ∃ W1, (w.alloc (.deferred (some []))).alloc (recL fn a.tmps ps assign body w.heap.size .ready) = W1 := ⟨_, rfl⟩
  have hs1 : Tr w0 [] W1 (Res.obj (w.heap.size + 1) (recL fn a.tmps ps assign body w.heap.size .ready) :: Res.obj w.heap.size (.deferred (some [])) :: (F0 ++ LJ)) := by
    rw [← hW1]
    have h1 := hs.call1 (tr_alloc_obj w (.deferred (some [])))
    have h2 := h1.call1 (tr_alloc_obj (w.alloc (.deferred (some []))) (recL fn a.tmps ps assign body w.heap.size .ready))
    rw [World.size_alloc] at h2
    exact h2
  refine ⟨w.heap.size + 1, [{ target := .collected w.heap.size, args := #[] }], W1, { target := .fn (.func gf) lb, args := #[.func (.yield (w.heap.size + 1)) #[] #[]] }, W1, gf,
    #[.func (.yield (w.heap.size + 1)) #[] #[]] ++ lb, W1, ?_, ?_, fun f' _ => trivial, ?_, fun h => by simp [Fence.wide] at h, ?_⟩
  · rw [← hW1]; exact run_enterLoop_outer _ _ _ _ _
  · simp only [resolve, hg]
    simp [go_sem]
  · simp [invoke, go_sem, eg]
  · generalize w.heap.size + 1 = l at *
    generalize w.heap.size = D at *
    have hs2 : Tr w0 [] W1 (F0 ++ (Res.obj l (recL fn a.tmps ps assign body D .ready) :: Res.obj D (.deferred (some [])) :: LJ)) := by
      have p : (Res.obj l (recL fn a.tmps ps assign body D .ready) :: Res.obj D (.deferred (some [])) :: (F0 ++ LJ)).Perm (F0 ++ (Res.obj l (recL fn a.tmps ps assign body D .ready) :: Res.obj D (.deferred (some [])) :: LJ)) := by
        have := List.Perm.append_right LJ (List.perm_append_comm (l₁ := [Res.obj l (recL fn a.tmps ps assign body D .ready), Res.obj D (.deferred (some []))]) (l₂ := F0))
        simpa using this
      exact hs1.perm p
    refine callsIn_wide.2 ((hit l (fun pre L2 => ∃ L, J pre L ∧ L2 = Res.obj l (recL fn a.tmps ps assign body D .ready) :: Res.obj D (.deferred (some [])) :: L) _ W1 ⟨LJ, h0, rfl⟩ ?_ hs2).mono ?_)
    · -- one round
      rintro m pre x y W F L2 ⟨L, hJ, rfl⟩ hs3 hlen
      have hs4 : Tr w0 [] W (Res.obj l (recL fn a.tmps ps assign body D .ready) :: Res.obj D (.deferred (some [])) :: (L ++ F)) := hs3.perm List.perm_append_comm
      have hl : W.heap[l]? = some (recL fn a.tmps ps assign body D .ready) := hs4.getObj 0 rfl
      have hy := run_yield (P := Try.prog) (args := #[.agg #[.int .i64 x, .int .i64 y]]) hl (by simpa using hps.symm)
      refine ⟨fn, _, assign, body, hy, roundIn_of_wpIn trivial (Code.wpIn_mono ?_ (hround m l D fn pre x y W F L hJ hlen hs4))⟩
      intro e a₁ w₁ hq
      cases e with
      | normal =>
        obtain ⟨NB, hs5, hb⟩ := hq
        have hs6 : Tr w0 [] w₁ (Res.obj l (recL fn a.tmps ps assign body D .ready) :: (NB ++ Res.obj D (.deferred (some [])) :: (L ++ F))) := hs5.perm List.perm_middle
        have hl1 : w₁.heap[l]? = some (recL fn a.tmps ps assign body D .ready) := hs6.getObj 0 rfl
        refine ⟨_, run_beginRound hl1 rfl, Code.wpIn_mono ?_ (hb _ ((hs6.putObj 0 rfl (recL fn a.tmps ps assign body D .busy)).perm List.perm_middle.symm))⟩
        rintro e a₂ w₃ ⟨rfl, L', hJ', hs7⟩
        have hl3 : w₃.heap[l]? = some (recL fn a.tmps ps assign body D .busy) := hs7.getObj 0 rfl
        refine ⟨_, _, run_endRound none hl3, rfl, _, ⟨L', hJ', rfl⟩, ?_⟩
        have hs8 : Tr w0 [] _ ((Res.obj l (recL fn a.tmps ps assign body D .ready) :: Res.obj D (.deferred (some [])) :: L') ++ F) := hs7.putObj 0 rfl (recL fn a.tmps ps assign body D .ready)
        exact hs8.perm List.perm_append_comm
      | exit id => exact hq.elim
      | goto t => exact hq.elim
      | ret => exact hq.elim
      | panic c => exact hq.elim
      | outgrown => exact hq.elim
    · -- behind the iterator
      rintro e W2 ⟨rfl, L2, ⟨L', hJ', rfl⟩, hs3⟩
      have hs4 : Tr w0 [] W2 (Res.obj l (recL fn a.tmps ps assign body D .ready) :: Res.obj D (.deferred (some [])) :: (L' ++ F1)) := hs3.perm List.perm_append_comm
      have hl : W2.heap[l]? = some (recL fn a.tmps ps assign body D .ready) := hs4.getObj 0 rfl
      refine ⟨none, _, run_endLoop hl (by simp), hdone D _ L' hJ' ?_⟩
      have hs5 := (hs4.putObj 0 rfl (recL fn a.tmps ps assign body D .exhausted)).erase 0
      exact hs5.perm (List.Perm.cons _ List.perm_append_comm)
end Go.Proofs.Ytdlnfdlgnbkppaa
