/- Two things owned as one; what is written into a part of a block. -/
import Derived.Test.YtcflolcaiedmfaaAp
set_option linter.unusedVariables false
namespace Go.Sp
open Go Go.RowKit

/-- Two resources as one. -/
def Res.both (r1 r2 : Res) : Res where
  foot := r1.foot ++ r2.foot
  holds w := r1.holds w ∧ r2.holds w ∧ (r1.foot ++ r2.foot).Nodup
  stays w w' h hh := ⟨r1.stays w w' (fun k hk => h k (List.mem_append.2 (.inl hk))) hh.1, r2.stays w w' (fun k hk => h k (List.mem_append.2 (.inr hk))) hh.2.1, hh.2.2⟩
  live w h k hk := by
    rcases List.mem_append.1 hk with hk | hk
    · exact r1.live w h.1 k hk
    · exact r2.live w h.2.1 k hk

section
variable {w0 w w' : World} {S : List Nat} {L N : List Res} {r1 r2 : Res}
theorem feet_both : feet (Res.both r1 r2 :: L) = feet (r1 :: r2 :: L) := by
  simp [feet, Res.both, List.append_assoc]
theorem Tr.open2 (h : (Res.both r1 r2).holds w) : Tr w (Res.both r1 r2).foot w [r1, r2] := by
  have hf : feet [r1, r2] = r1.foot ++ r2.foot := by simp [feet]
  have := Tr.start (w := w) (R := [r1, r2]) (by
    intro r hr
    simp only [List.mem_cons, List.not_mem_nil, or_false] at hr
    rcases hr with rfl | rfl
    · exact h.1
    · exact h.2.1) (by rw [hf]; exact h.2.2)
  rw [hf] at this
  exact this
theorem Tr.split2 (h : Tr w0 S w (Res.both r1 r2 :: L)) : Tr w0 S w (r1 :: r2 :: L) := by
  have hb : (Res.both r1 r2).holds w := h.res _ (by simp)
  refine ⟨h.os, h.tape, h.output, h.size, h.keep, fun r hr => ?_, by rw [← feet_both]; exact h.nodup, fun k hk => h.mine k (by rw [feet_both]; exact hk)⟩
  simp only [List.mem_cons] at hr
  rcases hr with rfl | rfl | hr
  · exact hb.1
  · exact hb.2.1
  · exact h.res r (List.mem_cons_of_mem _ hr)
theorem Tr.join2 (h : Tr w0 S w (r1 :: r2 :: L)) : Tr w0 S w (Res.both r1 r2 :: L) := by
  refine ⟨h.os, h.tape, h.output, h.size, h.keep, fun r hr => ?_, by rw [feet_both]; exact h.nodup, fun k hk => h.mine k (by rw [← feet_both]; exact hk)⟩
  simp only [List.mem_cons] at hr
  rcases hr with rfl | hr
  · refine ⟨h.res r1 (by simp), h.res r2 (by simp), ?_⟩
    have := h.nodup
    simp only [feet, List.flatMap_cons, ← List.append_assoc] at this
    exact (List.nodup_append.1 this).1
  · exact h.res r (List.mem_cons_of_mem _ (List.mem_cons_of_mem _ hr))

/-- What was read alone is as it was. -/
theorem Tr.same2 {b1 b2 : Nat} {cs1 cs2 : Array Value} {t1 t2 : TypeId} (h0 : (Res.both (Res.blk b1 cs1 t1) (Res.blk b2 cs2 t2)).holds w) (h : Tr w (Res.both (Res.blk b1 cs1 t1) (Res.blk b2 cs2 t2)).foot w' (Res.blk b1 cs1 t1 :: Res.blk b2 cs2 t2 :: N)) : Tr w [] w' N := by
  have h1 : w.heap[b1]? = some (.cells cs1 t1 (0, 0)) := by simpa [Res.blk] using h0.1
  have h2 : w.heap[b2]? = some (.cells cs2 t2 (0, 0)) := by simpa [Res.blk] using h0.2.1
  have g1 := h.getB 0 rfl
  have g2 := h.getB 1 rfl
  have hfoot : (Res.both (Res.blk b1 cs1 t1) (Res.blk b2 cs2 t2)).foot = [b1, b2] := by simp [Res.both, Res.blk]
  rw [hfoot] at h
  have hnd := h.nodup
  simp only [feet, List.flatMap_cons] at hnd
  have e1 : (Res.blk b1 cs1 t1).foot = [b1] := by simp [Res.blk]
  have e2 : (Res.blk b2 cs2 t2).foot = [b2] := by simp [Res.blk]
  rw [e1, e2] at hnd
  refine ⟨h.os, h.tape, h.output, h.size, fun k hk _ => ?_, fun r hr => h.res r (by simp [hr]), (h.sub (L' := N) (by refine List.Sublist.cons _ (List.Sublist.cons _ (List.Sublist.refl _)))).nodup, fun k hk => ?_⟩
  · by_cases k1 : k = b1
    · subst k1; rw [g1, h1]
    · by_cases k2 : k = b2
      · subst k2; rw [g2, h2]
      · exact h.keep k hk (by simp [k1, k2])
  · rcases h.mine k (by simp only [feet, List.flatMap_cons, List.mem_append]; exact .inr (.inr hk)) with hS | hS
    · exfalso
      simp only [List.singleton_append, List.nodup_cons, List.mem_cons] at hnd
      simp only [List.mem_cons, List.not_mem_nil, or_false] at hS
      have hk' : k ∈ List.flatMap (fun x => x.foot) N := hk
      rcases hS with rfl | rfl
      · exact hnd.1 (.inr hk')
      · exact hnd.2.1 hk'
    · exact .inr hS
end

section
variable {P : Program} {w0 w : World} {S : List Nat} {L : List Res} {ops : Array Oper} {Q : Exit → Act → World → Prop} {a : Act} {o : Oper} {rest : List Oper} {t e : TypeId} {x y : Operand}
/-- Some cells into a block that is known whole. -/
theorem wl_storeS (hs : Tr w0 S w L) (hw : Region.wanted o (yielded ops a.tmps) = true) (ho : o.op = .store t x y) {b off : Nat} (hx : a.eval x = .pointer (some ⟨b, off, none⟩)) {ys : Array Value} (hy : a.eval y = .agg ys) (hn : (P.info? t).map (·.size) = some ys.size)
    (h1 : ∀ v ∈ ys.toList, v.oneCell' = true) (i : Nat) {cs : Array Value} {bt : TypeId} (hi : L[i]? = some (Res.blk b cs bt)) (hfit : off + ys.size ≤ cs.size) (cs' : Array Value) (hcs : (cs.toList.take off ++ ys.toList ++ cs.toList.drop (off + ys.toList.length)).toArray = cs')
    (k : ∀ w', Tr w0 S w' (L.set i (Res.blk b cs' bt)) → wpList P ops Q rest (a.put o.dst undef) w') : wpList P ops Q (o :: rest) a w := by
  subst hcs
  exact wl_skip hw (ex_storeA ho hn hx hy rfl h1 (hs.getB i hi) hfit) (k _ (hs.updB i hi (tr_setRow (hs.getB i hi) _)))
/-- A struct's copy in a new block. -/
theorem wl_boxS (hs : Tr w0 S w L) (hw : Region.wanted o (yielded ops a.tmps) = true) (ho : o.op = .box t x) {cs : Array Value} (hx : a.eval x = .agg cs)
    (k : ∀ w' b, Tr w0 S w' (Res.blk b cs t :: L) → wpList P ops Q rest (a.put o.dst (.pointer (some ⟨b, 0, none⟩))) w') : wpList P ops Q (o :: rest) a w := wl_boxA hs hw ho hx k
end
section
variable {P : Program} {w0 w : World} {S : List Nat} {L : List Res} {l : List Oper} {Q : Exit → Act → World → Prop} {a a' : Act} {o : Oper} {t e : TypeId} {x y : Operand}
theorem wt_storeM {i : Nat} {K : Act → World → Prop} (hs : Tr w0 S w L) (hi : l[i]? = some o) (hw : Region.wanted o (yielded l.toArray a.tmps) = true) (ho : o.op = .store t x y) {b off n : Nat} (hx : a.eval x = .pointer (some ⟨b, off, none⟩)) {g : Nat → Value} (hy : a.eval y = .agg (rowOf n g)) (hn : (P.info? t).map (·.size) = some n)
    (h1 : ∀ j, j < n → (g j).oneCell' = true) (i0 : Nat) {N : Nat} {f : Nat → Value} {bt : TypeId} (hi0 : L[i0]? = some (Res.blk b (rowOf N f) bt)) (hfit : off + n ≤ N) (f' : Nat → Value) (hf' : ∀ j, j < N → (if off ≤ j ∧ j < off + n then g (j - off) else f j) = f' j)
    (ha : a.put o.dst undef = a') (k : ∀ w', Tr w0 S w' (L.set i0 (Res.blk b (rowOf N f') bt)) → K a' w') : wpOp P l.toArray Q i K a w := by
  refine wt_skip hi hw (ex_storeA ho hn hx hy (by simp) (rowOf_one _ _ h1) (hs.getB i0 hi0) (by simpa using hfit)) ha (k _ (hs.updB i0 hi0 ?_))
  rw [rowOf_splice f g off hfit, rowOf_congr hf']
  exact tr_setRow (hs.getB i0 hi0) _
theorem Tr.rot1 {r1 r2 r3 : Res} (h : Tr w0 S w (r1 :: r2 :: r3 :: L)) : Tr w0 S w (r2 :: r3 :: r1 :: L) :=
  h.perm ((List.Perm.swap r2 r1 (r3 :: L)).trans (List.Perm.cons r2 (List.Perm.swap r3 r1 L)))
/-- A whole block is a slice that owns it. -/
theorem Tr.toOwn {b n size : Nat} {cs : Array Value} (h : Tr w0 S w (Res.blk b cs e :: L)) (hsz : cs.size = n * size) (hn : n ≤ maxLen) : Tr w0 S w (Res.own e size (.slice (some ⟨b, 0, none⟩) n n) n cs.toList :: L) := by
  have hb := h.getB 0 rfl
  have e1 : feet (Res.own e size (.slice (some ⟨b, 0, none⟩) n n) n cs.toList :: L) = feet (Res.blk b cs e :: L) := by
    simp [feet, Res.own, Res.blk, Value.ownBlock]
  refine ⟨h.os, h.tape, h.output, h.size, h.keep, fun r hr => ?_, by rw [e1]; exact h.nodup, fun k hk => h.mine k (by rw [← e1]; exact hk)⟩
  rcases List.mem_cons.1 hr with rfl | hr
  · have : w.ownsRow 0 e size (.slice (some ⟨b, 0, none⟩) n n) n cs.toList := ⟨by simpa using hsz, .inr ⟨b, n, cs, rfl, Nat.zero_le _, hb, Nat.le_refl _, hn, hsz, List.take_of_length_le (by simp [hsz])⟩⟩
    simpa [Res.own] using this
  · exact h.res r (List.mem_cons_of_mem _ hr)
end
section
variable {P : Program} {w0 w : World} {S : List Nat} {L : List Res} {l : List Oper} {Q : Exit → Act → World → Prop} {a a' : Act} {o : Oper} {t e : TypeId} {x y : Operand}
theorem ex_loadMB (ho : o.op = .load t x) {n : Nat} {el : TypeId} (hu : P.underlying t = some (.array n el)) {b off : Nat} (hn : (P.info? t).map (·.size) = some n) (hx : a.eval x = .pointer (some ⟨b, off, none⟩)) {F : Nat → UInt8} (hc : Rd w b off n (u8v F)) :
    (execOp a.eval o).run P w = .ok (.value (bytesV n F)) w := ex_loadA ho hu rfl hn hx hc
theorem ex_build0B (ho : o.op = .build t #[]) {n : Nat} {el : TypeId} (hu : P.underlying t = some (.array n el)) {F : Nat → UInt8} (hz : (P.info? t).map (·.zero) = some (some (bytesV n F))) (hel : (P.info? el).isSome = true) :
    (execOp a.eval o).run P w = .ok (.value (bytesV n F)) w := ex_build0 ho hu hz hel
theorem ex_eqlBR {yt : TypeId} (ho : o.op = .binOp .eql t x y yt) {n : Nat} {F G : Nat → UInt8} {el : TypeId} (hu : P.underlying t = some (.array n el)) (he : P.underlying el = some (.int .u8))
    (hn : (P.info? el).map (·.size) = some 1) (hq : P.eqGuardType P.depth t = false) (hx : a.eval x = bytesV n F) (hy : a.eval y = bytesV n G) {R : Bool} (hR : eqB n F G = R) : (execOp a.eval o).run P w = .ok (.value (.bool R)) w := by
  have := ex_eqlA (w := w) .eql false rfl ho hu he hn hq (f := fun i => ((F i).toNat : Int)) (g := fun i => ((G i).toNat : Int)) hx hy
  simp only [bytes_eq_iff, eqB_decide, Bool.false_eq_true, if_false] at this
  rw [this, hR]
theorem ex_neqBR {yt : TypeId} (ho : o.op = .binOp .neq t x y yt) {n : Nat} {F G : Nat → UInt8} {el : TypeId} (hu : P.underlying t = some (.array n el)) (he : P.underlying el = some (.int .u8))
    (hn : (P.info? el).map (·.size) = some 1) (hq : P.eqGuardType P.depth t = false) (hx : a.eval x = bytesV n F) (hy : a.eval y = bytesV n G) {R : Bool} (hR : (!eqB n F G) = R) : (execOp a.eval o).run P w = .ok (.value (.bool R)) w := by
  have := ex_eqlA (w := w) .neq true rfl ho hu he hn hq (f := fun i => ((F i).toNat : Int)) (g := fun i => ((G i).toNat : Int)) hx hy
  simp only [bytes_eq_iff, eqB_decide, if_true] at this
  rw [this, hR]
theorem wt_buildV {i : Nat} {K : Act → World → Prop} (hs : Tr w0 S w L) (hi : l[i]? = some o) (hw : Region.wanted o (yielded l.toArray a.tmps) = true) {len : Nat} {ps : List (Nat × Operand)} (ho : o.op = .buildSlice t len ps.toArray) (hu : P.underlying t = some (.slice e)) {z : Value} {bytes : Nat} (hinfo : (P.info? e).map (fun i => (i.zero, i.size, i.bytes)) = some (some z, 1, bytes))
    (h24 : len ≤ 16777216) (h0 : 0 < len) (vs : List Value) (hl : ps.map (fun p => (p.1, a.eval p.2)) = vs.zipIdx.map fun x => (x.2, x.1)) (hlen : vs.length = len) (h1 : ∀ v ∈ vs, v.oneCell' = true) (cs : Array Value) (hcs : vs.toArray = cs)
    {a' : Nat → Act} (ha : ∀ b, a.put o.dst (.slice (some ⟨b, 0, none⟩) len len) = a' b) (k : ∀ w' b, Tr w0 S w' (Res.blk b cs e :: L) → K (a' b) w') : wpOp P l.toArray Q i K a w := by
  subst hcs
  exact wt_run hi hw (ex_buildSliceV ho hu hinfo h24 h0 vs hl hlen h1) (ha _) (k _ _ (hs.call1 (tr_alloc w _ e)))
end
section
variable {P : Program} {w0 w : World} {S : List Nat} {L : List Res} {l : List Oper} {Q : Exit → Act → World → Prop} {a a' : Act} {o : Oper}
/-- A callee that turns one of the things that we own. -/
theorem wt_callU {i : Nat} {K : Act → World → Prop} {f : FuncId} {args : Array Value} {v : Value} {r r' : Res} (hs : Tr w0 S w L) (hi : l[i]? = some o) (hw : Region.wanted o (yielded l.toArray a.tmps) = true)
    (hr : (execOp a.eval o).run P w = .ok (.enter f args) w) (j : Nat) (hj : L[j]? = some r) (hc : Calls P f args w fun e w' => e = .returned v ∧ Tr w r.foot w' [r']) (ha : a.put o.dst v = a') (k : ∀ w', Tr w0 S w' (L.set j r') → K a' w') : wpOp P l.toArray Q i K a w :=
  wt_call hi hw hr (hc.mono fun e w' ⟨he, ht⟩ => ⟨v, he, fun a'' ha' => by subst ha ha'; exact k w' (hs.upd j hj ht)⟩)
end
/-! ### '[]byte("..")' of a constant: the row is marked behind its last cell. -/
section
variable {P : Program} {w0 w : World} {S : List Nat} {L : List Res} {ops : Array Oper} {l : List Oper} {Q : Exit → Act → World → Prop} {a a' : Act} {o : Oper} {rest : List Oper} {t e : TypeId} {x : Operand}
theorem freeze_heap {b n k : Nat} (w : World) (hn : n ≠ 0) {cs : Array Value} (hb : w.heap[b]? = some (.cells cs e (0, 0))) :
    (w.freeze ⟨b, k, none⟩ n).heap[b]? = some (.cells cs e (k, k + n)) ∧ ∀ j, j ≠ b → (w.freeze ⟨b, k, none⟩ n).heap[j]? = w.heap[j]? := by
  unfold World.freeze
  rw [if_neg hn]
  constructor
  · show (w.heap.modify b _)[b]? = _
    rw [Array.getElem?_modify]
    simp [hb]
  · intro j hj
    show (w.heap.modify b _)[j]? = _
    rw [Array.getElem?_modify, if_neg (fun h => hj h.symm)]
theorem tr_freeze {b n k : Nat} (hn : n ≠ 0) {cs : Array Value} (hb : w.heap[b]? = some (.cells cs e (0, 0))) : Tr w [b] (w.freeze ⟨b, k, none⟩ n) [Res.obj b (.cells cs e (k, k + n))] := by
  obtain ⟨h1, h2⟩ := freeze_heap (k := k) w hn hb
  have hsz : (w.freeze ⟨b, k, none⟩ n).heap.size = w.heap.size := by
    unfold World.freeze
    rw [if_neg hn]
    simp
  refine ⟨?_, ?_, ?_, by rw [hsz]; exact Nat.le_refl _, fun j hj hS => h2 j (by simpa using hS), ?_, ?_, ?_⟩
  · unfold World.freeze; rw [if_neg hn]
  · unfold World.freeze; rw [if_neg hn]
  · unfold World.freeze; rw [if_neg hn]
  · intro r hr
    simp only [List.mem_singleton] at hr
    subst hr
    simpa [Res.obj] using h1
  · simp [feet, Res.obj]
  · simp [feet, Res.obj]
theorem ex_convConst (ho : o.op = .convert t t x) (hu : P.underlying t = some (.slice e)) (he : P.underlying e = some (.int .u8)) {b n c : Nat} (hx : a.eval x = .slice (some ⟨b, 0, none⟩) n c) {cs : Array Value} {bt : TypeId} (hb : w.heap[b]? = some (.cells cs bt (0, 0))) :
    (execOp a.eval o).run P w = .ok (.value (.slice (some ⟨b, 0, none⟩) n c)) (w.freeze ⟨b, cs.size, none⟩ 1) := by
  have hsh : w.shape? b = some (bt, cs.size) := by unfold World.shape?; rw [hb]
  unfold execOp
  simp [ho, hx, convert, run_underlying hu, run_underlying he, markStringish, hsh]
theorem wl_convConst (hs : Tr w0 S w L) (hw : Region.wanted o (yielded ops a.tmps) = true) (ho : o.op = .convert t t x) (hu : P.underlying t = some (.slice e)) (he : P.underlying e = some (.int .u8)) {b n c : Nat} (hx : a.eval x = .slice (some ⟨b, 0, none⟩) n c)
    (i : Nat) {cs : Array Value} {bt : TypeId} (hi : L[i]? = some (Res.blk b cs bt)) (k : ∀ w', Tr w0 S w' (L.set i (Res.obj b (.cells cs bt (cs.size, cs.size + 1)))) → wpList P ops Q rest (a.put o.dst (.slice (some ⟨b, 0, none⟩) n c)) w') : wpList P ops Q (o :: rest) a w :=
  wl_run hw (ex_convConst ho hu he hx (hs.getB i hi)) (k _ (hs.updB i hi (tr_freeze (by omega) (hs.getB i hi))))
theorem wt_convConst {i : Nat} {K : Act → World → Prop} (hs : Tr w0 S w L) (hi : l[i]? = some o) (hw : Region.wanted o (yielded l.toArray a.tmps) = true) (ho : o.op = .convert t t x) (hu : P.underlying t = some (.slice e)) (he : P.underlying e = some (.int .u8)) {b n c : Nat} (hx : a.eval x = .slice (some ⟨b, 0, none⟩) n c)
    (j : Nat) {cs : Array Value} {bt : TypeId} (hj : L[j]? = some (Res.blk b cs bt)) (ha : a.put o.dst (.slice (some ⟨b, 0, none⟩) n c) = a') (k : ∀ w', Tr w0 S w' (L.set j (Res.obj b (.cells cs bt (cs.size, cs.size + 1)))) → K a' w') : wpOp P l.toArray Q i K a w :=
  wt_run hi hw (ex_convConst ho hu he hx (hs.getB j hj)) ha (k _ (hs.updB j hj (tr_freeze (by omega) (hs.getB j hj))))
theorem Tr.obj_rd (hs : Tr w0 S w L) (i : Nat) {b N : Nat} {f : Nat → Value} {bt : TypeId} {fr : Nat × Nat} (hi : L[i]? = some (Res.obj b (.cells (rowOf N f) bt fr))) {n : Nat} (hn : n ≤ N) : Rd w b 0 n f := fun j hj => by
  rw [Nat.zero_add, cell_of_row w b j _ bt fr (hs.getObj i hi), rowOf_get (by omega)]
end
section
variable {P : Program} {w0 w : World} {S : List Nat} {L : List Res} {l : List Oper} {Q : Exit → Act → World → Prop} {a : Act} {o : Oper} {t : TypeId} {x : Operand}
theorem wt_boxA {i : Nat} {K : Act → World → Prop} (hs : Tr w0 S w L) (hi : l[i]? = some o) (hw : Region.wanted o (yielded l.toArray a.tmps) = true) (ho : o.op = .box t x) {cs : Array Value} (hx : a.eval x = .agg cs)
    {a' : Nat → Act} (ha : ∀ b, a.put o.dst (.pointer (some ⟨b, 0, none⟩)) = a' b) (k : ∀ w' b, Tr w0 S w' (Res.blk b cs t :: L) → K (a' b) w') : wpOp P l.toArray Q i K a w :=
  wt_run hi hw (ex_box ho hx) (ha _) (k _ _ (hs.call1 (tr_alloc w cs t)))
theorem ex_load3 (ho : o.op = .load t x) {d : TypeDesc} (hu : P.underlying t = some d) (hd : d.isRow = true) {b off : Nat} (hn : (P.info? t).map (·.size) = some 3) (hx : a.eval x = .pointer (some ⟨b, off, none⟩))
    {v0 v1 v2 : Value} (h0 : w.cell? ⟨b, off, none⟩ = some v0) (h1 : w.cell? ⟨b, off + 1, none⟩ = some v1) (h2 : w.cell? ⟨b, off + 2, none⟩ = some v2) : (execOp a.eval o).run P w = .ok (.value (.agg #[v0, v1, v2])) w := by
  have h := ex_loadA (f := fun j => if j = 0 then v0 else if j = 1 then v1 else v2) ho hu hd hn hx (fun j hj => by
    match j, hj with
    | 0, _ => exact h0
    | 1, _ => exact h1
    | 2, _ => exact h2)
  have e : (#[v0, v1, v2] : Array Value) = rowOf 3 (fun j => if j = 0 then v0 else if j = 1 then v1 else v2) := rowOf_ext rfl fun i hi => by
    match i, hi with
    | 0, _ => rfl
    | 1, _ => rfl
    | 2, _ => rfl
  rw [h, e]
end
theorem Tr.idle2 {w w' : World} {r1 r2 : Res} (h : (Res.both r1 r2).holds w) (ht : Tr w [] w' []) : Tr w (Res.both r1 r2).foot w' [Res.both r1 r2] := ((Tr.open2 h).call0 ht).join2
theorem Tr.rot2 {w0 w : World} {S : List Nat} {r1 r2 r3 r4 : Res} (h : Tr w0 S w [r1, r2, r3, r4]) : Tr w0 S w [r3, r4, r1, r2] := h.perm (List.perm_append_comm (l₁ := [r1, r2]) (l₂ := [r3, r4]))
theorem Tr.toOwnAt {w0 w : World} {S : List Nat} {L : List Res} {b n size : Nat} {e : TypeId} {cs : Array Value} (h : Tr w0 S w L) (i : Nat) (hi : L[i]? = some (Res.blk b cs e)) (hsz : cs.size = n * size) (hn : n ≤ maxLen) : Tr w0 S w (L.set i (Res.own e size (.slice (some ⟨b, 0, none⟩) n n) n cs.toList)) := by
  refine h.upd i hi ?_
  have h1 : Tr w [b] w [Res.blk b cs e] := Tr.startB (h.getB i hi)
  have e1 : (Res.blk b cs e).foot = [b] := by simp [Res.blk]
  rw [e1]
  exact h1.toOwn hsz hn
theorem Tr.keepCell {w0 w : World} {L : List Res} {p : Addr} {v : Value} (hs : Tr w0 [] w L) (h : w0.cell? p = some v) : w.cell? p = some v := by
  rw [hs.cell (World.block_lt_of_cell? w0 _ h) (by simp)]; exact h
attribute [irreducible] Res.both
end Go.Sp
