/- Regions that draw their order and hold calls, or make memory: the moves of a walk over all orders, by the predicate Tr. -/
import Derived.Test.YtcflolcaiedmfaaWq
import Derived.Deep.RegionHeld
set_option linter.unusedVariables false
namespace Go.Sp
open Go Go.RowKit

section
variable {P : Program} {md : Region.Mode} {ops : Array Oper} {l : List Oper} {Q : Exit → Act → World → Prop} {C : World → Prop} {fuel : Nat} {listed : Array Bool} {a a' : Act} {w : World} {o : Oper}

theorem ex_loadB {t el : TypeId} {x : Operand} (ho : o.op = .load t x) {n : Nat} (hu : P.underlying t = some (.array n el)) {b : Nat} (hn : (P.info? t).map (·.size) = some n) (hx : a.eval x = .pointer (some ⟨b, 0, none⟩))
    {F : Nat → UInt8} {bt : TypeId} {fr : Nat × Nat} (hb : w.heap[b]? = some (.cells (rowOf n (u8v F)) bt fr)) : (execOp a.eval o).run P w = .ok (.value (bytesV n F)) w :=
  ex_loadAA ho hu rfl (by rw [rowOf_size]; exact hn) hx hb

/-- A stronger condition from here on. -/
theorem wt_more {C' : World → Prop} (hCC : ∀ w, C' w → C w) : ∀ (fuel : Nat) (listed : Array Bool) (a : Act) (w : World), wpAnyH P md ops Q C' fuel listed a w → wpAnyH P md ops Q C fuel listed a w
  | 0, _, _, _, h => h
  | fuel + 1, _, _, _, h => ⟨h.1, fun i hi => wpOp_mono (fun a' w' h' => ⟨hCC _ h'.1, wt_more hCC fuel _ a' w' h'.2⟩) (h.2 i hi)⟩

theorem wt_enter {id : Nat} {l : List Oper} {w0 : World} {S : List Nat} {L : List Res} (n : Nat) (hn : l.length = n) (hs : Tr w0 S w L) (hm : P.follows .mixedOrders = true)
    (h : ∀ w, Tr w0 S w L → wpAnyH P .any l.toArray Q (fun w' => Tr w0 S w' L) n (Array.replicate n false) a w) : (Code.region id l.toArray true).wp P Q a w := by
  subst hn
  refine wp_region_held (S := fun w' => Tr w0 S w' L) hm ?_
  have := h _ hs.drew
  simpa using this

/-- .. the condition: a part of what is owned. -/
theorem wt_enterS {id : Nat} {l : List Oper} {w0 : World} {S : List Nat} {L L' : List Res} (hsub : L'.Sublist L) (n : Nat) (hn : l.length = n) (hs : Tr w0 S w L) (hm : P.follows .mixedOrders = true)
    (h : ∀ w, Tr w0 S w L' → Tr w0 S w L → wpAnyH P .any l.toArray Q (fun w' => Tr w0 S w' L') n (Array.replicate n false) a w) : (Code.region id l.toArray true).wp P Q a w := by
  subst hn
  refine wp_region_held (S := fun w' => Tr w0 S w' L') hm ?_
  have := h _ (hs.drew.sub hsub) hs.drew
  simpa using this

/-- A reading operation is taken first. -/
theorem wt_take (i : Nat) (hi : l[i]? = some o) (hs : Region.noSelect l.toArray = true) (hf : Region.free md l.toArray listed i = true) (hr : (Region.ready md l.toArray listed).contains i = true)
    (hQ : ∀ v c a w, Q (.panic c) (a.put o.dst v) w → Q (.panic c) a w) (hw : Region.wanted o (yielded l.toArray a.tmps) = true) (hS : C w)
    (h : ∃ v, (∀ w, C w → (execOp a.eval o).run P w = .ok (.value v) w) ∧ ∀ a', a.put o.dst v = a' → wpAnyH P md l.toArray Q C fuel (listed.setIfInBounds i true) a' w) : wpAnyH P md l.toArray Q C (fuel + 1) listed a w := by
  obtain ⟨v, hy, h⟩ := h
  exact wpAnyH_take (by simpa using hi) hs hf hr (hQ v) (Or.inl ⟨hw, hy⟩) hS (h _ rfl)

/-- A guarded operation that is passed over. -/
theorem wt_pass (i : Nat) (hi : l[i]? = some o) (hs : Region.noSelect l.toArray = true) (hf : Region.free md l.toArray listed i = true) (hr : (Region.ready md l.toArray listed).contains i = true)
    (hQ : ∀ c a w, Q (.panic c) (a.put o.dst undef) w → Q (.panic c) a w) (hw : Region.wanted o (yielded l.toArray a.tmps) = false) (hS : C w)
    (ha : a.put o.dst undef = a') (h : wpAnyH P md l.toArray Q C fuel (listed.setIfInBounds i true) a' w) : wpAnyH P md l.toArray Q C (fuel + 1) listed a w := by
  subst ha
  exact wpAnyH_take (by simpa using hi) hs hf hr hQ (Or.inr ⟨hw, rfl⟩) hS h

/-- Those that may come up. -/
def WtAll (P : Program) (md : Region.Mode) (l : List Oper) (Q : Exit → Act → World → Prop) (C : World → Prop) (fuel : Nat) (listed : Array Bool) (a : Act) (w : World) (rs : List Nat) : Prop :=
  ∀ i ∈ rs, wpOp P l.toArray Q i (fun a' w' => C w' ∧ wpAnyH P md l.toArray Q C fuel (listed.setIfInBounds i true) a' w') a w
theorem wt_nil : WtAll P md l Q C fuel listed a w [] := fun _ h => by cases h
theorem wt_cons {i : Nat} {rs : List Nat} (h1 : wpOp P l.toArray Q i (fun a' w' => C w' ∧ wpAnyH P md l.toArray Q C fuel (listed.setIfInBounds i true) a' w') a w) (h2 : WtAll P md l Q C fuel listed a w rs) : WtAll P md l Q C fuel listed a w (i :: rs) := fun j hj => by
  rcases List.mem_cons.1 hj with rfl | hj
  · exact h1
  · exact h2 j hj
theorem wt_all (rs : List Nat) (hr : Region.ready md l.toArray listed = rs) (hne : rs ≠ []) (h : WtAll P md l Q C fuel listed a w rs) : wpAnyH P md l.toArray Q C (fuel + 1) listed a w := wpAnyH_all hr hne h
theorem wt_one (i : Nat) (hr : Region.ready md l.toArray listed = [i]) (h : wpOp P l.toArray Q i (fun a' w' => C w' ∧ wpAnyH P md l.toArray Q C fuel (listed.setIfInBounds i true) a' w') a w) : wpAnyH P md l.toArray Q C (fuel + 1) listed a w :=
  wt_all [i] hr (by simp) (wt_cons h wt_nil)
theorem wt_done (hr : Region.ready md l.toArray listed = []) (h : Q .normal a w) : wpAnyH P md l.toArray Q C fuel listed a w := wpAnyH_done hr h fuel

/-- One operation is carried out: by its run. -/
theorem wt_run {i : Nat} {v : Value} {w' : World} {K : Act → World → Prop} (hi : l[i]? = some o) (hw : Region.wanted o (yielded l.toArray a.tmps) = true) (hr : (execOp a.eval o).run P w = .ok (.value v) w')
    (ha : a.put o.dst v = a') (h : K a' w') : wpOp P l.toArray Q i K a w := by
  subst ha
  refine wpOp_step (by simpa using hi) fun K' hK => ?_
  rw [if_pos hw]
  unfold Oper.wp
  rw [hr]
  exact hK _ _ h
theorem wt_skip {i : Nat} {w' : World} {K : Act → World → Prop} (hi : l[i]? = some o) (hw : Region.wanted o (yielded l.toArray a.tmps) = true) (hr : (execOp a.eval o).run P w = .ok .skip w')
    (ha : a.put o.dst undef = a') (h : K a' w') : wpOp P l.toArray Q i K a w := by
  subst ha
  refine wpOp_step (by simpa using hi) fun K' hK => ?_
  rw [if_pos hw]
  unfold Oper.wp
  rw [hr]
  exact hK _ _ h
/-- .. by a callee's contract. -/
theorem wt_call {i : Nat} {K : Act → World → Prop} {f : FuncId} {args : Array Value} (hi : l[i]? = some o) (hw : Region.wanted o (yielded l.toArray a.tmps) = true) (hr : (execOp a.eval o).run P w = .ok (.enter f args) w)
    (h : Calls P f args w fun e w' => ∃ v, e = .returned v ∧ ∀ a', a.put o.dst v = a' → K a' w') : wpOp P l.toArray Q i K a w := by
  refine wpOp_step (by simpa using hi) fun K' hK => ?_
  rw [if_pos hw]
  unfold Oper.wp
  rw [hr]
  exact h.mono fun e w'' ⟨v, he, hk⟩ => by subst he; exact hK _ _ (hk _ rfl)
/-- .. that gives one value and takes nothing of ours. -/
theorem wt_call0 {i : Nat} {K : Act → World → Prop} {f : FuncId} {args : Array Value} {v : Value} {w0 : World} {S : List Nat} {L : List Res} (hs : Tr w0 S w L) (hi : l[i]? = some o) (hw : Region.wanted o (yielded l.toArray a.tmps) = true)
    (hr : (execOp a.eval o).run P w = .ok (.enter f args) w) (hc : Calls P f args w fun e w' => e = .returned v ∧ Tr w [] w' []) (ha : a.put o.dst v = a') (k : ∀ w', Tr w0 S w' L → K a' w') : wpOp P l.toArray Q i K a w :=
  wt_call hi hw hr (hc.mono fun e w' ⟨he, ht⟩ => ⟨v, he, fun a'' ha' => by subst ha ha'; exact k w' (hs.call0 ht)⟩)
/-- .. that leaves the world. -/
theorem wt_callE {i : Nat} {K : Act → World → Prop} {f : FuncId} {args : Array Value} {v : Value} {w0 : World} {S : List Nat} {L : List Res} (hs : Tr w0 S w L) (hi : l[i]? = some o) (hw : Region.wanted o (yielded l.toArray a.tmps) = true)
    (hr : (execOp a.eval o).run P w = .ok (.enter f args) w) (hc : Calls P f args w fun e w' => e = .returned v ∧ w = w') (ha : a.put o.dst v = a') (k : ∀ w', Tr w0 S w' L → K a' w') : wpOp P l.toArray Q i K a w :=
  wt_call hi hw hr (hc.mono fun e w' ⟨he, ht⟩ => ⟨v, he, fun a'' ha' => by subst ha ha' ht; exact k _ hs⟩)
/-- .. that makes a row. -/
theorem wt_callR {i : Nat} {K : Act → World → Prop} {f : FuncId} {args : Array Value} {R : Value → Res} {w0 : World} {S : List Nat} {L : List Res} (hs : Tr w0 S w L) (hi : l[i]? = some o) (hw : Region.wanted o (yielded l.toArray a.tmps) = true)
    (hr : (execOp a.eval o).run P w = .ok (.enter f args) w) (hc : Calls P f args w fun e w' => ∃ v, e = .returned v ∧ Tr w [] w' [R v]) {a' : Value → Act} (ha : ∀ v, a.put o.dst v = a' v) (k : ∀ w' v, Tr w0 S w' (R v :: L) → K (a' v) w') : wpOp P l.toArray Q i K a w :=
  wt_call hi hw hr (hc.mono fun e w' ⟨v, he, ht⟩ => ⟨v, he, fun a'' ha' => by subst ha'; rw [ha v]; exact k w' v (hs.call1 ht)⟩)
theorem wt_and {p q : Prop} (h : p) (k : p → q) : p ∧ q := ⟨h, k h⟩
theorem wt_allocA {i : Nat} {K : Act → World → Prop} {t : TypeId} {w0 : World} {S : List Nat} {L : List Res} (hs : Tr w0 S w L) (hi : l[i]? = some o) (hw : Region.wanted o (yielded l.toArray a.tmps) = true) (ho : o.op = .alloc t)
    {cs : Array Value} (hz : (P.info? t).map (·.zero) = some (some (.agg cs))) {a' : Nat → Act} (ha : ∀ b, a.put o.dst (.pointer (some ⟨b, 0, none⟩)) = a' b) (k : ∀ w' b, Tr w0 S w' (Res.blk b cs t :: L) → K (a' b) w') : wpOp P l.toArray Q i K a w :=
  wt_run hi hw (ex_alloc ho hz) (ha _) (k _ _ (hs.call1 (tr_alloc w cs t)))
theorem wt_storeA {i : Nat} {K : Act → World → Prop} {t : TypeId} {x y : Operand} {w0 : World} {S : List Nat} {L : List Res} (hs : Tr w0 S w L) (hi : l[i]? = some o) (hw : Region.wanted o (yielded l.toArray a.tmps) = true) (ho : o.op = .store t x y)
    {b : Nat} (hx : a.eval x = .pointer (some ⟨b, 0, none⟩)) {ys : Array Value} (hy : a.eval y = .agg ys) (hn : (P.info? t).map (·.size) = some ys.size)
    (h1 : ∀ v ∈ ys.toList, v.oneCell' = true) (j : Nat) {cs : Array Value} {bt : TypeId} (hj : L[j]? = some (Res.blk b cs bt)) (hfit : cs.size = ys.size)
    (ha : a.put o.dst undef = a') (k : ∀ w', Tr w0 S w' (L.set j (Res.blk b ys bt)) → K a' w') : wpOp P l.toArray Q i K a w := by
  refine wt_skip hi hw (ex_storeA ho hn hx hy rfl h1 (hs.getB j hj) (by omega)) ha (k _ (hs.updB j hj ?_))
  have e : (cs.toList.take 0 ++ ys.toList ++ cs.toList.drop (0 + ys.toList.length)).toArray = ys := by
    have : cs.toList.drop ys.size = [] := List.drop_eq_nil_of_le (by simp; omega)
    simp [this]
  rw [e]
  exact tr_setRow (hs.getB j hj) _
/-- append to a slice that is nil or our own. -/
theorem wt_append {i : Nat} {K : Act → World → Prop} {w0 : World} {S : List Nat} {L : List Res} {e : TypeId} (hs : Tr w0 S w L) (hi : l[i]? = some o) (hw : Region.wanted o (yielded l.toArray a.tmps) = true) {s x : Operand} {ty : TypeId} (ho : o.op = .call { callee := .builtin .append, args := #[s, x], argTypes := #[ty, ty] }) (hu : P.underlying ty = some (.slice e))
    {z : Value} {size bytes : Nat} (hinfo : (P.info? e).map (fun i => (i.zero, i.size, i.bytes)) = some (some z, size, bytes)) (hzs : z.cells.size = size) (hsz : 0 < size)
    (j : Nat) {v : Value} {n : Nat} {xs : List Value} (hj : L[j]? = some (Res.own e size v n xs)) (hv : a.eval s = v)
    {ao : Option Addr} {m c : Nat} (hx : a.eval x = .slice ao m c) (sb so : Nat) (hao : ao = some ⟨sb, so, none⟩) (news : List Value) (hl : news.length = m * size) (hnews : ∀ j u, news[j]? = some u → w.cell? ⟨sb, so + j, none⟩ = some u) (h1 : ∀ u ∈ news, u.oneCell' = true)
    (h63 : n + m ≤ maxLen) (hbytes : (n + m) * bytes ≤ 140737488355328) {a' : Value → Act} (ha : ∀ v, a.put o.dst v = a' v)
    (k : ∀ w' v', Tr w0 S w' (L.set j (Res.own e size v' (n + m) (xs ++ news))) → (v' = .slice none 0 0 ↔ v = .slice none 0 0 ∧ m = 0) → K (a' v') w') : wpOp P l.toArray Q i K a w := by
  obtain ⟨i0, h2, h3, h4, h5⟩ := info_parts hinfo
  subst hao
  obtain ⟨v', w', hr, hown, hgrow, hnil, hblk⟩ := run_append_own_at (P := P) w 0 ty o.type e i0 z size bytes hu h2 h3 h4 h5 hzs hsz v n xs (hs.getO j hj) ⟨sb, so, none⟩ m c news hl (fun j u hj => by rw [Addr.add_mid]; exact hnews j u hj) h1 h63 hbytes (Nat.zero_le _)
  have hrun : (execOp a.eval o).run P w = .ok (.value v') w' := by
    unfold execOp
    simp only [ho, resolve, invoke, builtin, Sem.run_bind, Sem.run_pure, Result.andThen_ok, List.map_toArray, List.map_cons, List.map_nil, hv, hx, hr]
  exact wt_run hi hw hrun (ha v') (k w' v' (hs.upd j hj (tr_grown hgrow hown hblk)) hnil)
end
end Go.Sp
