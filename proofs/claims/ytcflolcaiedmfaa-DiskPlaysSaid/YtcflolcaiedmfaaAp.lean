/- append of a slice that may be empty; '[]T{}'. -/
import Derived.Test.YtcflolcaiedmfaaWt
import Derived.Laws.OwnMore
set_option linter.unusedVariables false
namespace Go.Sp
open Go Go.RowKit

section
variable {P : Program} {w0 w : World} {S : List Nat} {L : List Res} {a : Act} {o : Oper} {e : TypeId}

theorem grown_refl (w : World) (r : Option Nat) : w.grownBy w r := ⟨rfl, rfl, rfl, Nat.le_refl _, fun _ _ _ => rfl⟩

theorem ex_appendG (hs : Tr w0 S w L) {s x : Operand} {ty : TypeId} (ho : o.op = .call { callee := .builtin .append, args := #[s, x], argTypes := #[ty, ty] }) (hu : P.underlying ty = some (.slice e))
    {z : Value} {size bytes : Nat} (hinfo : (P.info? e).map (fun i => (i.zero, i.size, i.bytes)) = some (some z, size, bytes)) (hzs : z.cells.size = size) (hsz : 0 < size)
    (j : Nat) {v : Value} {n : Nat} {xs : List Value} (hj : L[j]? = some (Res.own e size v n xs)) (hv : a.eval s = v)
    {ao : Option Addr} {m c : Nat} (hx : a.eval x = .slice ao m c) (hc0 : ao = none → c = 0) (sb so : Nat) (hao : 0 < m → ao = some ⟨sb, so, none⟩) (news : List Value) (hl : news.length = m * size) (hnews : ∀ j u, news[j]? = some u → w.cell? ⟨sb, so + j, none⟩ = some u) (h1 : ∀ u ∈ news, u.oneCell' = true)
    (h63 : n + m ≤ maxLen) (hbytes : (n + m) * bytes ≤ 140737488355328) :
    ∃ v' w', (execOp a.eval o).run P w = .ok (.value v') w' ∧ Tr w0 S w' (L.set j (Res.own e size v' (n + m) (xs ++ news))) := by
  obtain ⟨i0, h2, h3, h4, h5⟩ := info_parts hinfo
  cases ao with
  | none =>
    have hm : m = 0 := by
      rcases Nat.eq_zero_or_pos m with h | h
      · exact h
      · have := hao h; cases this
    subst hm
    obtain rfl := hc0 rfl
    obtain rfl : news = [] := List.eq_nil_of_length_eq_zero (by simpa using hl)
    have hr := run_append_owned_none (P := P) w 0 ty o.type e i0 size hu h2 v n xs (hs.getO j hj)
    refine ⟨v, w, ?_, hs.upd j hj (tr_grown (grown_refl w _) (by simpa using hs.getO j hj) (Or.inl rfl))⟩
    unfold execOp
    simp only [ho, resolve, invoke, builtin, Sem.run_bind, Sem.run_pure, Result.andThen_ok, List.map_toArray, List.map_cons, List.map_nil, hv, hx, hr]
  | some ad =>
    have hnews' : ∀ j u, news[j]? = some u → w.cell? (ad.add j) = some u := fun j u hju => by
      have hm : 0 < m := by
        rcases Nat.eq_zero_or_pos m with h | h
        · subst h
          have : news = [] := List.eq_nil_of_length_eq_zero (by simpa using hl)
          subst this
          simp at hju
        · exact h
      have := hao hm
      simp only [Option.some.injEq] at this
      subst this
      rw [Addr.add_mid]
      exact hnews j u hju
    obtain ⟨v', w', hr, hown, hgrow, hnil, hblk⟩ := run_append_own_at (P := P) w 0 ty o.type e i0 z size bytes hu h2 h3 h4 h5 hzs hsz v n xs (hs.getO j hj) ad m c news hl hnews' h1 h63 hbytes (Nat.zero_le _)
    refine ⟨v', w', ?_, hs.upd j hj (tr_grown hgrow hown hblk)⟩
    unfold execOp
    simp only [ho, resolve, invoke, builtin, Sem.run_bind, Sem.run_pure, Result.andThen_ok, List.map_toArray, List.map_cons, List.map_nil, hv, hx, hr]

theorem ex_slice0 (hs : Tr w0 S w L) {t : TypeId} (ho : o.op = .buildSlice t 0 #[]) (hu : P.underlying t = some (.slice e)) {size : Nat} (hsz : (P.info? e).map (·.size) = some size) :
    ∃ v w', (execOp a.eval o).run P w = .ok (.value v) w' ∧ Tr w0 S w' (Res.own e size v 0 [] :: L) := by
  cases hq : P.info? e with
  | none => simp [hq] at hsz
  | some i =>
    refine ⟨.slice (some ⟨w.heap.size, 0, none⟩) 0 0, w.alloc (.cells #[] e), ?_, hs.call1 ?_⟩
    · unfold execOp
      simp [ho, Instr.buildSlice, run_underlying hu, sizeOf, typeInfo, hq, Instr.fill, newRow]
      congr 2
      exact Array.eq_empty_of_size_eq_zero (by simp)
    · have := World.ownsRow_lit (base := 0) (e := e) (size := size) w #[] 0 (Nat.zero_le _) (by unfold maxLen; omega) (by simp)
      refine ⟨rfl, rfl, rfl, by simp, fun _ hk _ => heap_alloc_old w _ hk, ?_, ?_, ?_⟩
      · intro r hr
        simp only [List.mem_singleton] at hr
        subst hr
        simpa [Res.own] using this
      · simp [feet, Res.own, Value.ownBlock]
      · simp [feet, Res.own, Value.ownBlock]

/-- What one owns, opened. -/
theorem Tr.own_open (hs : Tr w0 S w L) (i : Nat) {size : Nat} {v : Value} {n : Nat} {xs : List Value} (hi : L[i]? = some (Res.own e size v n xs)) :
    ∃ ao c g, v = .slice ao n c ∧ n ≤ c ∧ c ≤ maxLen ∧ (0 < n → ao = some ⟨g, 0, none⟩) ∧ (ao = none → c = 0) := by
  have h : w.ownsRow 0 e size v n xs := hs.getO i hi
  rcases h.2 with ⟨rfl, rfl⟩ | ⟨g, cap, cur, rfl, _, _, hnc, hcm, _⟩
  · exact ⟨none, 0, 0, rfl, Nat.le_refl _, by unfold maxLen; omega, fun h => by omega, fun _ => rfl⟩
  · exact ⟨_, cap, g, rfl, hnc, hcm, fun _ => rfl, fun h => by cases h⟩
theorem Tr.own_rdx (hs : Tr w0 S w L) (i : Nat) {size : Nat} {ao : Option Addr} {g n c N : Nat} {f : Nat → Value} (hi : L[i]? = some (Res.own e size (.slice ao n c) n (rowOf N f).toList)) (hao : 0 < n → ao = some ⟨g, 0, none⟩) : Rd w g 0 N f := by
  rcases Nat.eq_zero_or_pos n with h | h
  · subst h
    have hl : N = 0 := by
      have : w.ownsRow 0 e size (.slice ao 0 c) 0 (rowOf N f).toList := hs.getO i hi
      simpa using this.1
    intro j hj; omega
  · obtain rfl := hao h
    exact hs.own_rd i hi
/-- The cells that an append takes. -/
theorem Rd.news {w : World} {b off N : Nat} {f : Nat → Value} (h : Rd w b off N f) : ∀ j u, (rowOf N f).toList[j]? = some u → w.cell? ⟨b, off + j, none⟩ = some u := fun j u hj => by
  simp only [Array.getElem?_toList, rowOf_getElem?] at hj
  by_cases hjN : j < N
  · rw [if_pos hjN] at hj; rw [h j hjN]; exact hj
  · rw [if_neg hjN] at hj; cases hj
end

section
variable {P : Program} {w0 w : World} {S : List Nat} {L : List Res} {ops : Array Oper} {l : List Oper} {Q : Exit → Act → World → Prop} {a : Act} {o : Oper} {rest : List Oper} {e : TypeId}
theorem wl_appendG (hs : Tr w0 S w L) (hw : Region.wanted o (yielded ops a.tmps) = true) {s x : Operand} {ty : TypeId} (ho : o.op = .call { callee := .builtin .append, args := #[s, x], argTypes := #[ty, ty] }) (hu : P.underlying ty = some (.slice e))
    {z : Value} {size bytes : Nat} (hinfo : (P.info? e).map (fun i => (i.zero, i.size, i.bytes)) = some (some z, size, bytes)) (hzs : z.cells.size = size) (hsz : 0 < size)
    (j : Nat) {v : Value} {n : Nat} {xs : List Value} (hj : L[j]? = some (Res.own e size v n xs)) (hv : a.eval s = v)
    {ao : Option Addr} {m c : Nat} (hx : a.eval x = .slice ao m c) (hc0 : ao = none → c = 0) (sb so : Nat) (hao : 0 < m → ao = some ⟨sb, so, none⟩) (news : List Value) (hl : news.length = m * size) (hnews : ∀ j u, news[j]? = some u → w.cell? ⟨sb, so + j, none⟩ = some u) (h1 : ∀ u ∈ news, u.oneCell' = true)
    (h63 : n + m ≤ maxLen) (hbytes : (n + m) * bytes ≤ 140737488355328) (k : ∀ w' v', Tr w0 S w' (L.set j (Res.own e size v' (n + m) (xs ++ news))) → wpList P ops Q rest (a.put o.dst v') w') : wpList P ops Q (o :: rest) a w := by
  obtain ⟨v', w', hr, ht⟩ := ex_appendG hs ho hu hinfo hzs hsz j hj hv hx hc0 sb so hao news hl hnews h1 h63 hbytes
  exact wl_run hw hr (k w' v' ht)
theorem wt_appendG {i : Nat} {K : Act → World → Prop} (hs : Tr w0 S w L) (hi : l[i]? = some o) (hw : Region.wanted o (yielded l.toArray a.tmps) = true) {s x : Operand} {ty : TypeId} (ho : o.op = .call { callee := .builtin .append, args := #[s, x], argTypes := #[ty, ty] }) (hu : P.underlying ty = some (.slice e))
    {z : Value} {size bytes : Nat} (hinfo : (P.info? e).map (fun i => (i.zero, i.size, i.bytes)) = some (some z, size, bytes)) (hzs : z.cells.size = size) (hsz : 0 < size)
    (j : Nat) {v : Value} {n : Nat} {xs : List Value} (hj : L[j]? = some (Res.own e size v n xs)) (hv : a.eval s = v)
    {ao : Option Addr} {m c : Nat} (hx : a.eval x = .slice ao m c) (hc0 : ao = none → c = 0) (sb so : Nat) (hao : 0 < m → ao = some ⟨sb, so, none⟩) (news : List Value) (hl : news.length = m * size) (hnews : ∀ j u, news[j]? = some u → w.cell? ⟨sb, so + j, none⟩ = some u) (h1 : ∀ u ∈ news, u.oneCell' = true)
    (h63 : n + m ≤ maxLen) (hbytes : (n + m) * bytes ≤ 140737488355328) {a' : Value → Act} (ha : ∀ v, a.put o.dst v = a' v)
    (k : ∀ w' v', Tr w0 S w' (L.set j (Res.own e size v' (n + m) (xs ++ news))) → K (a' v') w') : wpOp P l.toArray Q i K a w := by
  obtain ⟨v', w', hr, ht⟩ := ex_appendG hs ho hu hinfo hzs hsz j hj hv hx hc0 sb so hao news hl hnews h1 h63 hbytes
  exact wt_run hi hw hr (ha v') (k w' v' ht)
theorem wl_slice0 (hs : Tr w0 S w L) (hw : Region.wanted o (yielded ops a.tmps) = true) {t : TypeId} (ho : o.op = .buildSlice t 0 #[]) (hu : P.underlying t = some (.slice e)) {size : Nat} (hsz : (P.info? e).map (·.size) = some size)
    (k : ∀ w' v, Tr w0 S w' (Res.own e size v 0 [] :: L) → wpList P ops Q rest (a.put o.dst v) w') : wpList P ops Q (o :: rest) a w := by
  obtain ⟨v', w', hr, ht⟩ := ex_slice0 (a := a) hs ho hu hsz
  exact wl_run hw hr (k w' v' ht)
theorem wt_slice0 {i : Nat} {K : Act → World → Prop} (hs : Tr w0 S w L) (hi : l[i]? = some o) (hw : Region.wanted o (yielded l.toArray a.tmps) = true) {t : TypeId} (ho : o.op = .buildSlice t 0 #[]) (hu : P.underlying t = some (.slice e)) {size : Nat} (hsz : (P.info? e).map (·.size) = some size)
    {a' : Value → Act} (ha : ∀ v, a.put o.dst v = a' v) (k : ∀ w' v, Tr w0 S w' (Res.own e size v 0 [] :: L) → K (a' v) w') : wpOp P l.toArray Q i K a w := by
  obtain ⟨v', w', hr, ht⟩ := ex_slice0 (a := a) hs ho hu hsz
  exact wt_run hi hw hr (ha v') (k w' v' ht)
end
section
variable {P : Program} {w : World} {md : Region.Mode} {l : List Oper} {Q : Exit → Act → World → Prop} {C : World → Prop} {fuel : Nat} {listed : Array Bool} {a : Act} {o : Oper} {e : TypeId}
theorem ex_sliceV {t : TypeId} {x : Operand} {lo hi : Option Operand} (ho : o.op = .slice t x lo hi none) (hu : P.underlying t = some (.slice e)) {sz : Nat} (hsz : (P.info? e).map (·.size) = some sz) {ao : Option Addr} {n c : Nat} (hx : a.eval x = .slice ao n c)
    (p h : Nat) (hlo : (lo = none ∧ p = 0) ∨ ∃ q k, lo = some q ∧ a.eval q = .int k (p : Int)) (hhi : (hi = none ∧ h = n) ∨ ∃ q k, hi = some q ∧ a.eval q = .int k (h : Int)) (hlh : p ≤ h) (hhc : h ≤ c) {b off : Nat} (hao : p < h → ao = some ⟨b, off, none⟩) :
    ∃ ao', (p < h → ao' = some ⟨b, off + p * sz, none⟩) ∧ ∀ w, (execOp a.eval o).run P w = .ok (.value (.slice ao' (h - p) (c - p))) w := by
  refine ⟨if c = p then ao else ao.map (·.add (p * sz)), fun hlt => by rw [if_neg (by omega), hao hlt]; simp [Addr.add_mid], fun w => ?_⟩
  cases hq : P.info? e with
  | none => simp [hq] at hsz
  | some i =>
    have hi' : i.size = sz := by simpa [hq] using hsz
    have hb : (Instr.sliceBounds true n c (lo.map a.eval) (hi.map a.eval) none).run P w = .ok (p, h, c) w := by
      rcases hlo with ⟨rfl, rfl⟩ | ⟨p1, k, rfl, hp⟩
      · rcases hhi with ⟨rfl, rfl⟩ | ⟨p2, k2, rfl, hp2⟩
        · simp [Instr.sliceBounds]
        · have : (Instr.sliceBound (.int k2 (h : Int)) c .sliceAcap).run P w = .ok h w := by
            simp [Instr.sliceBound, asIntOf, hhc]
          simp [Instr.sliceBounds, hp2, this]
      · rcases hhi with ⟨rfl, rfl⟩ | ⟨p2, k2, rfl, hp2⟩
        · have : (Instr.sliceBound (.int k (p : Int)) h .sliceB).run P w = .ok p w := by
            simp [Instr.sliceBound, asIntOf, hlh]
          simp [Instr.sliceBounds, hp, this]
        · have h1 : (Instr.sliceBound (.int k2 (h : Int)) c .sliceAcap).run P w = .ok h w := by
            simp [Instr.sliceBound, asIntOf, hhc]
          have h2 : (Instr.sliceBound (.int k (p : Int)) h .sliceB).run P w = .ok p w := by
            simp [Instr.sliceBound, asIntOf, hlh]
          simp [Instr.sliceBounds, hp, hp2, h1, h2]
    unfold execOp
    simp [ho, hx, Instr.sliceAt, run_underlying hu, Instr.slice, hb, sizeOf, typeInfo, hq, hi']
theorem wt_takeSlice (i : Nat) (hi : l[i]? = some o) (hs : Region.noSelect l.toArray = true) (hf : Region.free md l.toArray listed i = true) (hr : (Region.ready md l.toArray listed).contains i = true)
    (hQ : ∀ v c a w, Q (.panic c) (a.put o.dst v) w → Q (.panic c) a w) (hw : Region.wanted o (yielded l.toArray a.tmps) = true) (hS : C w)
    {t : TypeId} {x : Operand} {lo hh : Option Operand} (ho : o.op = .slice t x lo hh none) (hu : P.underlying t = some (.slice e)) {sz : Nat} (hsz : (P.info? e).map (·.size) = some sz) {ao : Option Addr} {n c : Nat} (hx : a.eval x = .slice ao n c)
    (p h : Nat) (hlo : (lo = none ∧ p = 0) ∨ ∃ q k, lo = some q ∧ a.eval q = .int k (p : Int)) (hhi : (hh = none ∧ h = n) ∨ ∃ q k, hh = some q ∧ a.eval q = .int k (h : Int)) (hlh : p ≤ h) (hhc : h ≤ c) {b off : Nat} (hao : p < h → ao = some ⟨b, off, none⟩)
    (k : ∀ ao', (p < h → ao' = some ⟨b, off + p * sz, none⟩) → ∀ a', a.put o.dst (.slice ao' (h - p) (c - p)) = a' → wpAnyH P md l.toArray Q C fuel (listed.setIfInBounds i true) a' w) : wpAnyH P md l.toArray Q C (fuel + 1) listed a w := by
  obtain ⟨ao', h1, h2⟩ := ex_sliceV ho hu hsz hx p h hlo hhi hlh hhc hao
  exact wt_take i hi hs hf hr hQ hw hS ⟨_, fun w _ => h2 w, k ao' h1⟩
end
end Go.Sp
