/- Rows of resources; a row that is kept beside one that grew out of it; a row that is owned, written in place. -/
import Derived.Test.YtcflolcaiedmfaaMo
set_option linter.unusedVariables false
namespace Go.Sp
open Go Go.RowKit

/-- n bundles of resources. -/
def rows (n : Nat) (F : Nat → List Res) : List Res := (List.range n).flatMap F
theorem rows_succ (n : Nat) (F : Nat → List Res) : rows (n + 1) F = rows n F ++ F n := by simp [rows, List.range_succ]
theorem rows_congr {n : Nat} {F G : Nat → List Res} (h : ∀ j, j < n → F j = G j) : rows n F = rows n G := by
  induction n with
  | zero => rfl
  | succ n ih => rw [rows_succ, rows_succ, ih fun j hj => h j (by omega), h n (by omega)]
theorem rows_pick {n : Nat} {F : Nat → List Res} : ∀ {i : Nat}, i < n → ∃ R', (rows n F).Perm (F i ++ R') ∧ ∀ G, (∀ j, j < n → j ≠ i → G j = F j) → (rows n G).Perm (G i ++ R') := by
  induction n with
  | zero => intro i hi; exact absurd hi (Nat.not_lt_zero i)
  | succ n ih =>
    intro i hi
    by_cases h : i = n
    · subst h
      refine ⟨rows i F, by rw [rows_succ]; exact List.perm_append_comm, fun G hG => ?_⟩
      rw [rows_succ, rows_congr fun j hj => hG j (by omega) (by omega)]
      exact List.perm_append_comm
    · obtain ⟨R', h1, h2⟩ := ih (i := i) (by omega)
      refine ⟨R' ++ F n, ?_, fun G hG => ?_⟩
      · rw [rows_succ, ← List.append_assoc]
        exact h1.append_right _
      · rw [rows_succ, ← List.append_assoc, hG n (by omega) (Ne.symm h)]
        exact (h2 G fun j hj hne => hG j (by omega) hne).append_right _

theorem ownsRow_stays {w w' : World} {e : TypeId} {size : Nat} {v : Value} {n : Nat} {xs : List Value} (h : ∀ k, v.ownBlock = some k → w'.heap[k]? = w.heap[k]?) (hh : w.ownsRow 0 e size v n xs) : w'.ownsRow 0 e size v n xs := by
  refine ⟨hh.1, ?_⟩
  rcases hh.2 with hn | ⟨g, cap, cur, rfl, hb, hgg, rest⟩
  · exact .inl hn
  · exact .inr ⟨g, cap, cur, rfl, hb, by rw [h g (by simp [Value.ownBlock])]; exact hgg, rest⟩

def pairFoot (v a : Value) : List Nat := v.ownBlock.toList ++ if a.ownBlock = v.ownBlock then [] else a.ownBlock.toList
theorem mem_pairFoot {v a : Value} {k : Nat} : k ∈ pairFoot v a ↔ v.ownBlock = some k ∨ a.ownBlock = some k := by
  unfold pairFoot
  split
  · rename_i h; rw [h]; simp
  · simp
theorem nodup_pairFoot (v a : Value) : (pairFoot v a).Nodup := by
  unfold pairFoot
  split
  · cases v.ownBlock <;> simp
  · rename_i h
    cases hv : v.ownBlock <;> cases ha : a.ownBlock <;> simp_all
    exact fun h2 => h h2.symm

/-- A row of our own, and one that grew out of it: they may lie in one block. -/
def Res.pair (e : TypeId) (size : Nat) (v : Value) (n : Nat) (xs : List Value) (a : Value) (m : Nat) (zs : List Value) : Res where
  foot := pairFoot v a
  holds w := w.ownsRow 0 e size v n xs ∧ w.ownsRow 0 e size a (n + m) (xs ++ zs)
  stays w w' h hh := ⟨ownsRow_stays (fun k hk => h k (mem_pairFoot.2 (.inl hk))) hh.1, ownsRow_stays (fun k hk => h k (mem_pairFoot.2 (.inr hk))) hh.2⟩
  live w h k hk := by
    rcases mem_pairFoot.1 hk with hk | hk
    · exact (h.1.lt k hk).2
    · exact (h.2.lt k hk).2

section
variable {w0 w w' : World} {S : List Nat} {L : List Res} {e : TypeId} {size : Nat} {v a : Value} {n m : Nat} {xs zs : List Value}

theorem feet_one (r : Res) : feet [r] = r.foot := by simp [feet]
theorem Tr.toPair (hs : Tr w0 S w L) (i : Nat) (hi : L[i]? = some (Res.own e size v n xs)) : Tr w0 S w (L.set i (Res.pair e size v n xs v 0 [])) := by
  have h : w.ownsRow 0 e size v n xs := hs.getO i hi
  refine hs.upd i hi ⟨rfl, rfl, rfl, Nat.le_refl _, fun _ _ _ => rfl, ?_, ?_, fun k hk => ?_⟩
  · intro r hr
    simp only [List.mem_singleton] at hr
    subst hr
    exact ⟨h, by simpa using h⟩
  · rw [feet_one]; exact nodup_pairFoot _ _
  · rw [feet_one] at hk
    left
    have : v.ownBlock = some k := by rcases mem_pairFoot.1 hk with h | h <;> exact h
    simp [Res.own, this]

theorem Tr.pairL (hs : Tr w0 S w L) (i : Nat) (hi : L[i]? = some (Res.pair e size v n xs a m zs)) : w.ownsRow 0 e size v n xs := (hs.get i hi).1
theorem Tr.pairR (hs : Tr w0 S w L) (i : Nat) (hi : L[i]? = some (Res.pair e size v n xs a m zs)) : w.ownsRow 0 e size a (n + m) (xs ++ zs) := (hs.get i hi).2

theorem pair_prefix {w w' : World} {g : Nat} {c1 c2 N : Nat} {ys : List Value} (hsz : 0 < size) (h1 : w.ownsRow 0 e size (.slice (some ⟨g, 0, none⟩) n c1) n xs) (h2 : w.ownsRow 0 e size (.slice (some ⟨g, 0, none⟩) m c2) m zs)
    (h3 : w'.ownsRow 0 e size (.slice (some ⟨g, 0, none⟩) N c2) N ys) (hp : xs <+: ys) : w'.ownsRow 0 e size (.slice (some ⟨g, 0, none⟩) n c1) n xs := by
  refine ⟨h1.1, .inr ?_⟩
  rcases h1.2 with ⟨h, _⟩ | ⟨g1, cap1, cur1, e1, _, hg1, hn1, hm1, hc1, ht1⟩
  · cases h
  rcases h2.2 with ⟨h, _⟩ | ⟨g2, cap2, cur2, e2, _, hg2, hn2, hm2, hc2, ht2⟩
  · cases h
  rcases h3.2 with ⟨h, _⟩ | ⟨g3, cap3, cur3, e3, _, hg3, hn3, hm3, hc3, ht3⟩
  · cases h
  injection e1 with e1 _ e1c
  injection e1 with e1
  injection e1 with e1
  injection e2 with e2 _ e2c
  injection e2 with e2
  injection e2 with e2
  injection e3 with e3 _ e3c
  injection e3 with e3
  injection e3 with e3
  subst e1 e2 e3 e1c e2c
  subst e3c
  rw [hg1] at hg2
  injection hg2 with hg2
  injection hg2 with hg2 _ _
  subst hg2
  refine ⟨g, c1, cur3, rfl, Nat.zero_le _, hg3, hn1, hm1, by omega, ?_⟩
  obtain ⟨t, ht⟩ := hp
  have hl := congrArg List.length ht3
  have hle : n * size ≤ N * size := by
    have := congrArg List.length ht
    have h3l := h3.1
    have h1l := h1.1
    simp only [List.length_append] at this
    omega
  have h5 : cur3.toList.take (n * size) = (cur3.toList.take (N * size)).take (n * size) := by rw [List.take_take, Nat.min_eq_left hle]
  rw [h5, ht3, ← ht, ← h1.1]
  exact List.take_left

variable {P : Program} {act : Act} {o : Oper}
theorem ex_appendP (hs : Tr w0 S w L) {s x : Operand} {ty : TypeId} (ho : o.op = .call { callee := .builtin .append, args := #[s, x], argTypes := #[ty, ty] }) (hu : P.underlying ty = some (.slice e))
    {z : Value} {bytes : Nat} (hinfo : (P.info? e).map (fun i => (i.zero, i.size, i.bytes)) = some (some z, size, bytes)) (hzs : z.cells.size = size) (hsz : 0 < size)
    (j : Nat) (hj : L[j]? = some (Res.pair e size v n xs a m zs)) (hv : act.eval s = a)
    {ao : Option Addr} {m1 c : Nat} (hx : act.eval x = .slice ao m1 c) (hm1 : 0 < m1) (sb so : Nat) (hao : ao = some ⟨sb, so, none⟩) (news : List Value) (hl : news.length = m1 * size) (hnews : ∀ j u, news[j]? = some u → w.cell? ⟨sb, so + j, none⟩ = some u) (h1 : ∀ u ∈ news, u.oneCell' = true)
    (h63 : n + m + m1 ≤ maxLen) (hbytes : (n + m + m1) * bytes ≤ 140737488355328) :
    ∃ a' w', (execOp act.eval o).run P w = .ok (.value a') w' ∧ Tr w0 S w' (L.set j (Res.pair e size v n xs a' (m + m1) (zs ++ news))) := by
  obtain ⟨i0, h2, h3, h4, h5⟩ := info_parts hinfo
  subst hao
  have hp := hs.get j hj
  have hL : w.ownsRow 0 e size v n xs := hp.1
  have hR : w.ownsRow 0 e size a (n + m) (xs ++ zs) := hp.2
  have hnews' : ∀ j u, news[j]? = some u → w.cell? ((⟨sb, so, none⟩ : Addr).add j) = some u := fun j u hju => by rw [Addr.add_mid]; exact hnews j u hju
  obtain ⟨a', w', hr, hown, hgrow, hnil, hblk⟩ := run_append_own_at (P := P) w 0 ty o.type e i0 z size bytes hu h2 h3 h4 h5 hzs hsz a (n + m) (xs ++ zs) hR ⟨sb, so, none⟩ m1 c news hl hnews' h1 h63 hbytes (Nat.zero_le _)
  have hrun : (execOp act.eval o).run P w = .ok (.value a') w' := by
    unfold execOp
    simp only [ho, resolve, invoke, builtin, Sem.run_bind, Sem.run_pure, Result.andThen_ok, List.map_toArray, List.map_cons, List.map_nil, hv, hx, hr]
  refine ⟨a', w', hrun, hs.upd j hj ?_⟩
  have hown' : w'.ownsRow 0 e size a' (n + (m + m1)) (xs ++ (zs ++ news)) := by rw [← Nat.add_assoc, ← List.append_assoc]; exact hown
  have claim : (∃ g c1 c2, a = .slice (some ⟨g, 0, none⟩) (n + m) c1 ∧ a' = .slice (some ⟨g, 0, none⟩) (n + m + m1) c2 ∧ c1 = c2) ∨ w.grownBy w' none := by
    have hsmall : n + m + m1 ≤ 9223372036854775807 := by simp only [maxLen] at h63; omega
    rcases hR.2 with ⟨rfl, h0⟩ | ⟨g, cap, cur, rfl, _, hg, hnc, hcm, hcs, htake⟩
    · right
      subst h4 h5
      have hr2 := run_append_nil (P := P) w ty o.type e i0 z hu h2 h3 ⟨sb, so, none⟩ m1 c news hl hnews' hm1 (by omega) (by have hb := hbytes; rw [h0, Nat.zero_add] at hb; omega)
      rw [hr] at hr2
      have e2 := (Result.ok.inj hr2).2
      subst e2
      exact ⟨rfl, rfl, rfl, by simp, fun k hk _ => heap_alloc_old w.drew _ hk⟩
    · by_cases hroom : n + m + m1 ≤ cap
      · left
        subst h4
        have hfit : (n + m) * i0.size + news.length ≤ cur.size := by rw [hl, hcs, ← Nat.add_mul]; exact Nat.mul_le_mul_right _ hroom
        have hr2 := run_append_room (P := P) w ty o.type e i0 hu h2 g (n + m) cap cur hg ⟨sb, so, none⟩ m1 c news hl hnews' h1 hroom hfit
        rw [hr] at hr2
        injection hr2 with e1 e2
        exact ⟨g, cap, cap, rfl, e1, rfl⟩
      · right
        subst h4 h5
        have holds : ∀ j u, (xs ++ zs)[j]? = some u → w.cell? ((⟨g, 0, none⟩ : Addr).add j) = some u := hR.cells (g := g) rfl
        have hr2 := run_append_grow (P := P) w ty o.type e i0 z hu h2 h3 ⟨g, 0, none⟩ (n + m) cap (xs ++ zs) hR.1 holds ⟨sb, so, none⟩ m1 c news hl hnews' (by omega) (by omega) (growslice_fits (by omega) hbytes)
        rw [hr] at hr2
        have e2 := (Result.ok.inj hr2).2
        subst e2
        exact ⟨rfl, rfl, rfl, by simp, fun k hk _ => heap_alloc_old w.drew _ hk⟩
  have hfoot : (Res.pair e size v n xs a m zs).foot = pairFoot v a := rfl
  rw [hfoot]
  have fin : w'.ownsRow 0 e size v n xs → (∀ k, k < w.heap.size → k ∉ pairFoot v a → w'.heap[k]? = w.heap[k]?) → Tr w (pairFoot v a) w' [Res.pair e size v n xs a' (m + m1) (zs ++ news)] := fun hv' hk' => by
    refine ⟨hgrow.os, hgrow.tape, hgrow.output, hgrow.size, hk', ?_, ?_, fun k hk => ?_⟩
    · intro r hr
      simp only [List.mem_singleton] at hr
      subst hr
      exact ⟨hv', hown'⟩
    · rw [feet_one]; exact nodup_pairFoot _ _
    · rw [feet_one] at hk
      rcases mem_pairFoot.1 hk with h | h
      · exact .inl (mem_pairFoot.2 (.inl h))
      · rcases hblk with hb | hb
        · exact .inl (mem_pairFoot.2 (.inr (hb ▸ h)))
        · rw [hb] at h
          injection h with h
          subst h
          exact .inr (Nat.le_refl _)
  rcases claim with ⟨g, c1, c2, e1, e2, e3⟩ | hfresh
  · subst e1 e2 e3
    refine fin ?_ fun k hk hn => hgrow.block k hk (fun hc => hn (mem_pairFoot.2 (.inr hc.symm)))
    by_cases hvg : v.ownBlock = some g
    · rcases hL.2 with ⟨rfl, _⟩ | ⟨g1, cap1, cur1, rfl, _, _⟩
      · simp [Value.ownBlock] at hvg
      · have : g1 = g := by simpa [Value.ownBlock] using hvg
        subst this
        exact pair_prefix hsz hL hR hown ⟨zs ++ news, by simp⟩
    · exact hL.kept hgrow (.inr (by simpa [Value.ownBlock] using hvg))
  · exact fin (hL.kept hfresh (by cases v.ownBlock <;> simp)) fun k hk _ => hfresh.block k hk (by simp)

theorem wl_appendP {ops : Array Oper} {rest : List Oper} {Q : Exit → Act → World → Prop} (hs : Tr w0 S w L) (hw : Region.wanted o (yielded ops act.tmps) = true) {s x : Operand} {ty : TypeId} (ho : o.op = .call { callee := .builtin .append, args := #[s, x], argTypes := #[ty, ty] }) (hu : P.underlying ty = some (.slice e))
    {z : Value} {bytes : Nat} (hinfo : (P.info? e).map (fun i => (i.zero, i.size, i.bytes)) = some (some z, size, bytes)) (hzs : z.cells.size = size) (hsz : 0 < size)
    (j : Nat) (hj : L[j]? = some (Res.pair e size v n xs a m zs)) (hv : act.eval s = a)
    {ao : Option Addr} {m1 c : Nat} (hx : act.eval x = .slice ao m1 c) (hm1 : 0 < m1) (sb so : Nat) (hao : ao = some ⟨sb, so, none⟩) (news : List Value) (hl : news.length = m1 * size) (hnews : ∀ j u, news[j]? = some u → w.cell? ⟨sb, so + j, none⟩ = some u) (h1 : ∀ u ∈ news, u.oneCell' = true)
    (h63 : n + m + m1 ≤ maxLen) (hbytes : (n + m + m1) * bytes ≤ 140737488355328)
    (k : ∀ w' a', Tr w0 S w' (L.set j (Res.pair e size v n xs a' (m + m1) (zs ++ news))) → wpList P ops Q rest (act.put o.dst a') w') : wpList P ops Q (o :: rest) act w := by
  obtain ⟨a', w', hr, ht⟩ := ex_appendP hs ho hu hinfo hzs hsz j hj hv hx hm1 sb so hao news hl hnews h1 h63 hbytes
  exact wl_run hw hr (k w' a' ht)

/-- A slice as a value of a pair. -/
theorem Tr.pair_open (hs : Tr w0 S w L) (i : Nat) (hi : L[i]? = some (Res.pair e size v n xs a m zs)) :
    ∃ ao c g ao2 c2 g2, v = .slice ao n c ∧ (0 < n → ao = some ⟨g, 0, none⟩) ∧ a = .slice ao2 (n + m) c2 ∧ (0 < n + m → ao2 = some ⟨g2, 0, none⟩) := by
  have hL := hs.pairL i hi
  have hR := hs.pairR i hi
  rcases hL.2 with ⟨rfl, rfl⟩ | ⟨g, cap, cur, rfl, _⟩
  · rcases hR.2 with ⟨rfl, h0⟩ | ⟨g2, cap2, cur2, rfl, _⟩
    · exact ⟨none, 0, 0, none, 0, 0, rfl, fun h => by omega, by rw [h0], fun h => by omega⟩
    · exact ⟨none, 0, 0, _, cap2, g2, rfl, fun h => by omega, rfl, fun _ => rfl⟩
  · rcases hR.2 with ⟨rfl, h0⟩ | ⟨g2, cap2, cur2, rfl, _⟩
    · exact ⟨_, cap, g, none, 0, 0, rfl, fun _ => rfl, by rw [h0], fun h => by omega⟩
    · exact ⟨_, cap, g, _, cap2, g2, rfl, fun _ => rfl, rfl, fun _ => rfl⟩
theorem Tr.pairL_cell {g c : Nat} (hs : Tr w0 S w L) (i : Nat) (hi : L[i]? = some (Res.pair e size (.slice (some ⟨g, 0, none⟩) n c) n xs a m zs)) {j : Nat} {u : Value} (hj : xs[j]? = some u) : w.cell? ⟨g, j, none⟩ = some u := by
  have h := hs.pairL i hi
  rw [h.cellAt j (by rw [← h.1]; exact (List.getElem?_eq_some_iff.1 hj).1)]
  exact hj
theorem Tr.pairR_cell {g c N : Nat} (hs : Tr w0 S w L) (i : Nat) (hN : N = n + m) (hi : L[i]? = some (Res.pair e size v n xs (.slice (some ⟨g, 0, none⟩) N c) m zs)) {j : Nat} {u : Value} (hj : (xs ++ zs)[j]? = some u) : w.cell? ⟨g, j, none⟩ = some u := by
  subst hN
  have h := hs.pairR i hi
  rw [h.cellAt j (by rw [← h.1]; exact (List.getElem?_eq_some_iff.1 hj).1)]
  exact hj
end

/-! ### What is owned, written in place -/
section
variable {P : Program} {w0 w : World} {S : List Nat} {L : List Res} {act : Act} {o : Oper} {t e : TypeId} {x y : Operand}
theorem ex_storeO (hs : Tr w0 S w L) (ho : o.op = .store t x y) {k : Nat} (hn : (P.info? t).map (·.size) = some k) {g off n c size : Nat} (hx : act.eval x = .pointer (some ⟨g, off, none⟩)) {ys : Array Value} (hy : act.eval y = .agg ys) (hys : ys.size = k)
    (h1 : ∀ v ∈ ys.toList, v.oneCell' = true) (i : Nat) {xs : List Value} (hi : L[i]? = some (Res.own e size (.slice (some ⟨g, 0, none⟩) n c) n xs)) (hfit : off + k ≤ xs.length) :
    ∃ w', (execOp act.eval o).run P w = .ok .skip w' ∧ Tr w0 S w' (L.set i (Res.own e size (.slice (some ⟨g, 0, none⟩) n c) n (xs.take off ++ ys.toList ++ xs.drop (off + k)))) := by
  have h : w.ownsRow 0 e size (.slice (some ⟨g, 0, none⟩) n c) n xs := hs.getO i hi
  rcases h.2 with ⟨hc, _⟩ | ⟨g1, cap, cur, e1, _, hg, hnc, hcm, hcs, ht⟩
  · cases hc
  injection e1 with e1 _ e2
  injection e1 with e1
  injection e1 with e1
  subst e1 e2
  have hnx := h.1
  have hle : n * size ≤ cur.size := by rw [hcs]; exact Nat.mul_le_mul_right _ hnc
  have hyl : ys.toList.length = k := by simpa using hys
  refine ⟨_, ex_storeA ho hn hx hy hys h1 hg (by omega), hs.upd i hi ?_⟩
  have e3 : (Res.own e size (.slice (some ⟨g, 0, none⟩) n c) n xs).foot = [g] := by simp [Res.own, Value.ownBlock]
  rw [e3]
  refine ⟨rfl, rfl, rfl, by simp, fun q hq hS => setRow_other w g q _ (by simpa using hS), ?_, ?_, ?_⟩
  · intro r hr
    simp only [List.mem_singleton] at hr
    subst hr
    have : World.ownsRow (w.setRow g (cur.toList.take off ++ ys.toList ++ cur.toList.drop (off + ys.toList.length)).toArray) 0 e size (.slice (some ⟨g, 0, none⟩) n c) n (xs.take off ++ ys.toList ++ xs.drop (off + k)) := by
      refine ⟨by simp only [List.length_append, List.length_take, List.length_drop]; omega, .inr ⟨g, c, _, rfl, Nat.zero_le _, setRow_heap w g cur _ e _ hg, hnc, hcm, ?_, ?_⟩⟩
      · simp only [List.size_toArray, List.length_append, List.length_take, List.length_drop, Array.length_toList]; omega
      · subst ht
        apply List.ext_getElem?
        intro q
        simp only [List.getElem?_take, List.getElem?_append, List.length_append, List.length_take, List.getElem?_drop, Array.length_toList]
        have e4 : min off cur.size = off := by omega
        have e5 : min off (min (n * size) cur.size) = off := by omega
        have hyl2 : ys.size = k := hys
        simp only [e4, e5, hyl2]
        by_cases c1 : q < n * size
        · simp only [c1, if_true]
          by_cases c2 : q < off
          · simp [c2, show q < off + k by omega]
          · by_cases c3 : q < off + k
            · simp [c2, c3]
            · have c4 : off + k + (q - (off + k)) = q := by omega
              simp [c3, c4, c1]
        · have c2 : ¬ q < off + k := by simp only [List.length_take, Array.length_toList] at hfit; omega
          have c4 : off + k + (q - (off + k)) = q := by omega
          simp [c1, c2, c4]
    simpa [Res.own] using this
  · simp [feet, Res.own, Value.ownBlock]
  · simp [feet, Res.own, Value.ownBlock]
theorem ex_storeO1 (hs : Tr w0 S w L) (ho : o.op = .store t x y) (hn : (P.info? t).map (·.size) = some 1) {g off n c size : Nat} (hx : act.eval x = .pointer (some ⟨g, off, none⟩)) {v : Value} (hy : act.eval y = v) (h1 : v.oneCell' = true)
    (i : Nat) {xs : List Value} (hi : L[i]? = some (Res.own e size (.slice (some ⟨g, 0, none⟩) n c) n xs)) (hfit : off < xs.length) :
    ∃ w', (execOp act.eval o).run P w = .ok .skip w' ∧ Tr w0 S w' (L.set i (Res.own e size (.slice (some ⟨g, 0, none⟩) n c) n (xs.set off v))) := by
  have h : w.ownsRow 0 e size (.slice (some ⟨g, 0, none⟩) n c) n xs := hs.getO i hi
  rcases h.2 with ⟨hc, _⟩ | ⟨g1, cap, cur, e1, _, hg, hnc, hcm, hcs, ht⟩
  · cases hc
  injection e1 with e1 _ e2
  injection e1 with e1
  injection e1 with e1
  subst e1 e2
  have hnx := h.1
  have hle : n * size ≤ cur.size := by rw [hcs]; exact Nat.mul_le_mul_right _ hnc
  refine ⟨_, ex_store1 ho hn hx hy h1 hg (by omega), hs.upd i hi ?_⟩
  have e3 : (Res.own e size (.slice (some ⟨g, 0, none⟩) n c) n xs).foot = [g] := by simp [Res.own, Value.ownBlock]
  rw [e3]
  refine ⟨rfl, rfl, rfl, by simp, fun q hq hS => setRow_other w g q _ (by simpa using hS), ?_, ?_, ?_⟩
  · intro r hr
    simp only [List.mem_singleton] at hr
    subst hr
    have : World.ownsRow (w.setRow g (cur.setIfInBounds off v)) 0 e size (.slice (some ⟨g, 0, none⟩) n c) n (xs.set off v) := by
      refine ⟨by simpa using hnx, .inr ⟨g, c, _, rfl, Nat.zero_le _, setRow_heap w g cur _ e _ hg, hnc, hcm, by simpa using hcs, ?_⟩⟩
      rw [Array.toList_setIfInBounds, ← ht, List.take_set]
    simpa [Res.own] using this
  · simp [feet, Res.own, Value.ownBlock]
  · simp [feet, Res.own, Value.ownBlock]
theorem wl_storeO {ops : Array Oper} {rest : List Oper} {Q : Exit → Act → World → Prop} (hs : Tr w0 S w L) (hw : Region.wanted o (yielded ops act.tmps) = true) (ho : o.op = .store t x y) {k : Nat} (hn : (P.info? t).map (·.size) = some k) {g off n c size : Nat} (hx : act.eval x = .pointer (some ⟨g, off, none⟩)) {ys : Array Value} (hy : act.eval y = .agg ys) (hys : ys.size = k)
    (h1 : ∀ v ∈ ys.toList, v.oneCell' = true) (i : Nat) {xs : List Value} (hi : L[i]? = some (Res.own e size (.slice (some ⟨g, 0, none⟩) n c) n xs)) (hfit : off + k ≤ xs.length) (xs' : List Value) (hxs : xs.take off ++ ys.toList ++ xs.drop (off + k) = xs')
    (kk : ∀ w', Tr w0 S w' (L.set i (Res.own e size (.slice (some ⟨g, 0, none⟩) n c) n xs')) → wpList P ops Q rest (act.put o.dst undef) w') : wpList P ops Q (o :: rest) act w := by
  subst hxs
  obtain ⟨w', hr, ht⟩ := ex_storeO hs ho hn hx hy hys h1 i hi hfit
  exact wl_skip hw hr (kk w' ht)
theorem wl_storeO1 {ops : Array Oper} {rest : List Oper} {Q : Exit → Act → World → Prop} (hs : Tr w0 S w L) (hw : Region.wanted o (yielded ops act.tmps) = true) (ho : o.op = .store t x y) (hn : (P.info? t).map (·.size) = some 1) {g off n c size : Nat} (hx : act.eval x = .pointer (some ⟨g, off, none⟩)) {v : Value} (hy : act.eval y = v) (h1 : v.oneCell' = true)
    (i : Nat) {xs : List Value} (hi : L[i]? = some (Res.own e size (.slice (some ⟨g, 0, none⟩) n c) n xs)) (hfit : off < xs.length) (xs' : List Value) (hxs : xs.set off v = xs')
    (kk : ∀ w', Tr w0 S w' (L.set i (Res.own e size (.slice (some ⟨g, 0, none⟩) n c) n xs')) → wpList P ops Q rest (act.put o.dst undef) w') : wpList P ops Q (o :: rest) act w := by
  subst hxs
  obtain ⟨w', hr, ht⟩ := ex_storeO1 hs ho hn hx hy h1 i hi hfit
  exact wl_skip hw hr (kk w' ht)
end
/-! ### A slice of aggregates; a callee that makes a row and tells more -/
section
variable {P : Program} {w0 w : World} {S : List Nat} {L : List Res} {l : List Oper} {Q : Exit → Act → World → Prop} {a : Act} {o : Oper}
theorem fill_step {size i : Nat} {Z cs : Array Value} {rest : List (Nat × Value)} (hcs : cs.size = size) (hZ : i * size + size ≤ Z.size) :
    Instr.fill (fun i => some (i * size, size)) Z ((i, .agg cs) :: rest) = Instr.fill (fun i => some (i * size, size)) (Z.toList.take (i * size) ++ cs.toList ++ Z.toList.drop (i * size + cs.toList.length)).toArray rest := by
  have hv : (Value.agg cs).cells = cs := rfl
  have hfold := foldl_set (i * size) cs.toList 0 Z (by simp [hcs]; omega)
  have e1 : cs.zipIdx.foldl (fun cs (x : Value × Nat) => cs.setIfInBounds (i * size + x.2) x.1) Z = (Z.toList.take (i * size) ++ cs.toList ++ Z.toList.drop (i * size + cs.toList.length)).toArray := by
    rw [← Array.foldl_toList, Array.toList_zipIdx, hfold]
    simp
  have h1 : (decide ((Value.agg cs).cells.size ≠ size) || decide (i * size + (Value.agg cs).cells.size > Z.size)) = false := by
    rw [hv]; simp [hcs]; omega
  conv => lhs; unfold Instr.fill
  simp only [h1]
  rw [hv, e1]
  simp
theorem fill_rows {size i N : Nat} {f g : Nat → Value} {rest : List (Nat × Value)} (hZ : i * size + size ≤ N) :
    Instr.fill (fun i => some (i * size, size)) (rowOf N f) ((i, .agg (rowOf size g)) :: rest) = Instr.fill (fun i => some (i * size, size)) (rowOf N fun j => if i * size ≤ j ∧ j < i * size + size then g (j - i * size) else f j) rest := by
  rw [fill_step (rowOf_size _ _) (by rw [rowOf_size]; exact hZ), rowOf_splice f g (i * size) hZ]
theorem wt_callF {i : Nat} {K : Act → World → Prop} {f : FuncId} {args : Array Value} {R : Value → Res} (F : Value → Value) (hs : Tr w0 S w L) (hi : l[i]? = some o) (hw : Region.wanted o (yielded l.toArray a.tmps) = true)
    (hr : (execOp a.eval o).run P w = .ok (.enter f args) w) (hc : Calls P f args w fun e w' => ∃ v, e = .returned (F v) ∧ Tr w [] w' [R v]) {a' : Value → Act} (ha : ∀ v, a.put o.dst (F v) = a' v) (k : ∀ w' v, Tr w0 S w' (R v :: L) → K (a' v) w') : wpOp P l.toArray Q i K a w :=
  wt_call hi hw hr (hc.mono fun e w' ⟨v, he, ht⟩ => ⟨F v, he, fun a'' ha' => by subst ha'; rw [ha v]; exact k w' v (hs.call1 ht)⟩)
end
/-- Out of what is owned: one bundle, and how it goes back. -/
theorem Tr.pull {w0 w : World} {S : List Nat} {B : List Res} {n i : Nat} {F : Nat → List Res} (hs : Tr w0 S w (B ++ rows n F)) (hi : i < n) :
    ∃ R', Tr w0 S w (F i ++ (B ++ R')) ∧ ∀ w' B' (G : Nat → List Res), (∀ j, j < n → j ≠ i → G j = F j) → Tr w0 S w' (G i ++ (B' ++ R')) → Tr w0 S w' (B' ++ rows n G) := by
  obtain ⟨R', h1, h2⟩ := rows_pick (F := F) hi
  refine ⟨R', hs.perm ?_, fun w' B' G hG h => h.perm ?_⟩
  · refine (h1.append_left B).trans ?_
    rw [← List.append_assoc, ← List.append_assoc]
    exact List.perm_append_comm.append_right _
  · refine List.Perm.trans ?_ ((h2 G hG).symm.append_left B')
    rw [← List.append_assoc, ← List.append_assoc]
    exact List.perm_append_comm.append_right _
theorem rows2_get {n : Nat} {A B : Nat → Res} : ∀ {i : Nat}, i < n → (rows n fun j => [A j, B j])[2 * i]? = some (A i) ∧ (rows n fun j => [A j, B j])[2 * i + 1]? = some (B i) := by
  induction n with
  | zero => intro i hi; exact absurd hi (Nat.not_lt_zero i)
  | succ n ih =>
    intro i hi
    have hl : (rows n fun j => [A j, B j]).length = 2 * n := by
      clear ih hi
      induction n with
      | zero => rfl
      | succ n ih => rw [rows_succ, List.length_append, ih]; rfl
    rw [rows_succ]
    by_cases h : i = n
    · subst h
      constructor
      · rw [List.getElem?_append_right (by omega), hl, Nat.sub_self]; rfl
      · rw [List.getElem?_append_right (by omega), hl, Nat.add_sub_cancel_left]; rfl
    · obtain ⟨h1, h2⟩ := ih (i := i) (by omega)
      rw [List.getElem?_append_left (by omega), List.getElem?_append_left (by omega)]
      exact ⟨h1, h2⟩
theorem wt_storeO1 {P : Program} {w0 w : World} {S : List Nat} {L : List Res} {l : List Oper} {Q : Exit → Act → World → Prop} {act act' : Act} {o : Oper} {t e : TypeId} {x y : Operand} {i : Nat} {K : Act → World → Prop} (hs : Tr w0 S w L) (hi : l[i]? = some o) (hw : Region.wanted o (yielded l.toArray act.tmps) = true) (ho : o.op = .store t x y) (hn : (P.info? t).map (·.size) = some 1) {g off n c size : Nat} (hx : act.eval x = .pointer (some ⟨g, off, none⟩)) {v : Value} (hy : act.eval y = v) (h1 : v.oneCell' = true)
    (j : Nat) {xs : List Value} (hj : L[j]? = some (Res.own e size (.slice (some ⟨g, 0, none⟩) n c) n xs)) (hfit : off < xs.length) (xs' : List Value) (hxs : xs.set off v = xs')
    (ha : act.put o.dst undef = act') (kk : ∀ w', Tr w0 S w' (L.set j (Res.own e size (.slice (some ⟨g, 0, none⟩) n c) n xs')) → K act' w') : wpOp P l.toArray Q i K act w := by
  subst hxs
  obtain ⟨w', hr, ht⟩ := ex_storeO1 hs ho hn hx hy h1 j hj hfit
  exact wt_skip hi hw hr ha (kk w' ht)
theorem splice_list {n m : Nat} (f g : Nat → Value) (o : Nat) (h : o + m ≤ n) :
    (rowOf n f).toList.take o ++ (rowOf m g).toList ++ (rowOf n f).toList.drop (o + m) = (rowOf n (fun j => if o ≤ j ∧ j < o + m then g (j - o) else f j)).toList := by
  have := congrArg Array.toList (rowOf_splice f g o h)
  simpa using this
theorem set_list (n : Nat) (f : Nat → Value) (o : Nat) (v : Value) : (rowOf n f).toList.set o v = (rowOf n fun j => if j = o then v else f j).toList := by
  have := congrArg Array.toList (rowOf_set n f o v)
  rw [Array.toList_setIfInBounds] at this
  exact this
theorem wl_buildSliceF {P : Program} {w0 w : World} {S : List Nat} {L : List Res} {ops : Array Oper} {Q : Exit → Act → World → Prop} {a : Act} {o : Oper} {rest : List Oper} {t e : TypeId} (hs : Tr w0 S w L) (hw : Region.wanted o (yielded ops a.tmps) = true) {len : Nat} {l : List (Nat × Operand)} (ho : o.op = .buildSlice t len l.toArray) (hu : P.underlying t = some (.slice e)) {z : Value} {size bytes : Nat} (hi : (P.info? e).map (fun i => (i.zero, i.size, i.bytes)) = some (some z, size, bytes))
    (h24 : len * size ≤ 16777216) (h0 : len * size ≠ 0) (ps : List (Nat × Value)) (hl : l.map (fun p => (p.1, a.eval p.2)) = ps) (cells : Array Value) (hf : ∀ Z : Array Value, Z.size = len * size → Instr.fill (fun i => some (i * size, size)) Z ps = some cells)
    (k : ∀ w' b, Tr w0 S w' (Res.blk b cells e :: L) → wpList P ops Q rest (a.put o.dst (.slice (some ⟨b, 0, none⟩) len len)) w') : wpList P ops Q (o :: rest) a w := by
  refine wl_buildSlice hs hw ho hu hi h24 h0 ?_ k
  have e1 : (l.toArray.map fun (x : Nat × Operand) => (x.1, a.eval x.2)).toList = ps := by rw [← hl]; simp
  have := hf ((Array.range (len * size)).map (z.cells[· % z.cells.size]!)) (by simp)
  rw [← e1] at this
  exact this
theorem wt_storeO {P : Program} {w0 w : World} {S : List Nat} {L : List Res} {l : List Oper} {Q : Exit → Act → World → Prop} {act act' : Act} {o : Oper} {t e : TypeId} {x y : Operand} {i : Nat} {K : Act → World → Prop} (hs : Tr w0 S w L) (hi : l[i]? = some o) (hw : Region.wanted o (yielded l.toArray act.tmps) = true) (ho : o.op = .store t x y) {k : Nat} (hn : (P.info? t).map (·.size) = some k) {g off n c size : Nat} (hx : act.eval x = .pointer (some ⟨g, off, none⟩)) {ys : Array Value} (hy : act.eval y = .agg ys) (hys : ys.size = k)
    (h1 : ∀ v ∈ ys.toList, v.oneCell' = true) (j : Nat) {xs : List Value} (hj : L[j]? = some (Res.own e size (.slice (some ⟨g, 0, none⟩) n c) n xs)) (hfit : off + k ≤ xs.length) (xs' : List Value) (hxs : xs.take off ++ ys.toList ++ xs.drop (off + k) = xs')
    (ha : act.put o.dst undef = act') (kk : ∀ w', Tr w0 S w' (L.set j (Res.own e size (.slice (some ⟨g, 0, none⟩) n c) n xs')) → K act' w') : wpOp P l.toArray Q i K act w := by
  subst hxs
  obtain ⟨w', hr, ht⟩ := ex_storeO hs ho hn hx hy hys h1 j hj hfit
  exact wt_skip hi hw hr ha (kk w' ht)
attribute [irreducible] Res.pair
end Go.Sp
