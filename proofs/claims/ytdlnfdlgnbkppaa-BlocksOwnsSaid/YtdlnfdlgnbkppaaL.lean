/- Lists that are made: one element more, many more, read. -/
import Derived.Test.YtdlnfdlgnbkppaaD
namespace Go.Sp
set_option linter.unusedVariables false
open Go Go.RowKit

section
variable {P : Program} {w0 w : World} {S : List Nat} {L : List Res} {ops : Array Oper} {Q : Exit → Act → World → Prop} {a : Act} {o : Oper} {rest : List Oper} {e : TypeId} {x : Operand}
theorem Tr.own_cell (hs : Tr w0 S w L) (i : Nat) {size g n c : Nat} {xs : List Value} (hi : L[i]? = some (Res.own e size (.slice (some ⟨g, 0, none⟩) n c) n xs)) {j : Nat} {u : Value} (hj : xs[j]? = some u) : w.cell? ⟨g, j, none⟩ = some u := by
  have h : w.ownsRow 0 e size (.slice (some ⟨g, 0, none⟩) n c) n xs := hs.getO i hi
  have hl := h.1
  have hlt : j < xs.length := (List.getElem?_eq_some_iff.1 hj).1
  rw [h.cellAt j (by omega), hj]
theorem blk_news {b : Nat} {cs : Array Value} {t : TypeId} (h : w.heap[b]? = some (.cells cs t (0, 0))) : ∀ j u, cs.toList[j]? = some u → w.cell? ⟨b, 0 + j, none⟩ = some u := fun j u hj => by
  rw [Nat.zero_add, cell_of_row _ b j _ _ (0, 0) h]
  simpa using hj
theorem Tr.own_news (hs : Tr w0 S w L) (i : Nat) {size g n c : Nat} {ao : Option Addr} {xs : List Value} (hi : L[i]? = some (Res.own e size (.slice ao n c) n xs)) (hao : 0 < n → ao = some ⟨g, 0, none⟩) : ∀ j u, xs[j]? = some u → w.cell? ⟨g, 0 + j, none⟩ = some u := fun j u hj => by
  have h : w.ownsRow 0 e size (.slice ao n c) n xs := hs.getO i hi
  have hl := h.1
  have hlt : j < xs.length := (List.getElem?_eq_some_iff.1 hj).1
  have hn : 0 < n := by
    rcases Nat.eq_zero_or_pos n with h0 | h0
    · rw [h0, Nat.zero_mul] at hl; omega
    · exact h0
  obtain rfl := hao hn
  rw [Nat.zero_add]
  exact hs.own_cell i hi hj
/-- A block's cells behind a list. -/
theorem wl_append1 (hs : Tr w0 S w L) (hg : o.guard = none) {s : Operand} {ty : TypeId} (ho : o.op = .call { callee := .builtin .append, args := #[s, x], argTypes := #[ty, ty] }) (hu : P.underlying ty = some (.slice e))
    {z : Value} {size bytes : Nat} (hinfo : (P.info? e).map (fun i => (i.zero, i.size, i.bytes)) = some (some z, size, bytes)) (hzs : z.cells.size = size) (hsz : 0 < size)
    (i : Nat) {v : Value} {n : Nat} {xs : List Value} (hi : L[i]? = some (Res.own e size v n xs)) (hv : a.eval s = v)
    (j : Nat) {b m c : Nat} {cs : Array Value} {bt : TypeId} (hj : L[j]? = some (Res.blk b cs bt)) (hx : a.eval x = .slice (some ⟨b, 0, none⟩) m c) (hcs : cs.size = m * size) (h1 : ∀ u ∈ cs.toList, u.oneCell' = true)
    (h63 : n + m ≤ maxLen) (hbytes : (n + m) * bytes ≤ 140737488355328)
    (k : ∀ w' v', Tr w0 S w' (L.set i (Res.own e size v' (n + m) (xs ++ cs.toList))) → wpList P ops Q rest (a.put o.dst v') w') : wpList P ops Q (o :: rest) a w :=
  wl_append hs hg ho hu hinfo hzs hsz i hi hv hx b 0 rfl cs.toList (by simpa using hcs) (blk_news (hs.getB j hj)) h1 h63 hbytes fun w' v' h _ => k w' v' h
/-- A list behind a list. -/
theorem wl_append2 (hs : Tr w0 S w L) (hw : Region.wanted o (yielded ops a.tmps) = true) {s : Operand} {ty : TypeId} (ho : o.op = .call { callee := .builtin .append, args := #[s, x], argTypes := #[ty, ty] }) (hu : P.underlying ty = some (.slice e))
    {z : Value} {size bytes : Nat} (hinfo : (P.info? e).map (fun i => (i.zero, i.size, i.bytes)) = some (some z, size, bytes)) (hzs : z.cells.size = size) (hsz : 0 < size)
    (i : Nat) {v : Value} {n : Nat} {xs : List Value} (hi : L[i]? = some (Res.own e size v n xs)) (hv : a.eval s = v)
    (j : Nat) {v2 : Value} {m : Nat} {ys : List Value} (hj : L[j]? = some (Res.own e size v2 m ys)) (hx : a.eval x = v2) (h1 : ∀ u ∈ ys, u.oneCell' = true)
    (h63 : n + m ≤ maxLen) (hbytes : (n + m) * bytes ≤ 140737488355328)
    (k : ∀ w' v', Tr w0 S w' (L.set i (Res.own e size v' (n + m) (xs ++ ys))) → wpList P ops Q rest (a.put o.dst v') w') : wpList P ops Q (o :: rest) a w := by
  obtain ⟨ao, c, g, rfl, hnc, hcm, hao, hc0⟩ := hs.own_open j hj
  have hl : ys.length = m * size := (show w.ownsRow 0 e size (.slice ao m c) m ys from hs.getO j hj).1
  exact wl_appendG hs hw ho hu hinfo hzs hsz i hi hv hx hc0 g 0 hao ys hl (hs.own_news j hj hao) h1 h63 hbytes k
end
/-- What one owns, and the shape of its value. -/
theorem Tr.own_some {w0 w : World} {S : List Nat} {L : List Res} (hs : Tr w0 S w L) (i : Nat) {e : TypeId} {size : Nat} {v : Value} {n : Nat} {xs : List Value} (hi : L[i]? = some (Res.own e size v n xs)) (hn : 0 < n) :
    ∃ g c, v = .slice (some ⟨g, 0, none⟩) n c ∧ n ≤ c ∧ c ≤ maxLen := by
  obtain ⟨ao, c, g, rfl, hnc, hcm, hao, _⟩ := hs.own_open i hi
  obtain rfl := hao hn
  exact ⟨g, c, rfl, hnc, hcm⟩
theorem ex_sliceA0 {P : Program} {a : Act} {o : Oper} {t e : TypeId} {x : Operand} (w : World) (ho : o.op = .slice t x none none none) {N : Nat} (hu : P.underlying t = some (.array N e)) {sz : Nat} (hsz : (P.info? e).map (·.size) = some sz) {b off : Nat} (hx : a.eval x = .pointer (some ⟨b, off, none⟩)) :
    (execOp a.eval o).run P w = .ok (.value (.slice (some ⟨b, off, none⟩) N N)) w := by
  cases hq : P.info? e with
  | none => simp [hq] at hsz
  | some i =>
    have hi' : i.size = sz := by simpa [hq] using hsz
    have hb : (Instr.sliceBounds false N N none none none).run P w = .ok (0, N, N) w := by simp [Instr.sliceBounds]
    by_cases h0 : N = 0
    · subst h0
      unfold execOp
      simp [ho, hx, Instr.sliceAt, Instr.sureAddr, run_underlying hu, hb, sizeOf, typeInfo, hq, hi']
    · unfold execOp
      simp [ho, hx, Instr.sliceAt, Instr.sureAddr, run_underlying hu, hb, sizeOf, typeInfo, hq, hi', h0, Addr.add_mid]
theorem wl_sliceA0 {P : Program} {w : World} {ops : Array Oper} {Q : Exit → Act → World → Prop} {a : Act} {o : Oper} {rest : List Oper} {t e : TypeId} {x : Operand} (hw : Region.wanted o (yielded ops a.tmps) = true) (ho : o.op = .slice t x none none none) {N : Nat} (hu : P.underlying t = some (.array N e)) {sz : Nat} (hsz : (P.info? e).map (·.size) = some sz) {b off : Nat} (hx : a.eval x = .pointer (some ⟨b, off, none⟩))
    (k : wpList P ops Q rest (a.put o.dst (.slice (some ⟨b, off, none⟩) N N)) w) : wpList P ops Q (o :: rest) a w := wl_run hw (ex_sliceA0 w ho hu hsz hx) k
end Go.Sp
namespace Go.Proofs.Ytdlnfdlgnbkppaa
set_option linter.unusedVariables false
open Go Go.Sp Go.RowKit
/-- The numbers that are not 0 among the first k. -/
def nz (A : Nat → Int) : Nat → List Int
  | 0 => []
  | k + 1 => if A k = 0 then nz A k else nz A k ++ [A k]
theorem nz_len (A : Nat → Int) : ∀ k, (nz A k).length ≤ k
  | 0 => Nat.le_refl _
  | k + 1 => by
    have := nz_len A k
    simp only [nz]; split
    · omega
    · simp; omega
def ivs (l : List Int) : List Value := l.map fun x => .int .i64 x
@[simp] theorem ivs_len (l : List Int) : (ivs l).length = l.length := by simp [ivs]
theorem ivs_snoc (l : List Int) (x : Int) : ivs l ++ #[Value.int .i64 x].toList = ivs (l ++ [x]) := by simp [ivs]
theorem nz_yes {A : Nat → Int} {k : Nat} (h : A k ≠ 0) : nz A (k + 1) = nz A k ++ [A k] := by simp only [nz]; rw [if_neg h]
theorem nz_no {A : Nat → Int} {k : Nat} (h : A k = 0) : nz A (k + 1) = nz A k := by simp only [nz]; rw [if_pos h]
theorem nz_zeros {A : Nat → Int} {k : Nat} : ∀ m, (∀ j, k ≤ j → j < k + m → A j = 0) → nz A (k + m) = nz A k
  | 0, _ => rfl
  | m + 1, h => by
    rw [show k + (m + 1) = (k + m) + 1 by omega, nz_no (h (k + m) (by omega) (by omega)), nz_zeros m fun j a b => h j a (by omega)]
/-- The tables of a file: its single one, its double one, the double one's. -/
def tabA (s : Src) (X : Nat → Int) : Nat → Int := fun j => if j = 0 then X 16 else if j = 1 then X 17 else tbF s (X 17) (j - 2)
def tabL (s : Src) (X : Nat → Int) : List Int := if tbE s (X 17) = 0 then nz (tabA s X) 34 else []
theorem tabL_ok {s : Src} {X : Nat → Int} (h : tbE s (X 17) = 0) : tabL s X = nz (tabA s X) 34 := if_pos h
theorem tabL_no {s : Src} {X : Nat → Int} (h : tbE s (X 17) ≠ 0) : tabL s X = [] := if_neg h
theorem info3 : (Try.prog.info? 3).map (fun i => (i.zero, i.size, i.bytes)) = some (some (.int .i64 0), 1, 8) := by kernel_rfl
/-- What Tables answers. -/
def TabP (s : Src) (X : Nat → Int) (w : World) (e : Ending) (w' : World) : Prop := ∃ v, e = .returned (.tuple #[v, .int .i64 (tbE s (X 17))]) ∧ Tr w [] w' [Res.own 3 1 v (tabL s X).length (ivs (tabL s X))]
theorem tab_nil {s : Src} {X : Nat → Int} {w w' : World} (h : tbE s (X 17) ≠ 0) (hs : Tr w [] w' []) : TabP s X w (.returned (.tuple #[.slice none 0 0, .int .i64 (tbE s (X 17))])) w' := by
  refine ⟨_, rfl, ?_⟩
  rw [tabL_no h]
  exact hs.addNil 3 1
end Go.Proofs.Ytdlnfdlgnbkppaa
