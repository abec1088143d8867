/- A small separation logic over the kit's wp calculus: resources (blocks that are known whole), one predicate Tr that says what a piece of code may have changed, and laws for the operations that touch memory. -/
import Derived.WalkKit
import Derived.ProofKit
import Derived.Laws.CopyOwn
import Derived.Deep.MidRow
import Derived.Deep.WholeRow
import Derived.Deep.Quiet
import Derived.Maps.AppendAt
import Derived.Lib.Hide
namespace Go.Sp
open Go Go.RowKit

/-! ### Resources -/
/-- A resource: the blocks that it owns, and what it says of them. -/
structure Res where
  foot : List Nat
  holds : World → Prop
  stays : ∀ w w' : World, (∀ k ∈ foot, w'.heap[k]? = w.heap[k]?) → holds w → holds w'
  live : ∀ w : World, holds w → ∀ k ∈ foot, k < w.heap.size

/-- A block of cells, known whole, not frozen. -/
def Res.blk (b : Nat) (cs : Array Value) (t : TypeId) : Res where
  foot := [b]
  holds w := w.heap[b]? = some (.cells cs t (0, 0))
  stays w w' h hh := by rw [h b (by simp)]; exact hh
  live w h k hk := by
    simp only [List.mem_singleton] at hk
    subst hk
    exact (Array.getElem?_eq_some_iff.1 h).1

/-- A map's block, known whole. -/
def Res.obj (b : Nat) (o : Obj) : Res where
  foot := [b]
  holds w := w.heap[b]? = some o
  stays w w' h hh := by rw [h b (by simp)]; exact hh
  live w h k hk := by
    simp only [List.mem_singleton] at hk
    subst hk
    exact (Array.getElem?_eq_some_iff.1 h).1

/-- A slice value that owns its cells (nil, or at the head of a row). -/
def Res.own (e : TypeId) (size : Nat) (v : Value) (n : Nat) (xs : List Value) : Res where
  foot := v.ownBlock.toList
  holds w := w.ownsRow 0 e size v n xs
  stays w w' h hh := by
    refine ⟨hh.1, ?_⟩
    rcases hh.2 with hn | ⟨g, cap, cur, rfl, hb, hgg, rest⟩
    · exact .inl hn
    · exact .inr ⟨g, cap, cur, rfl, hb, by rw [h g (by simp [Value.ownBlock])]; exact hgg, rest⟩
  live w h k hk := by
    have : v.ownBlock = some k := by simpa using hk
    exact (h.lt k this).2

abbrev feet (L : List Res) : List Nat := L.flatMap (·.foot)

/-- What has become of the world: from w0 to w, with the blocks of S open to change; L is what is owned now. -/
structure Tr (w0 : World) (S : List Nat) (w : World) (L : List Res) : Prop where
  os : w.os = w0.os
  tape : w.tape = w0.tape
  output : w.output = w0.output
  size : w0.heap.size ≤ w.heap.size
  keep : ∀ k, k < w0.heap.size → k ∉ S → w.heap[k]? = w0.heap[k]?
  res : ∀ r ∈ L, r.holds w
  nodup : (feet L).Nodup
  mine : ∀ k ∈ feet L, k ∈ S ∨ w0.heap.size ≤ k

section
variable {w0 w w' : World} {S : List Nat} {L L' R R' F : List Res}

theorem Tr.refl (w : World) (S : List Nat) : Tr w S w [] := ⟨rfl, rfl, rfl, Nat.le_refl _, fun _ _ _ => rfl, by simp, by simp, by simp⟩

theorem Tr.start (hR : ∀ r ∈ R, r.holds w) (hn : (feet R).Nodup) : Tr w (feet R) w R :=
  ⟨rfl, rfl, rfl, Nat.le_refl _, fun _ _ _ => rfl, hR, hn, fun _ hk => .inl hk⟩

theorem Tr.live (h : Tr w0 S w L) : ∀ k ∈ feet L, k < w.heap.size := by
  intro k hk
  obtain ⟨r, hr, hk⟩ := List.mem_flatMap.1 hk
  exact r.live w (h.res r hr) k hk

/-- THE FRAME RULE. -/
theorem Tr.step (h : Tr w0 S w (R ++ F)) (h' : Tr w (feet R) w' R') : Tr w0 S w' (R' ++ F) := by
  have hnd := h.nodup
  simp only [feet, List.flatMap_append] at hnd
  obtain ⟨hn1, hn2, hn3⟩ := List.nodup_append.1 hnd
  have hF : ∀ k ∈ feet F, k < w.heap.size ∧ k ∉ feet R := fun k hk =>
    ⟨h.live k (by simp only [feet, List.flatMap_append, List.mem_append]; exact .inr hk), fun hc => hn3 k hc k hk rfl⟩
  have hmineR : ∀ k ∈ feet R, k ∈ S ∨ w0.heap.size ≤ k := fun k hk => h.mine k (by simp only [feet, List.flatMap_append, List.mem_append]; exact .inl hk)
  have hmineF : ∀ k ∈ feet F, k ∈ S ∨ w0.heap.size ≤ k := fun k hk => h.mine k (by simp only [feet, List.flatMap_append, List.mem_append]; exact .inr hk)
  refine ⟨h'.os.trans h.os, h'.tape.trans h.tape, h'.output.trans h.output, Nat.le_trans h.size h'.size, fun k hk hS => ?_, fun r hr => ?_, ?_, fun k hk => ?_⟩
  · rw [h'.keep k (Nat.lt_of_lt_of_le hk h.size) (fun hc => by
      rcases hmineR k hc with h1 | h1
      · exact hS h1
      · omega)]
    exact h.keep k hk hS
  · rcases List.mem_append.1 hr with hr | hr
    · exact h'.res r hr
    · refine r.stays w w' (fun k hk => ?_) (h.res r (List.mem_append.2 (.inr hr)))
      have hkF : k ∈ feet F := List.mem_flatMap.2 ⟨r, hr, hk⟩
      exact h'.keep k (hF k hkF).1 (hF k hkF).2
  · simp only [feet, List.flatMap_append]
    refine List.nodup_append.2 ⟨h'.nodup, hn2, fun a ha b hb hab => ?_⟩
    subst hab
    rcases h'.mine a ha with h1 | h1
    · exact (hF a hb).2 h1
    · have := (hF a hb).1; omega
  · simp only [feet, List.flatMap_append, List.mem_append] at hk
    rcases hk with hk | hk
    · rcases h'.mine k hk with h1 | h1
      · exact hmineR k h1
      · exact .inr (Nat.le_trans h.size h1)
    · exact hmineF k hk

theorem Tr.perm (h : Tr w0 S w L) (p : L.Perm L') : Tr w0 S w L' :=
  ⟨h.os, h.tape, h.output, h.size, h.keep, fun r hr => h.res r (p.mem_iff.2 hr), (p.flatMap_right _).nodup_iff.1 h.nodup, fun k hk => h.mine k ((p.flatMap_right _).mem_iff.2 hk)⟩

/-- Something owned is let go. -/
theorem feet_sub (p : L'.Sublist L) : (feet L').Sublist (feet L) := by
  induction p with
  | slnil => exact List.Sublist.refl _
  | cons a _ ih => exact ih.trans (by simp only [feet, List.flatMap_cons]; exact List.sublist_append_right _ _)
  | cons_cons a _ ih => simp only [feet, List.flatMap_cons] at ih ⊢; exact List.Sublist.append (List.Sublist.refl _) ih
theorem Tr.sub (h : Tr w0 S w L) (p : L'.Sublist L) : Tr w0 S w L' := by
  have hs : (feet L').Sublist (feet L) := feet_sub p
  exact ⟨h.os, h.tape, h.output, h.size, h.keep, fun r hr => h.res r (p.subset hr), hs.nodup h.nodup, fun k hk => h.mine k (hs.subset hk)⟩

theorem Tr.letgo (h : Tr w0 S w L) : Tr w0 S w [] := h.sub (List.nil_sublist _)
theorem Tr.erase (h : Tr w0 S w L) (i : Nat) : Tr w0 S w (L.eraseIdx i) := h.sub (List.eraseIdx_sublist _ _)

/-- A callee that takes nothing of ours. -/
theorem Tr.call (h : Tr w0 S w L) (h' : Tr w [] w' R') : Tr w0 S w' (R' ++ L) := Tr.step (R := []) (F := L) h h'
theorem Tr.call0 (h : Tr w0 S w L) (h' : Tr w [] w' R') : Tr w0 S w' L := (h.call h').sub (List.sublist_append_right _ _)
theorem Tr.call1 (h : Tr w0 S w L) {r : Res} (h' : Tr w [] w' [r]) : Tr w0 S w' (r :: L) := h.call h'

theorem perm_pick : ∀ (L : List Res) (i : Nat) {r : Res}, L[i]? = some r → L.Perm (r :: L.eraseIdx i)
  | [], _, _, h => by simp at h
  | x :: l, 0, r, h => by simp at h; subst h; exact List.Perm.refl _
  | x :: l, i + 1, r, h => by
    have ih := perm_pick l i (r := r) (by simpa using h)
    exact (List.Perm.cons x ih).trans (List.Perm.swap _ _ _)

theorem perm_set : ∀ (L : List Res) (i : Nat) {r r' : Res}, L[i]? = some r → (r' :: L.eraseIdx i).Perm (L.set i r')
  | [], _, _, _, h => by simp at h
  | x :: l, 0, r, r', h => List.Perm.refl _
  | x :: l, i + 1, r, r', h => by
    have ih := perm_set l i (r := r) (r' := r') (by simpa using h)
    exact (List.Perm.swap _ _ _).trans (List.Perm.cons x ih)

/-- The i-th thing that is owned becomes another. -/
theorem Tr.upd (h : Tr w0 S w L) (i : Nat) {r r' : Res} (hi : L[i]? = some r) (h' : Tr w r.foot w' [r']) : Tr w0 S w' (L.set i r') := by
  have h1 : Tr w0 S w ([r] ++ L.eraseIdx i) := h.perm (perm_pick L i hi)
  have h2 : Tr w (feet [r]) w' [r'] := by simpa [feet] using h'
  exact (h1.step h2).perm (perm_set L i hi)

/-- .. becomes several, laid in front. -/
theorem Tr.upds (h : Tr w0 S w L) (i : Nat) {r : Res} (hi : L[i]? = some r) (h' : Tr w r.foot w' R') : Tr w0 S w' (R' ++ L.eraseIdx i) := by
  have h1 : Tr w0 S w ([r] ++ L.eraseIdx i) := h.perm (perm_pick L i hi)
  have h2 : Tr w (feet [r]) w' R' := by simpa [feet] using h'
  exact h1.step h2

theorem Tr.get (h : Tr w0 S w L) (i : Nat) {r : Res} (hi : L[i]? = some r) : r.holds w := h.res r (List.mem_of_getElem? hi)

theorem Tr.below (h : Tr w0 [] w L) : Below w0.heap.size w0 w := ⟨h.os, h.tape, h.output, h.size, fun k hk => h.keep k hk (by simp)⟩

theorem Tr.drew (h : Tr w0 S w L) : Tr w0 S w.drew L := ⟨h.os, h.tape, h.output, h.size, h.keep, fun r hr => r.stays w w.drew (fun _ _ => rfl) (h.res r hr), h.nodup, h.mine⟩
theorem Tr.drewN (h : Tr w0 S w L) (n : Nat) : Tr w0 S (w.drewN n) L := ⟨h.os, h.tape, h.output, h.size, h.keep, fun r hr => r.stays w (w.drewN n) (fun _ _ => rfl) (h.res r hr), h.nodup, h.mine⟩

theorem Tr.cell (h : Tr w0 S w L) {p : Addr} (hp : p.block < w0.heap.size) (hS : p.block ∉ S) : w.cell? p = w0.cell? p := World.cell?_of_block (w := w0) (h.keep p.block hp hS)
theorem Tr.frozen (h : Tr w0 S w L) {p : Addr} (hp : p.block < w0.heap.size) (hS : p.block ∉ S) : w.frozen? p = w0.frozen? p := World.frozen?_of_block (w := w0) (h.keep p.block hp hS)

/-- From one start to an elder one. -/
theorem Tr.trans0 (h : Tr w0 S w []) (h' : Tr w [] w' L) : Tr w0 S w' L := by have := h.call h'; rwa [List.append_nil] at this

theorem Tr.own0 (w : World) (S : List Nat) (e : TypeId) (size : Nat) : Tr w S w [Res.own e size (.slice Option.none 0 0) 0 []] := by
  refine ⟨rfl, rfl, rfl, Nat.le_refl _, fun _ _ _ => rfl, ?_, ?_, ?_⟩
  · intro r hr
    simp only [List.mem_singleton] at hr
    subst hr
    exact World.ownsRow_nil w 0 e size
  · simp [feet, Res.own, Value.ownBlock]
  · simp [feet, Res.own, Value.ownBlock]
theorem Tr.addNil (h : Tr w0 S w L) (e : TypeId) (size : Nat) : Tr w0 S w (Res.own e size (.slice Option.none 0 0) 0 [] :: L) := h.call1 (Tr.own0 w [] e size)

/-! ### The steps of memory -/
theorem tr_alloc (w : World) (cs : Array Value) (t : TypeId) : Tr w [] (w.alloc (.cells cs t)) [Res.blk w.heap.size cs t] :=
  ⟨rfl, rfl, rfl, by simp, fun _ hk _ => heap_alloc_old w _ hk, by simp only [List.mem_singleton, forall_eq]; exact heap_alloc_new w _, by simp [feet, Res.blk], by simp [feet, Res.blk]⟩

theorem tr_alloc_obj (w : World) (o : Obj) : Tr w [] (w.alloc o) [Res.obj w.heap.size o] :=
  ⟨rfl, rfl, rfl, by simp, fun _ hk _ => heap_alloc_old w _ hk, by simp only [List.mem_singleton, forall_eq]; exact heap_alloc_new w _, by simp [feet, Res.obj], by simp [feet, Res.obj]⟩

theorem tr_setRow {b : Nat} {cs : Array Value} {t : TypeId} (hb : w.heap[b]? = some (.cells cs t (0, 0))) (cs' : Array Value) : Tr w [b] (w.setRow b cs') [Res.blk b cs' t] :=
  ⟨rfl, rfl, rfl, by simp, fun k _ hS => setRow_other w b k cs' (by simpa using hS), by simp only [List.mem_singleton, forall_eq]; exact setRow_heap w b cs cs' t _ hb, by simp [feet, Res.blk], by simp [feet, Res.blk]⟩

theorem tr_setCell {b o : Nat} {cs : Array Value} {t : TypeId} (hb : w.heap[b]? = some (.cells cs t (0, 0))) (v : Value) : Tr w [b] (w.setCell ⟨b, o, Option.none⟩ v) [Res.blk b (cs.setIfInBounds o v) t] := by
  rw [setCell_eq_setRow w b o cs t (0, 0) v hb]
  exact tr_setRow hb _

/-- A row grows: by a law that ends in grownBy. -/
theorem tr_grown {e : TypeId} {size : Nat} {v v' : Value} {n n' : Nat} {xs xs' : List Value} (hg : w.grownBy w' v.ownBlock) (ho : w'.ownsRow 0 e size v' n' xs')
    (hb : v'.ownBlock = v.ownBlock ∨ v'.ownBlock = some w.heap.size) : Tr w (Res.own e size v n xs).foot w' [Res.own e size v' n' xs'] := by
  refine ⟨hg.os, hg.tape, hg.output, hg.size, fun k hk hS => hg.block k hk (fun hc => hS (by simp [Res.own, ← hc])), by simpa [Res.own] using ho, ?_, fun k hk => ?_⟩
  · show (feet [Res.own e size v' n' xs']).Nodup
    simp only [feet, List.flatMap_cons, List.flatMap_nil, List.append_nil, Res.own]
    cases v'.ownBlock <;> simp
  · simp only [feet, List.flatMap_cons, List.flatMap_nil, List.append_nil, Res.own] at hk
    have hk' : v'.ownBlock = some k := by simpa using hk
    rcases hb with hb | hb
    · left; simp [Res.own, ← hb, hk']
    · right; rw [hb] at hk'; simp at hk'; omega
end

/-! ### Rows given by a function -/
/-- n cells, the i-th being f i. -/
def rowOf (n : Nat) (f : Nat → Value) : Array Value := Array.ofFn (n := n) fun i => f i

@[simp] theorem rowOf_size (n : Nat) (f : Nat → Value) : (rowOf n f).size = n := by simp [rowOf]
theorem rowOf_get {n : Nat} {f : Nat → Value} {i : Nat} (h : i < n) : (rowOf n f)[i]? = some (f i) := by simp [rowOf, h]
theorem rowOf_get_none {n : Nat} {f : Nat → Value} {i : Nat} (h : n ≤ i) : (rowOf n f)[i]? = Option.none := by simp [rowOf]; omega
theorem rowOf_getElem? (n : Nat) (f : Nat → Value) (i : Nat) : (rowOf n f)[i]? = if i < n then some (f i) else Option.none := by
  split
  · exact rowOf_get ‹_›
  · exact rowOf_get_none (by omega)
theorem rowOf_ext {n : Nat} {cs : Array Value} {f : Nat → Value} (hs : cs.size = n) (h : ∀ i, i < n → cs[i]? = some (f i)) : cs = rowOf n f := by
  apply Array.ext_getElem?
  intro i
  by_cases hi : i < n
  · rw [h i hi, rowOf_get hi]
  · rw [rowOf_get_none (by omega), Array.getElem?_eq_none (by omega)]
theorem rowOf_congr {n : Nat} {f g : Nat → Value} (h : ∀ i, i < n → f i = g i) : rowOf n f = rowOf n g :=
  rowOf_ext (by simp) fun i hi => by rw [rowOf_get hi, h i hi]
theorem rowOf_set (n : Nat) (f : Nat → Value) (o : Nat) (v : Value) : (rowOf n f).setIfInBounds o v = rowOf n (fun j => if j = o then v else f j) := by
  refine rowOf_ext (by simp) fun i hi => ?_
  rw [Array.getElem?_setIfInBounds]
  by_cases h : o = i
  · subst h; simp [hi]
  · simp [h, rowOf_get hi, Ne.symm h]
theorem rowOf_splice {n m : Nat} (f g : Nat → Value) (o : Nat) (h : o + m ≤ n) :
    ((rowOf n f).toList.take o ++ (rowOf m g).toList ++ (rowOf n f).toList.drop (o + (rowOf m g).toList.length)).toArray = rowOf n (fun j => if o ≤ j ∧ j < o + m then g (j - o) else f j) := by
  refine rowOf_ext (by simp; omega) fun i hi => ?_
  simp only [List.getElem?_toArray, List.getElem?_append, List.length_append, List.length_take, Array.length_toList, rowOf_size, List.getElem?_take, List.getElem?_drop, Array.getElem?_toList, rowOf_getElem?]
  have e : min o n = o := by omega
  rw [e]
  by_cases h1 : i < o
  · have h2 : ¬ (o ≤ i ∧ i < o + m) := by omega
    have h3 : i < o + m := by omega
    rw [if_neg h2]
    simp [h1, h3, hi]
  · by_cases h2 : i < o + m
    · have h3 : o ≤ i := by omega
      have h4 : i - o < m := by omega
      simp [h1, h2, h3, h4]
    · have h4 : o + m + (i - (o + m)) = i := by omega
      simp [h2, h4, hi]
theorem rowOf_one (n : Nat) (f : Nat → Value) (h : ∀ i, i < n → (f i).oneCell' = true) : ∀ v ∈ (rowOf n f).toList, v.oneCell' = true := by
  intro v hv
  obtain ⟨i, hi, rfl⟩ := List.mem_iff_getElem.1 hv
  have hi' : i < n := by simpa using hi
  have : (rowOf n f)[i]? = some (rowOf n f).toList[i] := by simp [hi']
  rw [rowOf_get hi'] at this
  rw [← Option.some.inj this]
  exact h i hi'
theorem rowOf_all_one (n : Nat) (f : Nat → Value) (h : ∀ i, i < n → (f i).oneCell' = true) : (rowOf n f).all (·.oneCell') = true :=
  Array.all_eq_true_iff_forall_mem.2 fun v hv => rowOf_one n f h v (by simpa using hv)
theorem rowOf_extract {n : Nat} {f : Nat → Value} (o m : Nat) (h : o + m ≤ n) : (rowOf n f).extract o (o + m) = rowOf m (fun j => f (o + j)) := by
  refine rowOf_ext (by simp; omega) fun i hi => ?_
  rw [Array.getElem?_extract]
  have h1 : i < min (o + m) n - o := by omega
  simp [h1, rowOf_get (show o + i < n by omega)]

theorem rowOf_append (a b : Nat) (f : Nat → Value) : (rowOf a f).toList ++ (rowOf b fun j => f (a + j)).toList = (rowOf (a + b) f).toList := by
  apply List.ext_getElem?
  intro i
  simp only [List.getElem?_append, Array.length_toList, rowOf_size, Array.getElem?_toList, rowOf_getElem?]
  by_cases h : i < a
  · simp [h, show i < a + b from by omega]
  · by_cases h2 : i < a + b
    · simp [h, h2, show i - a < b from by omega, show a + (i - a) = i from by omega]
    · simp [h, h2, show ¬ i - a < b from by omega]
theorem rowOf_nil (f : Nat → Value) : (rowOf 0 f).toList = [] := by
  apply List.eq_nil_of_length_eq_zero; simp

/-- The length in a slot that holds a slice: for a loop's measure. -/
def lenV : Value → Nat | .slice _ n _ => n | _ => 0

/-- Bytes as cells. -/
def u8v (F : Nat → UInt8) : Nat → Value := fun i => .int .u8 ((F i).toNat : Int)
/-- n bytes as an array's value. -/
def bytesV (n : Nat) (F : Nat → UInt8) : Value := .agg (rowOf n (u8v F))
@[simp] theorem u8v_one (F : Nat → UInt8) (i : Nat) : (u8v F i).oneCell' = true := rfl
theorem u8v_inj {F G : Nat → UInt8} {i j : Nat} : u8v F i = u8v G j ↔ F i = G j := by
  simp only [u8v, Value.int.injEq, true_and]
  constructor
  · intro h; exact UInt8.toNat_inj.1 (by omega)
  · intro h; rw [h]
theorem bytesV_congr {n : Nat} {F G : Nat → UInt8} (h : ∀ i, i < n → F i = G i) : bytesV n F = bytesV n G := by
  unfold bytesV; rw [rowOf_congr fun i hi => u8v_inj.2 (h i hi)]

theorem rowOf_u8 {n i : Nat} {F : Nat → UInt8} (h : i < n) : (rowOf n (u8v F))[i]? = some (.int .u8 ((F i).toNat : Int)) := rowOf_get h

/-- n cells from an offset on read as f. -/
def Rd (w : World) (b off n : Nat) (f : Nat → Value) : Prop := ∀ j, j < n → w.cell? ⟨b, off + j, Option.none⟩ = some (f j)
theorem Rd.keep {w0 w : World} {L : List Res} {b off n : Nat} {f : Nat → Value} (h : Rd w0 b off n f) (hs : Tr w0 [] w L) : Rd w b off n f := fun j hj => by
  have hc := h j hj
  rw [hs.cell (World.block_lt_of_cell? w0 _ hc) (by simp)]
  exact hc
theorem Rd.keepS {w0 w : World} {S : List Nat} {L : List Res} {b off n : Nat} {f : Nat → Value} (h : Rd w0 b off n f) (hs : Tr w0 S w L) (hb : b ∉ S) : Rd w b off n f := fun j hj => by
  have hc := h j hj
  rw [hs.cell (World.block_lt_of_cell? w0 _ hc) hb]
  exact hc
theorem Tr.rd {w0 w : World} {S : List Nat} {L : List Res} (hs : Tr w0 S w L) (i : Nat) {b N : Nat} {f : Nat → Value} {bt : TypeId} (hi : L[i]? = some (Res.blk b (rowOf N f) bt)) {off n : Nat} (hfit : off + n ≤ N) : Rd w b off n fun j => f (off + j) := fun j hj => by
  rw [cell_of_row w b (off + j) _ bt (0, 0) (hs.get i hi), rowOf_get (by omega)]
theorem Tr.rd0 {w0 w : World} {S : List Nat} {L : List Res} (hs : Tr w0 S w L) (i : Nat) {b N : Nat} {f : Nat → Value} {bt : TypeId} (hi : L[i]? = some (Res.blk b (rowOf N f) bt)) {n : Nat} (hfit : n ≤ N) : Rd w b 0 n f := fun j hj => by
  rw [Nat.zero_add, cell_of_row w b j _ bt (0, 0) (hs.get i hi), rowOf_get (by omega)]
theorem Rd.sub {w : World} {b off n : Nat} {f : Nat → Value} (h : Rd w b off n f) (o m : Nat) (hm : o + m ≤ n) : Rd w b (off + o) m fun j => f (o + j) := fun j hj => by
  have := h (o + j) (by omega)
  rwa [← Nat.add_assoc] at this
theorem Rd.congr {w : World} {b off n : Nat} {f g : Nat → Value} (h : Rd w b off n f) (hfg : ∀ j, j < n → f j = g j) : Rd w b off n g := fun j hj => by rw [h j hj, hfg j hj]

theorem Tr.own_shape {w0 w : World} {S : List Nat} {L : List Res} (hs : Tr w0 S w L) (i : Nat) {e size : Nat} {v : Value} {n : Nat} {xs : List Value} (hi : L[i]? = some (Res.own e size v n xs)) :
    ∃ ao c, v = .slice ao n c ∧ n ≤ c ∧ c ≤ maxLen ∧ (0 < n → ∃ g, ao = some ⟨g, 0, Option.none⟩) := by
  have h : w.ownsRow 0 e size v n xs := hs.get i hi
  rcases h.2 with ⟨rfl, rfl⟩ | ⟨g, cap, cur, rfl, _, _, hnc, hcm, _⟩
  · exact ⟨Option.none, 0, rfl, Nat.le_refl _, by unfold maxLen; omega, fun h => by omega⟩
  · exact ⟨_, cap, rfl, hnc, hcm, fun _ => ⟨g, rfl⟩⟩

/-- The cells of what is owned. -/
theorem Tr.own_rd {w0 w : World} {S : List Nat} {L : List Res} (hs : Tr w0 S w L) (i : Nat) {e size : Nat} {g : Nat} {n c N : Nat} {f : Nat → Value} (hi : L[i]? = some (Res.own e size (.slice (some ⟨g, 0, Option.none⟩) n c) n (rowOf N f).toList)) : Rd w g 0 N f := fun j hj => by
  have h : w.ownsRow 0 e size (.slice (some ⟨g, 0, Option.none⟩) n c) n (rowOf N f).toList := hs.get i hi
  have hl : N = n * size := by simpa using h.1
  rw [Nat.zero_add, h.cellAt j (by omega), Array.getElem?_toList]
  exact rowOf_get hj

/-- n bytes against n bytes. -/
def eqB (n : Nat) (F G : Nat → UInt8) : Bool := (List.range n).all fun i => F i == G i
theorem eqB_iff {n : Nat} {F G : Nat → UInt8} : eqB n F G = true ↔ ∀ i, i < n → F i = G i := by simp [eqB]
theorem eqB_false {n : Nat} {F G : Nat → UInt8} : eqB n F G = false ↔ ∃ i, i < n ∧ F i ≠ G i := by simp [eqB]
theorem eqB_refl (n : Nat) (F : Nat → UInt8) : eqB n F F = true := eqB_iff.2 fun _ _ => rfl
theorem eqB_decide {n : Nat} {F G : Nat → UInt8} : decide (∀ i, i < n → F i = G i) = eqB n F G := by
  rw [Bool.eq_iff_iff, eqB_iff]; simp

/-- n bytes as a string. -/
def strOf (n : Nat) (F : Nat → UInt8) : ByteArray := ⟨((List.range n).map F).toArray⟩
def eqS (n : Nat) (F : Nat → UInt8) (m : Nat) (G : Nat → UInt8) : Bool := n == m && eqB n F G
theorem strOf_toList (n : Nat) (F : Nat → UInt8) : (strOf n F).toList = (List.range n).map F := by
  rw [ByteArray.toList_eq]; simp [strOf]
theorem strOf_eq {n m : Nat} {F G : Nat → UInt8} : ((strOf n F).toList == (strOf m G).toList) = eqS n F m G := by
  rw [strOf_toList, strOf_toList]
  have h : ((List.range n).map F = (List.range m).map G) ↔ (n = m ∧ ∀ i, i < n → F i = G i) := by
    constructor
    · intro h2
      have hl : n = m := by simpa using congrArg List.length h2
      subst hl
      refine ⟨rfl, fun i hi => ?_⟩
      have := congrArg (fun l => l[i]?) h2
      simpa [hi] using this
    · rintro ⟨rfl, h⟩
      exact List.map_congr_left fun i hi => h i (by simpa using hi)
  rw [Bool.eq_iff_iff, beq_iff_eq, h, eqS, Bool.and_eq_true, beq_iff_eq, eqB_iff]
theorem eqS_iff {n m : Nat} {F G : Nat → UInt8} : eqS n F m G = true ↔ n = m ∧ ∀ i, i < n → F i = G i := by rw [eqS, Bool.and_eq_true, beq_iff_eq, eqB_iff]


section
variable {w0 w w' : World} {S : List Nat} {L : List Res}
theorem Tr.getB (h : Tr w0 S w L) (i : Nat) {b : Nat} {cs : Array Value} {t : TypeId} (hi : L[i]? = some (Res.blk b cs t)) : w.heap[b]? = some (.cells cs t (0, 0)) := h.get i hi
theorem Tr.getObj (h : Tr w0 S w L) (i : Nat) {b : Nat} {o : Obj} (hi : L[i]? = some (Res.obj b o)) : w.heap[b]? = some o := h.get i hi
theorem Tr.getO (h : Tr w0 S w L) (i : Nat) {e : TypeId} {size : Nat} {v : Value} {n : Nat} {xs : List Value} (hi : L[i]? = some (Res.own e size v n xs)) : w.ownsRow 0 e size v n xs := h.get i hi
theorem Tr.updB (h : Tr w0 S w L) (i : Nat) {b : Nat} {cs : Array Value} {t : TypeId} {r' : Res} (hi : L[i]? = some (Res.blk b cs t)) (h' : Tr w [b] w' [r']) : Tr w0 S w' (L.set i r') := h.upd i hi h'
theorem Tr.updObj (h : Tr w0 S w L) (i : Nat) {b : Nat} {o : Obj} {r' : Res} (hi : L[i]? = some (Res.obj b o)) (h' : Tr w [b] w' [r']) : Tr w0 S w' (L.set i r') := h.upd i hi h'
theorem Tr.updB0 (h : Tr w0 S w L) (i : Nat) {b : Nat} {cs : Array Value} {t : TypeId} (hi : L[i]? = some (Res.blk b cs t)) (cs' : Array Value) : Tr w0 S (w.setRow b cs') (L.set i (Res.blk b cs' t)) := h.upd i hi (tr_setRow (h.get i hi) cs')
/-- A block that is known whole is owned. -/
theorem Tr.startB {b : Nat} {cs : Array Value} {t : TypeId} (hb : w.heap[b]? = some (.cells cs t (0, 0))) : Tr w [b] w [Res.blk b cs t] :=
  Tr.start (R := [Res.blk b cs t]) (by simpa [Res.blk] using hb) (by simp [feet, Res.blk])
theorem Tr.foot_lt (h : Tr w0 S w L) (i : Nat) {b : Nat} {cs : Array Value} {t : TypeId} (hi : L[i]? = some (Res.blk b cs t)) : b < w.heap.size := (Array.getElem?_eq_some_iff.1 (h.getB i hi)).1
end
attribute [irreducible] Res.blk Res.obj Res.own rowOf

end Go.Sp
