/- Spaces: what the rows of bits say of sectors and inodes. -/
import Derived.Test.YtfedfdcbhggipaaDoorE
import Derived.Test.YtfedfdcbhggipaaDoorM
namespace Go.Proofs.YtfedfdcbhggipaaDoor
set_option linter.unusedVariables false
set_option linter.unusedSimpArgs false
open Go Go.Sp Go.RowKit

def fB (n m : Nat) (B : Nat → Nat) : Nat → Bool := fun k => decide (k < n) && (decide (k ≤ m) || decide (B k ≠ 0))
def fI (m : Nat) (I : Nat → Bool) : Nat → Bool := fun k => decide (k ≤ m) && (decide (k = 0) || I k)
def fL (n m : Nat) (B : Nat → Nat) : Nat → Bool := fun k => decide (k < n) && (decide (m < k) && decide (B k = 2))
def setB (B : Nat → Nat) (k v : Nat) : Nat → Nat := fun j => if j = k then v else B j
theorem setB_at (B : Nat → Nat) (k v : Nat) : setB B k v k = v := by simp [setB]
theorem setB_off {B : Nat → Nat} {k v j : Nat} (h : j ≠ k) : setB B k v j = B j := by simp [setB, h]
theorem setB_two {B : Nat → Nat} {k v : Nat} (h : ∀ j, B j ≤ 2) (hv : v ≤ 2) : ∀ j, setB B k v j ≤ 2 := fun j => by
  simp only [setB]; split
  · exact hv
  · exact h j
section
variable {n m k : Nat} {B : Nat → Nat} {I : Nat → Bool}
theorem fB_far : ∀ i, n ≤ i → fB n m B i = false := fun i hi => by simp only [fB]; rw [decide_eq_false (by omega)]; rfl
theorem fI_far : ∀ i, m + 1 ≤ i → fI m I i = false := fun i hi => by simp only [fI]; rw [decide_eq_false (by omega)]; rfl
theorem fL_far : ∀ i, n ≤ i → fL n m B i = false := fun i hi => by simp only [fL]; rw [decide_eq_false (by omega)]; rfl
theorem fB_in (h : k < n) (hm : m < k) : fB n m B k = decide (B k ≠ 0) := by
  simp only [fB]; rw [decide_eq_true h, decide_eq_false (by omega)]; simp
theorem fB_low (h : k < n) (hm : k ≤ m) : fB n m B k = true := by
  simp only [fB]; rw [decide_eq_true h, decide_eq_true hm]; simp
theorem fL_in (h : k < n) (hm : m < k) : fL n m B k = decide (B k = 2) := by
  simp only [fL]; rw [decide_eq_true h, decide_eq_true hm]; simp
theorem fI_in (h : k ≤ m) (h0 : k ≠ 0) : fI m I k = I k := by
  simp only [fI]; rw [decide_eq_true h, decide_eq_false h0]; simp
theorem fI_zero : fI m I 0 = true := by simp [fI]
theorem fB_set (h : k < n) {v : Nat} (hv : v ≠ 0) : updP (fB n m B) k true = fB n m (setB B k v) := by
  funext j
  simp only [updP]
  by_cases hj : j = k
  · subst hj
    rw [if_pos rfl]
    by_cases hm : j ≤ m
    · rw [fB_low h hm]
    · rw [fB_in h (by omega), setB_at]; simp [hv]
  · rw [if_neg hj]; simp only [fB]; rw [setB_off hj]
theorem fB_clear (h : k < n) (hm : m < k) : updP (fB n m B) k false = fB n m (setB B k 0) := by
  funext j
  simp only [updP]
  by_cases hj : j = k
  · subst hj
    rw [if_pos rfl, fB_in h hm, setB_at]; simp
  · rw [if_neg hj]; simp only [fB]; rw [setB_off hj]
theorem fB_same {v : Nat} (hB : B k ≠ 0) (hv : v ≠ 0) : fB n m (setB B k v) = fB n m B := by
  funext j
  simp only [fB]
  by_cases hj : j = k
  · subst hj; rw [setB_at, decide_eq_true hv, decide_eq_true hB]
  · rw [setB_off hj]
theorem fL_set (h : k < n) (hm : m < k) : updP (fL n m B) k true = fL n m (setB B k 2) := by
  funext j
  simp only [updP]
  by_cases hj : j = k
  · subst hj
    rw [if_pos rfl, fL_in h hm, setB_at]; simp
  · rw [if_neg hj]; simp only [fL]; rw [setB_off hj]
theorem fL_clear : updP (fL n m B) k false = fL n m (setB B k 0) := by
  funext j
  simp only [updP]
  by_cases hj : j = k
  · subst hj
    rw [if_pos rfl]; simp only [fL]; rw [setB_at]; simp
  · rw [if_neg hj]; simp only [fL]; rw [setB_off hj]
theorem fL_same {v : Nat} (hB : B k ≠ 2) (hv : v ≠ 2) : fL n m (setB B k v) = fL n m B := by
  funext j
  simp only [fL]
  by_cases hj : j = k
  · subst hj; rw [setB_at, decide_eq_false hv, decide_eq_false hB]
  · rw [setB_off hj]
theorem fI_upd (h : k ≤ m) (h0 : k ≠ 0) (b : Bool) : updP (fI m I) k b = fI m (updP I k b) := by
  funext j
  show (if j = k then b else fI m I j) = fI m (updP I k b) j
  by_cases hj : j = k
  · subst hj
    rw [if_pos rfl, fI_in h h0, updP_at]
  · rw [if_neg hj]; simp only [fI]; rw [updP_off hj]
theorem fI_setzero : updP (fI m I) 0 true = fI m I := by
  funext j
  simp only [updP]
  by_cases hj : j = 0
  · subst hj; rw [if_pos rfl, fI_zero]
  · rw [if_neg hj]

/-! How many. -/
def rB (n m : Nat) (B : Nat → Nat) : Nat → Bool := fun k => decide (m < k) && decide (B k ≠ 1)
def rI (I : Nat → Bool) : Nat → Bool := fun k => decide (1 ≤ k) && !I k
theorem room_blocks (hB : ∀ j, B j ≤ 2) : ∀ j, j ≤ n → cntP (fB n m B) j + cntP (rB n m B) j = j + cntP (fL n m B) j
  | 0, _ => rfl
  | j + 1, h => by
    have ih := room_blocks hB j (by omega)
    simp only [cntP]
    have h2 := hB j
    by_cases hm : m < j
    · rw [fB_in (by omega) hm, fL_in (by omega) hm]
      simp only [rB, decide_eq_true hm, Bool.true_and]
      rcases (by omega : B j = 0 ∨ B j = 1 ∨ B j = 2) with e | e | e <;> rw [e] <;> simp <;> omega
    · rw [fB_low (by omega) (by omega)]
      simp only [rB, fL, decide_eq_false hm, Bool.false_and, Bool.and_false]
      simp; omega
theorem room_inodes : ∀ j, j ≤ m + 1 → cntP (fI m I) j + cntP (rI I) j = j
  | 0, _ => rfl
  | j + 1, h => by
    have ih := room_inodes j (by omega)
    simp only [cntP]
    by_cases h0 : j = 0
    · subst h0; simp [fI_zero, rI, cntP]
    · rw [fI_in (by omega) h0]
      have : 1 ≤ j := by omega
      simp only [rI, decide_eq_true this, Bool.true_and]
      cases I j <;> simp <;> omega
end

def rowB (B : Nat → Nat) : Nat → Value := fun k => .int .i64 (B k : Nat)
def rowI (I : Nat → Bool) : Nat → Value := fun k => .int .i64 ((I k).toNat : Nat)
/-- A space. -/
@[reducible] noncomputable def spaceR (p b bs i is q n m : Nat) (B : Nat → Nat) (I : Nat → Bool) : Res :=
  Res.both (Res.blk p #[.int .i64 n, .int .i64 m, .pointer (some ⟨b, 0, none⟩), .map (some q), .pointer (some ⟨i, 0, none⟩)] 71)
    (Res.both (bitsR b bs n (fB n m B)) (Res.both (bitsR i is (m + 1) (fI m I)) (Res.iset q n (fL n m B))))
/-- The document's. -/
@[reducible] noncomputable def refS (p b i n m : Nat) (B : Nat → Nat) (I : Nat → Bool) : Res :=
  Res.both (Res.blk p #[.int .i64 n, .int .i64 m, .slice (some ⟨b, 0, none⟩) n n, .slice (some ⟨i, 0, none⟩) (m + 1) (m + 1)] 73)
    (Res.both (Res.blk b (rowOf n (rowB B)) 3) (Res.blk i (rowOf (m + 1) (rowI I)) 3))
section
variable {w0 w w' : World} {S : List Nat} {L : List Res} {r r1 r2 r3 r4 : Res}
theorem holds_both (h : (Res.both r1 r2).holds w) : r1.holds w ∧ r2.holds w := by
  unfold Res.both at h
  exact ⟨h.1, h.2.1⟩
theorem Tr.open4 (h : (Res.both r1 (Res.both r2 (Res.both r3 r4))).holds w) : Tr w (Res.both r1 (Res.both r2 (Res.both r3 r4))).foot w [r1, r2, r3, r4] := by
  have h1 := Tr.open2 h
  have p1 : [r1, Res.both r2 (Res.both r3 r4)].Perm [Res.both r2 (Res.both r3 r4), r1] := List.Perm.swap _ _ _
  have h2 := (h1.perm p1).split2
  have p2 : [r2, Res.both r3 r4, r1].Perm [Res.both r3 r4, r1, r2] := List.perm_append_comm (l₁ := [r2]) (l₂ := [Res.both r3 r4, r1])
  have h3 := (h2.perm p2).split2
  exact h3.perm (List.perm_append_comm (l₁ := [r3, r4]) (l₂ := [r1, r2]))
theorem Tr.join4 (h : Tr w0 S w (r1 :: r2 :: r3 :: r4 :: L)) : Tr w0 S w (Res.both r1 (Res.both r2 (Res.both r3 r4)) :: L) := by
  have h1 : Tr w0 S w (r3 :: r4 :: r1 :: r2 :: L) := h.perm (List.Perm.append (List.perm_append_comm (l₁ := [r1, r2]) (l₂ := [r3, r4])) (List.Perm.refl L))
  have h2 := h1.join2
  have h3 : Tr w0 S w (r2 :: Res.both r3 r4 :: r1 :: L) := h2.perm (List.Perm.append (List.perm_append_comm (l₁ := [Res.both r3 r4, r1]) (l₂ := [r2])) (List.Perm.refl L))
  have h4 := h3.join2
  exact (h4.perm (List.Perm.swap _ _ _)).join2
theorem Tr.open3 (h : (Res.both r1 (Res.both r2 r3)).holds w) : Tr w (Res.both r1 (Res.both r2 r3)).foot w [r1, r2, r3] := by
  have h1 := Tr.open2 h
  have h2 := (h1.perm (List.Perm.swap _ _ _)).split2
  exact h2.perm (List.perm_append_comm (l₁ := [r2, r3]) (l₂ := [r1]))
theorem Tr.join3 (h : Tr w0 S w (r1 :: r2 :: r3 :: L)) : Tr w0 S w (Res.both r1 (Res.both r2 r3) :: L) := by
  have h1 : Tr w0 S w (r2 :: r3 :: r1 :: L) := h.perm (List.Perm.append (List.perm_append_comm (l₁ := [r1]) (l₂ := [r2, r3])) (List.Perm.refl L))
  exact (h1.join2.perm (List.Perm.swap _ _ _)).join2
/-- What was there stays there. -/
theorem Res.keep (h : r.holds w) (hs : Tr w [] w' L) : r.holds w' := r.stays w w' (fun k hk => hs.keep k (r.live w h k hk) (by simp)) h
/-- The cells of a block that is known whole, later on. -/
theorem Res.cellAt {b off : Nat} {cs : Array Value} {t : TypeId} {v : Value} (h : (Res.blk b cs t).holds w) (hs : Tr w [] w' L) (hv : cs[off]? = some v) : w'.cell? ⟨b, off, none⟩ = some v := by
  have h2 : w'.heap[b]? = some (.cells cs t (0, 0)) := by simpa [Res.blk] using Res.keep h hs
  rw [cell_of_row w' b off cs t (0, 0) h2]; exact hv
end
end Go.Proofs.YtfedfdcbhggipaaDoor
