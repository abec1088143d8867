/- Three pairs of disks on a desk: plain facts; one step of the desk. -/
import Derived.Test.YtcflolcaiedmfaaL
namespace Go.Proofs.Ytcflolcaiedmfaa
set_option linter.unusedVariables false
set_option linter.unusedSimpArgs false
open Go Go.Sp Go.RowKit Go.BigFrame

/-- A pair: the program's disk and the document's. -/
structure Ds where
  d : Nat
  s : Nat
  g : Nat
  c : Nat
  rd : Nat
  n : Nat
  f : Nat → UInt8
  wr : Int
  off : Bool
  aI : Bool
  aR : Bool
  lI : Int
  lR : Int
@[reducible] def Ds.I (x : Ds) : Res := diskR x.d x.s x.n x.f x.wr x.off x.aI x.lI
@[reducible] def Ds.R (x : Ds) : Res := refG x.rd x.g x.c x.n x.f x.wr x.off x.aR x.lR
def Ds.Ok (x : Ds) (B : Int) : Prop := Like x.n x.wr x.off x.aI x.aR x.lI x.lR B
def deskF (st : Nat → Ds) : Nat → List Res := fun j => [(st j).I, (st j).R]
def deskC (st : Nat → Ds) (lv wv : Value) : Nat → Value := fun i => if i < 3 then .pointer (some ⟨(st i).d, 0, none⟩) else if i < 6 then .pointer (some ⟨(st (i - 3)).rd, 0, none⟩) else if i = 6 then lv else wv
/-- An image that was told, and the document's. -/
structure Im where
  b : Nat
  n : Nat
  v : Value
  f : Nat → UInt8
def imF (im : Nat → Im) : Nat → List Res := fun i => [Res.blk (im i).b (rowOf ((im i).n * 128) (u8v (im i).f)) 40, Res.own 40 128 (im i).v (im i).n (rowOf ((im i).n * 128) (u8v (im i).f)).toList]
def imL (im : Nat → Im) : Nat → Value := fun i => .slice (some ⟨(im i).b, 0, none⟩) (im i).n (im i).n
def imW (im : Nat → Im) : Nat → Value := fun i => (im i).v
def putD {α : Type} (st : Nat → α) (k : Nat) (y : α) : Nat → α := fun j => if j = k then y else st j
theorem putD_at {α : Type} (st : Nat → α) (k : Nat) (y : α) : putD st k y k = y := if_pos rfl
theorem putD_ne {α : Type} (st : Nat → α) {j k : Nat} (y : α) (h : j ≠ k) : putD st k y j = st j := if_neg h
theorem deskC_same (st : Nat → Ds) (k : Nat) (y : Ds) (lv wv : Value) (h1 : y.d = (st k).d) (h2 : y.rd = (st k).rd) : deskC (putD st k y) lv wv = deskC st lv wv := by
  funext i
  unfold deskC putD
  by_cases h3 : i < 3
  · rw [if_pos h3, if_pos h3]
    by_cases h : i = k
    · subst h; rw [if_pos rfl, h1]
    · rw [if_neg h]
  · rw [if_neg h3, if_neg h3]
    by_cases h6 : i < 6
    · rw [if_pos h6, if_pos h6]
      by_cases h : i - 3 = k
      · subst h; rw [if_pos rfl, h2]
      · rw [if_neg h]
    · rw [if_neg h6, if_neg h6]
theorem deskC_put (st : Nat → Ds) {t : Nat} (ht : t < 3) (y : Ds) (lv wv : Value) : rowOf 8 (setC (setC (deskC st lv wv) t (.pointer (some ⟨y.d, 0, none⟩))) (3 + t) (.pointer (some ⟨y.rd, 0, none⟩))) = rowOf 8 (deskC (putD st t y) lv wv) := rowOf_congr fun i hi => by
  unfold setC deskC putD
  by_cases h3 : i < 3
  · rw [if_pos h3, if_pos h3, if_neg (by omega)]
    by_cases h : i = t
    · subst h; rw [if_pos rfl, if_pos rfl]
    · rw [if_neg h, if_neg h]
  · rw [if_neg h3, if_neg h3]
    by_cases h6 : i < 6
    · rw [if_pos h6, if_pos h6]
      by_cases h : i = 3 + t
      · subst h; rw [if_pos rfl, if_pos (by omega)]
      · rw [if_neg h, if_neg (by omega), if_neg (by omega)]
    · rw [if_neg h6, if_neg h6, if_neg (by omega), if_neg (by omega)]
theorem deskC_lists (st : Nat → Ds) (lv wv lv' wv' : Value) : rowOf 8 (setC (setC (deskC st lv wv) 6 lv') 7 wv') = rowOf 8 (deskC st lv' wv') := rowOf_congr fun i hi => by
  unfold setC deskC
  by_cases h7 : i = 7
  · subst h7; rw [if_pos rfl, if_neg (by omega), if_neg (by omega), if_neg (by omega)]
  · rw [if_neg h7]
    by_cases h6 : i = 6
    · subst h6; rw [if_pos rfl, if_neg (by omega), if_neg (by omega), if_pos rfl]
    · rw [if_neg h6]
      by_cases h3 : i < 3
      · rw [if_pos h3, if_pos h3]
      · rw [if_neg h3, if_neg h3, if_pos (by omega), if_pos (by omega)]
theorem deskC_1 (st : Nat → Ds) (lv wv : Value) {k : Nat} (hk : k < 3) : (rowOf 8 (deskC st lv wv))[k]? = some (.pointer (some ⟨(st k).d, 0, none⟩)) := by
  rw [rowOf_get (by omega)]; unfold deskC; rw [if_pos hk]
theorem deskC_2 (st : Nat → Ds) (lv wv : Value) {k : Nat} (hk : k < 3) : (rowOf 8 (deskC st lv wv))[3 + k]? = some (.pointer (some ⟨(st k).rd, 0, none⟩)) := by
  rw [rowOf_get (by omega)]; unfold deskC; rw [if_neg (by omega), if_pos (by omega), show 3 + k - 3 = k by omega]
theorem deskC_6 (st : Nat → Ds) (lv wv : Value) : (rowOf 8 (deskC st lv wv))[6]? = some lv := by rw [rowOf_get (by omega)]; rfl
theorem deskC_7 (st : Nat → Ds) (lv wv : Value) : (rowOf 8 (deskC st lv wv))[7]? = some wv := by rw [rowOf_get (by omega)]; rfl
theorem row_upd {k : Nat} {V V' : Nat → Value} {v : Value} (h0 : ∀ j, j < k → V' j = V j) (h1 : V' k = v) : (rowOf k V).toList ++ [v] = (rowOf (k + 1) V').toList := by
  rw [← rowOf_append k 1 V']
  congr 1
  · rw [rowOf_congr fun j hj => (h0 j hj).symm]
  · have e : ∀ i, i < 1 → V' (k + i) = v := fun i hi => by
      obtain rfl : i = 0 := by omega
      rw [Nat.add_zero, h1]
    rw [rowOf_congr (g := fun _ => v) e]
    rw [← rowOf_ext (n := 1) (cs := #[v]) (f := fun _ => v) rfl fun i hi => by
      obtain rfl : i = 0 := by omega
      rfl]
theorem row_at {k j : Nat} (V : Nat → Value) (h : j < k) : (rowOf k V).toList[j]? = some (V j) := by rw [Array.getElem?_toList, rowOf_get h]

/-- The desk. -/
def deskL (xb : Nat) (st : Nat → Ds) (m : Nat) (lv wv : Value) (im : Nat → Im) : List Res :=
  Res.blk xb (rowOf 8 (deskC st lv wv)) 66 :: Res.own 30 1 lv m (rowOf m (imL im)).toList :: Res.own 30 1 wv m (rowOf m (imW im)).toList :: (rows m (imF im) ++ rows 3 (deskF st))

theorem perm_two (a b : Res) (X : List Res) (c e : Res) : (a :: b :: c :: e :: X).Perm (c :: e :: a :: b :: X) := (List.perm_append_comm (l₁ := [a, b]) (l₂ := [c, e])).append_right X
/-- One pair in the place of another. -/
theorem rows_put {w0 w : World} {S : List Nat} {B : List Res} {F G : Nat → List Res} {t : Nat} {a b c e : Res} (hs : Tr w0 S w (a :: b :: (B ++ rows 3 F))) (ht : t < 3) (hF : F t = [c, e]) (hG : G t = [b, a]) (hne : ∀ j, j < 3 → j ≠ t → G j = F j) : Tr w0 S w (B ++ rows 3 G) := by
  obtain ⟨R', h1, h2⟩ := rows_pick (F := F) ht
  have h3 : Tr w0 S w (a :: b :: (B ++ (F t ++ R'))) := hs.perm (((h1.append_left B).cons b).cons a)
  rw [hF] at h3
  have h4 : Tr w0 S w (a :: b :: (B ++ R')) := h3.sub (((List.Sublist.append (List.Sublist.refl B) (List.Sublist.cons _ (List.Sublist.cons _ (List.Sublist.refl R')))).cons_cons b).cons_cons a)
  refine h4.perm ?_
  refine List.Perm.trans ?_ ((h2 G hne).symm.append_left B)
  rw [hG]
  have h5 : ([a, b] ++ B).Perm (B ++ [b, a]) := List.perm_append_comm.trans ((List.Perm.swap b a []).append_left B)
  have h6 := h5.append_right R'
  rw [List.append_assoc, List.append_assoc] at h6
  exact h6
theorem perm_im (a b c e : Res) (Y Z V : List Res) : (a :: b :: c :: e :: (Y ++ (Z ++ V))).Perm (c :: e :: (Y ++ (Z ++ [b, a]) ++ V)) := by
  refine (perm_two a b _ c e).trans ?_
  refine List.Perm.cons c (List.Perm.cons e ?_)
  have h5 : ([a, b] ++ (Y ++ Z)).Perm ((Y ++ Z) ++ [b, a]) := List.perm_append_comm.trans ((List.Perm.swap b a []).append_left _)
  have h6 := h5.append_right V
  simp only [List.append_assoc] at h6 ⊢
  exact h6
end Go.Proofs.Ytcflolcaiedmfaa
