/- Whose the lists are: plain facts. -/
import Derived.Test.YtdlnfdlgnbkppaaWSpots
import Derived.Test.YtdlnfdlgnbkppaaRp
namespace Go.Proofs.Ytdlnfdlgnbkppaa
set_option linter.unusedVariables false
set_option linter.unusedSimpArgs false
open Go Go.Sp Go.RowKit

theorem info44 : (Try.prog.info? 44).map (fun i => (i.zero, i.size, i.bytes)) = some (some (.slice none 0 0), 1, 24) := by kernel_rfl
theorem info33 : (Try.prog.info? 33).map (fun i => (i.zero, i.size, i.bytes)) = some (some (.slice none 0 0), 1, 24) := by kernel_rfl
theorem size33 : (Try.prog.info? 33).map (·.size) = some 1 := by kernel_rfl
theorem size32n : (Try.prog.info? 32).map (·.size) = some 21 := by kernel_rfl
def zero32 : Value := .agg #[.int .i64 0, .int .i64 0, .int .i64 0, .int .i64 0, .int .i64 0, .int .i64 0, .int .i64 0, .int .i64 0, .int .i64 0, .int .i64 0, .int .i64 0, .int .i64 0, .int .i64 0, .int .i64 0, .int .i64 0, .int .i64 0, .int .i64 0, .int .i64 0, .slice none 0 0, .int .i64 0, .int .i64 0]
theorem info32 : (Try.prog.info? 32).map (fun i => (i.zero, i.size, i.bytes)) = some (some zero32, 21, 184) := by kernel_rfl
theorem built61a (x : Int) : Try.prog.built 61 [(0, .int .i64 x)] = some #[.int .i64 x, .int .i64 0] := by kernel_rfl
/-- Four files, the second another one. -/
def filesC (f g : Nat → Value) : Nat → Value := fun j => if 21 ≤ j ∧ j < 42 then g (j - 21) else f (j % 21)
theorem files_fill (Z : Array Value) (hZ : Z.size = 84) (f g : Nat → Value) : Instr.fill (fun i => some (i * 21, 21)) Z [(0, .agg (rowOf 21 f)), (1, .agg (rowOf 21 g)), (2, .agg (rowOf 21 f)), (3, .agg (rowOf 21 f))] = some (rowOf 84 (filesC f g)) := by
  obtain ⟨z, rfl⟩ : ∃ z : Nat → Value, Z = rowOf 84 z := ⟨fun i => Z.getD i undef, rowOf_ext hZ fun i hi => by simp [Array.getD, hZ, hi]⟩
  rw [fill_rows (by omega), fill_rows (by omega), fill_rows (by omega), fill_rows (by omega)]
  unfold Instr.fill
  refine congrArg some (rowOf_congr fun j hj => ?_)
  unfold filesC
  by_cases h3 : 3 * 21 ≤ j
  · rw [if_pos (by omega), if_neg (by omega)]; congr 1; omega
  · rw [if_neg (by omega)]
    by_cases h2 : 2 * 21 ≤ j
    · rw [if_pos (by omega), if_neg (by omega)]; congr 1; omega
    · rw [if_neg (by omega)]
      by_cases h1 : 1 * 21 ≤ j
      · rw [if_pos (by omega), if_pos (by omega)]
      · rw [if_neg (by omega), if_pos (by omega), if_neg (by omega)]; congr 1; omega
theorem files_at (f g : Nat → Value) {k j : Nat} (hk : k < 4) (hj : j < 21) : filesC f g (k * 21 + j) = (if k = 1 then g else f) j := by
  unfold filesC
  by_cases h : k = 1
  · rw [if_pos h, if_pos (by omega)]; congr 1; omega
  · rw [if_neg h, if_neg (by omega)]; congr 1; omega

/-! marks -/
theorem sps_len (l : List (Int × Int)) : (sps l).length = l.length * 2 := by
  induction l with
  | nil => rfl
  | cons p l ih => rw [show sps (p :: l) = .int .i64 p.1 :: .int .i64 p.2 :: sps l from rfl, List.length_cons, List.length_cons, ih, List.length_cons]; omega
theorem ivsLen (l : List Int) : (ivs l).length = l.length := by simp [ivs]
def mkS (x : Int) (l : List (Int × Int)) (q : Nat) : List (Int × Int) := List.replicate q (x, 0) ++ l.drop q
theorem mkS_len (x : Int) {l : List (Int × Int)} {q : Nat} (h : q ≤ l.length) : (mkS x l q).length = l.length := by simp [mkS]; omega
theorem mkS_zero (x : Int) (l : List (Int × Int)) : mkS x l 0 = l := by simp [mkS]
theorem mkS_all (x : Int) (l : List (Int × Int)) : mkS x l l.length = List.replicate l.length (x, 0) := by simp [mkS]
theorem mkS_step {x : Int} {l : List (Int × Int)} {q : Nat} (h : q < l.length) :
    (sps (mkS x l q)).take (q * 2) ++ #[Value.int .i64 x, .int .i64 0].toList ++ (sps (mkS x l q)).drop (q * 2 + 2) = sps (mkS x l (q + 1)) := by
  have e1 : l.drop q = l[q] :: l.drop (q + 1) := List.drop_eq_getElem_cons h
  have hl : (sps (List.replicate q (x, (0 : Int)))).length = q * 2 := by rw [sps_len, List.length_replicate]
  unfold mkS
  rw [← sps_append, ← sps_append, e1, List.take_append_of_le_length (by omega), List.take_of_length_le (by omega), List.drop_append, List.drop_of_length_le (by omega), hl,
    show q * 2 + 2 - q * 2 = 2 by omega, List.nil_append, List.replicate_succ', ← sps_append]
  rfl
def mkI (x : Int) (l : List Int) (q : Nat) : List Int := List.replicate q x ++ l.drop q
theorem mkI_len (x : Int) {l : List Int} {q : Nat} (h : q ≤ l.length) : (mkI x l q).length = l.length := by simp [mkI]; omega
theorem mkI_zero (x : Int) (l : List Int) : mkI x l 0 = l := by simp [mkI]
theorem mkI_all (x : Int) (l : List Int) : mkI x l l.length = List.replicate l.length x := by simp [mkI]
theorem mkI_step {x : Int} {l : List Int} {q : Nat} (h : q < l.length) : (ivs (mkI x l q)).set q (.int .i64 x) = ivs (mkI x l (q + 1)) := by
  have e1 : l.drop q = l[q] :: l.drop (q + 1) := List.drop_eq_getElem_cons h
  have hl : (ivs (List.replicate q x)).length = q := by rw [ivsLen, List.length_replicate]
  have ap : ∀ l m : List Int, ivs (l ++ m) = ivs l ++ ivs m := fun l m => by simp [ivs]
  unfold mkI
  rw [ap, ap, e1, List.set_append_right _ _ (by omega), hl, Nat.sub_self, List.replicate_succ', ap, List.append_assoc]
  rfl
theorem sps_rep_snoc (x : Int) (q : Nat) : sps (List.replicate q (x, (0 : Int))) ++ #[Value.int .i64 x, .int .i64 0].toList = sps (List.replicate (q + 1) (x, 0)) := by
  rw [sps_snoc, ← List.replicate_succ']
theorem ivs_rep_snoc (x : Int) (q : Nat) : ivs (List.replicate q x) ++ #[Value.int .i64 x].toList = ivs (List.replicate (q + 1) x) := by
  rw [ivs_snoc, ← List.replicate_succ']
theorem sps_rep_at (x : Int) {n j : Nat} (hj : j < n) : (sps (List.replicate n (x, (0 : Int))))[j * 2]? = some (.int .i64 x) := by
  have h := (sps_at (l := List.replicate n (x, (0 : Int))) (k := j) (by simpa using hj)).1
  rw [Nat.mul_comm]
  simpa [hj] using h
theorem ivs_rep_at (x : Int) {n j : Nat} (hj : j < n) : (ivs (List.replicate n x))[j]? = some (.int .i64 x) := by
  simp [ivs, hj]
theorem sps_two_at (x y : Int) {n m j : Nat} (hj : j < n + m) : (sps (List.replicate n (x, (0 : Int))) ++ sps (List.replicate m (y, (0 : Int))))[j * 2]? = some (.int .i64 (if j < n then x else y)) := by
  have hl : (sps (List.replicate n (x, (0 : Int)))).length = n * 2 := by rw [sps_len, List.length_replicate]
  by_cases h : j < n
  · rw [List.getElem?_append_left (by omega), if_pos h, sps_rep_at x h]
  · rw [List.getElem?_append_right (by omega), if_neg h, hl, show j * 2 - n * 2 = (j - n) * 2 by omega, sps_rep_at y (by omega)]
theorem ivs_two_at (x y : Int) {n m j : Nat} (hj : j < n + m) : (ivs (List.replicate n x) ++ ivs (List.replicate m y))[j]? = some (.int .i64 (if j < n then x else y)) := by
  have hl : (ivs (List.replicate n x)).length = n := by rw [ivsLen, List.length_replicate]
  by_cases h : j < n
  · rw [List.getElem?_append_left (by omega), if_pos h, ivs_rep_at x h]
  · rw [List.getElem?_append_right (by omega), if_neg h, hl, ivs_rep_at y (by omega)]
theorem ivs_one (l : List Int) : ∀ u ∈ ivs l, u.oneCell' = true := by
  intro u hu
  simp only [ivs, List.mem_map] at hu
  obtain ⟨x, _, rfl⟩ := hu
  rfl

def g20S (x : Int) : List (Int × Int) := List.replicate 20 (x, 0)
def g20I (x : Int) : List Int := List.replicate 20 x
theorem g20S_eq (x : Int) : List.replicate 20 (x, (0 : Int)) = g20S x := rfl
theorem g20I_eq (x : Int) : List.replicate 20 x = g20I x := rfl
/-! rows of values -/
theorem row_upd {k : Nat} {V V' : Nat → Value} {v : Value} (h0 : ∀ j, j < k → V' j = V j) (h1 : V' k = v) : (rowOf k V).toList ++ #[v].toList = (rowOf (k + 1) V').toList := by
  rw [← rowOf_append k 1 V']
  congr 1
  · rw [rowOf_congr fun j hj => (h0 j hj).symm]
  · have e : ∀ i, i < 1 → V' (k + i) = v := fun i hi => by
      obtain rfl : i = 0 := by omega
      rw [Nat.add_zero, h1]
    rw [rowOf_congr (g := fun _ => v) e]
    rw [← rowOf_ext (n := 1) (cs := #[v]) (f := fun _ => v) rfl fun i hi => by
      obtain rfl : i = 0 := by omega
      rfl]
theorem row_at {k j : Nat} (V : Nat → Value) (h : j < k) : (rowOf k V).toList[j]? = some (V j) := by rw [Array.getElem?_toList, rowOf_get h]
def putV (V : Nat → Value) (k : Nat) (v : Value) : Nat → Value := fun j => if j = k then v else V j
theorem putV_at (V : Nat → Value) (k : Nat) (v : Value) : putV V k v k = v := if_pos rfl
theorem putV_lt (V : Nat → Value) {k j : Nat} (v : Value) (h : j < k) : putV V k v j = V j := if_neg (by omega)
theorem putV_ne (V : Nat → Value) {k j : Nat} (v : Value) (h : j ≠ k) : putV V k v j = V j := if_neg h
theorem if_step {j k : Nat} (h : j ≠ k) {a b : List Res} : (if j < k + 1 then a else b) = (if j < k then a else b) := by
  by_cases h1 : j < k
  · rw [if_pos h1, if_pos (by omega)]
  · rw [if_neg h1, if_neg (by omega)]
theorem perm_snoc2 (a b : Res) (B R : List Res) : (a :: b :: (B ++ R)).Perm (B ++ (R ++ [b, a])) := by
  have h1 : (a :: b :: (B ++ R)).Perm (B ++ R ++ [a, b]) := (List.perm_append_comm (l₁ := [a, b]) (l₂ := B ++ R))
  refine h1.trans ?_
  rw [List.append_assoc]
  exact ((List.Perm.swap b a []).append_left R).append_left B

section
variable {w0 w : World} {S : List Nat} {L : List Res} {v a : Value} {n m g c : Nat} {ao : Option Addr}
theorem Tr.pairL_at {e : TypeId} {size j : Nat} {u : Value} {xs zs : List Value} (hs : Tr w0 S w L) (i : Nat) (hi : L[i]? = some (Res.pair e size v n xs a m zs)) (hv : v = .slice ao n c) (h0 : 0 < n) (hao : 0 < n → ao = some ⟨g, 0, none⟩) (hu : xs[j]? = some u) : w.cell? ⟨g, j, none⟩ = some u := by
  subst hv
  obtain rfl := hao h0
  exact hs.pairL_cell i hi hu
theorem Tr.pairR_at {e : TypeId} {size j : Nat} {u : Value} {xs zs : List Value} (hs : Tr w0 S w L) (i : Nat) (hi : L[i]? = some (Res.pair e size v n xs a m zs)) (hv : a = .slice ao (n + m) c) (h0 : 0 < n + m) (hao : 0 < n + m → ao = some ⟨g, 0, none⟩) (hu : (xs ++ zs)[j]? = some u) : w.cell? ⟨g, j, none⟩ = some u := by
  subst hv
  obtain rfl := hao h0
  exact hs.pairR_cell i rfl hi hu
end
end Go.Proofs.Ytdlnfdlgnbkppaa
