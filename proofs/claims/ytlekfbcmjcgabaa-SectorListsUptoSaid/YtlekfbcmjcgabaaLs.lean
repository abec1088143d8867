/- Lists: plain facts. -/
import Derived.Test.YtlekfbcmjcgabaaM3
namespace Go.Proofs.Ytlekfbcmjcgabaa
set_option linter.unusedVariables false
set_option linter.unusedSimpArgs false
open Go Go.Sp Go.RowKit

def catF (C D : Nat → UInt8) (p : Nat) : Nat → UInt8 := fun j => if j < p then C j else D (j - p)
theorem cat_rows (C D : Nat → UInt8) (p q : Nat) : (rowOf p (u8v C)).toList ++ (rowOf q (u8v D)).toList = (rowOf (p + q) (u8v (catF C D p))).toList := by
  rw [← rowOf_append p q (u8v (catF C D p))]
  congr 2
  · exact rowOf_congr fun j hj => by simp only [u8v, catF]; rw [if_pos hj]
  · exact rowOf_congr fun j hj => by simp only [u8v, catF]; rw [if_neg (by omega), show p + j - p = j by omega]
theorem own_cat (C D : Nat → UInt8) (a b : Nat) (v : Value) : Res.own 30 128 v (0 + a + b) ([] ++ (rowOf (a * 128) (u8v C)).toList ++ (rowOf (b * 128) (u8v D)).toList) = Res.own 30 128 v (a + b) (rowOf ((a + b) * 128) (u8v (catF C D (a * 128)))).toList := by
  rw [List.nil_append, cat_rows, Nat.zero_add, Nat.add_mul]
theorem own_cat1 (C D : Nat → UInt8) (a : Nat) (v : Value) : Res.own 30 128 v (0 + a + 1) ([] ++ (rowOf (a * 128) (u8v C)).toList ++ (rowOf 128 (u8v D)).toList) = Res.own 30 128 v (a + 1) (rowOf ((a + 1) * 128) (u8v (catF C D (a * 128)))).toList := by
  rw [List.nil_append, cat_rows, Nat.zero_add, Nat.add_mul]
def fillC (m : UInt8) (f : Nat → UInt8) (k : Nat) : Nat → UInt8 := fun j => if j < k * 128 then m else f j
theorem fillC_step (m : UInt8) (f : Nat → UInt8) {N k : Nat} (h : k * 128 + 128 ≤ N) : (rowOf N (u8v (fillC m f k))).toList.take (0 + k * 128) ++ (rowOf 128 (u8v fun _ => m)).toList ++ (rowOf N (u8v (fillC m f k))).toList.drop (0 + k * 128 + 128) = (rowOf N (u8v (fillC m f (k + 1)))).toList := by
  rw [Nat.zero_add, splice_list _ _ _ h]
  congr 1
  refine rowOf_congr fun j hj => ?_
  simp only [u8v, fillC]
  by_cases h1 : k * 128 ≤ j ∧ j < k * 128 + 128
  · rw [if_pos h1, if_pos (by omega)]
  · rw [if_neg h1]
    by_cases h2 : j < k * 128
    · rw [if_pos h2, if_pos (by omega)]
    · rw [if_neg h2, if_neg (by omega)]
theorem fillC_zero (m : UInt8) (f : Nat → UInt8) : fillC m f 0 = f := by funext j; simp only [fillC]; rw [if_neg (by omega)]
theorem fillC_all (m : UInt8) (f : Nat → UInt8) (n : Nat) : (rowOf (n * 128) (u8v (fillC m f n))).toList = (rowOf (n * 128) (u8v fun _ => m)).toList := by
  rw [rowOf_congr fun j hj => show u8v (fillC m f n) j = u8v (fun _ => m) j by simp only [u8v, fillC]; rw [if_pos hj]]
def fillB (m : UInt8) (f : Nat → UInt8) (k : Nat) : Nat → UInt8 := fun j => if j < k then m else f j
theorem fillB_step (m : UInt8) (f : Nat → UInt8) (N k : Nat) (x : Int) (hx : x = (m.toNat : Int)) : (rowOf N (u8v (fillB m f k))).toList.set k (.int .u8 x) = (rowOf N (u8v (fillB m f (k + 1)))).toList := by
  rw [set_list]
  congr 1
  refine rowOf_congr fun j hj => ?_
  simp only [u8v, fillB]
  by_cases h : j = k
  · rw [if_pos h, if_pos (by omega), hx]
  · rw [if_neg h]
    by_cases h1 : j < k
    · rw [if_pos h1, if_pos (by omega)]
    · rw [if_neg h1, if_neg (by omega)]
theorem fillB_zero (m : UInt8) (f : Nat → UInt8) : fillB m f 0 = f := by funext j; simp only [fillB]; rw [if_neg (by omega)]
theorem fillB_all (m : UInt8) (f : Nat → UInt8) (n : Nat) : (rowOf n (u8v (fillB m f n))).toList = (rowOf n (u8v fun _ => m)).toList := by
  rw [rowOf_congr fun j hj => show u8v (fillB m f n) j = u8v (fun _ => m) j by simp only [u8v, fillB]; rw [if_pos hj]]
theorem const_app (m : UInt8) (p q : Nat) : (rowOf p (u8v fun _ => m)).toList ++ (rowOf q (u8v fun _ => m)).toList = (rowOf (p + q) (u8v fun _ => m)).toList := rowOf_append p q (u8v fun _ => m)
theorem own_two (m : UInt8) (n : Nat) (v : Value) : Res.own 30 128 v (n + 2) ((rowOf (n * 128) (u8v fun _ => m)).toList ++ (rowOf 256 (u8v fun _ => m)).toList) = Res.own 30 128 v (n + 2) (rowOf ((n + 2) * 128) (u8v fun _ => m)).toList := by
  rw [const_app, Nat.add_mul]
theorem const_one (m : UInt8) (x : Int) (hx : x = (m.toNat : Int)) (n : Nat) : (rowOf n (u8v fun _ => m)).toList ++ [Value.int .u8 x] = (rowOf (n + 1) (u8v fun _ => m)).toList := join_snoc (fun _ => m) n x hx
set_option maxRecDepth 100000 in
theorem two_fill (Z : Array Value) (hZ : Z.size = 256) (m : UInt8) : Instr.fill (fun i => some (i * 128, 128)) Z [(0, bytesV 128 fun _ => m), (1, bytesV 128 fun _ => m)] = some (rowOf 256 (u8v fun _ => m)) := by
  obtain ⟨z, rfl⟩ : ∃ z : Nat → Value, Z = rowOf 256 z := ⟨fun i => Z.getD i undef, rowOf_ext hZ fun i hi => by simp [Array.getD, hZ, hi]⟩
  unfold bytesV
  rw [fill_rows (by omega), fill_rows (by omega)]
  unfold Instr.fill
  refine congrArg some (rowOf_congr fun j hj => ?_)
  by_cases h : 1 * 128 ≤ j
  · rw [if_pos (by omega)]; rfl
  · rw [if_neg (by omega), if_pos (by omega)]; rfl
theorem lent_rdT {w0 w : World} {S : List Nat} {L : List Res} (hs : Tr w0 S w L) (i : Nat) {b n : Nat} {G : Nat → UInt8} (hi : L[i]? = some (Res.blk b (rowOf (n + 8) (u8v (lentF G n))) 5)) : Rd w b (0 + 0 * 1) n (u8v G) := by
  refine ((hs.rd i hi (off := 0) (n := n) (by omega)).congr fun j hj => ?_)
  simp only [u8v, lentF, Nat.zero_add]
  rw [if_pos hj]
theorem freshB {w0 w : World} {L : List Res} (hs : Tr w0 [] w L) (i : Nat) {b : Nat} {cs : Array Value} {t : TypeId} (hi : L[i]? = some (Res.blk b cs t)) : w0.heap.size ≤ b := by
  have := hs.mine b (List.mem_flatMap.2 ⟨_, List.mem_of_getElem? hi, by simp [Res.blk]⟩)
  simpa using this
theorem eqS_self (n : Nat) (F : Nat → UInt8) : eqS n F n F = true := eqS_iff.2 ⟨rfl, fun _ _ => rfl⟩

theorem ex_neqSL {P : Program} {w : World} {a : Act} {o : Oper} {t yt : TypeId} {x y : Operand} (ho : o.op = .binOp .neq t x y yt) {s1 s2 : ByteArray} (hx : a.eval x = .string s1) (hy : a.eval y = .string s2) {n m : Nat} {F G : Nat → UInt8} (h1 : s1 = strOf n F) (h2 : s2 = strOf m G) {R : Bool} (hR : (!eqS n F m G) = R) :
    (execOp a.eval o).run P w = .ok (.value (.bool R)) w := by
  subst hR
  exact ex_eqlS .neq true rfl ho hx hy h1 h2
end Go.Proofs.Ytlekfbcmjcgabaa
