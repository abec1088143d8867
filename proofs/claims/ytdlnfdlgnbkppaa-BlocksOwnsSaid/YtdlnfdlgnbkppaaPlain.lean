/- Plain facts on bytes and numbers: no program in sight. -/
import Derived.Test.YtdlnfdlgnbkppaaSep
import Derived.Laws.BitsAllLaws
namespace Go.Proofs.Ytdlnfdlgnbkppaa
open Go

/-- The number in n bytes from place a on, the lowest byte first. -/
def num (F : Nat → UInt8) : Nat → Nat → Nat
  | _, 0 => 0
  | a, n + 1 => (F a).toNat + 256 * num F (a + 1) n

theorem num_lt (F : Nat → UInt8) : ∀ n a, num F a n < 256 ^ n
  | 0, _ => by simp [num]
  | n + 1, a => by
    have := num_lt F n (a + 1)
    have h := (F a).toNat_lt
    simp only [num, Nat.pow_succ]
    omega

theorem num_congr {F G : Nat → UInt8} : ∀ n a, (∀ i, a ≤ i → i < a + n → F i = G i) → num F a n = num G a n
  | 0, _, _ => rfl
  | n + 1, a, h => by
    simp only [num]
    rw [h a (by omega) (by omega), num_congr n (a + 1) fun i h1 h2 => h i (by omega) (by omega)]

theorem num_add (F : Nat → UInt8) (m : Nat) : ∀ n a, num F a (n + m) = num F a n + 256 ^ n * num F (a + n) m
  | 0, a => by simp [num]
  | n + 1, a => by
    have ih := num_add F m n (a + 1)
    rw [show n + 1 + m = (n + m) + 1 from by omega]
    simp only [num]
    rw [ih, show a + 1 + n = a + (n + 1) from by omega, Nat.pow_succ, Nat.mul_add, ← Nat.mul_assoc, Nat.mul_comm 256 (256 ^ n)]
    omega

theorem num_snoc (F : Nat → UInt8) (n a : Nat) : num F a (n + 1) = num F a n + 256 ^ n * (F (a + n)).toNat := by
  rw [num_add F 1 n a]; simp [num]

/-- The bytes from place a on, n of them, replaced by those of v. -/
def setF (F : Nat → UInt8) (a n v : Nat) : Nat → UInt8 := fun i => if a ≤ i ∧ i < a + n then UInt8.ofNat (v / 256 ^ (i - a)) else F i

theorem num_setF (F : Nat → UInt8) (a v : Nat) : ∀ n k, k + n ≤ 8 → num (setF F a (k + n) v) (a + k) n = v / 256 ^ k % 256 ^ n
  | 0, k, _ => by simp [num, Nat.mod_one]
  | n + 1, k, h => by
    have ih := num_setF F a v n (k + 1) (by omega)
    simp only [num]
    rw [show k + (n + 1) = k + 1 + n from by omega, show a + k + 1 = a + (k + 1) from by omega, ih]
    have e : setF F a (k + 1 + n) v (a + k) = UInt8.ofNat (v / 256 ^ k) := by
      simp only [setF]; rw [if_pos (by omega), show a + k - a = k from by omega]
    rw [e, Nat.pow_succ 256 k, ← Nat.div_div_eq_div_mul, Nat.pow_succ 256 n]
    generalize v / 256 ^ k = x
    have h1 : (UInt8.ofNat x).toNat = x % 256 := by simp [UInt8.toNat_ofNat']
    rw [h1]
    rw [Nat.mul_comm (256 ^ n) 256, Nat.mod_mul]

theorem num_setF0 (F : Nat → UInt8) (a v n : Nat) (hn : n ≤ 8) (hv : v < 256 ^ n) : num (setF F a n v) a n = v := by
  have := num_setF F a v n 0 (by omega)
  simp only [Nat.zero_add, Nat.add_zero, Nat.pow_zero, Nat.div_one] at this
  rw [this, Nat.mod_eq_of_lt hv]

theorem pow256_mono {a b : Nat} (h : a ≤ b) : 256 ^ a ≤ 256 ^ b := Nat.pow_le_pow_right (by omega) h

theorem or_byte (x b : Nat) (hx : x < 72057594037927936) (hb : b < 256) : bits .or .u64 ((x : Int) * 256) (b : Int) = ((x * 256 + b : Nat) : Int) := by
  rw [show ((x : Int) * 256) = ((x * 256 : Nat) : Int) from by omega, u64_or_nat _ _ (by omega) (by omega)]
  congr 1
  have := Nat.two_pow_add_eq_or_of_lt (i := 8) (b := b) (by omega) x
  rw [Nat.mul_comm x 256]
  exact this.symm

theorem num_down (F : Nat → UInt8) (a n : Nat) (h : n < a) : num F (a - (n + 1)) (n + 1) = num F (a - n) n * 256 + (F (a - 1 - n)).toNat := by
  simp only [num]
  rw [show a - (n + 1) + 1 = a - n from by omega, show a - (n + 1) = a - 1 - n from by omega]
  omega

theorem num_lt56 (F : Nat → UInt8) (a n : Nat) (h : n ≤ 7) : num F a n < 72057594037927936 := by
  have h1 := num_lt F n a
  have h2 := pow256_mono h
  omega

theorem pow28 (n : Nat) : (2 : Int) ^ (8 * n) = ((256 ^ n : Nat) : Int) := by
  rw [Int.pow_mul, Int.natCast_pow]; rfl
theorem shr8 (v n : Nat) : (v : Int) / 2 ^ (8 * n) = ((v / 256 ^ n : Nat) : Int) := by rw [pow28, Int.natCast_ediv]
theorem shr8_pos {v n : Nat} (h : 256 ^ n ≤ v) : decide (0 < (v : Int) / 2 ^ (8 * n)) = true := by
  have h2 := Nat.div_pos h (Nat.pow_pos (by omega))
  rw [shr8]
  generalize v / 256 ^ n = q at *
  exact decide_eq_true (by omega)
theorem shr8_zero {v n : Nat} (h : v < 256 ^ n) : decide (0 < (v : Int) / 2 ^ (8 * n)) = false := by
  rw [shr8, Nat.div_eq_of_lt h]; simp

/-- One byte more is written. -/
theorem set_cells (F : Nat → UInt8) (A v k : Nat) (x : Int) (hx : x = (v : Int) / 2 ^ (8 * k)) : ∀ j, j < 128 →
    (if j = A + k then Value.int .u8 (IntKind.u8.wrap x) else Sp.u8v (setF F A k v) j) = Sp.u8v (setF F A (k + 1) v) j := by
  intro j hj
  subst hx
  simp only [Sp.u8v, setF]
  by_cases h : j = A + k
  · subst h
    rw [if_pos rfl, if_pos (by omega), shr8, show A + k - A = k from by omega]
    generalize v / 256 ^ k = q
    simp [IntKind.wrap, IntKind.bits, IntKind.signed, UInt8.toNat_ofNat']
  · rw [if_neg h]
    by_cases h2 : A ≤ j ∧ j < A + k
    · rw [if_pos h2, if_pos (by omega)]
    · rw [if_neg h2, if_neg (by omega)]
theorem setF_zero (F : Nat → UInt8) (A v : Nat) : setF F A 0 v = F := by
  funext i; simp only [setF]; rw [if_neg (by omega)]

theorem setF_at (F : Nat → UInt8) (A W n k : Nat) (h : A ≤ k ∧ k < A + W) : ((setF F A W n k).toNat : Int) = ((n / 256 ^ (k - A) : Nat) : Int) % 256 := by
  simp only [setF]; rw [if_pos h, UInt8.toNat_ofNat']; omega
theorem setF_off (F : Nat → UInt8) (A W n k : Nat) (h : ¬ (A ≤ k ∧ k < A + W)) : setF F A W n k = F k := by
  simp only [setF]; rw [if_neg h]
theorem setF_idem (F : Nat → UInt8) (A W n : Nat) : setF (setF F A W n) A W n = setF F A W n := by
  funext i; simp only [setF]; split <;> rfl

/-- Bytes spliced in. -/
def spliceF (F : Nat → UInt8) (a n : Nat) (G : Nat → UInt8) : Nat → UInt8 := fun i => if a ≤ i ∧ i < a + n then G (i - a) else F i

/-- n bytes, then zeros. -/
def cutF (G : Nat → UInt8) (n : Nat) : Nat → UInt8 := fun i => if i < n then G i else 0

/-- All bytes from a place on 0. -/
def wipeF (F : Nat → UInt8) (a : Int) : Nat → UInt8 := fun i => if a ≤ (i : Int) then 0 else F i

end Go.Proofs.Ytdlnfdlgnbkppaa
