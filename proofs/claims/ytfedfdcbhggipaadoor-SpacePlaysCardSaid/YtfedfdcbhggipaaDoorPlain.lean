/- Words of bits, of no program. -/
import Derived.Lib.TrailingZeros
namespace Go.Proofs.YtfedfdcbhggipaaDoor
set_option linter.unusedVariables false
set_option linter.unusedSimpArgs false

/-- The number whose bits are these. -/
def wd (g : Nat → Bool) : Nat → Nat
  | 0 => 0
  | m + 1 => 2 ^ m * (g m).toNat + wd g m
theorem wd_lt (g : Nat → Bool) : ∀ m, wd g m < 2 ^ m
  | 0 => by simp [wd]
  | m + 1 => by
    have := wd_lt g m
    have h : (g m).toNat ≤ 1 := Bool.toNat_le _
    have h2 : 2 ^ m * (g m).toNat ≤ 2 ^ m * 1 := Nat.mul_le_mul_left _ h
    rw [wd, Nat.pow_succ]
    omega
theorem wd_bit (g : Nat → Bool) : ∀ m i, (wd g m).testBit i = (decide (i < m) && g i)
  | 0, i => by simp [wd]
  | m + 1, i => by
    rw [wd, Nat.testBit_two_pow_mul_add _ (wd_lt g m), wd_bit g m i]
    by_cases h : i < m
    · have h2 : i < m + 1 := by omega
      simp [h, h2]
    · rw [if_neg h]
      by_cases h3 : i = m
      · subst h3
        cases g i <;> simp
      · have h4 : ¬ i < m + 1 := by omega
        simp only [h4, decide_false, Bool.false_and]
        apply Nat.testBit_lt_two_pow
        have : (g m).toNat ≤ 1 := Bool.toNat_le _
        have h5 : 2 ^ 1 ≤ 2 ^ (i - m) := Nat.pow_le_pow_right (by decide) (by omega)
        omega
theorem wd_uniq {x m : Nat} {g : Nat → Bool} (hx : x < 2 ^ m) (h : ∀ i, i < m → x.testBit i = g i) : x = wd g m := by
  apply Nat.eq_of_testBit_eq
  intro i
  rw [wd_bit]
  by_cases hi : i < m
  · rw [h i hi]; simp [hi]
  · rw [Nat.testBit_lt_two_pow (Nat.lt_of_lt_of_le hx (Nat.pow_le_pow_right (by decide) (by omega)))]
    simp [hi]
theorem wd_congr {m : Nat} {g h : Nat → Bool} (e : ∀ i, i < m → g i = h i) : wd g m = wd h m :=
  wd_uniq (wd_lt g m) fun i hi => by rw [wd_bit, e i hi]; simp [hi]

/-- The word's k-th. -/
theorem word_ex (f : Nat → Bool) (k : Nat) : ∃ x, x < 18446744073709551616 ∧ ∀ i, i < 64 → x.testBit i = f (64 * k + i) :=
  ⟨wd (fun j => f (64 * k + j)) 64, wd_lt _ 64, fun i h => by rw [wd_bit]; simp [h]⟩
noncomputable def word (f : Nat → Bool) (k : Nat) : Nat := Classical.choose (word_ex f k)
theorem word_lt (f : Nat → Bool) (k : Nat) : word f k < 18446744073709551616 := (Classical.choose_spec (word_ex f k)).1
theorem word_bit (f : Nat → Bool) (k i : Nat) (h : i < 64) : (word f k).testBit i = f (64 * k + i) := (Classical.choose_spec (word_ex f k)).2 i h
theorem word_wd (f : Nat → Bool) (k : Nat) : word f k = wd (fun j => f (64 * k + j)) 64 := wd_uniq (word_lt f k) fun i h => word_bit f k i h
theorem word_uniq {x : Nat} {f : Nat → Bool} {k : Nat} (hx : x < 18446744073709551616) (h : ∀ i, i < 64 → x.testBit i = f (64 * k + i)) : x = word f k := by
  rw [word_wd]; exact wd_uniq hx h
theorem word_congr {f g : Nat → Bool} {k : Nat} (e : ∀ j, j < 64 → f (64 * k + j) = g (64 * k + j)) : word f k = word g k := word_uniq (word_lt f k) fun i h => by rw [word_bit f k i h, e i h]

/-- One place is turned. -/
def updP (f : Nat → Bool) (i : Nat) (b : Bool) : Nat → Bool := fun j => if j = i then b else f j
theorem updP_at (f : Nat → Bool) (i : Nat) (b : Bool) : updP f i b i = b := by simp [updP]
theorem updP_off {f : Nat → Bool} {i j : Nat} {b : Bool} (h : j ≠ i) : updP f i b j = f j := by simp [updP, h]
theorem word_set (f : Nat → Bool) (i : Nat) : word f (i / 64) ||| 2 ^ (i % 64) = word (updP f i true) (i / 64) := by
  have hm : i % 64 < 64 := Nat.mod_lt _ (by decide)
  have hp : 2 ^ (i % 64) < 2 ^ 64 := Nat.pow_lt_pow_right (by decide) hm
  refine word_uniq (Nat.or_lt_two_pow (word_lt f _) hp) fun j hj => ?_
  rw [Nat.testBit_or, word_bit f _ j hj, Nat.testBit_two_pow]
  simp only [updP]
  by_cases h : i % 64 = j
  · have : 64 * (i / 64) + j = i := by omega
    simp [h, this]
  · have : ¬ 64 * (i / 64) + j = i := by omega
    simp [h, this]
theorem word_clear (f : Nat → Bool) (i : Nat) : word f (i / 64) &&& (18446744073709551615 - 2 ^ (i % 64)) = word (updP f i false) (i / 64) := by
  have hm : i % 64 < 64 := Nat.mod_lt _ (by decide)
  have hp : 2 ^ (i % 64) < 2 ^ 64 := Nat.pow_lt_pow_right (by decide) hm
  refine word_uniq (Nat.lt_of_le_of_lt Nat.and_le_left (word_lt f _)) fun j hj => ?_
  have e : 18446744073709551615 - 2 ^ (i % 64) = 2 ^ 64 - (2 ^ (i % 64) + 1) := by omega
  rw [Nat.testBit_and, word_bit f _ j hj, e, Nat.testBit_two_pow_sub_succ hp, Nat.testBit_two_pow]
  simp only [updP]
  by_cases h : i % 64 = j
  · have : 64 * (i / 64) + j = i := by omega
    simp [h, this]
  · have : ¬ 64 * (i / 64) + j = i := by omega
    simp [h, this, hj]
theorem word_other {f : Nat → Bool} {i k : Nat} {b : Bool} (h : k ≠ i / 64) : word (updP f i b) k = word f k := by
  refine word_congr fun j hj => ?_
  exact updP_off (by omega)
theorem word_has (f : Nat → Bool) (i : Nat) : word f (i / 64) / 2 ^ (i % 64) &&& 1 = (f i).toNat := by
  have hm : i % 64 < 64 := Nat.mod_lt _ (by decide)
  have h := word_bit f (i / 64) (i % 64) hm
  rw [show 64 * (i / 64) + i % 64 = i by omega] at h
  rw [← h, Nat.testBit, Nat.shiftRight_eq_div_pow]
  have e : 1 &&& (word f (i / 64) / 2 ^ (i % 64)) = (word f (i / 64) / 2 ^ (i % 64)) % 2 := by rw [Nat.and_comm, Nat.and_one_is_mod]
  rw [e, Nat.and_one_is_mod]
  have : (word f (i / 64) / 2 ^ (i % 64)) % 2 < 2 := Nat.mod_lt _ (by decide)
  generalize (word f (i / 64) / 2 ^ (i % 64)) % 2 = x at *
  rcases (by omega : x = 0 ∨ x = 1) with rfl | rfl <;> rfl
/-- What lies ahead is masked. -/
theorem word_mask (f : Nat → Bool) (a : Nat) : word f (a / 64) ||| (2 ^ (a % 64) - 1) = word (fun i => f i || decide (i < a)) (a / 64) := by
  have hm : a % 64 < 64 := Nat.mod_lt _ (by decide)
  have hp : 2 ^ (a % 64) < 2 ^ 64 := Nat.pow_lt_pow_right (by decide) hm
  refine word_uniq (Nat.or_lt_two_pow (n := 64) (word_lt f _) (Nat.lt_of_le_of_lt (Nat.sub_le _ _) hp)) fun j hj => ?_
  rw [Nat.testBit_or, word_bit f _ j hj, Nat.testBit_two_pow_sub_one]
  congr 1
  by_cases h : j < a % 64
  · have : 64 * (a / 64) + j < a := by omega
    simp [h, this]
  · have : ¬ 64 * (a / 64) + j < a := by omega
    simp [h, this]
theorem word_mask_up {f : Nat → Bool} {a k : Nat} (h : a / 64 < k) : word f k = word (fun i => f i || decide (i < a)) k :=
  word_congr fun j hj => by
    have : ¬ 64 * k + j < a := by omega
    simp [this]
theorem word_full {f : Nat → Bool} {k : Nat} : word f k = 18446744073709551615 ↔ ∀ j, j < 64 → f (64 * k + j) = true := by
  constructor
  · intro h j hj
    rw [← word_bit f k j hj, h, show (18446744073709551615 : Nat) = 2 ^ 64 - 1 by decide, Nat.testBit_two_pow_sub_one]
    simp [hj]
  · intro h
    refine (word_uniq (by decide) fun j hj => ?_).symm
    rw [h j hj, show (18446744073709551615 : Nat) = 2 ^ 64 - 1 by decide, Nat.testBit_two_pow_sub_one]
    simp [hj]
/-- The least bit that is not set. -/
theorem word_ctz (f : Nat → Bool) (k : Nat) (h : word f k ≠ 18446744073709551615) :
    Go.Lib.ctz 64 (18446744073709551615 - word f k) < 64 ∧ f (64 * k + Go.Lib.ctz 64 (18446744073709551615 - word f k)) = false ∧ ∀ j, j < Go.Lib.ctz 64 (18446744073709551615 - word f k) → f (64 * k + j) = true := by
  have hw := word_lt f k
  have hx0 : 18446744073709551615 - word f k ≠ 0 := by omega
  obtain ⟨m, hm, hk⟩ := Go.Lib.ctzFrom_spec 64 (18446744073709551615 - word f k) (by omega) (by omega)
  have hb : ∀ j, j < 64 → (18446744073709551615 - word f k).testBit j = !f (64 * k + j) := by
    intro j hj
    rw [show 18446744073709551615 - word f k = 2 ^ 64 - (word f k + 1) by omega, Nat.testBit_two_pow_sub_succ (word_lt f k), word_bit f k j hj]
    simp [hj]
  rw [Go.Lib.ctz, if_neg hx0]
  generalize Go.Lib.ctzFrom 64 (18446744073709551615 - word f k) = c at *
  refine ⟨hk, ?_, fun j hj => ?_⟩
  · have h1 := hb c hk
    rw [hm, Nat.testBit_two_pow_mul] at h1
    simp at h1
    exact h1
  · have h1 := hb j (by omega)
    rw [hm, Nat.testBit_two_pow_mul] at h1
    have : ¬ c ≤ j := by omega
    simp [this] at h1
    exact h1

/-! how many are set -/
def cntP (f : Nat → Bool) : Nat → Nat
  | 0 => 0
  | n + 1 => cntP f n + (f n).toNat
theorem cntP_le (f : Nat → Bool) : ∀ n, cntP f n ≤ n
  | 0 => by simp [cntP]
  | n + 1 => by
    have := cntP_le f n
    have h : (f n).toNat ≤ 1 := Bool.toNat_le _
    rw [cntP]; omega
theorem cntP_congr {f g : Nat → Bool} : ∀ {n}, (∀ i, i < n → f i = g i) → cntP f n = cntP g n
  | 0, _ => rfl
  | n + 1, h => by rw [cntP, cntP, cntP_congr (n := n) fun i hi => h i (by omega), h n (by omega)]
theorem cntP_add (f : Nat → Bool) (m : Nat) : ∀ k, cntP f (m + k) = cntP f m + cntP (fun j => f (m + j)) k
  | 0 => rfl
  | k + 1 => by rw [← Nat.add_assoc, cntP, cntP, cntP_add f m k]; omega
theorem cntP_zero {f : Nat → Bool} : ∀ {n}, (∀ i, i < n → f i = false) → cntP f n = 0
  | 0, _ => rfl
  | n + 1, h => by rw [cntP, cntP_zero (n := n) fun i hi => h i (by omega), h n (by omega)]; rfl
theorem cntP_all {f : Nat → Bool} : ∀ {n}, cntP f n = n → ∀ i, i < n → f i = true
  | 0, _, i, hi => by omega
  | n + 1, h, i, hi => by
    have h1 := cntP_le f n
    rw [cntP] at h
    have h2 : (f n).toNat ≤ 1 := Bool.toNat_le _
    rcases Nat.lt_or_ge i n with h3 | h3
    · exact cntP_all (n := n) (by omega) i h3
    · obtain rfl : i = n := by omega
      cases hf : f i
      · rw [hf] at h; simp at h; omega
      · rfl
theorem cntP_full {f : Nat → Bool} {n : Nat} (h : ∀ i, i < n → f i = true) : cntP f n = n := by
  induction n with
  | zero => rfl
  | succ n ih => rw [cntP, ih fun i hi => h i (by omega), h n (by omega)]; rfl
theorem cntP_upd (f : Nat → Bool) (i : Nat) (b : Bool) : ∀ n, cntP (updP f i b) n + (if i < n then (f i).toNat else 0) = cntP f n + (if i < n then b.toNat else 0)
  | 0 => by simp [cntP]
  | n + 1 => by
    have ih := cntP_upd f i b n
    rw [cntP, cntP]
    by_cases h : n = i
    · subst h
      rw [updP_at]
      rw [if_neg (by omega), if_neg (by omega)] at ih
      rw [if_pos (by omega), if_pos (by omega)]
      omega
    · rw [updP_off h]
      by_cases h2 : i < n
      · rw [if_pos h2, if_pos h2] at ih
        rw [if_pos (by omega), if_pos (by omega)]
        omega
      · rw [if_neg h2, if_neg h2] at ih
        rw [if_neg (by omega), if_neg (by omega)]
        omega

/-! the count of a word's bits, as Go's library has it -/
theorem land_split {k a b c d : Nat} (ha : a < 2 ^ k) (hb : b < 2 ^ k) : (2 ^ k * c + a) &&& (2 ^ k * d + b) = 2 ^ k * (c &&& d) + (a &&& b) := by
  apply Nat.eq_of_testBit_eq
  intro i
  rw [Nat.testBit_and, Nat.testBit_two_pow_mul_add _ ha, Nat.testBit_two_pow_mul_add _ hb, Nat.testBit_two_pow_mul_add _ (Nat.and_lt_two_pow _ hb)]
  split <;> simp
theorem land8 {a b c d : Nat} (ha : a < 256) (hb : b < 256) : (256 * c + a) &&& (256 * d + b) = 256 * (c &&& d) + (a &&& b) := land_split (k := 8) ha hb
/-- Eight bytes. -/
def hor (b : Nat → Nat) : Nat := 256 * (256 * (256 * (256 * (256 * (256 * (256 * b 7 + b 6) + b 5) + b 4) + b 3) + b 2) + b 1) + b 0
theorem hor_land (a m : Nat → Nat) (ha : ∀ j, j < 8 → a j < 256) (hm : ∀ j, j < 8 → m j < 256) : hor a &&& hor m = hor fun j => a j &&& m j := by
  simp only [hor]
  rw [land8 (ha 0 (by decide)) (hm 0 (by decide)), land8 (ha 1 (by decide)) (hm 1 (by decide)), land8 (ha 2 (by decide)) (hm 2 (by decide)), land8 (ha 3 (by decide)) (hm 3 (by decide)),
    land8 (ha 4 (by decide)) (hm 4 (by decide)), land8 (ha 5 (by decide)) (hm 5 (by decide)), land8 (ha 6 (by decide)) (hm 6 (by decide))]
/-- A byte's pairs, fours, all. -/
def p1 (b : Nat) : Nat := (b / 2 &&& 85) + (b &&& 85)
def p2 (b : Nat) : Nat := (p1 b / 4 &&& 51) + (p1 b &&& 51)
def p3 (b : Nat) : Nat := (p2 b / 16 + p2 b) &&& 15
theorem byte1 : ∀ b, b < 256 → p1 b < 256 ∧ p2 b % 16 ≤ 4 ∧ p2 b / 16 ≤ 4 ∧ p3 b ≤ 8 ∧ p2 b < 256 := by decide +kernel
theorem byte2 : ∀ b, b < 256 → ∀ t, t < 2 → (b / 2 + 128 * t) &&& 85 = b / 2 &&& 85 := by decide +kernel
theorem byte3 : ∀ b, b < 256 → ∀ t, t < 4 → (b / 4 + 64 * t) &&& 51 = b / 4 &&& 51 := by decide +kernel
theorem byte4 : ∀ p, p < 5 → ∀ q, q < 5 → ∀ t, t < 5 → (q + 16 * t + (p + 16 * q)) &&& 15 = (q + (p + 16 * q)) &&& 15 := by decide +kernel
theorem byte5 : ∀ b, b < 256 → p3 b = cntP (fun i => b.testBit i) 8 := by decide +kernel
theorem hor_congr {a b : Nat → Nat} (h : ∀ j, j < 8 → a j = b j) : hor a = hor b := by
  simp only [hor]
  rw [h 0 (by decide), h 1 (by decide), h 2 (by decide), h 3 (by decide), h 4 (by decide), h 5 (by decide), h 6 (by decide), h 7 (by decide)]
theorem hor_add (a b : Nat → Nat) : hor a + hor b = hor fun j => a j + b j := by simp only [hor]; omega
theorem hor_div2 (b : Nat → Nat) : hor b / 2 = hor fun j => b j / 2 + 128 * (if j < 7 then b (j + 1) % 2 else 0) := by
  simp only [hor]; simp only [Nat.reduceLT, Nat.reduceAdd, if_true, if_false]; omega
theorem hor_div4 (b : Nat → Nat) : hor b / 4 = hor fun j => b j / 4 + 64 * (if j < 7 then b (j + 1) % 4 else 0) := by
  simp only [hor]; simp only [Nat.reduceLT, Nat.reduceAdd, if_true, if_false]; omega
theorem hor_div16 (b : Nat → Nat) : hor b / 16 = hor fun j => b j / 16 + 16 * (if j < 7 then b (j + 1) % 16 else 0) := by
  simp only [hor]; simp only [Nat.reduceLT, Nat.reduceAdd, if_true, if_false]; omega
theorem hor_lt (b : Nat → Nat) (h : ∀ j, j < 8 → b j < 256) : hor b < 18446744073709551616 := by
  have := h 0 (by decide); have := h 1 (by decide); have := h 2 (by decide); have := h 3 (by decide)
  have := h 4 (by decide); have := h 5 (by decide); have := h 6 (by decide); have := h 7 (by decide)
  simp only [hor]; omega
theorem pop1 (b : Nat → Nat) (h : ∀ j, j < 8 → b j < 256) : (hor b / 2 &&& 6148914691236517205) + (hor b &&& 6148914691236517205) = hor fun j => p1 (b j) := by
  have em : (6148914691236517205 : Nat) = hor fun _ => 85 := by decide
  rw [em, hor_div2, hor_land _ _ _ fun _ _ => by decide, hor_land _ _ h fun _ _ => by decide, hor_add]
  · refine hor_congr fun j hj => ?_
    rw [byte2 (b j) (h j hj) _ (by split <;> omega)]
    rfl
  · intro j hj
    have := h j hj
    split <;> omega
theorem pop2 (b : Nat → Nat) (h : ∀ j, j < 8 → b j < 256) : ((hor fun j => p1 (b j)) / 4 &&& 3689348814741910323) + ((hor fun j => p1 (b j)) &&& 3689348814741910323) = hor fun j => p2 (b j) := by
  have em : (3689348814741910323 : Nat) = hor fun _ => 51 := by decide
  have h1 : ∀ j, j < 8 → p1 (b j) < 256 := fun j hj => (byte1 _ (h j hj)).1
  rw [em, hor_div4, hor_land _ _ _ fun _ _ => by decide, hor_land _ _ h1 fun _ _ => by decide, hor_add]
  · refine hor_congr fun j hj => ?_
    rw [byte3 (p1 (b j)) (h1 j hj) _ (by split <;> omega)]
    rfl
  · intro j hj
    have := h1 j hj
    split <;> omega
theorem pop3 (b : Nat → Nat) (h : ∀ j, j < 8 → b j < 256) : ((hor fun j => p2 (b j)) / 16 + (hor fun j => p2 (b j))) &&& 1085102592571150095 = hor fun j => p3 (b j) := by
  have em : (1085102592571150095 : Nat) = hor fun _ => 15 := by decide
  have h1 : ∀ j, j < 8 → p2 (b j) % 16 ≤ 4 ∧ p2 (b j) / 16 ≤ 4 := fun j hj => ⟨(byte1 _ (h j hj)).2.1, (byte1 _ (h j hj)).2.2.1⟩
  rw [em, hor_div16, hor_add, hor_land _ _ _ fun _ _ => by decide]
  · refine hor_congr fun j hj => ?_
    have h2 := h1 j hj
    have e : p2 (b j) = p2 (b j) % 16 + 16 * (p2 (b j) / 16) := by omega
    have ht : (if j < 7 then p2 (b (j + 1)) % 16 else 0) < 5 := by
      split
      · have := h1 (j + 1) (by omega); omega
      · omega
    have := byte4 (p2 (b j) % 16) (by omega) (p2 (b j) / 16) (by omega) _ ht
    rw [← e] at this
    exact this
  · intro j hj
    have h2 := h1 j hj
    have ht : (if j < 7 then p2 (b (j + 1)) % 16 else 0) < 5 := by
      split
      · have := h1 (j + 1) (by omega); omega
      · omega
    generalize (if j < 7 then p2 (b (j + 1)) % 16 else 0) = t at *
    show p2 (b j) / 16 + 16 * t + p2 (b j) < 256
    omega
theorem hor_div256 (c : Nat → Nat) (h : ∀ j, j < 8 → c j < 256) : hor c / 256 = hor fun j => if j < 7 then c (j + 1) else 0 := by
  have h0 := h 0 (by decide)
  simp only [hor]; simp only [Nat.reduceLT, Nat.reduceAdd, if_true, if_false]; omega
theorem hor_div16b (c : Nat → Nat) (h : ∀ j, j < 8 → c j < 256) : hor c / 65536 = hor fun j => if j < 6 then c (j + 2) else 0 := by
  rw [show (65536 : Nat) = 256 * 256 from rfl, ← Nat.div_div_eq_div_mul, hor_div256 c h, hor_div256]
  · refine hor_congr fun j hj => ?_
    by_cases h6 : j < 6
    · rw [if_pos (by omega), if_pos (by omega), if_pos h6]
    · rw [if_neg h6]
      by_cases h7 : j < 7
      · rw [if_pos h7, if_neg (by omega)]
      · rw [if_neg h7]
  · intro j hj
    by_cases h7 : j < 7
    · simp only [h7, if_true]; exact h _ (by omega)
    · simp only [h7, if_false]; decide
theorem hor_div32 (c : Nat → Nat) (h : ∀ j, j < 8 → c j < 256) : hor c / 4294967296 = hor fun j => if j < 4 then c (j + 4) else 0 := by
  rw [show (4294967296 : Nat) = 65536 * 65536 from rfl, ← Nat.div_div_eq_div_mul, hor_div16b c h, hor_div16b]
  · refine hor_congr fun j hj => ?_
    by_cases h6 : j < 4
    · rw [if_pos (by omega), if_pos (by omega), if_pos h6]
    · rw [if_neg h6]
      by_cases h7 : j < 6
      · rw [if_pos h7, if_neg (by omega)]
      · rw [if_neg h7]
  · intro j hj
    by_cases h7 : j < 6
    · simp only [h7, if_true]; exact h _ (by omega)
    · simp only [h7, if_false]; decide
theorem hor_mod (c : Nat → Nat) (h : ∀ j, j < 8 → c j < 256) : hor c % 18446744073709551616 = hor c := Nat.mod_eq_of_lt (hor_lt c h)
theorem hor_fold (c : Nat → Nat) (B q : Nat) (q' : Nat) (hB : B ≤ 100) (h : ∀ j, j < 8 → c j ≤ B) (hq : hor c / q = hor fun j => if j < 8 - q' then c (j + q') else 0) (hq' : q' ≤ 8) :
    ∃ d, (hor c + hor c / q) % 18446744073709551616 = hor d ∧ (∀ j, j < 8 → d j ≤ 2 * B) ∧ ∀ j, j < 8 → d j = c j + (if j < 8 - q' then c (j + q') else 0) := by
  have b1 : ∀ j, j < 8 → c j + (if j < 8 - q' then c (j + q') else 0) ≤ 2 * B := fun j hj => by
    have := h j hj
    split
    · have := h (j + q') (by omega); omega
    · omega
  refine ⟨fun j => c j + (if j < 8 - q' then c (j + q') else 0), ?_, b1, fun j hj => rfl⟩
  rw [hq, hor_add]
  exact hor_mod _ fun j hj => by
    have := b1 j hj
    show c j + (if j < 8 - q' then c (j + q') else 0) < 256
    omega
theorem pop4 (c : Nat → Nat) (h : ∀ j, j < 8 → c j ≤ 8) (x4 x5 x6 : Nat)
    (h4 : x4 = (hor c + hor c / 256) % 18446744073709551616) (h5 : x5 = (x4 + x4 / 65536) % 18446744073709551616) (h6 : x6 = (x5 + x5 / 4294967296) % 18446744073709551616) :
    x6 < 9223372036854775808 ∧ x6 % 128 = c 0 + c 1 + c 2 + c 3 + c 4 + c 5 + c 6 + c 7 := by
  obtain ⟨d, e1, b1, f1⟩ := hor_fold c 8 256 1 (by decide) h (hor_div256 c fun j hj => by have := h j hj; omega) (by decide)
  rw [e1] at h4
  subst h4
  obtain ⟨e, e2, b2, f2⟩ := hor_fold d 16 65536 2 (by decide) b1 (hor_div16b d fun j hj => by have := b1 j hj; omega) (by decide)
  rw [e2] at h5
  subst h5
  obtain ⟨g, e3, b3, f3⟩ := hor_fold e 32 4294967296 4 (by decide) b2 (hor_div32 e fun j hj => by have := b2 j hj; omega) (by decide)
  rw [e3] at h6
  subst h6
  have m6 : hor g % 128 = g 0 % 128 := by simp only [hor]; omega
  have := b3 0 (by decide)
  have q1 := b3 1 (by decide); have q2 := b3 2 (by decide); have q3 := b3 3 (by decide)
  have q4 := b3 4 (by decide); have q5 := b3 5 (by decide); have q6 := b3 6 (by decide); have q7 := b3 7 (by decide)
  refine ⟨by simp only [hor]; omega, ?_⟩
  rw [m6, Nat.mod_eq_of_lt (by omega), f3 0 (by decide)]
  simp only [Nat.reduceLT, Nat.reduceAdd, Nat.reduceSub, if_true]
  rw [f2 0 (by decide), f2 4 (by decide)]
  simp only [Nat.reduceLT, Nat.reduceAdd, Nat.reduceSub, if_true]
  rw [f1 0 (by decide), f1 2 (by decide), f1 4 (by decide), f1 6 (by decide)]
  simp only [Nat.reduceLT, Nat.reduceAdd, Nat.reduceSub, if_true]
  omega

/-- A word's bytes. -/
theorem wd_hor (g : Nat → Bool) : wd g 64 = hor fun j => wd (fun i => g (8 * j + i)) 8 := by
  simp only [hor, wd]; simp only [Nat.reduceMul, Nat.reduceAdd, Nat.reducePow]; omega
theorem pop_word (g : Nat → Bool) : cntP g 64 = (fun c : Nat → Nat => c 0 + c 1 + c 2 + c 3 + c 4 + c 5 + c 6 + c 7) fun j => p3 (wd (fun i => g (8 * j + i)) 8) := by
  have e : ∀ j, p3 (wd (fun i => g (8 * j + i)) 8) = cntP (fun i => g (8 * j + i)) 8 := fun j => by
    rw [byte5 _ (wd_lt _ 8)]
    refine cntP_congr fun i hi => ?_
    rw [wd_bit]; simp [hi]
  simp only [e, cntP]; simp only [Nat.reduceMul, Nat.reduceAdd]; omega
end Go.Proofs.YtfedfdcbhggipaaDoor
