/- What is needed: plain facts. -/
import Derived.Test.YtdlnfdlgnbkppaaO
namespace Go.Proofs.Ytdlnfdlgnbkppaa
set_option linter.unusedVariables false
set_option linter.unusedSimpArgs false
open Go Go.Sp Go.RowKit

section
variable (A : Nat → Bool) (T : Nat → Int)
def lowB : Nat → Bool
  | 0 => false
  | k + 1 => lowB k || (A k && (decide (12 ≤ k) && decide (k < 44)))
def farB : Nat → Bool
  | 0 => false
  | k + 1 => farB k || (A k && decide (44 ≤ k))
def tabB : Nat → Nat → Bool
  | 0 => fun _ => false
  | k + 1 => fun i => tabB k i || (A k && (decide (44 ≤ k) && (decide (T ((k - 44) / 32) = 0) && decide (i = (k - 44) / 32))))
end
theorem lowB_iff (A : Nat → Bool) : ∀ k, lowB A k = true ↔ ∃ j, j < k ∧ A j = true ∧ 12 ≤ j ∧ j < 44
  | 0 => by simp [lowB]
  | k + 1 => by
    simp only [lowB, Bool.or_eq_true, lowB_iff A k, Bool.and_eq_true, decide_eq_true_eq]
    constructor
    · rintro (⟨j, h1, h2⟩ | ⟨h1, h2⟩)
      · exact ⟨j, by omega, h2⟩
      · exact ⟨k, by omega, h1, h2⟩
    · rintro ⟨j, h1, h2⟩
      by_cases h : j = k
      · subst h; exact Or.inr h2
      · exact Or.inl ⟨j, by omega, h2⟩
theorem farB_iff (A : Nat → Bool) : ∀ k, farB A k = true ↔ ∃ j, j < k ∧ A j = true ∧ 44 ≤ j
  | 0 => by simp [farB]
  | k + 1 => by
    simp only [farB, Bool.or_eq_true, farB_iff A k, Bool.and_eq_true, decide_eq_true_eq]
    constructor
    · rintro (⟨j, h1, h2⟩ | ⟨h1, h2⟩)
      · exact ⟨j, by omega, h2⟩
      · exact ⟨k, by omega, h1, h2⟩
    · rintro ⟨j, h1, h2⟩
      by_cases h : j = k
      · subst h; exact Or.inr h2
      · exact Or.inl ⟨j, by omega, h2⟩
theorem tabB_iff (A : Nat → Bool) (T : Nat → Int) (i : Nat) : ∀ k, tabB A T k i = true ↔ ∃ j, j < k ∧ A j = true ∧ 44 ≤ j ∧ T ((j - 44) / 32) = 0 ∧ i = (j - 44) / 32
  | 0 => by simp [tabB]
  | k + 1 => by
    simp only [tabB, Bool.or_eq_true, tabB_iff A T i k, Bool.and_eq_true, decide_eq_true_eq]
    constructor
    · rintro (⟨j, h1, h2⟩ | ⟨h1, h2⟩)
      · exact ⟨j, by omega, h2⟩
      · exact ⟨k, by omega, h1, h2⟩
    · rintro ⟨j, h1, h2⟩
      by_cases h : j = k
      · subst h; exact Or.inr h2
      · exact Or.inl ⟨j, by omega, h2⟩
/-- All pointers that are made for the holes A. -/
def finF (x16 x17 : Int) (T : Nat → Int) (A : Nat → Bool) : Nat → Bool := fun i =>
  if i < 1068 then A i else if i = 1068 then lowB A 1068 && decide (x16 = 0) else if i = 1069 then farB A 1068 && decide (x17 = 0) else tabB A T 1068 (i - 1070)
theorem finF_iff (x16 x17 : Int) (T : Nat → Int) (A : Nat → Bool) {i : Nat} (hi : i < 1102) : finF x16 x17 T A i = true ↔
    (i < 1068 ∧ A i = true) ∨ (i = 1068 ∧ x16 = 0 ∧ ∃ j, j < 1068 ∧ A j = true ∧ 12 ≤ j ∧ j < 44) ∨ (i = 1069 ∧ x17 = 0 ∧ ∃ j, j < 1068 ∧ A j = true ∧ 44 ≤ j) ∨
    (1070 ≤ i ∧ ∃ j, j < 1068 ∧ A j = true ∧ 44 ≤ j ∧ T ((j - 44) / 32) = 0 ∧ i = 1070 + (j - 44) / 32) := by
  unfold finF
  by_cases h1 : i < 1068
  · rw [if_pos h1]
    constructor
    · intro h; exact Or.inl ⟨h1, h⟩
    · rintro (h | h | h | h)
      · exact h.2
      · omega
      · omega
      · omega
  · rw [if_neg h1]
    by_cases h2 : i = 1068
    · rw [if_pos h2, Bool.and_eq_true, lowB_iff, decide_eq_true_eq]
      constructor
      · rintro ⟨a, b⟩; exact Or.inr (Or.inl ⟨h2, b, a⟩)
      · rintro (h | h | h | h)
        · omega
        · exact ⟨h.2.2, h.2.1⟩
        · omega
        · omega
    · rw [if_neg h2]
      by_cases h3 : i = 1069
      · rw [if_pos h3, Bool.and_eq_true, farB_iff, decide_eq_true_eq]
        constructor
        · rintro ⟨a, b⟩; exact Or.inr (Or.inr (Or.inl ⟨h3, b, a⟩))
        · rintro (h | h | h | h)
          · omega
          · omega
          · exact ⟨h.2.2, h.2.1⟩
          · omega
      · rw [if_neg h3, tabB_iff]
        constructor
        · rintro ⟨j, a, b, c, d, e⟩; exact Or.inr (Or.inr (Or.inr ⟨by omega, j, a, b, c, d, by omega⟩))
        · rintro (h | h | h | ⟨_, j, a, b, c, d, e⟩)
          · omega
          · omega
          · omega
          · exact ⟨j, a, b, c, d, by omega⟩
theorem cntP_split (f : Nat → Bool) : cntP f 1102 = cntP f 1068 + (f 1068).toNat + (f 1069).toNat + cntP (fun i => f (1070 + i)) 32 := by
  rw [show 1102 = 1070 + 32 from rfl, cntP_add f 1070 32, show 1070 = 1068 + 1 + 1 from rfl, cntP, cntP]
theorem fin_cnt (x16 x17 : Int) (T : Nat → Int) (A : Nat → Bool) : cntP (finF x16 x17 T A) 1102 = cntP A 1068 + (lowB A 1068 && decide (x16 = 0)).toNat + (farB A 1068 && decide (x17 = 0)).toNat + cntP (tabB A T 1068) 32 := by
  rw [cntP_split]
  have e1 : cntP (finF x16 x17 T A) 1068 = cntP A 1068 := cntP_congr fun i hi => if_pos hi
  have e2 : finF x16 x17 T A 1068 = (lowB A 1068 && decide (x16 = 0)) := rfl
  have e3 : finF x16 x17 T A 1069 = (farB A 1068 && decide (x17 = 0)) := rfl
  have e4 : cntP (fun i => finF x16 x17 T A (1070 + i)) 32 = cntP (tabB A T 1068) 32 := cntP_congr fun i hi => by
    unfold finF; rw [if_neg (by omega), if_neg (by omega), if_neg (by omega), show 1070 + i - 1070 = i by omega]
  rw [e1, e2, e3, e4]
/-- One hole more. -/
def addN (x16 x17 : Int) (T : Nat → Int) (f : Nat → Bool) (i : Nat) : Nat → Bool :=
  if i < 12 then updP f i true
  else if i < 44 then (if x16 = 0 then updP (updP f i true) 1068 true else updP f i true)
  else (if T ((i - 44) / 32) = 0 then updP (if x17 = 0 then updP (updP f i true) 1069 true else updP f i true) (1070 + (i - 44) / 32) true else (if x17 = 0 then updP (updP f i true) 1069 true else updP f i true))
theorem updP_true_iff {f : Nat → Bool} {i j : Nat} : updP f i true j = true ↔ j = i ∨ f j = true := by
  simp only [updP]
  by_cases h : j = i
  · simp [h]
  · simp [h]
theorem fin_add (x16 x17 : Int) (T : Nat → Int) (A : Nat → Bool) {i : Nat} (hi : i < 1068) (j : Nat) (hj : j < 1102) : finF x16 x17 T (updP A i true) j = addN x16 x17 T (finF x16 x17 T A) i j := by
  rw [Bool.eq_iff_iff, finF_iff _ _ _ _ hj]
  unfold addN
  by_cases h1 : i < 12
  · rw [if_pos h1]
    simp only [updP_true_iff]
    rw [finF_iff _ _ _ _ hj]
    constructor
    · rintro (⟨a, rfl | b⟩ | ⟨a, b, k, c, rfl | d, e, f⟩ | ⟨a, b, k, c, rfl | d, e⟩ | ⟨a, k, c, rfl | d, e, f, g⟩)
      · exact Or.inl rfl
      · exact Or.inr (Or.inl ⟨a, b⟩)
      · omega
      · exact Or.inr (Or.inr (Or.inl ⟨a, b, k, c, d, e, f⟩))
      · omega
      · exact Or.inr (Or.inr (Or.inr (Or.inl ⟨a, b, k, c, d, e⟩)))
      · omega
      · exact Or.inr (Or.inr (Or.inr (Or.inr ⟨a, k, c, d, e, f, g⟩)))
    · rintro (rfl | ⟨a, b⟩ | ⟨a, b, k, c, d, e, f⟩ | ⟨a, b, k, c, d, e⟩ | ⟨a, k, c, d, e, f, g⟩)
      · exact Or.inl ⟨hi, Or.inl rfl⟩
      · exact Or.inl ⟨a, Or.inr b⟩
      · exact Or.inr (Or.inl ⟨a, b, k, c, Or.inr d, e, f⟩)
      · exact Or.inr (Or.inr (Or.inl ⟨a, b, k, c, Or.inr d, e⟩))
      · exact Or.inr (Or.inr (Or.inr ⟨a, k, c, Or.inr d, e, f, g⟩))
  · rw [if_neg h1]
    by_cases h2 : i < 44
    · rw [if_pos h2]
      have key : ((j < 1068 ∧ updP A i true j = true) ∨ (j = 1068 ∧ x16 = 0 ∧ ∃ k, k < 1068 ∧ updP A i true k = true ∧ 12 ≤ k ∧ k < 44) ∨ (j = 1069 ∧ x17 = 0 ∧ ∃ k, k < 1068 ∧ updP A i true k = true ∧ 44 ≤ k) ∨
          (1070 ≤ j ∧ ∃ k, k < 1068 ∧ updP A i true k = true ∧ 44 ≤ k ∧ T ((k - 44) / 32) = 0 ∧ j = 1070 + (k - 44) / 32)) ↔ (j = i ∨ (j = 1068 ∧ x16 = 0) ∨ finF x16 x17 T A j = true) := by
        rw [finF_iff _ _ _ _ hj]
        simp only [updP_true_iff]
        constructor
        · rintro (⟨a, rfl | b⟩ | ⟨a, b, k, c, rfl | d, e, f⟩ | ⟨a, b, k, c, rfl | d, e⟩ | ⟨a, k, c, rfl | d, e, f, g⟩)
          · exact Or.inl rfl
          · exact Or.inr (Or.inr (Or.inl ⟨a, b⟩))
          · exact Or.inr (Or.inl ⟨a, b⟩)
          · exact Or.inr (Or.inl ⟨a, b⟩)
          · omega
          · exact Or.inr (Or.inr (Or.inr (Or.inr (Or.inl ⟨a, b, k, c, d, e⟩))))
          · omega
          · exact Or.inr (Or.inr (Or.inr (Or.inr (Or.inr ⟨a, k, c, d, e, f, g⟩))))
        · rintro (rfl | ⟨a, b⟩ | ⟨a, b⟩ | ⟨a, b, k, c, d, e, f⟩ | ⟨a, b, k, c, d, e⟩ | ⟨a, k, c, d, e, f, g⟩)
          · exact Or.inl ⟨hi, Or.inl rfl⟩
          · exact Or.inr (Or.inl ⟨a, b, i, hi, Or.inl rfl, by omega, h2⟩)
          · exact Or.inl ⟨a, Or.inr b⟩
          · exact Or.inr (Or.inl ⟨a, b, k, c, Or.inr d, e, f⟩)
          · exact Or.inr (Or.inr (Or.inl ⟨a, b, k, c, Or.inr d, e⟩))
          · exact Or.inr (Or.inr (Or.inr ⟨a, k, c, Or.inr d, e, f, g⟩))
      rw [key]
      by_cases h3 : x16 = 0
      · rw [if_pos h3, updP_true_iff, updP_true_iff]
        constructor
        · rintro (a | ⟨a, _⟩ | a)
          · exact Or.inr (Or.inl a)
          · exact Or.inl a
          · exact Or.inr (Or.inr a)
        · rintro (a | a | a)
          · exact Or.inr (Or.inl ⟨a, h3⟩)
          · exact Or.inl a
          · exact Or.inr (Or.inr a)
      · rw [if_neg h3, updP_true_iff]
        constructor
        · rintro (a | ⟨_, a⟩ | a)
          · exact Or.inl a
          · exact absurd a h3
          · exact Or.inr a
        · rintro (a | a)
          · exact Or.inl a
          · exact Or.inr (Or.inr a)
    · rw [if_neg h2]
      have key : ((j < 1068 ∧ updP A i true j = true) ∨ (j = 1068 ∧ x16 = 0 ∧ ∃ k, k < 1068 ∧ updP A i true k = true ∧ 12 ≤ k ∧ k < 44) ∨ (j = 1069 ∧ x17 = 0 ∧ ∃ k, k < 1068 ∧ updP A i true k = true ∧ 44 ≤ k) ∨
          (1070 ≤ j ∧ ∃ k, k < 1068 ∧ updP A i true k = true ∧ 44 ≤ k ∧ T ((k - 44) / 32) = 0 ∧ j = 1070 + (k - 44) / 32)) ↔ (j = i ∨ (j = 1069 ∧ x17 = 0) ∨ (j = 1070 + (i - 44) / 32 ∧ T ((i - 44) / 32) = 0) ∨ finF x16 x17 T A j = true) := by
        rw [finF_iff _ _ _ _ hj]
        simp only [updP_true_iff]
        constructor
        · rintro (⟨a, rfl | b⟩ | ⟨a, b, k, c, rfl | d, e, f⟩ | ⟨a, b, k, c, rfl | d, e⟩ | ⟨a, k, c, rfl | d, e, f, g⟩)
          · exact Or.inl rfl
          · exact Or.inr (Or.inr (Or.inr (Or.inl ⟨a, b⟩)))
          · omega
          · exact Or.inr (Or.inr (Or.inr (Or.inr (Or.inl ⟨a, b, k, c, d, e, f⟩))))
          · exact Or.inr (Or.inl ⟨a, b⟩)
          · exact Or.inr (Or.inl ⟨a, b⟩)
          · exact Or.inr (Or.inr (Or.inl ⟨g, f⟩))
          · exact Or.inr (Or.inr (Or.inr (Or.inr (Or.inr (Or.inr ⟨a, k, c, d, e, f, g⟩)))))
        · rintro (rfl | ⟨a, b⟩ | ⟨a, b⟩ | ⟨a, b⟩ | ⟨a, b, k, c, d, e, f⟩ | ⟨a, b, k, c, d, e⟩ | ⟨a, k, c, d, e, f, g⟩)
          · exact Or.inl ⟨hi, Or.inl rfl⟩
          · exact Or.inr (Or.inr (Or.inl ⟨a, b, i, hi, Or.inl rfl, by omega⟩))
          · exact Or.inr (Or.inr (Or.inr ⟨by omega, i, hi, Or.inl rfl, by omega, b, a⟩))
          · exact Or.inl ⟨a, Or.inr b⟩
          · exact Or.inr (Or.inl ⟨a, b, k, c, Or.inr d, e, f⟩)
          · exact Or.inr (Or.inr (Or.inl ⟨a, b, k, c, Or.inr d, e⟩))
          · exact Or.inr (Or.inr (Or.inr ⟨a, k, c, Or.inr d, e, f, g⟩))
      rw [key]
      by_cases h3 : x17 = 0 <;> by_cases h4 : T ((i - 44) / 32) = 0 <;> simp only [h3, h4, if_true, if_false, updP_true_iff, and_true, and_false, false_or]
      · constructor
        · rintro (a | a | a | a)
          · exact Or.inr (Or.inr (Or.inl a))
          · exact Or.inr (Or.inl a)
          · exact Or.inl a
          · exact Or.inr (Or.inr (Or.inr a))
        · rintro (a | a | a | a)
          · exact Or.inr (Or.inr (Or.inl a))
          · exact Or.inr (Or.inl a)
          · exact Or.inl a
          · exact Or.inr (Or.inr (Or.inr a))
      · constructor
        · rintro (a | a | a)
          · exact Or.inr (Or.inl a)
          · exact Or.inl a
          · exact Or.inr (Or.inr a)
        · rintro (a | a | a)
          · exact Or.inr (Or.inl a)
          · exact Or.inl a
          · exact Or.inr (Or.inr a)
      · constructor
        · rintro (a | a | a)
          · exact Or.inr (Or.inl a)
          · exact Or.inl a
          · exact Or.inr (Or.inr a)
        · rintro (a | a | a)
          · exact Or.inr (Or.inl a)
          · exact Or.inl a
          · exact Or.inr (Or.inr a)

/-! ### Of a list of places -/
/-- The first error among the first k. -/
def ndE (FE : Nat → Int) (g : Nat → Nat) : Nat → Int
  | 0 => 0
  | k + 1 => if ndE FE g k ≠ 0 then ndE FE g k else FE (g k)
/-- The holes among the first k. -/
def holF (FF : Nat → Int) (g : Nat → Nat) : Nat → Nat → Bool
  | 0 => fun _ => false
  | k + 1 => updP (holF FF g k) (g k) (decide (FF (g k) = 0))
theorem holF_iff (FF : Nat → Int) (g : Nat → Nat) (j : Nat) : ∀ k, holF FF g k j = true ↔ FF j = 0 ∧ ∃ i, i < k ∧ g i = j
  | 0 => by simp [holF]
  | k + 1 => by
    simp only [holF, updP]
    by_cases h : j = g k
    · rw [if_pos h, decide_eq_true_eq, ← h]
      exact ⟨fun e => ⟨e, k, by omega, h.symm⟩, fun e => e.1⟩
    · rw [if_neg h, holF_iff FF g j k]
      exact ⟨fun ⟨a, i, b, c⟩ => ⟨a, i, by omega, c⟩, fun ⟨a, i, b, c⟩ => ⟨a, i, by
        rcases Nat.lt_or_ge i k with h2 | h2
        · exact h2
        · exact absurd (by rw [← c, show i = k by omega]) h, c⟩⟩
theorem holF_no {FF : Nat → Int} {g : Nat → Nat} {k : Nat} (h : FF (g k) ≠ 0) : holF FF g (k + 1) = holF FF g k := by
  have e : decide (FF (g k) = 0) = false := by simpa using h
  simp only [holF]
  rw [e]
  refine updP_same ?_
  cases hf : holF FF g k (g k)
  · rfl
  · exact absurd ((holF_iff FF g (g k) k).1 hf).1 h
theorem holF_yes {FF : Nat → Int} {g : Nat → Nat} {k : Nat} (h : FF (g k) = 0) : holF FF g (k + 1) = updP (holF FF g k) (g k) true := by
  simp only [holF]; rw [decide_eq_true h]
theorem ndE_stays (FE : Nat → Int) (g : Nat → Nat) (k : Nat) : ∀ m, ndE FE g k ≠ 0 → ndE FE g (k + m) = ndE FE g k
  | 0, _ => rfl
  | m + 1, h => by
    have ih := ndE_stays FE g k m h
    rw [show k + (m + 1) = (k + m) + 1 by omega]
    simp only [ndE]
    rw [ih, if_pos h]
end Go.Proofs.Ytdlnfdlgnbkppaa
