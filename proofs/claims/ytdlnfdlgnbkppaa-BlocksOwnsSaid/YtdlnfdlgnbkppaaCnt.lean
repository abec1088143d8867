/- Counting. -/
import Derived.Test.YtdlnfdlgnbkppaaSep
namespace Go.Proofs.Ytdlnfdlgnbkppaa
set_option linter.unusedVariables false
def updP (f : Nat → Bool) (i : Nat) (b : Bool) : Nat → Bool := fun j => if j = i then b else f j
theorem updP_at (f : Nat → Bool) (i : Nat) (b : Bool) : updP f i b i = b := by simp [updP]
theorem updP_off {f : Nat → Bool} {i j : Nat} {b : Bool} (h : j ≠ i) : updP f i b j = f j := by simp [updP, h]
def cntP (f : Nat → Bool) : Nat → Nat
  | 0 => 0
  | n + 1 => cntP f n + (f n).toNat
theorem cntP_le (f : Nat → Bool) : ∀ n, cntP f n ≤ n
  | 0 => by simp [cntP]
  | n + 1 => by
    have := cntP_le f n
    have h : (f n).toNat ≤ 1 := Bool.toNat_le _
    rw [cntP]; omega
theorem cntP_congr {f g : Nat → Bool} : ∀ {n}, (∀ i, i < n → f i = g i) → cntP f n = cntP g n
  | 0, _ => rfl
  | n + 1, h => by rw [cntP, cntP, cntP_congr (n := n) fun i hi => h i (by omega), h n (by omega)]
theorem cntP_add (f : Nat → Bool) (m : Nat) : ∀ k, cntP f (m + k) = cntP f m + cntP (fun j => f (m + j)) k
  | 0 => rfl
  | k + 1 => by rw [← Nat.add_assoc, cntP, cntP, cntP_add f m k]; omega
theorem cntP_zero {f : Nat → Bool} : ∀ {n}, (∀ i, i < n → f i = false) → cntP f n = 0
  | 0, _ => rfl
  | n + 1, h => by rw [cntP, cntP_zero (n := n) fun i hi => h i (by omega), h n (by omega)]; rfl
theorem cntP_all {f : Nat → Bool} : ∀ {n}, cntP f n = n → ∀ i, i < n → f i = true
  | 0, _, i, hi => by omega
  | n + 1, h, i, hi => by
    have h1 := cntP_le f n
    rw [cntP] at h
    have h2 : (f n).toNat ≤ 1 := Bool.toNat_le _
    rcases Nat.lt_or_ge i n with h3 | h3
    · exact cntP_all (n := n) (by omega) i h3
    · obtain rfl : i = n := by omega
      cases hf : f i
      · rw [hf] at h; simp at h; omega
      · rfl
theorem cntP_full {f : Nat → Bool} {n : Nat} (h : ∀ i, i < n → f i = true) : cntP f n = n := by
  induction n with
  | zero => rfl
  | succ n ih => rw [cntP, ih fun i hi => h i (by omega), h n (by omega)]; rfl
theorem cntP_upd (f : Nat → Bool) (i : Nat) (b : Bool) : ∀ n, cntP (updP f i b) n + (if i < n then (f i).toNat else 0) = cntP f n + (if i < n then b.toNat else 0)
  | 0 => by simp [cntP]
  | n + 1 => by
    have ih := cntP_upd f i b n
    rw [cntP, cntP]
    by_cases h : n = i
    · subst h
      rw [updP_at]
      rw [if_neg (by omega), if_neg (by omega)] at ih
      rw [if_pos (by omega), if_pos (by omega)]
      omega
    · rw [updP_off h]
      by_cases h2 : i < n
      · rw [if_pos h2, if_pos h2] at ih
        rw [if_pos (by omega), if_pos (by omega)]
        omega
      · rw [if_neg h2, if_neg h2] at ih
        rw [if_neg (by omega), if_neg (by omega)]
        omega
theorem updP_same {f : Nat → Bool} {i : Nat} {b : Bool} (h : f i = b) : updP f i b = f := by
  funext j; simp only [updP]; split
  · rename_i e; rw [e, h]
  · rfl
theorem cntP_or (f g : Nat → Bool) : ∀ n, cntP (fun j => f j || g j) n ≤ cntP f n + cntP g n
  | 0 => by simp [cntP]
  | n + 1 => by
    have ih := cntP_or f g n
    simp only [cntP]
    cases f n <;> cases g n <;> simp <;> omega
theorem cntP_mono {f g : Nat → Bool} : ∀ {n}, (∀ i, i < n → f i = true → g i = true) → cntP f n ≤ cntP g n
  | 0, _ => by simp [cntP]
  | n + 1, h => by
    have ih := cntP_mono (n := n) fun i hi => h i (by omega)
    have h1 := h n (by omega)
    simp only [cntP]
    cases hf : f n
    · simp; omega
    · rw [h1 hf]; omega
theorem cntP_not (f : Nat → Bool) : ∀ n, cntP f n + cntP (fun j => !f j) n = n
  | 0 => rfl
  | n + 1 => by
    have ih := cntP_not f n
    simp only [cntP]
    cases f n <;> simp <;> omega
end Go.Proofs.Ytdlnfdlgnbkppaa
