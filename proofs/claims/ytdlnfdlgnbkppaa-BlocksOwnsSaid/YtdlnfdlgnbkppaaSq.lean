/- The lists by the indexes. -/
import Derived.Test.YtdlnfdlgnbkppaaR
import Derived.Test.YtdlnfdlgnbkppaaI
namespace Go.Proofs.Ytdlnfdlgnbkppaa
set_option linter.unusedVariables false
set_option linter.unusedSimpArgs false
open Go Go.Sp Go.RowKit

theorem nzS_add (f : Int) (A : Nat → Int) (m : Nat) : ∀ n, nzS f A (m + n) = nzS f A m ++ nzS (f + m) (fun i => A (m + i)) n
  | 0 => by simp [nzS]
  | n + 1 => by
    have ih := nzS_add f A m n
    rw [← Nat.add_assoc]
    by_cases h : A (m + n) = 0
    · rw [nzS_no h, nzS_no (A := fun i => A (m + i)) h, ih]
    · rw [nzS_yes h, nzS_yes (A := fun i => A (m + i)) h, ih, List.append_assoc, show f + ((m + n : Nat) : Int) = f + (m : Int) + (n : Int) by omega]
theorem nzS_congr (f : Int) {A B : Nat → Int} : ∀ {n}, (∀ i, i < n → A i = B i) → nzS f A n = nzS f B n
  | 0, _ => rfl
  | n + 1, h => by
    have ih := nzS_congr f (n := n) fun i hi => h i (by omega)
    simp only [nzS, ih, h n (by omega)]
theorem nz_congr {A B : Nat → Int} : ∀ {n}, (∀ i, i < n → A i = B i) → nz A n = nz B n
  | 0, _ => rfl
  | n + 1, h => by
    have ih := nz_congr (n := n) fun i hi => h i (by omega)
    simp only [nz, ih, h n (by omega)]
theorem erK_zero {TE : Int → Int} {T : Nat → Int} : ∀ {n}, erK TE T n = 0 → ∀ k, k < n → TE (T k) = 0
  | 0, _, k, hk => absurd hk (Nat.not_lt_zero k)
  | n + 1, h, k, hk => by
    simp only [erK] at h
    by_cases h0 : erK TE T n = 0
    · rw [if_neg (by simpa using h0)] at h
      rcases Nat.lt_or_ge k n with h1 | h1
      · exact erK_zero h0 k h1
      · obtain rfl : k = n := by omega
        exact h
    · rw [if_pos h0] at h; exact absurd h h0
theorem erK_all {TE : Int → Int} {T : Nat → Int} : ∀ {n}, (∀ k, k < n → TE (T k) = 0) → erK TE T n = 0
  | 0, _ => rfl
  | n + 1, h => by
    have ih := erK_all (n := n) fun k hk => h k (by omega)
    simp only [erK]
    rw [if_neg (by rw [ih]; simp), h n (by omega)]
theorem spE_parts {s : Src} {X : Nat → Int} : spE s X = 0 ↔ tbE s (X 16) = 0 ∧ tbE s (X 17) = 0 ∧ ∀ k, k < 32 → tbE s (tbF s (X 17) k) = 0 := by
  unfold spE
  by_cases h1 : tbE s (X 16) = 0
  · rw [if_neg (by simpa using h1)]
    by_cases h2 : tbE s (X 17) = 0
    · rw [if_neg (by simpa using h2)]
      exact ⟨fun h => ⟨h1, h2, fun k hk => erK_zero h k hk⟩, fun h => erK_all h.2.2⟩
    · rw [if_pos h2]
      exact ⟨fun h => absurd h h2, fun h => absurd h.2.1 h2⟩
  · rw [if_pos h1]
    exact ⟨fun h => absurd h h1, fun h => absurd h.1 h1⟩
theorem spE_iff {s : Src} {X : Nat → Int} : spE s X = 0 ↔ ∀ k, k < 1068 → fnE s X k = 0 := by
  rw [spE_parts]
  constructor
  · rintro ⟨h1, h2, h3⟩ k hk
    unfold fnE
    split
    · rfl
    · split
      · exact h1
      · rw [if_neg (by simpa using h2)]; exact h3 _ (by omega)
  · intro h
    have h1 := h 12 (by omega)
    unfold fnE at h1
    rw [if_neg (by omega), if_pos (by omega)] at h1
    have h2 := h 44 (by omega)
    have h2' := fnE_far h2 (by omega) (by omega)
    refine ⟨h1, h2', fun k hk => ?_⟩
    have h3 := h (44 + 32 * k) (by omega)
    unfold fnE at h3
    rw [if_neg (by omega), if_neg (by omega), if_neg (by simpa using h2'), show (44 + 32 * k - 44) / 32 = k by omega] at h3
    exact h3
theorem spK_eq (s : Src) (X : Nat → Int) (h2 : tbE s (X 17) = 0) {L : List (Int × Int)} (hL : L = nzS 0 (fnF s X) 44) : ∀ k, k ≤ 32 → spK (tbF s) (tbF s (X 17)) L k = nzS 0 (fnF s X) (44 + 32 * k)
  | 0, _ => hL
  | k + 1, hk => by
    rw [spK, spK_eq s X h2 hL k (by omega), show 44 + 32 * (k + 1) = 44 + 32 * k + 32 by omega, nzS_add 0 _ (44 + 32 * k) 32]
    congr 1
    rw [show (0 : Int) + ((44 + 32 * k : Nat) : Int) = 44 + 32 * (k : Int) by omega]
    refine nzS_congr _ fun i hi => ?_
    unfold fnF
    rw [if_neg (by omega), if_neg (by omega), if_neg (by simpa using h2), show (44 + 32 * k + i - 44) / 32 = k by omega, show (44 + 32 * k + i - 44) % 32 = i by omega]
theorem spL_eq {s : Src} {X : Nat → Int} (h : spE s X = 0) : spL s X = nzS 0 (fnF s X) 1068 := by
  obtain ⟨h1, h2, h3⟩ := spE_parts.1 h
  unfold spL spA
  rw [if_pos h]
  refine spK_eq s X h2 ?_ 32 (by omega)
  have a : nzS 0 (fun i => X (4 + i)) 12 = nzS 0 (fnF s X) 12 := nzS_congr _ fun i hi => by
    unfold fnF
    rw [if_pos hi]
  have b : nzS 12 (tbF s (X 16)) 32 = nzS (0 + ((12 : Nat) : Int)) (fun i => fnF s X (12 + i)) 32 := nzS_congr _ fun i hi => by
    unfold fnF
    rw [if_neg (by omega), if_pos (by omega), show 12 + i - 12 = i by omega]
  rw [spD, a, b, ← nzS_add]
theorem ndE_congr {FE FE' : Nat → Int} {g : Nat → Nat} : ∀ {n}, (∀ i, i < n → FE (g i) = FE' (g i)) → ndE FE g n = ndE FE' g n
  | 0, _ => rfl
  | n + 1, h => by
    have ih := ndE_congr (n := n) fun i hi => h i (by omega)
    simp only [ndE, ih, h n (by omega)]
theorem holF_congr {FF FF' : Nat → Int} {g : Nat → Nat} : ∀ {n}, (∀ i, i < n → FF (g i) = FF' (g i)) → holF FF g n = holF FF' g n
  | 0, _ => rfl
  | n + 1, h => by
    have ih := holF_congr (n := n) fun i hi => h i (by omega)
    simp only [holF, ih, h n (by omega)]
theorem ndE_zero {FE : Nat → Int} {g : Nat → Nat} : ∀ {n}, ndE FE g n = 0 ↔ ∀ i, i < n → FE (g i) = 0
  | 0 => by simp [ndE]
  | n + 1 => by
    have ih := ndE_zero (FE := FE) (g := g) (n := n)
    simp only [ndE]
    by_cases h0 : ndE FE g n = 0
    · rw [if_neg (by simpa using h0)]
      exact ⟨fun h i hi => by
        rcases Nat.lt_or_ge i n with h1 | h1
        · exact ih.1 h0 i h1
        · obtain rfl : i = n := by omega
          exact h, fun h => h n (by omega)⟩
    · rw [if_pos h0]
      exact ⟨fun h => absurd h h0, fun h => absurd (ih.2 fun i hi => h i (by omega)) h0⟩
theorem fin_congr {x16 x17 : Int} {T T' : Nat → Int} {A : Nat → Bool} (h : ∀ i, i < 32 → T i = T' i) {j : Nat} (hj : j < 1102) : finF x16 x17 T A j = finF x16 x17 T' A j := by
  rw [Bool.eq_iff_iff, finF_iff _ _ _ _ hj, finF_iff _ _ _ _ hj]
  refine or_congr Iff.rfl (or_congr Iff.rfl (or_congr Iff.rfl (and_congr Iff.rfl ⟨?_, ?_⟩)))
  · rintro ⟨k, h1, h2, h3, h4, h5⟩; exact ⟨k, h1, h2, h3, by rw [← h _ (by omega)]; exact h4, h5⟩
  · rintro ⟨k, h1, h2, h3, h4, h5⟩; exact ⟨k, h1, h2, h3, by rw [h _ (by omega)]; exact h4, h5⟩

/-! ### The example -/
theorem ex_E (b : Nat) : spE (exS b) exX = 0 := spE_iff.2 fun k hk => ex_fnE b k hk
theorem ex_list0 : nzS 0 exF 1068 = [(0, 20), (11, 21), (13, 22), (44, 23), (75, 24)] := by kernel_rfl
theorem ex_list (b : Nat) : spL (exS b) exX = [(0, 20), (11, 21), (13, 22), (44, 23), (75, 24)] := by
  rw [spL_eq (ex_E b), nzS_congr 0 (fun k hk => ex_fnF b k hk)]; exact ex_list0
theorem ex_tabs (b : Nat) : tabL (exS b) exX = [30, 40, 41, 42] := by
  rw [tabL_ok (exS_tbE b (n := 40) (by omega) (by omega))]
  rw [nz_congr (B := fun j => if j = 0 then 30 else if j = 1 then 40 else exP2 (j - 2)) fun i hi => ?_]
  · kernel_rfl
  · simp only [tabA]
    split
    · rfl
    · split
      · rfl
      · exact ex_40 b (by omega)
def exG (k : Nat) : Nat := if k = 0 then 76 else if k = 1 then 107 else 108
theorem exG_lt (k : Nat) : exG k < 1068 := by unfold exG; split; omega; split <;> omega
theorem ex_ndE (b : Nat) : ndE (fnE (exS b) exX) exG 3 = 0 := ndE_zero.2 fun i _ => ex_fnE b _ (exG_lt i)
theorem ex_need0 : cntP (finF 30 40 exP2 (holF exF exG 3)) 1102 = 5 := by kernel_rfl
theorem ex_need (b : Nat) : needN (exS b) exX exG 3 = 5 := by
  unfold needN
  rw [if_pos (ex_ndE b), holF_congr (FF' := exF) fun i _ => ex_fnF b _ (exG_lt i)]
  show cntP (finF 30 40 (tbF (exS b) 40) (holF exF exG 3)) 1102 = 5
  rw [cntP_congr (g := finF 30 40 exP2 (holF exF exG 3)) fun j hj => fin_congr (fun i hi => ex_40 b hi) hj]
  exact ex_need0
theorem ex_75 (b : Nat) : fnF (exS b) exX 75 = 24 := by rw [ex_fnF b 75 (by omega)]; kernel_rfl
end Go.Proofs.Ytdlnfdlgnbkppaa
