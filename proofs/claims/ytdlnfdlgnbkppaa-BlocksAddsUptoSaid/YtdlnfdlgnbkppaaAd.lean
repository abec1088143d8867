/- Need of some and of others: plain. -/
import Derived.Test.YtdlnfdlgnbkppaaP5
import Derived.Test.YtdlnfdlgnbkppaaWSpots
namespace Go.Proofs.Ytdlnfdlgnbkppaa
set_option linter.unusedVariables false
set_option linter.unusedSimpArgs false
open Go Go.Sp Go.RowKit

/-- Each index is one, and is found. -/
def Fine (s : Src) (X : Nat → Int) (G : Nat → Int) (N : Nat) : Prop := ∀ k, k < N → (0 ≤ G k ∧ G k < 1068) ∧ fnE s X (G k).toNat = 0
def gN (G : Nat → Int) : Nat → Nat := fun k => (G k).toNat
def needC (s : Src) (X : Nat → Int) (G : Nat → Int) (N : Nat) : Nat := cntP (finF (X 16) (X 17) (tbF s (X 17)) (holF (fnF s X) (gN G) N)) 1102
theorem need_spec (s : Src) (X : Nat → Int) (G : Nat → Int) (N : Nat) : ∃ R E : Int,
    (∀ mb w ao c db doff, Rdr s mb w → Ints w (.slice ao N c) ao N c db doff G → Calls Try.prog 24 #[.iface 37 (.pointer (some ⟨mb, 0, none⟩)), .agg (rowOf 18 (gI X)), .slice ao N c] w fun e w' => e = .returned (.tuple #[.int .i64 R, .int .i64 E]) ∧ Tr w [] w' []) ∧
    (E = 0 ↔ Fine s X G N) ∧ (Fine s X G N → R = ((needC s X G N : Nat) : Int)) := by
  rcases least_bad G N with h | ⟨j, h1, h2, h3⟩
  · have hg : ∀ k, k < N → G k = (gN G k : Nat) ∧ gN G k < 1068 := fun k hk => by
      have := h k hk
      show G k = ((G k).toNat : Int) ∧ (G k).toNat < 1068
      omega
    have hE : ndE (fnE s X) (gN G) N = 0 ↔ Fine s X G N := ndE_zero.trans ⟨fun h4 k hk => ⟨h k hk, h4 k hk⟩, fun h4 k hk => (h4 k hk).2⟩
    refine ⟨_, _, fun mb w ao c db doff hr I => need_ok s X mb w hr I _ hg, hE, fun hf => ?_⟩
    unfold needN needC
    rw [if_pos (hE.2 hf)]
  · refine ⟨0, 90, fun mb w ao c db doff hr I => need_bad X mb w I j h1 h2 h3, ⟨fun h => by omega, fun h => ?_⟩, fun h => ?_⟩
    · have := (h j h1).1; omega
    · have := (h j h1).1; omega
theorem fin_mono {x16 x17 : Int} {T : Nat → Int} {A B : Nat → Bool} (h : ∀ j, A j = true → B j = true) {j : Nat} (hj : j < 1102) (h1 : finF x16 x17 T A j = true) : finF x16 x17 T B j = true := by
  rw [finF_iff _ _ _ _ hj] at h1 ⊢
  rcases h1 with ⟨a, b⟩ | ⟨a, b, k, c, d, e⟩ | ⟨a, b, k, c, d, e⟩ | ⟨a, k, c, d, e⟩
  · exact Or.inl ⟨a, h _ b⟩
  · exact Or.inr (Or.inl ⟨a, b, k, c, h _ d, e⟩)
  · exact Or.inr (Or.inr (Or.inl ⟨a, b, k, c, h _ d, e⟩))
  · exact Or.inr (Or.inr (Or.inr ⟨a, k, c, h _ d, e⟩))
theorem fin_or {x16 x17 : Int} {T : Nat → Int} {A B C : Nat → Bool} (h : ∀ j, A j = true → B j = true ∨ C j = true) {j : Nat} (hj : j < 1102) (h1 : finF x16 x17 T A j = true) : finF x16 x17 T B j = true ∨ finF x16 x17 T C j = true := by
  rw [finF_iff _ _ _ _ hj] at h1
  rw [finF_iff _ _ _ _ hj, finF_iff _ _ _ _ hj]
  rcases h1 with ⟨a, b⟩ | ⟨a, b, k, c, d, e⟩ | ⟨a, b, k, c, d, e⟩ | ⟨a, k, c, d, e⟩
  · rcases h _ b with b | b
    · exact Or.inl (Or.inl ⟨a, b⟩)
    · exact Or.inr (Or.inl ⟨a, b⟩)
  · rcases h _ d with d | d
    · exact Or.inl (Or.inr (Or.inl ⟨a, b, k, c, d, e⟩))
    · exact Or.inr (Or.inr (Or.inl ⟨a, b, k, c, d, e⟩))
  · rcases h _ d with d | d
    · exact Or.inl (Or.inr (Or.inr (Or.inl ⟨a, b, k, c, d, e⟩)))
    · exact Or.inr (Or.inr (Or.inr (Or.inl ⟨a, b, k, c, d, e⟩)))
  · rcases h _ d with d | d
    · exact Or.inl (Or.inr (Or.inr (Or.inr ⟨a, k, c, d, e⟩)))
    · exact Or.inr (Or.inr (Or.inr (Or.inr ⟨a, k, c, d, e⟩)))
/-- One list names what the other does. -/
def Within (G : Nat → Int) (N : Nat) (H : Nat → Int) (M : Nat) : Prop := ∀ k, k < N → ∃ i, i < M ∧ H i = G k
theorem fine_within {s : Src} {X G H : Nat → Int} {N M : Nat} (h : Within G N H M) (hf : Fine s X H M) : Fine s X G N := fun k hk => by
  obtain ⟨i, hi, e⟩ := h k hk
  rw [← e]; exact hf i hi
theorem hol_within {s : Src} {X G H : Nat → Int} {N M : Nat} (h : Within G N H M) (j : Nat) (hj : holF (fnF s X) (gN G) N j = true) : holF (fnF s X) (gN H) M j = true := by
  rw [holF_iff] at hj ⊢
  obtain ⟨h1, k, hk, h2⟩ := hj
  obtain ⟨i, hi, e⟩ := h k hk
  exact ⟨h1, i, hi, by unfold gN at *; rw [e]; exact h2⟩
theorem need_mono {s : Src} {X G H : Nat → Int} {N M : Nat} (h : Within G N H M) : needC s X G N ≤ needC s X H M :=
  cntP_mono fun j hj => fin_mono (hol_within h) hj
def allG (A B : Nat → Int) (Na : Nat) : Nat → Int := fun k => if k < Na then A k else B (k - Na)
theorem all_l {A B : Nat → Int} {Na Nb : Nat} : Within A Na (allG A B Na) (Na + Nb) := fun k hk => ⟨k, by omega, if_pos hk⟩
theorem all_r {A B : Nat → Int} {Na Nb : Nat} : Within B Nb (allG A B Na) (Na + Nb) := fun k hk => ⟨Na + k, by omega, by unfold allG; rw [if_neg (by omega), show Na + k - Na = k by omega]⟩
theorem fine_all {s : Src} {X A B : Nat → Int} {Na Nb : Nat} : Fine s X (allG A B Na) (Na + Nb) ↔ Fine s X A Na ∧ Fine s X B Nb := by
  refine ⟨fun h => ⟨fine_within all_l h, fine_within all_r h⟩, fun h k hk => ?_⟩
  unfold allG
  by_cases h1 : k < Na
  · rw [if_pos h1]; exact h.1 k h1
  · rw [if_neg h1]; exact h.2 _ (by omega)
theorem need_or {s : Src} {X A B : Nat → Int} {Na Nb : Nat} : needC s X (allG A B Na) (Na + Nb) ≤ needC s X A Na + needC s X B Nb := by
  refine Nat.le_trans (cntP_mono (g := fun j => finF (X 16) (X 17) (tbF s (X 17)) (holF (fnF s X) (gN A) Na) j || finF (X 16) (X 17) (tbF s (X 17)) (holF (fnF s X) (gN B) Nb) j) fun j hj h => ?_) (cntP_or _ _ _)
  rw [Bool.or_eq_true]
  refine fin_or (fun i hi => ?_) hj h
  rw [holF_iff] at hi
  rw [holF_iff, holF_iff]
  obtain ⟨h1, k, hk, h2⟩ := hi
  unfold gN allG at h2
  by_cases h3 : k < Na
  · rw [if_pos h3] at h2; exact Or.inl ⟨h1, k, h3, h2⟩
  · rw [if_neg h3] at h2; exact Or.inr ⟨h1, k - Na, by omega, h2⟩
def backG (A : Nat → Int) (n : Nat) : Nat → Int := fun j => A (n - 1 - j / 2)
theorem back_in {A : Nat → Int} {n : Nat} : Within (backG A n) (2 * n) A n := fun k hk => ⟨n - 1 - k / 2, by omega, rfl⟩
theorem back_out {A : Nat → Int} {n : Nat} : Within A n (backG A n) (2 * n) := fun k hk => ⟨2 * (n - 1 - k), by omega, by unfold backG; rw [show n - 1 - 2 * (n - 1 - k) / 2 = k by omega]⟩
theorem need_back {s : Src} {X A : Nat → Int} {n : Nat} : needC s X (backG A n) (2 * n) = needC s X A n := Nat.le_antisymm (need_mono back_in) (need_mono back_out)
theorem fine_back {s : Src} {X A : Nat → Int} {n : Nat} (h : Fine s X A n) : Fine s X (backG A n) (2 * n) := fine_within back_in h
/-- The indexes of a list of spots. -/
def idxG (l : List (Int × Int)) : Nat → Int := fun k => (l[k]?.getD (0, 0)).1
theorem nzS_mem {f : Int} {A : Nat → Int} {p : Int × Int} : ∀ {n}, p ∈ nzS f A n → ∃ k, k < n ∧ p = (f + k, A k) ∧ A k ≠ 0
  | 0, h => by simp [nzS] at h
  | n + 1, h => by
    by_cases h0 : A n = 0
    · rw [nzS_no h0] at h
      obtain ⟨k, h1, h2⟩ := nzS_mem h
      exact ⟨k, by omega, h2⟩
    · rw [nzS_yes h0] at h
      rcases List.mem_append.1 h with h | h
      · obtain ⟨k, h1, h2⟩ := nzS_mem h
        exact ⟨k, by omega, h2⟩
      · exact ⟨n, by omega, by simpa using h, h0⟩
theorem there_at {s : Src} {X : Nat → Int} (hE : spE s X = 0) {k : Nat} (hk : k < (spL s X).length) : ∃ i : Nat, i < 1068 ∧ idxG (spL s X) k = i ∧ fnF s X i ≠ 0 := by
  have hm : (spL s X)[k] ∈ spL s X := List.getElem_mem hk
  have mem : ∀ p, p ∈ spL s X → p ∈ nzS 0 (fnF s X) 1068 := fun p h => by rw [← spL_eq hE]; exact h
  obtain ⟨i, h1, h2, h3⟩ := nzS_mem (mem _ hm)
  refine ⟨i, h1, ?_, h3⟩
  unfold idxG
  rw [List.getElem?_eq_getElem hk, Option.getD_some, h2, Int.zero_add]
theorem there_fine {s : Src} {X : Nat → Int} (hE : spE s X = 0) : Fine s X (idxG (spL s X)) (spL s X).length := fun k hk => by
  obtain ⟨i, h1, h2, _⟩ := there_at hE hk
  rw [h2]
  exact ⟨by omega, by rw [show ((i : Int)).toNat = i by omega]; exact spE_iff.1 hE i h1⟩
theorem there_none {s : Src} {X : Nat → Int} (hE : spE s X = 0) : needC s X (idxG (spL s X)) (spL s X).length = 0 := by
  have hA : ∀ j, holF (fnF s X) (gN (idxG (spL s X))) (spL s X).length j = (fun _ => false) j := fun j => by
    cases h : holF (fnF s X) (gN (idxG (spL s X))) (spL s X).length j
    · rfl
    · rw [holF_iff] at h
      obtain ⟨h0, k, hk, h1⟩ := h
      obtain ⟨i, h2, h3, h4⟩ := there_at hE hk
      unfold gN at h1
      rw [h3, show ((i : Int)).toNat = i by omega] at h1
      rw [h1] at h4
      exact absurd h0 h4
  unfold needC
  rw [funext hA]
  exact cntP_zero fun j hj => fin_none j hj
end Go.Proofs.Ytdlnfdlgnbkppaa
