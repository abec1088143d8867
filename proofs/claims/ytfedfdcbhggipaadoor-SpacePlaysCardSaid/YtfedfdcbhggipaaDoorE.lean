/- Rows of bits: contracts for whatever place. -/
import Derived.Test.YtfedfdcbhggipaaDoorC
namespace Go.Proofs.YtfedfdcbhggipaaDoor
set_option linter.unusedVariables false
set_option linter.unusedSimpArgs false
open Go Go.Sp Go.RowKit Go.BigFrame

def errC (n : Nat) (i : Int) : Int := if 0 ≤ i ∧ i < n then 0 else 51
def updI (f : Nat → Bool) (n : Nat) (i : Int) (b : Bool) : Nat → Bool := if 0 ≤ i ∧ i < n then updP f i.toNat b else f
def hasI (f : Nat → Bool) (n : Nat) (i : Int) : Bool := if 0 ≤ i ∧ i < n then f i.toNat else false
theorem errC_in {n : Nat} {k : Nat} (h : k < n) : errC n (k : Int) = 0 := if_pos ⟨by omega, by omega⟩
theorem errC_out {n : Nat} {i : Int} (h : i < 0 ∨ n ≤ i) : errC n i = 51 := if_neg (by omega)
theorem updI_in {f : Nat → Bool} {n : Nat} {k : Nat} {b : Bool} (h : k < n) : updI f n (k : Int) b = updP f k b := if_pos ⟨by omega, by omega⟩
theorem updI_out {f : Nat → Bool} {n : Nat} {i : Int} {b : Bool} (h : i < 0 ∨ n ≤ i) : updI f n i b = f := if_neg (by omega)
theorem hasI_in {f : Nat → Bool} {n : Nat} {k : Nat} (h : k < n) : hasI f n (k : Int) = f k := if_pos ⟨by omega, by omega⟩
theorem hasI_out {f : Nat → Bool} {n : Nat} {i : Int} (h : i < 0 ∨ n ≤ i) : hasI f n i = false := if_neg (by omega)
theorem updI_far {f : Nat → Bool} {n : Nat} {i : Int} {b : Bool} (hz : ∀ j, n ≤ j → f j = false) : ∀ j, n ≤ j → updI f n i b j = false := by
  intro j hj
  by_cases h : 0 ≤ i ∧ i < n
  · rw [updI, if_pos h, updP_off (by omega)]; exact hz j hj
  · rw [updI, if_neg h]; exact hz j hj
theorem in_or_out (n : Nat) (i : Int) : (∃ k : Nat, i = (k : Int) ∧ k < n) ∨ (i < 0 ∨ n ≤ i) := by
  by_cases h : 0 ≤ i ∧ i < n
  · exact Or.inl ⟨i.toNat, by omega, by omega⟩
  · exact Or.inr (by omega)

section
variable {d s n : Nat} {f : Nat → Bool} {w : World}
theorem set_any (i : Int) (hn : n ≤ 4096) (h : (bitsR d s n f).holds w) :
    Calls Tryd.prog 34 #[.pointer (some ⟨d, 0, none⟩), .int .i64 i] w fun e w' => e = .returned (.int .i64 (errC n i)) ∧ Tr w (bitsR d s n f).foot w' [bitsR d s n (updI f n i true)] := by
  rcases in_or_out n i with ⟨k, rfl, hk⟩ | hi
  · rw [errC_in hk, updI_in hk]; exact set_yes k hk hn h
  · rw [errC_out hi, updI_out hi]
    exact (set_no i hi h).mono fun e w' ⟨he, ht⟩ => ⟨he, Tr.idle2 h ht⟩
theorem clear_any (i : Int) (hn : n ≤ 4096) (h : (bitsR d s n f).holds w) :
    Calls Tryd.prog 42 #[.pointer (some ⟨d, 0, none⟩), .int .i64 i] w fun e w' => e = .returned (.int .i64 (errC n i)) ∧ Tr w (bitsR d s n f).foot w' [bitsR d s n (updI f n i false)] := by
  rcases in_or_out n i with ⟨k, rfl, hk⟩ | hi
  · rw [errC_in hk, updI_in hk]; exact clear_yes k hk hn h
  · rw [errC_out hi, updI_out hi]
    exact (clear_no i hi h).mono fun e w' ⟨he, ht⟩ => ⟨he, Tr.idle2 h ht⟩
theorem has_any (i : Int) (hn : n ≤ 4096) (h : (bitsR d s n f).holds w) :
    Calls Tryd.prog 38 #[.pointer (some ⟨d, 0, none⟩), .int .i64 i] w fun e w' => e = .returned (.bool (hasI f n i)) ∧ Tr w [] w' [] := by
  rcases in_or_out n i with ⟨k, rfl, hk⟩ | hi
  · rw [hasI_in hk]; exact has_yes k hk hn h
  · rw [hasI_out hi]; exact has_no i hi h
/-- First's two answers. -/
noncomputable def firstN (f : Nat → Bool) (n : Nat) (frm : Int) : Int := ((if firstP f n frm.toNat < n then firstP f n frm.toNat else 0 : Nat) : Int)
noncomputable def firstB (f : Nat → Bool) (n : Nat) (frm : Int) : Bool := decide (firstP f n frm.toNat < n)
theorem firstV_eq (f : Nat → Bool) (n : Nat) (frm : Int) : firstV f n frm.toNat = .tuple #[.int .i64 (firstN f n frm), .bool (firstB f n frm)] := rfl
theorem first_all (frm : Int) (hf : frm ≤ 9223372036854775807) (hn : n ≤ 4096) (hz : ∀ i, n ≤ i → f i = false) (hR : Rd w 0 0 64 tabV) (h : (bitsR d s n f).holds w) :
    Calls Tryd.prog 41 #[.pointer (some ⟨d, 0, none⟩), .int .i64 frm] w fun e w' => e = .returned (.tuple #[.int .i64 (firstN f n frm), .bool (firstB f n frm)]) ∧ Tr w [] w' [] := by
  rw [← firstV_eq]
  exact first_any frm frm.toNat (by split <;> omega) hn (by omega) hz hR h

end
end Go.Proofs.YtfedfdcbhggipaaDoor
