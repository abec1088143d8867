/- Whose the lists are. -/
import Derived.Test.YtdlnfdlgnbkppaaWOwns
namespace Go.Proofs.Ytdlnfdlgnbkppaa
set_option linter.unusedVariables false
set_option linter.unusedSimpArgs false
open Go Go.Sp Go.RowKit

theorem owns_walk (X0 X1 : Nat → Int) (s0 s1 : Src) (w : World) (h0 : s0.In w) (h1 : s1.In w) : Calls Try.prog 7 #[.agg (rowOf 21 (fileC X0 s0)), .agg (rowOf 21 (fileC X1 s1))] w fun e w' => e = .returned (.bool true) ∧ Below w.heap.size w w' := by
  have hfile : ∀ k, k < 4 → ∀ j, j < 21 → filesC (fileC X0 s0) (fileC X1 s1) (k * 21 + j) = fileC ((fun k => if k = 1 then X1 else X0) k) ((fun k => if k = 1 then s1 else s0) k) j := fun k hk j hj => by
    rw [files_at _ _ hk hj]
    by_cases h : k = 1
    · simp only [if_pos h]
    · simp only [if_neg h]
  have hIn : ∀ k, k < 4 → ((fun k => if k = 1 then s1 else s0) k : Src).In w := fun k _ => by
    by_cases h : k = 1
    · simp only [if_pos h]; exact h1
    · simp only [if_neg h]; exact h0
  exact owns_core (fun k => if k = 1 then X1 else X0) (fun k => if k = 1 then s1 else s0) _ (fun k => spL ((fun k => if k = 1 then s1 else s0) k) ((fun k => if k = 1 then X1 else X0) k)) (fun k => tabL ((fun k => if k = 1 then s1 else s0) k) ((fun k => if k = 1 then X1 else X0) k))
    (fun k => spE ((fun k => if k = 1 then s1 else s0) k) ((fun k => if k = 1 then X1 else X0) k)) (fun k => tbE ((fun k => if k = 1 then s1 else s0) k) ((fun k => if k = 1 then X1 else X0) k 17)) w rfl
    (fun k hk j hj => by rw [Nat.zero_add]; exact hfile k hk j hj) (fun k hk j hj => (hfile k hk j (by omega)).trans (if_pos hj))
    hIn (fun k _ => spL_len _ _) (fun k _ => tabL_len _ _)
    (fun k _ mb w' h => spots_any _ _ mb w' h) (fun k _ w' h => rspots_any _ _ w' h) (fun k _ mb w' h => tables_any _ _ mb w' h) (fun k _ w' h => rtables_any _ _ w' h)
end Go.Proofs.Ytdlnfdlgnbkppaa
