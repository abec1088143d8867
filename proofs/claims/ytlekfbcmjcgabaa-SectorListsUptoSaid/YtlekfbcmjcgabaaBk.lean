/- What the bound on the bulk gives. -/
import Derived.Test.YtlekfbcmjcgabaaRows
import Derived.JoinedCond
namespace Go.Proofs.Ytlekfbcmjcgabaa
open Go
theorem bulk_one {H : Type} (d : DataW H) : 1 ≤ Rows.uptoBulk d := by
  cases d with
  | lit l => cases l <;> simp [Rows.uptoBulk]
  | nil => simp [Rows.uptoBulk]
  | ptr d => simp [Rows.uptoBulk]
  | slice elems spare => simp [Rows.uptoBulk]
  | agg parts => simp [Rows.uptoBulk]
  | iface t d => simp [Rows.uptoBulk]
  | map entries => simp [Rows.uptoBulk]
  | held h => simp [Rows.uptoBulk]
theorem bulk_len {H : Type} (l : List (DataW H)) : l.length ≤ Rows.uptoBulkAll l := by
  induction l with
  | nil => simp [Rows.uptoBulkAll]
  | cons x r ih => have := bulk_one x; simp only [Rows.uptoBulkAll, List.length_cons]; omega
theorem bulk_slice {H : Type} {d : DataW H} {n : Nat} (h : (d = .nil ∧ n = 0) ∨ ∃ elems sp, d = .slice elems sp ∧ elems.length = n) : n ≤ Rows.uptoBulk d := by
  rcases h with ⟨_, rfl⟩ | ⟨el, sp, rfl, rfl⟩
  · omega
  · have := bulk_len el
    simp only [Rows.uptoBulk]
    omega
/-- Two lists ahead of another argument. -/
theorem bulk_two {H : Type} {d0 d1 d2 : DataW H} {n m : Nat} (hk : Rows.uptoBulkAll ([d0, d1, d2] ++ []) ≤ 1048576)
    (h1 : (d0 = .nil ∧ n = 0) ∨ ∃ elems sp, d0 = .slice elems sp ∧ elems.length = n) (h2 : (d1 = .nil ∧ m = 0) ∨ ∃ elems sp, d1 = .slice elems sp ∧ elems.length = m) : n ≤ 1048576 ∧ m ≤ 1048576 := by
  have e1 := bulk_slice h1
  have e2 := bulk_slice h2
  simp only [List.append_nil, Rows.uptoBulkAll] at hk
  omega
end Go.Proofs.Ytlekfbcmjcgabaa
