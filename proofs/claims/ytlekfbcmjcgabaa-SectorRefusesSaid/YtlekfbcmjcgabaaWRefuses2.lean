/- SectorRefuses: the walk, whatever the arguments are. -/
import Derived.Test.YtlekfbcmjcgabaaRows
import Derived.Test.YtlekfbcmjcgabaaWl
import Derived.Test.YtlekfbcmjcgabaaPlain
import Derived.BigQuiet
import Derived.WalkSpells
import Derived.WalkLawsBesides
import Derived.Test.YtlekfbcmjcgabaaWRefuses
namespace Go.Proofs.Ytlekfbcmjcgabaa
set_option linter.unusedVariables false
open Go Go.Sp Go.RowKit

theorem refuses_walk (F G : Nat → UInt8) (A W : Int) (ao : Option Addr) (n cap db doff : Nat) (w : World) (hA : -9223372036854775808 ≤ A ∧ A ≤ 9223372036854775807) (hW : -9223372036854775808 ≤ W ∧ W ≤ 9223372036854775807)
    (hn : n ≤ 9223372036854775807) (hao : 0 < n → ao = some ⟨db, doff, none⟩) (hrd : Rd w db doff n (u8v G)) :
    Calls Try.prog 10 #[bytesV 128 F, .agg #[.int .i64 A, .int .i64 W], .slice ao n cap] w fun e w' => e = .returned (.bool true) ∧ Below w.heap.size w w' := by
  suffices hh : Calls Try.prog 10 #[bytesV 128 F, .agg #[.int .i64 A, .int .i64 W], .slice ao n cap] w fun e w' => e = .returned (.bool true) ∧ Tr w [] w' [] from hh.mono fun e w' ⟨he, ht⟩ => ⟨he, ht.below⟩
  by_cases hp : okP A W = true
  · have hpp := of_decide_eq_true hp
    obtain ⟨A', rfl⟩ : ∃ N : Nat, A = (N : Int) := ⟨A.toNat, by omega⟩
    obtain ⟨W', rfl⟩ : ∃ N : Nat, W = (N : Int) := ⟨W.toNat, by omega⟩
    have S0 : ∀ w, Calls Try.prog 24 #[bytesV 128 F, .int .i64 A', .int .i64 W', .int .i64 0] w fun e w' => e = .returned (.tuple #[bytesV 128 (setF F A' W' 0), .int .i64 0]) ∧ Tr w [] w' [] := fun w => set_ok F A' W' 0 w (by omega) (by omega) (by omega) (by omega) (Nat.pow_pos (by omega))
    have S1 : ∀ w, Calls Try.prog 24 #[bytesV 128 F, .int .i64 A', .int .i64 W', .int .i64 (-1)] w fun e w' => e = .returned (.tuple #[bytesV 128 (fun _ => 0), .int .i64 11]) ∧ Tr w [] w' [] := fun w => set_neg F A' W' (-1) w (by omega) (by omega) (by omega) (by omega)
    by_cases hb : num F A' W' ≤ 4611686018427387904
    · exact refuses_ok F G A' W' ao n cap db doff w hA hW hn hao hrd _ _ (Lib.hid hp) (Lib.hid fun w => get_ok F A' W' w (by omega) (by omega) (by omega) hb) (Lib.hid S0) (Lib.hid S1)
    · exact refuses_big F G A' W' ao n cap db doff w hA hW hn hao hrd _ (Lib.hid hp) (Lib.hid fun w => get_big F A' W' w (by omega) (by omega) (by omega) (by omega)) (Lib.hid S0) (Lib.hid S1)
  · replace hp : okP A W = false := by simpa using hp
    have hpp : ¬ (1 ≤ W ∧ W ≤ 8 ∧ 0 ≤ A ∧ A ≤ 128 - W) := of_decide_eq_false hp
    have hbad : W < 1 ∨ 8 < W ∨ within A W = false := by
      by_cases c1 : W < 1
      · exact Or.inl c1
      · by_cases c2 : 8 < W
        · exact Or.inr (Or.inl c2)
        · exact Or.inr (Or.inr (within_false.2 (by omega)))
    exact refuses_bad F G A W ao n cap db doff w hA hW hn hao hrd (Lib.hid hp) (Lib.hid fun w => get_bad F A W w hbad) (Lib.hid fun w => set_place F A W 0 w hbad) (Lib.hid fun w => set_place F A W (-1) w hbad)
end Go.Proofs.Ytlekfbcmjcgabaa
