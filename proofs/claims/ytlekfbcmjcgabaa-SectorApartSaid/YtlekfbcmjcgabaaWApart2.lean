/- SectorApart: the walk, whatever the arguments are. -/
import Derived.Test.YtlekfbcmjcgabaaRows
import Derived.Test.YtlekfbcmjcgabaaWl
import Derived.Test.YtlekfbcmjcgabaaWq
import Derived.Test.YtlekfbcmjcgabaaPlain
import Derived.BigQuiet
import Derived.WalkSpells
import Derived.WalkLawsBesides
import Derived.Test.YtlekfbcmjcgabaaWApart
namespace Go.Proofs.Ytlekfbcmjcgabaa
set_option linter.unusedVariables false
open Go Go.Sp Go.RowKit

theorem apart_walk (F G : Nat → UInt8) (at' wd v tv : Int) (n : Nat) (ao : Option Addr) (cap db doff : Nat) (w : World) (hnc : n ≤ cap) (hn : n ≤ 9223372036854775807) (hao : 0 < n → ao = some ⟨db, doff, none⟩) (hrd : Rd w db doff n (u8v G))
    (h1 : -9223372036854775808 ≤ at' ∧ at' ≤ 9223372036854775807) (h2 : -9223372036854775808 ≤ wd ∧ wd ≤ 9223372036854775807) (h3 : -9223372036854775808 ≤ v ∧ v ≤ 9223372036854775807) (h4 : -9223372036854775808 ≤ tv ∧ tv ≤ 9223372036854775807) :
    Calls Try.prog 9 #[bytesV 128 F, .agg #[.int .i64 at', .int .i64 wd, .int .i64 v, .int .i64 tv, .slice ao n cap]] w fun e w' => e = .returned (.bool true) ∧ Below w.heap.size w w' := by
  suffices hh : Calls Try.prog 9 #[bytesV 128 F, .agg #[.int .i64 at', .int .i64 wd, .int .i64 v, .int .i64 tv, .slice ao n cap]] w fun e w' => e = .returned (.bool true) ∧ Tr w [] w' [] from hh.mono fun e w' ⟨he, ht⟩ => ⟨he, ht.below⟩
  obtain ⟨hW1, hW8, hAW⟩ := spot_bd at' wd
  obtain ⟨hN, hN2⟩ := valN_bd v (spotW wd) hW8
  have hp := pick_bd tv (129 - (min n 128 : Nat)) (by omega)
  have hpT : (((pick tv (129 - (min n 128 : Nat))).toNat : Nat) : Int) = pick tv (129 - (min n 128 : Nat)) := Int.toNat_of_nonneg hp.1
  have sp := fun w => spot_any at' wd w h1.1 h1.2 h2.1 h2.2
  have va := fun w => value_any v (spotW wd) w hW1 hW8 h3.1 h3.2
  have hT0 : (pick tv (129 - (min n 128 : Nat))).toNat + min n 128 ≤ 128 := by omega
  have pi := fun w => pick_any tv (129 - (min n 128 : Nat)) w (by omega) (by omega) h4.1 h4.2
  rw [← hpT] at pi
  clear hp hpT
  generalize (pick tv (129 - (min n 128 : Nat))).toNat = T at *
  generalize spotA at' wd = A at *
  generalize valN v (spotW wd) = N at *
  generalize spotW wd = W at *
  have hm : ∀ {w : World}, Rd w db doff n (u8v G) → Rd w db doff (min n 128) (u8v G) := fun h j hj => h j (by omega)
  have hao2 : 0 < min n 128 → ao = some ⟨db, doff, none⟩ := fun h => hao (by omega)
  have same : bytesV 128 (spliceF (spliceF (setF F A W N) T (min n 128) G) T (min n 128) G) = bytesV 128 (spliceF (setF F A W N) T (min n 128) G) := bytesV_congr fun i _ => by
    simp only [spliceF]
    split <;> rfl
  refine apart_core F G (spliceF F T (min n 128) G) (setF F A W N) (setF (spliceF F T (min n 128) G) A W N) (spliceF (setF F A W N) T (min n 128) G) at' wd v tv A W N T n ao cap db doff w hnc hao hrd hn (Lib.hid sp) (Lib.hid va) (Lib.hid pi)
    (Lib.hid fun w => set_ok F A W N w hW1 hW8 hAW (by omega) hN)
    (Lib.hid fun cap' w hr => splice_yes (setF F A W N) G T (min n 128) ao cap' db doff w hT0 hao2 (hm hr))
    (Lib.hid fun cap' w hr => splice_yes F G T (min n 128) ao cap' db doff w hT0 hao2 (hm hr))
    (Lib.hid fun w => set_ok (spliceF F T (min n 128) G) A W N w hW1 hW8 hAW (by omega) hN)
    (Lib.hid fun cap' w hr => ?_) (Lib.hid fun w => ?_) (Lib.hid fun hd => ?_) (Lib.hid fun k hk => ?_) hT0 hAW
  · have := splice_yes (spliceF (setF F A W N) T (min n 128) G) G T (min n 128) ao cap' db doff w hT0 hao2 (hm hr)
    rwa [same] at this
  · have := get_ok (setF (spliceF F T (min n 128) G) A W N) A W w hW1 hW8 hAW (by rw [num_setF0 _ A N W hW8 hN]; omega)
    rwa [num_setF0 _ A N W hW8 hN] at this
  · refine eqB_iff.2 fun i _ => ?_
    simp only [spliceF, setF]
    by_cases p1 : T ≤ i ∧ i < T + min n 128
    · rw [if_pos p1, if_neg (by omega), if_pos p1]
    · rw [if_neg p1, if_neg p1]
  · simp only [spliceF]
    rw [if_pos (by omega), show T + k - T = k by omega]
end Go.Proofs.Ytlekfbcmjcgabaa
