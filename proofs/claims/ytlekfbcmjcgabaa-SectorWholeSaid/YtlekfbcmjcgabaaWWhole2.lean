/- SectorWhole: the walk, whatever the arguments are. -/
import Derived.Test.YtlekfbcmjcgabaaRows
import Derived.Test.YtlekfbcmjcgabaaWl
import Derived.Test.YtlekfbcmjcgabaaWq
import Derived.Test.YtlekfbcmjcgabaaPlain
import Derived.BigQuiet
import Derived.WalkSpells
import Derived.WalkLawsBesides
import Derived.Test.YtlekfbcmjcgabaaWWhole
namespace Go.Proofs.Ytlekfbcmjcgabaa
set_option linter.unusedVariables false
open Go Go.Sp Go.RowKit

theorem whole_walk (G : Nat → UInt8) (x : Int) (n cap : Nat) (ao : Option Addr) (db doff : Nat) (w : World) (hn : n ≤ 140737488351232) (hnc : n ≤ cap) (hc0 : cap ≤ 9223372036854775807) (hao : 0 < n → ao = some ⟨db, doff, none⟩) (hrd : Rd w db doff n (u8v G))
    (hx : -9223372036854775808 ≤ x ∧ x ≤ 9223372036854775807) :
    Calls Try.prog 7 #[.slice ao n cap, .int .i64 x] w fun e w' => e = .returned (.bool true) ∧ Below w.heap.size w w' := by
  suffices hh : Calls Try.prog 7 #[.slice ao n cap, .int .i64 x] w fun e w' => e = .returned (.bool true) ∧ Tr w [] w' [] from hh.mono fun e w' ⟨he, ht⟩ => ⟨he, ht.below⟩
  obtain ⟨m, hm⟩ : ∃ m, m = (n + 127) / 128 := ⟨_, rfl⟩
  have pk := pick_bd x ((m : Int) + 1) (by omega)
  have ps := pick_bd x (128 * (m : Int) + 1) (by omega)
  have hpk := fun w => pick_any x ((m : Int) + 1) w (by omega) (by omega) hx.1 hx.2
  have hps := fun w => pick_any x (128 * (m : Int) + 1) w (by omega) (by omega) hx.1 hx.2
  obtain ⟨k, hk⟩ : ∃ k : Nat, pick x ((m : Int) + 1) = (k : Int) := ⟨_, (Int.toNat_of_nonneg pk.1).symm⟩
  obtain ⟨s, hs⟩ : ∃ s : Nat, pick x (128 * (m : Int) + 1) = (s : Int) := ⟨_, (Int.toNat_of_nonneg ps.1).symm⟩
  rw [hk] at hpk pk
  rw [hs] at hps ps
  clear hk hs
  obtain ⟨a, ha⟩ : ∃ a, a = min (128 * k) n := ⟨_, rfl⟩
  have hC0 : ∀ i, n ≤ i → cutF G n i = 0 := fun i hi => by simp only [cutF]; rw [if_neg (by omega)]
  have hCG : ∀ i, i < n → cutF G n i = G i := fun i hi => by simp only [cutF]; rw [if_pos hi]
  refine whole_core G (cutF G n) x n m ((a + 127) / 128) ((n - a + 127) / 128) k s (min s (128 * k)) (s - min s (128 * k)) a cap ao db doff w hn hnc hc0 hao hrd hm (by omega) (by omega) (by omega) (by omega) rfl
    (Lib.hid hC0) (Lib.hid (eqS_iff.2 ⟨rfl, hCG⟩)) (Lib.hid hpk) (Lib.hid hps) (Lib.hid (by omega)) (by omega) (Lib.hid fun ao2 c2 w hc h2 hr => ?_) (Lib.hid fun ao2 c2 w hc h3 hr => ?_) (Lib.hid fun w hr => ?_)
  · have := cut_any G a c2 ao2 db doff w (by omega) hc (fun h => by simpa using h2 h) (fun j hj => hr j (by omega))
    rwa [show rowOf ((a + 127) / 128 * 128) (u8v (cutF G a)) = rowOf ((a + 127) / 128 * 128) (u8v (cutF G n)) from rowOf_congr fun i hi => u8v_inj.2 (by
      simp only [cutF]
      by_cases h1 : i < a
      · rw [if_pos h1, if_pos (by omega)]
      · rw [if_neg h1, if_neg (by omega)])] at this
  · have := cut_any (fun j => G (a + j)) (n - a) c2 ao2 db (doff + a * 1) w (by omega) hc (fun h => h3 (by omega)) (by rw [Nat.mul_one]; exact hr.sub a (n - a) (by omega))
    rwa [show rowOf ((n - a + 127) / 128 * 128) (u8v (cutF (fun j => G (a + j)) (n - a))) = rowOf ((n - a + 127) / 128 * 128) (u8v fun j => cutF G n ((a + 127) / 128 * 128 + j)) from rowOf_congr fun i hi => u8v_inj.2 (by
      have he : (a + 127) / 128 * 128 = a := by omega
      simp only [cutF, he]
      by_cases h1 : i < n - a
      · rw [if_pos h1, if_pos (by omega)]
      · rw [if_neg h1, if_neg (by omega)])] at this
  · subst hm
    exact cut_any G n cap ao db doff w hn hnc hao hr
end Go.Proofs.Ytlekfbcmjcgabaa
