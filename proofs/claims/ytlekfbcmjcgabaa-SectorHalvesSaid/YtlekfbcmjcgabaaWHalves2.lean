/- SectorHalves: the walk, whatever the numbers are. -/
import Derived.Test.YtlekfbcmjcgabaaRows
import Derived.Test.YtlekfbcmjcgabaaWl
import Derived.Test.YtlekfbcmjcgabaaPlain
import Derived.BigQuiet
import Derived.WalkSpells
import Derived.WalkLawsBesides
import Derived.Test.YtlekfbcmjcgabaaWHalves
namespace Go.Proofs.Ytlekfbcmjcgabaa
set_option linter.unusedVariables false
open Go Go.Sp Go.RowKit

theorem wrap_ok (X : Int) (h : 0 ≤ X) (h2 : X ≤ 4611686018427387904) : IntKind.i64.wrap X = X := by
  simp [IntKind.wrap, IntKind.bits, IntKind.signed]; omega

theorem pow_facts (k : Nat) (hk : 1 ≤ k) (h7 : k ≤ 7) : ∃ p q : Nat, q = 256 ^ k ∧ q * p = 4611686018427387904 ∧ IntKind.i64.wrap (1 * 2 ^ min (62 - 8 * k) 64) = (p : Int) ∧ (2 : Int) ^ min (8 * k) 64 = (q : Int) ∧ p ≤ 72057594037927936 := by
  have h : k = 1 ∨ k = 2 ∨ k = 3 ∨ k = 4 ∨ k = 5 ∨ k = 6 ∨ k = 7 := by omega
  rcases h with rfl | rfl | rfl | rfl | rfl | rfl | rfl
  · exact ⟨2 ^ 54, 256 ^ 1, rfl, by decide, by decide, by decide, by decide⟩
  · exact ⟨2 ^ 46, 256 ^ 2, rfl, by decide, by decide, by decide, by decide⟩
  · exact ⟨2 ^ 38, 256 ^ 3, rfl, by decide, by decide, by decide, by decide⟩
  · exact ⟨2 ^ 30, 256 ^ 4, rfl, by decide, by decide, by decide, by decide⟩
  · exact ⟨2 ^ 22, 256 ^ 5, rfl, by decide, by decide, by decide, by decide⟩
  · exact ⟨2 ^ 14, 256 ^ 6, rfl, by decide, by decide, by decide, by decide⟩
  · exact ⟨2 ^ 6, 256 ^ 7, rfl, by decide, by decide, by decide, by decide⟩

theorem halves_walk (F : Nat → UInt8) (a b c : Int) (w : World) (ha : -9223372036854775808 ≤ a ∧ a ≤ 9223372036854775807) (hb : -9223372036854775808 ≤ b ∧ b ≤ 9223372036854775807) (hc : -9223372036854775808 ≤ c ∧ c ≤ 9223372036854775807) :
    Calls Try.prog 6 #[bytesV 128 F, .agg #[.int .i64 a, .int .i64 b], .int .i64 c] w fun e w' => e = .returned (.bool true) ∧ Below w.heap.size w w' := by
  suffices hh : Calls Try.prog 6 #[bytesV 128 F, .agg #[.int .i64 a, .int .i64 b], .int .i64 c] w fun e w' => e = .returned (.bool true) ∧ Tr w [] w' [] from hh.mono fun e w' ⟨he, ht⟩ => ⟨he, ht.below⟩
  obtain ⟨h1, h8, h⟩ := spot_bd a b
  have hsp := Lib.hid (fun w => spot_any a b w ha.1 ha.2 hb.1 hb.2)
  generalize spotA a b = A at *
  generalize spotW b = W at *
  by_cases hW1 : W = 1
  · subst hW1
    exact halves_one F a b c A w h hsp
  · have hpb := pick_bd c ((W : Int) - 1) (by omega)
    have hpk : ∀ w, Calls Try.prog 26 #[.int .i64 c, .int .i64 ((W : Int) - 1)] w fun e w' => e = .returned (.int .i64 (pick c ((W : Int) - 1))) ∧ w = w' := fun w => pick_any c _ w (by omega) (by omega) hc.1 hc.2
    obtain ⟨k, hk⟩ : ∃ k : Nat, pick c ((W : Int) - 1) = (k : Int) - 1 := ⟨(1 + pick c ((W : Int) - 1)).toNat, by omega⟩
    rw [hk] at hpb hpk
    have hk1 : 1 ≤ k := by omega
    have hkW : k < W := by omega
    have hlo := num_lt56 F A k (by omega)
    have hhi := num_lt56 F (A + k) (W - k) (by omega)
    have hloq := num_lt F k A
    have hnum := num_add F (W - k) k A
    rw [show k + (W - k) = W from by omega] at hnum
    have H2 : ∀ w, Calls Try.prog 25 #[bytesV 128 F, .int .i64 A, .int .i64 k] w fun e w' => e = .returned (.tuple #[.int .i64 (num F A k : Nat), .int .i64 0]) ∧ Tr w [] w' [] := fun w => get_ok F A k w hk1 (by omega) (by omega) (by omega)
    have H3 : ∀ w, Calls Try.prog 25 #[bytesV 128 F, .int .i64 ((A : Int) + k), .int .i64 ((W : Int) - k)] w fun e w' => e = .returned (.tuple #[.int .i64 (num F (A + k) (W - k) : Nat), .int .i64 0]) ∧ Tr w [] w' [] := fun w => by
      have := get_ok F (A + k) (W - k) w (by omega) (by omega) (by omega) (by omega)
      rwa [show ((A + k : Nat) : Int) = (A : Int) + k from by omega, show ((W - k : Nat) : Int) = (W : Int) - k from by omega] at this
    have HG : ∀ w, num F A W ≤ 4611686018427387904 → Calls Try.prog 25 #[bytesV 128 F, .int .i64 A, .int .i64 W] w fun e w' => e = .returned (.tuple #[.int .i64 (num F A W : Nat), .int .i64 0]) ∧ Tr w [] w' [] := fun w hn => get_ok F A W w h1 h8 h hn
    have HB : ∀ w, 4611686018427387904 < num F A W → Calls Try.prog 25 #[bytesV 128 F, .int .i64 A, .int .i64 W] w fun e w' => e = .returned (.tuple #[.int .i64 0, .int .i64 11]) ∧ Tr w [] w' [] := fun w hn => get_big F A W w h1 h8 h hn
    have h88 : 4611686018427387904 < num F A W → ((W : Int) == 8) = true := fun hn => by
      have : ¬ W ≤ 7 := fun h7 => by have := num_lt56 F A W h7; omega
      simp; omega
    generalize num F A W = n at *
    generalize num F A k = lo at *
    generalize num F (A + k) (W - k) = hi at *
    obtain ⟨p, q, hq, hpq, hp, hq2, hp2⟩ := pow_facts k hk1 (by omega)
    rw [← hq] at hnum hloq
    have ok : n ≤ 4611686018427387904 → (∀ w, Calls Try.prog 25 #[bytesV 128 F, .int .i64 A, .int .i64 W] w fun e w' => e = .returned (.tuple #[.int .i64 ((lo : Int) + (q * hi : Nat)), .int .i64 0]) ∧ Tr w [] w' []) ∧ IntKind.i64.wrap ((hi : Int) * 2 ^ min (8 * k) 64) = ((q * hi : Nat) : Int) := fun hn => by
      refine ⟨fun w => ?_, ?_⟩
      · have := HG w hn
        rwa [hnum, Int.natCast_add] at this
      · rw [hq2, ← Int.natCast_mul, Nat.mul_comm hi q]
        exact wrap_ok _ (by omega) (by omega)
    rcases Nat.lt_trichotomy hi p with hlt | heq | hlt
    · have hm := Nat.mul_le_mul_left q (show hi + 1 ≤ p from hlt)
      rw [Nat.mul_add, hpq] at hm
      obtain ⟨o1, o2⟩ := ok (by omega)
      exact halves_lt F a b c A W k lo hi p (q * hi) w h h8 trivial hk1 hkW hsp (Lib.hid hpk) (Lib.hid o1) (Lib.hid H2) (Lib.hid H3) (Lib.hid hp) (Lib.hid o2) hp2 (by omega) (by omega) (by omega) hlt
    · by_cases hl0 : lo = 0
      · have hm : q * hi = 4611686018427387904 := by rw [heq, hpq]
        obtain ⟨o1, o2⟩ := ok (by omega)
        exact halves_eq F a b c A W k lo hi p (q * hi) w h h8 trivial hk1 hkW hsp (Lib.hid hpk) (Lib.hid o1) (Lib.hid H2) (Lib.hid H3) (Lib.hid hp) (Lib.hid o2) hp2 (by omega) (by omega) (by omega) heq hl0
      · have hm : q * hi = 4611686018427387904 := by rw [heq, hpq]
        exact halves_ge F a b c A W k lo hi p 0 w h h8 (h88 (by omega)) hk1 hkW hsp (Lib.hid hpk) (Lib.hid fun w => HB w (by omega)) (Lib.hid H2) (Lib.hid H3) (Lib.hid hp) trivial hp2 (by omega) (by omega) (by omega) heq (by omega)
    · have hm := Nat.mul_le_mul_left q (show p + 1 ≤ hi from hlt)
      rw [Nat.mul_add, hpq] at hm
      have hq1 : 1 ≤ q := by omega
      exact halves_gt F a b c A W k lo hi p 0 w h h8 (h88 (by omega)) hk1 hkW hsp (Lib.hid hpk) (Lib.hid fun w => HB w (by omega)) (Lib.hid H2) (Lib.hid H3) (Lib.hid hp) trivial hp2 (by omega) (by omega) (by omega) hlt
end Go.Proofs.Ytlekfbcmjcgabaa
