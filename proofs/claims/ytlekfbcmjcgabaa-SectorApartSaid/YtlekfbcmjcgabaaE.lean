/- spot, value: contracts. -/
import Derived.Test.YtlekfbcmjcgabaaRows
import Derived.Test.YtlekfbcmjcgabaaWl
import Derived.Test.YtlekfbcmjcgabaaWq
import Derived.Test.YtlekfbcmjcgabaaPlain
import Derived.BigQuiet
import Derived.WalkSpells
import Derived.WalkLawsBesides
import Derived.Test.YtlekfbcmjcgabaaA
namespace Go.Proofs.Ytlekfbcmjcgabaa
open Go Go.Sp Go.RowKit

def spotW (width : Int) : Nat := (1 + pick width 8).toNat
def spotA (at' width : Int) : Nat := (pick at' (129 - (1 + pick width 8))).toNat
theorem spot_bd (at' width : Int) : 1 ≤ spotW width ∧ spotW width ≤ 8 ∧ spotA at' width + spotW width ≤ 128 := by
  have h1 := pick_bd width 8 (by omega)
  have h2 := pick_bd at' (129 - (1 + pick width 8)) (by omega)
  unfold spotW spotA
  omega

theorem spot_any (at' width : Int) (w : World) (h2 : -9223372036854775808 ≤ at') (h3 : at' ≤ 9223372036854775807) (h4 : -9223372036854775808 ≤ width) (h5 : width ≤ 9223372036854775807) :
    Calls Try.prog 22 #[.int .i64 at', .int .i64 width] w fun e w' => e = .returned (.tuple #[.int .i64 (spotA at' width), .int .i64 (spotW width)]) ∧ w = w' := by
  have h1 := pick_bd width 8 (by omega)
  have HE := Lib.hid (show Ending.returned (.tuple #[.int .i64 (pick at' (129 - (1 + pick width 8))), .int .i64 (1 + pick width 8)]) = .returned (.tuple #[.int .i64 (spotA at' width), .int .i64 (spotW width)]) by
    have h2 := pick_bd at' (129 - (1 + pick width 8)) (by omega)
    unfold spotA spotW
    rw [Int.toNat_of_nonneg h2.1, Int.toNat_of_nonneg (by omega)])
  go_enter Try.func22, Try.ntmps22
  go_wp2_with (go_at_call 26; refine (pick_any _ _ _ (by omega) (by omega) (by omega) (by omega)).mono ?_; rintro e w2 ⟨rfl, rfl⟩)
  go_ret2
  exact ⟨HE.out, rfl⟩

def valN (v : Int) (W : Nat) : Nat := (pick v (if W = 8 then 4611686018427387904 else ((256 ^ W : Nat) : Int))).toNat
theorem pow_pos256 (W : Nat) : 0 < 256 ^ W := Nat.pow_pos (by omega)
theorem valN_bd (v : Int) (W : Nat) (h8 : W ≤ 8) : valN v W < 256 ^ W ∧ valN v W < 4611686018427387904 := by
  unfold valN
  by_cases h : W = 8
  · subst h
    have := pick_bd v 4611686018427387904 (by omega)
    rw [if_pos rfl]
    have e : (256 : Nat) ^ 8 = 18446744073709551616 := by decide
    omega
  · rw [if_neg h]
    have h0 := pow_pos256 W
    have h7 := pow256_mono (show W ≤ 7 by omega)
    have e : (256 : Nat) ^ 7 = 72057594037927936 := by decide
    have := pick_bd v ((256 ^ W : Nat) : Int) (by omega)
    omega

theorem value_any (v : Int) (W : Nat) (w : World) (h1 : 1 ≤ W) (h8 : W ≤ 8) (h2 : -9223372036854775808 ≤ v) (h3 : v ≤ 9223372036854775807) :
    Calls Try.prog 23 #[.int .i64 v, .int .i64 (W : Int)] w fun e w' => e = .returned (.int .i64 (valN v W)) ∧ w = w' := by
  by_cases h : W = 8
  · subst h
    have hb := pick_bd v 4611686018427387904 (by omega)
    have HE := Lib.hid (show Ending.returned (.int .i64 (pick v 4611686018427387904)) = .returned (.int .i64 (valN v 8)) by
      unfold valN; rw [if_pos rfl, Int.toNat_of_nonneg hb.1])
    clear hb
    go_enter Try.func23, Try.ntmps23
    go_wp2_with (go_at_call 26; refine (pick_any _ _ _ (by omega) (by omega) (by omega) (by omega)).mono ?_; rintro e w2 ⟨rfl, rfl⟩)
    go_ret
    exact ⟨HE.out, rfl⟩
  · have h0 := pow_pos256 W
    have h7 := pow256_mono (show W ≤ 7 by omega)
    have e7 : (256 : Nat) ^ 7 = 72057594037927936 := by decide
    rw [e7] at h7
    have hb := pick_bd v ((256 ^ W : Nat) : Int) (by omega)
    have HE := Lib.hid (show Ending.returned (.int .i64 (pick v ((256 ^ W : Nat) : Int))) = .returned (.int .i64 (valN v W)) by
      unfold valN; rw [if_neg h, Int.toNat_of_nonneg hb.1])
    have hW : (W : Int) ≠ 8 := by omega
    have HP := Lib.hid (show wrap64 (2 ^ (8 * W)) = ((256 ^ W : Nat) : Int) by rw [pow28, IntWalk.wrap64_in _ ⟨by omega, by omega⟩])
    clear hb h e7
    go_enter Try.func23, Try.ntmps23
    go_wp2_with fail
    rw [HP.out]
    refine (pick_any _ _ _ (by omega) (by omega) (by omega) (by omega)).mono ?_
    rintro e w2 ⟨rfl, rfl⟩
    go_wp2
    go_ret
    exact ⟨HE.out, rfl⟩
end Go.Proofs.Ytlekfbcmjcgabaa
