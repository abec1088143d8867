/- SectorBack: the walk. -/
import Derived.Test.YtlekfbcmjcgabaaRows
import Derived.Test.YtlekfbcmjcgabaaWl
import Derived.Test.YtlekfbcmjcgabaaPlain
import Derived.BigQuiet
import Derived.WalkSpells
import Derived.WalkLawsBesides
import Derived.Test.YtlekfbcmjcgabaaK
import Derived.Test.YtlekfbcmjcgabaaE
namespace Go.Proofs.Ytlekfbcmjcgabaa
open Go Go.Sp Go.RowKit

def leftN (n A W i : Nat) : Nat := n / 256 ^ (min i (A + W) - A)
theorem leftN_step (n A W i : Nat) (h : A ≤ i ∧ i < A + W) : leftN n A W (i + 1) = leftN n A W i / 256 := by
  unfold leftN
  rw [show min (i + 1) (A + W) - A = (min i (A + W) - A) + 1 by omega, Nat.pow_succ, Nat.div_div_eq_div_mul]
theorem leftN_stay (n A W i : Nat) (h : ¬ (A ≤ i ∧ i < A + W)) : leftN n A W (i + 1) = leftN n A W i := by
  unfold leftN
  rw [show min (i + 1) (A + W) - A = min i (A + W) - A by omega]
theorem leftN_at (n A W i : Nat) (h : A ≤ i ∧ i < A + W) : leftN n A W i = n / 256 ^ (i - A) := by
  unfold leftN
  rw [show min i (A + W) - A = i - A by omega]
theorem leftN_end (n A W : Nat) (h : A + W ≤ 128) (hn : n < 256 ^ W) : leftN n A W 128 = 0 := by
  unfold leftN
  rw [show min 128 (A + W) - A = W by omega, Nat.div_eq_of_lt hn]
theorem leftN_zero (n A W : Nat) : leftN n A W 0 = n := by
  unfold leftN; simp
theorem leftN_le (n A W i : Nat) : leftN n A W i ≤ n := Nat.div_le_self _ _

set_option maxRecDepth 100000 in
set_option maxHeartbeats 1000000 in
theorem back_core (F : Nat → UInt8) (a b v : Int) (A W n : Nat) (w : World) (h1 : 1 ≤ W) (h8 : W ≤ 8) (hAW : A + W ≤ 128) (hn : n < 256 ^ W) (hn2 : n < 4611686018427387904)
    (hsp : Hid (∀ w, Calls Try.prog 22 #[.int .i64 a, .int .i64 b] w fun e w' => e = .returned (.tuple #[.int .i64 A, .int .i64 W]) ∧ w = w'))
    (hva : Hid (∀ w, Calls Try.prog 23 #[.int .i64 v, .int .i64 W] w fun e w' => e = .returned (.int .i64 n) ∧ w = w')) :
    Calls Try.prog 5 #[bytesV 128 F, .agg #[.int .i64 a, .int .i64 b], .int .i64 v] w fun e w' => e = .returned (.bool true) ∧ Tr w [] w' [] := by
  have hs := Tr.refl w []
  have H1 := Lib.hid (fun w => set_ok F A W n w h1 h8 hAW (by omega) hn)
  have H2 := Lib.hid (fun w => set_ok (setF F A W n) A W n w h1 h8 hAW (by omega) hn)
  have H3 := Lib.hid (fun w => get_ok (setF F A W n) A W w h1 h8 hAW (by rw [num_setF0 F A n W h8 hn]; omega))
  rw [setF_idem] at H2
  rw [num_setF0 F A n W h8 hn] at H3
  have HE := Lib.hid (leftN_end n A W hAW hn)
  have HT := Lib.hid (fun k => setF_at F A W n k)
  have HO := Lib.hid (fun k => setF_off F A W n k)
  have heq := eqB_refl 128 (setF F A W n)
  clear hn
  generalize setF F A W n = T at *
  go_enter Try.func5, Try.ntmps5
  go_wp2_with (first
    | ((with_reducible refine at_box rfl ?_); refine wl_boxA hs rfl rfl rfl ?_; clear hs; intro w1 b0 hs)
    | ((with_reducible refine at_box rfl ?_); refine wl_boxA hs rfl rfl rfl ?_; clear hs; intro w1 b1 hs)
    | ((with_reducible refine at_load rfl ?_); refine wl_load1 hs rfl rfl Try.underlying3 rfl rfl 0 rfl rfl ?_)
    | (go_at_call 22; refine (hsp.out _).mono ?_; rintro e w2 ⟨rfl, rfl⟩)
    | (go_at_call 23; refine (hva.out _).mono ?_; rintro e w2 ⟨rfl, rfl⟩)
    | ((with_reducible refine at_load rfl ?_); refine wl_loadB hs rfl rfl Try.underlying30 rfl 1 rfl size30 ?_)
    | ((with_reducible refine at_load rfl ?_); refine wl_loadB hs rfl rfl Try.underlying30 rfl 0 rfl size30 ?_)
    | (go_at_call_of 24 F; refine (H1.out _).mono ?_; rintro e w2 ⟨rfl, hc⟩; replace hs := hs.call0 hc; clear hc)
    | (go_at_call_of 24 T; refine (H2.out _).mono ?_; rintro e w2 ⟨rfl, hc⟩; replace hs := hs.call0 hc; clear hc)
    | (go_at_call 25; refine (H3.out _).mono ?_; rintro e w2 ⟨rfl, hc⟩; replace hs := hs.call0 hc; clear hc)
    | ((with_reducible refine (at_bin .neq) rfl ?_); refine wl_neqB rfl rfl Try.underlying30 Try.underlying5 size5 eqg30 rfl rfl ?_)
    | ((with_reducible refine at_alloc rfl ?_); refine wl_allocA hs rfl rfl zero30 ?_; clear hs; intro w1 b2 hs)
    | ((with_reducible refine at_store rfl ?_); refine wl_storeA hs rfl rfl rfl rfl (size30r _) (one30 _) 0 rfl (by simp only [rowOf_size]) ?_; clear hs; intro w1 hs))
  go_loop [16, 17] (fun l i => ∃ k : Nat, k ≤ 128 ∧ i = .int .i64 k ∧ l = .int .i64 (leftN n A W k)) (fun _ i => 128 - (intOf i).toNat)
  case atStart => exact ⟨0, by omega, rfl, by rw [leftN_zero]⟩
  case round =>
    obtain ⟨k, hk, rfl, rfl⟩ := hrel
    have hle := leftN_le n A W k
    by_cases hlt : k < 128
    · by_cases hin : A ≤ k ∧ k < A + W
      · obtain ⟨i1, i2⟩ := hin
        have hT := (show ((T k).toNat : Int) = (leftN n A W k : Int) % 256 by rw [HT.out k ⟨i1, i2⟩, leftN_at n A W k ⟨i1, i2⟩])
        have hS := Lib.hid (leftN_step n A W k ⟨i1, i2⟩)
        go_wp2_with (first | ((with_reducible refine at_load rfl ?_); refine wl_load1 hs rfl rfl Try.underlying5 rfl rfl 3 rfl (rowOf_u8 (by omega)) ?_) | ((with_reducible refine at_load rfl ?_); refine wl_load1 hs rfl rfl Try.underlying5 rfl rfl 1 rfl (rowOf_u8 (by omega)) ?_))
        all_goals
          go_round
          case rel => exact ⟨k + 1, by omega, by go_num, by rw [hS.out]; first | done | go_num⟩
          case measure => simp [intOf]; omega
      · have hT := HO.out k hin
        have hS := Lib.hid (leftN_stay n A W k hin)
        go_wp2_with (first | ((with_reducible refine at_load rfl ?_); refine wl_load1 hs rfl rfl Try.underlying5 rfl rfl 3 rfl (rowOf_u8 (by omega)) ?_) | ((with_reducible refine at_load rfl ?_); refine wl_load1 hs rfl rfl Try.underlying5 rfl rfl 1 rfl (rowOf_u8 (by omega)) ?_))
        all_goals
          go_round
          case rel => exact ⟨k + 1, by omega, by go_num, by rw [hS.out]; first | done | go_num⟩
          case measure => simp [intOf]; omega
    · obtain rfl : k = 128 := by omega
      rw [HE.out]
      go_wp2_with (first | (go_at_call 12; refine (known_any _).mono ?_; rintro e w2 ⟨rfl, hc⟩; replace hs := hs.call0 hc; clear hc))
      go_ret
      exact ⟨rfl, hs.letgo⟩

theorem back_walk (F : Nat → UInt8) (a b v : Int) (w : World) (ha : -9223372036854775808 ≤ a ∧ a ≤ 9223372036854775807) (hb : -9223372036854775808 ≤ b ∧ b ≤ 9223372036854775807) (hv : -9223372036854775808 ≤ v ∧ v ≤ 9223372036854775807) :
    Calls Try.prog 5 #[bytesV 128 F, .agg #[.int .i64 a, .int .i64 b], .int .i64 v] w fun e w' => e = .returned (.bool true) ∧ Below w.heap.size w w' := by
  obtain ⟨h1, h8, h⟩ := spot_bd a b
  obtain ⟨hn, hn2⟩ := valN_bd v (spotW b) h8
  exact (back_core F a b v (spotA a b) (spotW b) (valN v (spotW b)) w h1 h8 h hn hn2 (fun w => spot_any a b w ha.1 ha.2 hb.1 hb.2) (fun w => value_any v (spotW b) w h1 h8 hv.1 hv.2)).mono fun e w' ⟨he, ht⟩ => ⟨he, ht.below⟩
end Go.Proofs.Ytlekfbcmjcgabaa
