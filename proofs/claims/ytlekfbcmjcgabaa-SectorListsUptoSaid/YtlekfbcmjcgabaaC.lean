/- sector.Set: contract. -/
import Derived.Test.YtlekfbcmjcgabaaRows
import Derived.Test.YtlekfbcmjcgabaaWl
import Derived.Test.YtlekfbcmjcgabaaWq
import Derived.Test.YtlekfbcmjcgabaaPlain
import Derived.BigQuiet
import Derived.WalkSpells
import Derived.WalkLawsBesides
import Derived.Test.YtlekfbcmjcgabaaA
namespace Go.Proofs.Ytlekfbcmjcgabaa
open Go Go.Sp Go.RowKit

theorem set_place (F : Nat → UInt8) (A W v : Int) (w : World) (h : W < 1 ∨ 8 < W ∨ within A W = false) :
    Calls Try.prog 24 #[bytesV 128 F, .int .i64 A, .int .i64 W, .int .i64 v] w fun e w' => e = .returned (.tuple #[bytesV 128 (fun _ => 0), .int .i64 10]) ∧ Tr w [] w' [] := by
  have hs := Tr.refl w []
  by_cases h1 : W < 1
  · go_enter Try.func24, Try.ntmps24
    go_wp2_with (first | ((with_reducible refine at_box rfl ?_); refine wl_boxA hs rfl rfl rfl ?_; clear hs; intro w1 b hs) | ((with_reducible refine at_alloc rfl ?_); refine wl_allocA hs rfl rfl zero30 ?_; clear hs; intro w1 b2 hs) | ((with_reducible refine at_build rfl ?_); refine wl_build0B rfl rfl Try.underlying30 (F := fun _ => 0) zero30 isz5 ?_) | ((with_reducible refine at_store rfl ?_); refine wl_storeA hs rfl rfl rfl rfl (size30r _) (one30 _) 0 rfl (by simp only [rowOf_size]) ?_; clear hs; intro w1 hs) | (go_at_call 31; refine (within_any _ _ _ (by omega) (by omega)).mono ?_; rintro e w2 ⟨rfl, rfl⟩))
    exact ret_cell2 hs rfl rfl Try.underlying30 rfl rfl rfl 0 rfl (size30r _) ⟨rfl, hs.letgo⟩
  · by_cases h2 : 8 < W
    · go_enter Try.func24, Try.ntmps24
      go_wp2_with (first | ((with_reducible refine at_box rfl ?_); refine wl_boxA hs rfl rfl rfl ?_; clear hs; intro w1 b hs) | ((with_reducible refine at_alloc rfl ?_); refine wl_allocA hs rfl rfl zero30 ?_; clear hs; intro w1 b2 hs) | ((with_reducible refine at_build rfl ?_); refine wl_build0B rfl rfl Try.underlying30 (F := fun _ => 0) zero30 isz5 ?_) | ((with_reducible refine at_store rfl ?_); refine wl_storeA hs rfl rfl rfl rfl (size30r _) (one30 _) 0 rfl (by simp only [rowOf_size]) ?_; clear hs; intro w1 hs) | (go_at_call 31; refine (within_any _ _ _ (by omega) (by omega)).mono ?_; rintro e w2 ⟨rfl, rfl⟩))
      exact ret_cell2 hs rfl rfl Try.underlying30 rfl rfl rfl 0 rfl (size30r _) ⟨rfl, hs.letgo⟩
    · have h3 : within A W = false := by
        rcases h with h | h | h
        · omega
        · omega
        · exact h
      clear h
      go_enter Try.func24, Try.ntmps24
      go_wp2_with (first | ((with_reducible refine at_box rfl ?_); refine wl_boxA hs rfl rfl rfl ?_; clear hs; intro w1 b hs) | ((with_reducible refine at_alloc rfl ?_); refine wl_allocA hs rfl rfl zero30 ?_; clear hs; intro w1 b2 hs) | ((with_reducible refine at_build rfl ?_); refine wl_build0B rfl rfl Try.underlying30 (F := fun _ => 0) zero30 isz5 ?_) | ((with_reducible refine at_store rfl ?_); refine wl_storeA hs rfl rfl rfl rfl (size30r _) (one30 _) 0 rfl (by simp only [rowOf_size]) ?_; clear hs; intro w1 hs) | (go_at_call 31; refine (within_any _ _ _ (by omega) (by omega)).mono ?_; rintro e w2 ⟨rfl, rfl⟩))
      exact ret_cell2 hs rfl rfl Try.underlying30 rfl rfl rfl 0 rfl (size30r _) ⟨rfl, hs.letgo⟩

theorem set_neg (F : Nat → UInt8) (A W : Nat) (v : Int) (w : World) (h1 : 1 ≤ W) (h8 : W ≤ 8) (h : A + W ≤ 128) (hv : v < 0 ∨ 4611686018427387904 < v) :
    Calls Try.prog 24 #[bytesV 128 F, .int .i64 A, .int .i64 W, .int .i64 v] w fun e w' => e = .returned (.tuple #[bytesV 128 (fun _ => 0), .int .i64 11]) ∧ Tr w [] w' [] := by
  have hs := Tr.refl w []
  have hw : within (A : Int) (W : Int) = true := within_true (by omega) (by omega) (by omega)
  have d1 : decide ((W : Int) < 1) = false := by simp; omega
  have d2 : decide (8 < (W : Int)) = false := by simp; omega
  by_cases hn : v < 0
  · go_enter Try.func24, Try.ntmps24
    go_wp2_with (first | ((with_reducible refine at_box rfl ?_); refine wl_boxA hs rfl rfl rfl ?_; clear hs; intro w1 b hs) | ((with_reducible refine at_alloc rfl ?_); refine wl_allocA hs rfl rfl zero30 ?_; clear hs; intro w1 b2 hs) | ((with_reducible refine at_build rfl ?_); refine wl_build0B rfl rfl Try.underlying30 (F := fun _ => 0) zero30 isz5 ?_) | ((with_reducible refine at_store rfl ?_); refine wl_storeA hs rfl rfl rfl rfl (size30r _) (one30 _) 0 rfl (by simp only [rowOf_size]) ?_; clear hs; intro w1 hs) | (go_at_call 31; refine (within_any _ _ _ (by omega) (by omega)).mono ?_; rintro e w2 ⟨rfl, rfl⟩))
    exact ret_cell2 hs rfl rfl Try.underlying30 rfl rfl rfl 0 rfl (size30r _) ⟨rfl, hs.letgo⟩
  · have hb : 4611686018427387904 < v := by omega
    go_enter Try.func24, Try.ntmps24
    go_wp2_with (first | ((with_reducible refine at_box rfl ?_); refine wl_boxA hs rfl rfl rfl ?_; clear hs; intro w1 b hs) | ((with_reducible refine at_alloc rfl ?_); refine wl_allocA hs rfl rfl zero30 ?_; clear hs; intro w1 b2 hs) | ((with_reducible refine at_build rfl ?_); refine wl_build0B rfl rfl Try.underlying30 (F := fun _ => 0) zero30 isz5 ?_) | ((with_reducible refine at_store rfl ?_); refine wl_storeA hs rfl rfl rfl rfl (size30r _) (one30 _) 0 rfl (by simp only [rowOf_size]) ?_; clear hs; intro w1 hs) | (go_at_call 31; refine (within_any _ _ _ (by omega) (by omega)).mono ?_; rintro e w2 ⟨rfl, rfl⟩))
    exact ret_cell2 hs rfl rfl Try.underlying30 rfl rfl rfl 0 rfl (size30r _) ⟨rfl, hs.letgo⟩

theorem set_big (F : Nat → UInt8) (A W v : Nat) (w : World) (h1 : 1 ≤ W) (h8 : W < 8) (h : A + W ≤ 128) (hv0 : v ≤ 4611686018427387904) (hv : 256 ^ W ≤ v) :
    Calls Try.prog 24 #[bytesV 128 F, .int .i64 A, .int .i64 W, .int .i64 v] w fun e w' => e = .returned (.tuple #[bytesV 128 (fun _ => 0), .int .i64 11]) ∧ Tr w [] w' [] := by
  have hs := Tr.refl w []
  have hw : within (A : Int) (W : Int) = true := within_true (by omega) (by omega) (by omega)
  have d1 : decide ((W : Int) < 1) = false := by simp; omega
  have d2 : decide (8 < (W : Int)) = false := by simp; omega
  have d4 : decide (4611686018427387904 < (v : Int)) = false := by simp; omega
  have d5 := shr8_pos hv
  clear hv
  go_enter Try.func24, Try.ntmps24
  go_wp2_with (first | ((with_reducible refine at_box rfl ?_); refine wl_boxA hs rfl rfl rfl ?_; clear hs; intro w1 b hs) | ((with_reducible refine at_alloc rfl ?_); refine wl_allocA hs rfl rfl zero30 ?_; clear hs; intro w1 b2 hs) | ((with_reducible refine at_build rfl ?_); refine wl_build0B rfl rfl Try.underlying30 (F := fun _ => 0) zero30 isz5 ?_) | ((with_reducible refine at_store rfl ?_); refine wl_storeA hs rfl rfl rfl rfl (size30r _) (one30 _) 0 rfl (by simp only [rowOf_size]) ?_; clear hs; intro w1 hs) | (go_at_call 31; refine (within_any _ _ _ (by omega) (by omega)).mono ?_; rintro e w2 ⟨rfl, rfl⟩))
  exact ret_cell2 hs rfl rfl Try.underlying30 rfl rfl rfl 0 rfl (size30r _) ⟨rfl, hs.letgo⟩

set_option maxHeartbeats 400000 in
theorem set_ok (F : Nat → UInt8) (A W v : Nat) (w : World) (h1 : 1 ≤ W) (h8 : W ≤ 8) (h : A + W ≤ 128) (hv0 : v ≤ 4611686018427387904) (hv : v < 256 ^ W) :
    Calls Try.prog 24 #[bytesV 128 F, .int .i64 A, .int .i64 W, .int .i64 v] w fun e w' => e = .returned (.tuple #[bytesV 128 (setF F A W v), .int .i64 0]) ∧ Tr w [] w' [] := by
  have hs := Tr.refl w []
  have hw : within (A : Int) (W : Int) = true := within_true (by omega) (by omega) (by omega)
  have d1 : decide ((W : Int) < 1) = false := by simp; omega
  have d2 : decide (8 < (W : Int)) = false := by simp; omega
  have d4 : decide (4611686018427387904 < (v : Int)) = false := by simp; omega
  have d5 := shr8_zero hv
  clear hv
  go_enter Try.func24, Try.ntmps24
  go_wp2_with (first | ((with_reducible refine at_box rfl ?_); refine wl_boxA hs rfl rfl rfl ?_; clear hs; intro w1 b hs) | ((with_reducible refine at_alloc rfl ?_); refine wl_allocA hs rfl rfl zero30 ?_; clear hs; intro w1 b2 hs) | ((with_reducible refine at_build rfl ?_); refine wl_build0B rfl rfl Try.underlying30 (F := fun _ => 0) zero30 isz5 ?_) | ((with_reducible refine at_store rfl ?_); refine wl_storeA hs rfl rfl rfl rfl (size30r _) (one30 _) 0 rfl (by simp only [rowOf_size]) ?_; clear hs; intro w1 hs) | (go_at_call 31; refine (within_any _ _ _ (by omega) (by omega)).mono ?_; rintro e w2 ⟨rfl, rfl⟩))
  all_goals
    go_loopw [43] (fun i wr => ∃ k : Nat, k ≤ W ∧ i = .int .i64 k ∧ Tr w [] wr [Res.blk b2 (rowOf 128 (u8v fun _ => 0)) 30, Res.blk b (rowOf 128 (u8v (setF F A k v))) 30]) (fun i _ => W - (intOf i).toNat)
    case atStart => exact ⟨0, Nat.zero_le _, rfl, by rw [setF_zero]; exact hs⟩
    case round =>
      clear hs
      obtain ⟨k, hk, rfl, hs⟩ := hrel
      by_cases hlt : k < W
      · go_wp2_with (first | ((with_reducible refine at_store rfl ?_); refine wl_store1R hs rfl rfl size5 rfl rfl rfl 1 rfl (by omega) (u8v (setF F A (k + 1) v)) (set_cells F A v k _ rfl) ?_; clear hs; intro w1 hs))
        go_roundw
        case rel => exact ⟨k + 1, by omega, by go_num, hs⟩
        case measure => simp [intOf]; omega
      · obtain rfl : k = W := by omega
        go_wp2_with (first | ((with_reducible refine at_load rfl ?_); refine wl_loadB hs rfl rfl Try.underlying30 rfl 1 rfl size30 ?_) | ((with_reducible refine at_store rfl ?_); refine wl_storeA hs rfl rfl rfl rfl (size30r _) (one30 _) 0 rfl (by simp only [rowOf_size]) ?_; clear hs; intro w1 hs))
        exact ret_cell2 hs rfl rfl Try.underlying30 rfl rfl rfl 0 rfl (size30r _) ⟨rfl, hs.letgo⟩
end Go.Proofs.Ytlekfbcmjcgabaa
