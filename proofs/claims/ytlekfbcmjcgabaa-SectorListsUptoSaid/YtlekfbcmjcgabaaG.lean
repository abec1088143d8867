/- The document's sector: contracts. -/
import Derived.Test.YtlekfbcmjcgabaaRows
import Derived.Test.YtlekfbcmjcgabaaWl
import Derived.Test.YtlekfbcmjcgabaaWq
import Derived.Test.YtlekfbcmjcgabaaPlain
import Derived.BigQuiet
import Derived.WalkSpells
import Derived.WalkLawsBesides
import Derived.Test.YtlekfbcmjcgabaaA
import Derived.Test.YtlekfbcmjcgabaaDk
import Derived.Test.YtlekfbcmjcgabaaMo
import Derived.Deep.DeepCutAuto
namespace Go.Proofs.Ytlekfbcmjcgabaa
set_option linter.unusedVariables false
set_option linter.unusedSimpArgs false
open Go Go.Sp Go.RowKit Go.BigFrame

theorem rzero_any (F : Nat → UInt8) (w : World) : Calls Try.prog 36 #[bytesV 128 F] w fun e w' => e = .returned (.bool (eqB 128 F fun _ => 0)) ∧ Tr w [] w' [] := by
  have hs := Tr.refl w []
  have HE := Lib.hid (eqB_iff (n := 128) (F := F) (G := fun _ => 0))
  generalize eqB 128 F (fun _ => 0) = z at *
  go_enter Try.func36, Try.ntmps36
  go_wp2_with (first | ((with_reducible refine at_box rfl ?_); refine wl_boxA hs rfl rfl rfl ?_; clear hs; intro w1 b hs))
  go_loopw [3] (fun i wr => ∃ k : Nat, k ≤ 128 ∧ i = .int .i64 k ∧ (∀ j, j < k → F j = 0) ∧ Tr w [] wr [Res.blk b (rowOf 128 (u8v F)) 30]) (fun i _ => 128 - (intOf i).toNat)
  case atStart => exact ⟨0, by omega, rfl, fun j h => by omega, hs⟩
  case round =>
    clear hs
    obtain ⟨k, hk, rfl, hz, hs⟩ := hrel
    replace hz := Lib.hid hz
    by_cases hlt : k < 128
    · have hlt2 : (k : Int) < 128 := by omega
      by_cases h0 : F k = 0
      · have hT := h0
        replace h0 := Lib.hid h0
        go_wp2_with (first | ((with_reducible refine at_load rfl ?_); refine wl_load1 hs rfl rfl Try.underlying5 rfl rfl 0 rfl (rowOf_u8 (by omega)) ?_))
        go_roundw
        case rel => exact ⟨k + 1, by omega, by go_num, fun j hj => by
          by_cases hjk : j = k
          · subst hjk; exact h0.out
          · exact hz.out j (by omega), hs⟩
        case measure => simp [intOf]; omega
      · have hb : ((((F k).toNat : Nat) : Int) != 0) = true := by
          rw [bne_iff_ne]
          intro hc
          exact h0 (UInt8.toNat_inj.1 (by simp; omega))
        have hzf : z = false := by
          cases z
          · rfl
          · exact absurd (HE.out.1 rfl k hlt) h0
        subst hzf
        replace h0 := Lib.hid h0
        go_wp2_with (first | ((with_reducible refine at_load rfl ?_); refine wl_load1 hs rfl rfl Try.underlying5 rfl rfl 0 rfl (rowOf_u8 (by omega)) ?_))
        go_ret
        exact ⟨rfl, hs.letgo⟩
    · obtain rfl : k = 128 := by omega
      have hzt : z = true := HE.out.2 fun i hi => hz.out i hi
      subst hzt
      go_wp2
      go_ret
      exact ⟨rfl, hs.letgo⟩

/-- The first k bytes are wiped where they lie from a place on. -/
def wpF (F : Nat → UInt8) (a : Int) (k : Nat) : Nat → UInt8 := fun i => if i < k ∧ a ≤ (i : Int) then 0 else F i
theorem wp_step1 (F : Nat → UInt8) (a : Int) (k : Nat) (h : a ≤ (k : Int)) : ∀ j, j < 128 → (if j = k then Value.int .u8 0 else u8v (wpF F a k) j) = u8v (wpF F a (k + 1)) j := by
  intro j _
  simp only [u8v, wpF]
  by_cases hj : j = k
  · subst hj; rw [if_pos rfl, if_pos ⟨by omega, h⟩]; rfl
  · rw [if_neg hj]
    by_cases h2 : j < k ∧ a ≤ (j : Int)
    · rw [if_pos h2, if_pos ⟨by omega, h2.2⟩]
    · rw [if_neg h2, if_neg (fun hc => h2 ⟨by omega, hc.2⟩)]
theorem wp_step2 (F : Nat → UInt8) (a : Int) (k : Nat) (h : ¬ a ≤ (k : Int)) : wpF F a (k + 1) = wpF F a k := by
  funext i
  simp only [wpF]
  by_cases h2 : i < k ∧ a ≤ (i : Int)
  · rw [if_pos h2, if_pos ⟨by omega, h2.2⟩]
  · rw [if_neg h2, if_neg (fun hc => by
      have : i = k := by
        rcases Nat.lt_or_ge i k with h3 | h3
        · exact absurd ⟨h3, hc.2⟩ h2
        · omega
      subst this
      exact h hc.2)]
theorem splice_step (F G : Nat → UInt8) (A k : Nat) : ∀ j, j < 128 → (if j = A + k then Value.int .u8 ((G k).toNat : Int) else u8v (spliceF F A k G) j) = u8v (spliceF F A (k + 1) G) j := by
  intro j _
  simp only [u8v, spliceF]
  by_cases hj : j = A + k
  · subst hj; rw [if_pos rfl, if_pos (by omega), show A + k - A = k by omega]
  · rw [if_neg hj]
    by_cases h2 : A ≤ j ∧ j < A + k
    · rw [if_pos h2, if_pos (by omega)]
    · rw [if_neg h2, if_neg (by omega)]
theorem rwipe_any (F : Nat → UInt8) (frm : Int) (w : World) : Calls Try.prog 35 #[bytesV 128 F, .int .i64 frm] w fun e w' => e = .returned (bytesV 128 (wipeF F frm)) ∧ Tr w [] w' [] := by
  have hs := Tr.refl w []
  have HB : Hid (bytesV 128 (wpF F frm 128) = bytesV 128 (wipeF F frm)) := Lib.hid (bytesV_congr fun i hi => by
    simp only [wpF, wipeF]
    by_cases h : frm ≤ (i : Int)
    · rw [if_pos ⟨hi, h⟩, if_pos h]
    · rw [if_neg (fun hc => h hc.2), if_neg h])
  have H0 : Hid (wpF F frm 0 = F) := Lib.hid (by funext i; simp only [wpF]; rw [if_neg (by omega)])
  go_enter Try.func35, Try.ntmps35
  go_upto_region 1 with (first | ((with_reducible refine at_box rfl ?_); refine wl_boxA hs rfl rfl rfl ?_; clear hs; intro w1 b hs) | ((with_reducible refine at_alloc rfl ?_); refine wl_allocA hs rfl rfl zero30 ?_; clear hs; intro w1 b1 hs))
  go_wp2_with (first | ((with_reducible refine at_alloc rfl ?_); refine wl_allocA hs rfl rfl zero30 ?_; clear hs; intro w1 b2 hs) | ((with_reducible refine at_load rfl ?_); refine wl_loadB hs rfl rfl Try.underlying30 rfl 1 rfl size30 ?_) | ((with_reducible refine at_store rfl ?_); refine wl_storeA hs rfl rfl rfl rfl (size30r _) (one30 _) 0 rfl (by simp only [rowOf_size]) ?_; clear hs; intro w1 hs))
  go_loopw [6] (fun i wr => ∃ k : Nat, k ≤ 128 ∧ i = .int .i64 k ∧ Tr w [] wr [Res.blk b2 (rowOf 128 (u8v (wpF F frm k))) 30, Res.blk b1 (rowOf 128 (u8v fun _ => 0)) 30, Res.blk b (rowOf 128 (u8v F)) 30]) (fun i _ => 128 - (intOf i).toNat)
  case atStart => exact ⟨0, by omega, rfl, by rw [H0.out]; exact hs⟩
  case round =>
    clear hs
    obtain ⟨k, hk, rfl, hs⟩ := hrel
    by_cases hlt : k < 128
    · have hlt2 : (k : Int) < 128 := by omega
      by_cases hf : frm ≤ (k : Int)
      · go_wp2_with (first | ((with_reducible refine at_store rfl ?_); refine wl_store1R hs rfl rfl size5 rfl rfl rfl 0 rfl (by omega) (u8v (wpF F frm (k + 1))) (wp_step1 F frm k hf) ?_; clear hs; intro w1 hs))
        go_roundw
        case rel => exact ⟨k + 1, by omega, by go_num, hs⟩
        case measure => simp [intOf]; omega
      · have H1 : Hid (wpF F frm (k + 1) = wpF F frm k) := Lib.hid (wp_step2 F frm k hf)
        go_wp2
        go_roundw
        case rel => exact ⟨k + 1, by omega, by go_num, by rw [H1.out]; exact hs⟩
        case measure => simp [intOf]; omega
    · obtain rfl : k = 128 := by omega
      go_wp2_with (first | ((with_reducible refine at_load rfl ?_); refine wl_loadB hs rfl rfl Try.underlying30 rfl 0 rfl size30 ?_) | ((with_reducible refine at_store rfl ?_); refine wl_storeA hs rfl rfl rfl rfl (size30r _) (one30 _) 1 rfl (by simp only [rowOf_size]) ?_; clear hs; intro w1 hs))
      refine ret_cell hs rfl rfl Try.underlying30 rfl rfl 1 rfl (size30r _) ⟨?_, hs.letgo⟩
      rw [← HB.out]
      rfl

theorem rsplice_no (F : Nat → UInt8) (A : Int) (n : Nat) (ao : Option Addr) (cap : Nat) (w : World) (hn : n ≤ 9223372036854775807) (h : within A n = false) :
    Calls Try.prog 34 #[bytesV 128 F, .int .i64 A, .slice ao n cap] w fun e w' => e = .returned (.tuple #[bytesV 128 (fun _ => 0), .int .i64 10]) ∧ Tr w [] w' [] := by
  have hs := Tr.refl w []
  go_enter Try.func34, Try.ntmps34
  go_wp2_with (first | ((with_reducible refine at_box rfl ?_); refine wl_boxA hs rfl rfl rfl ?_; clear hs; intro w1 b hs) | ((with_reducible refine at_alloc rfl ?_); refine wl_allocA hs rfl rfl zero30 ?_; clear hs; intro w1 b2 hs) | ((with_reducible refine at_build rfl ?_); refine wl_build0B rfl rfl Try.underlying30 (F := fun _ => 0) zero30 isz5 ?_) | ((with_reducible refine at_store rfl ?_); refine wl_storeA hs rfl rfl rfl rfl (size30r _) (one30 _) 0 rfl (by simp only [rowOf_size]) ?_; clear hs; intro w1 hs) | (go_at_call 37; refine (fits_any _ _ _ (by omega) (by omega)).mono ?_; rintro e w2 ⟨rfl, rfl⟩))
  exact ret_cell2 hs rfl rfl Try.underlying30 rfl rfl rfl 0 rfl (size30r _) ⟨rfl, hs.letgo⟩

theorem rsplice_yes (F G : Nat → UInt8) (A n : Nat) (ao : Option Addr) (cap db doff : Nat) (w : World) (h : A + n ≤ 128) (hao : 0 < n → ao = some ⟨db, doff, none⟩) (hrd : Rd w db doff n (u8v G)) :
    Calls Try.prog 34 #[bytesV 128 F, .int .i64 (A : Int), .slice ao n cap] w fun e w' => e = .returned (.tuple #[bytesV 128 (spliceF F A n G), .int .i64 0]) ∧ Tr w [] w' [] := by
  have hs := Tr.refl w []
  have hw : within (A : Int) (n : Int) = true := within_true (by omega) (by omega) (by omega)
  have HR := Lib.hid hrd
  have HA := Lib.hid hao
  have H0 : Hid (spliceF F A 0 G = F) := Lib.hid (by funext i; simp only [spliceF]; rw [if_neg (by omega)])
  clear hrd hao
  go_enter Try.func34, Try.ntmps34
  go_upto_region 3 with (first | ((with_reducible refine at_box rfl ?_); refine wl_boxA hs rfl rfl rfl ?_; clear hs; intro w1 b hs) | ((with_reducible refine at_alloc rfl ?_); refine wl_allocA hs rfl rfl zero30 ?_; clear hs; intro w1 b1 hs) | (go_at_call 37; refine (fits_any _ _ _ (by omega) (by omega)).mono ?_; rintro e w2 ⟨rfl, rfl⟩))
  go_wp2_with (first | ((with_reducible refine at_alloc rfl ?_); refine wl_allocA hs rfl rfl zero30 ?_; clear hs; intro w1 b2 hs) | ((with_reducible refine at_load rfl ?_); refine wl_loadB hs rfl rfl Try.underlying30 rfl 1 rfl size30 ?_) | ((with_reducible refine at_store rfl ?_); refine wl_storeA hs rfl rfl rfl rfl (size30r _) (one30 _) 0 rfl (by simp only [rowOf_size]) ?_; clear hs; intro w1 hs))
  go_loopw [9] (fun i wr => ∃ k : Nat, k ≤ n ∧ i = .int .i64 k ∧ Tr w [] wr [Res.blk b2 (rowOf 128 (u8v (spliceF F A k G))) 30, Res.blk b1 (rowOf 128 (u8v fun _ => 0)) 30, Res.blk b (rowOf 128 (u8v F)) 30]) (fun i _ => n - (intOf i).toNat)
  case atStart => exact ⟨0, by omega, rfl, by rw [H0.out]; exact hs⟩
  case round =>
    clear hs
    obtain ⟨k, hk, rfl, hs⟩ := hrel
    by_cases hlt : k < n
    · have hlt2 : (k : Int) < n := by omega
      obtain rfl := HA.out (by omega)
      have hAk : (A : Int) + k < 128 := by omega
      go_wp2_with (first
          | ((with_reducible refine at_load rfl ?_); refine wl_loadC (v := .int .u8 ((G k).toNat : Int)) rfl rfl Try.underlying5 rfl rfl (HR.out.keep hs k hlt) ?_)
          | ((with_reducible refine (at_index (t := 30)) rfl ?_); refine wl_indexA1 rfl rfl Try.underlying30 size5 rfl rfl (A + k) (by omega) (by omega) ?_)
          | ((with_reducible refine at_store rfl ?_); refine wl_store1R hs rfl rfl size5 rfl rfl rfl 0 rfl (by omega) (u8v (spliceF F A (k + 1) G)) (splice_step F G A k) ?_; clear hs; intro w1 hs))
      go_roundw
      case rel => exact ⟨k + 1, by omega, by go_num, hs⟩
      case measure => simp [intOf]; omega
    · obtain rfl : k = n := by omega
      go_wp2_with (first | ((with_reducible refine at_load rfl ?_); refine wl_loadB hs rfl rfl Try.underlying30 rfl 0 rfl size30 ?_) | ((with_reducible refine at_store rfl ?_); refine wl_storeA hs rfl rfl rfl rfl (size30r _) (one30 _) 1 rfl (by simp only [rowOf_size]) ?_; clear hs; intro w1 hs))
      exact ret_cell2 hs rfl rfl Try.underlying30 rfl rfl rfl 1 rfl (size30r _) ⟨rfl, hs.letgo⟩

theorem power_any (W : Nat) (w : World) (h : W ≤ 7) : Calls Try.prog 38 #[.int .i64 (W : Int)] w fun e w' => e = .returned (.int .i64 ((256 ^ W : Nat) : Int)) ∧ w = w' := by
  go_enter Try.func38, Try.ntmps38
  go_wp2
  go_loop [3, 4] (fun p i => ∃ k : Nat, k ≤ W ∧ i = .int .i64 k ∧ p = .int .i64 ((256 ^ k : Nat) : Int)) (fun _ i => W - (intOf i).toNat)
  case atStart => exact ⟨0, by omega, rfl, rfl⟩
  case round =>
    obtain ⟨k, hk, rfl, rfl⟩ := hrel
    by_cases hlt : k < W
    · have h6 := pow256_mono (show k ≤ 6 by omega)
      have e6 : (256 : Nat) ^ 6 = 281474976710656 := by decide
      rw [e6] at h6
      have HS := Lib.hid (show (256 ^ (k + 1) : Nat) = 256 * 256 ^ k by rw [Nat.pow_succ, Nat.mul_comm])
      clear e6
      have hp : (256 ^ k : Nat) = (256 ^ k : Nat) := rfl
      generalize (256 ^ k : Nat) = q at *
      go_wp2
      go_round
      case rel => exact ⟨k + 1, by omega, by go_num, by rw [HS.out]; go_num⟩
      case measure => simp [intOf]; omega
    · obtain rfl : k = W := by omega
      go_wp2
      go_ret
      exact ⟨rfl, rfl⟩
end Go.Proofs.Ytlekfbcmjcgabaa
