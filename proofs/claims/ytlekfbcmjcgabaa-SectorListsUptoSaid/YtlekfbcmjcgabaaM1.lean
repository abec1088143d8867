/- full, marked, the reference's Cut and Join: contracts. -/
import Derived.Test.YtlekfbcmjcgabaaI
import Derived.Test.YtlekfbcmjcgabaaF
import Derived.Test.YtlekfbcmjcgabaaK
import Derived.Test.YtlekfbcmjcgabaaRp
namespace Go.Proofs.Ytlekfbcmjcgabaa
set_option linter.unusedVariables false
set_option linter.unusedSimpArgs false
open Go Go.Sp Go.RowKit

def fullK (m : UInt8) (k : Nat) : Nat → UInt8 := fun i => if i < k then m else 0
theorem fullK_step (m : UInt8) (k : Nat) (x : Int) (hx : x = (m.toNat : Int)) : ∀ j, j < 128 → (if j = k then Value.int .u8 x else u8v (fullK m k) j) = u8v (fullK m (k + 1)) j := by
  intro j _
  simp only [u8v, fullK]
  by_cases h : j = k
  · rw [if_pos h, if_pos (by omega), hx]
  · rw [if_neg h]
    by_cases h1 : j < k
    · rw [if_pos h1, if_pos (by omega)]
    · rw [if_neg h1, if_neg (by omega)]
theorem full_any (m : UInt8) (x : Int) (hx : x = (m.toNat : Int)) (w : World) : Calls Try.prog 18 #[.int .u8 x] w fun e w' => e = .returned (bytesV 128 fun _ => m) ∧ Tr w [] w' [] := by
  have hs := Tr.refl w []
  have H0 : Hid (rowOf 128 (u8v fun _ => 0) = rowOf 128 (u8v (fullK m 0))) := Lib.hid (rowOf_congr fun i hi => by simp [u8v, fullK])
  have HB : Hid (bytesV 128 (fullK m 128) = bytesV 128 fun _ => m) := Lib.hid (bytesV_congr fun i hi => by simp only [fullK]; rw [if_pos hi])
  have HX := Lib.hid hx
  clear hx
  go_enter Try.func18, Try.ntmps18
  go_upto_region 1 with (first | ((with_reducible refine at_alloc rfl ?_); refine wl_allocA hs rfl rfl zero30 ?_; clear hs; intro w1 b1 hs))
  go_wp2_with (first | ((with_reducible refine at_alloc rfl ?_); refine wl_allocA hs rfl rfl zero30 ?_; clear hs; intro w1 b2 hs))
  go_loopw [4] (fun i wr => ∃ k : Nat, k ≤ 128 ∧ i = .int .i64 k ∧ Tr w [] wr [Res.blk b2 (rowOf 128 (u8v (fullK m k))) 30, Res.blk b1 (rowOf 128 (u8v fun _ => 0)) 30]) (fun i _ => 128 - (intOf i).toNat)
  case atStart => exact ⟨0, by omega, rfl, by rw [← H0.out]; exact hs⟩
  case round =>
    clear hs
    obtain ⟨k, hk, rfl, hs⟩ := hrel
    by_cases hlt : k < 128
    · have hlt2 : (k : Int) < 128 := by omega
      go_wp2_with (first | ((with_reducible refine at_store rfl ?_); refine wl_store1R hs rfl rfl size5 rfl rfl rfl 0 rfl (by omega) (u8v (fullK m (k + 1))) (fullK_step m k x HX.out) ?_; clear hs; intro w1 hs))
      go_roundw
      case rel => exact ⟨k + 1, by omega, by go_num, hs⟩
      case measure => simp [intOf]; omega
    · obtain rfl : k = 128 := by omega
      go_wp2_with (first | ((with_reducible refine at_load rfl ?_); refine wl_loadB hs rfl rfl Try.underlying30 rfl 0 rfl size30 ?_) | ((with_reducible refine at_store rfl ?_); refine wl_storeA hs rfl rfl rfl rfl (size30r _) (one30 _) 1 rfl (by simp only [rowOf_size]) ?_; clear hs; intro w1 hs))
      refine ret_cell hs rfl rfl Try.underlying30 rfl rfl 1 rfl (size30r _) ⟨?_, hs.letgo⟩
      rw [← HB.out]
      rfl

theorem marked_any (m : UInt8) (x : Int) (hx : x = (m.toNat : Int)) (F : Nat → UInt8) (n c : Nat) (ao : Option Addr) (db doff : Nat) (w : World) (hn : n ≤ 9223372036854775807) (hao : 0 < n → ao = some ⟨db, doff, none⟩) (hrd : Rd w db doff (n * 128) (u8v F)) (hF : ∀ i, i < n * 128 → F i = m) :
    Calls Try.prog 21 #[.slice ao n c, .int .u8 x] w fun e w' => e = .returned (.bool true) ∧ Tr w [] w' [] := by
  have hs := Tr.refl w []
  have HA := Lib.hid hao
  have HV : Hid (∀ k j, k < n → j < 128 → ∀ w' L, Tr w [] w' L → w'.cell? ⟨db, doff + k * 128 + j * 1, none⟩ = some (.int .u8 x)) := Lib.hid fun k j hk hj w' L h => by
    have := hrd.keep h (k * 128 + j) (by omega)
    rw [show doff + k * 128 + j * 1 = doff + (k * 128 + j) by omega, this, hx, ← hF (k * 128 + j) (by omega)]
    rfl
  clear hao hrd hF hx
  go_enter Try.func21, Try.ntmps21
  go_wp2
  go_loopw [5] (fun i wr => ∃ k : Nat, k ≤ n ∧ i = .int .i64 k ∧ Tr w [] wr []) (fun i _ => n - (intOf i).toNat)
  case atStart => exact ⟨0, by omega, rfl, hs⟩
  case round =>
    clear hs
    obtain ⟨k, hk, rfl, hs⟩ := hrel
    by_cases hlt : k < n
    · have hlt2 : (k : Int) < n := by omega
      obtain rfl := HA.out (by omega)
      have HVk := Lib.hid (fun j hj => HV.out k j hlt hj)
      go_wp2
      go_loopw [6] (fun i wr => ∃ j : Nat, j ≤ 128 ∧ i = .int .i64 j ∧ Tr w [] wr []) (fun i _ => 128 - (intOf i).toNat)
      case atStart => exact ⟨0, by omega, rfl, hs⟩
      case round =>
        clear hs
        obtain ⟨j, hj, rfl, hs⟩ := hrel
        by_cases hjt : j < 128
        · have hjt2 : (j : Int) < 128 := by omega
          go_wp2_with (first
            | ((with_reducible refine (at_index (t := 25)) rfl ?_); refine wl_index rfl rfl Try.underlying25 size30 rfl rfl k rfl hlt rfl ?_)
            | ((with_reducible refine (at_index (t := 30)) rfl ?_); refine wl_run rfl (ex_indexA rfl Try.underlying30 size5 rfl rfl j rfl hjt) ?_)
            | ((with_reducible refine at_load rfl ?_); refine wl_loadC rfl rfl Try.underlying5 rfl rfl (HVk.out j hjt _ _ hs) ?_))
          go_roundw
          case rel => exact ⟨j + 1, by omega, by go_num, hs⟩
          case measure => simp [intOf]; omega
        · obtain rfl : j = 128 := by omega
          go_wp2
          go_roundw
          case rel => exact ⟨k + 1, by omega, by go_num, hs⟩
          case measure => simp [intOf]; omega
    · obtain rfl : k = n := by omega
      go_wp2
      go_ret
      exact ⟨rfl, hs⟩
end Go.Proofs.Ytlekfbcmjcgabaa
