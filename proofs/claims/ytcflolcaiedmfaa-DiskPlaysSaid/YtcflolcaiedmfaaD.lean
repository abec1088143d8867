/- laid, From, Restart: contracts. -/
import Derived.Test.YtcflolcaiedmfaaC
import Derived.Test.YtcflolcaiedmfaaOpen3
namespace Go.Proofs.Ytcflolcaiedmfaa
set_option linter.unusedVariables false
set_option linter.unusedSimpArgs false
open Go Go.Sp Go.RowKit Go.BigFrame

theorem of_bytes {v : Value} {F : Nat → UInt8} {w : World} (h : isBytes w v F) : Calls Try.prog 22 #[v] w fun e w' => e = .returned (bytesV 128 F) ∧ Tr w [] w' [] := by
  obtain ⟨ao, n, c, db, doff, G, rfl, h2, h3, h4, rfl⟩ := h
  exact of_any G n c ao db doff w h3 h4

def kM : Nat → UInt8 := fun i => if i = 0 then 109 else if i = 1 then 97 else if i = 2 then 114 else 107
theorem kcM : (#[.int .u8 109, .int .u8 97, .int .u8 114, .int .u8 107] : Array Value) = rowOf 4 (u8v kM) := by
  refine rowOf_ext rfl fun i hi => ?_
  match i, hi with
  | 0, _ => rfl
  | 1, _ => rfl
  | 2, _ => rfl
  | 3, _ => rfl

def part1 (SF : Nat → Nat → UInt8) (k : Nat) : Nat → UInt8 := fun j => if j / 128 < k then SF (j / 128) (j % 128) else 0
def part2 (n : Nat) (SF : Nat → Nat → UInt8) (k : Nat) : Nat → UInt8 := fun j => if j / 128 < n then SF (j / 128) (j % 128) else if j / 128 < k then ofF 4 kM (j % 128) else 0
/-- Sectors that begin with these bytes, three marked ones behind them. -/
def laidF (n : Nat) (SF : Nat → Nat → UInt8) : Nat → UInt8 := part2 n SF (n + 3)

theorem part1_step (SF : Nat → Nat → UInt8) (k : Nat) (j : Nat) : (if k * 128 ≤ j ∧ j < k * 128 + 128 then u8v (SF k) (j - k * 128) else u8v (part1 SF k) j) = u8v (part1 SF (k + 1)) j := by
  simp only [u8v, part1]
  by_cases h : k * 128 ≤ j ∧ j < k * 128 + 128
  · have h1 : j / 128 = k := by omega
    have h2 : j % 128 = j - k * 128 := by omega
    rw [if_pos h, h1, if_pos (by omega), h2]
  · rw [if_neg h]
    by_cases h1 : j / 128 < k
    · rw [if_pos h1, if_pos (by omega)]
    · rw [if_neg h1, if_neg (by omega)]
theorem part2_step (n : Nat) (SF : Nat → Nat → UInt8) (k : Nat) (hk : n ≤ k) (j : Nat) : (if k * 128 ≤ j ∧ j < k * 128 + 128 then u8v (ofF 4 kM) (j - k * 128) else u8v (part2 n SF k) j) = u8v (part2 n SF (k + 1)) j := by
  simp only [u8v, part2]
  by_cases h : k * 128 ≤ j ∧ j < k * 128 + 128
  · have h1 : j / 128 = k := by omega
    have h2 : j % 128 = j - k * 128 := by omega
    rw [if_pos h, h1, if_neg (by omega), if_pos (by omega), h2]
  · rw [if_neg h]
    by_cases h0 : j / 128 < n
    · rw [if_pos h0, if_pos h0]
    · rw [if_neg h0, if_neg h0]
      by_cases h1 : j / 128 < k
      · rw [if_pos h1, if_pos (by omega)]
      · rw [if_neg h1, if_neg (by omega)]
theorem part12 (n : Nat) (SF : Nat → Nat → UInt8) : part1 SF n = part2 n SF n := by
  funext j
  simp only [part1, part2]
  by_cases h : j / 128 < n
  · rw [if_pos h, if_pos h]
  · rw [if_neg h, if_neg h, if_neg h]
theorem part1_zero (SF : Nat → Nat → UInt8) : part1 SF 0 = fun _ => 0 := by
  funext j
  simp only [part1]
  rw [if_neg (by omega)]

set_option maxHeartbeats 1000000 in
theorem laid_any (n cap : Nat) (ao : Option Addr) (db doff : Nat) (V : Nat → Value) (SF : Nat → Nat → UInt8) (w : World) (hn : n ≤ 5000) (hao : 0 < n → ao = some ⟨db, doff, none⟩) (hV : Rd w db doff n V) (hB : ∀ i, i < n → isBytes w (V i) (SF i)) :
    Calls Try.prog 25 #[.slice ao n cap] w fun e w' => ∃ b, e = .returned (.slice (some ⟨b, 0, none⟩) (n + 3) (n + 3)) ∧ Tr w [] w' [Res.blk b (rowOf ((n + 3) * 128) (u8v (laidF n SF))) 40] := by
  have hs := Tr.refl w []
  have HV := Lib.hid hV
  have HB := Lib.hid hB
  have HA := Lib.hid hao
  clear hV hB hao
  go_enter Try.func25, Try.ntmps25
  go_wp2_with (first
    | ((with_reducible refine at_mk rfl ?_); refine wl_make hs rfl rfl Try.underlying30 info40 (n + 3) rfl rfl (by omega) (by omega) (by omega) (u8v fun _ => 0) (zmake _) ?_; clear hs; intro w1 b hs))
  go_loopw [4] (fun i wr => ∃ k : Nat, k ≤ n ∧ i = .int .i64 k ∧ Tr w [] wr [Res.blk b (rowOf ((n + 3) * 128) (u8v (part1 SF k))) 40]) (fun i _ => n - (intOf i).toNat)
  case atStart => exact ⟨0, by omega, rfl, by rw [part1_zero]; exact hs⟩
  case round =>
    clear hs
    obtain ⟨k, hk, rfl, hs⟩ := hrel
    by_cases hlt : k < n
    · have hlt2 : (k : Int) < n := by omega
      obtain rfl := HA.out (by omega)
      go_wp2_with (first
        | ((with_reducible refine at_load rfl ?_); refine wl_loadC rfl rfl Try.underlying42 rfl rfl ((HV.out.keep hs) k hlt) ?_)
        | (go_at_call 22; refine (of_bytes ((HB.out k hlt).keep hs)).mono ?_; rintro e w2 ⟨rfl, hc⟩; replace hs := hs.call0 hc; clear hc)
        | ((with_reducible refine at_index rfl ?_); refine wl_index rfl rfl Try.underlying30 size40 rfl rfl k rfl (by omega) rfl ?_)
        | ((with_reducible refine at_store rfl ?_); refine wl_storeM hs rfl rfl rfl rfl size40 (fun _ _ => rfl) 0 rfl (by omega) (u8v (part1 SF (k + 1))) (fun j _ => by rw [Nat.zero_add]; exact part1_step SF k j) ?_; clear hs; intro w1 hs))
      go_roundw
      case rel => exact ⟨k + 1, by omega, by go_num, hs⟩
      case measure => simp [intOf]; omega
    · obtain rfl : k = n := by omega
      rw [part12] at hs
      go_wp2_with fail
      go_loopw [5] (fun i wr => ∃ j : Nat, k ≤ j ∧ j ≤ k + 3 ∧ i = .int .i64 j ∧ Tr w [] wr [Res.blk b (rowOf ((k + 3) * 128) (u8v (part2 k SF j))) 40]) (fun i _ => k + 3 - (intOf i).toNat)
      case atStart => exact ⟨k, by omega, by omega, rfl, hs⟩
      case round =>
        clear hs
        obtain ⟨j, hj1, hj2, rfl, hs⟩ := hrel
        by_cases hlt3 : j < k + 3
        · have hlt2 : (j : Int) < ((k + 3 : Nat) : Int) := by omega
          go_wp2_with (first
            | ((with_reducible refine at_buildSlice rfl ?_); refine wl_buildSliceV hs rfl rfl Try.underlying42 info5 (by omega) (by omega) [.int .u8 109, .int .u8 97, .int .u8 114, .int .u8 107] rfl rfl (by simp [Value.oneCell']) ?_; clear hs; intro w1 b2 hs; rw [kcM] at hs)
            | ((with_reducible refine at_conv rfl ?_); refine wl_convConst hs rfl rfl Try.underlying42 Try.underlying5 rfl 0 rfl ?_; clear hs; intro w1 hs)
            | (go_at_call 22; refine (of_any kM 4 4 _ b2 0 _ (fun _ => rfl) (hs.obj_rd 0 rfl (by omega))).mono ?_; rintro e w2 ⟨rfl, hc⟩; replace hs := hs.call0 hc; clear hc)
            | ((with_reducible refine at_index rfl ?_); refine wl_index rfl rfl Try.underlying30 size40 rfl rfl j rfl (by omega) rfl ?_)
            | ((with_reducible refine at_store rfl ?_); refine wl_storeM hs rfl rfl rfl rfl size40 (fun _ _ => rfl) 1 rfl (by omega) (u8v (part2 k SF (j + 1))) (fun i _ => by rw [Nat.zero_add]; exact part2_step k SF j hj1 i) ?_; clear hs; intro w1 hs))
          go_roundw
          case rel => exact ⟨j + 1, by omega, by omega, by go_num, hs.erase 0⟩
          case measure => simp [intOf]; omega
        · obtain rfl : j = k + 3 := by omega
          go_wp2
          go_ret
          exact ⟨_, rfl, hs⟩

theorem from_ok (n cap : Nat) (sb so : Nat) (f : Nat → UInt8) (w : World) (h1 : 1 ≤ n) (h2 : n ≤ 4096) (hrd : Rd w sb so (n * 128) (u8v f)) :
    Calls Try.prog 26 #[.slice (some ⟨sb, so, none⟩) n cap] w fun e w' => ∃ d s, e = .returned (.tuple #[.pointer (some ⟨d, 0, none⟩), .int .i64 0]) ∧ Tr w [] w' [diskR d s n f 0 false false 0] := by
  have hs := Tr.refl w []
  have HR := Lib.hid hrd
  clear hrd
  go_enter Try.func26, Try.ntmps26
  go_wp2_with (first
    | (go_at_call 11; refine (new_ok n _ h1 h2).mono ?_; rintro e w2 ⟨d, s, rfl, hc⟩; replace hs := (hs.call1 hc).split2; clear hc)
    | ((with_reducible refine at_load rfl ?_); refine wl_load1 hs rfl rfl Try.underlying30 rfl rfl 0 rfl rfl ?_)
    | ((with_reducible refine (at_bi .copy) rfl ?_); refine wl_copy hs rfl rfl Try.underlying30 size40 rfl rfl n (by omega) 1 rfl 0 (fun _ => rfl) (by omega) sb so (u8v f) (fun _ => rfl) (HR.out.keep hs) (fun _ _ => rfl) (u8v f) (fun j hj => by rw [if_pos (by omega), Nat.sub_zero]) ?_; clear hs; intro w1 hs))
  go_ret2
  exact ⟨_, _, rfl, hs.join2⟩

theorem restart_any {d s n : Nat} {f : Nat → UInt8} {wr : Int} {off armed : Bool} {left : Int} {w : World} (h : (diskR d s n f wr off armed left).holds w) :
    Calls Try.prog 29 #[.pointer (some ⟨d, 0, none⟩)] w fun e w' => ∃ v, e = .returned v ∧ Tr w (diskR d s n f wr off armed left).foot w' [diskR d s n f wr false false 0] := by
  have hs := Tr.open2 h
  clear h
  go_enter Try.func29, Try.ntmps29
  go_wp2_with (first | ((with_reducible refine at_store rfl ?_); refine wl_storeS hs rfl rfl rfl rfl size74 (by simp [Value.oneCell']) 0 rfl (by simp) _ rfl ?_; clear hs; intro w1 hs))
  exact bodyPost_end (results_none rfl _ _ _) rfl ⟨⟨_, rfl⟩, hs.join2⟩
end Go.Proofs.Ytcflolcaiedmfaa
