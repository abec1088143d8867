/- Numbers in sectors; pointers read. -/
import Derived.Test.YtdlnfdlgnbkppaaRows
import Derived.Test.YtdlnfdlgnbkppaaWl
import Derived.Test.YtdlnfdlgnbkppaaWq
import Derived.Test.YtdlnfdlgnbkppaaMo
import Derived.Test.YtdlnfdlgnbkppaaPlain
import Derived.BigQuiet
import Derived.WalkSpells
import Derived.WalkLawsBesides
import Derived.Deep.DeepCutAuto
namespace Go.Proofs.Ytdlnfdlgnbkppaa
set_option linter.unusedVariables false
set_option linter.unusedSimpArgs false
open Go Go.Sp Go.RowKit

theorem ret_int {k : IntKind} {a b : Int} (h : a = b) : Ending.returned (.int k a) = .returned (.int k b) := by rw [h]
theorem ret_bool {a b : Bool} (h : a = b) : Ending.returned (.bool a) = .returned (.bool b) := by rw [h]
/-- Numbers as cells. -/
def gI (G : Nat → Int) : Nat → Value := fun i => .int .i64 (G i)
@[simp] theorem gI_one (G : Nat → Int) (i : Nat) : (gI G i).oneCell' = true := rfl

theorem zero83 : (Try.prog.info? 83).map (·.zero) = some (some (.agg (rowOf 128 (u8v fun _ => 0)))) := by kernel_rfl
theorem size83 : (Try.prog.info? 83).map (·.size) = some 128 := by kernel_rfl
theorem size83r (f : Nat → Value) : (Try.prog.info? 83).map (·.size) = some (rowOf 128 f).size := by rw [rowOf_size]; kernel_rfl
theorem one83 (F : Nat → UInt8) : ∀ v ∈ (rowOf 128 (u8v F)).toList, v.oneCell' = true := rowOf_one _ _ fun _ _ => rfl
theorem isz5 : (Try.prog.info? 5).isSome = true := by kernel_rfl
theorem isz3 : (Try.prog.info? 3).isSome = true := by kernel_rfl
theorem size5 : (Try.prog.info? 5).map (·.size) = some 1 := by kernel_rfl
theorem size3 : (Try.prog.info? 3).map (·.size) = some 1 := by kernel_rfl
theorem zero69 : (Try.prog.info? 69).map (·.zero) = some (some (.agg (rowOf 32 (gI fun _ => 0)))) := by kernel_rfl
theorem size69 (f : Nat → Value) : (Try.prog.info? 69).map (·.size) = some (rowOf 32 f).size := by rw [rowOf_size]; kernel_rfl
theorem size69n : (Try.prog.info? 69).map (·.size) = some 32 := by kernel_rfl
theorem zero29 : (Try.prog.info? 29).map (·.zero) = some (some (.agg (rowOf 18 (gI fun _ => 0)))) := by kernel_rfl
theorem size29 (f : Nat → Value) : (Try.prog.info? 29).map (·.size) = some (rowOf 18 f).size := by rw [rowOf_size]; kernel_rfl
theorem oneI (n : Nat) (G : Nat → Int) : ∀ v ∈ (rowOf n (gI G)).toList, v.oneCell' = true := rowOf_one _ _ fun _ _ => rfl
theorem rowOf_gI {n i : Nat} {G : Nat → Int} (h : i < n) : (rowOf n (gI G))[i]? = some (.int .i64 (G i)) := rowOf_get h

def within (at' n : Int) : Bool := decide (0 ≤ at' ∧ n ≤ 128 ∧ at' ≤ 128 - n)
theorem within_true {a n : Int} (h0 : 0 ≤ a) (h1 : n ≤ 128) (h2 : a ≤ 128 - n) : within a n = true := decide_eq_true ⟨h0, h1, h2⟩
theorem within_iff {a n : Int} : within a n = true ↔ 0 ≤ a ∧ n ≤ 128 ∧ a ≤ 128 - n := by simp [within]
theorem within_any (at' n : Int) (w : World) (h0 : 0 ≤ n) (h1 : n ≤ 9223372036854775807) : Calls Try.prog 43 #[.int .i64 at', .int .i64 n] w fun e w' => e = .returned (.bool (within at' n)) ∧ w = w' := by
  go_enter Try.func43, Try.ntmps43
  go_wp2
  all_goals go_ret
  all_goals exact ⟨ret_bool (by rw [Bool.eq_iff_iff, within_iff]; simp; try omega), rfl⟩
theorem get_end {F : Nat → UInt8} {A W k : Nat} (hk : k < W) (h8 : W ≤ 8) (b : Int) (hb : b = ((F (A + W - 1 - k)).toNat : Int)) (x : Int) (hx : x = (num F (A + W - k) k : Nat) * 256) :
    Value.int .u64 (bits .or .u64 x b) = .int .u64 (num F (A + W - (k + 1)) (k + 1) : Nat) := by
  subst hb hx
  rw [or_byte _ _ (num_lt56 F _ k (by omega)) (F _).toNat_lt, num_down F (A + W) k (by omega)]
theorem get_any (F : Nat → UInt8) (A W : Nat) (w : World) (h1 : 1 ≤ W) (h8 : W ≤ 7) (h : A + W ≤ 128) :
    Calls Try.prog 42 #[bytesV 128 F, .int .i64 (A : Int), .int .i64 (W : Int)] w fun e w' => e = .returned (.tuple #[.int .i64 (num F A W : Nat), .int .i64 0]) ∧ Tr w [] w' [] := by
  have hs := Tr.refl w []
  have hw : within (A : Int) (W : Int) = true := within_true (by omega) (by omega) (by omega)
  have d1 : decide ((W : Int) < 1) = false := by simp; omega
  have d2 : decide (8 < (W : Int)) = false := by simp; omega
  go_enter Try.func42, Try.ntmps42
  go_wp2_with (first | ((with_reducible refine (at_box (t := 83)) rfl ?_); refine wl_boxA hs rfl rfl rfl ?_; clear hs; intro w1 b hs) | (go_at_call 43; refine (within_any _ _ _ (by omega) (by omega)).mono ?_; rintro e w2 ⟨rfl, rfl⟩))
  go_loop [8, 23] (fun v i => ∃ k : Nat, k ≤ W ∧ i = .int .i64 k ∧ v = .int .u64 (num F (A + W - k) k : Nat)) (fun _ i => W - (intOf i).toNat)
  case atStart => exact ⟨0, Nat.zero_le _, rfl, rfl⟩
  case round =>
    obtain ⟨k, hk, rfl, rfl⟩ := hrel
    by_cases hlt : k < W
    · have hlim := num_lt56 F (A + W - k) k (by omega)
      have hby := (F (A + W - 1 - k)).toNat_lt
      go_wp2_with (first | ((with_reducible refine at_load rfl ?_); refine wl_load1 hs rfl rfl Try.underlying5 rfl rfl 0 rfl (rowOf_u8 (by omega)) ?_))
      go_round
      case rel => exact ⟨k + 1, by omega, by go_num, get_end hlt (by omega) _ rfl _ rfl⟩
      case measure => simp [intOf]; omega
    · obtain rfl : k = W := by omega
      have hb : num F A k ≤ 4611686018427387904 := by have := num_lt56 F A k h8; omega
      go_wp2
      go_ret2
      exact ⟨rfl, hs.letgo⟩
theorem lget_any (F : Nat → UInt8) (A : Nat) (w : World) (h : A + 4 ≤ 128) :
    Calls Try.prog 40 #[bytesV 128 F, .int .i64 (A : Int), .int .i64 4] w fun e w' => e = .returned (.int .i64 (num F A 4 : Nat)) ∧ Tr w [] w' [] := by
  have hs := Tr.refl w []
  go_enter Try.func40, Try.ntmps40
  go_wp2_with (first | ((with_reducible refine (at_box (t := 83)) rfl ?_); refine wl_boxA hs rfl rfl rfl ?_; clear hs; intro w1 b hs) | ((with_reducible refine (at_load (t := 83)) rfl ?_); refine wl_loadB hs rfl rfl Try.underlying83 rfl 0 rfl size83 ?_) | (go_at_call 42; refine (get_any F A 4 _ (by omega) (by omega) h).mono ?_; rintro e w2 ⟨rfl, hc⟩; replace hs := hs.call0 hc; clear hc))
  go_ret
  exact ⟨rfl, hs.letgo⟩
/-- What a sector of pointers says. -/
def ptF (F : Nat → UInt8) : Nat → Int := fun i => (num F (4 * i) 4 : Nat)
def ptK (F : Nat → UInt8) (k : Nat) : Nat → Int := fun i => if i < k then ptF F i else 0
theorem ptK_put (F : Nat → UInt8) (k : Nat) (x : Int) (hx : x = (num F (4 * k) 4 : Nat)) : ∀ j, j < 32 → (if j = k then Value.int .i64 x else gI (ptK F k) j) = gI (ptK F (k + 1)) j := by
  intro j hj
  subst hx
  simp only [gI, ptK]
  by_cases h : j = k
  · subst h; rw [if_pos rfl, if_pos (by omega)]; rfl
  · rw [if_neg h]
    by_cases h2 : j < k
    · rw [if_pos h2, if_pos (by omega)]
    · rw [if_neg h2, if_neg (by omega)]
theorem ptK_zero (F : Nat → UInt8) : ptK F 0 = fun _ => 0 := by funext i; simp only [ptK]; rw [if_neg (by omega)]
theorem ptK_all (F : Nat → UInt8) : rowOf 32 (gI (ptK F 32)) = rowOf 32 (gI (ptF F)) := rowOf_congr fun i hi => by simp only [gI, ptK]; rw [if_pos hi]
set_option maxRecDepth 100000 in
theorem readp_any (F : Nat → UInt8) (w : World) : Calls Try.prog 32 #[bytesV 128 F] w fun e w' => e = .returned (.agg (rowOf 32 (gI (ptF F)))) ∧ Tr w [] w' [] := by
  have hs := Tr.refl w []
  go_enter Try.func32, Try.ntmps32
  go_upto_region 1 with (first | ((with_reducible refine (at_box (t := 83)) rfl ?_); refine wl_boxA hs rfl rfl rfl ?_; clear hs; intro w1 sb hs) | ((with_reducible refine (at_alloc (t := 69)) rfl ?_); refine wl_allocA hs rfl rfl zero69 ?_; clear hs; intro w1 rb hs))
  go_upto_region 2 with (first | ((with_reducible refine (at_alloc (t := 69)) rfl ?_); refine wl_allocA hs rfl rfl zero69 ?_; clear hs; intro w1 xb hs))
  rw [← ptK_zero F] at hs
  go_wp2_with fail
  go_loopw [5] (fun i wr => ∃ k : Nat, k ≤ 32 ∧ i = .int .i64 k ∧ Tr w [] wr [Res.blk xb (rowOf 32 (gI (ptK F k))) 69, Res.blk rb (rowOf 32 (gI (ptK F 0))) 69, Res.blk sb (rowOf 128 (u8v F)) 83]) (fun i _ => 32 - (intOf i).toNat)
  case atStart => exact ⟨0, by omega, rfl, hs⟩
  case round =>
    clear hs
    obtain ⟨k, hk, rfl, hs⟩ := hrel
    by_cases hlt : k < 32
    · have hltI : (k : Int) < 32 := by omega
      have HP := Lib.hid (ptK_put F k _ rfl)
      have HG := Lib.hid (fun w => lget_any F (4 * k) w (by omega))
      rw [show ((4 * k : Nat) : Int) = 4 * (k : Int) by omega] at HG
      go_wp2_with (first
        | ((with_reducible refine (at_load (t := 83)) rfl ?_); refine wl_loadB hs rfl rfl Try.underlying83 rfl 2 rfl size83 ?_)
        | (go_at_call 40; refine (HG.out _).mono ?_; rintro e w2 ⟨rfl, hc⟩; replace hs := hs.call0 hc; clear hc)
        | ((with_reducible refine (at_store (t := 3)) rfl ?_); refine wl_store1R hs rfl rfl size3 rfl rfl rfl 0 rfl hlt (gI (ptK F (k + 1))) HP.out ?_; clear hs; intro w1 hs))
      go_roundw
      case rel => exact ⟨k + 1, by omega, by go_num, hs⟩
      case measure => simp [intOf]; omega
    · obtain rfl : k = 32 := by omega
      rw [ptK_all F] at hs
      go_wp2_with (first
        | ((with_reducible refine (at_load (t := 69)) rfl ?_); refine wl_loadA hs rfl rfl Try.underlying69 rfl rfl 0 rfl (size69 _) ?_)
        | ((with_reducible refine (at_store (t := 69)) rfl ?_); refine wl_storeA hs rfl rfl rfl rfl (size69 _) (oneI 32 _) 1 rfl (by simp only [rowOf_size]) ?_; clear hs; intro w1 hs))
      exact ret_cell hs rfl rfl Try.underlying69 rfl rfl 1 rfl (size69 _) ⟨rfl, hs.letgo⟩
/-! The document's. -/
theorem says_any (F : Nat → UInt8) (A : Nat) (w : World) (h : A + 4 ≤ 128) :
    Calls Try.prog 41 #[bytesV 128 F, .int .i64 (A : Int), .int .i64 4] w fun e w' => e = .returned (.int .i64 (num F A 4 : Nat)) ∧ Tr w [] w' [] := by
  have hs := Tr.refl w []
  go_enter Try.func41, Try.ntmps41
  go_wp2_with (first | ((with_reducible refine (at_box (t := 83)) rfl ?_); refine wl_boxA hs rfl rfl rfl ?_; clear hs; intro w1 b hs))
  go_loop [7, 8] (fun v i => ∃ k : Nat, k ≤ 4 ∧ i = .int .i64 (3 - (k : Int)) ∧ v = .int .i64 (num F (A + 4 - k) k : Nat)) (fun _ i => (intOf i + 1).toNat)
  case atStart => exact ⟨0, by omega, rfl, rfl⟩
  case round =>
    obtain ⟨k, hk, rfl, rfl⟩ := hrel
    by_cases hlt : k < 4
    · have h3 : 0 ≤ 3 - (k : Int) := by omega
      have h7 : ((3 - (k : Int)) == 7) = false := by rw [beq_eq_false_iff_ne]; omega
      have hlim : num F (A + 4 - k) k < 16777216 := by have h1 := num_lt F k (A + 4 - k); have h2 := pow256_mono (show k ≤ 3 by omega); omega
      have hby := (F (A + 4 - 1 - k)).toNat_lt
      have hdn := num_down F (A + 4) k (by omega)
      have HL : Hid ((rowOf 128 (u8v F))[A + 4 - 1 - k]? = some (.int .u8 ((F (A + 4 - 1 - k)).toNat : Int))) := Lib.hid (rowOf_u8 (by omega))
      have hix : (A : Int) + (3 - (k : Int)) = ((A + 4 - 1 - k : Nat) : Int) := by omega
      generalize F (A + 4 - 1 - k) = c at *
      go_wp2_with (first | ((with_reducible refine at_index rfl ?_); refine wl_indexA1 rfl rfl Try.underlying83 size5 rfl rfl (A + 4 - 1 - k) (by first | exact hix | (rw [← hix]; go_num)) (by omega) ?_) | ((with_reducible refine at_load rfl ?_); refine wl_load1 hs rfl rfl Try.underlying5 rfl rfl 0 rfl HL.out ?_))
      go_round
      case rel => exact ⟨k + 1, by omega, by go_num, by rw [hdn]; first | done | go_num | (congr 1; unfold wrap64; omega)⟩
      case measure => simp [intOf]; omega
    · obtain rfl : k = 4 := by omega
      go_wp2
      go_ret
      exact ⟨rfl, hs.letgo⟩
set_option maxRecDepth 100000 in
theorem rreadp_any (F : Nat → UInt8) (w : World) : Calls Try.prog 34 #[bytesV 128 F] w fun e w' => e = .returned (.agg (rowOf 32 (gI (ptF F)))) ∧ Tr w [] w' [] := by
  have hs := Tr.refl w []
  go_enter Try.func34, Try.ntmps34
  go_upto_region 1 with (first | ((with_reducible refine (at_box (t := 83)) rfl ?_); refine wl_boxA hs rfl rfl rfl ?_; clear hs; intro w1 sb hs) | ((with_reducible refine (at_alloc (t := 69)) rfl ?_); refine wl_allocA hs rfl rfl zero69 ?_; clear hs; intro w1 rb hs))
  go_upto_region 2 with (first | ((with_reducible refine (at_alloc (t := 69)) rfl ?_); refine wl_allocA hs rfl rfl zero69 ?_; clear hs; intro w1 xb hs))
  rw [← ptK_zero F] at hs
  go_wp2_with fail
  go_loopw [4] (fun i wr => ∃ k : Nat, k ≤ 32 ∧ i = .int .i64 k ∧ Tr w [] wr [Res.blk xb (rowOf 32 (gI (ptK F k))) 69, Res.blk rb (rowOf 32 (gI (ptK F 0))) 69, Res.blk sb (rowOf 128 (u8v F)) 83]) (fun i _ => 32 - (intOf i).toNat)
  case atStart => exact ⟨0, by omega, rfl, hs⟩
  case round =>
    clear hs
    obtain ⟨k, hk, rfl, hs⟩ := hrel
    by_cases hlt : k < 32
    · have hltI : (k : Int) < 32 := by omega
      have HP := Lib.hid (ptK_put F k _ rfl)
      have HG := Lib.hid (fun w => says_any F (4 * k) w (by omega))
      rw [show ((4 * k : Nat) : Int) = 4 * (k : Int) by omega] at HG
      go_wp2_with (first
        | ((with_reducible refine (at_load (t := 83)) rfl ?_); refine wl_loadB hs rfl rfl Try.underlying83 rfl 2 rfl size83 ?_)
        | (go_at_call 41; refine (HG.out _).mono ?_; rintro e w2 ⟨rfl, hc⟩; replace hs := hs.call0 hc; clear hc)
        | ((with_reducible refine (at_store (t := 3)) rfl ?_); refine wl_store1R hs rfl rfl size3 rfl rfl rfl 0 rfl hlt (gI (ptK F (k + 1))) HP.out ?_; clear hs; intro w1 hs))
      go_roundw
      case rel => exact ⟨k + 1, by omega, by go_num, hs⟩
      case measure => simp [intOf]; omega
    · obtain rfl : k = 32 := by omega
      rw [ptK_all F] at hs
      go_wp2_with (first
        | ((with_reducible refine (at_load (t := 69)) rfl ?_); refine wl_loadA hs rfl rfl Try.underlying69 rfl rfl 0 rfl (size69 _) ?_)
        | ((with_reducible refine (at_store (t := 69)) rfl ?_); refine wl_storeA hs rfl rfl rfl rfl (size69 _) (oneI 32 _) 1 rfl (by simp only [rowOf_size]) ?_; clear hs; intro w1 hs))
      exact ret_cell hs rfl rfl Try.underlying69 rfl rfl 1 rfl (size69 _) ⟨rfl, hs.letgo⟩
end Go.Proofs.Ytdlnfdlgnbkppaa
