/- The small functions of the seat: contracts. -/
import Derived.Test.YtlekfbcmjcgabaaRows
import Derived.Test.YtlekfbcmjcgabaaWl
import Derived.Test.YtlekfbcmjcgabaaWq
import Derived.Test.YtlekfbcmjcgabaaPlain
import Derived.BigQuiet
import Derived.WalkSpells
import Derived.WalkLawsBesides
namespace Go.Proofs.Ytlekfbcmjcgabaa
open Go Go.Sp Go.RowKit

theorem ret_int {k : IntKind} {a b : Int} (h : a = b) : Ending.returned (.int k a) = .returned (.int k b) := by rw [h]
theorem ret_bool {a b : Bool} (h : a = b) : Ending.returned (.bool a) = .returned (.bool b) := by rw [h]

/-! closed facts on the types -/
theorem zero30 : (Try.prog.info? 30).map (·.zero) = some (some (.agg (rowOf 128 (u8v fun _ => 0)))) := by kernel_rfl
theorem size30 : (Try.prog.info? 30).map (·.size) = some 128 := by kernel_rfl
theorem size30r (f : Nat → Value) : (Try.prog.info? 30).map (·.size) = some (rowOf 128 f).size := by rw [rowOf_size]; kernel_rfl
theorem size5 : (Try.prog.info? 5).map (·.size) = some 1 := by kernel_rfl
theorem isz5 : (Try.prog.info? 5).isSome = true := by kernel_rfl
theorem zero5 : (Try.prog.info? 5).map (·.zero) = some (some (.int .u8 0)) := by kernel_rfl
theorem info5 : (Try.prog.info? 5).map (fun i => (i.zero, i.size, i.bytes)) = some (some (.int .u8 0), 1, 1) := by kernel_rfl
theorem info30 : (Try.prog.info? 30).map (fun i => (i.zero, i.size, i.bytes)) = some (some (.agg (rowOf 128 (u8v fun _ => 0))), 128, 128) := by kernel_rfl
theorem cells_agg (cs : Array Value) : (Value.agg cs).cells = cs := rfl
theorem zc30 : (Value.agg (rowOf 128 (u8v fun _ => 0))).cells.size = 128 := by rw [cells_agg, rowOf_size]
theorem eqg30 : Try.prog.eqGuardType Try.prog.depth 30 = false := by kernel_rfl
theorem one30 (F : Nat → UInt8) : ∀ v ∈ (rowOf 128 (u8v F)).toList, v.oneCell' = true := rowOf_one _ _ fun _ _ => rfl

def within (at' n : Int) : Bool := decide (0 ≤ at' ∧ n ≤ 128 ∧ at' ≤ 128 - n)
theorem within_true {a n : Int} (h0 : 0 ≤ a) (h1 : n ≤ 128) (h2 : a ≤ 128 - n) : within a n = true := decide_eq_true ⟨h0, h1, h2⟩
theorem within_iff {a n : Int} : within a n = true ↔ 0 ≤ a ∧ n ≤ 128 ∧ a ≤ 128 - n := by simp [within]
theorem within_false {a n : Int} : within a n = false ↔ ¬ (0 ≤ a ∧ n ≤ 128 ∧ a ≤ 128 - n) := by rw [within, decide_eq_false_iff_not]

theorem within_any (at' n : Int) (w : World) (h0 : 0 ≤ n) (h1 : n ≤ 9223372036854775807) : Calls Try.prog 31 #[.int .i64 at', .int .i64 n] w fun e w' => e = .returned (.bool (within at' n)) ∧ w = w' := by
  go_enter Try.func31, Try.ntmps31
  go_wp2
  all_goals go_ret
  all_goals exact ⟨ret_bool (by rw [Bool.eq_iff_iff, within_iff]; simp; try omega), rfl⟩

theorem fits_any (at' n : Int) (w : World) (h0 : 0 ≤ n) (h1 : n ≤ 9223372036854775807) : Calls Try.prog 37 #[.int .i64 at', .int .i64 n] w fun e w' => e = .returned (.bool (within at' n)) ∧ w = w' := by
  go_enter Try.func37, Try.ntmps37
  go_wp2
  all_goals go_ret
  all_goals exact ⟨ret_bool (by rw [Bool.eq_iff_iff, within_iff]; simp; try omega), rfl⟩

/-- which of n things -/
def pick (c n : Int) : Int := (if c < 0 then -(c + 1) else c) % n
theorem pick_bd (c n : Int) (h : 1 ≤ n) : 0 ≤ pick c n ∧ pick c n < n := ⟨Int.emod_nonneg _ (by omega), Int.emod_lt_of_pos _ (by omega)⟩

theorem pick_any (c n : Int) (w : World) (h0 : 1 ≤ n) (h1 : n ≤ 9223372036854775807) (h2 : -9223372036854775808 ≤ c) (h3 : c ≤ 9223372036854775807) :
    Calls Try.prog 26 #[.int .i64 c, .int .i64 n] w fun e w' => e = .returned (.int .i64 (pick c n)) ∧ w = w' := by
  by_cases h : c < 0
  · go_enter Try.func26, Try.ntmps26
    go_wp2
    go_ret
    refine ⟨ret_int ?_, rfl⟩
    rw [pick, if_pos h]
    first
      | exact Int.tmod_eq_emod_of_nonneg (by omega)
      | (rw [← Int.neg_tmod]; exact Int.tmod_eq_emod_of_nonneg (by omega))
  · have h' : 0 ≤ c := by omega
    go_enter Try.func26, Try.ntmps26
    go_wp2
    go_ret
    exact ⟨ret_int (by rw [pick, if_neg (by omega)]), rfl⟩

theorem zero_any (F : Nat → UInt8) (w : World) : Calls Try.prog 28 #[bytesV 128 F] w fun e w' => e = .returned (.bool (eqB 128 F fun _ => 0)) ∧ Tr w [] w' [] := by
  have hs := Tr.refl w []
  go_enter Try.func28, Try.ntmps28
  go_wp2_with (first
    | ((with_reducible refine at_box rfl ?_); refine wl_boxA hs rfl rfl rfl ?_; clear hs; intro w1 b hs)
    | ((with_reducible refine at_load rfl ?_); refine wl_loadB hs rfl rfl Try.underlying30 rfl 0 rfl size30 ?_)
    | ((with_reducible refine at_build rfl ?_); refine wl_build0B rfl rfl Try.underlying30 (F := fun _ => 0) zero30 isz5 ?_)
    | ((with_reducible refine (at_bin .eql) rfl ?_); refine wl_eqlB rfl rfl Try.underlying30 Try.underlying5 size5 eqg30 (G := fun _ => 0) rfl rfl ?_))
  go_ret
  exact ⟨rfl, hs.letgo⟩

theorem wipe_cells (F : Nat → UInt8) (frm : Int) (k : Nat) (h : k ≤ 128) (hk : (k : Int) = max frm 0) : ∀ j, j < 128 → (if k ≤ j ∧ j < k + (128 - k) then Value.int .u8 0 else u8v F j) = u8v (wipeF F frm) j := by
  intro j hj
  by_cases hc : k ≤ j
  · rw [if_pos (by omega)]; simp only [u8v, wipeF]; rw [if_pos (by omega)]; rfl
  · rw [if_neg (by omega)]; simp only [u8v, wipeF]; rw [if_neg (by omega)]

theorem wipe_mid (F : Nat → UInt8) (frm : Int) (w : World) (h0 : 0 ≤ frm) (h : frm < 128) : Calls Try.prog 27 #[bytesV 128 F, .int .i64 frm] w fun e w' => e = .returned (bytesV 128 (wipeF F frm)) ∧ Tr w [] w' [] := by
  have hs := Tr.refl w []
  have hk : frm.toNat < 128 := by omega
  go_enter Try.func27, Try.ntmps27
  go_wp2_with (first
    | ((with_reducible refine at_box rfl ?_); refine wl_boxA hs rfl rfl rfl ?_; clear hs; intro w1 b hs)
    | ((with_reducible refine at_alloc rfl ?_); refine wl_allocA hs rfl rfl zero30 ?_; clear hs; intro w1 b2 hs)
    | ((with_reducible refine at_load rfl ?_); refine wl_loadB hs rfl rfl Try.underlying30 rfl 1 rfl size30 ?_)
    | ((with_reducible refine at_store rfl ?_); refine wl_storeA hs rfl rfl rfl rfl (size30r _) (one30 _) 0 rfl (by simp only [rowOf_size]) ?_; clear hs; intro w1 hs)
    | ((with_reducible refine at_slice rfl ?_); refine wl_sliceA rfl rfl Try.underlying30 size5 rfl frm.toNat 128 (Or.inr ⟨_, _, rfl, (by rw [Int.toNat_of_nonneg h0]; rfl)⟩) (Or.inl ⟨rfl, rfl⟩) (by omega) (by omega) ?_; intro ao hao)
    | ((with_reducible refine (at_bi .clear) rfl ?_); refine wl_clear hs rfl rfl Try.underlying23 zero5 rfl rfl rfl 1 rfl frm.toNat (fun hh => by rw [hao (by omega)]; simp) (by omega) (u8v (wipeF F frm)) (wipe_cells F frm _ (by omega) (by omega)) ?_; clear hs hao; intro w1 hs))
  exact ret_cell hs rfl rfl Try.underlying30 rfl rfl 0 rfl (size30r _) ⟨rfl, hs.letgo⟩

theorem wipe_lo (F : Nat → UInt8) (frm : Int) (w : World) (h : frm < 0) : Calls Try.prog 27 #[bytesV 128 F, .int .i64 frm] w fun e w' => e = .returned (bytesV 128 (wipeF F frm)) ∧ Tr w [] w' [] := by
  have hs := Tr.refl w []
  go_enter Try.func27, Try.ntmps27
  go_wp2_with (first
    | ((with_reducible refine at_box rfl ?_); refine wl_boxA hs rfl rfl rfl ?_; clear hs; intro w1 b hs)
    | ((with_reducible refine at_alloc rfl ?_); refine wl_allocA hs rfl rfl zero30 ?_; clear hs; intro w1 b2 hs)
    | ((with_reducible refine at_load rfl ?_); refine wl_loadB hs rfl rfl Try.underlying30 rfl 1 rfl size30 ?_)
    | ((with_reducible refine at_store rfl ?_); refine wl_storeA hs rfl rfl rfl rfl (size30r _) (one30 _) 0 rfl (by simp only [rowOf_size]) ?_; clear hs; intro w1 hs)
    | ((with_reducible refine (at_bi .clear) rfl ?_); refine wl_clear hs rfl rfl Try.underlying23 zero5 rfl rfl rfl 1 rfl 0 (fun hh => rfl) (by omega) (u8v (wipeF F frm)) (wipe_cells F frm 0 (by omega) (by omega)) ?_; clear hs; intro w1 hs))
  exact ret_cell hs rfl rfl Try.underlying30 rfl rfl 0 rfl (size30r _) ⟨rfl, hs.letgo⟩

theorem wipe_hi (F : Nat → UInt8) (frm : Int) (w : World) (h : 128 ≤ frm) : Calls Try.prog 27 #[bytesV 128 F, .int .i64 frm] w fun e w' => e = .returned (bytesV 128 (wipeF F frm)) ∧ Tr w [] w' [] := by
  have hs := Tr.refl w []
  have hF : Ending.returned (bytesV 128 F) = .returned (bytesV 128 (wipeF F frm)) := by
    rw [bytesV_congr (F := F) (G := wipeF F frm)]
    intro i hi
    simp only [wipeF]; rw [if_neg (by omega)]
  have HF := Lib.hid hF
  clear hF
  go_enter Try.func27, Try.ntmps27
  go_wp2_with (first
    | ((with_reducible refine at_box rfl ?_); refine wl_boxA hs rfl rfl rfl ?_; clear hs; intro w1 b hs)
    | ((with_reducible refine at_alloc rfl ?_); refine wl_allocA hs rfl rfl zero30 ?_; clear hs; intro w1 b2 hs)
    | ((with_reducible refine at_load rfl ?_); refine wl_loadB hs rfl rfl Try.underlying30 rfl 1 rfl size30 ?_)
    | ((with_reducible refine at_store rfl ?_); refine wl_storeA hs rfl rfl rfl rfl (size30r _) (one30 _) 0 rfl (by simp only [rowOf_size]) ?_; clear hs; intro w1 hs))
  exact ret_cell hs rfl rfl Try.underlying30 rfl rfl 0 rfl (size30r _) ⟨HF.out, hs.letgo⟩

theorem wipe_any (F : Nat → UInt8) (frm : Int) (w : World) : Calls Try.prog 27 #[bytesV 128 F, .int .i64 frm] w fun e w' => e = .returned (bytesV 128 (wipeF F frm)) ∧ Tr w [] w' [] := by
  by_cases h : frm < 0
  · exact wipe_lo F frm w h
  · by_cases h2 : frm < 128
    · exact wipe_mid F frm w (by omega) h2
    · exact wipe_hi F frm w (by omega)
end Go.Proofs.Ytlekfbcmjcgabaa
