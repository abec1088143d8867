/- sector.Splice, Get, Set: contracts. -/
import Derived.Test.YtlekfbcmjcgabaaRows
import Derived.Test.YtlekfbcmjcgabaaWl
import Derived.Test.YtlekfbcmjcgabaaWq
import Derived.Test.YtlekfbcmjcgabaaPlain
import Derived.BigQuiet
import Derived.WalkSpells
import Derived.WalkLawsBesides
import Derived.Test.YtlekfbcmjcgabaaA
namespace Go.Proofs.Ytlekfbcmjcgabaa
open Go Go.Sp Go.RowKit

theorem splice_cells (F G : Nat → UInt8) (A n : Nat) : ∀ j, j < 128 → (if A ≤ j ∧ j < A + n then u8v G (j - A) else u8v F j) = u8v (spliceF F A n G) j := by
  intro j hj
  simp only [u8v, spliceF]
  split <;> rfl

theorem splice_yes (F G : Nat → UInt8) (A n : Nat) (ao : Option Addr) (cap db doff : Nat) (w : World) (h : A + n ≤ 128) (hao : 0 < n → ao = some ⟨db, doff, none⟩) (hrd : Rd w db doff n (u8v G)) :
    Calls Try.prog 29 #[bytesV 128 F, .int .i64 (A : Int), .slice ao n cap] w fun e w' => e = .returned (.tuple #[bytesV 128 (spliceF F A n G), .int .i64 0]) ∧ Tr w [] w' [] := by
  have hs := Tr.refl w []
  have hw : within (A : Int) (n : Int) = true := within_true (by omega) (by omega) (by omega)
  have HR := Lib.hid hrd
  have HA := Lib.hid hao
  clear hrd hao
  go_enter Try.func29, Try.ntmps29
  go_wp2_with (first
    | ((with_reducible refine at_box rfl ?_); refine wl_boxA hs rfl rfl rfl ?_; clear hs; intro w1 b hs)
    | ((with_reducible refine at_alloc rfl ?_); refine wl_allocA hs rfl rfl zero30 ?_; clear hs; intro w1 b2 hs)
    | ((with_reducible refine at_load rfl ?_); refine wl_loadB hs rfl rfl Try.underlying30 rfl 1 rfl size30 ?_)
    | ((with_reducible refine at_store rfl ?_); refine wl_storeA hs rfl rfl rfl rfl (size30r _) (one30 _) 0 rfl (by simp only [rowOf_size]) ?_; clear hs; intro w1 hs)
    | (go_at_call 31; refine (within_any _ _ _ (by omega) (by omega)).mono ?_; rintro e w2 ⟨rfl, rfl⟩)
    | ((with_reducible refine at_slice rfl ?_); refine wl_sliceA rfl rfl Try.underlying30 size5 rfl A 128 (Or.inr ⟨_, _, rfl, rfl⟩) (Or.inl ⟨rfl, rfl⟩) (by omega) (by omega) ?_; intro ao2 hao2)
    | ((with_reducible refine (at_bi .copy) rfl ?_); refine wl_copy1 hs rfl rfl Try.underlying23 size5 rfl rfl n (by omega) 1 rfl A (fun hh => by rw [hao2 (by omega)]; simp) (by omega) db doff (u8v G) HA.out (HR.out.keep hs) (fun _ _ => rfl) (u8v (spliceF F A n G)) (splice_cells F G A n) ?_; clear hs hao2; intro w1 hs))
  exact ret_cell2 hs rfl rfl Try.underlying30 rfl rfl rfl 0 rfl (size30r _) ⟨rfl, hs.letgo⟩

theorem splice_no (F : Nat → UInt8) (A : Int) (n : Nat) (ao : Option Addr) (cap : Nat) (w : World) (hn : n ≤ 9223372036854775807) (h : within A n = false) :
    Calls Try.prog 29 #[bytesV 128 F, .int .i64 A, .slice ao n cap] w fun e w' => e = .returned (.tuple #[bytesV 128 (fun _ => 0), .int .i64 10]) ∧ Tr w [] w' [] := by
  have hs := Tr.refl w []
  go_enter Try.func29, Try.ntmps29
  go_wp2_with (first
    | ((with_reducible refine at_box rfl ?_); refine wl_boxA hs rfl rfl rfl ?_; clear hs; intro w1 b hs)
    | ((with_reducible refine at_alloc rfl ?_); refine wl_allocA hs rfl rfl zero30 ?_; clear hs; intro w1 b2 hs)
    | ((with_reducible refine at_load rfl ?_); refine wl_loadB hs rfl rfl Try.underlying30 rfl 1 rfl size30 ?_)
    | ((with_reducible refine at_build rfl ?_); refine wl_build0B rfl rfl Try.underlying30 (F := fun _ => 0) zero30 isz5 ?_)
    | ((with_reducible refine at_store rfl ?_); refine wl_storeA hs rfl rfl rfl rfl (size30r _) (one30 _) 0 rfl (by simp only [rowOf_size]) ?_; clear hs; intro w1 hs)
    | (go_at_call 31; refine (within_any _ _ _ (by omega) (by omega)).mono ?_; rintro e w2 ⟨rfl, rfl⟩))
  exact ret_cell2 hs rfl rfl Try.underlying30 rfl rfl rfl 0 rfl (size30r _) ⟨rfl, hs.letgo⟩

theorem get_bad (F : Nat → UInt8) (A W : Int) (w : World) (h : W < 1 ∨ 8 < W ∨ within A W = false) :
    Calls Try.prog 25 #[bytesV 128 F, .int .i64 A, .int .i64 W] w fun e w' => e = .returned (.tuple #[.int .i64 0, .int .i64 10]) ∧ Tr w [] w' [] := by
  have hs := Tr.refl w []
  by_cases h1 : W < 1
  · go_enter Try.func25, Try.ntmps25
    go_wp2_with (first | ((with_reducible refine at_box rfl ?_); refine wl_boxA hs rfl rfl rfl ?_; clear hs; intro w1 b hs) | (go_at_call 31; refine (within_any _ _ _ (by omega) (by omega)).mono ?_; rintro e w2 ⟨rfl, rfl⟩))
    go_ret2
    exact ⟨rfl, hs.letgo⟩
  · by_cases h2 : 8 < W
    · go_enter Try.func25, Try.ntmps25
      go_wp2_with (first | ((with_reducible refine at_box rfl ?_); refine wl_boxA hs rfl rfl rfl ?_; clear hs; intro w1 b hs) | (go_at_call 31; refine (within_any _ _ _ (by omega) (by omega)).mono ?_; rintro e w2 ⟨rfl, rfl⟩))
      go_ret2
      exact ⟨rfl, hs.letgo⟩
    · have h3 : within A W = false := by
        rcases h with h | h | h
        · omega
        · omega
        · exact h
      clear h
      go_enter Try.func25, Try.ntmps25
      go_wp2_with (first | ((with_reducible refine at_box rfl ?_); refine wl_boxA hs rfl rfl rfl ?_; clear hs; intro w1 b hs) | (go_at_call 31; refine (within_any _ _ _ (by omega) (by omega)).mono ?_; rintro e w2 ⟨rfl, rfl⟩))
      go_ret2
      exact ⟨rfl, hs.letgo⟩

theorem get_end {F : Nat → UInt8} {A W k : Nat} (hk : k < W) (h8 : W ≤ 8) (b : Int) (hb : b = ((F (A + W - 1 - k)).toNat : Int)) (x : Int) (hx : x = (num F (A + W - k) k : Nat) * 256) :
    Value.int .u64 (bits .or .u64 x b) = .int .u64 (num F (A + W - (k + 1)) (k + 1) : Nat) := by
  subst hb hx
  rw [or_byte _ _ (num_lt56 F _ k (by omega)) (F _).toNat_lt, num_down F (A + W) k (by omega)]

theorem get_loop (F : Nat → UInt8) (A W : Nat) (w : World) (h1 : 1 ≤ W) (h8 : W ≤ 8) (h : A + W ≤ 128) (good : Bool) (hn : if good then num F A W ≤ 4611686018427387904 else 4611686018427387904 < num F A W) :
    Calls Try.prog 25 #[bytesV 128 F, .int .i64 (A : Int), .int .i64 (W : Int)] w fun e w' => e = .returned (if good then .tuple #[.int .i64 (num F A W : Nat), .int .i64 0] else .tuple #[.int .i64 0, .int .i64 11]) ∧ Tr w [] w' [] := by
  have hs := Tr.refl w []
  have hw : within (A : Int) (W : Int) = true := within_true (by omega) (by omega) (by omega)
  have d1 : decide ((W : Int) < 1) = false := by simp; omega
  have d2 : decide (8 < (W : Int)) = false := by simp; omega
  have HN := Lib.hid hn
  clear hn
  go_enter Try.func25, Try.ntmps25
  go_wp2_with (first | ((with_reducible refine at_box rfl ?_); refine wl_boxA hs rfl rfl rfl ?_; clear hs; intro w1 b hs) | (go_at_call 31; refine (within_any _ _ _ (by omega) (by omega)).mono ?_; rintro e w2 ⟨rfl, rfl⟩))
  go_loop [8, 23] (fun v i => ∃ k : Nat, k ≤ W ∧ i = .int .i64 k ∧ v = .int .u64 (num F (A + W - k) k : Nat)) (fun _ i => W - (intOf i).toNat)
  case atStart => exact ⟨0, Nat.zero_le _, rfl, rfl⟩
  case round =>
    obtain ⟨k, hk, rfl, rfl⟩ := hrel
    by_cases hlt : k < W
    · have hlim := num_lt56 F (A + W - k) k (by omega)
      have hby := (F (A + W - 1 - k)).toNat_lt
      go_wp2_with (first | ((with_reducible refine at_load rfl ?_); refine wl_load1 hs rfl rfl Try.underlying5 rfl rfl 0 rfl (rowOf_u8 (by omega)) ?_))
      go_round
      case rel => exact ⟨k + 1, by omega, by go_num, get_end hlt h8 _ rfl _ rfl⟩
      case measure => simp [intOf]; omega
    · obtain rfl : k = W := by omega
      cases good
      · have hb : 4611686018427387904 < num F A k := HN.out
        go_wp2
        go_ret2
        exact ⟨rfl, hs.letgo⟩
      · have hb : num F A k ≤ 4611686018427387904 := HN.out
        go_wp2
        go_ret2
        exact ⟨rfl, hs.letgo⟩
end Go.Proofs.Ytlekfbcmjcgabaa
