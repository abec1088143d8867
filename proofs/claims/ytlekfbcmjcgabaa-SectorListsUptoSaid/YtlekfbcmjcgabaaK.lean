/- known: the example of the chapter. -/
import Derived.Test.YtlekfbcmjcgabaaRows
import Derived.Test.YtlekfbcmjcgabaaWl
import Derived.Test.YtlekfbcmjcgabaaWq
import Derived.Test.YtlekfbcmjcgabaaPlain
import Derived.BigQuiet
import Derived.WalkSpells
import Derived.WalkLawsBesides
import Derived.Test.YtlekfbcmjcgabaaA
import Derived.Test.YtlekfbcmjcgabaaB
import Derived.Test.YtlekfbcmjcgabaaC
import Derived.Test.YtlekfbcmjcgabaaD
namespace Go.Proofs.Ytlekfbcmjcgabaa
open Go Go.Sp Go.RowKit

theorem get_ok (F : Nat → UInt8) (A W : Nat) (w : World) (h1 : 1 ≤ W) (h8 : W ≤ 8) (h : A + W ≤ 128) (hn : num F A W ≤ 4611686018427387904) :
    Calls Try.prog 25 #[bytesV 128 F, .int .i64 (A : Int), .int .i64 (W : Int)] w fun e w' => e = .returned (.tuple #[.int .i64 (num F A W : Nat), .int .i64 0]) ∧ Tr w [] w' [] :=
  get_loop F A W w h1 h8 h true hn
theorem get_big (F : Nat → UInt8) (A W : Nat) (w : World) (h1 : 1 ≤ W) (h8 : W ≤ 8) (h : A + W ≤ 128) (hn : 4611686018427387904 < num F A W) :
    Calls Try.prog 25 #[bytesV 128 F, .int .i64 (A : Int), .int .i64 (W : Int)] w fun e w' => e = .returned (.tuple #[.int .i64 0, .int .i64 11]) ∧ Tr w [] w' [] :=
  get_loop F A W w h1 h8 h false (by simpa using hn)

def kF : Nat → UInt8 := setF (fun _ => 0) 3 2 258
def kG : Nat → UInt8 := fun i => if i = 0 then 7 else 8
theorem set_k (w : World) : Calls Try.prog 24 #[bytesV 128 (fun _ => 0), .int .i64 3, .int .i64 2, .int .i64 258] w fun e w' => e = .returned (.tuple #[bytesV 128 kF, .int .i64 0]) ∧ Tr w [] w' [] :=
  set_ok (fun _ => 0) 3 2 258 w (by omega) (by omega) (by omega) (by omega) (by decide)
theorem get_k (w : World) : Calls Try.prog 25 #[bytesV 128 kF, .int .i64 2, .int .i64 3] w fun e w' => e = .returned (.tuple #[.int .i64 66048, .int .i64 0]) ∧ Tr w [] w' [] := by
  have h : num kF 2 3 = 66048 := by decide
  have := get_ok kF 2 3 w (by omega) (by omega) (by omega) (by rw [h]; omega)
  rw [h] at this
  exact this
theorem zero_k (w : World) : Calls Try.prog 28 #[bytesV 128 kF] w fun e w' => e = .returned (.bool false) ∧ Tr w [] w' [] := by
  have h : eqB 128 kF (fun _ => 0) = false := by decide
  have := zero_any kF w
  rw [h] at this
  exact this
theorem k3 : ((kF 3).toNat : Int) = 2 := by decide
theorem k4 : ((kF 4).toNat : Int) = 1 := by decide
theorem kc : (#[.int .u8 7, .int .u8 8] : Array Value) = rowOf 2 (u8v kG) := by
  refine rowOf_ext rfl fun i hi => ?_
  match i, hi with
  | 0, _ => rfl
  | 1, _ => rfl
theorem cut_k (b : Nat) (w : World) (h : Rd w b 0 2 (u8v kG)) : Calls Try.prog 14 #[.slice (some ⟨b, 0, none⟩) 2 2] w fun e w' => ∃ v, e = .returned v ∧ Tr w [] w' [Res.own 30 128 v 1 (rowOf 128 (u8v (cutF kG 2))).toList] :=
  cut_any kG 2 2 _ b 0 w (by omega) (by omega) (fun _ => rfl) h
theorem join_k (g c : Nat) (w : World) (h : Rd w g 0 128 (u8v (cutF kG 2))) : Calls Try.prog 19 #[.int .i64 2, .slice (some ⟨g, 0, none⟩) 1 c] w fun e w' => ∃ v, e = .returned v ∧ Tr w [] w' [Res.own 5 1 v 2 (rowOf 2 (u8v (cutF kG 2))).toList] :=
  join_pos 2 1 c _ g 0 (cutF kG 2) w (by omega) (by omega) (by omega) (fun _ => rfl) h
theorem keq : eqS 2 (cutF kG 2) 2 kG = true := by decide

set_option maxHeartbeats 1000000 in
theorem known_any (w : World) : Calls Try.prog 12 #[] w fun e w' => e = .returned (.bool true) ∧ Tr w [] w' [] := by
  have hs := Tr.refl w []
  have hq := keq
  have hk3 := k3
  have hk4 := k4
  go_enter Try.func12, Try.ntmps12
  go_wp2_with (first
    | ((with_reducible refine at_build rfl ?_); refine wl_build0B rfl rfl Try.underlying30 (F := fun _ => 0) zero30 isz5 ?_)
    | (go_at_call 24; refine (set_k _).mono ?_; rintro e w1 ⟨rfl, hc⟩; replace hs := hs.call0 hc; clear hc)
    | ((with_reducible refine at_alloc rfl ?_); refine wl_allocA hs rfl rfl zero30 ?_; clear hs; intro w1 b hs)
    | ((with_reducible refine at_store rfl ?_); refine wl_storeA hs rfl rfl rfl rfl (size30r _) (one30 _) 0 rfl (by simp only [rowOf_size]) ?_; clear hs; intro w1 hs)
    | ((with_reducible refine at_load rfl ?_); refine wl_loadB hs rfl rfl Try.underlying30 rfl 0 rfl size30 ?_)
    | (go_at_call 25; refine (get_k _).mono ?_; rintro e w1 ⟨rfl, hc⟩; replace hs := hs.call0 hc; clear hc)
    | ((with_reducible refine at_buildSlice rfl ?_); refine wl_buildSliceV hs rfl rfl Try.underlying23 info5 (by omega) (by omega) [.int .u8 7, .int .u8 8] rfl rfl (by simp [Value.oneCell']) ?_; clear hs; intro w1 b2 hs; rw [kc] at hs)
    | (go_at_call 14; refine (cut_k _ _ (hs.rd0 0 rfl (by omega))).mono ?_; rintro e w1 ⟨v, rfl, hc⟩; replace hs := hs.call1 hc; clear hc; obtain ⟨ao, c, rfl, _, _, h3⟩ := hs.own_shape 0 rfl; obtain ⟨g, rfl⟩ := h3 (by omega); clear h3)
    | ((with_reducible refine at_load rfl ?_); refine wl_load1 hs rfl rfl Try.underlying5 rfl rfl 2 rfl (rowOf_u8 (by omega)) ?_)
    | ((with_reducible refine at_load rfl ?_); refine wl_loadB hs rfl rfl Try.underlying30 rfl 2 rfl size30 ?_)
    | (go_at_call 28; refine (zero_k _).mono ?_; rintro e w1 ⟨rfl, hc⟩; replace hs := hs.call0 hc; clear hc)
    | (go_at_call 19; refine (join_k _ _ _ (hs.own_rd 0 rfl)).mono ?_; rintro e w1 ⟨v, rfl, hc⟩; replace hs := hs.call1 hc; clear hc; obtain ⟨ao2, c2, rfl, _, _, h3⟩ := hs.own_shape 0 rfl; obtain ⟨g2, rfl⟩ := h3 (by omega); clear h3)
    | ((with_reducible refine at_conv rfl ?_); refine wl_convStr rfl rfl Try.underlying23 Try.underlying5 Try.underlying9 rfl (fun _ => rfl) (hs.own_rd 0 rfl) ?_)
    | ((with_reducible refine (at_bin .eql) rfl ?_); refine wl_eqlS rfl rfl rfl rfl 2 2 (cutF kG 2) kG rfl rfl ?_))
  go_ret
  exact ⟨rfl, hs.letgo⟩
end Go.Proofs.Ytlekfbcmjcgabaa
