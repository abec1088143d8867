/- same, and Join of any number: contracts. -/
import Derived.Test.YtlekfbcmjcgabaaRows
import Derived.Test.YtlekfbcmjcgabaaWl
import Derived.Test.YtlekfbcmjcgabaaWq
import Derived.Test.YtlekfbcmjcgabaaPlain
import Derived.BigQuiet
import Derived.WalkSpells
import Derived.WalkLawsBesides
import Derived.Test.YtlekfbcmjcgabaaD
import Derived.Test.YtlekfbcmjcgabaaAp
namespace Go.Proofs.Ytlekfbcmjcgabaa
set_option linter.unusedVariables false
open Go Go.Sp Go.RowKit Go.BigFrame

theorem same_yes (F G : Nat → UInt8) (m c1 c2 : Nat) (ao bo : Option Addr) (ab aoff bb boff : Nat) (w : World) (hm : m ≤ 9223372036854775807) (ha : 0 < m → ao = some ⟨ab, aoff, none⟩) (hb : 0 < m → bo = some ⟨bb, boff, none⟩)
    (hA : Rd w ab aoff (m * 128) (u8v F)) (hB : Rd w bb boff (m * 128) (u8v G)) (h : ∀ i, i < m * 128 → F i = G i) :
    Calls Try.prog 17 #[.slice ao m c1, .slice bo m c2] w fun e w' => e = .returned (.bool true) ∧ Tr w [] w' [] := by
  have hs := Tr.refl w []
  have HA := Lib.hid hA
  have HB := Lib.hid hB
  have ha := Lib.hid ha
  have hb := Lib.hid hb
  have h := Lib.hid h
  clear hA hB
  go_enter Try.func17, Try.ntmps17
  go_wp2
  go_loopw [5] (fun i wr => ∃ k : Nat, k ≤ m ∧ i = .int .i64 k ∧ Tr w [] wr []) (fun i _ => m - (intOf i).toNat)
  case atStart => exact ⟨0, by omega, rfl, hs⟩
  case round =>
    clear hs
    obtain ⟨k, hk, rfl, hs⟩ := hrel
    by_cases hlt : k < m
    · have hlt2 : (k : Int) < m := by omega
      obtain rfl := ha.out (by omega)
      obtain rfl := hb.out (by omega)
      have HE : eqB 128 (fun j => F (k * 128 + j)) (fun j => G (k * 128 + j)) = true := eqB_iff.2 fun i hi => h.out _ (by omega)
      replace HE := Lib.hid HE
      go_wp2_with fail
      (refine wq_enter hs (by kernel_rfl) (by kernel_rfl) ?_; intro hne; clear hs)
      repeat (first | go_big_quiet_skip | ((with_reducible refine qat_index rfl ?_); refine wq_index rfl rfl Try.underlying25 size30 rfl rfl k rfl hlt rfl ?_; refine wq_frame (by simp only [Act.put, List.setIfInBounds_toArray, List.set_cons_succ, List.set_cons_zero]; rfl) ?_) | ((with_reducible refine qat_load rfl ?_); refine wq_loadMB (F := fun j => F (k * 128 + j)) rfl rfl Try.underlying30 size30 rfl (fun w hw => (HA.out.keep hw).sub (k * 128) 128 (by omega)) ?_; refine wq_frame (by simp only [Act.put, List.setIfInBounds_toArray, List.set_cons_succ, List.set_cons_zero]; rfl) ?_) | ((with_reducible refine qat_load rfl ?_); refine wq_loadMB (F := fun j => G (k * 128 + j)) rfl rfl Try.underlying30 size30 rfl (fun w hw => (HB.out.keep hw).sub (k * 128) 128 (by omega)) ?_; refine wq_frame (by simp only [Act.put, List.setIfInBounds_toArray, List.set_cons_succ, List.set_cons_zero]; rfl) ?_) | ((with_reducible refine (qat_bin .neq) rfl ?_); refine wq_neqBR rfl rfl Try.underlying30 Try.underlying5 size5 eqg30 rfl rfl false (by rw [HE.out]; rfl) ?_; refine wq_frame (by simp only [Act.put, List.setIfInBounds_toArray, List.set_cons_succ, List.set_cons_zero]; rfl) ?_) | (go_big_quiet_want; go_big_quiet_op; first | go_big_quiet_on | (refine ⟨_, fun _ => rfl, ?_⟩; go_big_quiet_on)))
      (refine wpQuiet_nil ?_; intro w1 hs)
      go_wp2_with fail
      go_roundw
      case rel => exact ⟨k + 1, by omega, by go_num, hs⟩
      case measure => simp [intOf]; omega
    · obtain rfl : k = m := by omega
      go_wp2
      go_ret
      exact ⟨rfl, hs⟩

theorem join_any (N : Int) (m cap : Nat) (so : Option Addr) (sb soff : Nat) (G : Nat → UInt8) (w : World) (hN2 : N ≤ 9223372036854775807) (hm : m * 128 ≤ 140737488355328) (hso : 0 < m → so = some ⟨sb, soff, none⟩) (hrd : Rd w sb soff (m * 128) (u8v G)) (K : Nat) (hK : K = min N.toNat (m * 128)) :
    Calls Try.prog 19 #[.int .i64 N, .slice so m cap] w fun e w' => ∃ v, e = .returned v ∧ Tr w [] w' [Res.own 5 1 v K (rowOf K (u8v G)).toList] := by
  subst hK
  by_cases h : N ≤ 0
  · refine (join_neg N m cap so sb soff G w h hm hso hrd).mono fun e w' ⟨he, ht⟩ => ⟨_, he, ?_⟩
    rw [show min N.toNat (m * 128) = 0 by omega, rowOf_nil]
    exact ht.addNil 5 1
  · obtain ⟨n, rfl⟩ : ∃ n : Nat, N = (n : Int) := ⟨N.toNat, by omega⟩
    have := join_pos n m cap so sb soff G w (by omega) (by omega) hm hso hrd
    rwa [show ((n : Int)).toNat = n from rfl]
end Go.Proofs.Ytlekfbcmjcgabaa
