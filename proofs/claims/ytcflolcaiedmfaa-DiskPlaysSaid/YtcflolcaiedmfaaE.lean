/- From: more contracts. -/
import Derived.Test.YtcflolcaiedmfaaD
namespace Go.Proofs.Ytcflolcaiedmfaa
set_option linter.unusedVariables false
set_option linter.unusedSimpArgs false
open Go Go.Sp Go.RowKit Go.BigFrame

theorem from_no (n cap : Nat) (ao : Option Addr) (w : World) (h : n = 0 ∨ 4096 < n) :
    Calls Try.prog 26 #[.slice ao n cap] w fun e w' => e = .returned (.tuple #[.pointer none, .int .i64 20]) ∧ Tr w [] w' [] := by
  have hs := Tr.refl w []
  have h := Lib.hid h
  go_enter Try.func26, Try.ntmps26
  go_wp2_with (first
    | (go_at_call 11; refine (new_no n _ (by have := h.out; omega)).mono ?_; rintro e w2 ⟨rfl, hc⟩; replace hs := hs.call0 hc; clear hc))
  go_ret2
  exact ⟨rfl, hs⟩
theorem rfrom_no (n cap : Nat) (ao : Option Addr) (w : World) (h : n = 0 ∨ 4096 < n) :
    Calls Try.prog 27 #[.slice ao n cap] w fun e w' => e = .returned (.tuple #[.pointer none, .int .i64 20]) ∧ Tr w [] w' [] := by
  have hs := Tr.refl w []
  have h := Lib.hid h
  go_enter Try.func27, Try.ntmps27
  go_wp2_with (first
    | (go_at_call 12; refine (rnew_no n _ (by have := h.out; omega)).mono ?_; rintro e w2 ⟨rfl, hc⟩; replace hs := hs.call0 hc; clear hc))
  go_ret2
  exact ⟨rfl, hs⟩

set_option maxHeartbeats 1000000 in
theorem rfrom_ok (n cap : Nat) (sb so : Nat) (f : Nat → UInt8) (w : World) (h1 : 1 ≤ n) (h2 : n ≤ 4096) (hrd : Rd w sb so (n * 128) (u8v f)) :
    Calls Try.prog 27 #[.slice (some ⟨sb, so, none⟩) n cap] w fun e w' => ∃ r, e = .returned (.tuple #[.pointer (some ⟨r, 0, none⟩), .int .i64 0]) ∧ Tr w [] w' [] := by
  have hs := Tr.refl w []
  have HR := Lib.hid hrd
  clear hrd
  go_enter Try.func27, Try.ntmps27
  go_wp2_with (first
    | (go_at_call 12; refine (rnew_ok n _ h1 h2).mono ?_; rintro e w2 ⟨d, s, rfl, hc⟩; replace hs := (hs.call1 hc).split2; clear hc))
  go_loopw [6] (fun i wr => ∃ (k : Nat) (g : Nat → UInt8), k ≤ n ∧ i = .int .i64 k ∧ Tr w [] wr [Res.blk d #[.slice (some ⟨s, 0, none⟩) n n, .int .i64 0, .bool false, .int .i64 0, .bool false] 71, Res.blk s (rowOf (n * 128) (u8v g)) 40]) (fun i _ => n - (intOf i).toNat)
  case atStart => exact ⟨0, _, by omega, rfl, hs⟩
  case round =>
    clear hs
    obtain ⟨k, g, hk, rfl, hs⟩ := hrel
    by_cases hlt : k < n
    · have hlt2 : (k : Int) < n := by omega
      go_upto_region 7 with fail
      refine wt_enterS (List.Sublist.cons_cons _ (List.nil_sublist _)) 11 rfl hs (by kernel_rfl) ?_
      clear hs; intro w1 hC hs
      refine wt_take 0 rfl (by kernel_rfl) (by kernel_rfl) (by kernel_rfl) (fun _ _ _ _ h => h) rfl hC ⟨_, fun w hw => by (go_simp; try with_reducible rfl), fun a1 ha => ?_⟩
      simp only [Act.put, List.setIfInBounds_toArray, List.set_cons_succ, List.set_cons_zero] at ha; subst ha
      refine wt_take 1 rfl (by kernel_rfl) (by kernel_rfl) (by kernel_rfl) (fun _ _ _ _ h => h) rfl hC ⟨_, fun w hw => by (go_simp; try with_reducible rfl), fun a1 ha => ?_⟩
      simp only [Act.put, List.setIfInBounds_toArray, List.set_cons_succ, List.set_cons_zero] at ha; subst ha
      refine wt_take 2 rfl (by kernel_rfl) (by kernel_rfl) (by kernel_rfl) (fun _ _ _ _ h => h) rfl hC ⟨_, fun w hw => by (go_simp; try with_reducible rfl), fun a1 ha => ?_⟩
      simp only [Act.put, List.setIfInBounds_toArray, List.set_cons_succ, List.set_cons_zero] at ha; subst ha
      refine wt_take 3 rfl (by kernel_rfl) (by kernel_rfl) (by kernel_rfl) (fun _ _ _ _ h => h) rfl hC ⟨_, fun w hw => ex_load1 rfl Try.underlying30 rfl rfl (by rw [cell_of_row w _ _ _ _ (0, 0) (hw.getB 0 rfl)]; rfl), fun a1 ha => ?_⟩
      simp only [Act.put, List.setIfInBounds_toArray, List.set_cons_succ, List.set_cons_zero] at ha; subst ha
      refine wt_take 4 rfl (by kernel_rfl) (by kernel_rfl) (by kernel_rfl) (fun _ _ _ _ h => h) rfl hC ⟨_, fun w hw => by (go_simp; try with_reducible rfl), fun a1 ha => ?_⟩
      simp only [Act.put, List.setIfInBounds_toArray, List.set_cons_succ, List.set_cons_zero] at ha; subst ha
      refine wt_take 5 rfl (by kernel_rfl) (by kernel_rfl) (by kernel_rfl) (fun _ _ _ _ h => h) rfl hC ⟨_, fun w hw => by (go_simp; try with_reducible rfl), fun a1 ha => ?_⟩
      simp only [Act.put, List.setIfInBounds_toArray, List.set_cons_succ, List.set_cons_zero] at ha; subst ha
      refine wt_take 6 rfl (by kernel_rfl) (by kernel_rfl) (by kernel_rfl) (fun _ _ _ _ h => h) rfl hC ⟨_, fun w hw => by (go_simp; try with_reducible rfl), fun a1 ha => ?_⟩
      simp only [Act.put, List.setIfInBounds_toArray, List.set_cons_succ, List.set_cons_zero] at ha; subst ha
      refine wt_take 7 rfl (by kernel_rfl) (by kernel_rfl) (by kernel_rfl) (fun _ _ _ _ h => h) rfl hC ⟨_, fun w hw => ex_indexS rfl Try.underlying30 size40 rfl rfl k rfl hlt rfl, fun a1 ha => ?_⟩
      simp only [Act.put, List.setIfInBounds_toArray, List.set_cons_succ, List.set_cons_zero] at ha; subst ha
      refine wt_take 8 rfl (by kernel_rfl) (by kernel_rfl) (by kernel_rfl) (fun _ _ _ _ h => h) rfl hC ⟨_, fun w hw => ex_loadMB rfl Try.underlying40 size40 rfl ((HR.out.keep hw).sub (k * 128) 128 (by omega)), fun a1 ha => ?_⟩
      simp only [Act.put, List.setIfInBounds_toArray, List.set_cons_succ, List.set_cons_zero] at ha; subst ha
      refine wt_take 9 rfl (by kernel_rfl) (by kernel_rfl) (by kernel_rfl) (fun _ _ _ _ h => h) rfl hC ⟨_, fun w hw => ex_indexS rfl Try.underlying30 size40 rfl rfl k rfl hlt rfl, fun a1 ha => ?_⟩
      simp only [Act.put, List.setIfInBounds_toArray, List.set_cons_succ, List.set_cons_zero] at ha; subst ha
      refine wt_one 10 (by kernel_rfl) ?_
      refine wt_storeM hs rfl rfl rfl rfl rfl size40 (fun _ _ => rfl) 1 rfl (by omega) (u8v (updF g k (fun j => f (k * 128 + j)))) (fun j hj => by simp only [u8v, updF, Nat.zero_add]; split <;> rfl) (by simp only [Act.put, List.setIfInBounds_toArray, List.set_cons_succ, List.set_cons_zero]; rfl) ?_
      clear hs; intro w1 hs
      refine wt_and (hs.sub (by repeat (first | exact List.Sublist.refl _ | refine List.Sublist.cons_cons _ ?_ | refine List.Sublist.cons _ ?_))) fun hC => ?_
      refine wt_done (by kernel_rfl) ?_
      skip
      go_wp2_with fail
      go_roundw
      case rel => exact ⟨k + 1, _, by omega, by go_num, hs⟩
      case measure => simp [intOf]; omega
    · obtain rfl : k = n := by omega
      go_wp2
      go_ret2
      exact ⟨_, rfl, hs.letgo⟩
end Go.Proofs.Ytcflolcaiedmfaa
