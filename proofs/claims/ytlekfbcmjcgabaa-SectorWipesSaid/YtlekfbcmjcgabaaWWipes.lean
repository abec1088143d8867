/- SectorWipes: the walk. -/
import Derived.Test.YtlekfbcmjcgabaaRows
import Derived.Test.YtlekfbcmjcgabaaWl
import Derived.Test.YtlekfbcmjcgabaaWq
import Derived.Test.YtlekfbcmjcgabaaPlain
import Derived.BigQuiet
import Derived.WalkSpells
import Derived.WalkLawsBesides
import Derived.Test.YtlekfbcmjcgabaaK
import Derived.Deep.DeepCutAuto
namespace Go.Proofs.Ytlekfbcmjcgabaa
set_option linter.unusedVariables false
open Go Go.Sp Go.RowKit Go.BigFrame

theorem eqB0_succ (k : Nat) (F : Nat → UInt8) : eqB (k + 1) F (fun _ => 0) = (eqB k F (fun _ => 0) && (((F k).toNat : Int) == 0)) := by
  rw [Bool.eq_iff_iff, Bool.and_eq_true, eqB_iff, eqB_iff, beq_iff_eq]
  constructor
  · intro h
    refine ⟨fun i hi => h i (by omega), ?_⟩
    rw [h k (by omega)]; rfl
  · intro ⟨h1, h2⟩ i hi
    by_cases hik : i = k
    · subst hik; exact UInt8.toNat_inj.1 (by simp; omega)
    · exact h1 i (by omega)

theorem wipe_lt (F : Nat → UInt8) (a : Int) (k : Nat) (h : (k : Int) < a) : wipeF F a k = F k := by
  simp only [wipeF]; rw [if_neg (by omega)]
theorem wipe_ge (F : Nat → UInt8) (a : Int) (k : Nat) (h : a ≤ (k : Int)) : wipeF F a k = 0 := by
  simp only [wipeF]; rw [if_pos h]
theorem wipe_wipe (F : Nat → UInt8) (a b m : Int) (hm : m = min a b) : bytesV 128 (wipeF (wipeF F a) b) = bytesV 128 (wipeF F m) := by
  refine bytesV_congr fun i _ => ?_
  simp only [wipeF]
  by_cases h1 : b ≤ (i : Int)
  · rw [if_pos h1, if_pos (by omega)]
  · rw [if_neg h1]
    by_cases h2 : a ≤ (i : Int)
    · rw [if_pos h2, if_pos (by omega)]
    · rw [if_neg h2, if_neg (by omega)]

set_option maxRecDepth 100000 in
set_option maxHeartbeats 1000000 in
theorem wipes_core (F G T : Nat → UInt8) (a b m : Int) (w : World)
    (HT : Hid (∀ k : Nat, (k : Int) < a → G k = F k)) (HO : Hid (∀ k : Nat, a ≤ (k : Int) → G k = 0))
    (HC : Hid (∀ w, Calls Try.prog 27 #[bytesV 128 F, .int .i64 a] w fun e w' => e = .returned (bytesV 128 G) ∧ Tr w [] w' []))
    (H1 : Hid (∀ w, Calls Try.prog 27 #[bytesV 128 G, .int .i64 b] w fun e w' => e = .returned (bytesV 128 T) ∧ Tr w [] w' []))
    (H2 : Hid (∀ w, Calls Try.prog 27 #[bytesV 128 F, .int .i64 m] w fun e w' => e = .returned (bytesV 128 T) ∧ Tr w [] w' []))
    (H3 : Hid (∀ w, Calls Try.prog 27 #[bytesV 128 F, .int .i64 (-1)] w fun e w' => e = .returned (bytesV 128 (fun _ => 0)) ∧ Tr w [] w' []))
    (H4 : Hid (∀ w, Calls Try.prog 27 #[bytesV 128 F, .int .i64 128] w fun e w' => e = .returned (bytesV 128 F) ∧ Tr w [] w' []))
    (hab : (m = a ∧ ¬ b < a ∧ a ≤ b) ∨ (m = b ∧ b < a ∧ ¬ a ≤ b)) :
    Calls Try.prog 8 #[bytesV 128 F, .int .i64 a, .int .i64 b] w fun e w' => e = .returned (.bool true) ∧ Tr w [] w' [] := by
  have hs := Tr.refl w []
  have HE := Lib.hid (fun G => eqB_refl 128 G)
  have hab := Lib.hid hab
  go_enter Try.func8, Try.ntmps8
  go_wp2_with (first
          | ((with_reducible refine at_box rfl ?_); refine wl_boxA hs rfl rfl rfl ?_; clear hs; intro w1 b0 hs)
          | ((with_reducible refine at_load rfl ?_); refine wl_loadB hs rfl rfl Try.underlying30 rfl 0 rfl size30 ?_)
          | (go_at_call 27; refine (HC.out _).mono ?_; rintro e w2 ⟨rfl, hc⟩; replace hs := hs.call0 hc; clear hc)
          | ((with_reducible refine at_alloc rfl ?_); refine wl_allocA hs rfl rfl zero30 ?_; clear hs; intro w1 b2 hs)
          | ((with_reducible refine at_store rfl ?_); refine wl_storeA hs rfl rfl rfl rfl (size30r _) (one30 _) 0 rfl (by simp only [rowOf_size]) ?_; clear hs; intro w1 hs))
  go_loopw [8, 9, 10] (fun z s i wr => ∃ k : Nat, k ≤ 128 ∧ i = .int .i64 k ∧ z = .bool (eqB k F (fun _ => 0)) ∧ s = .bool (!eqB k G (fun _ => 0)) ∧ Tr w [] wr [Res.blk b2 (rowOf 128 (u8v G)) 30, Res.blk b0 (rowOf 128 (u8v F)) 30]) (fun _ _ i _ => 128 - (intOf i).toNat)
  case atStart => exact ⟨0, by omega, rfl, rfl, rfl, hs⟩
  case round =>
    clear hs
    obtain ⟨k, hk, rfl, rfl, rfl, hs⟩ := hrel
    by_cases hlt : k < 128
    · have hlt2 : (k : Int) < 128 := by omega
      have hS1 := Lib.hid (eqB0_succ k F)
      have hS2 := Lib.hid (eqB0_succ k G)
      generalize hz : eqB k F (fun _ => 0) = z at *
      generalize hs0 : eqB k G (fun _ => 0) = s at *
      replace hz := Lib.hid hz
      replace hs0 := Lib.hid hs0
      by_cases hin : (k : Int) < a
      · have hT := HT.out k hin
        have hin2 : decide ((k : Int) < a) = true := decide_eq_true hin
        have hin3 : decide (a ≤ (k : Int)) = false := decide_eq_false (by omega)
        cases z <;> cases s
        all_goals
          go_wp2_with fail
          (refine wq_enter hs (by kernel_rfl) (by kernel_rfl) ?_; intro hne; clear hs)
          repeat (first | go_big_quiet_skip | ((with_reducible refine qat_load rfl ?_); refine wq_load1 rfl rfl Try.underlying5 rfl rfl 0 rfl (rowOf_u8 (by omega)) ?_; refine wq_frame (by simp only [Act.put, List.setIfInBounds_toArray, List.set_cons_succ, List.set_cons_zero]; rfl) ?_) | ((with_reducible refine qat_load rfl ?_); refine wq_load1 rfl rfl Try.underlying5 rfl rfl 1 rfl (rowOf_u8 (by omega)) ?_; refine wq_frame (by simp only [Act.put, List.setIfInBounds_toArray, List.set_cons_succ, List.set_cons_zero]; rfl) ?_) | (go_big_quiet_want; go_big_quiet_op; first | go_big_quiet_on | (refine ⟨_, fun _ => rfl, ?_⟩; go_big_quiet_on)))
          (refine wpQuiet_nil ?_; intro w1 hs)
          go_wp2_with (first | ((with_reducible refine at_load rfl ?_); refine wl_load1 hs rfl rfl Try.underlying5 rfl rfl 0 rfl (rowOf_u8 (by omega)) ?_) | ((with_reducible refine at_load rfl ?_); refine wl_load1 hs rfl rfl Try.underlying5 rfl rfl 1 rfl (rowOf_u8 (by omega)) ?_))
          go_roundw
          case rel => exact ⟨k + 1, by omega, by go_num, by rw [hS1.out]; simp, by rw [hS2.out]; simp [hT] <;> rfl, hs⟩
          case measure => simp [intOf]; omega
      · have hT := HO.out k (by omega)
        have hin2 : decide ((k : Int) < a) = false := decide_eq_false hin
        have hin3 : a ≤ (k : Int) := by omega
        cases z <;> cases s
        all_goals
          go_wp2_with fail
          (refine wq_enter hs (by kernel_rfl) (by kernel_rfl) ?_; intro hne; clear hs)
          repeat (first | go_big_quiet_skip | ((with_reducible refine qat_load rfl ?_); refine wq_load1 rfl rfl Try.underlying5 rfl rfl 0 rfl (rowOf_u8 (by omega)) ?_; refine wq_frame (by simp only [Act.put, List.setIfInBounds_toArray, List.set_cons_succ, List.set_cons_zero]; rfl) ?_) | ((with_reducible refine qat_load rfl ?_); refine wq_load1 rfl rfl Try.underlying5 rfl rfl 1 rfl (rowOf_u8 (by omega)) ?_; refine wq_frame (by simp only [Act.put, List.setIfInBounds_toArray, List.set_cons_succ, List.set_cons_zero]; rfl) ?_) | (go_big_quiet_want; go_big_quiet_op; first | go_big_quiet_on | (refine ⟨_, fun _ => rfl, ?_⟩; go_big_quiet_on)))
          (refine wpQuiet_nil ?_; intro w1 hs)
          go_wp2_with (first | ((with_reducible refine at_load rfl ?_); refine wl_load1 hs rfl rfl Try.underlying5 rfl rfl 0 rfl (rowOf_u8 (by omega)) ?_) | ((with_reducible refine at_load rfl ?_); refine wl_load1 hs rfl rfl Try.underlying5 rfl rfl 1 rfl (rowOf_u8 (by omega)) ?_))
          go_roundw
          case rel => exact ⟨k + 1, by omega, by go_num, by rw [hS1.out]; simp, by rw [hS2.out]; simp [hT] <;> rfl, hs⟩
          case measure => simp [intOf]; omega
    · obtain rfl : k = 128 := by omega
      have HZ1 := Lib.hid (fun w => zero_any F w)
      have HZ2 := Lib.hid (fun w => zero_any G w)
      have HZ3 : Hid (∀ w, Calls Try.prog 28 #[bytesV 128 (fun _ => 0)] w fun e w' => e = .returned (.bool true) ∧ Tr w [] w' []) := Lib.hid (fun w => by have := zero_any (fun _ => 0) w; rwa [HE.out] at this)
      generalize eqB 128 F (fun _ => 0) = z at *
      generalize eqB 128 G (fun _ => 0) = s at *
      rcases hab.out with ⟨rfl, hab3, hab4⟩ | ⟨rfl, hab3, hab4⟩
      all_goals
        clear hab
        go_wp2_with fail
        (refine wq_enter hs (by kernel_rfl) (by kernel_rfl) ?_; intro hne; clear hs)
        repeat (first | go_big_quiet_skip | ((with_reducible refine qat_load rfl ?_); refine wq_loadB rfl rfl Try.underlying30 rfl 0 rfl size30 ?_; refine wq_frame (by simp only [Act.put, List.setIfInBounds_toArray, List.set_cons_succ, List.set_cons_zero]; rfl) ?_) | ((with_reducible refine qat_load rfl ?_); refine wq_loadB rfl rfl Try.underlying30 rfl 1 rfl size30 ?_; refine wq_frame (by simp only [Act.put, List.setIfInBounds_toArray, List.set_cons_succ, List.set_cons_zero]; rfl) ?_) | ((with_reducible refine (qat_bin .eql) rfl ?_); refine wq_eqlBR rfl rfl Try.underlying30 Try.underlying5 size5 eqg30 rfl rfl true (HE.out _) ?_; refine wq_frame (by simp only [Act.put, List.setIfInBounds_toArray, List.set_cons_succ, List.set_cons_zero]; rfl) ?_) | (go_big_quiet_want; go_big_quiet_op; first | go_big_quiet_on | (refine ⟨_, fun _ => rfl, ?_⟩; go_big_quiet_on)))
        (go_big_quiet_want; go_big_quiet_op; go_big_quiet_call (refine wq_call (HZ1.out _)))
        repeat (first | go_big_quiet_skip | ((with_reducible refine qat_load rfl ?_); refine wq_loadB rfl rfl Try.underlying30 rfl 0 rfl size30 ?_; refine wq_frame (by simp only [Act.put, List.setIfInBounds_toArray, List.set_cons_succ, List.set_cons_zero]; rfl) ?_) | ((with_reducible refine qat_load rfl ?_); refine wq_loadB rfl rfl Try.underlying30 rfl 1 rfl size30 ?_; refine wq_frame (by simp only [Act.put, List.setIfInBounds_toArray, List.set_cons_succ, List.set_cons_zero]; rfl) ?_) | ((with_reducible refine (qat_bin .eql) rfl ?_); refine wq_eqlBR rfl rfl Try.underlying30 Try.underlying5 size5 eqg30 rfl rfl true (HE.out _) ?_; refine wq_frame (by simp only [Act.put, List.setIfInBounds_toArray, List.set_cons_succ, List.set_cons_zero]; rfl) ?_) | (go_big_quiet_want; go_big_quiet_op; first | go_big_quiet_on | (refine ⟨_, fun _ => rfl, ?_⟩; go_big_quiet_on)))
        (go_big_quiet_want; go_big_quiet_op; go_big_quiet_call (refine wq_call (HZ2.out _)))
        repeat (first | go_big_quiet_skip | ((with_reducible refine qat_load rfl ?_); refine wq_loadB rfl rfl Try.underlying30 rfl 0 rfl size30 ?_; refine wq_frame (by simp only [Act.put, List.setIfInBounds_toArray, List.set_cons_succ, List.set_cons_zero]; rfl) ?_) | ((with_reducible refine qat_load rfl ?_); refine wq_loadB rfl rfl Try.underlying30 rfl 1 rfl size30 ?_; refine wq_frame (by simp only [Act.put, List.setIfInBounds_toArray, List.set_cons_succ, List.set_cons_zero]; rfl) ?_) | ((with_reducible refine (qat_bin .eql) rfl ?_); refine wq_eqlBR rfl rfl Try.underlying30 Try.underlying5 size5 eqg30 rfl rfl true (HE.out _) ?_; refine wq_frame (by simp only [Act.put, List.setIfInBounds_toArray, List.set_cons_succ, List.set_cons_zero]; rfl) ?_) | (go_big_quiet_want; go_big_quiet_op; first | go_big_quiet_on | (refine ⟨_, fun _ => rfl, ?_⟩; go_big_quiet_on)))
        (go_big_quiet_want; go_big_quiet_op; go_big_quiet_call (refine wq_call (H1.out _)))
        repeat (first | go_big_quiet_skip | ((with_reducible refine qat_load rfl ?_); refine wq_loadB rfl rfl Try.underlying30 rfl 0 rfl size30 ?_; refine wq_frame (by simp only [Act.put, List.setIfInBounds_toArray, List.set_cons_succ, List.set_cons_zero]; rfl) ?_) | ((with_reducible refine qat_load rfl ?_); refine wq_loadB rfl rfl Try.underlying30 rfl 1 rfl size30 ?_; refine wq_frame (by simp only [Act.put, List.setIfInBounds_toArray, List.set_cons_succ, List.set_cons_zero]; rfl) ?_) | ((with_reducible refine (qat_bin .eql) rfl ?_); refine wq_eqlBR rfl rfl Try.underlying30 Try.underlying5 size5 eqg30 rfl rfl true (HE.out _) ?_; refine wq_frame (by simp only [Act.put, List.setIfInBounds_toArray, List.set_cons_succ, List.set_cons_zero]; rfl) ?_) | (go_big_quiet_want; go_big_quiet_op; first | go_big_quiet_on | (refine ⟨_, fun _ => rfl, ?_⟩; go_big_quiet_on)))
        (go_big_quiet_want; go_big_quiet_op; go_big_quiet_call (refine wq_call (H2.out _)))
        repeat (first | go_big_quiet_skip | ((with_reducible refine qat_load rfl ?_); refine wq_loadB rfl rfl Try.underlying30 rfl 0 rfl size30 ?_; refine wq_frame (by simp only [Act.put, List.setIfInBounds_toArray, List.set_cons_succ, List.set_cons_zero]; rfl) ?_) | ((with_reducible refine qat_load rfl ?_); refine wq_loadB rfl rfl Try.underlying30 rfl 1 rfl size30 ?_; refine wq_frame (by simp only [Act.put, List.setIfInBounds_toArray, List.set_cons_succ, List.set_cons_zero]; rfl) ?_) | ((with_reducible refine (qat_bin .eql) rfl ?_); refine wq_eqlBR rfl rfl Try.underlying30 Try.underlying5 size5 eqg30 rfl rfl true (HE.out _) ?_; refine wq_frame (by simp only [Act.put, List.setIfInBounds_toArray, List.set_cons_succ, List.set_cons_zero]; rfl) ?_) | (go_big_quiet_want; go_big_quiet_op; first | go_big_quiet_on | (refine ⟨_, fun _ => rfl, ?_⟩; go_big_quiet_on)))
        (go_big_quiet_want; go_big_quiet_op; go_big_quiet_call (refine wq_call (H3.out _)))
        repeat (first | go_big_quiet_skip | ((with_reducible refine qat_load rfl ?_); refine wq_loadB rfl rfl Try.underlying30 rfl 0 rfl size30 ?_; refine wq_frame (by simp only [Act.put, List.setIfInBounds_toArray, List.set_cons_succ, List.set_cons_zero]; rfl) ?_) | ((with_reducible refine qat_load rfl ?_); refine wq_loadB rfl rfl Try.underlying30 rfl 1 rfl size30 ?_; refine wq_frame (by simp only [Act.put, List.setIfInBounds_toArray, List.set_cons_succ, List.set_cons_zero]; rfl) ?_) | ((with_reducible refine (qat_bin .eql) rfl ?_); refine wq_eqlBR rfl rfl Try.underlying30 Try.underlying5 size5 eqg30 rfl rfl true (HE.out _) ?_; refine wq_frame (by simp only [Act.put, List.setIfInBounds_toArray, List.set_cons_succ, List.set_cons_zero]; rfl) ?_) | (go_big_quiet_want; go_big_quiet_op; first | go_big_quiet_on | (refine ⟨_, fun _ => rfl, ?_⟩; go_big_quiet_on)))
        (go_big_quiet_want; go_big_quiet_op; go_big_quiet_call (refine wq_call (HZ3.out _)))
        repeat (first | go_big_quiet_skip | ((with_reducible refine qat_load rfl ?_); refine wq_loadB rfl rfl Try.underlying30 rfl 0 rfl size30 ?_; refine wq_frame (by simp only [Act.put, List.setIfInBounds_toArray, List.set_cons_succ, List.set_cons_zero]; rfl) ?_) | ((with_reducible refine qat_load rfl ?_); refine wq_loadB rfl rfl Try.underlying30 rfl 1 rfl size30 ?_; refine wq_frame (by simp only [Act.put, List.setIfInBounds_toArray, List.set_cons_succ, List.set_cons_zero]; rfl) ?_) | ((with_reducible refine (qat_bin .eql) rfl ?_); refine wq_eqlBR rfl rfl Try.underlying30 Try.underlying5 size5 eqg30 rfl rfl true (HE.out _) ?_; refine wq_frame (by simp only [Act.put, List.setIfInBounds_toArray, List.set_cons_succ, List.set_cons_zero]; rfl) ?_) | (go_big_quiet_want; go_big_quiet_op; first | go_big_quiet_on | (refine ⟨_, fun _ => rfl, ?_⟩; go_big_quiet_on)))
        (go_big_quiet_want; go_big_quiet_op; go_big_quiet_call (refine wq_call (H4.out _)))
        repeat (first | go_big_quiet_skip | ((with_reducible refine qat_load rfl ?_); refine wq_loadB rfl rfl Try.underlying30 rfl 0 rfl size30 ?_; refine wq_frame (by simp only [Act.put, List.setIfInBounds_toArray, List.set_cons_succ, List.set_cons_zero]; rfl) ?_) | ((with_reducible refine qat_load rfl ?_); refine wq_loadB rfl rfl Try.underlying30 rfl 1 rfl size30 ?_; refine wq_frame (by simp only [Act.put, List.setIfInBounds_toArray, List.set_cons_succ, List.set_cons_zero]; rfl) ?_) | ((with_reducible refine (qat_bin .eql) rfl ?_); refine wq_eqlBR rfl rfl Try.underlying30 Try.underlying5 size5 eqg30 rfl rfl true (HE.out _) ?_; refine wq_frame (by simp only [Act.put, List.setIfInBounds_toArray, List.set_cons_succ, List.set_cons_zero]; rfl) ?_) | (go_big_quiet_want; go_big_quiet_op; first | go_big_quiet_on | (refine ⟨_, fun _ => rfl, ?_⟩; go_big_quiet_on)))
        (go_big_quiet_want; go_big_quiet_op; go_big_quiet_call (refine wq_call (known_any _)))
        repeat (first | go_big_quiet_skip | ((with_reducible refine qat_load rfl ?_); refine wq_loadB rfl rfl Try.underlying30 rfl 0 rfl size30 ?_; refine wq_frame (by simp only [Act.put, List.setIfInBounds_toArray, List.set_cons_succ, List.set_cons_zero]; rfl) ?_) | ((with_reducible refine qat_load rfl ?_); refine wq_loadB rfl rfl Try.underlying30 rfl 1 rfl size30 ?_; refine wq_frame (by simp only [Act.put, List.setIfInBounds_toArray, List.set_cons_succ, List.set_cons_zero]; rfl) ?_) | ((with_reducible refine (qat_bin .eql) rfl ?_); refine wq_eqlBR rfl rfl Try.underlying30 Try.underlying5 size5 eqg30 rfl rfl true (HE.out _) ?_; refine wq_frame (by simp only [Act.put, List.setIfInBounds_toArray, List.set_cons_succ, List.set_cons_zero]; rfl) ?_) | (go_big_quiet_want; go_big_quiet_op; first | go_big_quiet_on | (refine ⟨_, fun _ => rfl, ?_⟩; go_big_quiet_on)))
        (refine wpQuiet_nil ?_; intro w1 hs)
        go_wp2_with fail
        go_ret
        exact ⟨rfl, hs.letgo⟩

theorem wipes_walk (F : Nat → UInt8) (a b : Int) (w : World) :
    Calls Try.prog 8 #[bytesV 128 F, .int .i64 a, .int .i64 b] w fun e w' => e = .returned (.bool true) ∧ Below w.heap.size w w' := by
  suffices hh : Calls Try.prog 8 #[bytesV 128 F, .int .i64 a, .int .i64 b] w fun e w' => e = .returned (.bool true) ∧ Tr w [] w' [] from hh.mono fun e w' ⟨he, ht⟩ => ⟨he, ht.below⟩
  refine wipes_core F (wipeF F a) (wipeF F (min a b)) a b (min a b) w (Lib.hid (wipe_lt F a)) (Lib.hid (wipe_ge F a)) (Lib.hid fun w => wipe_any F a w) (Lib.hid fun w => ?_) (Lib.hid fun w => wipe_any F (min a b) w) (Lib.hid fun w => ?_) (Lib.hid fun w => ?_) (by omega)
  · have := wipe_any (wipeF F a) b w
    rwa [wipe_wipe F a b (min a b) rfl] at this
  · have := wipe_any F (-1) w
    rwa [show wipeF F (-1) = fun _ => 0 from by funext i; simp only [wipeF]; rw [if_pos (by omega)]] at this
  · have := wipe_any F 128 w
    rwa [bytesV_congr (F := wipeF F 128) (G := F) (fun i hi => wipe_lt F 128 i (by omega))] at this
end Go.Proofs.Ytlekfbcmjcgabaa
