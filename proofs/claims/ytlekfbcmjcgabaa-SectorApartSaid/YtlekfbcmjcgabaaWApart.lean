/- SectorApart: the walk. -/
import Derived.Test.YtlekfbcmjcgabaaRows
import Derived.Test.YtlekfbcmjcgabaaWl
import Derived.Test.YtlekfbcmjcgabaaWq
import Derived.Test.YtlekfbcmjcgabaaPlain
import Derived.BigQuiet
import Derived.WalkSpells
import Derived.WalkLawsBesides
import Derived.Test.YtlekfbcmjcgabaaK
import Derived.Test.YtlekfbcmjcgabaaE
import Derived.Test.YtlekfbcmjcgabaaWt
import Derived.Deep.DeepCutAuto
namespace Go.Proofs.Ytlekfbcmjcgabaa
set_option linter.unusedVariables false
set_option linter.unusedSimpArgs false
open Go Go.Sp Go.RowKit Go.BigFrame

set_option maxRecDepth 100000 in
set_option maxHeartbeats 2000000 in
theorem apart_core (F G D0 D1 D2 B : Nat → UInt8) (at' wd v tv : Int) (A W N T n : Nat) (ao : Option Addr) (cap db doff : Nat) (w : World) (hnc : n ≤ cap)
    (hao : 0 < n → ao = some ⟨db, doff, none⟩) (hrd : Rd w db doff n (u8v G)) (hn : n ≤ 9223372036854775807)
    (hsp : Hid (∀ w, Calls Try.prog 22 #[.int .i64 at', .int .i64 wd] w fun e w' => e = .returned (.tuple #[.int .i64 A, .int .i64 W]) ∧ w = w'))
    (hva : Hid (∀ w, Calls Try.prog 23 #[.int .i64 v, .int .i64 W] w fun e w' => e = .returned (.int .i64 N) ∧ w = w'))
    (hpi : Hid (∀ w, Calls Try.prog 26 #[.int .i64 tv, .int .i64 (129 - (min n 128 : Nat))] w fun e w' => e = .returned (.int .i64 T) ∧ w = w'))
    (H1 : Hid (∀ w, Calls Try.prog 24 #[bytesV 128 F, .int .i64 A, .int .i64 W, .int .i64 N] w fun e w' => e = .returned (.tuple #[bytesV 128 D1, .int .i64 0]) ∧ Tr w [] w' []))
    (H2 : Hid (∀ cap' w, Rd w db doff n (u8v G) → Calls Try.prog 29 #[bytesV 128 D1, .int .i64 T, .slice ao (min n 128 : Nat) cap'] w fun e w' => e = .returned (.tuple #[bytesV 128 B, .int .i64 0]) ∧ Tr w [] w' []))
    (H3 : Hid (∀ cap' w, Rd w db doff n (u8v G) → Calls Try.prog 29 #[bytesV 128 F, .int .i64 T, .slice ao (min n 128 : Nat) cap'] w fun e w' => e = .returned (.tuple #[bytesV 128 D0, .int .i64 0]) ∧ Tr w [] w' []))
    (H4 : Hid (∀ w, Calls Try.prog 24 #[bytesV 128 D0, .int .i64 A, .int .i64 W, .int .i64 N] w fun e w' => e = .returned (.tuple #[bytesV 128 D2, .int .i64 0]) ∧ Tr w [] w' []))
    (H5 : Hid (∀ cap' w, Rd w db doff n (u8v G) → Calls Try.prog 29 #[bytesV 128 B, .int .i64 T, .slice ao (min n 128 : Nat) cap'] w fun e w' => e = .returned (.tuple #[bytesV 128 B, .int .i64 0]) ∧ Tr w [] w' []))
    (H6 : Hid (∀ w, Calls Try.prog 25 #[bytesV 128 D2, .int .i64 A, .int .i64 W] w fun e w' => e = .returned (.tuple #[.int .i64 N, .int .i64 0]) ∧ Tr w [] w' []))
    (HBD : Hid (A + W ≤ T ∨ T + min n 128 ≤ A → eqB 128 B D2 = true)) (HB : Hid (∀ k, k < min n 128 → B (T + k) = G k)) (hT : T + min n 128 ≤ 128) (hAW : A + W ≤ 128) :
    Calls Try.prog 9 #[bytesV 128 F, .agg #[.int .i64 at', .int .i64 wd, .int .i64 v, .int .i64 tv, .slice ao n cap]] w fun e w' => e = .returned (.bool true) ∧ Tr w [] w' [] := by
  have hs := Tr.refl w []
  have HR := Lib.hid hrd
  have HA := Lib.hid hao
  clear hrd hao
  go_enter Try.func9, Try.ntmps9
  go_upto_if 34 with (first
          | ((with_reducible refine at_box (t := 52) rfl ?_); refine wl_boxA hs rfl rfl rfl ?_; clear hs; intro w1 b1 hs)
          | ((with_reducible refine at_box (t := 30) rfl ?_); refine wl_boxA hs rfl rfl rfl ?_; clear hs; intro w1 b0 hs)
          | ((with_reducible refine at_load rfl ?_); refine wl_load1 hs rfl rfl Try.underlying3 rfl rfl 0 rfl rfl ?_)
          | ((with_reducible refine at_load rfl ?_); refine wl_load1 hs rfl rfl Try.underlying23 rfl rfl 0 rfl rfl ?_)
          | (go_at_call 22; refine (hsp.out _).mono ?_; rintro e w2 ⟨rfl, rfl⟩))
  go_cut [7] (fun t wx => ∃ c', t = .slice ao (min n 128) c' ∧ min n 128 ≤ c' ∧ wx = w1)
  case first =>
    by_cases c1 : n ≤ 128
    · have c2 : ¬ (128 : Int) < (n : Int) := by omega
      go_wp2
      go_meet
      exact ⟨_, by rw [show min n 128 = n by omega], by omega, rfl⟩
    · have c2 : (128 : Int) < (n : Int) := by omega
      have HA2 := Lib.hid (HA.out (by omega))
      go_wp2_with (first
          | ((with_reducible refine at_slice rfl ?_); refine wl_slice rfl rfl Try.underlying23 size5 rfl 0 128 (Or.inl ⟨rfl, rfl⟩) (Or.inr ⟨_, _, rfl, rfl⟩) (by omega) (by omega) (fun _ => HA2.out) ?_; intro ao2 hao2; obtain rfl := hao2 (by omega)))
      go_meet
      exact ⟨_, by rw [show min n 128 = 128 by omega, HA2.out], by omega, rfl⟩
  case rest =>
    obtain ⟨cap', rfl, hcap, rfl⟩ := hcut
    go_upto_region 6 with (first
          | ((with_reducible refine at_load rfl ?_); refine wl_load1 hs rfl rfl Try.underlying3 rfl rfl 0 rfl rfl ?_)
          | (go_at_call 26; refine (hpi.out _).mono ?_; rintro e w2 ⟨rfl, rfl⟩))
    go_cut [9, 10] (fun p e wx => ∃ b2, p = .pointer (some ⟨b2, 0, none⟩) ∧ e = .int .i64 0 ∧ Tr w [] wx [Res.blk b2 (rowOf 128 (u8v D1)) 30, Res.blk b1 #[.int .i64 at', .int .i64 wd, .int .i64 v, .int .i64 tv, .slice ao n cap] 52, Res.blk b0 (rowOf 128 (u8v F)) 30])
    case first =>
      go_upto_region 6 with fail
      refine wt_enter 14 rfl hs (by kernel_rfl) ?_
      clear hs; intro w1 hs; have hC := hs
      refine wt_take 0 rfl (by kernel_rfl) (by kernel_rfl) (by kernel_rfl) (fun _ _ _ _ h => h) rfl hC ⟨_, fun w hw => ex_loadB rfl Try.underlying30 size30 rfl (hw.getB 1 rfl), fun a1 ha => ?_⟩
      simp only [Act.put, List.setIfInBounds_toArray, List.set_cons_succ, List.set_cons_zero] at ha; subst ha
      refine wt_take 1 rfl (by kernel_rfl) (by kernel_rfl) (by kernel_rfl) (fun _ _ _ _ h => h) rfl hC ⟨_, fun w hw => by (go_simp; try with_reducible rfl), fun a1 ha => ?_⟩
      simp only [Act.put, List.setIfInBounds_toArray, List.set_cons_succ, List.set_cons_zero] at ha; subst ha
      refine wt_take 2 rfl (by kernel_rfl) (by kernel_rfl) (by kernel_rfl) (fun _ _ _ _ h => h) rfl hC ⟨_, fun w hw => by (go_simp; try with_reducible rfl), fun a1 ha => ?_⟩
      simp only [Act.put, List.setIfInBounds_toArray, List.set_cons_succ, List.set_cons_zero] at ha; subst ha
      refine wt_take 3 rfl (by kernel_rfl) (by kernel_rfl) (by kernel_rfl) (fun _ _ _ _ h => h) rfl hC ⟨_, fun w hw => by (go_simp; try with_reducible rfl), fun a1 ha => ?_⟩
      simp only [Act.put, List.setIfInBounds_toArray, List.set_cons_succ, List.set_cons_zero] at ha; subst ha
      refine wt_take 4 rfl (by kernel_rfl) (by kernel_rfl) (by kernel_rfl) (fun _ _ _ _ h => h) rfl hC ⟨_, fun w hw => ex_load1 rfl Try.underlying3 rfl rfl (by rw [cell_of_row w _ _ _ _ (0, 0) (hw.getB 0 rfl)]; rfl), fun a1 ha => ?_⟩
      simp only [Act.put, List.setIfInBounds_toArray, List.set_cons_succ, List.set_cons_zero] at ha; subst ha
      refine wt_take 5 rfl (by kernel_rfl) (by kernel_rfl) (by kernel_rfl) (fun _ _ _ _ h => h) rfl hC ⟨_, fun w hw => by (go_simp; try with_reducible rfl), fun a1 ha => ?_⟩
      simp only [Act.put, List.setIfInBounds_toArray, List.set_cons_succ, List.set_cons_zero] at ha; subst ha
      refine wt_all [6, 11] (by kernel_rfl) (by simp) ?_
      refine wt_cons ?_ ?_
      ·
        refine wt_callE hs rfl rfl (by go_simp) (hva.out _) (by simp only [Act.put, List.setIfInBounds_toArray, List.set_cons_succ, List.set_cons_zero]; rfl) ?_
        clear hs; intro w1 hs
        refine wt_and (hs.sub (by repeat (first | exact List.Sublist.refl _ | apply List.Sublist.cons))) fun hC => ?_
        refine wt_all [7, 11] (by kernel_rfl) (by simp) ?_
        refine wt_cons ?_ ?_
        ·
          refine wt_call0 hs rfl rfl (by go_simp) (H1.out _) (by simp only [Act.put, List.setIfInBounds_toArray, List.set_cons_succ, List.set_cons_zero]; rfl) ?_
          clear hs; intro w1 hs
          refine wt_and (hs.sub (by repeat (first | exact List.Sublist.refl _ | apply List.Sublist.cons))) fun hC => ?_
          refine wt_take 8 rfl (by kernel_rfl) (by kernel_rfl) (by kernel_rfl) (fun _ _ _ _ h => h) rfl hC ⟨_, fun w hw => by (go_simp; try with_reducible rfl), fun a1 ha => ?_⟩
          simp only [Act.put, List.setIfInBounds_toArray, List.set_cons_succ, List.set_cons_zero] at ha; subst ha
          refine wt_take 9 rfl (by kernel_rfl) (by kernel_rfl) (by kernel_rfl) (fun _ _ _ _ h => h) rfl hC ⟨_, fun w hw => by (go_simp; try with_reducible rfl), fun a1 ha => ?_⟩
          simp only [Act.put, List.setIfInBounds_toArray, List.set_cons_succ, List.set_cons_zero] at ha; subst ha
          refine wt_take 10 rfl (by kernel_rfl) (by kernel_rfl) (by kernel_rfl) (fun _ _ _ _ h => h) rfl hC ⟨_, fun w hw => by (go_simp; try with_reducible rfl), fun a1 ha => ?_⟩
          simp only [Act.put, List.setIfInBounds_toArray, List.set_cons_succ, List.set_cons_zero] at ha; subst ha
          refine wt_all [11] (by kernel_rfl) (by simp) ?_
          refine wt_cons ?_ ?_
          ·
            refine wt_allocA hs rfl rfl rfl zero30 (fun _ => by simp only [Act.put, List.setIfInBounds_toArray, List.set_cons_succ, List.set_cons_zero]; rfl) ?_
            clear hs; intro w1 b2 hs
            refine wt_and (hs.sub (by repeat (first | exact List.Sublist.refl _ | apply List.Sublist.cons))) fun hC => ?_
            refine wt_all [12] (by kernel_rfl) (by simp) ?_
            refine wt_cons ?_ ?_
            ·
              refine wt_storeA hs rfl rfl rfl rfl rfl (size30r _) (one30 _) 0 rfl (by simp only [rowOf_size]) (by simp only [Act.put, List.setIfInBounds_toArray, List.set_cons_succ, List.set_cons_zero]; rfl) ?_
              clear hs; intro w1 hs
              refine wt_and (hs.sub (by repeat (first | exact List.Sublist.refl _ | apply List.Sublist.cons))) fun hC => ?_
              refine wt_take 13 rfl (by kernel_rfl) (by kernel_rfl) (by kernel_rfl) (fun _ _ _ _ h => h) rfl hC ⟨_, fun w hw => by (go_simp; try with_reducible rfl), fun a1 ha => ?_⟩
              simp only [Act.put, List.setIfInBounds_toArray, List.set_cons_succ, List.set_cons_zero] at ha; subst ha
              refine wt_done (by kernel_rfl) ?_
              go_wp2_with fail
              go_meet
              exact ⟨_, rfl, rfl, hs⟩
            exact wt_nil
          exact wt_nil
        refine wt_cons ?_ ?_
        ·
          refine wt_allocA hs rfl rfl rfl zero30 (fun _ => by simp only [Act.put, List.setIfInBounds_toArray, List.set_cons_succ, List.set_cons_zero]; rfl) ?_
          clear hs; intro w1 b2 hs
          refine wt_and (hs.sub (by repeat (first | exact List.Sublist.refl _ | apply List.Sublist.cons))) fun hC => ?_
          refine wt_all [7] (by kernel_rfl) (by simp) ?_
          refine wt_cons ?_ ?_
          ·
            refine wt_call0 hs rfl rfl (by go_simp) (H1.out _) (by simp only [Act.put, List.setIfInBounds_toArray, List.set_cons_succ, List.set_cons_zero]; rfl) ?_
            clear hs; intro w1 hs
            refine wt_and (hs.sub (by repeat (first | exact List.Sublist.refl _ | apply List.Sublist.cons))) fun hC => ?_
            refine wt_take 8 rfl (by kernel_rfl) (by kernel_rfl) (by kernel_rfl) (fun _ _ _ _ h => h) rfl hC ⟨_, fun w hw => by (go_simp; try with_reducible rfl), fun a1 ha => ?_⟩
            simp only [Act.put, List.setIfInBounds_toArray, List.set_cons_succ, List.set_cons_zero] at ha; subst ha
            refine wt_take 9 rfl (by kernel_rfl) (by kernel_rfl) (by kernel_rfl) (fun _ _ _ _ h => h) rfl hC ⟨_, fun w hw => by (go_simp; try with_reducible rfl), fun a1 ha => ?_⟩
            simp only [Act.put, List.setIfInBounds_toArray, List.set_cons_succ, List.set_cons_zero] at ha; subst ha
            refine wt_take 10 rfl (by kernel_rfl) (by kernel_rfl) (by kernel_rfl) (fun _ _ _ _ h => h) rfl hC ⟨_, fun w hw => by (go_simp; try with_reducible rfl), fun a1 ha => ?_⟩
            simp only [Act.put, List.setIfInBounds_toArray, List.set_cons_succ, List.set_cons_zero] at ha; subst ha
            refine wt_all [12] (by kernel_rfl) (by simp) ?_
            refine wt_cons ?_ ?_
            ·
              refine wt_storeA hs rfl rfl rfl rfl rfl (size30r _) (one30 _) 0 rfl (by simp only [rowOf_size]) (by simp only [Act.put, List.setIfInBounds_toArray, List.set_cons_succ, List.set_cons_zero]; rfl) ?_
              clear hs; intro w1 hs
              refine wt_and (hs.sub (by repeat (first | exact List.Sublist.refl _ | apply List.Sublist.cons))) fun hC => ?_
              refine wt_take 13 rfl (by kernel_rfl) (by kernel_rfl) (by kernel_rfl) (fun _ _ _ _ h => h) rfl hC ⟨_, fun w hw => by (go_simp; try with_reducible rfl), fun a1 ha => ?_⟩
              simp only [Act.put, List.setIfInBounds_toArray, List.set_cons_succ, List.set_cons_zero] at ha; subst ha
              refine wt_done (by kernel_rfl) ?_
              go_wp2_with fail
              go_meet
              exact ⟨_, rfl, rfl, hs⟩
            exact wt_nil
          exact wt_nil
        exact wt_nil
      refine wt_cons ?_ ?_
      ·
        refine wt_allocA hs rfl rfl rfl zero30 (fun _ => by simp only [Act.put, List.setIfInBounds_toArray, List.set_cons_succ, List.set_cons_zero]; rfl) ?_
        clear hs; intro w1 b2 hs
        refine wt_and (hs.sub (by repeat (first | exact List.Sublist.refl _ | apply List.Sublist.cons))) fun hC => ?_
        refine wt_all [6] (by kernel_rfl) (by simp) ?_
        refine wt_cons ?_ ?_
        ·
          refine wt_callE hs rfl rfl (by go_simp) (hva.out _) (by simp only [Act.put, List.setIfInBounds_toArray, List.set_cons_succ, List.set_cons_zero]; rfl) ?_
          clear hs; intro w1 hs
          refine wt_and (hs.sub (by repeat (first | exact List.Sublist.refl _ | apply List.Sublist.cons))) fun hC => ?_
          refine wt_all [7] (by kernel_rfl) (by simp) ?_
          refine wt_cons ?_ ?_
          ·
            refine wt_call0 hs rfl rfl (by go_simp) (H1.out _) (by simp only [Act.put, List.setIfInBounds_toArray, List.set_cons_succ, List.set_cons_zero]; rfl) ?_
            clear hs; intro w1 hs
            refine wt_and (hs.sub (by repeat (first | exact List.Sublist.refl _ | apply List.Sublist.cons))) fun hC => ?_
            refine wt_take 8 rfl (by kernel_rfl) (by kernel_rfl) (by kernel_rfl) (fun _ _ _ _ h => h) rfl hC ⟨_, fun w hw => by (go_simp; try with_reducible rfl), fun a1 ha => ?_⟩
            simp only [Act.put, List.setIfInBounds_toArray, List.set_cons_succ, List.set_cons_zero] at ha; subst ha
            refine wt_take 9 rfl (by kernel_rfl) (by kernel_rfl) (by kernel_rfl) (fun _ _ _ _ h => h) rfl hC ⟨_, fun w hw => by (go_simp; try with_reducible rfl), fun a1 ha => ?_⟩
            simp only [Act.put, List.setIfInBounds_toArray, List.set_cons_succ, List.set_cons_zero] at ha; subst ha
            refine wt_take 10 rfl (by kernel_rfl) (by kernel_rfl) (by kernel_rfl) (fun _ _ _ _ h => h) rfl hC ⟨_, fun w hw => by (go_simp; try with_reducible rfl), fun a1 ha => ?_⟩
            simp only [Act.put, List.setIfInBounds_toArray, List.set_cons_succ, List.set_cons_zero] at ha; subst ha
            refine wt_all [12] (by kernel_rfl) (by simp) ?_
            refine wt_cons ?_ ?_
            ·
              refine wt_storeA hs rfl rfl rfl rfl rfl (size30r _) (one30 _) 0 rfl (by simp only [rowOf_size]) (by simp only [Act.put, List.setIfInBounds_toArray, List.set_cons_succ, List.set_cons_zero]; rfl) ?_
              clear hs; intro w1 hs
              refine wt_and (hs.sub (by repeat (first | exact List.Sublist.refl _ | apply List.Sublist.cons))) fun hC => ?_
              refine wt_take 13 rfl (by kernel_rfl) (by kernel_rfl) (by kernel_rfl) (fun _ _ _ _ h => h) rfl hC ⟨_, fun w hw => by (go_simp; try with_reducible rfl), fun a1 ha => ?_⟩
              simp only [Act.put, List.setIfInBounds_toArray, List.set_cons_succ, List.set_cons_zero] at ha; subst ha
              refine wt_done (by kernel_rfl) ?_
              go_wp2_with fail
              go_meet
              exact ⟨_, rfl, rfl, hs⟩
            exact wt_nil
          exact wt_nil
        exact wt_nil
      exact wt_nil
    case rest =>
      clear hs
      obtain ⟨b2, rfl, rfl, hs⟩ := hcut
      go_upto_region 8 with (first
          | ((with_reducible refine at_load rfl ?_); refine wl_loadB hs rfl rfl Try.underlying30 rfl 0 rfl size30 ?_)
          | ((with_reducible refine at_load rfl ?_); refine wl_loadB hs rfl rfl Try.underlying30 rfl 1 rfl size30 ?_)
          | (go_at_call 29; refine (H2.out _ _ (HR.out.keep hs)).mono ?_; rintro e w2 ⟨rfl, hc⟩; replace hs := hs.call0 hc; clear hc)
          | ((with_reducible refine at_alloc rfl ?_); refine wl_allocA hs rfl rfl zero30 ?_; clear hs; intro w1 b3 hs)
          | ((with_reducible refine at_store rfl ?_); refine wl_storeA hs rfl rfl rfl rfl (size30r _) (one30 _) 0 rfl (by simp only [rowOf_size]) ?_; clear hs; intro w1 hs))
      go_upto_region 9 with (first
          | ((with_reducible refine at_load rfl ?_); refine wl_loadB hs rfl rfl Try.underlying30 rfl 3 rfl size30 ?_)
          | (go_at_call 29; refine (H3.out _ _ (HR.out.keep hs)).mono ?_; rintro e w2 ⟨rfl, hc⟩; replace hs := hs.call0 hc; clear hc)
          | ((with_reducible refine at_alloc rfl ?_); refine wl_allocA hs rfl rfl zero30 ?_; clear hs; intro w1 b4 hs)
          | ((with_reducible refine at_store rfl ?_); refine wl_storeA hs rfl rfl rfl rfl (size30r _) (one30 _) 0 rfl (by simp only [rowOf_size]) ?_; clear hs; intro w1 hs))
      go_cut [15, 16] (fun p e wx => ∃ b5, p = .pointer (some ⟨b5, 0, none⟩) ∧ e = .int .i64 0 ∧ Tr w [] wx [Res.blk b5 (rowOf 128 (u8v D2)) 30, Res.blk b4 (rowOf 128 (u8v D0)) 30, Res.blk b3 (rowOf 128 (u8v B)) 30, Res.blk b2 (rowOf 128 (u8v D1)) 30, Res.blk b1 #[.int .i64 at', .int .i64 wd, .int .i64 v, .int .i64 tv, .slice ao n cap] 52, Res.blk b0 (rowOf 128 (u8v F)) 30])
      case first =>
        go_upto_region 9 with fail
        refine wt_enter 14 rfl hs (by kernel_rfl) ?_
        clear hs; intro w1 hs; have hC := hs
        refine wt_take 0 rfl (by kernel_rfl) (by kernel_rfl) (by kernel_rfl) (fun _ _ _ _ h => h) rfl hC ⟨_, fun w hw => ex_loadB rfl Try.underlying30 size30 rfl (hw.getB 0 rfl), fun a1 ha => ?_⟩
        simp only [Act.put, List.setIfInBounds_toArray, List.set_cons_succ, List.set_cons_zero] at ha; subst ha
        refine wt_take 1 rfl (by kernel_rfl) (by kernel_rfl) (by kernel_rfl) (fun _ _ _ _ h => h) rfl hC ⟨_, fun w hw => by (go_simp; try with_reducible rfl), fun a1 ha => ?_⟩
        simp only [Act.put, List.setIfInBounds_toArray, List.set_cons_succ, List.set_cons_zero] at ha; subst ha
        refine wt_take 2 rfl (by kernel_rfl) (by kernel_rfl) (by kernel_rfl) (fun _ _ _ _ h => h) rfl hC ⟨_, fun w hw => by (go_simp; try with_reducible rfl), fun a1 ha => ?_⟩
        simp only [Act.put, List.setIfInBounds_toArray, List.set_cons_succ, List.set_cons_zero] at ha; subst ha
        refine wt_take 3 rfl (by kernel_rfl) (by kernel_rfl) (by kernel_rfl) (fun _ _ _ _ h => h) rfl hC ⟨_, fun w hw => by (go_simp; try with_reducible rfl), fun a1 ha => ?_⟩
        simp only [Act.put, List.setIfInBounds_toArray, List.set_cons_succ, List.set_cons_zero] at ha; subst ha
        refine wt_take 4 rfl (by kernel_rfl) (by kernel_rfl) (by kernel_rfl) (fun _ _ _ _ h => h) rfl hC ⟨_, fun w hw => ex_load1 rfl Try.underlying3 rfl rfl (by rw [cell_of_row w _ _ _ _ (0, 0) (hw.getB 3 rfl)]; rfl), fun a1 ha => ?_⟩
        simp only [Act.put, List.setIfInBounds_toArray, List.set_cons_succ, List.set_cons_zero] at ha; subst ha
        refine wt_take 5 rfl (by kernel_rfl) (by kernel_rfl) (by kernel_rfl) (fun _ _ _ _ h => h) rfl hC ⟨_, fun w hw => by (go_simp; try with_reducible rfl), fun a1 ha => ?_⟩
        simp only [Act.put, List.setIfInBounds_toArray, List.set_cons_succ, List.set_cons_zero] at ha; subst ha
        refine wt_all [6, 11] (by kernel_rfl) (by simp) ?_
        refine wt_cons ?_ ?_
        ·
          refine wt_callE hs rfl rfl (by go_simp) (hva.out _) (by simp only [Act.put, List.setIfInBounds_toArray, List.set_cons_succ, List.set_cons_zero]; rfl) ?_
          clear hs; intro w1 hs
          refine wt_and (hs.sub (by repeat (first | exact List.Sublist.refl _ | apply List.Sublist.cons))) fun hC => ?_
          refine wt_all [7, 11] (by kernel_rfl) (by simp) ?_
          refine wt_cons ?_ ?_
          ·
            refine wt_call0 hs rfl rfl (by go_simp) (H4.out _) (by simp only [Act.put, List.setIfInBounds_toArray, List.set_cons_succ, List.set_cons_zero]; rfl) ?_
            clear hs; intro w1 hs
            refine wt_and (hs.sub (by repeat (first | exact List.Sublist.refl _ | apply List.Sublist.cons))) fun hC => ?_
            refine wt_take 8 rfl (by kernel_rfl) (by kernel_rfl) (by kernel_rfl) (fun _ _ _ _ h => h) rfl hC ⟨_, fun w hw => by (go_simp; try with_reducible rfl), fun a1 ha => ?_⟩
            simp only [Act.put, List.setIfInBounds_toArray, List.set_cons_succ, List.set_cons_zero] at ha; subst ha
            refine wt_take 9 rfl (by kernel_rfl) (by kernel_rfl) (by kernel_rfl) (fun _ _ _ _ h => h) rfl hC ⟨_, fun w hw => by (go_simp; try with_reducible rfl), fun a1 ha => ?_⟩
            simp only [Act.put, List.setIfInBounds_toArray, List.set_cons_succ, List.set_cons_zero] at ha; subst ha
            refine wt_take 10 rfl (by kernel_rfl) (by kernel_rfl) (by kernel_rfl) (fun _ _ _ _ h => h) rfl hC ⟨_, fun w hw => by (go_simp; try with_reducible rfl), fun a1 ha => ?_⟩
            simp only [Act.put, List.setIfInBounds_toArray, List.set_cons_succ, List.set_cons_zero] at ha; subst ha
            refine wt_all [11] (by kernel_rfl) (by simp) ?_
            refine wt_cons ?_ ?_
            ·
              refine wt_allocA hs rfl rfl rfl zero30 (fun _ => by simp only [Act.put, List.setIfInBounds_toArray, List.set_cons_succ, List.set_cons_zero]; rfl) ?_
              clear hs; intro w1 b5 hs
              refine wt_and (hs.sub (by repeat (first | exact List.Sublist.refl _ | apply List.Sublist.cons))) fun hC => ?_
              refine wt_all [12] (by kernel_rfl) (by simp) ?_
              refine wt_cons ?_ ?_
              ·
                refine wt_storeA hs rfl rfl rfl rfl rfl (size30r _) (one30 _) 0 rfl (by simp only [rowOf_size]) (by simp only [Act.put, List.setIfInBounds_toArray, List.set_cons_succ, List.set_cons_zero]; rfl) ?_
                clear hs; intro w1 hs
                refine wt_and (hs.sub (by repeat (first | exact List.Sublist.refl _ | apply List.Sublist.cons))) fun hC => ?_
                refine wt_take 13 rfl (by kernel_rfl) (by kernel_rfl) (by kernel_rfl) (fun _ _ _ _ h => h) rfl hC ⟨_, fun w hw => by (go_simp; try with_reducible rfl), fun a1 ha => ?_⟩
                simp only [Act.put, List.setIfInBounds_toArray, List.set_cons_succ, List.set_cons_zero] at ha; subst ha
                refine wt_done (by kernel_rfl) ?_
                go_wp2_with fail
                go_meet
                exact ⟨_, rfl, rfl, hs⟩
              exact wt_nil
            exact wt_nil
          refine wt_cons ?_ ?_
          ·
            refine wt_allocA hs rfl rfl rfl zero30 (fun _ => by simp only [Act.put, List.setIfInBounds_toArray, List.set_cons_succ, List.set_cons_zero]; rfl) ?_
            clear hs; intro w1 b5 hs
            refine wt_and (hs.sub (by repeat (first | exact List.Sublist.refl _ | apply List.Sublist.cons))) fun hC => ?_
            refine wt_all [7] (by kernel_rfl) (by simp) ?_
            refine wt_cons ?_ ?_
            ·
              refine wt_call0 hs rfl rfl (by go_simp) (H4.out _) (by simp only [Act.put, List.setIfInBounds_toArray, List.set_cons_succ, List.set_cons_zero]; rfl) ?_
              clear hs; intro w1 hs
              refine wt_and (hs.sub (by repeat (first | exact List.Sublist.refl _ | apply List.Sublist.cons))) fun hC => ?_
              refine wt_take 8 rfl (by kernel_rfl) (by kernel_rfl) (by kernel_rfl) (fun _ _ _ _ h => h) rfl hC ⟨_, fun w hw => by (go_simp; try with_reducible rfl), fun a1 ha => ?_⟩
              simp only [Act.put, List.setIfInBounds_toArray, List.set_cons_succ, List.set_cons_zero] at ha; subst ha
              refine wt_take 9 rfl (by kernel_rfl) (by kernel_rfl) (by kernel_rfl) (fun _ _ _ _ h => h) rfl hC ⟨_, fun w hw => by (go_simp; try with_reducible rfl), fun a1 ha => ?_⟩
              simp only [Act.put, List.setIfInBounds_toArray, List.set_cons_succ, List.set_cons_zero] at ha; subst ha
              refine wt_take 10 rfl (by kernel_rfl) (by kernel_rfl) (by kernel_rfl) (fun _ _ _ _ h => h) rfl hC ⟨_, fun w hw => by (go_simp; try with_reducible rfl), fun a1 ha => ?_⟩
              simp only [Act.put, List.setIfInBounds_toArray, List.set_cons_succ, List.set_cons_zero] at ha; subst ha
              refine wt_all [12] (by kernel_rfl) (by simp) ?_
              refine wt_cons ?_ ?_
              ·
                refine wt_storeA hs rfl rfl rfl rfl rfl (size30r _) (one30 _) 0 rfl (by simp only [rowOf_size]) (by simp only [Act.put, List.setIfInBounds_toArray, List.set_cons_succ, List.set_cons_zero]; rfl) ?_
                clear hs; intro w1 hs
                refine wt_and (hs.sub (by repeat (first | exact List.Sublist.refl _ | apply List.Sublist.cons))) fun hC => ?_
                refine wt_take 13 rfl (by kernel_rfl) (by kernel_rfl) (by kernel_rfl) (fun _ _ _ _ h => h) rfl hC ⟨_, fun w hw => by (go_simp; try with_reducible rfl), fun a1 ha => ?_⟩
                simp only [Act.put, List.setIfInBounds_toArray, List.set_cons_succ, List.set_cons_zero] at ha; subst ha
                refine wt_done (by kernel_rfl) ?_
                go_wp2_with fail
                go_meet
                exact ⟨_, rfl, rfl, hs⟩
              exact wt_nil
            exact wt_nil
          exact wt_nil
        refine wt_cons ?_ ?_
        ·
          refine wt_allocA hs rfl rfl rfl zero30 (fun _ => by simp only [Act.put, List.setIfInBounds_toArray, List.set_cons_succ, List.set_cons_zero]; rfl) ?_
          clear hs; intro w1 b5 hs
          refine wt_and (hs.sub (by repeat (first | exact List.Sublist.refl _ | apply List.Sublist.cons))) fun hC => ?_
          refine wt_all [6] (by kernel_rfl) (by simp) ?_
          refine wt_cons ?_ ?_
          ·
            refine wt_callE hs rfl rfl (by go_simp) (hva.out _) (by simp only [Act.put, List.setIfInBounds_toArray, List.set_cons_succ, List.set_cons_zero]; rfl) ?_
            clear hs; intro w1 hs
            refine wt_and (hs.sub (by repeat (first | exact List.Sublist.refl _ | apply List.Sublist.cons))) fun hC => ?_
            refine wt_all [7] (by kernel_rfl) (by simp) ?_
            refine wt_cons ?_ ?_
            ·
              refine wt_call0 hs rfl rfl (by go_simp) (H4.out _) (by simp only [Act.put, List.setIfInBounds_toArray, List.set_cons_succ, List.set_cons_zero]; rfl) ?_
              clear hs; intro w1 hs
              refine wt_and (hs.sub (by repeat (first | exact List.Sublist.refl _ | apply List.Sublist.cons))) fun hC => ?_
              refine wt_take 8 rfl (by kernel_rfl) (by kernel_rfl) (by kernel_rfl) (fun _ _ _ _ h => h) rfl hC ⟨_, fun w hw => by (go_simp; try with_reducible rfl), fun a1 ha => ?_⟩
              simp only [Act.put, List.setIfInBounds_toArray, List.set_cons_succ, List.set_cons_zero] at ha; subst ha
              refine wt_take 9 rfl (by kernel_rfl) (by kernel_rfl) (by kernel_rfl) (fun _ _ _ _ h => h) rfl hC ⟨_, fun w hw => by (go_simp; try with_reducible rfl), fun a1 ha => ?_⟩
              simp only [Act.put, List.setIfInBounds_toArray, List.set_cons_succ, List.set_cons_zero] at ha; subst ha
              refine wt_take 10 rfl (by kernel_rfl) (by kernel_rfl) (by kernel_rfl) (fun _ _ _ _ h => h) rfl hC ⟨_, fun w hw => by (go_simp; try with_reducible rfl), fun a1 ha => ?_⟩
              simp only [Act.put, List.setIfInBounds_toArray, List.set_cons_succ, List.set_cons_zero] at ha; subst ha
              refine wt_all [12] (by kernel_rfl) (by simp) ?_
              refine wt_cons ?_ ?_
              ·
                refine wt_storeA hs rfl rfl rfl rfl rfl (size30r _) (one30 _) 0 rfl (by simp only [rowOf_size]) (by simp only [Act.put, List.setIfInBounds_toArray, List.set_cons_succ, List.set_cons_zero]; rfl) ?_
                clear hs; intro w1 hs
                refine wt_and (hs.sub (by repeat (first | exact List.Sublist.refl _ | apply List.Sublist.cons))) fun hC => ?_
                refine wt_take 13 rfl (by kernel_rfl) (by kernel_rfl) (by kernel_rfl) (fun _ _ _ _ h => h) rfl hC ⟨_, fun w hw => by (go_simp; try with_reducible rfl), fun a1 ha => ?_⟩
                simp only [Act.put, List.setIfInBounds_toArray, List.set_cons_succ, List.set_cons_zero] at ha; subst ha
                refine wt_done (by kernel_rfl) ?_
                go_wp2_with fail
                go_meet
                exact ⟨_, rfl, rfl, hs⟩
              exact wt_nil
            exact wt_nil
          exact wt_nil
        exact wt_nil
      case rest =>
        clear hs
        obtain ⟨b5, rfl, rfl, hs⟩ := hcut
        have HE := eqB_refl 128 B
        go_upto_region 13 with (first
          | ((with_reducible refine at_load rfl ?_); refine wl_loadB hs rfl rfl Try.underlying30 rfl 0 rfl size30 ?_)
          | ((with_reducible refine at_load rfl ?_); refine wl_loadB hs rfl rfl Try.underlying30 rfl 2 rfl size30 ?_)
          | ((with_reducible refine at_load rfl ?_); refine wl_loadB hs rfl rfl Try.underlying30 rfl 3 rfl size30 ?_)
          | (go_at_call 29; refine (H5.out _ _ (HR.out.keep hs)).mono ?_; rintro e w2 ⟨rfl, hc⟩; replace hs := hs.call0 hc; clear hc)
          | ((with_reducible refine at_alloc rfl ?_); refine wl_allocA hs rfl rfl zero30 ?_; clear hs; intro w1 b6 hs)
          | ((with_reducible refine at_store rfl ?_); refine wl_storeA hs rfl rfl rfl rfl (size30r _) (one30 _) 0 rfl (by simp only [rowOf_size]) ?_; clear hs; intro w1 hs)
          | ((with_reducible refine (at_bin .neq) rfl ?_); refine wl_neqB rfl rfl Try.underlying30 Try.underlying5 size5 eqg30 rfl rfl ?_))
        by_cases p1 : (A : Int) + W ≤ T
        · have HBD2 := HBD.out (by omega)
          go_wp2_with (first
              | ((with_reducible refine at_load rfl ?_); refine wl_loadB hs rfl rfl Try.underlying30 rfl 1 rfl size30 ?_)
              | ((with_reducible refine at_load rfl ?_); refine wl_loadB hs rfl rfl Try.underlying30 rfl 3 rfl size30 ?_)
              | ((with_reducible refine (at_bin .eql) rfl ?_); refine wl_eqlB rfl rfl Try.underlying30 Try.underlying5 size5 eqg30 rfl rfl ?_)
              | (go_at_call 12; refine (known_any _).mono ?_; rintro e w2 ⟨rfl, hc⟩; replace hs := hs.call0 hc; clear hc))
          go_ret
          exact ⟨rfl, hs.letgo⟩
        · by_cases p2 : (T : Int) + (min n 128 : Nat) ≤ A
          · have HBD2 := HBD.out (by omega)
            go_wp2_with (first
              | ((with_reducible refine at_load rfl ?_); refine wl_loadB hs rfl rfl Try.underlying30 rfl 1 rfl size30 ?_)
              | ((with_reducible refine at_load rfl ?_); refine wl_loadB hs rfl rfl Try.underlying30 rfl 3 rfl size30 ?_)
              | ((with_reducible refine (at_bin .eql) rfl ?_); refine wl_eqlB rfl rfl Try.underlying30 Try.underlying5 size5 eqg30 rfl rfl ?_)
              | (go_at_call 12; refine (known_any _).mono ?_; rintro e w2 ⟨rfl, hc⟩; replace hs := hs.call0 hc; clear hc))
            go_ret
            exact ⟨rfl, hs.letgo⟩
          · clear HBD
            go_wp2_with fail
            go_loopw [19] (fun i wr => ∃ k : Nat, k ≤ min n 128 ∧ i = .int .i64 k ∧ Tr w [] wr [Res.blk b6 (rowOf 128 (u8v B)) 30, Res.blk b5 (rowOf 128 (u8v D2)) 30, Res.blk b4 (rowOf 128 (u8v D0)) 30, Res.blk b3 (rowOf 128 (u8v B)) 30, Res.blk b2 (rowOf 128 (u8v D1)) 30, Res.blk b1 #[.int .i64 at', .int .i64 wd, .int .i64 v, .int .i64 tv, .slice ao n cap] 52, Res.blk b0 (rowOf 128 (u8v F)) 30]) (fun i _ => min n 128 - (intOf i).toNat)
            case atStart => exact ⟨0, by omega, rfl, hs⟩
            case round =>
              clear hs
              obtain ⟨k, hk, rfl, hs⟩ := hrel
              by_cases hlt : k < min n 128
              · have hB := HB.out k hlt
                have hlt2 : (k : Int) < ((min n 128 : Nat) : Int) := by omega
                have hTk : (T : Int) + k < 128 := by omega
                have HA2 := HA.out (by omega)
                subst HA2
                go_wp2_with fail
                (refine wq_enter hs (by kernel_rfl) (by kernel_rfl) ?_; intro hne; clear hs)
                repeat (first | go_big_quiet_skip | ((with_reducible refine qat_load rfl ?_); refine wq_load1 rfl rfl Try.underlying5 rfl rfl 3 rfl (rowOf_u8 (by omega)) ?_; refine wq_frame (by simp only [Act.put, List.setIfInBounds_toArray, List.set_cons_succ, List.set_cons_zero]; rfl) ?_) | ((with_reducible refine qat_load rfl ?_); refine wq_loadC (v := .int .u8 ((G k).toNat : Int)) rfl rfl Try.underlying5 rfl rfl (fun w hw => HR.out.keep hw k (by omega)) ?_; refine wq_frame (by simp only [Act.put, List.setIfInBounds_toArray, List.set_cons_succ, List.set_cons_zero]; rfl) ?_) | (go_big_quiet_want; go_big_quiet_op; first | go_big_quiet_on | (refine ⟨_, fun _ => rfl, ?_⟩; go_big_quiet_on)))

                (refine wpQuiet_nil ?_; intro w1 hs)
                go_wp2_with fail
                go_roundw
                case rel => exact ⟨k + 1, by omega, by go_num, hs⟩
                case measure => simp [intOf]; omega
              · obtain rfl : k = min n 128 := by omega
                go_wp2_with (first
                  | ((with_reducible refine at_load rfl ?_); refine wl_loadB hs rfl rfl Try.underlying30 rfl 1 rfl size30 ?_)
                  | ((with_reducible refine at_load rfl ?_); refine wl_load1 hs rfl rfl Try.underlying3 rfl rfl 5 rfl rfl ?_)
                  | (go_at_call 25; refine (H6.out _).mono ?_; rintro e w2 ⟨rfl, hc⟩; replace hs := hs.call0 hc; clear hc)
                  | (go_at_call 23; refine (hva.out _).mono ?_; rintro e w2 ⟨rfl, rfl⟩)
                  | (go_at_call 12; refine (known_any _).mono ?_; rintro e w2 ⟨rfl, hc⟩; replace hs := hs.call0 hc; clear hc))
                go_ret
                exact ⟨rfl, hs.letgo⟩
end Go.Proofs.Ytlekfbcmjcgabaa
