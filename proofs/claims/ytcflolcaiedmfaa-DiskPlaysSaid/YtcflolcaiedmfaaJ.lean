/- One step on two disks: reads, writes, arms, restarts. -/
import Derived.Test.YtcflolcaiedmfaaI
namespace Go.Proofs.Ytcflolcaiedmfaa
set_option linter.unusedVariables false
set_option linter.unusedSimpArgs false
open Go Go.Sp Go.RowKit Go.BigFrame

theorem size23 : (Try.prog.info? 23).map (·.size) = some 1 := by kernel_rfl
theorem size27 : (Try.prog.info? 27).map (·.size) = some 1 := by kernel_rfl
def setC (C8 : Nat → Value) (i : Nat) (v : Value) : Nat → Value := fun j => if j = i then v else C8 j
set_option maxRecDepth 100000 in
set_option maxHeartbeats 1000000 in
theorem step_read (xb d s g c rd n k t : Nat) (f : Nat → UInt8) (wr : Int) (off aI aR : Bool) (lI lR B : Int) (C8 : Nat → Value) (R2 : List Res) (w0 w : World) (on tt N : Int) (bv : Value)
    (hL : Like n wr off aI aR lI lR B) (hk : k < 3) (ht : t < 3) (hN : -9223372036854775808 ≤ N ∧ N ≤ 9223372036854775807)
    (HP : Hid (∀ w, Calls Try.prog 19 #[.int .i64 on, .int .i64 3] w fun e w' => e = .returned (.int .i64 k) ∧ w = w')) (HP2 : Hid (∀ w, Calls Try.prog 19 #[.int .i64 tt, .int .i64 3] w fun e w' => e = .returned (.int .i64 t) ∧ w = w'))
    (HV1 : Hid ((rowOf 8 C8)[k]? = some (.pointer (some ⟨d, 0, none⟩)))) (HV2 : Hid ((rowOf 8 C8)[3 + k]? = some (.pointer (some ⟨rd, 0, none⟩))))
    (hs0 : Tr w0 [] w (diskR d s n f wr off aI lI :: refG rd g c n f wr off aR lR :: Res.blk xb (rowOf 8 C8) 66 :: R2)) :
    Calls Try.prog 31 #[.pointer (some ⟨xb, 0, none⟩), .agg #[.int .i64 1, .int .i64 on, .int .i64 tt, .int .i64 N, bv]] w fun e w' => e = .returned (.bool true) ∧ Tr w0 [] w' (diskR d s n f wr off aI lI :: refG rd g c n f wr off aR lR :: Res.blk xb (rowOf 8 C8) 66 :: R2) := by
  obtain ⟨FX, E, hI, hR⟩ := read_same (f := f) hL N
  have HI := Lib.hid hI
  have HR := Lib.hid hR
  clear hI hR
  have hs := hs0
  have n1 := hL.1.1
  have n2 := hL.1.2
  clear hs0
  go_enter Try.func31, Try.ntmps31
  go_upto_region 2 with (first | ((with_reducible refine (at_box (t := 69)) rfl ?_); refine wl_boxA hs rfl rfl rfl ?_; clear hs; intro w1 ob hs) | ((with_reducible refine at_load rfl ?_); refine wl_load1 hs rfl rfl Try.underlying3 rfl rfl 0 rfl rfl ?_) | (go_at_call 19; refine (HP.out _).mono ?_; rintro e w2 ⟨rfl, rfl⟩))
  go_upto_region 3 with (first | ((with_reducible refine at_load rfl ?_); refine wl_load1 hs rfl rfl Try.underlying3 rfl rfl 0 rfl rfl ?_) | (go_at_call 19; refine (HP2.out _).mono ?_; rintro e w2 ⟨rfl, rfl⟩))
  clear HP HP2
  go_upto_region 5 with (first | ((with_reducible refine at_load rfl ?_); refine wl_load1 hs rfl rfl Try.underlying3 rfl rfl 0 rfl rfl ?_))
  refine wt_enter 15 rfl hs (by kernel_rfl) ?_
  clear hs; intro w1 hs; have hC := hs
  refine wt_take 0 rfl (by kernel_rfl) (by kernel_rfl) (by kernel_rfl) (fun _ _ _ _ h => h) rfl hC ⟨_, fun w hw => by (go_simp; try with_reducible rfl), fun a1 ha => ?_⟩
  simp only [Act.put, List.setIfInBounds_toArray, List.set_cons_succ, List.set_cons_zero] at ha; subst ha
  refine wt_take 1 rfl (by kernel_rfl) (by kernel_rfl) (by kernel_rfl) (fun _ _ _ _ h => h) rfl hC ⟨_, fun w hw => by (go_simp; try with_reducible rfl), fun a1 ha => ?_⟩
  simp only [Act.put, List.setIfInBounds_toArray, List.set_cons_succ, List.set_cons_zero] at ha; subst ha
  refine wt_take 2 rfl (by kernel_rfl) (by kernel_rfl) (by kernel_rfl) (fun _ _ _ _ h => h) rfl hC ⟨_, fun w hw => by (go_simp; try with_reducible rfl), fun a1 ha => ?_⟩
  simp only [Act.put, List.setIfInBounds_toArray, List.set_cons_succ, List.set_cons_zero] at ha; subst ha
  refine wt_take 3 rfl (by kernel_rfl) (by kernel_rfl) (by kernel_rfl) (fun _ _ _ _ h => h) rfl hC ⟨_, fun w hw => by (go_simp; try with_reducible rfl), fun a1 ha => ?_⟩
  simp only [Act.put, List.setIfInBounds_toArray, List.set_cons_succ, List.set_cons_zero] at ha; subst ha
  refine wt_take 4 rfl (by kernel_rfl) (by kernel_rfl) (by kernel_rfl) (fun _ _ _ _ h => h) rfl hC ⟨_, fun w hw => ex_indexA rfl Try.underlying62 size23 rfl rfl k rfl hk, fun a1 ha => ?_⟩
  simp only [Act.put, List.setIfInBounds_toArray, List.set_cons_succ, List.set_cons_zero] at ha; subst ha
  refine wt_take 5 rfl (by kernel_rfl) (by kernel_rfl) (by kernel_rfl) (fun _ _ _ _ h => h) rfl hC ⟨_, fun w hw => ex_load1 rfl Try.underlying23 rfl rfl (by rw [Nat.zero_add, Nat.mul_one, cell_of_row w _ _ _ _ (0, 0) (hw.getB 3 rfl)]; exact HV1.out), fun a1 ha => ?_⟩
  simp only [Act.put, List.setIfInBounds_toArray, List.set_cons_succ, List.set_cons_zero] at ha; subst ha
  refine wt_take 6 rfl (by kernel_rfl) (by kernel_rfl) (by kernel_rfl) (fun _ _ _ _ h => h) rfl hC ⟨_, fun w hw => by (go_simp; try with_reducible rfl), fun a1 ha => ?_⟩
  simp only [Act.put, List.setIfInBounds_toArray, List.set_cons_succ, List.set_cons_zero] at ha; subst ha
  refine wt_take 7 rfl (by kernel_rfl) (by kernel_rfl) (by kernel_rfl) (fun _ _ _ _ h => h) rfl hC ⟨_, fun w hw => ex_load1 rfl Try.underlying3 rfl rfl (by rw [cell_of_row w _ _ _ _ (0, 0) (hw.getB 0 rfl)]; rfl), fun a1 ha => ?_⟩
  simp only [Act.put, List.setIfInBounds_toArray, List.set_cons_succ, List.set_cons_zero] at ha; subst ha
  refine wt_all [8, 12] (by kernel_rfl) (by simp) ?_
  refine wt_cons ?_ ?_
  ·
    refine wt_call0 hs rfl rfl (by go_simp) (HI.out d s _ (by first | exact hs.get 1 rfl | exact hs.get 2 rfl)) (by simp only [Act.put, List.setIfInBounds_toArray, List.set_cons_succ, List.set_cons_zero]; rfl) ?_
    clear hs; intro w1 hs
    refine wt_and (hs.sub (by repeat (first | exact List.Sublist.refl _ | exact List.nil_sublist _ | refine List.Sublist.cons_cons _ ?_ | refine List.Sublist.cons _ ?_))) fun hC => ?_
    refine wt_take 9 rfl (by kernel_rfl) (by kernel_rfl) (by kernel_rfl) (fun _ _ _ _ h => h) rfl hC ⟨_, fun w hw => by (go_simp; try with_reducible rfl), fun a1 ha => ?_⟩
    simp only [Act.put, List.setIfInBounds_toArray, List.set_cons_succ, List.set_cons_zero] at ha; subst ha
    refine wt_take 10 rfl (by kernel_rfl) (by kernel_rfl) (by kernel_rfl) (fun _ _ _ _ h => h) rfl hC ⟨_, fun w hw => by (go_simp; try with_reducible rfl), fun a1 ha => ?_⟩
    simp only [Act.put, List.setIfInBounds_toArray, List.set_cons_succ, List.set_cons_zero] at ha; subst ha
    refine wt_take 11 rfl (by kernel_rfl) (by kernel_rfl) (by kernel_rfl) (fun _ _ _ _ h => h) rfl hC ⟨_, fun w hw => by (go_simp; try with_reducible rfl), fun a1 ha => ?_⟩
    simp only [Act.put, List.setIfInBounds_toArray, List.set_cons_succ, List.set_cons_zero] at ha; subst ha
    refine wt_one 12 (by kernel_rfl) ?_
    refine wt_allocA hs rfl rfl rfl zero40 (fun _ => by simp only [Act.put, List.setIfInBounds_toArray, List.set_cons_succ, List.set_cons_zero]; rfl) ?_
    clear hs; intro w1 b7 hs
    refine wt_and (hs.sub (by repeat (first | exact List.Sublist.refl _ | exact List.nil_sublist _ | refine List.Sublist.cons_cons _ ?_ | refine List.Sublist.cons _ ?_))) fun hC => ?_
    refine wt_one 13 (by kernel_rfl) ?_
    refine wt_storeA hs rfl rfl rfl rfl rfl (size40r _) (one40 _) 0 rfl (by simp only [rowOf_size]) (by simp only [Act.put, List.setIfInBounds_toArray, List.set_cons_succ, List.set_cons_zero]; rfl) ?_
    clear hs; intro w1 hs
    refine wt_and (hs.sub (by repeat (first | exact List.Sublist.refl _ | exact List.nil_sublist _ | refine List.Sublist.cons_cons _ ?_ | refine List.Sublist.cons _ ?_))) fun hC => ?_
    refine wt_take 14 rfl (by kernel_rfl) (by kernel_rfl) (by kernel_rfl) (fun _ _ _ _ h => h) rfl hC ⟨_, fun w hw => by (go_simp; try with_reducible rfl), fun a1 ha => ?_⟩
    simp only [Act.put, List.setIfInBounds_toArray, List.set_cons_succ, List.set_cons_zero] at ha; subst ha
    refine wt_done (by kernel_rfl) ?_
    clear hC
    go_upto_region 6 with fail
    refine wt_enter 15 rfl hs (by kernel_rfl) ?_
    clear hs; intro w1 hs; have hC := hs
    refine wt_take 0 rfl (by kernel_rfl) (by kernel_rfl) (by kernel_rfl) (fun _ _ _ _ h => h) rfl hC ⟨_, fun w hw => by (go_simp; try with_reducible rfl), fun a1 ha => ?_⟩
    simp only [Act.put, List.setIfInBounds_toArray, List.set_cons_succ, List.set_cons_zero] at ha; subst ha
    refine wt_take 1 rfl (by kernel_rfl) (by kernel_rfl) (by kernel_rfl) (fun _ _ _ _ h => h) rfl hC ⟨_, fun w hw => by (go_simp; try with_reducible rfl), fun a1 ha => ?_⟩
    simp only [Act.put, List.setIfInBounds_toArray, List.set_cons_succ, List.set_cons_zero] at ha; subst ha
    refine wt_take 2 rfl (by kernel_rfl) (by kernel_rfl) (by kernel_rfl) (fun _ _ _ _ h => h) rfl hC ⟨_, fun w hw => by (go_simp; try with_reducible rfl), fun a1 ha => ?_⟩
    simp only [Act.put, List.setIfInBounds_toArray, List.set_cons_succ, List.set_cons_zero] at ha; subst ha
    refine wt_take 3 rfl (by kernel_rfl) (by kernel_rfl) (by kernel_rfl) (fun _ _ _ _ h => h) rfl hC ⟨_, fun w hw => by (go_simp; try with_reducible rfl), fun a1 ha => ?_⟩
    simp only [Act.put, List.setIfInBounds_toArray, List.set_cons_succ, List.set_cons_zero] at ha; subst ha
    refine wt_take 4 rfl (by kernel_rfl) (by kernel_rfl) (by kernel_rfl) (fun _ _ _ _ h => h) rfl hC ⟨_, fun w hw => ex_indexA rfl Try.underlying63 size27 rfl rfl k rfl hk, fun a1 ha => ?_⟩
    simp only [Act.put, List.setIfInBounds_toArray, List.set_cons_succ, List.set_cons_zero] at ha; subst ha
    refine wt_take 5 rfl (by kernel_rfl) (by kernel_rfl) (by kernel_rfl) (fun _ _ _ _ h => h) rfl hC ⟨_, fun w hw => ex_load1 rfl Try.underlying27 rfl rfl (by rw [Nat.mul_one, cell_of_row w _ _ _ _ (0, 0) (hw.getB 4 rfl)]; exact HV2.out), fun a1 ha => ?_⟩
    simp only [Act.put, List.setIfInBounds_toArray, List.set_cons_succ, List.set_cons_zero] at ha; subst ha
    refine wt_take 6 rfl (by kernel_rfl) (by kernel_rfl) (by kernel_rfl) (fun _ _ _ _ h => h) rfl hC ⟨_, fun w hw => by (go_simp; try with_reducible rfl), fun a1 ha => ?_⟩
    simp only [Act.put, List.setIfInBounds_toArray, List.set_cons_succ, List.set_cons_zero] at ha; subst ha
    refine wt_take 7 rfl (by kernel_rfl) (by kernel_rfl) (by kernel_rfl) (fun _ _ _ _ h => h) rfl hC ⟨_, fun w hw => ex_load1 rfl Try.underlying3 rfl rfl (by rw [cell_of_row w _ _ _ _ (0, 0) (hw.getB 1 rfl)]; rfl), fun a1 ha => ?_⟩
    simp only [Act.put, List.setIfInBounds_toArray, List.set_cons_succ, List.set_cons_zero] at ha; subst ha
    refine wt_all [8, 12] (by kernel_rfl) (by simp) ?_
    refine wt_cons ?_ ?_
    ·
      refine wt_call0 hs rfl rfl (by go_simp) (HR.out rd g c _ (by first | exact hs.get 3 rfl | exact hs.get 4 rfl)) (by simp only [Act.put, List.setIfInBounds_toArray, List.set_cons_succ, List.set_cons_zero]; rfl) ?_
      clear hs; intro w1 hs
      refine wt_and (hs.sub (by repeat (first | exact List.Sublist.refl _ | exact List.nil_sublist _ | refine List.Sublist.cons_cons _ ?_ | refine List.Sublist.cons _ ?_))) fun hC => ?_
      refine wt_take 9 rfl (by kernel_rfl) (by kernel_rfl) (by kernel_rfl) (fun _ _ _ _ h => h) rfl hC ⟨_, fun w hw => by (go_simp; try with_reducible rfl), fun a1 ha => ?_⟩
      simp only [Act.put, List.setIfInBounds_toArray, List.set_cons_succ, List.set_cons_zero] at ha; subst ha
      refine wt_take 10 rfl (by kernel_rfl) (by kernel_rfl) (by kernel_rfl) (fun _ _ _ _ h => h) rfl hC ⟨_, fun w hw => by (go_simp; try with_reducible rfl), fun a1 ha => ?_⟩
      simp only [Act.put, List.setIfInBounds_toArray, List.set_cons_succ, List.set_cons_zero] at ha; subst ha
      refine wt_take 11 rfl (by kernel_rfl) (by kernel_rfl) (by kernel_rfl) (fun _ _ _ _ h => h) rfl hC ⟨_, fun w hw => by (go_simp; try with_reducible rfl), fun a1 ha => ?_⟩
      simp only [Act.put, List.setIfInBounds_toArray, List.set_cons_succ, List.set_cons_zero] at ha; subst ha
      refine wt_one 12 (by kernel_rfl) ?_
      refine wt_allocA hs rfl rfl rfl zero40 (fun _ => by simp only [Act.put, List.setIfInBounds_toArray, List.set_cons_succ, List.set_cons_zero]; rfl) ?_
      clear hs; intro w1 b9 hs
      refine wt_and (hs.sub (by repeat (first | exact List.Sublist.refl _ | exact List.nil_sublist _ | refine List.Sublist.cons_cons _ ?_ | refine List.Sublist.cons _ ?_))) fun hC => ?_
      refine wt_one 13 (by kernel_rfl) ?_
      refine wt_storeA hs rfl rfl rfl rfl rfl (size40r _) (one40 _) 0 rfl (by simp only [rowOf_size]) (by simp only [Act.put, List.setIfInBounds_toArray, List.set_cons_succ, List.set_cons_zero]; rfl) ?_
      clear hs; intro w1 hs
      refine wt_and (hs.sub (by repeat (first | exact List.Sublist.refl _ | exact List.nil_sublist _ | refine List.Sublist.cons_cons _ ?_ | refine List.Sublist.cons _ ?_))) fun hC => ?_
      refine wt_take 14 rfl (by kernel_rfl) (by kernel_rfl) (by kernel_rfl) (fun _ _ _ _ h => h) rfl hC ⟨_, fun w hw => by (go_simp; try with_reducible rfl), fun a1 ha => ?_⟩
      simp only [Act.put, List.setIfInBounds_toArray, List.set_cons_succ, List.set_cons_zero] at ha; subst ha
      refine wt_done (by kernel_rfl) ?_
      clear hC
      go_wp2_with (first | ((with_reducible refine at_load rfl ?_); refine wl_loadB hs rfl rfl Try.underlying40 rfl 0 rfl size40 ?_) | ((with_reducible refine at_load rfl ?_); refine wl_loadB hs rfl rfl Try.underlying40 rfl 1 rfl size40 ?_) | ((with_reducible refine (at_bin .eql) rfl ?_); refine wl_eqlBR rfl rfl Try.underlying40 Try.underlying5 size5 eqg40 rfl rfl true (eqB_refl _ _) ?_))
      go_ret
      exact ⟨rfl, ((hs.erase 0).erase 0).erase 0⟩
    refine wt_cons ?_ ?_
    ·
      refine wt_allocA hs rfl rfl rfl zero40 (fun _ => by simp only [Act.put, List.setIfInBounds_toArray, List.set_cons_succ, List.set_cons_zero]; rfl) ?_
      clear hs; intro w1 b9 hs
      refine wt_and (hs.sub (by repeat (first | exact List.Sublist.refl _ | exact List.nil_sublist _ | refine List.Sublist.cons_cons _ ?_ | refine List.Sublist.cons _ ?_))) fun hC => ?_
      refine wt_one 8 (by kernel_rfl) ?_
      refine wt_call0 hs rfl rfl (by go_simp) (HR.out rd g c _ (by first | exact hs.get 3 rfl | exact hs.get 4 rfl)) (by simp only [Act.put, List.setIfInBounds_toArray, List.set_cons_succ, List.set_cons_zero]; rfl) ?_
      clear hs; intro w1 hs
      refine wt_and (hs.sub (by repeat (first | exact List.Sublist.refl _ | exact List.nil_sublist _ | refine List.Sublist.cons_cons _ ?_ | refine List.Sublist.cons _ ?_))) fun hC => ?_
      refine wt_take 9 rfl (by kernel_rfl) (by kernel_rfl) (by kernel_rfl) (fun _ _ _ _ h => h) rfl hC ⟨_, fun w hw => by (go_simp; try with_reducible rfl), fun a1 ha => ?_⟩
      simp only [Act.put, List.setIfInBounds_toArray, List.set_cons_succ, List.set_cons_zero] at ha; subst ha
      refine wt_take 10 rfl (by kernel_rfl) (by kernel_rfl) (by kernel_rfl) (fun _ _ _ _ h => h) rfl hC ⟨_, fun w hw => by (go_simp; try with_reducible rfl), fun a1 ha => ?_⟩
      simp only [Act.put, List.setIfInBounds_toArray, List.set_cons_succ, List.set_cons_zero] at ha; subst ha
      refine wt_take 11 rfl (by kernel_rfl) (by kernel_rfl) (by kernel_rfl) (fun _ _ _ _ h => h) rfl hC ⟨_, fun w hw => by (go_simp; try with_reducible rfl), fun a1 ha => ?_⟩
      simp only [Act.put, List.setIfInBounds_toArray, List.set_cons_succ, List.set_cons_zero] at ha; subst ha
      refine wt_one 13 (by kernel_rfl) ?_
      refine wt_storeA hs rfl rfl rfl rfl rfl (size40r _) (one40 _) 0 rfl (by simp only [rowOf_size]) (by simp only [Act.put, List.setIfInBounds_toArray, List.set_cons_succ, List.set_cons_zero]; rfl) ?_
      clear hs; intro w1 hs
      refine wt_and (hs.sub (by repeat (first | exact List.Sublist.refl _ | exact List.nil_sublist _ | refine List.Sublist.cons_cons _ ?_ | refine List.Sublist.cons _ ?_))) fun hC => ?_
      refine wt_take 14 rfl (by kernel_rfl) (by kernel_rfl) (by kernel_rfl) (fun _ _ _ _ h => h) rfl hC ⟨_, fun w hw => by (go_simp; try with_reducible rfl), fun a1 ha => ?_⟩
      simp only [Act.put, List.setIfInBounds_toArray, List.set_cons_succ, List.set_cons_zero] at ha; subst ha
      refine wt_done (by kernel_rfl) ?_
      clear hC
      go_wp2_with (first | ((with_reducible refine at_load rfl ?_); refine wl_loadB hs rfl rfl Try.underlying40 rfl 0 rfl size40 ?_) | ((with_reducible refine at_load rfl ?_); refine wl_loadB hs rfl rfl Try.underlying40 rfl 1 rfl size40 ?_) | ((with_reducible refine (at_bin .eql) rfl ?_); refine wl_eqlBR rfl rfl Try.underlying40 Try.underlying5 size5 eqg40 rfl rfl true (eqB_refl _ _) ?_))
      go_ret
      exact ⟨rfl, ((hs.erase 0).erase 0).erase 0⟩
    exact wt_nil
  refine wt_cons ?_ ?_
  ·
    refine wt_allocA hs rfl rfl rfl zero40 (fun _ => by simp only [Act.put, List.setIfInBounds_toArray, List.set_cons_succ, List.set_cons_zero]; rfl) ?_
    clear hs; intro w1 b7 hs
    refine wt_and (hs.sub (by repeat (first | exact List.Sublist.refl _ | exact List.nil_sublist _ | refine List.Sublist.cons_cons _ ?_ | refine List.Sublist.cons _ ?_))) fun hC => ?_
    refine wt_one 8 (by kernel_rfl) ?_
    refine wt_call0 hs rfl rfl (by go_simp) (HI.out d s _ (by first | exact hs.get 1 rfl | exact hs.get 2 rfl)) (by simp only [Act.put, List.setIfInBounds_toArray, List.set_cons_succ, List.set_cons_zero]; rfl) ?_
    clear hs; intro w1 hs
    refine wt_and (hs.sub (by repeat (first | exact List.Sublist.refl _ | exact List.nil_sublist _ | refine List.Sublist.cons_cons _ ?_ | refine List.Sublist.cons _ ?_))) fun hC => ?_
    refine wt_take 9 rfl (by kernel_rfl) (by kernel_rfl) (by kernel_rfl) (fun _ _ _ _ h => h) rfl hC ⟨_, fun w hw => by (go_simp; try with_reducible rfl), fun a1 ha => ?_⟩
    simp only [Act.put, List.setIfInBounds_toArray, List.set_cons_succ, List.set_cons_zero] at ha; subst ha
    refine wt_take 10 rfl (by kernel_rfl) (by kernel_rfl) (by kernel_rfl) (fun _ _ _ _ h => h) rfl hC ⟨_, fun w hw => by (go_simp; try with_reducible rfl), fun a1 ha => ?_⟩
    simp only [Act.put, List.setIfInBounds_toArray, List.set_cons_succ, List.set_cons_zero] at ha; subst ha
    refine wt_take 11 rfl (by kernel_rfl) (by kernel_rfl) (by kernel_rfl) (fun _ _ _ _ h => h) rfl hC ⟨_, fun w hw => by (go_simp; try with_reducible rfl), fun a1 ha => ?_⟩
    simp only [Act.put, List.setIfInBounds_toArray, List.set_cons_succ, List.set_cons_zero] at ha; subst ha
    refine wt_one 13 (by kernel_rfl) ?_
    refine wt_storeA hs rfl rfl rfl rfl rfl (size40r _) (one40 _) 0 rfl (by simp only [rowOf_size]) (by simp only [Act.put, List.setIfInBounds_toArray, List.set_cons_succ, List.set_cons_zero]; rfl) ?_
    clear hs; intro w1 hs
    refine wt_and (hs.sub (by repeat (first | exact List.Sublist.refl _ | exact List.nil_sublist _ | refine List.Sublist.cons_cons _ ?_ | refine List.Sublist.cons _ ?_))) fun hC => ?_
    refine wt_take 14 rfl (by kernel_rfl) (by kernel_rfl) (by kernel_rfl) (fun _ _ _ _ h => h) rfl hC ⟨_, fun w hw => by (go_simp; try with_reducible rfl), fun a1 ha => ?_⟩
    simp only [Act.put, List.setIfInBounds_toArray, List.set_cons_succ, List.set_cons_zero] at ha; subst ha
    refine wt_done (by kernel_rfl) ?_
    clear hC
    go_upto_region 6 with fail
    refine wt_enter 15 rfl hs (by kernel_rfl) ?_
    clear hs; intro w1 hs; have hC := hs
    refine wt_take 0 rfl (by kernel_rfl) (by kernel_rfl) (by kernel_rfl) (fun _ _ _ _ h => h) rfl hC ⟨_, fun w hw => by (go_simp; try with_reducible rfl), fun a1 ha => ?_⟩
    simp only [Act.put, List.setIfInBounds_toArray, List.set_cons_succ, List.set_cons_zero] at ha; subst ha
    refine wt_take 1 rfl (by kernel_rfl) (by kernel_rfl) (by kernel_rfl) (fun _ _ _ _ h => h) rfl hC ⟨_, fun w hw => by (go_simp; try with_reducible rfl), fun a1 ha => ?_⟩
    simp only [Act.put, List.setIfInBounds_toArray, List.set_cons_succ, List.set_cons_zero] at ha; subst ha
    refine wt_take 2 rfl (by kernel_rfl) (by kernel_rfl) (by kernel_rfl) (fun _ _ _ _ h => h) rfl hC ⟨_, fun w hw => by (go_simp; try with_reducible rfl), fun a1 ha => ?_⟩
    simp only [Act.put, List.setIfInBounds_toArray, List.set_cons_succ, List.set_cons_zero] at ha; subst ha
    refine wt_take 3 rfl (by kernel_rfl) (by kernel_rfl) (by kernel_rfl) (fun _ _ _ _ h => h) rfl hC ⟨_, fun w hw => by (go_simp; try with_reducible rfl), fun a1 ha => ?_⟩
    simp only [Act.put, List.setIfInBounds_toArray, List.set_cons_succ, List.set_cons_zero] at ha; subst ha
    refine wt_take 4 rfl (by kernel_rfl) (by kernel_rfl) (by kernel_rfl) (fun _ _ _ _ h => h) rfl hC ⟨_, fun w hw => ex_indexA rfl Try.underlying63 size27 rfl rfl k rfl hk, fun a1 ha => ?_⟩
    simp only [Act.put, List.setIfInBounds_toArray, List.set_cons_succ, List.set_cons_zero] at ha; subst ha
    refine wt_take 5 rfl (by kernel_rfl) (by kernel_rfl) (by kernel_rfl) (fun _ _ _ _ h => h) rfl hC ⟨_, fun w hw => ex_load1 rfl Try.underlying27 rfl rfl (by rw [Nat.mul_one, cell_of_row w _ _ _ _ (0, 0) (hw.getB 4 rfl)]; exact HV2.out), fun a1 ha => ?_⟩
    simp only [Act.put, List.setIfInBounds_toArray, List.set_cons_succ, List.set_cons_zero] at ha; subst ha
    refine wt_take 6 rfl (by kernel_rfl) (by kernel_rfl) (by kernel_rfl) (fun _ _ _ _ h => h) rfl hC ⟨_, fun w hw => by (go_simp; try with_reducible rfl), fun a1 ha => ?_⟩
    simp only [Act.put, List.setIfInBounds_toArray, List.set_cons_succ, List.set_cons_zero] at ha; subst ha
    refine wt_take 7 rfl (by kernel_rfl) (by kernel_rfl) (by kernel_rfl) (fun _ _ _ _ h => h) rfl hC ⟨_, fun w hw => ex_load1 rfl Try.underlying3 rfl rfl (by rw [cell_of_row w _ _ _ _ (0, 0) (hw.getB 1 rfl)]; rfl), fun a1 ha => ?_⟩
    simp only [Act.put, List.setIfInBounds_toArray, List.set_cons_succ, List.set_cons_zero] at ha; subst ha
    refine wt_all [8, 12] (by kernel_rfl) (by simp) ?_
    refine wt_cons ?_ ?_
    ·
      refine wt_call0 hs rfl rfl (by go_simp) (HR.out rd g c _ (by first | exact hs.get 3 rfl | exact hs.get 4 rfl)) (by simp only [Act.put, List.setIfInBounds_toArray, List.set_cons_succ, List.set_cons_zero]; rfl) ?_
      clear hs; intro w1 hs
      refine wt_and (hs.sub (by repeat (first | exact List.Sublist.refl _ | exact List.nil_sublist _ | refine List.Sublist.cons_cons _ ?_ | refine List.Sublist.cons _ ?_))) fun hC => ?_
      refine wt_take 9 rfl (by kernel_rfl) (by kernel_rfl) (by kernel_rfl) (fun _ _ _ _ h => h) rfl hC ⟨_, fun w hw => by (go_simp; try with_reducible rfl), fun a1 ha => ?_⟩
      simp only [Act.put, List.setIfInBounds_toArray, List.set_cons_succ, List.set_cons_zero] at ha; subst ha
      refine wt_take 10 rfl (by kernel_rfl) (by kernel_rfl) (by kernel_rfl) (fun _ _ _ _ h => h) rfl hC ⟨_, fun w hw => by (go_simp; try with_reducible rfl), fun a1 ha => ?_⟩
      simp only [Act.put, List.setIfInBounds_toArray, List.set_cons_succ, List.set_cons_zero] at ha; subst ha
      refine wt_take 11 rfl (by kernel_rfl) (by kernel_rfl) (by kernel_rfl) (fun _ _ _ _ h => h) rfl hC ⟨_, fun w hw => by (go_simp; try with_reducible rfl), fun a1 ha => ?_⟩
      simp only [Act.put, List.setIfInBounds_toArray, List.set_cons_succ, List.set_cons_zero] at ha; subst ha
      refine wt_one 12 (by kernel_rfl) ?_
      refine wt_allocA hs rfl rfl rfl zero40 (fun _ => by simp only [Act.put, List.setIfInBounds_toArray, List.set_cons_succ, List.set_cons_zero]; rfl) ?_
      clear hs; intro w1 b9 hs
      refine wt_and (hs.sub (by repeat (first | exact List.Sublist.refl _ | exact List.nil_sublist _ | refine List.Sublist.cons_cons _ ?_ | refine List.Sublist.cons _ ?_))) fun hC => ?_
      refine wt_one 13 (by kernel_rfl) ?_
      refine wt_storeA hs rfl rfl rfl rfl rfl (size40r _) (one40 _) 0 rfl (by simp only [rowOf_size]) (by simp only [Act.put, List.setIfInBounds_toArray, List.set_cons_succ, List.set_cons_zero]; rfl) ?_
      clear hs; intro w1 hs
      refine wt_and (hs.sub (by repeat (first | exact List.Sublist.refl _ | exact List.nil_sublist _ | refine List.Sublist.cons_cons _ ?_ | refine List.Sublist.cons _ ?_))) fun hC => ?_
      refine wt_take 14 rfl (by kernel_rfl) (by kernel_rfl) (by kernel_rfl) (fun _ _ _ _ h => h) rfl hC ⟨_, fun w hw => by (go_simp; try with_reducible rfl), fun a1 ha => ?_⟩
      simp only [Act.put, List.setIfInBounds_toArray, List.set_cons_succ, List.set_cons_zero] at ha; subst ha
      refine wt_done (by kernel_rfl) ?_
      clear hC
      go_wp2_with (first | ((with_reducible refine at_load rfl ?_); refine wl_loadB hs rfl rfl Try.underlying40 rfl 0 rfl size40 ?_) | ((with_reducible refine at_load rfl ?_); refine wl_loadB hs rfl rfl Try.underlying40 rfl 1 rfl size40 ?_) | ((with_reducible refine (at_bin .eql) rfl ?_); refine wl_eqlBR rfl rfl Try.underlying40 Try.underlying5 size5 eqg40 rfl rfl true (eqB_refl _ _) ?_))
      go_ret
      exact ⟨rfl, ((hs.erase 0).erase 0).erase 0⟩
    refine wt_cons ?_ ?_
    ·
      refine wt_allocA hs rfl rfl rfl zero40 (fun _ => by simp only [Act.put, List.setIfInBounds_toArray, List.set_cons_succ, List.set_cons_zero]; rfl) ?_
      clear hs; intro w1 b9 hs
      refine wt_and (hs.sub (by repeat (first | exact List.Sublist.refl _ | exact List.nil_sublist _ | refine List.Sublist.cons_cons _ ?_ | refine List.Sublist.cons _ ?_))) fun hC => ?_
      refine wt_one 8 (by kernel_rfl) ?_
      refine wt_call0 hs rfl rfl (by go_simp) (HR.out rd g c _ (by first | exact hs.get 3 rfl | exact hs.get 4 rfl)) (by simp only [Act.put, List.setIfInBounds_toArray, List.set_cons_succ, List.set_cons_zero]; rfl) ?_
      clear hs; intro w1 hs
      refine wt_and (hs.sub (by repeat (first | exact List.Sublist.refl _ | exact List.nil_sublist _ | refine List.Sublist.cons_cons _ ?_ | refine List.Sublist.cons _ ?_))) fun hC => ?_
      refine wt_take 9 rfl (by kernel_rfl) (by kernel_rfl) (by kernel_rfl) (fun _ _ _ _ h => h) rfl hC ⟨_, fun w hw => by (go_simp; try with_reducible rfl), fun a1 ha => ?_⟩
      simp only [Act.put, List.setIfInBounds_toArray, List.set_cons_succ, List.set_cons_zero] at ha; subst ha
      refine wt_take 10 rfl (by kernel_rfl) (by kernel_rfl) (by kernel_rfl) (fun _ _ _ _ h => h) rfl hC ⟨_, fun w hw => by (go_simp; try with_reducible rfl), fun a1 ha => ?_⟩
      simp only [Act.put, List.setIfInBounds_toArray, List.set_cons_succ, List.set_cons_zero] at ha; subst ha
      refine wt_take 11 rfl (by kernel_rfl) (by kernel_rfl) (by kernel_rfl) (fun _ _ _ _ h => h) rfl hC ⟨_, fun w hw => by (go_simp; try with_reducible rfl), fun a1 ha => ?_⟩
      simp only [Act.put, List.setIfInBounds_toArray, List.set_cons_succ, List.set_cons_zero] at ha; subst ha
      refine wt_one 13 (by kernel_rfl) ?_
      refine wt_storeA hs rfl rfl rfl rfl rfl (size40r _) (one40 _) 0 rfl (by simp only [rowOf_size]) (by simp only [Act.put, List.setIfInBounds_toArray, List.set_cons_succ, List.set_cons_zero]; rfl) ?_
      clear hs; intro w1 hs
      refine wt_and (hs.sub (by repeat (first | exact List.Sublist.refl _ | exact List.nil_sublist _ | refine List.Sublist.cons_cons _ ?_ | refine List.Sublist.cons _ ?_))) fun hC => ?_
      refine wt_take 14 rfl (by kernel_rfl) (by kernel_rfl) (by kernel_rfl) (fun _ _ _ _ h => h) rfl hC ⟨_, fun w hw => by (go_simp; try with_reducible rfl), fun a1 ha => ?_⟩
      simp only [Act.put, List.setIfInBounds_toArray, List.set_cons_succ, List.set_cons_zero] at ha; subst ha
      refine wt_done (by kernel_rfl) ?_
      clear hC
      go_wp2_with (first | ((with_reducible refine at_load rfl ?_); refine wl_loadB hs rfl rfl Try.underlying40 rfl 0 rfl size40 ?_) | ((with_reducible refine at_load rfl ?_); refine wl_loadB hs rfl rfl Try.underlying40 rfl 1 rfl size40 ?_) | ((with_reducible refine (at_bin .eql) rfl ?_); refine wl_eqlBR rfl rfl Try.underlying40 Try.underlying5 size5 eqg40 rfl rfl true (eqB_refl _ _) ?_))
      go_ret
      exact ⟨rfl, ((hs.erase 0).erase 0).erase 0⟩
    exact wt_nil
  exact wt_nil
set_option maxRecDepth 100000 in
set_option maxHeartbeats 1000000 in
theorem step_write (xb d s g c rd n k t : Nat) (f : Nat → UInt8) (wr : Int) (off aI aR : Bool) (lI lR B : Int) (C8 : Nat → Value) (R2 : List Res) (w0 w : World) (on tt N : Int) (bv : Value)
    (hL : Like n wr off aI aR lI lR B) (hk : k < 3) (ht : t < 3) (hN : -9223372036854775808 ≤ N ∧ N ≤ 9223372036854775807)
    (HP : Hid (∀ w, Calls Try.prog 19 #[.int .i64 on, .int .i64 3] w fun e w' => e = .returned (.int .i64 k) ∧ w = w')) (HP2 : Hid (∀ w, Calls Try.prog 19 #[.int .i64 tt, .int .i64 3] w fun e w' => e = .returned (.int .i64 t) ∧ w = w'))
    (HV1 : Hid ((rowOf 8 C8)[k]? = some (.pointer (some ⟨d, 0, none⟩)))) (HV2 : Hid ((rowOf 8 C8)[3 + k]? = some (.pointer (some ⟨rd, 0, none⟩))))
    (hs0 : Tr w0 [] w (diskR d s n f wr off aI lI :: refG rd g c n f wr off aR lR :: Res.blk xb (rowOf 8 C8) 66 :: R2)) (F : Nat → UInt8) (hB0 : B ≤ 4611686018427387904) (hB : isBytes w0 bv F) :
    Calls Try.prog 31 #[.pointer (some ⟨xb, 0, none⟩), .agg #[.int .i64 2, .int .i64 on, .int .i64 tt, .int .i64 N, bv]] w fun e w' => e = .returned (.bool true) ∧ ∃ (f' : Nat → UInt8) (wr' : Int) (off' aI' aR' : Bool) (lI' lR' : Int), Like n wr' off' aI' aR' lI' lR' (B + 1) ∧ Tr w0 [] w' (diskR d s n f' wr' off' aI' lI' :: refG rd g c n f' wr' off' aR' lR' :: Res.blk xb (rowOf 8 C8) 66 :: R2) := by
  obtain ⟨E, f', wr', off', aI', aR', lI', lR', hL', hI, hR⟩ := write_same (f := f) hL hB0 N F
  have HI := Lib.hid hI
  have HR := Lib.hid hR
  have HB := Lib.hid hB
  have HL := Lib.hid hL'
  clear hI hR hB hL'
  have hs := hs0
  have n1 := hL.1.1
  have n2 := hL.1.2
  clear hs0
  go_enter Try.func31, Try.ntmps31
  go_upto_region 2 with (first | ((with_reducible refine (at_box (t := 69)) rfl ?_); refine wl_boxA hs rfl rfl rfl ?_; clear hs; intro w1 ob hs) | ((with_reducible refine at_load rfl ?_); refine wl_load1 hs rfl rfl Try.underlying3 rfl rfl 0 rfl rfl ?_) | (go_at_call 19; refine (HP.out _).mono ?_; rintro e w2 ⟨rfl, rfl⟩))
  go_upto_region 3 with (first | ((with_reducible refine at_load rfl ?_); refine wl_load1 hs rfl rfl Try.underlying3 rfl rfl 0 rfl rfl ?_) | (go_at_call 19; refine (HP2.out _).mono ?_; rintro e w2 ⟨rfl, rfl⟩))
  clear HP HP2
  go_upto_region 9 with (first | ((with_reducible refine at_load rfl ?_); refine wl_load1 hs rfl rfl Try.underlying3 rfl rfl 0 rfl rfl ?_))
  refine wt_enterS (List.Sublist.cons_cons _ (List.Sublist.cons _ (List.Sublist.cons _ (List.Sublist.cons_cons _ (List.nil_sublist _))))) 13 rfl hs (by kernel_rfl) ?_
  clear hs; intro w1 hC hs
  refine wt_take 0 rfl (by kernel_rfl) (by kernel_rfl) (by kernel_rfl) (fun _ _ _ _ h => h) rfl hC ⟨_, fun w hw => by (go_simp; try with_reducible rfl), fun a1 ha => ?_⟩
  simp only [Act.put, List.setIfInBounds_toArray, List.set_cons_succ, List.set_cons_zero] at ha; subst ha
  refine wt_take 1 rfl (by kernel_rfl) (by kernel_rfl) (by kernel_rfl) (fun _ _ _ _ h => h) rfl hC ⟨_, fun w hw => by (go_simp; try with_reducible rfl), fun a1 ha => ?_⟩
  simp only [Act.put, List.setIfInBounds_toArray, List.set_cons_succ, List.set_cons_zero] at ha; subst ha
  refine wt_take 2 rfl (by kernel_rfl) (by kernel_rfl) (by kernel_rfl) (fun _ _ _ _ h => h) rfl hC ⟨_, fun w hw => by (go_simp; try with_reducible rfl), fun a1 ha => ?_⟩
  simp only [Act.put, List.setIfInBounds_toArray, List.set_cons_succ, List.set_cons_zero] at ha; subst ha
  refine wt_take 3 rfl (by kernel_rfl) (by kernel_rfl) (by kernel_rfl) (fun _ _ _ _ h => h) rfl hC ⟨_, fun w hw => by (go_simp; try with_reducible rfl), fun a1 ha => ?_⟩
  simp only [Act.put, List.setIfInBounds_toArray, List.set_cons_succ, List.set_cons_zero] at ha; subst ha
  refine wt_take 4 rfl (by kernel_rfl) (by kernel_rfl) (by kernel_rfl) (fun _ _ _ _ h => h) rfl hC ⟨_, fun w hw => ex_indexA rfl Try.underlying62 size23 rfl rfl k rfl hk, fun a1 ha => ?_⟩
  simp only [Act.put, List.setIfInBounds_toArray, List.set_cons_succ, List.set_cons_zero] at ha; subst ha
  refine wt_take 5 rfl (by kernel_rfl) (by kernel_rfl) (by kernel_rfl) (fun _ _ _ _ h => h) rfl hC ⟨_, fun w hw => ex_load1 rfl Try.underlying23 rfl rfl (by rw [Nat.zero_add, Nat.mul_one, cell_of_row w _ _ _ _ (0, 0) (hw.getB 1 rfl)]; exact HV1.out), fun a1 ha => ?_⟩
  simp only [Act.put, List.setIfInBounds_toArray, List.set_cons_succ, List.set_cons_zero] at ha; subst ha
  refine wt_take 6 rfl (by kernel_rfl) (by kernel_rfl) (by kernel_rfl) (fun _ _ _ _ h => h) rfl hC ⟨_, fun w hw => by (go_simp; try with_reducible rfl), fun a1 ha => ?_⟩
  simp only [Act.put, List.setIfInBounds_toArray, List.set_cons_succ, List.set_cons_zero] at ha; subst ha
  refine wt_take 7 rfl (by kernel_rfl) (by kernel_rfl) (by kernel_rfl) (fun _ _ _ _ h => h) rfl hC ⟨_, fun w hw => ex_load1 rfl Try.underlying3 rfl rfl (by rw [cell_of_row w _ _ _ _ (0, 0) (hw.getB 0 rfl)]; rfl), fun a1 ha => ?_⟩
  simp only [Act.put, List.setIfInBounds_toArray, List.set_cons_succ, List.set_cons_zero] at ha; subst ha
  refine wt_take 8 rfl (by kernel_rfl) (by kernel_rfl) (by kernel_rfl) (fun _ _ _ _ h => h) rfl hC ⟨_, fun w hw => by (go_simp; try with_reducible rfl), fun a1 ha => ?_⟩
  simp only [Act.put, List.setIfInBounds_toArray, List.set_cons_succ, List.set_cons_zero] at ha; subst ha
  refine wt_take 9 rfl (by kernel_rfl) (by kernel_rfl) (by kernel_rfl) (fun _ _ _ _ h => h) rfl hC ⟨_, fun w hw => ex_load1 rfl Try.underlying42 rfl rfl (by rw [cell_of_row w _ _ _ _ (0, 0) (hw.getB 0 rfl)]; rfl), fun a1 ha => ?_⟩
  simp only [Act.put, List.setIfInBounds_toArray, List.set_cons_succ, List.set_cons_zero] at ha; subst ha
  refine wt_one 10 (by kernel_rfl) ?_
  refine wt_call0 hs rfl rfl (by go_simp) (of_bytes (HB.out.keep hs)) (by simp only [Act.put, List.setIfInBounds_toArray, List.set_cons_succ, List.set_cons_zero]; rfl) ?_
  clear hs; intro w1 hs
  refine wt_and (hs.sub (by repeat (first | exact List.Sublist.refl _ | exact List.nil_sublist _ | refine List.Sublist.cons_cons _ ?_ | refine List.Sublist.cons _ ?_))) fun hC => ?_
  refine wt_one 11 (by kernel_rfl) ?_
  refine wt_callU hs rfl rfl (by go_simp) 1 rfl (HI.out _ _ _ (hs.get 1 rfl)) (by simp only [Act.put, List.setIfInBounds_toArray, List.set_cons_succ, List.set_cons_zero]; rfl) ?_
  clear hs; intro w1 hs
  refine wt_and (hs.sub (by repeat (first | exact List.Sublist.refl _ | exact List.nil_sublist _ | refine List.Sublist.cons_cons _ ?_ | refine List.Sublist.cons _ ?_))) fun hC => ?_
  refine wt_take 12 rfl (by kernel_rfl) (by kernel_rfl) (by kernel_rfl) (fun _ _ _ _ h => h) rfl hC ⟨_, fun w hw => by (go_simp; try with_reducible rfl), fun a1 ha => ?_⟩
  simp only [Act.put, List.setIfInBounds_toArray, List.set_cons_succ, List.set_cons_zero] at ha; subst ha
  refine wt_done (by kernel_rfl) ?_
  skip
  clear hC
  go_upto_region 10 with fail
  refine wt_enterS (List.Sublist.cons_cons _ (List.Sublist.cons _ (List.Sublist.cons _ (List.Sublist.cons_cons _ (List.nil_sublist _))))) 15 rfl hs (by kernel_rfl) ?_
  clear hs; intro w1 hC hs
  refine wt_take 0 rfl (by kernel_rfl) (by kernel_rfl) (by kernel_rfl) (fun _ _ _ _ h => h) rfl hC ⟨_, fun w hw => by (go_simp; try with_reducible rfl), fun a1 ha => ?_⟩
  simp only [Act.put, List.setIfInBounds_toArray, List.set_cons_succ, List.set_cons_zero] at ha; subst ha
  refine wt_take 1 rfl (by kernel_rfl) (by kernel_rfl) (by kernel_rfl) (fun _ _ _ _ h => h) rfl hC ⟨_, fun w hw => by (go_simp; try with_reducible rfl), fun a1 ha => ?_⟩
  simp only [Act.put, List.setIfInBounds_toArray, List.set_cons_succ, List.set_cons_zero] at ha; subst ha
  refine wt_take 2 rfl (by kernel_rfl) (by kernel_rfl) (by kernel_rfl) (fun _ _ _ _ h => h) rfl hC ⟨_, fun w hw => by (go_simp; try with_reducible rfl), fun a1 ha => ?_⟩
  simp only [Act.put, List.setIfInBounds_toArray, List.set_cons_succ, List.set_cons_zero] at ha; subst ha
  refine wt_take 3 rfl (by kernel_rfl) (by kernel_rfl) (by kernel_rfl) (fun _ _ _ _ h => h) rfl hC ⟨_, fun w hw => by (go_simp; try with_reducible rfl), fun a1 ha => ?_⟩
  simp only [Act.put, List.setIfInBounds_toArray, List.set_cons_succ, List.set_cons_zero] at ha; subst ha
  refine wt_take 4 rfl (by kernel_rfl) (by kernel_rfl) (by kernel_rfl) (fun _ _ _ _ h => h) rfl hC ⟨_, fun w hw => by (go_simp; try with_reducible rfl), fun a1 ha => ?_⟩
  simp only [Act.put, List.setIfInBounds_toArray, List.set_cons_succ, List.set_cons_zero] at ha; subst ha
  refine wt_take 5 rfl (by kernel_rfl) (by kernel_rfl) (by kernel_rfl) (fun _ _ _ _ h => h) rfl hC ⟨_, fun w hw => ex_indexA rfl Try.underlying63 size27 rfl rfl k rfl hk, fun a1 ha => ?_⟩
  simp only [Act.put, List.setIfInBounds_toArray, List.set_cons_succ, List.set_cons_zero] at ha; subst ha
  refine wt_take 6 rfl (by kernel_rfl) (by kernel_rfl) (by kernel_rfl) (fun _ _ _ _ h => h) rfl hC ⟨_, fun w hw => ex_load1 rfl Try.underlying27 rfl rfl (by rw [Nat.mul_one, cell_of_row w _ _ _ _ (0, 0) (hw.getB 1 rfl)]; exact HV2.out), fun a1 ha => ?_⟩
  simp only [Act.put, List.setIfInBounds_toArray, List.set_cons_succ, List.set_cons_zero] at ha; subst ha
  refine wt_take 7 rfl (by kernel_rfl) (by kernel_rfl) (by kernel_rfl) (fun _ _ _ _ h => h) rfl hC ⟨_, fun w hw => by (go_simp; try with_reducible rfl), fun a1 ha => ?_⟩
  simp only [Act.put, List.setIfInBounds_toArray, List.set_cons_succ, List.set_cons_zero] at ha; subst ha
  refine wt_take 8 rfl (by kernel_rfl) (by kernel_rfl) (by kernel_rfl) (fun _ _ _ _ h => h) rfl hC ⟨_, fun w hw => ex_load1 rfl Try.underlying3 rfl rfl (by rw [cell_of_row w _ _ _ _ (0, 0) (hw.getB 0 rfl)]; rfl), fun a1 ha => ?_⟩
  simp only [Act.put, List.setIfInBounds_toArray, List.set_cons_succ, List.set_cons_zero] at ha; subst ha
  refine wt_take 9 rfl (by kernel_rfl) (by kernel_rfl) (by kernel_rfl) (fun _ _ _ _ h => h) rfl hC ⟨_, fun w hw => by (go_simp; try with_reducible rfl), fun a1 ha => ?_⟩
  simp only [Act.put, List.setIfInBounds_toArray, List.set_cons_succ, List.set_cons_zero] at ha; subst ha
  refine wt_take 10 rfl (by kernel_rfl) (by kernel_rfl) (by kernel_rfl) (fun _ _ _ _ h => h) rfl hC ⟨_, fun w hw => ex_load1 rfl Try.underlying42 rfl rfl (by rw [cell_of_row w _ _ _ _ (0, 0) (hw.getB 0 rfl)]; rfl), fun a1 ha => ?_⟩
  simp only [Act.put, List.setIfInBounds_toArray, List.set_cons_succ, List.set_cons_zero] at ha; subst ha
  refine wt_one 11 (by kernel_rfl) ?_
  refine wt_call0 hs rfl rfl (by go_simp) (of_bytes (HB.out.keep hs)) (by simp only [Act.put, List.setIfInBounds_toArray, List.set_cons_succ, List.set_cons_zero]; rfl) ?_
  clear hs; intro w1 hs
  refine wt_and (hs.sub (by repeat (first | exact List.Sublist.refl _ | exact List.nil_sublist _ | refine List.Sublist.cons_cons _ ?_ | refine List.Sublist.cons _ ?_))) fun hC => ?_
  refine wt_one 12 (by kernel_rfl) ?_
  refine wt_callU hs rfl rfl (by go_simp) 2 rfl (HR.out _ _ _ _ (hs.get 2 rfl)) (by simp only [Act.put, List.setIfInBounds_toArray, List.set_cons_succ, List.set_cons_zero]; rfl) ?_
  clear hs; intro w1 hs
  refine wt_and (hs.sub (by repeat (first | exact List.Sublist.refl _ | exact List.nil_sublist _ | refine List.Sublist.cons_cons _ ?_ | refine List.Sublist.cons _ ?_))) fun hC => ?_
  refine wt_take 13 rfl (by kernel_rfl) (by kernel_rfl) (by kernel_rfl) (fun _ _ _ _ h => h) rfl hC ⟨.bool true, fun w hw => by go_simp, fun a1 ha => ?_⟩
  simp only [Act.put, List.setIfInBounds_toArray, List.set_cons_succ, List.set_cons_zero] at ha; subst ha
  refine wt_take 14 rfl (by kernel_rfl) (by kernel_rfl) (by kernel_rfl) (fun _ _ _ _ h => h) rfl hC ⟨_, fun w hw => by (go_simp; try with_reducible rfl), fun a1 ha => ?_⟩
  simp only [Act.put, List.setIfInBounds_toArray, List.set_cons_succ, List.set_cons_zero] at ha; subst ha
  refine wt_done (by kernel_rfl) ?_
  skip
  clear hC
  go_wp2_with fail
  go_ret
  exact ⟨rfl, _, _, _, _, _, _, _, HL.out, hs.erase 0⟩
set_option maxRecDepth 100000 in
set_option maxHeartbeats 1000000 in
theorem step_arm (xb d s g c rd n k t : Nat) (f : Nat → UInt8) (wr : Int) (off aI aR : Bool) (lI lR B : Int) (C8 : Nat → Value) (R2 : List Res) (w0 w : World) (on tt N : Int) (bv : Value)
    (hL : Like n wr off aI aR lI lR B) (hk : k < 3) (ht : t < 3) (hN : -9223372036854775808 ≤ N ∧ N ≤ 9223372036854775807)
    (HP : Hid (∀ w, Calls Try.prog 19 #[.int .i64 on, .int .i64 3] w fun e w' => e = .returned (.int .i64 k) ∧ w = w')) (HP2 : Hid (∀ w, Calls Try.prog 19 #[.int .i64 tt, .int .i64 3] w fun e w' => e = .returned (.int .i64 t) ∧ w = w'))
    (HV1 : Hid ((rowOf 8 C8)[k]? = some (.pointer (some ⟨d, 0, none⟩)))) (HV2 : Hid ((rowOf 8 C8)[3 + k]? = some (.pointer (some ⟨rd, 0, none⟩))))
    (hs0 : Tr w0 [] w (diskR d s n f wr off aI lI :: refG rd g c n f wr off aR lR :: Res.blk xb (rowOf 8 C8) 66 :: R2)) :
    Calls Try.prog 31 #[.pointer (some ⟨xb, 0, none⟩), .agg #[.int .i64 3, .int .i64 on, .int .i64 tt, .int .i64 N, bv]] w fun e w' => e = .returned (.bool true) ∧ ∃ (aI' aR' : Bool) (lI' lR' : Int), Like n wr off aI' aR' lI' lR' B ∧ Tr w0 [] w' (diskR d s n f wr off aI' lI' :: refG rd g c n f wr off aR' lR' :: Res.blk xb (rowOf 8 C8) 66 :: R2) := by
  obtain ⟨E, aI', aR', lI', lR', hL', hI, hR⟩ := arm_same (f := f) hL N hN.2
  have HI := Lib.hid hI
  have HR := Lib.hid hR
  have HL := Lib.hid hL'
  clear hI hR hL'
  have hs := hs0
  have n1 := hL.1.1
  have n2 := hL.1.2
  clear hs0
  go_enter Try.func31, Try.ntmps31
  go_upto_region 2 with (first | ((with_reducible refine (at_box (t := 69)) rfl ?_); refine wl_boxA hs rfl rfl rfl ?_; clear hs; intro w1 ob hs) | ((with_reducible refine at_load rfl ?_); refine wl_load1 hs rfl rfl Try.underlying3 rfl rfl 0 rfl rfl ?_) | (go_at_call 19; refine (HP.out _).mono ?_; rintro e w2 ⟨rfl, rfl⟩))
  go_upto_region 3 with (first | ((with_reducible refine at_load rfl ?_); refine wl_load1 hs rfl rfl Try.underlying3 rfl rfl 0 rfl rfl ?_) | (go_at_call 19; refine (HP2.out _).mono ?_; rintro e w2 ⟨rfl, rfl⟩))
  clear HP HP2
  go_upto_region 12 with (first | ((with_reducible refine at_load rfl ?_); refine wl_load1 hs rfl rfl Try.underlying3 rfl rfl 0 rfl rfl ?_))
  refine wt_enterS (List.Sublist.cons_cons _ (List.Sublist.cons _ (List.Sublist.cons _ (List.Sublist.cons_cons _ (List.nil_sublist _))))) 10 rfl hs (by kernel_rfl) ?_
  clear hs; intro w1 hC hs
  refine wt_take 0 rfl (by kernel_rfl) (by kernel_rfl) (by kernel_rfl) (fun _ _ _ _ h => h) rfl hC ⟨_, fun w hw => by (go_simp; try with_reducible rfl), fun a1 ha => ?_⟩
  simp only [Act.put, List.setIfInBounds_toArray, List.set_cons_succ, List.set_cons_zero] at ha; subst ha
  refine wt_take 1 rfl (by kernel_rfl) (by kernel_rfl) (by kernel_rfl) (fun _ _ _ _ h => h) rfl hC ⟨_, fun w hw => by (go_simp; try with_reducible rfl), fun a1 ha => ?_⟩
  simp only [Act.put, List.setIfInBounds_toArray, List.set_cons_succ, List.set_cons_zero] at ha; subst ha
  refine wt_take 2 rfl (by kernel_rfl) (by kernel_rfl) (by kernel_rfl) (fun _ _ _ _ h => h) rfl hC ⟨_, fun w hw => by (go_simp; try with_reducible rfl), fun a1 ha => ?_⟩
  simp only [Act.put, List.setIfInBounds_toArray, List.set_cons_succ, List.set_cons_zero] at ha; subst ha
  refine wt_take 3 rfl (by kernel_rfl) (by kernel_rfl) (by kernel_rfl) (fun _ _ _ _ h => h) rfl hC ⟨_, fun w hw => by (go_simp; try with_reducible rfl), fun a1 ha => ?_⟩
  simp only [Act.put, List.setIfInBounds_toArray, List.set_cons_succ, List.set_cons_zero] at ha; subst ha
  refine wt_take 4 rfl (by kernel_rfl) (by kernel_rfl) (by kernel_rfl) (fun _ _ _ _ h => h) rfl hC ⟨_, fun w hw => ex_indexA rfl Try.underlying62 size23 rfl rfl k rfl hk, fun a1 ha => ?_⟩
  simp only [Act.put, List.setIfInBounds_toArray, List.set_cons_succ, List.set_cons_zero] at ha; subst ha
  refine wt_take 5 rfl (by kernel_rfl) (by kernel_rfl) (by kernel_rfl) (fun _ _ _ _ h => h) rfl hC ⟨_, fun w hw => ex_load1 rfl Try.underlying23 rfl rfl (by rw [Nat.zero_add, Nat.mul_one, cell_of_row w _ _ _ _ (0, 0) (hw.getB 1 rfl)]; exact HV1.out), fun a1 ha => ?_⟩
  simp only [Act.put, List.setIfInBounds_toArray, List.set_cons_succ, List.set_cons_zero] at ha; subst ha
  refine wt_take 6 rfl (by kernel_rfl) (by kernel_rfl) (by kernel_rfl) (fun _ _ _ _ h => h) rfl hC ⟨_, fun w hw => by (go_simp; try with_reducible rfl), fun a1 ha => ?_⟩
  simp only [Act.put, List.setIfInBounds_toArray, List.set_cons_succ, List.set_cons_zero] at ha; subst ha
  refine wt_take 7 rfl (by kernel_rfl) (by kernel_rfl) (by kernel_rfl) (fun _ _ _ _ h => h) rfl hC ⟨_, fun w hw => ex_load1 rfl Try.underlying3 rfl rfl (by rw [cell_of_row w _ _ _ _ (0, 0) (hw.getB 0 rfl)]; rfl), fun a1 ha => ?_⟩
  simp only [Act.put, List.setIfInBounds_toArray, List.set_cons_succ, List.set_cons_zero] at ha; subst ha
  refine wt_one 8 (by kernel_rfl) ?_
  refine wt_callU hs rfl rfl (by go_simp) 1 rfl (HI.out _ _ _ (hs.get 1 rfl)) (by simp only [Act.put, List.setIfInBounds_toArray, List.set_cons_succ, List.set_cons_zero]; rfl) ?_
  clear hs; intro w1 hs
  refine wt_and (hs.sub (by repeat (first | exact List.Sublist.refl _ | exact List.nil_sublist _ | refine List.Sublist.cons_cons _ ?_ | refine List.Sublist.cons _ ?_))) fun hC => ?_
  refine wt_take 9 rfl (by kernel_rfl) (by kernel_rfl) (by kernel_rfl) (fun _ _ _ _ h => h) rfl hC ⟨_, fun w hw => by (go_simp; try with_reducible rfl), fun a1 ha => ?_⟩
  simp only [Act.put, List.setIfInBounds_toArray, List.set_cons_succ, List.set_cons_zero] at ha; subst ha
  refine wt_done (by kernel_rfl) ?_
  skip
  clear hC
  go_upto_region 13 with fail
  refine wt_enterS (List.Sublist.cons_cons _ (List.Sublist.cons _ (List.Sublist.cons _ (List.Sublist.cons_cons _ (List.nil_sublist _))))) 12 rfl hs (by kernel_rfl) ?_
  clear hs; intro w1 hC hs
  refine wt_take 0 rfl (by kernel_rfl) (by kernel_rfl) (by kernel_rfl) (fun _ _ _ _ h => h) rfl hC ⟨_, fun w hw => by (go_simp; try with_reducible rfl), fun a1 ha => ?_⟩
  simp only [Act.put, List.setIfInBounds_toArray, List.set_cons_succ, List.set_cons_zero] at ha; subst ha
  refine wt_take 1 rfl (by kernel_rfl) (by kernel_rfl) (by kernel_rfl) (fun _ _ _ _ h => h) rfl hC ⟨_, fun w hw => by (go_simp; try with_reducible rfl), fun a1 ha => ?_⟩
  simp only [Act.put, List.setIfInBounds_toArray, List.set_cons_succ, List.set_cons_zero] at ha; subst ha
  refine wt_take 2 rfl (by kernel_rfl) (by kernel_rfl) (by kernel_rfl) (fun _ _ _ _ h => h) rfl hC ⟨_, fun w hw => by (go_simp; try with_reducible rfl), fun a1 ha => ?_⟩
  simp only [Act.put, List.setIfInBounds_toArray, List.set_cons_succ, List.set_cons_zero] at ha; subst ha
  refine wt_take 3 rfl (by kernel_rfl) (by kernel_rfl) (by kernel_rfl) (fun _ _ _ _ h => h) rfl hC ⟨_, fun w hw => by (go_simp; try with_reducible rfl), fun a1 ha => ?_⟩
  simp only [Act.put, List.setIfInBounds_toArray, List.set_cons_succ, List.set_cons_zero] at ha; subst ha
  refine wt_take 4 rfl (by kernel_rfl) (by kernel_rfl) (by kernel_rfl) (fun _ _ _ _ h => h) rfl hC ⟨_, fun w hw => by (go_simp; try with_reducible rfl), fun a1 ha => ?_⟩
  simp only [Act.put, List.setIfInBounds_toArray, List.set_cons_succ, List.set_cons_zero] at ha; subst ha
  refine wt_take 5 rfl (by kernel_rfl) (by kernel_rfl) (by kernel_rfl) (fun _ _ _ _ h => h) rfl hC ⟨_, fun w hw => ex_indexA rfl Try.underlying63 size27 rfl rfl k rfl hk, fun a1 ha => ?_⟩
  simp only [Act.put, List.setIfInBounds_toArray, List.set_cons_succ, List.set_cons_zero] at ha; subst ha
  refine wt_take 6 rfl (by kernel_rfl) (by kernel_rfl) (by kernel_rfl) (fun _ _ _ _ h => h) rfl hC ⟨_, fun w hw => ex_load1 rfl Try.underlying27 rfl rfl (by rw [Nat.mul_one, cell_of_row w _ _ _ _ (0, 0) (hw.getB 1 rfl)]; exact HV2.out), fun a1 ha => ?_⟩
  simp only [Act.put, List.setIfInBounds_toArray, List.set_cons_succ, List.set_cons_zero] at ha; subst ha
  refine wt_take 7 rfl (by kernel_rfl) (by kernel_rfl) (by kernel_rfl) (fun _ _ _ _ h => h) rfl hC ⟨_, fun w hw => by (go_simp; try with_reducible rfl), fun a1 ha => ?_⟩
  simp only [Act.put, List.setIfInBounds_toArray, List.set_cons_succ, List.set_cons_zero] at ha; subst ha
  refine wt_take 8 rfl (by kernel_rfl) (by kernel_rfl) (by kernel_rfl) (fun _ _ _ _ h => h) rfl hC ⟨_, fun w hw => ex_load1 rfl Try.underlying3 rfl rfl (by rw [cell_of_row w _ _ _ _ (0, 0) (hw.getB 0 rfl)]; rfl), fun a1 ha => ?_⟩
  simp only [Act.put, List.setIfInBounds_toArray, List.set_cons_succ, List.set_cons_zero] at ha; subst ha
  refine wt_one 9 (by kernel_rfl) ?_
  refine wt_callU hs rfl rfl (by go_simp) 2 rfl (HR.out _ _ _ _ (hs.get 2 rfl)) (by simp only [Act.put, List.setIfInBounds_toArray, List.set_cons_succ, List.set_cons_zero]; rfl) ?_
  clear hs; intro w1 hs
  refine wt_and (hs.sub (by repeat (first | exact List.Sublist.refl _ | exact List.nil_sublist _ | refine List.Sublist.cons_cons _ ?_ | refine List.Sublist.cons _ ?_))) fun hC => ?_
  refine wt_take 10 rfl (by kernel_rfl) (by kernel_rfl) (by kernel_rfl) (fun _ _ _ _ h => h) rfl hC ⟨.bool true, fun w hw => by go_simp, fun a1 ha => ?_⟩
  simp only [Act.put, List.setIfInBounds_toArray, List.set_cons_succ, List.set_cons_zero] at ha; subst ha
  refine wt_take 11 rfl (by kernel_rfl) (by kernel_rfl) (by kernel_rfl) (fun _ _ _ _ h => h) rfl hC ⟨_, fun w hw => by (go_simp; try with_reducible rfl), fun a1 ha => ?_⟩
  simp only [Act.put, List.setIfInBounds_toArray, List.set_cons_succ, List.set_cons_zero] at ha; subst ha
  refine wt_done (by kernel_rfl) ?_
  skip
  clear hC
  go_wp2_with fail
  go_ret
  exact ⟨rfl, _, _, _, _, HL.out, hs.erase 0⟩
set_option maxRecDepth 100000 in
set_option maxHeartbeats 1000000 in
theorem step_restart (xb d s g c rd n k t : Nat) (f : Nat → UInt8) (wr : Int) (off aI aR : Bool) (lI lR B : Int) (C8 : Nat → Value) (R2 : List Res) (w0 w : World) (on tt N : Int) (bv : Value)
    (hL : Like n wr off aI aR lI lR B) (hk : k < 3) (ht : t < 3) (hN : -9223372036854775808 ≤ N ∧ N ≤ 9223372036854775807)
    (HP : Hid (∀ w, Calls Try.prog 19 #[.int .i64 on, .int .i64 3] w fun e w' => e = .returned (.int .i64 k) ∧ w = w')) (HP2 : Hid (∀ w, Calls Try.prog 19 #[.int .i64 tt, .int .i64 3] w fun e w' => e = .returned (.int .i64 t) ∧ w = w'))
    (HV1 : Hid ((rowOf 8 C8)[k]? = some (.pointer (some ⟨d, 0, none⟩)))) (HV2 : Hid ((rowOf 8 C8)[3 + k]? = some (.pointer (some ⟨rd, 0, none⟩))))
    (hs0 : Tr w0 [] w (diskR d s n f wr off aI lI :: refG rd g c n f wr off aR lR :: Res.blk xb (rowOf 8 C8) 66 :: R2)) :
    Calls Try.prog 31 #[.pointer (some ⟨xb, 0, none⟩), .agg #[.int .i64 4, .int .i64 on, .int .i64 tt, .int .i64 N, bv]] w fun e w' => e = .returned (.bool true) ∧ Tr w0 [] w' (diskR d s n f wr false false 0 :: refG rd g c n f wr false false 0 :: Res.blk xb (rowOf 8 C8) 66 :: R2) := by
  have hs := hs0
  have n1 := hL.1.1
  have n2 := hL.1.2
  clear hs0
  go_enter Try.func31, Try.ntmps31
  go_upto_region 2 with (first | ((with_reducible refine (at_box (t := 69)) rfl ?_); refine wl_boxA hs rfl rfl rfl ?_; clear hs; intro w1 ob hs) | ((with_reducible refine at_load rfl ?_); refine wl_load1 hs rfl rfl Try.underlying3 rfl rfl 0 rfl rfl ?_) | (go_at_call 19; refine (HP.out _).mono ?_; rintro e w2 ⟨rfl, rfl⟩))
  go_upto_region 3 with (first | ((with_reducible refine at_load rfl ?_); refine wl_load1 hs rfl rfl Try.underlying3 rfl rfl 0 rfl rfl ?_) | (go_at_call 19; refine (HP2.out _).mono ?_; rintro e w2 ⟨rfl, rfl⟩))
  clear HP HP2
  go_upto_region 16 with (first | ((with_reducible refine at_load rfl ?_); refine wl_load1 hs rfl rfl Try.underlying3 rfl rfl 0 rfl rfl ?_) | ((with_reducible refine (at_index (t := 62)) rfl ?_); refine wl_run rfl (ex_indexA rfl Try.underlying62 size23 rfl rfl k rfl hk) ?_) | ((with_reducible refine (at_load (t := 23)) rfl ?_); refine wl_load1 hs rfl rfl Try.underlying23 rfl rfl 3 rfl (by rw [Nat.zero_add, Nat.mul_one]; exact HV1.out) ?_) | (go_at_call 29; refine (restart_any (hs.get 1 rfl)).mono ?_; rintro e w2 ⟨v, rfl, hc⟩; replace hs := hs.upd 1 rfl hc; clear hc))
  go_wp2_with (first | ((with_reducible refine (at_index (t := 63)) rfl ?_); refine wl_run rfl (ex_indexA rfl Try.underlying63 size27 rfl rfl k rfl hk) ?_) | ((with_reducible refine (at_load (t := 27)) rfl ?_); refine wl_load1 hs rfl rfl Try.underlying27 rfl rfl 3 rfl (by rw [Nat.mul_one]; exact HV2.out) ?_) | (go_at_call 38; refine (rrestart_any (hs.get 2 rfl)).mono ?_; rintro e w2 ⟨v, rfl, hc⟩; replace hs := hs.upd 2 rfl hc; clear hc))
  go_ret
  exact ⟨rfl, hs.erase 0⟩
end Go.Proofs.Ytcflolcaiedmfaa
