/- One step on two disks: images that are kept; anything else. -/
import Derived.Test.YtcflolcaiedmfaaK
namespace Go.Proofs.Ytcflolcaiedmfaa
set_option linter.unusedVariables false
set_option linter.unusedSimpArgs false
open Go Go.Sp Go.RowKit Go.BigFrame

theorem info30 : (Try.prog.info? 30).map (fun i => (i.zero, i.size, i.bytes)) = some (some (.slice none 0 0), 1, 24) := by kernel_rfl
theorem size30 : (Try.prog.info? 30).map (·.size) = some 1 := by kernel_rfl
theorem size64 : (Try.prog.info? 64).map (·.size) = some 1 := by kernel_rfl
theorem own_one2 {w0 w : World} {S : List Nat} {L : List Res} (hs : Tr w0 S w L) (i : Nat) {e : TypeId} {size n : Nat} {v : Value} {xs : List Value} (hi : L[i]? = some (Res.own e size v n xs)) : v.oneCell' = true := by
  obtain ⟨ao, c, g, rfl, _⟩ := hs.own_open i hi
  rfl
theorem one_news2 {w : World} {b : Nat} {x : Value} {t : TypeId} (h : w.heap[b]? = some (.cells #[x] t (0, 0))) : ∀ j u, [x][j]? = some u → w.cell? ⟨b, 0 + j, none⟩ = some u := fun j u hj => by
  rw [Nat.zero_add, cell_of_row w b j #[x] t (0, 0) h]; simpa using hj
theorem setC_36 {C8 : Nat → Value} {k t : Nat} {v u : Value} (ht : 6 ≤ t) (h : (rowOf 8 C8)[3 + k]? = some u) (hk : k < 3 := by assumption) : (rowOf 8 (setC C8 t v))[3 + k]? = some u := by
  rw [rowOf_get (by omega)] at h ⊢
  unfold setC
  rw [if_neg (by omega)]
  exact h
set_option maxRecDepth 100000 in
set_option maxHeartbeats 1000000 in
theorem step_other (xb d s g c rd n k t : Nat) (f : Nat → UInt8) (wr : Int) (off aI aR : Bool) (lI lR B : Int) (C8 : Nat → Value) (R2 : List Res) (w0 w : World) (on tt N : Int) (bv : Value)
    (hL : Like n wr off aI aR lI lR B) (hk : k < 3) (ht : t < 3) (hN : -9223372036854775808 ≤ N ∧ N ≤ 9223372036854775807)
    (HP : Hid (∀ w, Calls Try.prog 19 #[.int .i64 on, .int .i64 3] w fun e w' => e = .returned (.int .i64 k) ∧ w = w')) (HP2 : Hid (∀ w, Calls Try.prog 19 #[.int .i64 tt, .int .i64 3] w fun e w' => e = .returned (.int .i64 t) ∧ w = w'))
    (HV1 : Hid ((rowOf 8 C8)[k]? = some (.pointer (some ⟨d, 0, none⟩)))) (HV2 : Hid ((rowOf 8 C8)[3 + k]? = some (.pointer (some ⟨rd, 0, none⟩))))
    (hs0 : Tr w0 [] w (diskR d s n f wr off aI lI :: refG rd g c n f wr off aR lR :: Res.blk xb (rowOf 8 C8) 66 :: R2)) (kd : Int) (hkd : kd < 1 ∨ 8 < kd) :
    Calls Try.prog 31 #[.pointer (some ⟨xb, 0, none⟩), .agg #[.int .i64 kd, .int .i64 on, .int .i64 tt, .int .i64 N, bv]] w fun e w' => e = .returned (.bool true) ∧ Tr w0 [] w' (diskR d s n f wr off aI lI :: refG rd g c n f wr off aR lR :: Res.blk xb (rowOf 8 C8) 66 :: R2) := by
  have q1 : (kd == 1) = false := by simp; omega
  have q2 : (kd == 2) = false := by simp; omega
  have q3 : (kd == 3) = false := by simp; omega
  have q4 : (kd == 4) = false := by simp; omega
  have q5 : (kd == 5) = false := by simp; omega
  have q6 : (kd == 6) = false := by simp; omega
  have q7 : (kd == 7) = false := by simp; omega
  have q8 : (kd == 8) = false := by simp; omega
  clear hkd
  have hs := hs0
  have n1 := hL.1.1
  have n2 := hL.1.2
  clear hs0
  go_enter Try.func31, Try.ntmps31
  go_upto_region 2 with (first | ((with_reducible refine (at_box (t := 69)) rfl ?_); refine wl_boxA hs rfl rfl rfl ?_; clear hs; intro w1 ob hs) | ((with_reducible refine at_load rfl ?_); refine wl_load1 hs rfl rfl Try.underlying3 rfl rfl 0 rfl rfl ?_) | (go_at_call 19; refine (HP.out _).mono ?_; rintro e w2 ⟨rfl, rfl⟩))
  go_upto_region 3 with (first | ((with_reducible refine at_load rfl ?_); refine wl_load1 hs rfl rfl Try.underlying3 rfl rfl 0 rfl rfl ?_) | (go_at_call 19; refine (HP2.out _).mono ?_; rintro e w2 ⟨rfl, rfl⟩))
  clear HP HP2
  go_wp2_with (first | ((with_reducible refine at_load rfl ?_); refine wl_load1 hs rfl rfl Try.underlying3 rfl rfl 0 rfl rfl ?_))
  go_ret
  exact ⟨rfl, hs.erase 0⟩
set_option maxRecDepth 100000 in
set_option maxHeartbeats 1000000 in
theorem step_image (xb d s g c rd n k t : Nat) (f : Nat → UInt8) (wr : Int) (off aI aR : Bool) (lI lR B : Int) (C8 : Nat → Value) (R2 : List Res) (w0 w : World) (on tt N : Int) (bv : Value)
    (hL : Like n wr off aI aR lI lR B) (hk : k < 3) (ht : t < 3) (hN : -9223372036854775808 ≤ N ∧ N ≤ 9223372036854775807)
    (HP : Hid (∀ w, Calls Try.prog 19 #[.int .i64 on, .int .i64 3] w fun e w' => e = .returned (.int .i64 k) ∧ w = w')) (HP2 : Hid (∀ w, Calls Try.prog 19 #[.int .i64 tt, .int .i64 3] w fun e w' => e = .returned (.int .i64 t) ∧ w = w'))
    (HV1 : Hid ((rowOf 8 C8)[k]? = some (.pointer (some ⟨d, 0, none⟩)))) (HV2 : Hid ((rowOf 8 C8)[3 + k]? = some (.pointer (some ⟨rd, 0, none⟩))))
    (hs0 : Tr w0 [] w (diskR d s n f wr off aI lI :: refG rd g c n f wr off aR lR :: Res.blk xb (rowOf 8 C8) 66 :: R2)) (m cL cW : Nat) (aoL aoW : Option Addr) (xs ys : List Value) (R3 : List Res) (hR : R2 = Res.own 30 1 (.slice aoL m cL) m xs :: Res.own 30 1 (.slice aoW m cW) m ys :: R3) (hm : m ≤ 40)
    (HV6 : Hid ((rowOf 8 C8)[6]? = some (.slice aoL m cL))) (HV7 : Hid ((rowOf 8 C8)[7]? = some (.slice aoW m cW))) :
    Calls Try.prog 31 #[.pointer (some ⟨xb, 0, none⟩), .agg #[.int .i64 6, .int .i64 on, .int .i64 tt, .int .i64 N, bv]] w fun e w' => e = .returned (.bool true) ∧ ((Tr w0 [] w' (diskR d s n f wr off aI lI :: refG rd g c n f wr off aR lR :: Res.blk xb (rowOf 8 C8) 66 :: R2)) ∨
      (m < 40 ∧ ∃ b v lv wv, Tr w0 [] w' (Res.own 40 128 v n (rowOf (n * 128) (u8v f)).toList :: Res.blk b (rowOf (n * 128) (u8v f)) 40 :: diskR d s n f wr off aI lI :: refG rd g c n f wr off aR lR :: Res.blk xb (rowOf 8 (setC (setC C8 6 lv) 7 wv)) 66 :: Res.own 30 1 lv (m + 1) (xs ++ [.slice (some ⟨b, 0, none⟩) n n]) :: Res.own 30 1 wv (m + 1) (ys ++ [v]) :: R3))) := by
  subst hR
  have hs := hs0
  have n1 := hL.1.1
  have n2 := hL.1.2
  clear hs0
  go_enter Try.func31, Try.ntmps31
  go_upto_region 2 with (first | ((with_reducible refine (at_box (t := 69)) rfl ?_); refine wl_boxA hs rfl rfl rfl ?_; clear hs; intro w1 ob hs) | ((with_reducible refine at_load rfl ?_); refine wl_load1 hs rfl rfl Try.underlying3 rfl rfl 0 rfl rfl ?_) | (go_at_call 19; refine (HP.out _).mono ?_; rintro e w2 ⟨rfl, rfl⟩))
  go_upto_region 3 with (first | ((with_reducible refine at_load rfl ?_); refine wl_load1 hs rfl rfl Try.underlying3 rfl rfl 0 rfl rfl ?_) | (go_at_call 19; refine (HP2.out _).mono ?_; rintro e w2 ⟨rfl, rfl⟩))
  clear HP HP2
  go_upto_region 25 with (first | ((with_reducible refine at_load rfl ?_); refine wl_load1 hs rfl rfl Try.underlying3 rfl rfl 0 rfl rfl ?_) | ((with_reducible refine (at_index (t := 62)) rfl ?_); refine wl_run rfl (ex_indexA rfl Try.underlying62 size23 rfl rfl k rfl hk) ?_) | ((with_reducible refine (at_load (t := 23)) rfl ?_); refine wl_load1 hs rfl rfl Try.underlying23 rfl rfl 3 rfl (by rw [Nat.zero_add, Nat.mul_one]; exact HV1.out) ?_) | (go_at_call 13; refine (image_any n2 (hs.get 1 rfl)).mono ?_; rintro e w2 ⟨b, rfl, hc⟩; replace hs := hs.call1 hc; clear hc))
  by_cases h40 : m < 40
  · have h40I : (m : Int) < 40 := by omega
    go_upto_region 27 with (first | ((with_reducible refine (at_load (t := 64)) rfl ?_); refine wl_load1 hs rfl rfl Try.underlying64 rfl rfl 4 rfl HV6.out ?_) | ((with_reducible refine (at_load (t := 64)) rfl ?_); refine wl_load1 hs rfl rfl Try.underlying64 rfl rfl 5 rfl HV6.out ?_) | ((with_reducible refine at_buildSlice rfl ?_); refine wl_buildSliceV hs rfl rfl Try.underlying64 info30 (by omega) (by omega) [.slice (some ⟨b, 0, none⟩) n n] rfl rfl (by simp [Value.oneCell']) ?_; clear hs; intro w1 eb hs) | ((with_reducible refine (at_bi .append) rfl ?_); refine wl_append hs rfl rfl Try.underlying64 info30 rfl (by omega) 6 rfl rfl rfl eb 0 rfl [.slice (some ⟨b, 0, none⟩) n n] rfl (one_news2 (hs.getB 0 rfl)) (by simp [Value.oneCell']) (by unfold maxLen; omega) (by omega) ?_; clear hs; intro w1 lv2 hs hnil; clear hnil) | ((with_reducible refine (at_store (t := 64)) rfl ?_); refine wl_store1R hs rfl rfl size64 rfl rfl (own_one2 hs 6 rfl) 5 rfl (by omega) (setC C8 6 lv2) (fun j _ => rfl) ?_; clear hs; intro w1 hs))
    have ht6 : 6 ≤ 6 := Nat.le_refl _
    have HVc := Lib.hid (setC_36 (v := lv2) ht6 HV2.out hk)
    have HV7b : Hid ((rowOf 8 (setC C8 6 lv2))[7]? = some (.slice aoW m cW)) := Lib.hid (by have := HV7.out; rw [rowOf_get (by omega)] at this ⊢; exact this)
    replace HV7 := HV7b
    clear HV7b
    refine wt_enterS (List.nil_sublist _) 17 rfl hs (by kernel_rfl) ?_
    clear hs; intro w1 hC hs
    refine wt_take 0 rfl (by kernel_rfl) (by kernel_rfl) (by kernel_rfl) (fun _ _ _ _ h => h) rfl hC ⟨_, fun w hw => by (go_simp; try with_reducible rfl), fun a1 ha => ?_⟩
    simp only [Act.put, List.setIfInBounds_toArray, List.set_cons_succ, List.set_cons_zero] at ha; subst ha
    refine wt_take 1 rfl (by kernel_rfl) (by kernel_rfl) (by kernel_rfl) (fun _ _ _ _ h => h) rfl hC ⟨_, fun w hw => by (go_simp; try with_reducible rfl), fun a1 ha => ?_⟩
    simp only [Act.put, List.setIfInBounds_toArray, List.set_cons_succ, List.set_cons_zero] at ha; subst ha
    refine wt_take 2 rfl (by kernel_rfl) (by kernel_rfl) (by kernel_rfl) (fun _ _ _ _ h => h) rfl hC ⟨_, fun w hw => by (go_simp; try with_reducible rfl), fun a1 ha => ?_⟩
    simp only [Act.put, List.setIfInBounds_toArray, List.set_cons_succ, List.set_cons_zero] at ha; subst ha
    refine wt_take 3 rfl (by kernel_rfl) (by kernel_rfl) (by kernel_rfl) (fun _ _ _ _ h => h) rfl hC ⟨_, fun w hw => by (go_simp; try with_reducible rfl), fun a1 ha => ?_⟩
    simp only [Act.put, List.setIfInBounds_toArray, List.set_cons_succ, List.set_cons_zero] at ha; subst ha
    refine wt_take 5 rfl (by kernel_rfl) (by kernel_rfl) (by kernel_rfl) (fun _ _ _ _ h => h) rfl hC ⟨_, fun w hw => by (go_simp; try with_reducible rfl), fun a1 ha => ?_⟩
    simp only [Act.put, List.setIfInBounds_toArray, List.set_cons_succ, List.set_cons_zero] at ha; subst ha
    refine wt_take 6 rfl (by kernel_rfl) (by kernel_rfl) (by kernel_rfl) (fun _ _ _ _ h => h) rfl hC ⟨_, fun w hw => by (go_simp; try with_reducible rfl), fun a1 ha => ?_⟩
    simp only [Act.put, List.setIfInBounds_toArray, List.set_cons_succ, List.set_cons_zero] at ha; subst ha
    refine wt_take 7 rfl (by kernel_rfl) (by kernel_rfl) (by kernel_rfl) (fun _ _ _ _ h => h) rfl hC ⟨_, fun w hw => by (go_simp; try with_reducible rfl), fun a1 ha => ?_⟩
    simp only [Act.put, List.setIfInBounds_toArray, List.set_cons_succ, List.set_cons_zero] at ha; subst ha
    refine wt_take 8 rfl (by kernel_rfl) (by kernel_rfl) (by kernel_rfl) (fun _ _ _ _ h => h) rfl hC ⟨_, fun w hw => by (go_simp; try with_reducible rfl), fun a1 ha => ?_⟩
    simp only [Act.put, List.setIfInBounds_toArray, List.set_cons_succ, List.set_cons_zero] at ha; subst ha
    refine wt_take 9 rfl (by kernel_rfl) (by kernel_rfl) (by kernel_rfl) (fun _ _ _ _ h => h) rfl hC ⟨_, fun w hw => ex_indexA rfl Try.underlying63 size27 rfl rfl k rfl hk, fun a1 ha => ?_⟩
    simp only [Act.put, List.setIfInBounds_toArray, List.set_cons_succ, List.set_cons_zero] at ha; subst ha
    refine wt_all [4, 10] (by kernel_rfl) (by simp) ?_
    refine wt_cons ?_ ?_
    ·
      refine wt_run (v := .slice aoW m cW) rfl rfl (ex_load1 rfl Try.underlying64 rfl rfl (by rw [cell_of_row _ _ _ _ _ (0, 0) (by first | exact hs.getB 5 rfl | exact hs.getB 6 rfl | exact hs.getB 7 rfl)]; exact HV7.out)) (by simp only [Act.put, List.setIfInBounds_toArray, List.set_cons_succ, List.set_cons_zero]; rfl) ?_
      refine wt_and (hs.sub (by repeat (first | exact List.Sublist.refl _ | exact List.nil_sublist _ | refine List.Sublist.cons_cons _ ?_ | refine List.Sublist.cons _ ?_))) fun hC => ?_
      refine wt_one 10 (by kernel_rfl) ?_
      refine wt_run (v := .pointer (some ⟨rd, 0, none⟩)) rfl rfl (ex_load1 rfl Try.underlying27 rfl rfl (by rw [Nat.mul_one, cell_of_row _ _ _ _ _ (0, 0) (hs.getB 5 rfl)]; exact HVc.out)) (by simp only [Act.put, List.setIfInBounds_toArray, List.set_cons_succ, List.set_cons_zero]; rfl) ?_
      refine wt_and (hs.sub (by repeat (first | exact List.Sublist.refl _ | exact List.nil_sublist _ | refine List.Sublist.cons_cons _ ?_ | refine List.Sublist.cons _ ?_))) fun hC => ?_
      refine wt_one 11 (by kernel_rfl) ?_
      refine wt_callR (R := fun v => Res.own 40 128 v n (rowOf (n * 128) (u8v f)).toList) hs rfl rfl (by go_simp) (rimage_G n2 (hs.get 4 rfl)) (fun _ => by simp only [Act.put, List.setIfInBounds_toArray, List.set_cons_succ, List.set_cons_zero]; rfl) ?_
      clear hs; intro w1 v hs; obtain ⟨aov, cv, gv, rfl, _, _, haov, _⟩ := hs.own_open 0 rfl; obtain rfl := haov (by omega); clear haov
      refine wt_and (hs.sub (by repeat (first | exact List.Sublist.refl _ | exact List.nil_sublist _ | refine List.Sublist.cons_cons _ ?_ | refine List.Sublist.cons _ ?_))) fun hC => ?_
      refine wt_one 12 (by kernel_rfl) ?_
      refine wt_buildV hs rfl rfl rfl Try.underlying64 info30 (by omega) (by omega) [.slice (some ⟨gv, 0, none⟩) n cv] rfl rfl (by simp [Value.oneCell']) _ rfl (fun _ => by simp only [Act.put, List.setIfInBounds_toArray, List.set_cons_succ, List.set_cons_zero]; rfl) ?_
      clear hs; intro w1 eb2 hs
      refine wt_and (hs.sub (by repeat (first | exact List.Sublist.refl _ | exact List.nil_sublist _ | refine List.Sublist.cons_cons _ ?_ | refine List.Sublist.cons _ ?_))) fun hC => ?_
      refine wt_one 13 (by kernel_rfl) ?_
      refine wt_append hs rfl rfl rfl Try.underlying64 info30 rfl (by omega) 9 rfl rfl rfl eb2 0 rfl [.slice (some ⟨gv, 0, none⟩) n cv] rfl (one_news2 (hs.getB 0 rfl)) (by simp [Value.oneCell']) (by unfold maxLen; omega) (by omega) (fun _ => by simp only [Act.put, List.setIfInBounds_toArray, List.set_cons_succ, List.set_cons_zero]; rfl) ?_
      clear hs; intro w1 wv2 hs hnil; clear hnil
      refine wt_and (hs.sub (by repeat (first | exact List.Sublist.refl _ | exact List.nil_sublist _ | refine List.Sublist.cons_cons _ ?_ | refine List.Sublist.cons _ ?_))) fun hC => ?_
      refine wt_take 14 rfl (by kernel_rfl) (by kernel_rfl) (by kernel_rfl) (fun _ _ _ _ h => h) rfl hC ⟨_, fun w hw => by (go_simp; try with_reducible rfl), fun a1 ha => ?_⟩
      simp only [Act.put, List.setIfInBounds_toArray, List.set_cons_succ, List.set_cons_zero] at ha; subst ha
      refine wt_take 15 rfl (by kernel_rfl) (by kernel_rfl) (by kernel_rfl) (fun _ _ _ _ h => h) rfl hC ⟨_, fun w hw => by (go_simp; try with_reducible rfl), fun a1 ha => ?_⟩
      simp only [Act.put, List.setIfInBounds_toArray, List.set_cons_succ, List.set_cons_zero] at ha; subst ha
      refine wt_one 16 (by kernel_rfl) ?_
      refine wt_store1R hs rfl rfl rfl size64 rfl rfl (own_one2 hs 9 rfl) 7 rfl (by omega) (setC (setC C8 6 lv2) 7 wv2) (fun j _ => rfl) (by simp only [Act.put, List.setIfInBounds_toArray, List.set_cons_succ, List.set_cons_zero]; rfl) ?_
      clear hs; intro w1 hs
      refine wt_and (hs.sub (by repeat (first | exact List.Sublist.refl _ | exact List.nil_sublist _ | refine List.Sublist.cons_cons _ ?_ | refine List.Sublist.cons _ ?_))) fun hC => ?_
      refine wt_done (by kernel_rfl) ?_
      go_wp2_with (first | ((with_reducible refine (at_index (t := 63)) rfl ?_); refine wl_run rfl (ex_indexA rfl Try.underlying63 size27 rfl rfl k rfl hk) ?_) | ((with_reducible refine (at_load (t := 27)) rfl ?_); refine wl_load1 hs rfl rfl Try.underlying27 rfl rfl 7 rfl (by rw [Nat.mul_one]; exact (setC_36 (by omega) (setC_36 (by omega) HV2.out))) ?_) | ((with_reducible refine (at_load (t := 30)) rfl ?_); refine wl_loadC rfl rfl Try.underlying30 rfl rfl (cellAt2 ((Tr.open2 (hs.get 6 rfl)).get 0 rfl) (Tr.refl _ []) rfl) ?_) | (go_at_call 14; refine (same_yes f f n n c _ _ b 0 g 0 _ (by omega) (fun _ => rfl) (fun _ => rfl) (hs.rd0 3 rfl (Nat.le_refl _)) ((Tr.open2 (hs.get 6 rfl)).own_rd 1 rfl) (fun _ _ => rfl)).mono ?_; rintro e w2 ⟨rfl, hc⟩; replace hs := hs.call0 hc; clear hc))
      go_ret
      exact ⟨rfl, .inr ⟨by omega, b, _, _, _, ((hs.erase 0).erase 1).erase 2⟩⟩
    refine wt_cons ?_ ?_
    ·
      refine wt_run (v := .pointer (some ⟨rd, 0, none⟩)) rfl rfl (ex_load1 rfl Try.underlying27 rfl rfl (by rw [Nat.mul_one, cell_of_row _ _ _ _ _ (0, 0) (hs.getB 5 rfl)]; exact HVc.out)) (by simp only [Act.put, List.setIfInBounds_toArray, List.set_cons_succ, List.set_cons_zero]; rfl) ?_
      refine wt_and (hs.sub (by repeat (first | exact List.Sublist.refl _ | exact List.nil_sublist _ | refine List.Sublist.cons_cons _ ?_ | refine List.Sublist.cons _ ?_))) fun hC => ?_
      refine wt_all [4, 11] (by kernel_rfl) (by simp) ?_
      refine wt_cons ?_ ?_
      ·
        refine wt_run (v := .slice aoW m cW) rfl rfl (ex_load1 rfl Try.underlying64 rfl rfl (by rw [cell_of_row _ _ _ _ _ (0, 0) (by first | exact hs.getB 5 rfl | exact hs.getB 6 rfl | exact hs.getB 7 rfl)]; exact HV7.out)) (by simp only [Act.put, List.setIfInBounds_toArray, List.set_cons_succ, List.set_cons_zero]; rfl) ?_
        refine wt_and (hs.sub (by repeat (first | exact List.Sublist.refl _ | exact List.nil_sublist _ | refine List.Sublist.cons_cons _ ?_ | refine List.Sublist.cons _ ?_))) fun hC => ?_
        refine wt_one 11 (by kernel_rfl) ?_
        refine wt_callR (R := fun v => Res.own 40 128 v n (rowOf (n * 128) (u8v f)).toList) hs rfl rfl (by go_simp) (rimage_G n2 (hs.get 4 rfl)) (fun _ => by simp only [Act.put, List.setIfInBounds_toArray, List.set_cons_succ, List.set_cons_zero]; rfl) ?_
        clear hs; intro w1 v hs; obtain ⟨aov, cv, gv, rfl, _, _, haov, _⟩ := hs.own_open 0 rfl; obtain rfl := haov (by omega); clear haov
        refine wt_and (hs.sub (by repeat (first | exact List.Sublist.refl _ | exact List.nil_sublist _ | refine List.Sublist.cons_cons _ ?_ | refine List.Sublist.cons _ ?_))) fun hC => ?_
        refine wt_one 12 (by kernel_rfl) ?_
        refine wt_buildV hs rfl rfl rfl Try.underlying64 info30 (by omega) (by omega) [.slice (some ⟨gv, 0, none⟩) n cv] rfl rfl (by simp [Value.oneCell']) _ rfl (fun _ => by simp only [Act.put, List.setIfInBounds_toArray, List.set_cons_succ, List.set_cons_zero]; rfl) ?_
        clear hs; intro w1 eb2 hs
        refine wt_and (hs.sub (by repeat (first | exact List.Sublist.refl _ | exact List.nil_sublist _ | refine List.Sublist.cons_cons _ ?_ | refine List.Sublist.cons _ ?_))) fun hC => ?_
        refine wt_one 13 (by kernel_rfl) ?_
        refine wt_append hs rfl rfl rfl Try.underlying64 info30 rfl (by omega) 9 rfl rfl rfl eb2 0 rfl [.slice (some ⟨gv, 0, none⟩) n cv] rfl (one_news2 (hs.getB 0 rfl)) (by simp [Value.oneCell']) (by unfold maxLen; omega) (by omega) (fun _ => by simp only [Act.put, List.setIfInBounds_toArray, List.set_cons_succ, List.set_cons_zero]; rfl) ?_
        clear hs; intro w1 wv2 hs hnil; clear hnil
        refine wt_and (hs.sub (by repeat (first | exact List.Sublist.refl _ | exact List.nil_sublist _ | refine List.Sublist.cons_cons _ ?_ | refine List.Sublist.cons _ ?_))) fun hC => ?_
        refine wt_take 14 rfl (by kernel_rfl) (by kernel_rfl) (by kernel_rfl) (fun _ _ _ _ h => h) rfl hC ⟨_, fun w hw => by (go_simp; try with_reducible rfl), fun a1 ha => ?_⟩
        simp only [Act.put, List.setIfInBounds_toArray, List.set_cons_succ, List.set_cons_zero] at ha; subst ha
        refine wt_take 15 rfl (by kernel_rfl) (by kernel_rfl) (by kernel_rfl) (fun _ _ _ _ h => h) rfl hC ⟨_, fun w hw => by (go_simp; try with_reducible rfl), fun a1 ha => ?_⟩
        simp only [Act.put, List.setIfInBounds_toArray, List.set_cons_succ, List.set_cons_zero] at ha; subst ha
        refine wt_one 16 (by kernel_rfl) ?_
        refine wt_store1R hs rfl rfl rfl size64 rfl rfl (own_one2 hs 9 rfl) 7 rfl (by omega) (setC (setC C8 6 lv2) 7 wv2) (fun j _ => rfl) (by simp only [Act.put, List.setIfInBounds_toArray, List.set_cons_succ, List.set_cons_zero]; rfl) ?_
        clear hs; intro w1 hs
        refine wt_and (hs.sub (by repeat (first | exact List.Sublist.refl _ | exact List.nil_sublist _ | refine List.Sublist.cons_cons _ ?_ | refine List.Sublist.cons _ ?_))) fun hC => ?_
        refine wt_done (by kernel_rfl) ?_
        go_wp2_with (first | ((with_reducible refine (at_index (t := 63)) rfl ?_); refine wl_run rfl (ex_indexA rfl Try.underlying63 size27 rfl rfl k rfl hk) ?_) | ((with_reducible refine (at_load (t := 27)) rfl ?_); refine wl_load1 hs rfl rfl Try.underlying27 rfl rfl 7 rfl (by rw [Nat.mul_one]; exact (setC_36 (by omega) (setC_36 (by omega) HV2.out))) ?_) | ((with_reducible refine (at_load (t := 30)) rfl ?_); refine wl_loadC rfl rfl Try.underlying30 rfl rfl (cellAt2 ((Tr.open2 (hs.get 6 rfl)).get 0 rfl) (Tr.refl _ []) rfl) ?_) | (go_at_call 14; refine (same_yes f f n n c _ _ b 0 g 0 _ (by omega) (fun _ => rfl) (fun _ => rfl) (hs.rd0 3 rfl (Nat.le_refl _)) ((Tr.open2 (hs.get 6 rfl)).own_rd 1 rfl) (fun _ _ => rfl)).mono ?_; rintro e w2 ⟨rfl, hc⟩; replace hs := hs.call0 hc; clear hc))
        go_ret
        exact ⟨rfl, .inr ⟨by omega, b, _, _, _, ((hs.erase 0).erase 1).erase 2⟩⟩
      refine wt_cons ?_ ?_
      ·
        refine wt_callR (R := fun v => Res.own 40 128 v n (rowOf (n * 128) (u8v f)).toList) hs rfl rfl (by go_simp) (rimage_G n2 (hs.get 4 rfl)) (fun _ => by simp only [Act.put, List.setIfInBounds_toArray, List.set_cons_succ, List.set_cons_zero]; rfl) ?_
        clear hs; intro w1 v hs; obtain ⟨aov, cv, gv, rfl, _, _, haov, _⟩ := hs.own_open 0 rfl; obtain rfl := haov (by omega); clear haov
        refine wt_and (hs.sub (by repeat (first | exact List.Sublist.refl _ | exact List.nil_sublist _ | refine List.Sublist.cons_cons _ ?_ | refine List.Sublist.cons _ ?_))) fun hC => ?_
        refine wt_all [4, 12] (by kernel_rfl) (by simp) ?_
        refine wt_cons ?_ ?_
        ·
          refine wt_run (v := .slice aoW m cW) rfl rfl (ex_load1 rfl Try.underlying64 rfl rfl (by rw [cell_of_row _ _ _ _ _ (0, 0) (by first | exact hs.getB 5 rfl | exact hs.getB 6 rfl | exact hs.getB 7 rfl)]; exact HV7.out)) (by simp only [Act.put, List.setIfInBounds_toArray, List.set_cons_succ, List.set_cons_zero]; rfl) ?_
          refine wt_and (hs.sub (by repeat (first | exact List.Sublist.refl _ | exact List.nil_sublist _ | refine List.Sublist.cons_cons _ ?_ | refine List.Sublist.cons _ ?_))) fun hC => ?_
          refine wt_one 12 (by kernel_rfl) ?_
          refine wt_buildV hs rfl rfl rfl Try.underlying64 info30 (by omega) (by omega) [.slice (some ⟨gv, 0, none⟩) n cv] rfl rfl (by simp [Value.oneCell']) _ rfl (fun _ => by simp only [Act.put, List.setIfInBounds_toArray, List.set_cons_succ, List.set_cons_zero]; rfl) ?_
          clear hs; intro w1 eb2 hs
          refine wt_and (hs.sub (by repeat (first | exact List.Sublist.refl _ | exact List.nil_sublist _ | refine List.Sublist.cons_cons _ ?_ | refine List.Sublist.cons _ ?_))) fun hC => ?_
          refine wt_one 13 (by kernel_rfl) ?_
          refine wt_append hs rfl rfl rfl Try.underlying64 info30 rfl (by omega) 9 rfl rfl rfl eb2 0 rfl [.slice (some ⟨gv, 0, none⟩) n cv] rfl (one_news2 (hs.getB 0 rfl)) (by simp [Value.oneCell']) (by unfold maxLen; omega) (by omega) (fun _ => by simp only [Act.put, List.setIfInBounds_toArray, List.set_cons_succ, List.set_cons_zero]; rfl) ?_
          clear hs; intro w1 wv2 hs hnil; clear hnil
          refine wt_and (hs.sub (by repeat (first | exact List.Sublist.refl _ | exact List.nil_sublist _ | refine List.Sublist.cons_cons _ ?_ | refine List.Sublist.cons _ ?_))) fun hC => ?_
          refine wt_take 14 rfl (by kernel_rfl) (by kernel_rfl) (by kernel_rfl) (fun _ _ _ _ h => h) rfl hC ⟨_, fun w hw => by (go_simp; try with_reducible rfl), fun a1 ha => ?_⟩
          simp only [Act.put, List.setIfInBounds_toArray, List.set_cons_succ, List.set_cons_zero] at ha; subst ha
          refine wt_take 15 rfl (by kernel_rfl) (by kernel_rfl) (by kernel_rfl) (fun _ _ _ _ h => h) rfl hC ⟨_, fun w hw => by (go_simp; try with_reducible rfl), fun a1 ha => ?_⟩
          simp only [Act.put, List.setIfInBounds_toArray, List.set_cons_succ, List.set_cons_zero] at ha; subst ha
          refine wt_one 16 (by kernel_rfl) ?_
          refine wt_store1R hs rfl rfl rfl size64 rfl rfl (own_one2 hs 9 rfl) 7 rfl (by omega) (setC (setC C8 6 lv2) 7 wv2) (fun j _ => rfl) (by simp only [Act.put, List.setIfInBounds_toArray, List.set_cons_succ, List.set_cons_zero]; rfl) ?_
          clear hs; intro w1 hs
          refine wt_and (hs.sub (by repeat (first | exact List.Sublist.refl _ | exact List.nil_sublist _ | refine List.Sublist.cons_cons _ ?_ | refine List.Sublist.cons _ ?_))) fun hC => ?_
          refine wt_done (by kernel_rfl) ?_
          go_wp2_with (first | ((with_reducible refine (at_index (t := 63)) rfl ?_); refine wl_run rfl (ex_indexA rfl Try.underlying63 size27 rfl rfl k rfl hk) ?_) | ((with_reducible refine (at_load (t := 27)) rfl ?_); refine wl_load1 hs rfl rfl Try.underlying27 rfl rfl 7 rfl (by rw [Nat.mul_one]; exact (setC_36 (by omega) (setC_36 (by omega) HV2.out))) ?_) | ((with_reducible refine (at_load (t := 30)) rfl ?_); refine wl_loadC rfl rfl Try.underlying30 rfl rfl (cellAt2 ((Tr.open2 (hs.get 6 rfl)).get 0 rfl) (Tr.refl _ []) rfl) ?_) | (go_at_call 14; refine (same_yes f f n n c _ _ b 0 g 0 _ (by omega) (fun _ => rfl) (fun _ => rfl) (hs.rd0 3 rfl (Nat.le_refl _)) ((Tr.open2 (hs.get 6 rfl)).own_rd 1 rfl) (fun _ _ => rfl)).mono ?_; rintro e w2 ⟨rfl, hc⟩; replace hs := hs.call0 hc; clear hc))
          go_ret
          exact ⟨rfl, .inr ⟨by omega, b, _, _, _, ((hs.erase 0).erase 1).erase 2⟩⟩
        refine wt_cons ?_ ?_
        ·
          refine wt_buildV hs rfl rfl rfl Try.underlying64 info30 (by omega) (by omega) [.slice (some ⟨gv, 0, none⟩) n cv] rfl rfl (by simp [Value.oneCell']) _ rfl (fun _ => by simp only [Act.put, List.setIfInBounds_toArray, List.set_cons_succ, List.set_cons_zero]; rfl) ?_
          clear hs; intro w1 eb2 hs
          refine wt_and (hs.sub (by repeat (first | exact List.Sublist.refl _ | exact List.nil_sublist _ | refine List.Sublist.cons_cons _ ?_ | refine List.Sublist.cons _ ?_))) fun hC => ?_
          refine wt_one 4 (by kernel_rfl) ?_
          refine wt_run (v := .slice aoW m cW) rfl rfl (ex_load1 rfl Try.underlying64 rfl rfl (by rw [cell_of_row _ _ _ _ _ (0, 0) (by first | exact hs.getB 5 rfl | exact hs.getB 6 rfl | exact hs.getB 7 rfl)]; exact HV7.out)) (by simp only [Act.put, List.setIfInBounds_toArray, List.set_cons_succ, List.set_cons_zero]; rfl) ?_
          refine wt_and (hs.sub (by repeat (first | exact List.Sublist.refl _ | exact List.nil_sublist _ | refine List.Sublist.cons_cons _ ?_ | refine List.Sublist.cons _ ?_))) fun hC => ?_
          refine wt_one 13 (by kernel_rfl) ?_
          refine wt_append hs rfl rfl rfl Try.underlying64 info30 rfl (by omega) 9 rfl rfl rfl eb2 0 rfl [.slice (some ⟨gv, 0, none⟩) n cv] rfl (one_news2 (hs.getB 0 rfl)) (by simp [Value.oneCell']) (by unfold maxLen; omega) (by omega) (fun _ => by simp only [Act.put, List.setIfInBounds_toArray, List.set_cons_succ, List.set_cons_zero]; rfl) ?_
          clear hs; intro w1 wv2 hs hnil; clear hnil
          refine wt_and (hs.sub (by repeat (first | exact List.Sublist.refl _ | exact List.nil_sublist _ | refine List.Sublist.cons_cons _ ?_ | refine List.Sublist.cons _ ?_))) fun hC => ?_
          refine wt_take 14 rfl (by kernel_rfl) (by kernel_rfl) (by kernel_rfl) (fun _ _ _ _ h => h) rfl hC ⟨_, fun w hw => by (go_simp; try with_reducible rfl), fun a1 ha => ?_⟩
          simp only [Act.put, List.setIfInBounds_toArray, List.set_cons_succ, List.set_cons_zero] at ha; subst ha
          refine wt_take 15 rfl (by kernel_rfl) (by kernel_rfl) (by kernel_rfl) (fun _ _ _ _ h => h) rfl hC ⟨_, fun w hw => by (go_simp; try with_reducible rfl), fun a1 ha => ?_⟩
          simp only [Act.put, List.setIfInBounds_toArray, List.set_cons_succ, List.set_cons_zero] at ha; subst ha
          refine wt_one 16 (by kernel_rfl) ?_
          refine wt_store1R hs rfl rfl rfl size64 rfl rfl (own_one2 hs 9 rfl) 7 rfl (by omega) (setC (setC C8 6 lv2) 7 wv2) (fun j _ => rfl) (by simp only [Act.put, List.setIfInBounds_toArray, List.set_cons_succ, List.set_cons_zero]; rfl) ?_
          clear hs; intro w1 hs
          refine wt_and (hs.sub (by repeat (first | exact List.Sublist.refl _ | exact List.nil_sublist _ | refine List.Sublist.cons_cons _ ?_ | refine List.Sublist.cons _ ?_))) fun hC => ?_
          refine wt_done (by kernel_rfl) ?_
          go_wp2_with (first | ((with_reducible refine (at_index (t := 63)) rfl ?_); refine wl_run rfl (ex_indexA rfl Try.underlying63 size27 rfl rfl k rfl hk) ?_) | ((with_reducible refine (at_load (t := 27)) rfl ?_); refine wl_load1 hs rfl rfl Try.underlying27 rfl rfl 7 rfl (by rw [Nat.mul_one]; exact (setC_36 (by omega) (setC_36 (by omega) HV2.out))) ?_) | ((with_reducible refine (at_load (t := 30)) rfl ?_); refine wl_loadC rfl rfl Try.underlying30 rfl rfl (cellAt2 ((Tr.open2 (hs.get 6 rfl)).get 0 rfl) (Tr.refl _ []) rfl) ?_) | (go_at_call 14; refine (same_yes f f n n c _ _ b 0 g 0 _ (by omega) (fun _ => rfl) (fun _ => rfl) (hs.rd0 3 rfl (Nat.le_refl _)) ((Tr.open2 (hs.get 6 rfl)).own_rd 1 rfl) (fun _ _ => rfl)).mono ?_; rintro e w2 ⟨rfl, hc⟩; replace hs := hs.call0 hc; clear hc))
          go_ret
          exact ⟨rfl, .inr ⟨by omega, b, _, _, _, ((hs.erase 0).erase 1).erase 2⟩⟩
        exact wt_nil
      exact wt_nil
    exact wt_nil
  · have h40I : ¬ (m : Int) < 40 := by omega
    have q0 : decide ((m : Int) < 40) = false := decide_eq_false h40I
    go_wp2_with (first | ((with_reducible refine (at_load (t := 64)) rfl ?_); refine wl_load1 hs rfl rfl Try.underlying64 rfl rfl 4 rfl HV6.out ?_) | ((with_reducible refine (at_index (t := 63)) rfl ?_); refine wl_run rfl (ex_indexA rfl Try.underlying63 size27 rfl rfl k rfl hk) ?_) | ((with_reducible refine (at_load (t := 27)) rfl ?_); refine wl_load1 hs rfl rfl Try.underlying27 rfl rfl 4 rfl (by rw [Nat.mul_one]; exact HV2.out) ?_) | ((with_reducible refine (at_load (t := 30)) rfl ?_); refine wl_loadC rfl rfl Try.underlying30 rfl rfl (cellAt2 ((Tr.open2 (hs.get 3 rfl)).get 0 rfl) (Tr.refl _ []) rfl) ?_) | (go_at_call 14; refine (same_yes f f n n c _ _ b 0 g 0 _ (by omega) (fun _ => rfl) (fun _ => rfl) (hs.rd0 0 rfl (Nat.le_refl _)) ((Tr.open2 (hs.get 3 rfl)).own_rd 1 rfl) (fun _ _ => rfl)).mono ?_; rintro e w2 ⟨rfl, hc⟩; replace hs := hs.call0 hc; clear hc))
    go_ret
    exact ⟨rfl, .inl ((hs.erase 0).erase 0)⟩
end Go.Proofs.Ytcflolcaiedmfaa
