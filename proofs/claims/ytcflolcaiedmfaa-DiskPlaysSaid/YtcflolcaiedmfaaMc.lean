/- What the desk tells; what stays; how it begins. -/
import Derived.Test.YtcflolcaiedmfaaMb
namespace Go.Proofs.Ytcflolcaiedmfaa
set_option linter.unusedVariables false
set_option linter.unusedSimpArgs false
open Go Go.Sp Go.RowKit Go.BigFrame

theorem own_cell2 {w0 w : World} {S : List Nat} {L : List Res} {e : TypeId} (hs : Tr w0 S w L) (i : Nat) {size g n c : Nat} {xs : List Value} (hi : L[i]? = some (Res.own e size (.slice (some ⟨g, 0, none⟩) n c) n xs)) {j : Nat} {u : Value} (hj : xs[j]? = some u) : w.cell? ⟨g, j, none⟩ = some u := by
  have h := hs.getO i hi
  rw [h.cellAt j (by rw [← h.1]; exact (List.getElem?_eq_some_iff.1 hj).1)]
  exact hj
set_option maxRecDepth 100000 in
set_option maxHeartbeats 1000000 in
theorem tells_any (xb m : Nat) (lv wv : Value) (st : Nat → Ds) (im : Nat → Im) (B : Int) (w0 w : World) (hst : ∀ j, j < 3 → (st j).Ok B) (hs : Tr w0 [] w (deskL xb st m lv wv im)) :
    Calls Try.prog 32 #[.pointer (some ⟨xb, 0, none⟩)] w fun e w' => e = .returned (.bool true) ∧ Tr w0 [] w' (deskL xb st m lv wv im) := by
  go_enter Try.func32, Try.ntmps32
  go_wp2_with fail
  go_loopw [3] (fun i wr => ∃ k : Nat, k ≤ 3 ∧ i = .int .i64 k ∧ Tr w0 [] wr (deskL xb st m lv wv im)) (fun i _ => 3 - (intOf i).toNat)
  case atStart => exact ⟨0, by omega, rfl, hs⟩
  case round =>
    clear hs
    obtain ⟨k, hk, rfl, hs⟩ := hrel
    by_cases hlt : k < 3
    · have hltI : (k : Int) < 3 := by omega
      obtain ⟨R', hs1, hback⟩ := Tr.pull (B := Res.blk xb (rowOf 8 (deskC st lv wv)) 66 :: Res.own 30 1 lv m (rowOf m (imL im)).toList :: Res.own 30 1 wv m (rowOf m (imW im)).toList :: rows m (imF im)) (F := deskF st) hs hlt
      clear hs
      have hs : Tr w0 [] wr ((st k).I :: (st k).R :: Res.blk xb (rowOf 8 (deskC st lv wv)) 66 :: Res.own 30 1 lv m (rowOf m (imL im)).toList :: Res.own 30 1 wv m (rowOf m (imW im)).toList :: (rows m (imF im) ++ R')) := hs1
      clear hs1
      have HB := Lib.hid hback
      clear hback
      have HV1 := Lib.hid (deskC_1 st lv wv hlt)
      have HV2 := Lib.hid (deskC_2 st lv wv hlt)
      have hL : Like (st k).n (st k).wr (st k).off (st k).aI (st k).aR (st k).lI (st k).lR B := hst k hlt
      have n2 := hL.1.2
      have n1 := hL.1.1
      clear hL
      have HE : Hid (deskF st k = [(st k).I, (st k).R]) := Lib.hid rfl
      generalize st k = y at hs HV1 HV2 HE n1 n2
      obtain ⟨d, s, g, c, rd, n, f, wr1, off, aI, aR, lI, lR⟩ := y
      dsimp only [Ds.I, Ds.R] at hs HV1 HV2 n1 n2 HE
      go_upto_region 7 with (first | ((with_reducible refine (at_index (t := 62)) rfl ?_); refine wl_run rfl (ex_indexA rfl Try.underlying62 size23 rfl rfl k rfl hlt) ?_) | ((with_reducible refine (at_load (t := 23)) rfl ?_); refine wl_load1 hs rfl rfl Try.underlying23 rfl rfl 2 rfl (by rw [Nat.zero_add, Nat.mul_one]; exact HV1.out) ?_) | (go_at_call 16; refine (len_any (hs.get 0 rfl)).mono ?_; rintro e w2 ⟨rfl, hc⟩; replace hs := hs.call0 hc; clear hc) | (go_at_call 17; refine (writes_any (hs.get 0 rfl)).mono ?_; rintro e w2 ⟨rfl, hc⟩; replace hs := hs.call0 hc; clear hc) | (go_at_call 18; refine (down_any (hs.get 0 rfl)).mono ?_; rintro e w2 ⟨rfl, hc⟩; replace hs := hs.call0 hc; clear hc))
      go_wp2_with (first | ((with_reducible refine (at_index (t := 63)) rfl ?_); refine wl_run rfl (ex_indexA rfl Try.underlying63 size27 rfl rfl k rfl hlt) ?_) | ((with_reducible refine (at_load (t := 27)) rfl ?_); refine wl_load1 hs rfl rfl Try.underlying27 rfl rfl 2 rfl (by rw [Nat.mul_one]; exact HV2.out) ?_) | (go_at_call 40; refine (rlen_any (hs.get 1 rfl)).mono ?_; rintro e w2 ⟨rfl, hc⟩; replace hs := hs.call0 hc; clear hc) | ((with_reducible refine (at_load (t := 3)) rfl ?_); refine wl_loadC rfl rfl Try.underlying3 rfl rfl (cellAt2 ((Tr.open2 (hs.get 1 rfl)).get 0 rfl) (Tr.refl _ []) rfl) ?_) | ((with_reducible refine (at_load (t := 4)) rfl ?_); refine wl_loadC rfl rfl Try.underlying4 rfl rfl (cellAt2 ((Tr.open2 (hs.get 1 rfl)).get 0 rfl) (Tr.refl _ []) rfl) ?_))
      go_roundw
      case rel => exact ⟨k + 1, by omega, by go_num, HB.out _ (Res.blk xb (rowOf 8 (deskC st lv wv)) 66 :: Res.own 30 1 lv m (rowOf m (imL im)).toList :: Res.own 30 1 wv m (rowOf m (imW im)).toList :: rows m (imF im)) (deskF st) (fun _ _ _ => rfl) (by rw [HE.out]; exact hs)⟩
      case measure => simp [intOf]; omega
    · obtain rfl : k = 3 := by omega
      go_wp2
      go_ret
      exact ⟨rfl, hs⟩
set_option maxRecDepth 100000 in
set_option maxHeartbeats 1000000 in
theorem still_any (xb m : Nat) (lv wv : Value) (st : Nat → Ds) (im : Nat → Im) (B : Int) (w0 w : World) (hm : m ≤ 40) (hs : Tr w0 [] w (deskL xb st m lv wv im)) :
    Calls Try.prog 33 #[.pointer (some ⟨xb, 0, none⟩)] w fun e w' => e = .returned (.bool true) ∧ Tr w0 [] w' (deskL xb st m lv wv im) := by
  unfold deskL at hs
  obtain ⟨aoL, cL, gL, rfl, _, _, haL, _⟩ := hs.own_open 1 rfl
  obtain ⟨aoW, cW, gW, rfl, _, _, haW, _⟩ := hs.own_open 2 rfl
  have HAL := Lib.hid haL
  have HAW := Lib.hid haW
  clear haL haW
  obtain ⟨lv, hlv⟩ : ∃ lv, lv = Value.slice aoL m cL := ⟨_, rfl⟩
  obtain ⟨wv, hwv⟩ : ∃ wv, wv = Value.slice aoW m cW := ⟨_, rfl⟩
  have HLV := Lib.hid hlv
  have HWV := Lib.hid hwv
  rw [← hlv, ← hwv] at hs
  rw [← hlv, ← hwv]
  have HV6 : Hid ((rowOf 8 (deskC st lv wv))[6]? = some (.slice aoL m cL)) := Lib.hid (by rw [deskC_6]; exact congrArg some hlv)
  have HV7 : Hid ((rowOf 8 (deskC st lv wv))[7]? = some (.slice aoW m cW)) := Lib.hid (by rw [deskC_7]; exact congrArg some hwv)
  clear hlv hwv
  go_enter Try.func33, Try.ntmps33
  go_wp2_with fail
  go_loopw [3] (fun i wr => ∃ k : Nat, k ≤ m ∧ i = .int .i64 k ∧ Tr w0 [] wr (deskL xb st m lv wv im)) (fun i _ => m - (intOf i).toNat)
  case atStart => exact ⟨0, Nat.zero_le _, rfl, hs⟩
  case round =>
    clear hs
    obtain ⟨k, hk, rfl, hs⟩ := hrel
    by_cases hlt : k < m
    · have hltI : (k : Int) < m := by omega
      have g1 := HAL.out (by omega)
      have g2 := HAW.out (by omega)
      subst g1 g2
      obtain ⟨R', hs1, hback⟩ := Tr.pull (B := Res.blk xb (rowOf 8 (deskC st lv wv)) 66 :: Res.own 30 1 lv m (rowOf m (imL im)).toList :: Res.own 30 1 wv m (rowOf m (imW im)).toList :: rows 3 (deskF st)) (F := imF im) (hs.perm (List.Perm.append_left [Res.blk xb (rowOf 8 (deskC st lv wv)) 66, Res.own 30 1 lv m (rowOf m (imL im)).toList, Res.own 30 1 wv m (rowOf m (imW im)).toList] List.perm_append_comm)) hlt
      clear hs
      have hs : Tr w0 [] wr (Res.blk (im k).b (rowOf ((im k).n * 128) (u8v (im k).f)) 40 :: Res.own 40 128 (im k).v (im k).n (rowOf ((im k).n * 128) (u8v (im k).f)).toList :: Res.blk xb (rowOf 8 (deskC st lv wv)) 66 :: Res.own 30 1 (.slice (some ⟨gL, 0, none⟩) m cL) m (rowOf m (imL im)).toList :: Res.own 30 1 (.slice (some ⟨gW, 0, none⟩) m cW) m (rowOf m (imW im)).toList :: (rows 3 (deskF st) ++ R')) := by rw [← HLV.out, ← HWV.out]; exact hs1
      clear hs1
      have HB := Lib.hid hback
      clear hback
      obtain ⟨ao, cv, gv, hv, _, hnx, hao, _⟩ := hs.own_open 1 rfl
      have HLk := Lib.hid (row_at (imL im) hlt)
      have HWk := Lib.hid (row_at (imW im) hlt)
      rw [show imL im k = .slice (some ⟨(im k).b, 0, none⟩) (im k).n (im k).n from rfl] at HLk
      rw [show imW im k = (im k).v from rfl] at HWk
      have HE : Hid (imF im k = [Res.blk (im k).b (rowOf ((im k).n * 128) (u8v (im k).f)) 40, Res.own 40 128 (im k).v (im k).n (rowOf ((im k).n * 128) (u8v (im k).f)).toList]) := Lib.hid rfl
      rw [hv] at hs HWk HE
      have HNX : (im k).n ≤ 9223372036854775807 := by
        obtain ⟨_, _, _, hx, h1, h2, _⟩ := hs.own_open 1 rfl
        injection hx with _ _ h3
        unfold maxLen at h2
        omega
      clear hv hnx
      replace hao := Lib.hid hao
      generalize (im k).b = b at *
      generalize (im k).n = n at *
      generalize (im k).f = f at *
      have HSM : Hid (∀ w, Rd w b 0 (n * 128) (u8v f) → Rd w gv 0 (n * 128) (u8v f) → Calls Try.prog 14 #[.slice (some ⟨b, 0, none⟩) n n, .slice ao n cv] w fun e w' => e = .returned (.bool true) ∧ Tr w [] w' []) := Lib.hid fun w h1 h2 => same_yes f f n n cv _ _ b 0 gv 0 w HNX (fun _ => rfl) hao.out h1 h2 (fun _ _ => rfl)
      go_upto_region 4 with (first | ((with_reducible refine (at_load (t := 64)) rfl ?_); refine wl_load1 hs rfl rfl Try.underlying64 rfl rfl 2 rfl HV6.out ?_))
      refine wt_enter 16 rfl hs (by kernel_rfl) ?_
      clear hs; intro w1 hs; have hC := hs
      refine wt_take 0 rfl (by kernel_rfl) (by kernel_rfl) (by kernel_rfl) (fun _ _ _ _ h => h) rfl hC ⟨_, fun w hw => by (go_simp; try with_reducible rfl), fun a1 ha => ?_⟩
      simp only [Act.put, List.setIfInBounds_toArray, List.set_cons_succ, List.set_cons_zero] at ha; subst ha
      refine wt_take 1 rfl (by kernel_rfl) (by kernel_rfl) (by kernel_rfl) (fun _ _ _ _ h => h) rfl hC ⟨_, fun w hw => by (go_simp; try with_reducible rfl), fun a1 ha => ?_⟩
      simp only [Act.put, List.setIfInBounds_toArray, List.set_cons_succ, List.set_cons_zero] at ha; subst ha
      refine wt_take 2 rfl (by kernel_rfl) (by kernel_rfl) (by kernel_rfl) (fun _ _ _ _ h => h) rfl hC ⟨_, fun w hw => by (go_simp; try with_reducible rfl), fun a1 ha => ?_⟩
      simp only [Act.put, List.setIfInBounds_toArray, List.set_cons_succ, List.set_cons_zero] at ha; subst ha
      refine wt_take 3 rfl (by kernel_rfl) (by kernel_rfl) (by kernel_rfl) (fun _ _ _ _ h => h) rfl hC ⟨_, fun w hw => ex_load1 rfl Try.underlying64 rfl rfl (by rw [cell_of_row w _ _ _ _ (0, 0) (hw.getB 2 rfl)]; exact HV6.out), fun a1 ha => ?_⟩
      simp only [Act.put, List.setIfInBounds_toArray, List.set_cons_succ, List.set_cons_zero] at ha; subst ha
      refine wt_take 4 rfl (by kernel_rfl) (by kernel_rfl) (by kernel_rfl) (fun _ _ _ _ h => h) rfl hC ⟨_, fun w hw => by (go_simp; try with_reducible rfl), fun a1 ha => ?_⟩
      simp only [Act.put, List.setIfInBounds_toArray, List.set_cons_succ, List.set_cons_zero] at ha; subst ha
      refine wt_take 5 rfl (by kernel_rfl) (by kernel_rfl) (by kernel_rfl) (fun _ _ _ _ h => h) rfl hC ⟨_, fun w hw => ex_indexS rfl Try.underlying64 size30 rfl rfl k rfl hlt rfl, fun a1 ha => ?_⟩
      simp only [Act.put, List.setIfInBounds_toArray, List.set_cons_succ, List.set_cons_zero] at ha; subst ha
      refine wt_take 6 rfl (by kernel_rfl) (by kernel_rfl) (by kernel_rfl) (fun _ _ _ _ h => h) rfl hC ⟨_, fun w hw => ex_load1 rfl Try.underlying30 rfl rfl (by rw [Nat.zero_add, Nat.mul_one]; exact own_cell2 hw 3 rfl HLk.out), fun a1 ha => ?_⟩
      simp only [Act.put, List.setIfInBounds_toArray, List.set_cons_succ, List.set_cons_zero] at ha; subst ha
      refine wt_take 7 rfl (by kernel_rfl) (by kernel_rfl) (by kernel_rfl) (fun _ _ _ _ h => h) rfl hC ⟨_, fun w hw => by (go_simp; try with_reducible rfl), fun a1 ha => ?_⟩
      simp only [Act.put, List.setIfInBounds_toArray, List.set_cons_succ, List.set_cons_zero] at ha; subst ha
      refine wt_take 8 rfl (by kernel_rfl) (by kernel_rfl) (by kernel_rfl) (fun _ _ _ _ h => h) rfl hC ⟨_, fun w hw => by (go_simp; try with_reducible rfl), fun a1 ha => ?_⟩
      simp only [Act.put, List.setIfInBounds_toArray, List.set_cons_succ, List.set_cons_zero] at ha; subst ha
      refine wt_take 9 rfl (by kernel_rfl) (by kernel_rfl) (by kernel_rfl) (fun _ _ _ _ h => h) rfl hC ⟨_, fun w hw => by (go_simp; try with_reducible rfl), fun a1 ha => ?_⟩
      simp only [Act.put, List.setIfInBounds_toArray, List.set_cons_succ, List.set_cons_zero] at ha; subst ha
      refine wt_take 10 rfl (by kernel_rfl) (by kernel_rfl) (by kernel_rfl) (fun _ _ _ _ h => h) rfl hC ⟨_, fun w hw => ex_load1 rfl Try.underlying64 rfl rfl (by rw [cell_of_row w _ _ _ _ (0, 0) (hw.getB 2 rfl)]; exact HV7.out), fun a1 ha => ?_⟩
      simp only [Act.put, List.setIfInBounds_toArray, List.set_cons_succ, List.set_cons_zero] at ha; subst ha
      refine wt_take 11 rfl (by kernel_rfl) (by kernel_rfl) (by kernel_rfl) (fun _ _ _ _ h => h) rfl hC ⟨_, fun w hw => by (go_simp; try with_reducible rfl), fun a1 ha => ?_⟩
      simp only [Act.put, List.setIfInBounds_toArray, List.set_cons_succ, List.set_cons_zero] at ha; subst ha
      refine wt_take 12 rfl (by kernel_rfl) (by kernel_rfl) (by kernel_rfl) (fun _ _ _ _ h => h) rfl hC ⟨_, fun w hw => ex_indexS rfl Try.underlying64 size30 rfl rfl k rfl hlt rfl, fun a1 ha => ?_⟩
      simp only [Act.put, List.setIfInBounds_toArray, List.set_cons_succ, List.set_cons_zero] at ha; subst ha
      refine wt_take 13 rfl (by kernel_rfl) (by kernel_rfl) (by kernel_rfl) (fun _ _ _ _ h => h) rfl hC ⟨_, fun w hw => ex_load1 rfl Try.underlying30 rfl rfl (by rw [Nat.zero_add, Nat.mul_one]; exact own_cell2 hw 4 rfl HWk.out), fun a1 ha => ?_⟩
      simp only [Act.put, List.setIfInBounds_toArray, List.set_cons_succ, List.set_cons_zero] at ha; subst ha
      refine wt_one 14 (by kernel_rfl) ?_
      refine wt_call0 hs rfl rfl (by go_simp) (HSM.out _ (hs.rd0 0 rfl (Nat.le_refl _)) (hs.own_rdx 1 rfl hao.out)) (by simp only [Act.put, List.setIfInBounds_toArray, List.set_cons_succ, List.set_cons_zero]; rfl) ?_
      clear hs; intro w1 hs
      refine wt_and (hs.sub (by repeat (first | exact List.Sublist.refl _ | exact List.nil_sublist _ | refine List.Sublist.cons_cons _ ?_ | refine List.Sublist.cons _ ?_))) fun hC => ?_
      refine wt_take 15 rfl (by kernel_rfl) (by kernel_rfl) (by kernel_rfl) (fun _ _ _ _ h => h) rfl hC ⟨_, fun w hw => by (go_simp; try with_reducible rfl), fun a1 ha => ?_⟩
      simp only [Act.put, List.setIfInBounds_toArray, List.set_cons_succ, List.set_cons_zero] at ha; subst ha
      refine wt_done (by kernel_rfl) ?_
      skip
      clear hC
      go_wp2_with fail
      go_roundw
      case rel =>
        rw [← HLV.out, ← HWV.out] at hs
        exact ⟨k + 1, by omega, by go_num, (HB.out _ (Res.blk xb (rowOf 8 (deskC st lv wv)) 66 :: Res.own 30 1 lv m (rowOf m (imL im)).toList :: Res.own 30 1 wv m (rowOf m (imW im)).toList :: rows 3 (deskF st)) (imF im) (fun _ _ _ => rfl) (by rw [HE.out]; exact hs)).perm (List.Perm.append_left [Res.blk xb (rowOf 8 (deskC st lv wv)) 66, Res.own 30 1 lv m (rowOf m (imL im)).toList, Res.own 30 1 wv m (rowOf m (imW im)).toList] (List.perm_append_comm (l₁ := rows 3 (deskF st)) (l₂ := rows m (imF im))))⟩
      case measure => simp [intOf]; omega
    · obtain rfl : m = k := by omega
      go_wp2_with (first | ((with_reducible refine (at_load (t := 64)) rfl ?_); refine wl_load1 hs rfl rfl Try.underlying64 rfl rfl 0 rfl HV6.out ?_))
      go_ret
      exact ⟨rfl, hs⟩
end Go.Proofs.Ytcflolcaiedmfaa
