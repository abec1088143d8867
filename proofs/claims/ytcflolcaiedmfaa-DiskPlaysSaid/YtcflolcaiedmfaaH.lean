/- More contracts: the document's Copy; Arm of a disk that is off; a write with any number left. -/
import Derived.Test.YtcflolcaiedmfaaG
namespace Go.Proofs.Ytcflolcaiedmfaa
set_option linter.unusedVariables false
set_option linter.unusedSimpArgs false
open Go Go.Sp Go.RowKit Go.BigFrame

theorem rcopy_any {d g c n : Nat} {f : Nat → UInt8} {wr : Int} {off armed : Bool} {left : Int} {w : World} (h1 : 1 ≤ n) (hn : n ≤ 4096) (h : (refG d g c n f wr off armed left).holds w) :
    Calls Try.prog 39 #[.pointer (some ⟨d, 0, none⟩)] w fun e w' => ∃ d2 g2 c2, e = .returned (.pointer (some ⟨d2, 0, none⟩)) ∧ Tr w [] w' [refG d2 g2 c2 n f wr off armed left] := by
  have hs := Tr.refl w []
  have H := Lib.hid h
  have HP := Lib.hid ((Tr.open2 h).get 0 rfl)
  clear h
  go_enter Try.func39, Try.ntmps39
  go_upto_region 1 with fail
  refine wt_enterS (List.nil_sublist _) 21 rfl hs (by kernel_rfl) ?_
  clear hs; intro w1 hC hs
  refine wt_take 0 rfl (by kernel_rfl) (by kernel_rfl) (by kernel_rfl) (fun _ _ _ _ h => h) rfl hC ⟨_, fun w hw => by (go_simp; try with_reducible rfl), fun a1 ha => ?_⟩
  simp only [Act.put, List.setIfInBounds_toArray, List.set_cons_succ, List.set_cons_zero] at ha; subst ha
  refine wt_take 2 rfl (by kernel_rfl) (by kernel_rfl) (by kernel_rfl) (fun _ _ _ _ h => h) rfl hC ⟨_, fun w hw => by (go_simp; try with_reducible rfl), fun a1 ha => ?_⟩
  simp only [Act.put, List.setIfInBounds_toArray, List.set_cons_succ, List.set_cons_zero] at ha; subst ha
  refine wt_take 3 rfl (by kernel_rfl) (by kernel_rfl) (by kernel_rfl) (fun _ _ _ _ h => h) rfl hC ⟨_, fun w hw => by (go_simp; try with_reducible rfl), fun a1 ha => ?_⟩
  simp only [Act.put, List.setIfInBounds_toArray, List.set_cons_succ, List.set_cons_zero] at ha; subst ha
  refine wt_take 4 rfl (by kernel_rfl) (by kernel_rfl) (by kernel_rfl) (fun _ _ _ _ h => h) rfl hC ⟨_, fun w hw => by (go_simp; try with_reducible rfl), fun a1 ha => ?_⟩
  simp only [Act.put, List.setIfInBounds_toArray, List.set_cons_succ, List.set_cons_zero] at ha; subst ha
  refine wt_take 5 rfl (by kernel_rfl) (by kernel_rfl) (by kernel_rfl) (fun _ _ _ _ h => h) rfl hC ⟨_, fun w hw => ex_load1 rfl Try.underlying3 rfl rfl (cellAt2 HP.out hw rfl), fun a1 ha => ?_⟩
  simp only [Act.put, List.setIfInBounds_toArray, List.set_cons_succ, List.set_cons_zero] at ha; subst ha
  refine wt_take 6 rfl (by kernel_rfl) (by kernel_rfl) (by kernel_rfl) (fun _ _ _ _ h => h) rfl hC ⟨_, fun w hw => by (go_simp; try with_reducible rfl), fun a1 ha => ?_⟩
  simp only [Act.put, List.setIfInBounds_toArray, List.set_cons_succ, List.set_cons_zero] at ha; subst ha
  refine wt_take 7 rfl (by kernel_rfl) (by kernel_rfl) (by kernel_rfl) (fun _ _ _ _ h => h) rfl hC ⟨_, fun w hw => by (go_simp; try with_reducible rfl), fun a1 ha => ?_⟩
  simp only [Act.put, List.setIfInBounds_toArray, List.set_cons_succ, List.set_cons_zero] at ha; subst ha
  refine wt_take 8 rfl (by kernel_rfl) (by kernel_rfl) (by kernel_rfl) (fun _ _ _ _ h => h) rfl hC ⟨_, fun w hw => by (go_simp; try with_reducible rfl), fun a1 ha => ?_⟩
  simp only [Act.put, List.setIfInBounds_toArray, List.set_cons_succ, List.set_cons_zero] at ha; subst ha
  refine wt_take 9 rfl (by kernel_rfl) (by kernel_rfl) (by kernel_rfl) (fun _ _ _ _ h => h) rfl hC ⟨_, fun w hw => ex_load1 rfl Try.underlying4 rfl rfl (cellAt2 HP.out hw rfl), fun a1 ha => ?_⟩
  simp only [Act.put, List.setIfInBounds_toArray, List.set_cons_succ, List.set_cons_zero] at ha; subst ha
  refine wt_take 10 rfl (by kernel_rfl) (by kernel_rfl) (by kernel_rfl) (fun _ _ _ _ h => h) rfl hC ⟨_, fun w hw => by (go_simp; try with_reducible rfl), fun a1 ha => ?_⟩
  simp only [Act.put, List.setIfInBounds_toArray, List.set_cons_succ, List.set_cons_zero] at ha; subst ha
  refine wt_take 11 rfl (by kernel_rfl) (by kernel_rfl) (by kernel_rfl) (fun _ _ _ _ h => h) rfl hC ⟨_, fun w hw => by (go_simp; try with_reducible rfl), fun a1 ha => ?_⟩
  simp only [Act.put, List.setIfInBounds_toArray, List.set_cons_succ, List.set_cons_zero] at ha; subst ha
  refine wt_take 12 rfl (by kernel_rfl) (by kernel_rfl) (by kernel_rfl) (fun _ _ _ _ h => h) rfl hC ⟨_, fun w hw => by (go_simp; try with_reducible rfl), fun a1 ha => ?_⟩
  simp only [Act.put, List.setIfInBounds_toArray, List.set_cons_succ, List.set_cons_zero] at ha; subst ha
  refine wt_take 13 rfl (by kernel_rfl) (by kernel_rfl) (by kernel_rfl) (fun _ _ _ _ h => h) rfl hC ⟨_, fun w hw => ex_load1 rfl Try.underlying3 rfl rfl (cellAt2 HP.out hw rfl), fun a1 ha => ?_⟩
  simp only [Act.put, List.setIfInBounds_toArray, List.set_cons_succ, List.set_cons_zero] at ha; subst ha
  refine wt_take 14 rfl (by kernel_rfl) (by kernel_rfl) (by kernel_rfl) (fun _ _ _ _ h => h) rfl hC ⟨_, fun w hw => by (go_simp; try with_reducible rfl), fun a1 ha => ?_⟩
  simp only [Act.put, List.setIfInBounds_toArray, List.set_cons_succ, List.set_cons_zero] at ha; subst ha
  refine wt_take 15 rfl (by kernel_rfl) (by kernel_rfl) (by kernel_rfl) (fun _ _ _ _ h => h) rfl hC ⟨_, fun w hw => by (go_simp; try with_reducible rfl), fun a1 ha => ?_⟩
  simp only [Act.put, List.setIfInBounds_toArray, List.set_cons_succ, List.set_cons_zero] at ha; subst ha
  refine wt_take 16 rfl (by kernel_rfl) (by kernel_rfl) (by kernel_rfl) (fun _ _ _ _ h => h) rfl hC ⟨_, fun w hw => by (go_simp; try with_reducible rfl), fun a1 ha => ?_⟩
  simp only [Act.put, List.setIfInBounds_toArray, List.set_cons_succ, List.set_cons_zero] at ha; subst ha
  refine wt_take 17 rfl (by kernel_rfl) (by kernel_rfl) (by kernel_rfl) (fun _ _ _ _ h => h) rfl hC ⟨_, fun w hw => ex_load1 rfl Try.underlying4 rfl rfl (cellAt2 HP.out hw rfl), fun a1 ha => ?_⟩
  simp only [Act.put, List.setIfInBounds_toArray, List.set_cons_succ, List.set_cons_zero] at ha; subst ha
  refine wt_one 1 (by kernel_rfl) ?_
  refine wt_callR (R := fun v => Res.own 40 128 v n (rowOf (n * 128) (u8v f)).toList) hs rfl rfl (by go_simp) (rimage_G hn (Res.keep2 H.out hs)) (fun _ => by simp only [Act.put, List.setIfInBounds_toArray, List.set_cons_succ, List.set_cons_zero]; rfl) ?_
  clear hs; intro w1 v hs; obtain ⟨ao2, c2, g2, rfl, _, _, hao2, _⟩ := hs.own_open 0 rfl; obtain rfl := hao2 (by omega); clear hao2
  refine wt_and (hs.sub (by repeat (first | exact List.Sublist.refl _ | refine List.Sublist.cons_cons _ ?_ | refine List.Sublist.cons _ ?_))) fun hC => ?_
  refine wt_take 18 rfl (by kernel_rfl) (by kernel_rfl) (by kernel_rfl) (fun _ _ _ _ h => h) rfl hC ⟨.agg #[.slice (some ⟨g2, 0, none⟩) n c2, .int .i64 wr, .bool armed, .int .i64 left, .bool off], fun w hw => by (go_simp; try with_reducible rfl), fun a1 ha => ?_⟩
  simp only [Act.put, List.setIfInBounds_toArray, List.set_cons_succ, List.set_cons_zero] at ha; subst ha
  refine wt_one 19 (by kernel_rfl) ?_
  refine wt_boxA hs rfl rfl rfl rfl (fun _ => by simp only [Act.put, List.setIfInBounds_toArray, List.set_cons_succ, List.set_cons_zero]; rfl) ?_
  clear hs; intro w1 d2 hs
  refine wt_and (hs.sub (by repeat (first | exact List.Sublist.refl _ | refine List.Sublist.cons_cons _ ?_ | refine List.Sublist.cons _ ?_))) fun hC => ?_
  refine wt_take 20 rfl (by kernel_rfl) (by kernel_rfl) (by kernel_rfl) (fun _ _ _ _ h => h) rfl hC ⟨_, fun w hw => by (go_simp; try with_reducible rfl), fun a1 ha => ?_⟩
  simp only [Act.put, List.setIfInBounds_toArray, List.set_cons_succ, List.set_cons_zero] at ha; subst ha
  refine wt_done (by kernel_rfl) ?_
  skip
  go_wp2_with fail
  go_ret
  exact ⟨_, _, _, rfl, hs.join2⟩
theorem arm_off {d s n : Nat} {f : Nat → UInt8} {wr : Int} {armed : Bool} {left : Int} {w : World} (k : Int) (hk : 0 ≤ k) (h : (diskR d s n f wr true armed left).holds w) : Calls Try.prog 20 #[.pointer (some ⟨d, 0, none⟩), .int .i64 k] w fun e w' => e = .returned (.int .i64 22) ∧ Tr w [] w' [] := by
  have hs := Tr.open2 h
  go_enter Try.func20, Try.ntmps20
  go_wp2_with (first | ((with_reducible refine at_load rfl ?_); refine wl_load1 hs rfl rfl Try.underlying4 rfl rfl 0 rfl rfl ?_))
  go_ret
  exact ⟨rfl, Tr.same2 h hs⟩
theorem write_big {d s n : Nat} {f : Nat → UInt8} {wr : Int} {armed : Bool} {left : Int} {w : World} (i : Nat) (F : Nat → UInt8) (l' : Int) (hn : n ≤ 4096) (hi : i < n) (hwr : 0 ≤ wr ∧ wr ≤ 4611686018427387904) (hl : (armed = true ∧ 0 < left ∧ left ≤ 9223372036854775807 ∧ l' = left - 1) ∨ (armed = false ∧ l' = left)) (h : (diskR d s n f wr false armed left).holds w) :
    Calls Try.prog 21 #[.pointer (some ⟨d, 0, none⟩), .int .i64 (i : Int), bytesV 128 F] w fun e w' => e = .returned (.int .i64 0) ∧ Tr w (diskR d s n f wr false armed left).foot w' [diskR d s n (updF f i F) (wr + 1) false armed l'] := by
  have hs0 := Tr.open2 h
  have HC := Lib.hid (fun w => check_any (d := d) (s := s) (f := f) (wr := wr) (armed := armed) (left := left) (w := w) (off := false) i (by omega : n ≤ 9223372036854775807))
  rw [show ck false n i = 0 by simp only [ck]; rw [if_neg (by simp), if_pos (by omega)]] at HC
  have h := Lib.hid h
  have hi2 : (i : Int) < n := by omega
  rcases hl with ⟨rfl, hl1, hl2, rfl⟩ | ⟨rfl, rfl⟩
  · have hs := hs0
    clear hs0
    have t1 : (left == 0) = false := by simp; omega
    go_enter Try.func21, Try.ntmps21
    go_upto_region 9 with (first | ((with_reducible refine at_box rfl ?_); refine wl_boxA hs rfl rfl rfl ?_; clear hs; intro w1 b hs) | (go_at_call 34; refine (HC.out _ ((hs.sub (L' := [_, _]) (by exact List.Sublist.cons _ (List.Sublist.refl _))).join2.get 0 rfl)).mono ?_; rintro e w2 ⟨rfl, hc⟩; replace hs := hs.call0 hc; clear hc) | ((with_reducible refine at_load rfl ?_); refine wl_load1 hs rfl rfl Try.underlying4 rfl rfl 1 rfl rfl ?_) | ((with_reducible refine at_load rfl ?_); refine wl_load1 hs rfl rfl Try.underlying3 rfl rfl 1 rfl rfl ?_) | ((with_reducible refine at_store rfl ?_); refine wl_store1 hs rfl rfl size3 rfl rfl rfl 1 rfl (by simp) ?_; clear hs; intro w1 hs))
    refine wt_enterS (List.Sublist.cons_cons _ (List.Sublist.cons_cons _ (List.nil_sublist _))) 8 rfl hs (by kernel_rfl) ?_
    clear hs; intro w1 hC hs
    refine wt_take 0 rfl (by kernel_rfl) (by kernel_rfl) (by kernel_rfl) (fun _ _ _ _ h => h) rfl hC ⟨_, fun w hw => by (go_simp; try with_reducible rfl), fun a1 ha => ?_⟩
    simp only [Act.put, List.setIfInBounds_toArray, List.set_cons_succ, List.set_cons_zero] at ha; subst ha
    refine wt_take 1 rfl (by kernel_rfl) (by kernel_rfl) (by kernel_rfl) (fun _ _ _ _ h => h) rfl hC ⟨_, fun w hw => by (go_simp; try with_reducible rfl), fun a1 ha => ?_⟩
    simp only [Act.put, List.setIfInBounds_toArray, List.set_cons_succ, List.set_cons_zero] at ha; subst ha
    refine wt_take 2 rfl (by kernel_rfl) (by kernel_rfl) (by kernel_rfl) (fun _ _ _ _ h => h) rfl hC ⟨_, fun w hw => by (go_simp; try with_reducible rfl), fun a1 ha => ?_⟩
    simp only [Act.put, List.setIfInBounds_toArray, List.set_cons_succ, List.set_cons_zero] at ha; subst ha
    refine wt_take 3 rfl (by kernel_rfl) (by kernel_rfl) (by kernel_rfl) (fun _ _ _ _ h => h) rfl hC ⟨_, fun w hw => ex_load1 rfl Try.underlying30 rfl rfl (by rw [cell_of_row w _ _ _ _ (0, 0) (hw.getB 1 rfl)]; rfl), fun a1 ha => ?_⟩
    simp only [Act.put, List.setIfInBounds_toArray, List.set_cons_succ, List.set_cons_zero] at ha; subst ha
    refine wt_take 4 rfl (by kernel_rfl) (by kernel_rfl) (by kernel_rfl) (fun _ _ _ _ h => h) rfl hC ⟨_, fun w hw => by (go_simp; try with_reducible rfl), fun a1 ha => ?_⟩
    simp only [Act.put, List.setIfInBounds_toArray, List.set_cons_succ, List.set_cons_zero] at ha; subst ha
    refine wt_take 5 rfl (by kernel_rfl) (by kernel_rfl) (by kernel_rfl) (fun _ _ _ _ h => h) rfl hC ⟨_, fun w hw => ex_loadB rfl Try.underlying40 size40 rfl (hw.getB 0 rfl), fun a1 ha => ?_⟩
    simp only [Act.put, List.setIfInBounds_toArray, List.set_cons_succ, List.set_cons_zero] at ha; subst ha
    refine wt_take 6 rfl (by kernel_rfl) (by kernel_rfl) (by kernel_rfl) (fun _ _ _ _ h => h) rfl hC ⟨_, fun w hw => ex_indexS rfl Try.underlying30 size40 rfl rfl i rfl hi rfl, fun a1 ha => ?_⟩
    simp only [Act.put, List.setIfInBounds_toArray, List.set_cons_succ, List.set_cons_zero] at ha; subst ha
    refine wt_one 7 (by kernel_rfl) ?_
    refine wt_storeM hs rfl rfl rfl rfl rfl size40 (fun _ _ => rfl) 2 rfl (by omega) (u8v (updF f i F)) (fun j hj => by simp only [u8v, updF, Nat.zero_add]; split <;> rfl) (by simp only [Act.put, List.setIfInBounds_toArray, List.set_cons_succ, List.set_cons_zero]; rfl) ?_
    clear hs; intro w1 hs
    refine wt_and (hs.sub (by repeat (first | exact List.Sublist.refl _ | refine List.Sublist.cons_cons _ ?_ | refine List.Sublist.cons _ ?_))) fun hC => ?_
    refine wt_done (by kernel_rfl) ?_
    skip
    go_wp2_with (first | ((with_reducible refine at_load rfl ?_); refine wl_load1 hs rfl rfl Try.underlying3 rfl rfl 1 rfl rfl ?_) | ((with_reducible refine at_store rfl ?_); refine wl_store1 hs rfl rfl size3 rfl rfl rfl 1 rfl (by simp) ?_; clear hs; intro w1 hs))
    go_ret
    exact ⟨rfl, (hs.erase 0).join2⟩
  · have hs := hs0
    clear hs0
    go_enter Try.func21, Try.ntmps21
    go_upto_region 9 with (first | ((with_reducible refine at_box rfl ?_); refine wl_boxA hs rfl rfl rfl ?_; clear hs; intro w1 b hs) | (go_at_call 34; refine (HC.out _ ((hs.sub (L' := [_, _]) (by exact List.Sublist.cons _ (List.Sublist.refl _))).join2.get 0 rfl)).mono ?_; rintro e w2 ⟨rfl, hc⟩; replace hs := hs.call0 hc; clear hc) | ((with_reducible refine at_load rfl ?_); refine wl_load1 hs rfl rfl Try.underlying4 rfl rfl 1 rfl rfl ?_) | ((with_reducible refine at_load rfl ?_); refine wl_load1 hs rfl rfl Try.underlying3 rfl rfl 1 rfl rfl ?_) | ((with_reducible refine at_store rfl ?_); refine wl_store1 hs rfl rfl size3 rfl rfl rfl 1 rfl (by simp) ?_; clear hs; intro w1 hs))
    refine wt_enterS (List.Sublist.cons_cons _ (List.Sublist.cons_cons _ (List.nil_sublist _))) 8 rfl hs (by kernel_rfl) ?_
    clear hs; intro w1 hC hs
    refine wt_take 0 rfl (by kernel_rfl) (by kernel_rfl) (by kernel_rfl) (fun _ _ _ _ h => h) rfl hC ⟨_, fun w hw => by (go_simp; try with_reducible rfl), fun a1 ha => ?_⟩
    simp only [Act.put, List.setIfInBounds_toArray, List.set_cons_succ, List.set_cons_zero] at ha; subst ha
    refine wt_take 1 rfl (by kernel_rfl) (by kernel_rfl) (by kernel_rfl) (fun _ _ _ _ h => h) rfl hC ⟨_, fun w hw => by (go_simp; try with_reducible rfl), fun a1 ha => ?_⟩
    simp only [Act.put, List.setIfInBounds_toArray, List.set_cons_succ, List.set_cons_zero] at ha; subst ha
    refine wt_take 2 rfl (by kernel_rfl) (by kernel_rfl) (by kernel_rfl) (fun _ _ _ _ h => h) rfl hC ⟨_, fun w hw => by (go_simp; try with_reducible rfl), fun a1 ha => ?_⟩
    simp only [Act.put, List.setIfInBounds_toArray, List.set_cons_succ, List.set_cons_zero] at ha; subst ha
    refine wt_take 3 rfl (by kernel_rfl) (by kernel_rfl) (by kernel_rfl) (fun _ _ _ _ h => h) rfl hC ⟨_, fun w hw => ex_load1 rfl Try.underlying30 rfl rfl (by rw [cell_of_row w _ _ _ _ (0, 0) (hw.getB 1 rfl)]; rfl), fun a1 ha => ?_⟩
    simp only [Act.put, List.setIfInBounds_toArray, List.set_cons_succ, List.set_cons_zero] at ha; subst ha
    refine wt_take 4 rfl (by kernel_rfl) (by kernel_rfl) (by kernel_rfl) (fun _ _ _ _ h => h) rfl hC ⟨_, fun w hw => by (go_simp; try with_reducible rfl), fun a1 ha => ?_⟩
    simp only [Act.put, List.setIfInBounds_toArray, List.set_cons_succ, List.set_cons_zero] at ha; subst ha
    refine wt_take 5 rfl (by kernel_rfl) (by kernel_rfl) (by kernel_rfl) (fun _ _ _ _ h => h) rfl hC ⟨_, fun w hw => ex_loadB rfl Try.underlying40 size40 rfl (hw.getB 0 rfl), fun a1 ha => ?_⟩
    simp only [Act.put, List.setIfInBounds_toArray, List.set_cons_succ, List.set_cons_zero] at ha; subst ha
    refine wt_take 6 rfl (by kernel_rfl) (by kernel_rfl) (by kernel_rfl) (fun _ _ _ _ h => h) rfl hC ⟨_, fun w hw => ex_indexS rfl Try.underlying30 size40 rfl rfl i rfl hi rfl, fun a1 ha => ?_⟩
    simp only [Act.put, List.setIfInBounds_toArray, List.set_cons_succ, List.set_cons_zero] at ha; subst ha
    refine wt_one 7 (by kernel_rfl) ?_
    refine wt_storeM hs rfl rfl rfl rfl rfl size40 (fun _ _ => rfl) 2 rfl (by omega) (u8v (updF f i F)) (fun j hj => by simp only [u8v, updF, Nat.zero_add]; split <;> rfl) (by simp only [Act.put, List.setIfInBounds_toArray, List.set_cons_succ, List.set_cons_zero]; rfl) ?_
    clear hs; intro w1 hs
    refine wt_and (hs.sub (by repeat (first | exact List.Sublist.refl _ | refine List.Sublist.cons_cons _ ?_ | refine List.Sublist.cons _ ?_))) fun hC => ?_
    refine wt_done (by kernel_rfl) ?_
    skip
    go_wp2_with (first | ((with_reducible refine at_load rfl ?_); refine wl_load1 hs rfl rfl Try.underlying3 rfl rfl 1 rfl rfl ?_) | ((with_reducible refine at_store rfl ?_); refine wl_store1 hs rfl rfl size3 rfl rfl rfl 1 rfl (by simp) ?_; clear hs; intro w1 hs))
    go_ret
    exact ⟨rfl, (hs.erase 0).join2⟩
/-- A row that is full is one with room. -/
theorem ref_own {w0 w : World} {S : List Nat} {L : List Res} {d s n : Nat} {f : Nat → UInt8} {wr : Int} {off armed : Bool} {left : Int} (hn : n ≤ 4096) (h : Tr w0 S w (refR d s n f wr off armed left :: L)) : Tr w0 S w (refG d s n n f wr off armed left :: L) := by
  have h1 := h.split2
  have h2 := h1.toOwnAt (size := 128) (n := n) 1 rfl (rowOf_size _ _) (by unfold maxLen; omega)
  exact Tr.join2 h2
end Go.Proofs.Ytcflolcaiedmfaa
