/- The disk's methods: contracts. -/
import Derived.Test.YtcflolcaiedmfaaA
import Derived.Deep.DeepCutAuto
namespace Go.Proofs.Ytcflolcaiedmfaa
set_option linter.unusedVariables false
set_option linter.unusedSimpArgs false
open Go Go.Sp Go.RowKit Go.BigFrame

section
variable {d s n : Nat} {f : Nat → UInt8} {wr : Int} {off armed : Bool} {left : Int} {w : World}

theorem writes_any (h : (diskR d s n f wr off armed left).holds w) : Calls Try.prog 17 #[.pointer (some ⟨d, 0, none⟩)] w fun e w' => e = .returned (.int .i64 wr) ∧ Tr w [] w' [] := by
  have hs := Tr.open2 h
  go_enter Try.func17, Try.ntmps17
  go_wp2_with (first | ((with_reducible refine at_load rfl ?_); refine wl_load1 hs rfl rfl Try.underlying3 rfl rfl 0 rfl rfl ?_))
  go_ret
  exact ⟨rfl, Tr.same2 h hs⟩
theorem down_any (h : (diskR d s n f wr off armed left).holds w) : Calls Try.prog 18 #[.pointer (some ⟨d, 0, none⟩)] w fun e w' => e = .returned (.bool off) ∧ Tr w [] w' [] := by
  have hs := Tr.open2 h
  go_enter Try.func18, Try.ntmps18
  go_wp2_with (first | ((with_reducible refine at_load rfl ?_); refine wl_load1 hs rfl rfl Try.underlying4 rfl rfl 0 rfl rfl ?_))
  go_ret
  exact ⟨rfl, Tr.same2 h hs⟩
theorem len_any (h : (diskR d s n f wr off armed left).holds w) : Calls Try.prog 16 #[.pointer (some ⟨d, 0, none⟩)] w fun e w' => e = .returned (.int .i64 n) ∧ Tr w [] w' [] := by
  have hs := Tr.open2 h
  go_enter Try.func16, Try.ntmps16
  go_wp2_with (first | ((with_reducible refine at_load rfl ?_); refine wl_load1 hs rfl rfl Try.underlying30 rfl rfl 0 rfl rfl ?_))
  go_ret
  exact ⟨rfl, Tr.same2 h hs⟩

/-- why a sector can not be had -/
def ck (off : Bool) (n : Nat) (i : Int) : Int := if off then 22 else if 0 ≤ i ∧ i < n then 0 else 21
theorem check_any (i : Int) (hn : n ≤ 9223372036854775807) (h : (diskR d s n f wr off armed left).holds w) : Calls Try.prog 34 #[.pointer (some ⟨d, 0, none⟩), .int .i64 i] w fun e w' => e = .returned (.int .i64 (ck off n i)) ∧ Tr w [] w' [] := by
  have hs := Tr.open2 h
  cases off
  · by_cases h1 : i < 0
    · have h2 := Lib.hid (show (21 : Int) = ck false n i by simp only [ck]; rw [if_neg (by simp), if_neg (by omega)])
      go_enter Try.func34, Try.ntmps34
      go_wp2_with (first | ((with_reducible refine at_load rfl ?_); refine wl_load1 hs rfl rfl Try.underlying4 rfl rfl 0 rfl rfl ?_) | ((with_reducible refine at_load rfl ?_); refine wl_load1 hs rfl rfl Try.underlying30 rfl rfl 0 rfl rfl ?_))
      go_ret
      exact ⟨ret_int h2.out, Tr.same2 h hs⟩
    · by_cases h3 : i < n
      · have h2 := Lib.hid (show (0 : Int) = ck false n i by simp only [ck]; rw [if_neg (by simp), if_pos (by omega)])
        go_enter Try.func34, Try.ntmps34
        go_wp2_with (first | ((with_reducible refine at_load rfl ?_); refine wl_load1 hs rfl rfl Try.underlying4 rfl rfl 0 rfl rfl ?_) | ((with_reducible refine at_load rfl ?_); refine wl_load1 hs rfl rfl Try.underlying30 rfl rfl 0 rfl rfl ?_))
        go_ret
        exact ⟨ret_int h2.out, Tr.same2 h hs⟩
      · have h2 := Lib.hid (show (21 : Int) = ck false n i by simp only [ck]; rw [if_neg (by simp), if_neg (by omega)])
        go_enter Try.func34, Try.ntmps34
        go_wp2_with (first | ((with_reducible refine at_load rfl ?_); refine wl_load1 hs rfl rfl Try.underlying4 rfl rfl 0 rfl rfl ?_) | ((with_reducible refine at_load rfl ?_); refine wl_load1 hs rfl rfl Try.underlying30 rfl rfl 0 rfl rfl ?_))
        go_ret
        exact ⟨ret_int h2.out, Tr.same2 h hs⟩
  · go_enter Try.func34, Try.ntmps34
    go_wp2_with (first | ((with_reducible refine at_load rfl ?_); refine wl_load1 hs rfl rfl Try.underlying4 rfl rfl 0 rfl rfl ?_) | ((with_reducible refine at_load rfl ?_); refine wl_load1 hs rfl rfl Try.underlying30 rfl rfl 0 rfl rfl ?_))
    go_ret
    exact ⟨rfl, Tr.same2 h hs⟩

theorem arm_ok (k : Int) (hk : 0 ≤ k) (h : (diskR d s n f wr false armed left).holds w) : Calls Try.prog 20 #[.pointer (some ⟨d, 0, none⟩), .int .i64 k] w fun e w' => e = .returned (.int .i64 0) ∧ Tr w (diskR d s n f wr false armed left).foot w' [diskR d s n f wr false true k] := by
  have hs := Tr.open2 h
  clear h
  go_enter Try.func20, Try.ntmps20
  go_wp2_with (first | ((with_reducible refine at_load rfl ?_); refine wl_load1 hs rfl rfl Try.underlying4 rfl rfl 0 rfl rfl ?_) | ((with_reducible refine at_store rfl ?_); refine wl_storeS hs rfl rfl rfl rfl size74 (by simp [Value.oneCell']) 0 rfl (by simp) _ rfl ?_; clear hs; intro w1 hs))
  go_ret
  exact ⟨rfl, hs.join2⟩
theorem arm_neg (k : Int) (hk : k < 0) (h : (diskR d s n f wr off armed left).holds w) : Calls Try.prog 20 #[.pointer (some ⟨d, 0, none⟩), .int .i64 k] w fun e w' => e = .returned (.int .i64 1) ∧ Tr w [] w' [] := by
  have hs := Tr.open2 h
  go_enter Try.func20, Try.ntmps20
  go_wp2
  go_ret
  exact ⟨rfl, Tr.same2 h hs⟩

theorem image_any (hn : n ≤ 4096) (h : (diskR d s n f wr off armed left).holds w) : Calls Try.prog 13 #[.pointer (some ⟨d, 0, none⟩)] w fun e w' => ∃ b, e = .returned (.slice (some ⟨b, 0, none⟩) n n) ∧ Tr w [] w' [Res.blk b (rowOf (n * 128) (u8v f)) 40] := by
  have hs := Tr.open2 h
  go_enter Try.func13, Try.ntmps13
  go_wp2_with (first
    | ((with_reducible refine at_load rfl ?_); refine wl_load1 hs rfl rfl Try.underlying30 rfl rfl 0 rfl rfl ?_)
    | ((with_reducible refine at_load rfl ?_); refine wl_load1 hs rfl rfl Try.underlying30 rfl rfl 1 rfl rfl ?_)
    | ((with_reducible refine at_mk rfl ?_); refine wl_make hs rfl rfl Try.underlying30 info40 n rfl rfl rfl (by omega) (by omega) (u8v fun _ => 0) (zmake _) ?_; clear hs; intro w1 b hs)
    | ((with_reducible refine (at_bi .copy) rfl ?_); refine wl_copy hs rfl rfl Try.underlying30 size40 rfl rfl n (by omega) 0 rfl 0 (fun _ => rfl) (by omega) s 0 (u8v f) (fun _ => rfl) (hs.rd0 2 rfl (Nat.le_refl _)) (fun _ _ => rfl) (u8v f) (fun j hj => by rw [if_pos (by omega), Nat.sub_zero]) ?_; clear hs; intro w1 hs))
  go_ret
  exact ⟨_, rfl, Tr.same2 h hs.rot1⟩

theorem rimage_any (hn : n ≤ 4096) (h : (refR d s n f wr off armed left).holds w) : Calls Try.prog 15 #[.pointer (some ⟨d, 0, none⟩)] w fun e w' => ∃ v, e = .returned v ∧ Tr w [] w' [Res.own 40 128 v n (rowOf (n * 128) (u8v f)).toList] := by
  have hs := (Tr.open2 h).addNil 40 128
  go_enter Try.func15, Try.ntmps15
  go_wp2_with (first
    | ((with_reducible refine at_load rfl ?_); refine wl_load1 hs rfl rfl Try.underlying30 rfl rfl 1 rfl rfl ?_)
    | ((with_reducible refine (at_bi .append) rfl ?_); refine wl_appendG hs rfl rfl Try.underlying30 info40 zc40 (by omega) 0 rfl rfl rfl (fun h => by cases h) s 0 (fun _ => rfl) (rowOf (n * 128) (u8v f)).toList (by simp) (hs.rd0 2 rfl (Nat.le_refl _)).news (oneU8 _ _) (by unfold maxLen; omega) (by omega) ?_; rw [List.nil_append, Nat.zero_add]; clear hs; intro w1 v hs))
  go_ret
  exact ⟨_, rfl, Tr.same2 h hs.rot1⟩

/-- A sector is written. -/
def updF (f : Nat → UInt8) (i : Nat) (F : Nat → UInt8) : Nat → UInt8 := fun j => if i * 128 ≤ j ∧ j < i * 128 + 128 then F (j - i * 128) else f j

theorem write_no (i : Int) (F : Nat → UInt8) (c : Int) (hn : n ≤ 4096) (hc : ck off n i = c) (hc0 : c ≠ 0) (h : (diskR d s n f wr off armed left).holds w) : Calls Try.prog 21 #[.pointer (some ⟨d, 0, none⟩), .int .i64 i, bytesV 128 F] w fun e w' => e = .returned (.int .i64 c) ∧ Tr w [] w' [] := by
  have hs := Tr.refl w []
  have HC := Lib.hid (fun w => check_any (d := d) (s := s) (f := f) (wr := wr) (armed := armed) (left := left) (w := w) (off := off) i (by omega : n ≤ 9223372036854775807))
  rw [hc] at HC
  have h := Lib.hid h
  clear hc
  go_enter Try.func21, Try.ntmps21
  go_wp2_with (first
    | ((with_reducible refine at_box rfl ?_); refine wl_boxA hs rfl rfl rfl ?_; clear hs; intro w1 b hs)
    | (go_at_call 34; refine (HC.out _ ((diskR d s n f wr off armed left).stays _ _ (fun k hk => hs.keep k ((diskR d s n f wr off armed left).live _ h.out k hk) (by simp)) h.out)).mono ?_; rintro e w2 ⟨rfl, hc⟩; replace hs := hs.call0 hc; clear hc))
  go_ret
  exact ⟨rfl, hs.letgo⟩

theorem write_yes (i : Nat) (F : Nat → UInt8) (l' : Int) (hn : n ≤ 4096) (hi : i < n) (hwr : 0 ≤ wr ∧ wr ≤ 4611686018427387904) (hl : (armed = true ∧ 0 < left ∧ left ≤ 4611686018427387904 ∧ l' = left - 1) ∨ (armed = false ∧ l' = left)) (h : (diskR d s n f wr false armed left).holds w) :
    Calls Try.prog 21 #[.pointer (some ⟨d, 0, none⟩), .int .i64 (i : Int), bytesV 128 F] w fun e w' => e = .returned (.int .i64 0) ∧ Tr w (diskR d s n f wr false armed left).foot w' [diskR d s n (updF f i F) (wr + 1) false armed l'] := by
  have hs0 := Tr.open2 h
  have HC := Lib.hid (fun w => check_any (d := d) (s := s) (f := f) (wr := wr) (armed := armed) (left := left) (w := w) (off := false) i (by omega : n ≤ 9223372036854775807))
  rw [show ck false n i = 0 by simp only [ck]; rw [if_neg (by simp), if_pos (by omega)]] at HC
  have h := Lib.hid h
  have hi2 : (i : Int) < n := by omega
  rcases hl with ⟨rfl, hl1, hl2, rfl⟩ | ⟨rfl, rfl⟩
  all_goals
    have hs := hs0
    clear hs0
    go_enter Try.func21, Try.ntmps21
    go_upto_region 9 with (first
          | ((with_reducible refine at_box rfl ?_); refine wl_boxA hs rfl rfl rfl ?_; clear hs; intro w1 b hs)
          | (go_at_call 34; refine (HC.out _ ((hs.sub (L' := [_, _]) (by exact List.Sublist.cons _ (List.Sublist.refl _))).join2.get 0 rfl)).mono ?_; rintro e w2 ⟨rfl, hc⟩; replace hs := hs.call0 hc; clear hc)
          | ((with_reducible refine at_load rfl ?_); refine wl_load1 hs rfl rfl Try.underlying4 rfl rfl 1 rfl rfl ?_) | ((with_reducible refine at_load rfl ?_); refine wl_load1 hs rfl rfl Try.underlying3 rfl rfl 1 rfl rfl ?_)
          | ((with_reducible refine at_store rfl ?_); refine wl_store1 hs rfl rfl size3 rfl rfl rfl 1 rfl (by simp) ?_; clear hs; intro w1 hs))
    refine wt_enterS (List.Sublist.cons_cons _ (List.Sublist.cons_cons _ (List.nil_sublist _))) 8 rfl hs (by kernel_rfl) ?_
    clear hs; intro w1 hC hs
    refine wt_take 0 rfl (by kernel_rfl) (by kernel_rfl) (by kernel_rfl) (fun _ _ _ _ h => h) rfl hC ⟨_, fun w hw => by (go_simp; try with_reducible rfl), fun a1 ha => ?_⟩
    simp only [Act.put, List.setIfInBounds_toArray, List.set_cons_succ, List.set_cons_zero] at ha; subst ha
    refine wt_take 1 rfl (by kernel_rfl) (by kernel_rfl) (by kernel_rfl) (fun _ _ _ _ h => h) rfl hC ⟨_, fun w hw => by (go_simp; try with_reducible rfl), fun a1 ha => ?_⟩
    simp only [Act.put, List.setIfInBounds_toArray, List.set_cons_succ, List.set_cons_zero] at ha; subst ha
    refine wt_take 2 rfl (by kernel_rfl) (by kernel_rfl) (by kernel_rfl) (fun _ _ _ _ h => h) rfl hC ⟨_, fun w hw => by (go_simp; try with_reducible rfl), fun a1 ha => ?_⟩
    simp only [Act.put, List.setIfInBounds_toArray, List.set_cons_succ, List.set_cons_zero] at ha; subst ha
    refine wt_take 3 rfl (by kernel_rfl) (by kernel_rfl) (by kernel_rfl) (fun _ _ _ _ h => h) rfl hC ⟨_, fun w hw => ex_load1 rfl Try.underlying30 rfl rfl (by rw [cell_of_row w _ _ _ _ (0, 0) (hw.getB 1 rfl)]; rfl), fun a1 ha => ?_⟩
    simp only [Act.put, List.setIfInBounds_toArray, List.set_cons_succ, List.set_cons_zero] at ha; subst ha
    refine wt_take 4 rfl (by kernel_rfl) (by kernel_rfl) (by kernel_rfl) (fun _ _ _ _ h => h) rfl hC ⟨_, fun w hw => by (go_simp; try with_reducible rfl), fun a1 ha => ?_⟩
    simp only [Act.put, List.setIfInBounds_toArray, List.set_cons_succ, List.set_cons_zero] at ha; subst ha
    refine wt_take 5 rfl (by kernel_rfl) (by kernel_rfl) (by kernel_rfl) (fun _ _ _ _ h => h) rfl hC ⟨_, fun w hw => ex_loadB rfl Try.underlying40 size40 rfl (hw.getB 0 rfl), fun a1 ha => ?_⟩
    simp only [Act.put, List.setIfInBounds_toArray, List.set_cons_succ, List.set_cons_zero] at ha; subst ha
    refine wt_take 6 rfl (by kernel_rfl) (by kernel_rfl) (by kernel_rfl) (fun _ _ _ _ h => h) rfl hC ⟨_, fun w hw => ex_indexS rfl Try.underlying30 size40 rfl rfl i rfl hi rfl, fun a1 ha => ?_⟩
    simp only [Act.put, List.setIfInBounds_toArray, List.set_cons_succ, List.set_cons_zero] at ha; subst ha
    refine wt_one 7 (by kernel_rfl) ?_
    refine wt_storeM hs rfl rfl rfl rfl rfl size40 (fun _ _ => rfl) 2 rfl (by omega) (u8v (updF f i F)) (fun j hj => by simp only [u8v, updF, Nat.zero_add]; split <;> rfl) (by simp only [Act.put, List.setIfInBounds_toArray, List.set_cons_succ, List.set_cons_zero]; rfl) ?_
    clear hs; intro w1 hs
    refine wt_and (hs.sub (by repeat (first | exact List.Sublist.refl _ | refine List.Sublist.cons_cons _ ?_ | refine List.Sublist.cons _ ?_))) fun hC => ?_
    refine wt_done (by kernel_rfl) ?_
    skip
    go_wp2_with (first
          | ((with_reducible refine at_load rfl ?_); refine wl_load1 hs rfl rfl Try.underlying3 rfl rfl 1 rfl rfl ?_)
          | ((with_reducible refine at_store rfl ?_); refine wl_store1 hs rfl rfl size3 rfl rfl rfl 1 rfl (by simp) ?_; clear hs; intro w1 hs))
    go_ret
    exact ⟨rfl, (hs.erase 0).join2⟩
end
end Go.Proofs.Ytcflolcaiedmfaa
