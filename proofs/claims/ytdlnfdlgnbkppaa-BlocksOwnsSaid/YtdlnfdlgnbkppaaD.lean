/- The document's Find. -/
import Derived.Test.YtdlnfdlgnbkppaaC
namespace Go.Proofs.Ytdlnfdlgnbkppaa
set_option linter.unusedVariables false
set_option linter.unusedSimpArgs false
open Go Go.Sp Go.RowKit

theorem rfind_no (s : Src) (X : Nat → Int) (k : Int) (w : World) (hk : k < 0 ∨ 1068 ≤ k) (hb : -9223372036854775808 ≤ k ∧ k ≤ 9223372036854775807) :
    Calls Try.prog 17 #[.agg #[.slice s.ao s.N s.c, .int .i64 s.bad, .int .i64 s.code], .agg (rowOf 18 (gI X)), .int .i64 k] w fun e w' => e = .returned (.tuple #[.int .i64 0, .int .i64 90]) ∧ Tr w [] w' [] := by
  have hs := Tr.refl w []
  have HW := Lib.hid (fun w => rway_no k w hk hb)
  clear hk
  unfold noWay at HW
  go_enter Try.func17, Try.ntmps17
  go_wp2_with (first | ((with_reducible refine (at_box (t := 35)) rfl ?_); refine wl_boxA hs rfl rfl rfl ?_; clear hs; intro w1 sb hs) | ((with_reducible refine (at_box (t := 29)) rfl ?_); refine wl_boxA hs rfl rfl rfl ?_; clear hs; intro w1 xb hs) | (go_at_call 14; refine (HW.out _).mono ?_; rintro e w2 ⟨rfl, rfl⟩))
  go_ret2
  exact ⟨rfl, hs.letgo⟩
set_option maxRecDepth 10000 in
theorem rfind_yes (s : Src) (X : Nat → Int) (k : Nat) (w : World) (h : s.In w) (hk : k < 1068) :
    Calls Try.prog 17 #[.agg #[.slice s.ao s.N s.c, .int .i64 s.bad, .int .i64 s.code], .agg (rowOf 18 (gI X)), .int .i64 (k : Int)] w fun e w' => e = .returned (.tuple #[.int .i64 (fnF s X k), .int .i64 (fnE s X k)]) ∧ Tr w [] w' [] := by
  have hs := Tr.refl w []
  have H := Lib.hid h
  have HW := Lib.hid (fun w => rway_yes k w hk)
  have HT := Lib.hid (fun n w h => rtable_any s n w h)
  clear h
  by_cases h2 : k < 12
  · rw [show fnF s X k = X (4 + k) from if_pos h2, show fnE s X k = 0 from if_pos h2]
    rw [show wayV k = _ from if_pos h2] at HW
    have h2I : (k : Int) < 12 := by omega
    go_enter Try.func17, Try.ntmps17
    go_wp2_with (first | ((with_reducible refine (at_box (t := 35)) rfl ?_); refine wl_boxA hs rfl rfl rfl ?_; clear hs; intro w1 sb hs) | ((with_reducible refine (at_box (t := 29)) rfl ?_); refine wl_boxA hs rfl rfl rfl ?_; clear hs; intro w1 xb hs) | (go_at_call 14; refine (HW.out _).mono ?_; rintro e w2 ⟨rfl, rfl⟩) | ((with_reducible refine (at_load (t := 3)) rfl ?_); refine wl_load1 hs rfl rfl Try.underlying3 rfl rfl 0 rfl (rowOf_gI (by omega)) ?_))
    go_ret2
    exact ⟨rfl, hs.letgo⟩
  · by_cases h3 : k < 44
    · rw [show fnF s X k = tbF s (X 16) (k - 12) from (if_neg h2).trans (if_pos h3), show fnE s X k = tbE s (X 16) from (if_neg h2).trans (if_pos h3)]
      rw [show wayV k = _ from (if_neg h2).trans (if_pos h3)] at HW
      obtain ⟨i, rfl⟩ : ∃ i, k = i + 12 := ⟨k - 12, by omega⟩
      rw [show (((i + 12 : Nat) : Int) - 12) = (i : Int) by omega] at HW
      have hi : (i : Int) < 32 := by omega
      rw [show i + 12 - 12 = i by omega]
      have HT1 := Lib.hid (fun w h => HT.out (X 16) w h)
      generalize tbF s (X 16) = T at *
      generalize tbE s (X 16) = E at *
      go_enter Try.func17, Try.ntmps17
      go_wp2_with (first | ((with_reducible refine (at_box (t := 35)) rfl ?_); refine wl_boxA hs rfl rfl rfl ?_; clear hs; intro w1 sb hs) | ((with_reducible refine (at_box (t := 29)) rfl ?_); refine wl_boxA hs rfl rfl rfl ?_; clear hs; intro w1 xb hs) | (go_at_call 14; refine (HW.out _).mono ?_; rintro e w2 ⟨rfl, rfl⟩) | ((with_reducible refine (at_load (t := 35)) rfl ?_); refine wl_loadA hs rfl rfl Try.underlying35 rfl rfl 1 rfl size35 ?_) | ((with_reducible refine (at_load (t := 3)) rfl ?_); refine wl_load1 hs rfl rfl Try.underlying3 rfl rfl 0 rfl (rowOf_gI (by omega)) ?_) | ((with_reducible refine (at_alloc (t := 69)) rfl ?_); refine wl_allocA hs rfl rfl zero69 ?_; clear hs; intro w1 tb hs) | (go_at_call 28; refine (HT1.out _ (H.out.keep hs)).mono ?_; rintro e w2 ⟨rfl, hc⟩; replace hs := hs.call0 hc; clear hc) | ((with_reducible refine (at_store (t := 69)) rfl ?_); refine wl_storeA hs rfl rfl rfl rfl (size69 _) (oneI 32 _) 0 rfl (by simp only [rowOf_size]) ?_; clear hs; intro w1 hs))
      go_ret2
      exact ⟨rfl, hs.letgo⟩
    · rw [show wayV k = _ from (if_neg h2).trans (if_neg h3)] at HW
      rw [show fnF s X k = if tbE s (X 17) ≠ 0 then 0 else tbF s (tbF s (X 17) ((k - 44) / 32)) ((k - 44) % 32) from (if_neg h2).trans (if_neg h3), show fnE s X k = if tbE s (X 17) ≠ 0 then tbE s (X 17) else tbE s (tbF s (X 17) ((k - 44) / 32)) from (if_neg h2).trans (if_neg h3)]
      have hi : (k - 44) / 32 < 32 := by omega
      have hj : (k - 44) % 32 < 32 := by omega
      generalize (k - 44) / 32 = i at *
      generalize (k - 44) % 32 = j at *
      have hiI : (i : Int) < 32 := by omega
      have hjI : (j : Int) < 32 := by omega
      have HT1 := Lib.hid (fun w h => HT.out (X 17) w h)
      by_cases hE : tbE s (X 17) = 0
      · rw [if_neg (by simpa using hE), if_neg (by simpa using hE)]
        generalize tbF s (X 17) = T at *
        generalize tbE s (X 17) = E at *
        subst hE
        have HT2 := Lib.hid (fun w h => HT.out (T i) w h)
        generalize tbF s (T i) = U at *
        generalize tbE s (T i) = E2 at *
        clear HT
        go_enter Try.func17, Try.ntmps17
        go_upto_region 12 with (first | ((with_reducible refine (at_box (t := 35)) rfl ?_); refine wl_boxA hs rfl rfl rfl ?_; clear hs; intro w1 sb hs) | ((with_reducible refine (at_box (t := 29)) rfl ?_); refine wl_boxA hs rfl rfl rfl ?_; clear hs; intro w1 xb hs) | (go_at_call 14; refine (HW.out _).mono ?_; rintro e w2 ⟨rfl, rfl⟩) | ((with_reducible refine (at_load (t := 35)) rfl ?_); refine wl_loadA hs rfl rfl Try.underlying35 rfl rfl 1 rfl size35 ?_) | ((with_reducible refine (at_load (t := 3)) rfl ?_); refine wl_load1 hs rfl rfl Try.underlying3 rfl rfl 0 rfl (rowOf_gI (by omega)) ?_) | ((with_reducible refine (at_alloc (t := 69)) rfl ?_); refine wl_allocA hs rfl rfl zero69 ?_; clear hs; intro w1 tb hs) | (go_at_call 28; refine (HT1.out _ (H.out.keep hs)).mono ?_; rintro e w2 ⟨rfl, hc⟩; replace hs := hs.call0 hc; clear hc) | ((with_reducible refine (at_store (t := 69)) rfl ?_); refine wl_storeA hs rfl rfl rfl rfl (size69 _) (oneI 32 _) 0 rfl (by simp only [rowOf_size]) ?_; clear hs; intro w1 hs))
        refine wt_enter 11 rfl hs (by kernel_rfl) ?_
        clear hs; intro w1 hs; have hC := hs
        refine wt_take 0 rfl (by kernel_rfl) (by kernel_rfl) (by kernel_rfl) (fun _ _ _ _ h => h) rfl hC ⟨_, fun w hw => ex_loadAA (cs := #[.slice s.ao s.N s.c, .int .i64 s.bad, .int .i64 s.code]) rfl Try.underlying35 rfl size35 rfl (hw.getB 2 rfl), fun a1 ha => ?_⟩
        simp only [Act.put, List.setIfInBounds_toArray, List.set_cons_succ, List.set_cons_zero] at ha; subst ha
        refine wt_take 1 rfl (by kernel_rfl) (by kernel_rfl) (by kernel_rfl) (fun _ _ _ _ h => h) rfl hC ⟨_, fun w hw => by (go_simp; try with_reducible rfl), fun a1 ha => ?_⟩
        simp only [Act.put, List.setIfInBounds_toArray, List.set_cons_succ, List.set_cons_zero] at ha; subst ha
        refine wt_take 2 rfl (by kernel_rfl) (by kernel_rfl) (by kernel_rfl) (fun _ _ _ _ h => h) rfl hC ⟨.pointer (some ⟨tb, i, none⟩), fun w hw => ex_indexA1 rfl Try.underlying69 size3 rfl rfl i rfl hi, fun a1 ha => ?_⟩
        simp only [Act.put, List.setIfInBounds_toArray, List.set_cons_succ, List.set_cons_zero] at ha; subst ha
        refine wt_take 3 rfl (by kernel_rfl) (by kernel_rfl) (by kernel_rfl) (fun _ _ _ _ h => h) rfl hC ⟨.int .i64 (T i), fun w hw => ex_load1 rfl Try.underlying3 rfl rfl (by rw [cell_of_row w _ _ _ _ (0, 0) (hw.getB 0 rfl)]; exact rowOf_gI (by omega)), fun a1 ha => ?_⟩
        simp only [Act.put, List.setIfInBounds_toArray, List.set_cons_succ, List.set_cons_zero] at ha; subst ha
        refine wt_all [4, 8] (by kernel_rfl) (by simp) ?_
        refine wt_cons ?_ ?_
        ·
          refine wt_call0 hs rfl rfl (by go_simp) (HT2.out _ (H.out.keep hs)) (by simp only [Act.put, List.setIfInBounds_toArray, List.set_cons_succ, List.set_cons_zero]; rfl) ?_
          clear hs; intro w1 hs
          refine wt_and (hs.sub (by repeat (first | exact List.Sublist.refl _ | refine List.Sublist.cons_cons _ ?_ | refine List.Sublist.cons _ ?_))) fun hC => ?_
          refine wt_take 5 rfl (by kernel_rfl) (by kernel_rfl) (by kernel_rfl) (fun _ _ _ _ h => h) rfl hC ⟨_, fun w hw => by (go_simp; try with_reducible rfl), fun a1 ha => ?_⟩
          simp only [Act.put, List.setIfInBounds_toArray, List.set_cons_succ, List.set_cons_zero] at ha; subst ha
          refine wt_take 6 rfl (by kernel_rfl) (by kernel_rfl) (by kernel_rfl) (fun _ _ _ _ h => h) rfl hC ⟨_, fun w hw => by (go_simp; try with_reducible rfl), fun a1 ha => ?_⟩
          simp only [Act.put, List.setIfInBounds_toArray, List.set_cons_succ, List.set_cons_zero] at ha; subst ha
          refine wt_take 7 rfl (by kernel_rfl) (by kernel_rfl) (by kernel_rfl) (fun _ _ _ _ h => h) rfl hC ⟨_, fun w hw => by (go_simp; try with_reducible rfl), fun a1 ha => ?_⟩
          simp only [Act.put, List.setIfInBounds_toArray, List.set_cons_succ, List.set_cons_zero] at ha; subst ha
          refine wt_one 8 (by kernel_rfl) ?_
          refine wt_allocA hs rfl rfl rfl zero69 (fun _ => by simp only [Act.put, List.setIfInBounds_toArray, List.set_cons_succ, List.set_cons_zero]; rfl) ?_
          clear hs; intro w1 ub hs
          refine wt_and (hs.sub (by repeat (first | exact List.Sublist.refl _ | refine List.Sublist.cons_cons _ ?_ | refine List.Sublist.cons _ ?_))) fun hC => ?_
          refine wt_one 9 (by kernel_rfl) ?_
          refine wt_storeA hs rfl rfl rfl rfl rfl (size69 _) (oneI 32 _) 0 rfl (by simp only [rowOf_size]) (by simp only [Act.put, List.setIfInBounds_toArray, List.set_cons_succ, List.set_cons_zero]; rfl) ?_
          clear hs; intro w1 hs
          refine wt_and (hs.sub (by repeat (first | exact List.Sublist.refl _ | refine List.Sublist.cons_cons _ ?_ | refine List.Sublist.cons _ ?_))) fun hC => ?_
          refine wt_take 10 rfl (by kernel_rfl) (by kernel_rfl) (by kernel_rfl) (fun _ _ _ _ h => h) rfl hC ⟨_, fun w hw => by (go_simp; try with_reducible rfl), fun a1 ha => ?_⟩
          simp only [Act.put, List.setIfInBounds_toArray, List.set_cons_succ, List.set_cons_zero] at ha; subst ha
          refine wt_done (by kernel_rfl) ?_
          go_wp2_with (first | ((with_reducible refine (at_load (t := 3)) rfl ?_); refine wl_load1 hs rfl rfl Try.underlying3 rfl rfl 0 rfl (rowOf_gI (by omega)) ?_))
          go_ret2
          exact ⟨rfl, hs.letgo⟩
        refine wt_cons ?_ ?_
        ·
          refine wt_allocA hs rfl rfl rfl zero69 (fun _ => by simp only [Act.put, List.setIfInBounds_toArray, List.set_cons_succ, List.set_cons_zero]; rfl) ?_
          clear hs; intro w1 ub hs
          refine wt_and (hs.sub (by repeat (first | exact List.Sublist.refl _ | refine List.Sublist.cons_cons _ ?_ | refine List.Sublist.cons _ ?_))) fun hC => ?_
          refine wt_one 4 (by kernel_rfl) ?_
          refine wt_call0 hs rfl rfl (by go_simp) (HT2.out _ (H.out.keep hs)) (by simp only [Act.put, List.setIfInBounds_toArray, List.set_cons_succ, List.set_cons_zero]; rfl) ?_
          clear hs; intro w1 hs
          refine wt_and (hs.sub (by repeat (first | exact List.Sublist.refl _ | refine List.Sublist.cons_cons _ ?_ | refine List.Sublist.cons _ ?_))) fun hC => ?_
          refine wt_take 5 rfl (by kernel_rfl) (by kernel_rfl) (by kernel_rfl) (fun _ _ _ _ h => h) rfl hC ⟨_, fun w hw => by (go_simp; try with_reducible rfl), fun a1 ha => ?_⟩
          simp only [Act.put, List.setIfInBounds_toArray, List.set_cons_succ, List.set_cons_zero] at ha; subst ha
          refine wt_take 6 rfl (by kernel_rfl) (by kernel_rfl) (by kernel_rfl) (fun _ _ _ _ h => h) rfl hC ⟨_, fun w hw => by (go_simp; try with_reducible rfl), fun a1 ha => ?_⟩
          simp only [Act.put, List.setIfInBounds_toArray, List.set_cons_succ, List.set_cons_zero] at ha; subst ha
          refine wt_take 7 rfl (by kernel_rfl) (by kernel_rfl) (by kernel_rfl) (fun _ _ _ _ h => h) rfl hC ⟨_, fun w hw => by (go_simp; try with_reducible rfl), fun a1 ha => ?_⟩
          simp only [Act.put, List.setIfInBounds_toArray, List.set_cons_succ, List.set_cons_zero] at ha; subst ha
          refine wt_one 9 (by kernel_rfl) ?_
          refine wt_storeA hs rfl rfl rfl rfl rfl (size69 _) (oneI 32 _) 0 rfl (by simp only [rowOf_size]) (by simp only [Act.put, List.setIfInBounds_toArray, List.set_cons_succ, List.set_cons_zero]; rfl) ?_
          clear hs; intro w1 hs
          refine wt_and (hs.sub (by repeat (first | exact List.Sublist.refl _ | refine List.Sublist.cons_cons _ ?_ | refine List.Sublist.cons _ ?_))) fun hC => ?_
          refine wt_take 10 rfl (by kernel_rfl) (by kernel_rfl) (by kernel_rfl) (fun _ _ _ _ h => h) rfl hC ⟨_, fun w hw => by (go_simp; try with_reducible rfl), fun a1 ha => ?_⟩
          simp only [Act.put, List.setIfInBounds_toArray, List.set_cons_succ, List.set_cons_zero] at ha; subst ha
          refine wt_done (by kernel_rfl) ?_
          go_wp2_with (first | ((with_reducible refine (at_load (t := 3)) rfl ?_); refine wl_load1 hs rfl rfl Try.underlying3 rfl rfl 0 rfl (rowOf_gI (by omega)) ?_))
          go_ret2
          exact ⟨rfl, hs.letgo⟩
        exact wt_nil
      · rw [if_pos hE, if_pos hE]
        have hz := tbF_err hE
        rw [hz] at HT1
        generalize tbE s (X 17) = E at *
        have tE : (E != 0) = true := by simpa using hE
        clear hE hz HT
        go_enter Try.func17, Try.ntmps17
        go_wp2_with (first | ((with_reducible refine (at_box (t := 35)) rfl ?_); refine wl_boxA hs rfl rfl rfl ?_; clear hs; intro w1 sb hs) | ((with_reducible refine (at_box (t := 29)) rfl ?_); refine wl_boxA hs rfl rfl rfl ?_; clear hs; intro w1 xb hs) | (go_at_call 14; refine (HW.out _).mono ?_; rintro e w2 ⟨rfl, rfl⟩) | ((with_reducible refine (at_load (t := 35)) rfl ?_); refine wl_loadA hs rfl rfl Try.underlying35 rfl rfl 1 rfl size35 ?_) | ((with_reducible refine (at_load (t := 3)) rfl ?_); refine wl_load1 hs rfl rfl Try.underlying3 rfl rfl 0 rfl (rowOf_gI (by omega)) ?_) | ((with_reducible refine (at_alloc (t := 69)) rfl ?_); refine wl_allocA hs rfl rfl zero69 ?_; clear hs; intro w1 tb hs) | (go_at_call 28; refine (HT1.out _ (H.out.keep hs)).mono ?_; rintro e w2 ⟨rfl, hc⟩; replace hs := hs.call0 hc; clear hc) | ((with_reducible refine (at_store (t := 69)) rfl ?_); refine wl_storeA hs rfl rfl rfl rfl (size69 _) (oneI 32 _) 0 rfl (by simp only [rowOf_size]) ?_; clear hs; intro w1 hs))
        go_ret2
        exact ⟨rfl, hs.letgo⟩
end Go.Proofs.Ytdlnfdlgnbkppaa
