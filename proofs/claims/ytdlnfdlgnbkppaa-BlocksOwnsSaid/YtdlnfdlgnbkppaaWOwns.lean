/- Whose the lists are: the walk. -/
import Derived.Test.YtdlnfdlgnbkppaaOw
namespace Go.Proofs.Ytdlnfdlgnbkppaa
set_option linter.unusedVariables false
set_option linter.unusedSimpArgs false
open Go Go.Sp Go.RowKit

set_option maxRecDepth 100000 in
set_option maxHeartbeats 4000000 in
theorem owns_core (X : Nat → Nat → Int) (s : Nat → Src) (C : Nat → Value) (SL : Nat → List (Int × Int)) (TL : Nat → List Int) (SE TE : Nat → Int) (w : World)
    (hC : filesC (fileC (X 0) (s 0)) (fileC (X 1) (s 1)) = C)
    (hC21 : ∀ k, k < 4 → ∀ j, j < 21 → C (0 + k * 21 + j) = fileC (X k) (s k) j) (hC18 : ∀ k, k < 4 → ∀ j, j < 18 → C (k * 21 + j) = gI (X k) j)
    (hI : ∀ k, k < 4 → (s k).In w) (hL : ∀ k, k < 4 → (SL k).length ≤ 1068) (hT : ∀ k, k < 4 → (TL k).length ≤ 34)
    (hS : ∀ k, k < 4 → ∀ mb w', Rdr (s k) mb w' → Calls Try.prog 18 #[.iface 37 (.pointer (some ⟨mb, 0, none⟩)), .agg (rowOf 18 (gI (X k)))] w' (SpP (SE k) (SL k) w'))
    (hRS : ∀ k, k < 4 → ∀ w', (s k).In w' → Calls Try.prog 19 #[.agg #[.slice (s k).ao (s k).N (s k).c, .int .i64 (s k).bad, .int .i64 (s k).code], .agg (rowOf 18 (gI (X k)))] w' (SpP (SE k) (SL k) w'))
    (hTb : ∀ k, k < 4 → ∀ mb w', Rdr (s k) mb w' → Calls Try.prog 20 #[.iface 37 (.pointer (some ⟨mb, 0, none⟩)), .agg (rowOf 18 (gI (X k)))] w' fun e w'' => ∃ v, e = .returned (.tuple #[v, .int .i64 (TE k)]) ∧ Tr w' [] w'' [Res.own 3 1 v (TL k).length (ivs (TL k))])
    (hRT : ∀ k, k < 4 → ∀ w', (s k).In w' → Calls Try.prog 21 #[.agg #[.slice (s k).ao (s k).N (s k).c, .int .i64 (s k).bad, .int .i64 (s k).code], .agg (rowOf 18 (gI (X k)))] w' fun e w'' => ∃ v, e = .returned (.tuple #[v, .int .i64 (TE k)]) ∧ Tr w' [] w'' [Res.own 3 1 v (TL k).length (ivs (TL k))]) :
    Calls Try.prog 7 #[.agg (rowOf 21 (fileC (X 0) (s 0))), .agg (rowOf 21 (fileC (X 1) (s 1)))] w fun e w' => e = .returned (.bool true) ∧ Below w.heap.size w w' := by
  have hs := Tr.refl w []
  have HI := Lib.hid hI
  have HL := Lib.hid hL
  have HT := Lib.hid hT
  have HS := Lib.hid hS
  have HR := Lib.hid hRS
  have HTB := Lib.hid hTb
  have HRTB := Lib.hid hRT
  have HC := Lib.hid hC
  have HC21 := Lib.hid hC21
  have HC18 := Lib.hid hC18
  clear hI hL hT hS hRS hTb hRT hC hC21 hC18
  go_enter Try.func7, Try.ntmps7
  have FLAG := True.intro
  go_upto_region 6 with (first | ((with_reducible refine (at_box (t := 32)) rfl ?_); clear FLAG; refine wl_boxA hs rfl rfl rfl ?_; clear hs; intro w1 xb hs) | ((with_reducible refine (at_box (t := 32)) rfl ?_); refine wl_boxA hs rfl rfl rfl ?_; clear hs; intro w1 gb hs) | (go_at_call 12; refine (known_any _).mono ?_; rintro e w2 ⟨rfl, hc⟩; replace hs := hs.call0 hc; clear hc))
  go_upto_region 8 with (first | ((with_reducible refine (at_load (t := 32)) rfl ?_); refine wl_loadA hs rfl rfl Try.underlying32 rfl rfl 0 rfl (size32 _) ?_) | ((with_reducible refine (at_load (t := 32)) rfl ?_); refine wl_loadA hs rfl rfl Try.underlying32 rfl rfl 1 rfl (size32 _) ?_) | ((with_reducible refine at_buildSlice rfl ?_); refine wl_buildSliceF hs rfl rfl Try.underlying59 info32 (by omega) (by omega) [(0, .agg (rowOf 21 (fileC (X 0) (s 0)))), (1, .agg (rowOf 21 (fileC (X 1) (s 1)))), (2, .agg (rowOf 21 (fileC (X 0) (s 0)))), (3, .agg (rowOf 21 (fileC (X 0) (s 0))))] rfl _ (fun Z hZ => files_fill Z hZ _ _) ?_; clear hs; intro w1 fb hs; rw [HC.out] at hs))
  clear HC
  replace hs := ((hs.erase 1).addNil 33 1).addNil 44 1
  go_wp2_with fail
  go_loopw [6, 7, 9] (fun l t i wr => ∃ (k : Nat) (lv tv : Value) (V T : Nat → Value), k ≤ 4 ∧ i = .int .i64 k ∧ l = lv ∧ t = tv ∧ Tr w [] wr (Res.own 44 1 lv k (rowOf k V).toList :: Res.own 33 1 tv k (rowOf k T).toList :: Res.blk fb (rowOf 84 C) 32 :: Res.blk xb (rowOf 21 (fileC (X 0) (s 0))) 32 :: rows k (fun j => [Res.own 61 2 (V j) (SL j).length (sps (SL j)), Res.own 3 1 (T j) (TL j).length (ivs (TL j))]))) (fun _ _ i _ => 4 - (intOf i).toNat)
  case atStart => exact ⟨0, _, _, fun _ => .slice none 0 0, fun _ => .slice none 0 0, by omega, rfl, rfl, rfl, by rw [rowOf_nil]; exact hs⟩
  case round =>
    clear hs
    obtain ⟨k, lv, tv, V, T, hk, rfl, rfl, rfl, hs⟩ := hrel
    by_cases hlt : k < 4
    · have hltI : (k : Int) < 4 := by omega
      replace HC21 := Lib.hid (HC21.out k hlt)
      replace HC18 := Lib.hid (HC18.out k hlt)
      have HSk := Lib.hid (HS.out k hlt)
      have HTk := Lib.hid (HTB.out k hlt)
      have HIk := Lib.hid (HI.out k hlt)
      have l1 := HL.out k hlt
      have l2 := HT.out k hlt
      clear HS HTB HI HL HT HR HRTB
      generalize s k = sk at *
      go_upto_region 11 with (first | ((with_reducible refine (at_index (t := 59)) rfl ?_); refine wl_index rfl rfl Try.underlying59 size32n rfl rfl k rfl hlt rfl ?_) | ((with_reducible refine (at_load (t := 32)) rfl ?_); refine wl_loadR rfl rfl Try.underlying32 rfl size32n rfl ((hs.rd 2 rfl (by omega)).congr HC21.out) ?_) | (go_at_call 15; refine (source_any (X k) sk _).mono ?_; rintro e w2 ⟨rfl, hc⟩; replace hs := hs.call0 hc; clear hc) | ((with_reducible refine (at_build (t := 39)) rfl ?_); refine wl_buildP rfl rfl (_) (by rfl) ((built39 _ sk.bad sk.code sk.N sk.c sk.ao rfl)) ?_) | ((with_reducible refine (at_box (t := 39)) rfl ?_); refine wl_boxA hs rfl rfl rfl ?_; clear hs; intro w1 mb hs))
      replace hs : Tr w [] w1 (Res.blk mb sk.cs 39 :: _) := hs
      go_upto_region 12 with (first | ((with_reducible refine (at_index (t := 59)) rfl ?_); refine wl_index rfl rfl Try.underlying59 size32n rfl rfl k rfl hlt rfl ?_) | ((with_reducible refine (at_load (t := 29)) rfl ?_); refine wl_loadR rfl rfl Try.underlying29 rfl size29n rfl ((hs.rd 3 rfl (by omega)).congr HC18.out) ?_) | (go_at_call 18; refine (HSk.out mb _ ⟨hs.get 0 rfl, HIk.out.keep hs⟩).mono ?_; rintro e w2 ⟨v1, rfl, hc⟩; replace hs := hs.call1 hc; clear hc))
      clear HSk
      go_upto_region 13 with (first | ((with_reducible refine (at_index (t := 59)) rfl ?_); refine wl_index rfl rfl Try.underlying59 size32n rfl rfl k rfl hlt rfl ?_) | ((with_reducible refine (at_load (t := 29)) rfl ?_); refine wl_loadR rfl rfl Try.underlying29 rfl size29n rfl ((hs.rd 4 rfl (by omega)).congr HC18.out) ?_) | (go_at_call 20; refine (HTk.out mb _ ⟨hs.get 1 rfl, HIk.out.keep hs⟩).mono ?_; rintro e w2 ⟨v2, rfl, hc⟩; replace hs := hs.call1 hc; clear hc))
      clear HTk HC21 HC18
      obtain ⟨ao1, c1, g1, hv1, _⟩ := hs.own_open 1 rfl
      obtain ⟨ao2, c2, g2, hv2, _⟩ := hs.own_open 0 rfl
      subst hv1 hv2
      go_upto_region 14 with (first | ((with_reducible refine (at_buildSlice (t := 57)) rfl ?_); refine wl_buildSliceV hs rfl rfl Try.underlying57 info44 (by omega) (by omega) [.slice ao1 (SL k).length c1] rfl rfl (by simp [Value.oneCell']) ?_; clear hs; intro w1 eb hs) | ((with_reducible refine (at_bi .append) rfl ?_); refine wl_append1 hs rfl rfl Try.underlying57 info44 rfl (by omega) 4 rfl rfl 0 rfl rfl rfl (by simp [Value.oneCell']) (by unfold maxLen; omega) (by omega) ?_; clear hs; intro w1 v1 hs))
      go_wp2_with (first | ((with_reducible refine (at_buildSlice (t := 58)) rfl ?_); refine wl_buildSliceV hs rfl rfl Try.underlying58 info33 (by omega) (by omega) [.slice ao2 (TL k).length c2] rfl rfl (by simp [Value.oneCell']) ?_; clear hs; intro w1 eb hs) | ((with_reducible refine (at_bi .append) rfl ?_); refine wl_append1 hs rfl rfl Try.underlying58 info33 rfl (by omega) 6 rfl rfl 0 rfl rfl rfl (by simp [Value.oneCell']) (by unfold maxLen; omega) (by omega) ?_; clear hs; intro w1 v1 hs))
      go_roundw
      case rel =>
        refine ⟨k + 1, _, _, putV V k (.slice ao1 (SL k).length c1), putV T k (.slice ao2 (TL k).length c2), by omega, by go_num, rfl, rfl, ?_⟩
        rw [← row_upd (fun j hj => putV_lt V _ hj) (putV_at V k _), ← row_upd (fun j hj => putV_lt T _ hj) (putV_at T k _), rows_succ, rows_congr (G := fun j => [Res.own 61 2 (V j) (SL j).length (sps (SL j)), Res.own 3 1 (T j) (TL j).length (ivs (TL j))]) (fun j hj => by simp only [putV_lt _ _ hj])]
        simp only [putV_at]
        exact (((hs.erase 0).erase 0).erase 2).perm (perm_snoc2 _ _ [_, _, _, _] _)
      case measure => simp [intOf]; omega
    · obtain rfl : k = 4 := by omega
      obtain ⟨aoL, lc, lg, hv, _, _, haL, _⟩ := hs.own_open 0 rfl
      obtain rfl := haL (by omega)
      subst hv
      obtain ⟨aoL, tc, tg, hv, _, _, haL, _⟩ := hs.own_open 1 rfl
      obtain rfl := haL (by omega)
      subst hv
      clear haL
      go_wp2_with fail
      go_loopw [15] (fun i wr => ∃ k : Nat, k ≤ 4 ∧ i = .int .i64 k ∧ Tr w [] wr (Res.own 44 1 (.slice (some ⟨lg, 0, none⟩) 4 lc) 4 (rowOf 4 V).toList :: Res.own 33 1 (.slice (some ⟨tg, 0, none⟩) 4 tc) 4 (rowOf 4 T).toList :: Res.blk fb (rowOf 84 C) 32 :: Res.blk xb (rowOf 21 (fileC (X 0) (s 0))) 32 :: rows 4 (fun j => [Res.own 61 2 (V j) (SL j).length (sps (SL j)), Res.own 3 1 (T j) (TL j).length (ivs (TL j))]))) (fun i _ => 4 - (intOf i).toNat)
      case atStart => exact ⟨4 - 4, by omega, rfl, hs⟩
      case round =>
        clear hs
        obtain ⟨k, hk, rfl, hs⟩ := hrel
        by_cases hlt : k < 4
        · have hltI : (k : Int) < 4 := by omega
          obtain ⟨R', hs1, hback⟩ := Tr.pull (B := [Res.own 44 1 (.slice (some ⟨lg, 0, none⟩) 4 lc) 4 (rowOf 4 V).toList, Res.own 33 1 (.slice (some ⟨tg, 0, none⟩) 4 tc) 4 (rowOf 4 T).toList, Res.blk fb (rowOf 84 C) 32, Res.blk xb (rowOf 21 (fileC (X 0) (s 0))) 32]) (F := fun j => [Res.own 61 2 (V j) (SL j).length (sps (SL j)), Res.own 3 1 (T j) (TL j).length (ivs (TL j))]) hs hlt
          clear hs
          have hs : Tr w [] wr (Res.own 61 2 (V k) (SL k).length (sps (SL k)) :: Res.own 3 1 (T k) (TL k).length (ivs (TL k)) :: Res.own 44 1 (.slice (some ⟨lg, 0, none⟩) 4 lc) 4 (rowOf 4 V).toList :: Res.own 33 1 (.slice (some ⟨tg, 0, none⟩) 4 tc) 4 (rowOf 4 T).toList :: Res.blk fb (rowOf 84 C) 32 :: Res.blk xb (rowOf 21 (fileC (X 0) (s 0))) 32 :: R') := hs1
          clear hs1
          have HB := Lib.hid hback
          clear hback
          replace HC21 := Lib.hid (HC21.out k hlt)
          replace HC18 := Lib.hid (HC18.out k hlt)
          have HRS := Lib.hid (HR.out k hlt)
          have HRT := Lib.hid (HRTB.out k hlt)
          have H := Lib.hid (HI.out k hlt)
          have l1 := HL.out k hlt
          have l2 := HT.out k hlt
          have HVk := Lib.hid (row_at V hlt)
          have HTk := Lib.hid (row_at T hlt)
          clear HS HTB HI HL HT HR HRTB
          generalize s k = sk at *
          go_upto_region 19 with (first | ((with_reducible refine (at_index (t := 59)) rfl ?_); refine wl_index rfl rfl Try.underlying59 size32n rfl rfl k rfl hlt rfl ?_) | ((with_reducible refine (at_load (t := 32)) rfl ?_); refine wl_loadR rfl rfl Try.underlying32 rfl size32n rfl ((hs.rd 4 rfl (by omega)).congr HC21.out) ?_) | (go_at_call 15; refine (source_any (X k) sk _).mono ?_; rintro e w2 ⟨rfl, hc⟩; replace hs := hs.call0 hc; clear hc) | ((with_reducible refine (at_alloc (t := 35)) rfl ?_); refine wl_allocA hs rfl rfl zero35 ?_; clear hs; intro w1 sb hs) | ((with_reducible refine (at_store (t := 35)) rfl ?_); refine wl_storeA hs rfl rfl rfl rfl size35 (by simp [Value.oneCell']) 0 rfl rfl ?_; clear hs; intro w1 hs))
          replace hs : Tr w [] w1 (Res.blk sb sk.cs 35 :: _) := hs
          refine wt_enter 12 rfl hs (by kernel_rfl) ?_
          clear hs; intro w1 hs; have hC := hs
          refine wt_take 0 rfl (by kernel_rfl) (by kernel_rfl) (by kernel_rfl) (fun _ _ _ _ h => h) rfl hC ⟨_, fun w hw => ex_loadAA (cs := sk.cs) rfl Try.underlying35 rfl size35 rfl (hw.getB 0 rfl), fun a1 ha => ?_⟩
          simp only [Act.put, List.setIfInBounds_toArray, List.set_cons_succ, List.set_cons_zero] at ha; subst ha
          refine wt_take 1 rfl (by kernel_rfl) (by kernel_rfl) (by kernel_rfl) (fun _ _ _ _ h => h) rfl hC ⟨_, fun w hw => by (go_simp; try with_reducible rfl), fun a1 ha => ?_⟩
          simp only [Act.put, List.setIfInBounds_toArray, List.set_cons_succ, List.set_cons_zero] at ha; subst ha
          refine wt_take 2 rfl (by kernel_rfl) (by kernel_rfl) (by kernel_rfl) (fun _ _ _ _ h => h) rfl hC ⟨_, fun w hw => by (go_simp; try with_reducible rfl), fun a1 ha => ?_⟩
          simp only [Act.put, List.setIfInBounds_toArray, List.set_cons_succ, List.set_cons_zero] at ha; subst ha
          refine wt_take 3 rfl (by kernel_rfl) (by kernel_rfl) (by kernel_rfl) (fun _ _ _ _ h => h) rfl hC ⟨_, fun w hw => ex_indexS rfl Try.underlying59 size32n rfl rfl k rfl hlt rfl, fun a1 ha => ?_⟩
          simp only [Act.put, List.setIfInBounds_toArray, List.set_cons_succ, List.set_cons_zero] at ha; subst ha
          refine wt_take 4 rfl (by kernel_rfl) (by kernel_rfl) (by kernel_rfl) (fun _ _ _ _ h => h) rfl hC ⟨_, fun w hw => by (go_simp; try with_reducible rfl), fun a1 ha => ?_⟩
          simp only [Act.put, List.setIfInBounds_toArray, List.set_cons_succ, List.set_cons_zero] at ha; subst ha
          refine wt_take 5 rfl (by kernel_rfl) (by kernel_rfl) (by kernel_rfl) (fun _ _ _ _ h => h) rfl hC ⟨_, fun w hw => ex_loadA rfl Try.underlying29 rfl size29n rfl ((hw.rd 5 rfl (by omega)).congr HC18.out), fun a1 ha => ?_⟩
          simp only [Act.put, List.setIfInBounds_toArray, List.set_cons_succ, List.set_cons_zero] at ha; subst ha
          refine wt_one 6 (by kernel_rfl) ?_
          refine wt_callF (R := fun v => Res.own 61 2 v (SL k).length (sps (SL k))) (fun v => .tuple #[v, .int .i64 (SE k)]) hs rfl rfl (by go_simp) (HRS.out _ (H.out.keep hs)) (fun _ => by simp only [Act.put, List.setIfInBounds_toArray, List.set_cons_succ, List.set_cons_zero]; rfl) ?_
          clear hs; intro w1 v1 hs
          refine wt_and (hs.sub (by repeat (first | exact List.Sublist.refl _ | refine List.Sublist.cons_cons _ ?_ | refine List.Sublist.cons _ ?_))) fun hC => ?_
          refine wt_take 7 rfl (by kernel_rfl) (by kernel_rfl) (by kernel_rfl) (fun _ _ _ _ h => h) rfl hC ⟨_, fun w hw => by (go_simp; try with_reducible rfl), fun a1 ha => ?_⟩
          simp only [Act.put, List.setIfInBounds_toArray, List.set_cons_succ, List.set_cons_zero] at ha; subst ha
          refine wt_take 8 rfl (by kernel_rfl) (by kernel_rfl) (by kernel_rfl) (fun _ _ _ _ h => h) rfl hC ⟨_, fun w hw => by (go_simp; try with_reducible rfl), fun a1 ha => ?_⟩
          simp only [Act.put, List.setIfInBounds_toArray, List.set_cons_succ, List.set_cons_zero] at ha; subst ha
          refine wt_take 9 rfl (by kernel_rfl) (by kernel_rfl) (by kernel_rfl) (fun _ _ _ _ h => h) rfl hC ⟨_, fun w hw => by (go_simp; try with_reducible rfl), fun a1 ha => ?_⟩
          simp only [Act.put, List.setIfInBounds_toArray, List.set_cons_succ, List.set_cons_zero] at ha; subst ha
          refine wt_take 10 rfl (by kernel_rfl) (by kernel_rfl) (by kernel_rfl) (fun _ _ _ _ h => h) rfl hC ⟨_, fun w hw => by (go_simp; try with_reducible rfl), fun a1 ha => ?_⟩
          simp only [Act.put, List.setIfInBounds_toArray, List.set_cons_succ, List.set_cons_zero] at ha; subst ha
          refine wt_take 11 rfl (by kernel_rfl) (by kernel_rfl) (by kernel_rfl) (fun _ _ _ _ h => h) rfl hC ⟨_, fun w hw => by (go_simp; try with_reducible rfl), fun a1 ha => ?_⟩
          simp only [Act.put, List.setIfInBounds_toArray, List.set_cons_succ, List.set_cons_zero] at ha; subst ha
          refine wt_done (by kernel_rfl) ?_
          skip
          clear hC
          go_upto_region 20 with fail
          refine wt_enter 12 rfl hs (by kernel_rfl) ?_
          clear hs; intro w1 hs; have hC := hs
          refine wt_take 0 rfl (by kernel_rfl) (by kernel_rfl) (by kernel_rfl) (fun _ _ _ _ h => h) rfl hC ⟨_, fun w hw => ex_loadAA (cs := sk.cs) rfl Try.underlying35 rfl size35 rfl (hw.getB 1 rfl), fun a1 ha => ?_⟩
          simp only [Act.put, List.setIfInBounds_toArray, List.set_cons_succ, List.set_cons_zero] at ha; subst ha
          refine wt_take 1 rfl (by kernel_rfl) (by kernel_rfl) (by kernel_rfl) (fun _ _ _ _ h => h) rfl hC ⟨_, fun w hw => by (go_simp; try with_reducible rfl), fun a1 ha => ?_⟩
          simp only [Act.put, List.setIfInBounds_toArray, List.set_cons_succ, List.set_cons_zero] at ha; subst ha
          refine wt_take 2 rfl (by kernel_rfl) (by kernel_rfl) (by kernel_rfl) (fun _ _ _ _ h => h) rfl hC ⟨_, fun w hw => by (go_simp; try with_reducible rfl), fun a1 ha => ?_⟩
          simp only [Act.put, List.setIfInBounds_toArray, List.set_cons_succ, List.set_cons_zero] at ha; subst ha
          refine wt_take 3 rfl (by kernel_rfl) (by kernel_rfl) (by kernel_rfl) (fun _ _ _ _ h => h) rfl hC ⟨_, fun w hw => ex_indexS rfl Try.underlying59 size32n rfl rfl k rfl hlt rfl, fun a1 ha => ?_⟩
          simp only [Act.put, List.setIfInBounds_toArray, List.set_cons_succ, List.set_cons_zero] at ha; subst ha
          refine wt_take 4 rfl (by kernel_rfl) (by kernel_rfl) (by kernel_rfl) (fun _ _ _ _ h => h) rfl hC ⟨_, fun w hw => by (go_simp; try with_reducible rfl), fun a1 ha => ?_⟩
          simp only [Act.put, List.setIfInBounds_toArray, List.set_cons_succ, List.set_cons_zero] at ha; subst ha
          refine wt_take 5 rfl (by kernel_rfl) (by kernel_rfl) (by kernel_rfl) (fun _ _ _ _ h => h) rfl hC ⟨_, fun w hw => ex_loadA rfl Try.underlying29 rfl size29n rfl ((hw.rd 6 rfl (by omega)).congr HC18.out), fun a1 ha => ?_⟩
          simp only [Act.put, List.setIfInBounds_toArray, List.set_cons_succ, List.set_cons_zero] at ha; subst ha
          refine wt_one 6 (by kernel_rfl) ?_
          refine wt_callF (R := fun v => Res.own 3 1 v (TL k).length (ivs (TL k))) (fun v => .tuple #[v, .int .i64 (TE k)]) hs rfl rfl (by go_simp) (HRT.out _ (H.out.keep hs)) (fun _ => by simp only [Act.put, List.setIfInBounds_toArray, List.set_cons_succ, List.set_cons_zero]; rfl) ?_
          clear hs; intro w1 v1 hs
          refine wt_and (hs.sub (by repeat (first | exact List.Sublist.refl _ | refine List.Sublist.cons_cons _ ?_ | refine List.Sublist.cons _ ?_))) fun hC => ?_
          refine wt_take 7 rfl (by kernel_rfl) (by kernel_rfl) (by kernel_rfl) (fun _ _ _ _ h => h) rfl hC ⟨_, fun w hw => by (go_simp; try with_reducible rfl), fun a1 ha => ?_⟩
          simp only [Act.put, List.setIfInBounds_toArray, List.set_cons_succ, List.set_cons_zero] at ha; subst ha
          refine wt_take 8 rfl (by kernel_rfl) (by kernel_rfl) (by kernel_rfl) (fun _ _ _ _ h => h) rfl hC ⟨_, fun w hw => by (go_simp; try with_reducible rfl), fun a1 ha => ?_⟩
          simp only [Act.put, List.setIfInBounds_toArray, List.set_cons_succ, List.set_cons_zero] at ha; subst ha
          refine wt_take 9 rfl (by kernel_rfl) (by kernel_rfl) (by kernel_rfl) (fun _ _ _ _ h => h) rfl hC ⟨_, fun w hw => by (go_simp; try with_reducible rfl), fun a1 ha => ?_⟩
          simp only [Act.put, List.setIfInBounds_toArray, List.set_cons_succ, List.set_cons_zero] at ha; subst ha
          refine wt_take 10 rfl (by kernel_rfl) (by kernel_rfl) (by kernel_rfl) (fun _ _ _ _ h => h) rfl hC ⟨_, fun w hw => by (go_simp; try with_reducible rfl), fun a1 ha => ?_⟩
          simp only [Act.put, List.setIfInBounds_toArray, List.set_cons_succ, List.set_cons_zero] at ha; subst ha
          refine wt_take 11 rfl (by kernel_rfl) (by kernel_rfl) (by kernel_rfl) (fun _ _ _ _ h => h) rfl hC ⟨_, fun w hw => by (go_simp; try with_reducible rfl), fun a1 ha => ?_⟩
          simp only [Act.put, List.setIfInBounds_toArray, List.set_cons_succ, List.set_cons_zero] at ha; subst ha
          refine wt_done (by kernel_rfl) ?_
          skip
          clear hC HC21 HC18 HRS HRT
          go_wp2_with (first | ((with_reducible refine (at_index (t := 57)) rfl ?_); refine wl_index rfl rfl Try.underlying57 size44 rfl rfl k rfl hlt rfl ?_) | ((with_reducible refine (at_index (t := 58)) rfl ?_); refine wl_index rfl rfl Try.underlying58 size33 rfl rfl k rfl hlt rfl ?_) | ((with_reducible refine (at_load (t := 44)) rfl ?_); refine wl_loadC rfl rfl Try.underlying44 rfl rfl (by rw [Nat.zero_add, Nat.mul_one]; exact hs.own_cell 5 rfl HVk.out) ?_) | ((with_reducible refine (at_load (t := 33)) rfl ?_); refine wl_loadC rfl rfl Try.underlying33 rfl rfl (by rw [Nat.zero_add, Nat.mul_one]; exact hs.own_cell 6 rfl HTk.out) ?_) | (go_at_call 22; refine (spots_cmp hs 3 1 rfl rfl (by omega)).mono ?_; rintro e w2 ⟨rfl, hc⟩; replace hs := hs.call0 hc; clear hc) | (go_at_call 23; refine (ints_cmp hs 4 0 rfl rfl (by omega)).mono ?_; rintro e w2 ⟨rfl, hc⟩; replace hs := hs.call0 hc; clear hc))
          go_roundw
          case rel => exact ⟨k + 1, by omega, by go_num, HB.out _ [_, _, _, _] _ (fun _ _ _ => rfl) (((hs.erase 0).erase 0).erase 0)⟩
          case measure => simp [intOf]; omega
        · obtain rfl : k = 4 := by omega
          go_wp2_with fail
          go_loopw [21] (fun i wr => ∃ k : Nat, k ≤ 4 ∧ i = .int .i64 k ∧ Tr w [] wr (Res.own 44 1 (.slice (some ⟨lg, 0, none⟩) 4 lc) 4 (rowOf 4 V).toList :: Res.own 33 1 (.slice (some ⟨tg, 0, none⟩) 4 tc) 4 (rowOf 4 T).toList :: Res.blk fb (rowOf 84 C) 32 :: Res.blk xb (rowOf 21 (fileC (X 0) (s 0))) 32 :: rows 4 (fun j => if j < k then (fun j => [Res.own 61 2 (V j) (SL j).length (sps (List.replicate (SL j).length (-(j : Int) - 1, (0 : Int)))), Res.own 3 1 (T j) (TL j).length (ivs (List.replicate (TL j).length (-(j : Int) - 1)))]) j else (fun j => [Res.own 61 2 (V j) (SL j).length (sps (SL j)), Res.own 3 1 (T j) (TL j).length (ivs (TL j))]) j))) (fun i _ => 4 - (intOf i).toNat)
          case atStart => exact ⟨4 - 4, by omega, rfl, by rw [rows_congr (G := fun j => [Res.own 61 2 (V j) (SL j).length (sps (SL j)), Res.own 3 1 (T j) (TL j).length (ivs (TL j))]) (fun j _ => if_neg (Nat.not_lt_zero j))]; exact hs⟩
          case round =>
            clear hs
            obtain ⟨k, hk, rfl, hs⟩ := hrel
            by_cases hlt : k < 4
            · have hltI : (k : Int) < 4 := by omega
              obtain ⟨R', hs1, hback⟩ := Tr.pull (B := [Res.own 44 1 (.slice (some ⟨lg, 0, none⟩) 4 lc) 4 (rowOf 4 V).toList, Res.own 33 1 (.slice (some ⟨tg, 0, none⟩) 4 tc) 4 (rowOf 4 T).toList, Res.blk fb (rowOf 84 C) 32, Res.blk xb (rowOf 21 (fileC (X 0) (s 0))) 32]) (F := fun j => if j < k then (fun j => [Res.own 61 2 (V j) (SL j).length (sps (List.replicate (SL j).length (-(j : Int) - 1, (0 : Int)))), Res.own 3 1 (T j) (TL j).length (ivs (List.replicate (TL j).length (-(j : Int) - 1)))]) j else (fun j => [Res.own 61 2 (V j) (SL j).length (sps (SL j)), Res.own 3 1 (T j) (TL j).length (ivs (TL j))]) j) hs hlt
              clear hs
              simp only [if_neg (Nat.lt_irrefl k)] at hs1
              have hs : Tr w [] wr (Res.own 61 2 (V k) (SL k).length (sps (SL k)) :: Res.own 3 1 (T k) (TL k).length (ivs (TL k)) :: Res.own 44 1 (.slice (some ⟨lg, 0, none⟩) 4 lc) 4 (rowOf 4 V).toList :: Res.own 33 1 (.slice (some ⟨tg, 0, none⟩) 4 tc) 4 (rowOf 4 T).toList :: Res.blk fb (rowOf 84 C) 32 :: Res.blk xb (rowOf 21 (fileC (X 0) (s 0))) 32 :: R') := hs1
              clear hs1
              have HB := Lib.hid hback
              clear hback
              have l1 := HL.out k hlt
              have l2 := HT.out k hlt
              obtain ⟨aoV, cV, gV, hV, _, _, haV, _⟩ := hs.own_open 0 rfl
              obtain ⟨aoT, cT, gT, hT, _, _, haT, _⟩ := hs.own_open 1 rfl
              rw [hV, hT] at hs
              have HVk := Lib.hid (row_at V hlt)
              have HTk := Lib.hid (row_at T hlt)
              rw [hV] at HVk
              rw [hT] at HTk
              have HV := Lib.hid hV
              have HTv := Lib.hid hT
              have HAV := Lib.hid haV
              have HAT := Lib.hid haT
              clear hV hT haV haT
              have bk : -(9 : Int) ≤ -(k : Int) - 1 := by omega
              go_wp2_with fail
              go_loopw [22] (fun j wr => ∃ q : Nat, q ≤ (SL k).length ∧ j = .int .i64 q ∧ Tr w [] wr (Res.own 61 2 (.slice aoV (SL k).length cV) (SL k).length (sps (mkS (-(k : Int) - 1) (SL k) q)) :: Res.own 3 1 (.slice aoT (TL k).length cT) (TL k).length (ivs (TL k)) :: Res.own 44 1 (.slice (some ⟨lg, 0, none⟩) 4 lc) 4 (rowOf 4 V).toList :: Res.own 33 1 (.slice (some ⟨tg, 0, none⟩) 4 tc) 4 (rowOf 4 T).toList :: Res.blk fb (rowOf 84 C) 32 :: Res.blk xb (rowOf 21 (fileC (X 0) (s 0))) 32 :: R')) (fun j _ => (SL k).length - (intOf j).toNat)
              case atStart => exact ⟨k - k, by omega, by rw [Nat.sub_self]; rfl, by rw [Nat.sub_self, mkS_zero]; exact hs⟩
              case round =>
                clear hs
                obtain ⟨q, hq, rfl, hs⟩ := hrel
                by_cases hqt : q < (SL k).length
                · have hqI : (q : Int) < (SL k).length := by omega
                  have hao := HAV.out (by omega)
                  subst hao
                  have HST := Lib.hid (@mkS_step (-(k : Int) - 1) (SL k) q hqt)
                  go_wp2_with (first | ((with_reducible refine (at_index (t := 57)) rfl ?_); refine wl_index rfl rfl Try.underlying57 size44 rfl rfl k rfl hlt rfl ?_) | ((with_reducible refine (at_load (t := 44)) rfl ?_); refine wl_loadC rfl rfl Try.underlying44 rfl rfl (by rw [Nat.zero_add, Nat.mul_one]; exact hs.own_cell 2 rfl HVk.out) ?_) | ((with_reducible refine (at_build (t := 61)) rfl ?_); refine wl_buildP rfl rfl (_) (by rfl) ((built61a _)) ?_) | ((with_reducible refine (at_index (t := 44)) rfl ?_); refine wl_index rfl rfl Try.underlying44 size61 rfl rfl q rfl hqt rfl ?_) | ((with_reducible refine (at_store (t := 61)) rfl ?_); refine wl_storeO (off := q * 2) hs rfl rfl size61 (by first | rfl | (rw [Nat.zero_add]; rfl)) rfl rfl (by simp [Value.oneCell']) 0 rfl (by rw [sps_len, mkS_len _ hq]; omega) (sps (mkS (-(k : Int) - 1) (SL k) (q + 1))) HST.out ?_; clear hs; intro w1 hs))
                  go_roundw
                  case rel => exact ⟨q + 1, by omega, by go_num, hs⟩
                  case measure => simp [intOf]; omega
                · obtain rfl : q = (SL k).length := by omega
                  rw [mkS_all] at hs
                  go_wp2_with (first | ((with_reducible refine (at_index (t := 57)) rfl ?_); refine wl_index rfl rfl Try.underlying57 size44 rfl rfl k rfl hlt rfl ?_) | ((with_reducible refine (at_load (t := 44)) rfl ?_); refine wl_loadC rfl rfl Try.underlying44 rfl rfl (by rw [Nat.zero_add, Nat.mul_one]; exact hs.own_cell 2 rfl HVk.out) ?_))
                  go_loopw [23] (fun j wr => ∃ q : Nat, q ≤ (TL k).length ∧ j = .int .i64 q ∧ Tr w [] wr (Res.own 61 2 (.slice aoV (SL k).length cV) (SL k).length (sps (List.replicate (SL k).length (-(k : Int) - 1, (0 : Int)))) :: Res.own 3 1 (.slice aoT (TL k).length cT) (TL k).length (ivs (mkI (-(k : Int) - 1) (TL k) q)) :: Res.own 44 1 (.slice (some ⟨lg, 0, none⟩) 4 lc) 4 (rowOf 4 V).toList :: Res.own 33 1 (.slice (some ⟨tg, 0, none⟩) 4 tc) 4 (rowOf 4 T).toList :: Res.blk fb (rowOf 84 C) 32 :: Res.blk xb (rowOf 21 (fileC (X 0) (s 0))) 32 :: R')) (fun j _ => (TL k).length - (intOf j).toNat)
                  case atStart => exact ⟨k - k, by omega, by rw [Nat.sub_self]; rfl, by rw [Nat.sub_self, mkI_zero]; exact hs⟩
                  case round =>
                    clear hs hq hqt
                    obtain ⟨q, hq, rfl, hs⟩ := hrel
                    by_cases hqt : q < (TL k).length
                    · have hqI : (q : Int) < (TL k).length := by omega
                      have hao := HAT.out (by omega)
                      subst hao
                      have HST := Lib.hid (@mkI_step (-(k : Int) - 1) (TL k) q hqt)
                      go_wp2_with (first | ((with_reducible refine (at_index (t := 58)) rfl ?_); refine wl_index rfl rfl Try.underlying58 size33 rfl rfl k rfl hlt rfl ?_) | ((with_reducible refine (at_load (t := 33)) rfl ?_); refine wl_loadC rfl rfl Try.underlying33 rfl rfl (by rw [Nat.zero_add, Nat.mul_one]; exact hs.own_cell 3 rfl HTk.out) ?_) | ((with_reducible refine (at_index (t := 33)) rfl ?_); refine wl_index rfl rfl Try.underlying33 size3 rfl rfl q rfl hqt rfl ?_) | ((with_reducible refine (at_store (t := 3)) rfl ?_); refine wl_storeO1 (off := q) hs rfl rfl size3 (by first | rfl | (rw [Nat.zero_add, Nat.mul_one]; rfl)) rfl rfl 1 rfl (by rw [ivsLen, mkI_len _ hq]; omega) (ivs (mkI (-(k : Int) - 1) (TL k) (q + 1))) HST.out ?_; clear hs; intro w1 hs))
                      go_roundw
                      case rel => exact ⟨q + 1, by omega, by go_num, hs⟩
                      case measure => simp [intOf]; omega
                    · obtain rfl : q = (TL k).length := by omega
                      rw [mkI_all] at hs
                      go_wp2_with (first | ((with_reducible refine (at_index (t := 58)) rfl ?_); refine wl_index rfl rfl Try.underlying58 size33 rfl rfl k rfl hlt rfl ?_) | ((with_reducible refine (at_load (t := 33)) rfl ?_); refine wl_loadC rfl rfl Try.underlying33 rfl rfl (by rw [Nat.zero_add, Nat.mul_one]; exact hs.own_cell 3 rfl HTk.out) ?_))
                      go_roundw
                      case rel =>
                        rw [← HV.out, ← HTv.out] at hs
                        (repeat apply Exists.intro)
                        exact ⟨⟨k + 1, by omega, by go_num, HB.out _ [_, _, _, _] _ (fun j _ hne => if_step hne) (by rw [if_pos (Nat.lt_succ_self k)]; exact hs)⟩, rfl⟩
                      case measure => simp [intOf]; omega
            · obtain rfl : k = 4 := by omega
              rw [rows_congr (G := fun j => [Res.own 61 2 (V j) (SL j).length (sps (List.replicate (SL j).length (-(j : Int) - 1, (0 : Int)))), Res.own 3 1 (T j) (TL j).length (ivs (List.replicate (TL j).length (-(j : Int) - 1)))]) (fun j hj => if_pos hj)] at hs
              replace hs := ((hs.erase 2).addNil 33 1).addNil 44 1
              go_wp2_with fail
              go_loopw [24, 25, 26] (fun mo wo i wr => ∃ (k : Nat) (mv wv : Value) (MV WV : Nat → Value), k ≤ 4 ∧ i = .int .i64 k ∧ mo = mv ∧ wo = wv ∧ Tr w [] wr (Res.own 44 1 mv k (rowOf k MV).toList :: Res.own 33 1 wv k (rowOf k WV).toList :: Res.own 44 1 (.slice (some ⟨lg, 0, none⟩) 4 lc) 4 (rowOf 4 V).toList :: Res.own 33 1 (.slice (some ⟨tg, 0, none⟩) 4 tc) 4 (rowOf 4 T).toList :: Res.blk xb (rowOf 21 (fileC (X 0) (s 0))) 32 :: rows 4 (fun j => if j < k then (fun j => [Res.pair 61 2 (V j) (SL j).length (sps (List.replicate (SL j).length (-(j : Int) - 1, (0 : Int)))) (MV j) 20 (sps (g20S ((j : Int) + 1))), Res.pair 3 1 (T j) (TL j).length (ivs (List.replicate (TL j).length (-(j : Int) - 1))) (WV j) 20 (ivs (g20I ((j : Int) + 1)))]) j else (fun j => [Res.own 61 2 (V j) (SL j).length (sps (List.replicate (SL j).length (-(j : Int) - 1, (0 : Int)))), Res.own 3 1 (T j) (TL j).length (ivs (List.replicate (TL j).length (-(j : Int) - 1)))]) j))) (fun _ _ i _ => 4 - (intOf i).toNat)
              case atStart => exact ⟨0, _, _, fun _ => .slice none 0 0, fun _ => .slice none 0 0, by omega, rfl, rfl, rfl, by rw [rowOf_nil, rows_congr (G := fun j => [Res.own 61 2 (V j) (SL j).length (sps (List.replicate (SL j).length (-(j : Int) - 1, (0 : Int)))), Res.own 3 1 (T j) (TL j).length (ivs (List.replicate (TL j).length (-(j : Int) - 1)))]) (fun j _ => if_neg (Nat.not_lt_zero j))]; exact hs⟩
              case round =>
                clear hs
                obtain ⟨k, mv, wv, MV, WV, hk, rfl, rfl, rfl, hs⟩ := hrel
                by_cases hlt : k < 4
                · have hltI : (k : Int) < 4 := by omega
                  obtain ⟨R', hs1, hback⟩ := Tr.pull (B := [Res.own 44 1 u24 k (rowOf k MV).toList, Res.own 33 1 u25 k (rowOf k WV).toList, Res.own 44 1 (.slice (some ⟨lg, 0, none⟩) 4 lc) 4 (rowOf 4 V).toList, Res.own 33 1 (.slice (some ⟨tg, 0, none⟩) 4 tc) 4 (rowOf 4 T).toList, Res.blk xb (rowOf 21 (fileC (X 0) (s 0))) 32]) (F := fun j => if j < k then (fun j => [Res.pair 61 2 (V j) (SL j).length (sps (List.replicate (SL j).length (-(j : Int) - 1, (0 : Int)))) (MV j) 20 (sps (g20S ((j : Int) + 1))), Res.pair 3 1 (T j) (TL j).length (ivs (List.replicate (TL j).length (-(j : Int) - 1))) (WV j) 20 (ivs (g20I ((j : Int) + 1)))]) j else (fun j => [Res.own 61 2 (V j) (SL j).length (sps (List.replicate (SL j).length (-(j : Int) - 1, (0 : Int)))), Res.own 3 1 (T j) (TL j).length (ivs (List.replicate (TL j).length (-(j : Int) - 1)))]) j) hs hlt
                  clear hs
                  simp only [if_neg (Nat.lt_irrefl k)] at hs1
                  have hs : Tr w [] wr (Res.own 61 2 (V k) (SL k).length (sps (List.replicate (SL k).length (-(k : Int) - 1, (0 : Int)))) :: Res.own 3 1 (T k) (TL k).length (ivs (List.replicate (TL k).length (-(k : Int) - 1))) :: Res.own 44 1 u24 k (rowOf k MV).toList :: Res.own 33 1 u25 k (rowOf k WV).toList :: Res.own 44 1 (.slice (some ⟨lg, 0, none⟩) 4 lc) 4 (rowOf 4 V).toList :: Res.own 33 1 (.slice (some ⟨tg, 0, none⟩) 4 tc) 4 (rowOf 4 T).toList :: Res.blk xb (rowOf 21 (fileC (X 0) (s 0))) 32 :: R') := hs1
                  clear hs1
                  have HB := Lib.hid hback
                  clear hback
                  have l1 := HL.out k hlt
                  have l2 := HT.out k hlt
                  obtain ⟨aoV, cV, gV, hV, _, _, haV, _⟩ := hs.own_open 0 rfl
                  obtain ⟨aoT, cT, gT, hT, _, _, haT, _⟩ := hs.own_open 1 rfl
                  rw [hV, hT] at hs
                  have HVk := Lib.hid (row_at V hlt)
                  have HTk := Lib.hid (row_at T hlt)
                  rw [hV] at HVk
                  rw [hT] at HTk
                  have HV := Lib.hid hV
                  have HTv := Lib.hid hT
                  clear hV hT haV haT
                  replace hs := (hs.toPair 0 rfl).toPair 1 rfl
                  go_upto_region 41 with (first | ((with_reducible refine (at_index (t := 57)) rfl ?_); refine wl_index rfl rfl Try.underlying57 size44 rfl rfl k rfl hlt rfl ?_) | ((with_reducible refine (at_index (t := 58)) rfl ?_); refine wl_index rfl rfl Try.underlying58 size33 rfl rfl k rfl hlt rfl ?_) | ((with_reducible refine (at_load (t := 44)) rfl ?_); refine wl_loadC rfl rfl Try.underlying44 rfl rfl (by rw [Nat.zero_add, Nat.mul_one]; exact hs.own_cell 4 rfl HVk.out) ?_) | ((with_reducible refine (at_load (t := 33)) rfl ?_); refine wl_loadC rfl rfl Try.underlying33 rfl rfl (by rw [Nat.zero_add, Nat.mul_one]; exact hs.own_cell 5 rfl HTk.out) ?_))
                  go_wp2_with fail
                  go_loopw [27, 28, 29] (fun a b j wr => ∃ (q : Nat) (av bv : Value), q ≤ 20 ∧ j = .int .i64 q ∧ a = av ∧ b = bv ∧ Tr w [] wr (Res.pair 61 2 (.slice aoV (SL k).length cV) (SL k).length (sps (List.replicate (SL k).length (-(k : Int) - 1, (0 : Int)))) av q (sps (List.replicate q ((k : Int) + 1, (0 : Int)))) :: Res.pair 3 1 (.slice aoT (TL k).length cT) (TL k).length (ivs (List.replicate (TL k).length (-(k : Int) - 1))) bv q (ivs (List.replicate q ((k : Int) + 1))) :: Res.own 44 1 u24 k (rowOf k MV).toList :: Res.own 33 1 u25 k (rowOf k WV).toList :: Res.own 44 1 (.slice (some ⟨lg, 0, none⟩) 4 lc) 4 (rowOf 4 V).toList :: Res.own 33 1 (.slice (some ⟨tg, 0, none⟩) 4 tc) 4 (rowOf 4 T).toList :: Res.blk xb (rowOf 21 (fileC (X 0) (s 0))) 32 :: R')) (fun _ _ j _ => 20 - (intOf j).toNat)
                  case atStart => exact ⟨k - k, _, _, by omega, by rw [Nat.sub_self]; rfl, rfl, rfl, by rw [Nat.sub_self]; exact hs⟩
                  case round =>
                    clear hs
                    obtain ⟨q, av, bv, hq, rfl, rfl, rfl, hs⟩ := hrel
                    by_cases hqt : q < 20
                    · have hqI : (q : Int) < 20 := by omega
                      have HS1 := Lib.hid (sps_rep_snoc ((k : Int) + 1) q)
                      have HS2 := Lib.hid (ivs_rep_snoc ((k : Int) + 1) q)
                      go_upto_region 45 with (first | ((with_reducible refine (at_build (t := 61)) rfl ?_); refine wl_buildP rfl rfl (_) (by rfl) ((built61a _)) ?_) | ((with_reducible refine at_buildSlice rfl ?_); refine wl_buildSlice1A hs rfl rfl Try.underlying44 info61 (by omega) (by omega) (cs := #[.int .i64 ((k : Int) + 1), .int .i64 (0)]) (by first | rfl | (simp [Act.eval]; done)) rfl ?_; clear hs; intro w1 eb hs) | ((with_reducible refine (at_bi .append) rfl ?_); refine wl_appendP hs rfl rfl Try.underlying44 info61 rfl (by omega) 1 rfl rfl rfl (by omega) eb 0 rfl (#[Value.int .i64 ((k : Int) + 1), .int .i64 0].toList) rfl (blk_news (hs.getB 0 rfl)) (by simp [Value.oneCell']) (by unfold maxLen; omega) (by omega) ?_; clear hs; intro w1 va hs))
                      go_wp2_with (first | ((with_reducible refine at_buildSlice rfl ?_); refine wl_buildSliceV hs rfl rfl Try.underlying33 info3 (by omega) (by omega) [.int .i64 ((k : Int) + 1)] rfl rfl (by simp [Value.oneCell']) ?_; clear hs; intro w1 eb hs) | ((with_reducible refine (at_bi .append) rfl ?_); refine wl_appendP hs rfl rfl Try.underlying33 info3 rfl (by omega) 3 rfl rfl rfl (by omega) eb 0 rfl (#[Value.int .i64 ((k : Int) + 1)].toList) rfl (blk_news (hs.getB 0 rfl)) (by simp [Value.oneCell']) (by unfold maxLen; omega) (by omega) ?_; clear hs; intro w1 vb hs))
                      go_roundw
                      case rel => exact ⟨q + 1, _, _, by omega, by go_num, rfl, rfl, by rw [← HS1.out, ← HS2.out]; exact (hs.erase 0).erase 0⟩
                      case measure => simp [intOf]; omega
                    · obtain rfl : q = 20 := by omega
                      obtain ⟨_, _, _, aoM, cM, gM, _, _, hM, haM⟩ := hs.pair_open 0 rfl
                      obtain ⟨_, _, _, aoN, cN, gN, _, _, hN, haN⟩ := hs.pair_open 1 rfl
                      obtain rfl := haM (by omega)
                      obtain rfl := haN (by omega)
                      clear haM haN
                      rw [g20S_eq, g20I_eq] at hs
                      subst hM hN
                      go_upto_region 47 with (first | ((with_reducible refine (at_buildSlice (t := 57)) rfl ?_); refine wl_buildSliceV hs rfl rfl Try.underlying57 info44 (by omega) (by omega) [.slice (some ⟨gM, 0, none⟩) ((SL k).length + 20) cM] rfl rfl (by simp [Value.oneCell']) ?_; clear hs; intro w1 eb hs) | ((with_reducible refine (at_bi .append) rfl ?_); refine wl_append1 hs rfl rfl Try.underlying57 info44 rfl (by omega) 3 rfl rfl 0 rfl rfl rfl (by simp [Value.oneCell']) (by unfold maxLen; omega) (by omega) ?_; clear hs; intro w1 v1 hs))
                      go_wp2_with (first | ((with_reducible refine (at_buildSlice (t := 58)) rfl ?_); refine wl_buildSliceV hs rfl rfl Try.underlying58 info33 (by omega) (by omega) [.slice (some ⟨gN, 0, none⟩) ((TL k).length + 20) cN] rfl rfl (by simp [Value.oneCell']) ?_; clear hs; intro w1 eb hs) | ((with_reducible refine (at_bi .append) rfl ?_); refine wl_append1 hs rfl rfl Try.underlying58 info33 rfl (by omega) 5 rfl rfl 0 rfl rfl rfl (by simp [Value.oneCell']) (by unfold maxLen; omega) (by omega) ?_; clear hs; intro w1 v1 hs))
                      go_roundw
                      case rel =>
                        replace hs := (hs.erase 0).erase 0
                        rw [← HV.out, ← HTv.out] at hs
                        (repeat apply Exists.intro)
                        refine ⟨⟨k + 1, by omega, by go_num, putV MV k (.slice (some ⟨gM, 0, none⟩) ((SL k).length + 20) cM), putV WV k (.slice (some ⟨gN, 0, none⟩) ((TL k).length + 20) cN), ?_⟩, by first | rfl | exact ⟨rfl, rfl, rfl⟩⟩
                        rw [← row_upd (fun j hj => putV_lt MV _ hj) (putV_at MV k _), ← row_upd (fun j hj => putV_lt WV _ hj) (putV_at WV k _)]
                        refine HB.out _ [_, _, _, _, _] _ (fun j _ hne => by simp only [putV_ne _ _ hne]; exact if_step hne) ?_
                        simp only [if_pos (Nat.lt_succ_self k), putV_at]
                        exact hs
                      case measure => simp [intOf]; omega
                · obtain rfl : k = 4 := by omega
                  rw [rows_congr (G := fun j => [Res.pair 61 2 (V j) (SL j).length (sps (List.replicate (SL j).length (-(j : Int) - 1, (0 : Int)))) (MV j) 20 (sps (g20S ((j : Int) + 1))), Res.pair 3 1 (T j) (TL j).length (ivs (List.replicate (TL j).length (-(j : Int) - 1))) (WV j) 20 (ivs (g20I ((j : Int) + 1)))]) (fun j hj => if_pos hj)] at hs
                  obtain ⟨aoL, mc, mg, hv, _, _, haL, _⟩ := hs.own_open 0 rfl
                  obtain rfl := haL (by omega)
                  subst hv
                  obtain ⟨aoL, wc, wg, hv, _, _, haL, _⟩ := hs.own_open 1 rfl
                  obtain rfl := haL (by omega)
                  subst hv
                  clear haL
                  go_wp2_with fail
                  go_loopw [30] (fun i wr => ∃ k : Nat, k ≤ 4 ∧ i = .int .i64 k ∧ Tr w [] wr (Res.own 44 1 (.slice (some ⟨mg, 0, none⟩) 4 mc) 4 (rowOf 4 MV).toList :: Res.own 33 1 (.slice (some ⟨wg, 0, none⟩) 4 wc) 4 (rowOf 4 WV).toList :: Res.own 44 1 (.slice (some ⟨lg, 0, none⟩) 4 lc) 4 (rowOf 4 V).toList :: Res.own 33 1 (.slice (some ⟨tg, 0, none⟩) 4 tc) 4 (rowOf 4 T).toList :: Res.blk xb (rowOf 21 (fileC (X 0) (s 0))) 32 :: rows 4 (fun j => [Res.pair 61 2 (V j) (SL j).length (sps (List.replicate (SL j).length (-(j : Int) - 1, (0 : Int)))) (MV j) 20 (sps (g20S ((j : Int) + 1))), Res.pair 3 1 (T j) (TL j).length (ivs (List.replicate (TL j).length (-(j : Int) - 1))) (WV j) 20 (ivs (g20I ((j : Int) + 1)))]))) (fun i _ => 4 - (intOf i).toNat)
                  case atStart => exact ⟨4 - 4, by omega, rfl, hs⟩
                  case round =>
                    clear hs
                    obtain ⟨k, hk, rfl, hs⟩ := hrel
                    by_cases hlt : k < 4
                    · have hltI : (k : Int) < 4 := by omega
                      obtain ⟨R', hs1, hback⟩ := Tr.pull (B := [Res.own 44 1 (.slice (some ⟨mg, 0, none⟩) 4 mc) 4 (rowOf 4 MV).toList, Res.own 33 1 (.slice (some ⟨wg, 0, none⟩) 4 wc) 4 (rowOf 4 WV).toList, Res.own 44 1 (.slice (some ⟨lg, 0, none⟩) 4 lc) 4 (rowOf 4 V).toList, Res.own 33 1 (.slice (some ⟨tg, 0, none⟩) 4 tc) 4 (rowOf 4 T).toList, Res.blk xb (rowOf 21 (fileC (X 0) (s 0))) 32]) (F := fun j => [Res.pair 61 2 (V j) (SL j).length (sps (List.replicate (SL j).length (-(j : Int) - 1, (0 : Int)))) (MV j) 20 (sps (g20S ((j : Int) + 1))), Res.pair 3 1 (T j) (TL j).length (ivs (List.replicate (TL j).length (-(j : Int) - 1))) (WV j) 20 (ivs (g20I ((j : Int) + 1)))]) hs hlt
                      clear hs
                      have hs : Tr w [] wr (Res.pair 61 2 (V k) (SL k).length (sps (List.replicate (SL k).length (-(k : Int) - 1, (0 : Int)))) (MV k) 20 (sps (g20S ((k : Int) + 1))) :: Res.pair 3 1 (T k) (TL k).length (ivs (List.replicate (TL k).length (-(k : Int) - 1))) (WV k) 20 (ivs (g20I ((k : Int) + 1))) :: Res.own 44 1 (.slice (some ⟨mg, 0, none⟩) 4 mc) 4 (rowOf 4 MV).toList :: Res.own 33 1 (.slice (some ⟨wg, 0, none⟩) 4 wc) 4 (rowOf 4 WV).toList :: Res.own 44 1 (.slice (some ⟨lg, 0, none⟩) 4 lc) 4 (rowOf 4 V).toList :: Res.own 33 1 (.slice (some ⟨tg, 0, none⟩) 4 tc) 4 (rowOf 4 T).toList :: Res.blk xb (rowOf 21 (fileC (X 0) (s 0))) 32 :: R') := hs1
                      clear hs1
                      have l1 := HL.out k hlt
                      have l2 := HT.out k hlt
                      obtain ⟨aoV, cV, gV, aoM, cM, gM, hV, haV, hM, haM⟩ := hs.pair_open 0 rfl
                      obtain ⟨aoT, cT, gT, aoN, cN, gN, hT, haT, hN, haN⟩ := hs.pair_open 1 rfl
                      obtain rfl := haM (by omega)
                      obtain rfl := haN (by omega)
                      obtain ⟨n, hn⟩ : ∃ n, n = (SL k).length := ⟨_, rfl⟩
                      obtain ⟨m, hm⟩ : ∃ m, m = (TL k).length := ⟨_, rfl⟩
                      rw [← hn] at l1 hV haV hM haM
                      rw [← hm] at l2 hT haT hN haN
                      obtain ⟨LL, hs, fl, ft, fm, fw, eV, eM, eT, eW, fb⟩ : ∃ LL : List Res, Tr w [] wr LL ∧ (∀ w', Tr w [] w' LL → w'.cell? ⟨lg, k, none⟩ = some (.slice aoV n cV)) ∧ (∀ w', Tr w [] w' LL → w'.cell? ⟨tg, k, none⟩ = some (.slice aoT m cT))
                          ∧ (∀ w', Tr w [] w' LL → w'.cell? ⟨mg, k, none⟩ = some (.slice (some ⟨gM, 0, none⟩) (n + 20) cM)) ∧ (∀ w', Tr w [] w' LL → w'.cell? ⟨wg, k, none⟩ = some (.slice (some ⟨gN, 0, none⟩) (m + 20) cN))
                          ∧ (∀ j, j < n → ∀ w', Tr w [] w' LL → w'.cell? ⟨gV, j * 2, none⟩ = some (.int .i64 (-(k : Int) - 1))) ∧ (∀ j, j < n + 20 → ∀ w', Tr w [] w' LL → w'.cell? ⟨gM, j * 2, none⟩ = some (.int .i64 (if j < n then -(k : Int) - 1 else (k : Int) + 1)))
                          ∧ (∀ j, j < m → ∀ w', Tr w [] w' LL → w'.cell? ⟨gT, j, none⟩ = some (.int .i64 (-(k : Int) - 1))) ∧ (∀ j, j < m + 20 → ∀ w', Tr w [] w' LL → w'.cell? ⟨gN, j, none⟩ = some (.int .i64 (if j < m then -(k : Int) - 1 else (k : Int) + 1)))
                          ∧ (∀ w', Tr w [] w' LL → Tr w [] w' (Res.own 44 1 (.slice (some ⟨mg, 0, none⟩) 4 mc) 4 (rowOf 4 MV).toList :: Res.own 33 1 (.slice (some ⟨wg, 0, none⟩) 4 wc) 4 (rowOf 4 WV).toList :: Res.own 44 1 (.slice (some ⟨lg, 0, none⟩) 4 lc) 4 (rowOf 4 V).toList :: Res.own 33 1 (.slice (some ⟨tg, 0, none⟩) 4 tc) 4 (rowOf 4 T).toList :: Res.blk xb (rowOf 21 (fileC (X 0) (s 0))) 32 :: rows 4 (fun j => [Res.pair 61 2 (V j) (SL j).length (sps (List.replicate (SL j).length (-(j : Int) - 1, (0 : Int)))) (MV j) 20 (sps (g20S ((j : Int) + 1))), Res.pair 3 1 (T j) (TL j).length (ivs (List.replicate (TL j).length (-(j : Int) - 1))) (WV j) 20 (ivs (g20I ((j : Int) + 1)))]))) :=
                        ⟨_, hs, fun w' h => by rw [h.own_cell 4 rfl (row_at V hlt), hV], fun w' h => by rw [h.own_cell 5 rfl (row_at T hlt), hT], fun w' h => by rw [h.own_cell 2 rfl (row_at MV hlt), hM], fun w' h => by rw [h.own_cell 3 rfl (row_at WV hlt), hN],
                          fun j hj w' h => Tr.pairL_at h 0 rfl (by rw [hV, hn]) (by omega) (by rw [← hn]; exact haV) (sps_rep_at _ (by omega)), fun j hj w' h => Tr.pairR_at h 0 rfl (by rw [hM, hn]) (by omega) (fun _ => rfl) (by rw [hn]; exact sps_two_at _ _ (by omega)),
                          fun j hj w' h => Tr.pairL_at h 1 rfl (by rw [hT, hm]) (by omega) (by rw [← hm]; exact haT) (ivs_rep_at _ (by omega)), fun j hj w' h => Tr.pairR_at h 1 rfl (by rw [hN, hm]) (by omega) (fun _ => rfl) (by rw [hm]; exact ivs_two_at _ _ (by omega)),
                          fun w' h => hback _ [_, _, _, _, _] _ (fun _ _ _ => rfl) h⟩
                      have FL := Lib.hid fl
                      have FT := Lib.hid ft
                      have FM := Lib.hid fm
                      have FW := Lib.hid fw
                      have EV := Lib.hid eV
                      have EM := Lib.hid eM
                      have ET := Lib.hid eT
                      have EW := Lib.hid eW
                      have FB := Lib.hid fb
                      have HAV := Lib.hid haV
                      have HAT := Lib.hid haT
                      clear fl ft fm fw eV eM eT eW fb hback hV hM hT hN haV haM haT haN hn hm
                      obtain ⟨y, hy⟩ : ∃ y : Int, -(k : Int) - 1 = y := ⟨_, rfl⟩
                      obtain ⟨z, hz⟩ : ∃ z : Int, (k : Int) + 1 = z := ⟨_, rfl⟩
                      rw [hy, hz] at EM EW
                      rw [hy] at EV ET
                      as_aux_lemma =>
                        have ty : (y != -(k : Int) - 1) = false := by rw [hy]; simp
                        have tz : (z != (k : Int) + 1) = false := by rw [hz]; simp
                        clear hy hz
                        go_wp2_with fail
                        go_loopw [31] (fun j wr => ∃ q : Nat, q ≤ n + 20 ∧ j = .int .i64 q ∧ Tr w [] wr LL) (fun j _ => n + 20 - (intOf j).toNat)
                        case atStart => exact ⟨k - k, by omega, by rw [Nat.sub_self]; rfl, hs⟩
                        case round =>
                          clear hs
                          obtain ⟨q, hq, rfl, hs⟩ := hrel
                          by_cases hqt : q < n + 20
                          · have hqI : (q : Int) < ((n + 20 : Nat) : Int) := by omega
                            by_cases hqn : q < n
                            · have HE := Lib.hid (EM.out q hqt)
                              rw [if_pos hqn] at HE
                              have hqnI : (q : Int) < n := by omega
                              have b1 : decide ((q : Int) < (n : Int)) = true := decide_eq_true (by omega)
                              have b2 : decide (q < n) = true := decide_eq_true (by omega)
                              have b3 : decide ((n : Int) ≤ (q : Int)) = false := decide_eq_false (by omega)
                              have b4 : decide (n ≤ q) = false := decide_eq_false (by omega)
                              go_wp2_with (first | ((with_reducible refine (at_index (t := 57)) rfl ?_); refine wl_index rfl rfl Try.underlying57 size44 rfl rfl k rfl hlt rfl ?_) | ((with_reducible refine (at_load (t := 44)) rfl ?_); refine wl_loadC rfl rfl Try.underlying44 rfl rfl (by rw [Nat.zero_add, Nat.mul_one]; exact FL.out _ hs) ?_) | ((with_reducible refine (at_load (t := 44)) rfl ?_); refine wl_loadC rfl rfl Try.underlying44 rfl rfl (by rw [Nat.zero_add, Nat.mul_one]; exact FM.out _ hs) ?_) | ((with_reducible refine (at_index (t := 44)) rfl ?_); refine wl_index rfl rfl Try.underlying44 size61 rfl rfl q rfl hqt rfl ?_) | ((with_reducible refine (at_load (t := 3)) rfl ?_); refine wl_loadC rfl rfl Try.underlying3 rfl rfl (HE.out _ hs) ?_))
                              go_roundw
                              case rel => first | exact ⟨q + 1, by omega, by go_num, hs⟩ | ((repeat apply Exists.intro); exact ⟨⟨q + 1, by omega, by go_num, hs⟩, rfl⟩)
                              case measure => simp [intOf]; omega
                            · have HE := Lib.hid (EM.out q hqt)
                              rw [if_neg hqn] at HE
                              have b1 : decide ((q : Int) < (n : Int)) = false := decide_eq_false (by omega)
                              have b2 : decide (q < n) = false := decide_eq_false (by omega)
                              have b3 : decide ((n : Int) ≤ (q : Int)) = true := decide_eq_true (by omega)
                              have b4 : decide (n ≤ q) = true := decide_eq_true (by omega)
                              go_wp2_with (first | ((with_reducible refine (at_index (t := 57)) rfl ?_); refine wl_index rfl rfl Try.underlying57 size44 rfl rfl k rfl hlt rfl ?_) | ((with_reducible refine (at_load (t := 44)) rfl ?_); refine wl_loadC rfl rfl Try.underlying44 rfl rfl (by rw [Nat.zero_add, Nat.mul_one]; exact FL.out _ hs) ?_) | ((with_reducible refine (at_load (t := 44)) rfl ?_); refine wl_loadC rfl rfl Try.underlying44 rfl rfl (by rw [Nat.zero_add, Nat.mul_one]; exact FM.out _ hs) ?_) | ((with_reducible refine (at_index (t := 44)) rfl ?_); refine wl_index rfl rfl Try.underlying44 size61 rfl rfl q rfl hqt rfl ?_) | ((with_reducible refine (at_load (t := 3)) rfl ?_); refine wl_loadC rfl rfl Try.underlying3 rfl rfl (HE.out _ hs) ?_))
                              go_roundw
                              case rel => first | exact ⟨q + 1, by omega, by go_num, hs⟩ | ((repeat apply Exists.intro); exact ⟨⟨q + 1, by omega, by go_num, hs⟩, rfl⟩)
                              case measure => simp [intOf]; omega
                          · obtain ⟨q0, hq0⟩ : ∃ q0, q0 = q := ⟨_, rfl⟩
                            obtain rfl : q = n + 20 := by omega
                            clear hq0
                            go_wp2_with (first | ((with_reducible refine (at_index (t := 57)) rfl ?_); refine wl_index rfl rfl Try.underlying57 size44 rfl rfl k rfl hlt rfl ?_) | ((with_reducible refine (at_load (t := 44)) rfl ?_); refine wl_loadC rfl rfl Try.underlying44 rfl rfl (by rw [Nat.zero_add, Nat.mul_one]; exact FL.out _ hs) ?_) | ((with_reducible refine (at_load (t := 44)) rfl ?_); refine wl_loadC rfl rfl Try.underlying44 rfl rfl (by rw [Nat.zero_add, Nat.mul_one]; exact FM.out _ hs) ?_))
                            go_wp2_with fail
                            go_loopw [32] (fun j wr => ∃ q : Nat, q ≤ m + 20 ∧ j = .int .i64 q ∧ Tr w [] wr LL) (fun j _ => m + 20 - (intOf j).toNat)
                            case atStart => exact ⟨k - k, by omega, by rw [Nat.sub_self]; rfl, hs⟩
                            case round =>
                              clear hs
                              obtain ⟨q, hq, rfl, hs⟩ := hrel
                              by_cases hqt : q < m + 20
                              · have hqI : (q : Int) < ((m + 20 : Nat) : Int) := by omega
                                by_cases hqn : q < m
                                · have HE := Lib.hid (EW.out q hqt)
                                  rw [if_pos hqn] at HE
                                  have hqnI : (q : Int) < m := by omega
                                  have b1 : decide ((q : Int) < (m : Int)) = true := decide_eq_true (by omega)
                                  have b2 : decide (q < m) = true := decide_eq_true (by omega)
                                  have b3 : decide ((m : Int) ≤ (q : Int)) = false := decide_eq_false (by omega)
                                  have b4 : decide (m ≤ q) = false := decide_eq_false (by omega)
                                  go_wp2_with (first | ((with_reducible refine (at_index (t := 58)) rfl ?_); refine wl_index rfl rfl Try.underlying58 size33 rfl rfl k rfl hlt rfl ?_) | ((with_reducible refine (at_load (t := 33)) rfl ?_); refine wl_loadC rfl rfl Try.underlying33 rfl rfl (by rw [Nat.zero_add, Nat.mul_one]; exact FT.out _ hs) ?_) | ((with_reducible refine (at_load (t := 33)) rfl ?_); refine wl_loadC rfl rfl Try.underlying33 rfl rfl (by rw [Nat.zero_add, Nat.mul_one]; exact FW.out _ hs) ?_) | ((with_reducible refine (at_index (t := 33)) rfl ?_); refine wl_index rfl rfl Try.underlying33 size3 rfl rfl q rfl hqt rfl ?_) | ((with_reducible refine (at_load (t := 3)) rfl ?_); refine wl_loadC rfl rfl Try.underlying3 rfl rfl (by rw [Nat.zero_add, Nat.mul_one]; exact HE.out _ hs) ?_))
                                  go_roundw
                                  case rel => first | exact ⟨q + 1, by omega, by go_num, hs⟩ | ((repeat apply Exists.intro); exact ⟨⟨q + 1, by omega, by go_num, hs⟩, rfl⟩)
                                  case measure => simp [intOf]; omega
                                · have HE := Lib.hid (EW.out q hqt)
                                  rw [if_neg hqn] at HE
                                  have b1 : decide ((q : Int) < (m : Int)) = false := decide_eq_false (by omega)
                                  have b2 : decide (q < m) = false := decide_eq_false (by omega)
                                  have b3 : decide ((m : Int) ≤ (q : Int)) = true := decide_eq_true (by omega)
                                  have b4 : decide (m ≤ q) = true := decide_eq_true (by omega)
                                  go_wp2_with (first | ((with_reducible refine (at_index (t := 58)) rfl ?_); refine wl_index rfl rfl Try.underlying58 size33 rfl rfl k rfl hlt rfl ?_) | ((with_reducible refine (at_load (t := 33)) rfl ?_); refine wl_loadC rfl rfl Try.underlying33 rfl rfl (by rw [Nat.zero_add, Nat.mul_one]; exact FT.out _ hs) ?_) | ((with_reducible refine (at_load (t := 33)) rfl ?_); refine wl_loadC rfl rfl Try.underlying33 rfl rfl (by rw [Nat.zero_add, Nat.mul_one]; exact FW.out _ hs) ?_) | ((with_reducible refine (at_index (t := 33)) rfl ?_); refine wl_index rfl rfl Try.underlying33 size3 rfl rfl q rfl hqt rfl ?_) | ((with_reducible refine (at_load (t := 3)) rfl ?_); refine wl_loadC rfl rfl Try.underlying3 rfl rfl (by rw [Nat.zero_add, Nat.mul_one]; exact HE.out _ hs) ?_))
                                  go_roundw
                                  case rel => first | exact ⟨q + 1, by omega, by go_num, hs⟩ | ((repeat apply Exists.intro); exact ⟨⟨q + 1, by omega, by go_num, hs⟩, rfl⟩)
                                  case measure => simp [intOf]; omega
                              · obtain ⟨q0, hq0⟩ : ∃ q0, q0 = q := ⟨_, rfl⟩
                                obtain rfl : q = m + 20 := by omega
                                clear hq0
                                go_wp2_with (first | ((with_reducible refine (at_index (t := 58)) rfl ?_); refine wl_index rfl rfl Try.underlying58 size33 rfl rfl k rfl hlt rfl ?_) | ((with_reducible refine (at_load (t := 33)) rfl ?_); refine wl_loadC rfl rfl Try.underlying33 rfl rfl (by rw [Nat.zero_add, Nat.mul_one]; exact FT.out _ hs) ?_) | ((with_reducible refine (at_load (t := 33)) rfl ?_); refine wl_loadC rfl rfl Try.underlying33 rfl rfl (by rw [Nat.zero_add, Nat.mul_one]; exact FW.out _ hs) ?_))
                                go_wp2_with fail
                                go_loopw [33] (fun j wr => ∃ q : Nat, q ≤ n ∧ j = .int .i64 q ∧ Tr w [] wr LL) (fun j _ => n - (intOf j).toNat)
                                case atStart => exact ⟨k - k, by omega, by rw [Nat.sub_self]; rfl, hs⟩
                                case round =>
                                  clear hs
                                  obtain ⟨q, hq, rfl, hs⟩ := hrel
                                  by_cases hqt : q < n
                                  · have hqI : (q : Int) < n := by omega
                                    have hao := HAV.out (by omega)
                                    subst hao
                                    have HE := Lib.hid (EV.out q hqt)
                                    go_wp2_with (first | ((with_reducible refine (at_index (t := 57)) rfl ?_); refine wl_index rfl rfl Try.underlying57 size44 rfl rfl k rfl hlt rfl ?_) | ((with_reducible refine (at_load (t := 44)) rfl ?_); refine wl_loadC rfl rfl Try.underlying44 rfl rfl (by rw [Nat.zero_add, Nat.mul_one]; exact FL.out _ hs) ?_) | ((with_reducible refine (at_index (t := 44)) rfl ?_); refine wl_index rfl rfl Try.underlying44 size61 rfl rfl q rfl hqt rfl ?_) | ((with_reducible refine (at_load (t := 3)) rfl ?_); refine wl_loadC rfl rfl Try.underlying3 rfl rfl (HE.out _ hs) ?_))
                                    go_roundw
                                    case rel => first | exact ⟨q + 1, by omega, by go_num, hs⟩ | ((repeat apply Exists.intro); exact ⟨⟨q + 1, by omega, by go_num, hs⟩, rfl⟩)
                                    case measure => simp [intOf]; omega
                                  · obtain ⟨q0, hq0⟩ : ∃ q0, q0 = q := ⟨_, rfl⟩
                                    obtain rfl : q = n := by omega
                                    clear hq0
                                    go_wp2_with (first | ((with_reducible refine (at_index (t := 57)) rfl ?_); refine wl_index rfl rfl Try.underlying57 size44 rfl rfl k rfl hlt rfl ?_) | ((with_reducible refine (at_load (t := 44)) rfl ?_); refine wl_loadC rfl rfl Try.underlying44 rfl rfl (by rw [Nat.zero_add, Nat.mul_one]; exact FL.out _ hs) ?_))
                                    go_wp2_with fail
                                    go_loopw [34] (fun j wr => ∃ q : Nat, q ≤ m ∧ j = .int .i64 q ∧ Tr w [] wr LL) (fun j _ => m - (intOf j).toNat)
                                    case atStart => exact ⟨k - k, by omega, by rw [Nat.sub_self]; rfl, hs⟩
                                    case round =>
                                      clear hs
                                      obtain ⟨q, hq, rfl, hs⟩ := hrel
                                      by_cases hqt : q < m
                                      · have hqI : (q : Int) < m := by omega
                                        have hao := HAT.out (by omega)
                                        subst hao
                                        have HE := Lib.hid (ET.out q hqt)
                                        go_wp2_with (first | ((with_reducible refine (at_index (t := 58)) rfl ?_); refine wl_index rfl rfl Try.underlying58 size33 rfl rfl k rfl hlt rfl ?_) | ((with_reducible refine (at_load (t := 33)) rfl ?_); refine wl_loadC rfl rfl Try.underlying33 rfl rfl (by rw [Nat.zero_add, Nat.mul_one]; exact FT.out _ hs) ?_) | ((with_reducible refine (at_index (t := 33)) rfl ?_); refine wl_index rfl rfl Try.underlying33 size3 rfl rfl q rfl hqt rfl ?_) | ((with_reducible refine (at_load (t := 3)) rfl ?_); refine wl_loadC rfl rfl Try.underlying3 rfl rfl (by rw [Nat.zero_add, Nat.mul_one]; exact HE.out _ hs) ?_))
                                        go_roundw
                                        case rel => first | exact ⟨q + 1, by omega, by go_num, hs⟩ | ((repeat apply Exists.intro); exact ⟨⟨q + 1, by omega, by go_num, hs⟩, rfl⟩)
                                        case measure => simp [intOf]; omega
                                      · obtain ⟨q0, hq0⟩ : ∃ q0, q0 = q := ⟨_, rfl⟩
                                        obtain rfl : q = m := by omega
                                        clear hq0
                                        go_wp2_with (first | ((with_reducible refine (at_index (t := 58)) rfl ?_); refine wl_index rfl rfl Try.underlying58 size33 rfl rfl k rfl hlt rfl ?_) | ((with_reducible refine (at_load (t := 33)) rfl ?_); refine wl_loadC rfl rfl Try.underlying33 rfl rfl (by rw [Nat.zero_add, Nat.mul_one]; exact FT.out _ hs) ?_))
                                        go_roundw
                                        case rel => first | exact ⟨k + 1, by omega, by go_num, FB.out _ hs⟩ | ((repeat apply Exists.intro); exact ⟨⟨k + 1, by omega, by go_num, FB.out _ hs⟩, rfl⟩)
                                        case measure => simp [intOf]; omega
                    · obtain rfl : k = 4 := by omega
                      replace hs : Tr w [] wr [Res.blk xb (rowOf 21 (fileC (X 0) (s 0))) 32] := hs.sub (List.Sublist.cons _ (List.Sublist.cons _ (List.Sublist.cons _ (List.Sublist.cons _ (List.Sublist.cons_cons _ (List.nil_sublist _))))))
                      as_aux_lemma =>
                        have H := Lib.hid (HI.out 0 (by omega))
                        have HS0 := Lib.hid (HS.out 0 (by omega))
                        have HR0 := Lib.hid (HR.out 0 (by omega))
                        have l1 := HL.out 0 (by omega)
                        clear HS HTB HI HL HT HR HRTB HC21 HC18
                        generalize s 0 = s0 at *
                        generalize X 0 = X0 at *
                        go_upto_region 72 with (first | ((with_reducible refine (at_load (t := 32)) rfl ?_); refine wl_loadA hs rfl rfl Try.underlying32 rfl rfl 0 rfl (size32 _) ?_) | (go_at_call 15; refine (source_any X0 s0 _).mono ?_; rintro e w2 ⟨rfl, hc⟩; replace hs := hs.call0 hc; clear hc) | ((with_reducible refine (at_build (t := 39)) rfl ?_); refine wl_buildP rfl rfl (_) (by rfl) ((built39 _ s0.bad s0.code s0.N s0.c s0.ao rfl)) ?_) | ((with_reducible refine (at_box (t := 39)) rfl ?_); refine wl_boxA hs rfl rfl rfl ?_; clear hs; intro w1 mb hs))
                        replace hs : Tr w [] w1 (Res.blk mb s0.cs 39 :: _) := hs
                        go_upto_region 73 with (first | ((with_reducible refine (at_load (t := 29)) rfl ?_); refine wl_loadR rfl rfl Try.underlying29 rfl size29n rfl (file_rd (hs.rd0 1 rfl (by omega))) ?_) | (go_at_call 18; refine (HS0.out mb _ ⟨hs.get 0 rfl, H.out.keep hs⟩).mono ?_; rintro e w2 ⟨v1, rfl, hc⟩; replace hs := hs.call1 hc; clear hc))
                        refine wt_enter 10 rfl hs (by kernel_rfl) ?_
                        clear hs; intro w1 hs; have hC := hs
                        refine wt_take 0 rfl (by kernel_rfl) (by kernel_rfl) (by kernel_rfl) (fun _ _ _ _ h => h) rfl hC ⟨_, fun w hw => ex_loadAA rfl Try.underlying32 rfl (size32 _) rfl (hw.getB 2 rfl), fun a1 ha => ?_⟩
                        simp only [Act.put, List.setIfInBounds_toArray, List.set_cons_succ, List.set_cons_zero] at ha; subst ha
                        refine wt_take 2 rfl (by kernel_rfl) (by kernel_rfl) (by kernel_rfl) (fun _ _ _ _ h => h) rfl hC ⟨_, fun w hw => by (go_simp; try with_reducible rfl), fun a1 ha => ?_⟩
                        simp only [Act.put, List.setIfInBounds_toArray, List.set_cons_succ, List.set_cons_zero] at ha; subst ha
                        refine wt_take 3 rfl (by kernel_rfl) (by kernel_rfl) (by kernel_rfl) (fun _ _ _ _ h => h) rfl hC ⟨_, fun w hw => ex_loadA rfl Try.underlying29 rfl size29n rfl (file_rd (hw.rd0 2 rfl (by omega))), fun a1 ha => ?_⟩
                        simp only [Act.put, List.setIfInBounds_toArray, List.set_cons_succ, List.set_cons_zero] at ha; subst ha
                        refine wt_one 1 (by kernel_rfl) ?_
                        refine wt_call0 hs rfl rfl (by go_simp) (source_any X0 s0 _) (by simp only [Act.put, List.setIfInBounds_toArray, List.set_cons_succ, List.set_cons_zero]; rfl) ?_
                        clear hs; intro w1 hs
                        refine wt_and (hs.sub (by repeat (first | exact List.Sublist.refl _ | refine List.Sublist.cons_cons _ ?_ | refine List.Sublist.cons _ ?_))) fun hC => ?_
                        refine wt_one 4 (by kernel_rfl) ?_
                        refine wt_callF (R := fun v => Res.own 61 2 v (SL 0).length (sps (SL 0))) (fun v => .tuple #[v, .int .i64 (SE 0)]) hs rfl rfl (by go_simp) (HR0.out _ (H.out.keep hs)) (fun _ => by simp only [Act.put, List.setIfInBounds_toArray, List.set_cons_succ, List.set_cons_zero]; rfl) ?_
                        clear hs; intro w1 v1 hs
                        refine wt_and (hs.sub (by repeat (first | exact List.Sublist.refl _ | refine List.Sublist.cons_cons _ ?_ | refine List.Sublist.cons _ ?_))) fun hC => ?_
                        refine wt_take 5 rfl (by kernel_rfl) (by kernel_rfl) (by kernel_rfl) (fun _ _ _ _ h => h) rfl hC ⟨_, fun w hw => by (go_simp; try with_reducible rfl), fun a1 ha => ?_⟩
                        simp only [Act.put, List.setIfInBounds_toArray, List.set_cons_succ, List.set_cons_zero] at ha; subst ha
                        refine wt_take 6 rfl (by kernel_rfl) (by kernel_rfl) (by kernel_rfl) (fun _ _ _ _ h => h) rfl hC ⟨_, fun w hw => by (go_simp; try with_reducible rfl), fun a1 ha => ?_⟩
                        simp only [Act.put, List.setIfInBounds_toArray, List.set_cons_succ, List.set_cons_zero] at ha; subst ha
                        refine wt_take 7 rfl (by kernel_rfl) (by kernel_rfl) (by kernel_rfl) (fun _ _ _ _ h => h) rfl hC ⟨_, fun w hw => by (go_simp; try with_reducible rfl), fun a1 ha => ?_⟩
                        simp only [Act.put, List.setIfInBounds_toArray, List.set_cons_succ, List.set_cons_zero] at ha; subst ha
                        refine wt_take 8 rfl (by kernel_rfl) (by kernel_rfl) (by kernel_rfl) (fun _ _ _ _ h => h) rfl hC ⟨_, fun w hw => by (go_simp; try with_reducible rfl), fun a1 ha => ?_⟩
                        simp only [Act.put, List.setIfInBounds_toArray, List.set_cons_succ, List.set_cons_zero] at ha; subst ha
                        refine wt_take 9 rfl (by kernel_rfl) (by kernel_rfl) (by kernel_rfl) (fun _ _ _ _ h => h) rfl hC ⟨_, fun w hw => by (go_simp; try with_reducible rfl), fun a1 ha => ?_⟩
                        simp only [Act.put, List.setIfInBounds_toArray, List.set_cons_succ, List.set_cons_zero] at ha; subst ha
                        refine wt_done (by kernel_rfl) ?_
                        skip
                        clear hC
                        go_wp2_with (first | (go_at_call 22; refine (spots_cmp hs 1 0 rfl rfl (by omega)).mono ?_; rintro e w2 ⟨rfl, hc⟩; replace hs := hs.call0 hc; clear hc))
                        go_ret
                        exact ⟨rfl, hs.below⟩
end Go.Proofs.Ytdlnfdlgnbkppaa
