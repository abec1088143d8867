/- Spaces: the document's Landed and Room. -/
import Derived.Test.YtfedfdcbhggipaaDoorP
namespace Go.Proofs.YtfedfdcbhggipaaDoor
set_option linter.unusedVariables false
set_option linter.unusedSimpArgs false
open Go Go.Sp Go.RowKit Go.BigFrame

section
variable {p b i n m : Nat} {B : Nat → Nat} {I : Nat → Bool} {w : World}
theorem rlanded_no (N cap db doff : Nat) (ao : Option Addr) (G : Nat → Int) (hN : N ≤ 9223372036854775807) (hao : 0 < N → ao = some ⟨db, doff, none⟩) (hR : Rd w db doff N fun j => .int .i64 (G j)) (hbad : ∃ j, j < N ∧ inD n m (G j) = false) (h : (refS p b i n m B I).holds w) :
    Calls Tryd.prog 30 #[.pointer (some ⟨p, 0, none⟩), .slice ao N cap] w fun e w' => e = .returned (.int .i64 82) ∧ Tr w [] w' [] := by
  have hs := Tr.refl w []
  have HA := Lib.hid hao
  have HR := Lib.hid hR
  have HP := Lib.hid (rs_p h)
  have HX := Lib.hid hbad
  clear hao hR h hbad
  go_enter Tryd.func30, Tryd.ntmps30
  go_wp2
  go_loopw [5] (fun i wr => ∃ k : Nat, k ≤ N ∧ i = .int .i64 k ∧ (∀ j, j < k → inD n m (G j) = true) ∧ Tr w [] wr []) (fun i _ => N - (intOf i).toNat)
  case atStart => exact ⟨0, by omega, rfl, fun j hj => by omega, hs⟩
  case round =>
    clear hs
    obtain ⟨k, hk, rfl, hall, hs⟩ := hrel
    have HALL := Lib.hid hall
    clear hall
    by_cases hlt : k < N
    · have hltI : (k : Int) < N := by omega
      obtain rfl := HA.out (by omega)
      have HK := Lib.hid (fun w => rdata_any n m (G k) w)
      obtain ⟨z, hz⟩ : ∃ z, inD n m (G k) = z := ⟨_, rfl⟩
      rw [hz] at HK
      have HZ := Lib.hid hz
      clear hz
      cases z
      · go_upto_region 4 with fail
        refine wt_enter 10 rfl hs (by kernel_rfl) ?_
        clear hs; intro w1 hs; have hC := hs
        refine wt_take 0 rfl (by kernel_rfl) (by kernel_rfl) (by kernel_rfl) (fun _ _ _ _ h => h) rfl hC ⟨_, fun w hw => by (go_simp; try with_reducible rfl), fun a1 ha => ?_⟩
        simp only [Act.put, List.setIfInBounds_toArray, List.set_cons_succ, List.set_cons_zero] at ha; subst ha
        refine wt_take 1 rfl (by kernel_rfl) (by kernel_rfl) (by kernel_rfl) (fun _ _ _ _ h => h) rfl hC ⟨_, fun w hw => by (go_simp; try with_reducible rfl), fun a1 ha => ?_⟩
        simp only [Act.put, List.setIfInBounds_toArray, List.set_cons_succ, List.set_cons_zero] at ha; subst ha
        refine wt_take 2 rfl (by kernel_rfl) (by kernel_rfl) (by kernel_rfl) (fun _ _ _ _ h => h) rfl hC ⟨_, fun w hw => by (go_simp; try with_reducible rfl), fun a1 ha => ?_⟩
        simp only [Act.put, List.setIfInBounds_toArray, List.set_cons_succ, List.set_cons_zero] at ha; subst ha
        refine wt_take 3 rfl (by kernel_rfl) (by kernel_rfl) (by kernel_rfl) (fun _ _ _ _ h => h) rfl hC ⟨_, fun w hw => ex_load2 rfl Tryd.underlying23 rfl size23 rfl (Res.cellAt HP.out hw rfl) (Res.cellAt HP.out hw rfl), fun a1 ha => ?_⟩
        simp only [Act.put, List.setIfInBounds_toArray, List.set_cons_succ, List.set_cons_zero] at ha; subst ha
        refine wt_take 4 rfl (by kernel_rfl) (by kernel_rfl) (by kernel_rfl) (fun _ _ _ _ h => h) rfl hC ⟨_, fun w hw => by (go_simp; try with_reducible rfl), fun a1 ha => ?_⟩
        simp only [Act.put, List.setIfInBounds_toArray, List.set_cons_succ, List.set_cons_zero] at ha; subst ha
        refine wt_take 5 rfl (by kernel_rfl) (by kernel_rfl) (by kernel_rfl) (fun _ _ _ _ h => h) rfl hC ⟨_, fun w hw => by (go_simp; try with_reducible rfl), fun a1 ha => ?_⟩
        simp only [Act.put, List.setIfInBounds_toArray, List.set_cons_succ, List.set_cons_zero] at ha; subst ha
        refine wt_take 6 rfl (by kernel_rfl) (by kernel_rfl) (by kernel_rfl) (fun _ _ _ _ h => h) rfl hC ⟨_, fun w hw => ex_indexS rfl Tryd.underlying24 size3 rfl rfl k rfl hlt rfl, fun a1 ha => ?_⟩
        simp only [Act.put, List.setIfInBounds_toArray, List.set_cons_succ, List.set_cons_zero] at ha; subst ha
        refine wt_take 7 rfl (by kernel_rfl) (by kernel_rfl) (by kernel_rfl) (fun _ _ _ _ h => h) rfl hC ⟨.int .i64 (G k), fun w hw => ex_load1 rfl Tryd.underlying3 rfl rfl (by rw [Nat.mul_one]; exact HR.out.keep hw k hlt), fun a1 ha => ?_⟩
        simp only [Act.put, List.setIfInBounds_toArray, List.set_cons_succ, List.set_cons_zero] at ha; subst ha
        refine wt_one 8 (by kernel_rfl) ?_
        refine wt_call0 hs rfl rfl (by go_simp) (HK.out _) (by simp only [Act.put, List.setIfInBounds_toArray, List.set_cons_succ, List.set_cons_zero]; rfl) ?_
        clear hs; intro w1 hs
        refine wt_and (hs.sub (by repeat (first | exact List.Sublist.refl _ | refine List.Sublist.cons_cons _ ?_ | refine List.Sublist.cons _ ?_))) fun hC => ?_
        refine wt_take 9 rfl (by kernel_rfl) (by kernel_rfl) (by kernel_rfl) (fun _ _ _ _ h => h) rfl hC ⟨_, fun w hw => by (go_simp; try with_reducible rfl), fun a1 ha => ?_⟩
        simp only [Act.put, List.setIfInBounds_toArray, List.set_cons_succ, List.set_cons_zero] at ha; subst ha
        refine wt_done (by kernel_rfl) ?_
        skip
        go_wp2
        go_ret
        exact ⟨rfl, hs⟩
      · go_upto_region 4 with fail
        refine wt_enter 10 rfl hs (by kernel_rfl) ?_
        clear hs; intro w1 hs; have hC := hs
        refine wt_take 0 rfl (by kernel_rfl) (by kernel_rfl) (by kernel_rfl) (fun _ _ _ _ h => h) rfl hC ⟨_, fun w hw => by (go_simp; try with_reducible rfl), fun a1 ha => ?_⟩
        simp only [Act.put, List.setIfInBounds_toArray, List.set_cons_succ, List.set_cons_zero] at ha; subst ha
        refine wt_take 1 rfl (by kernel_rfl) (by kernel_rfl) (by kernel_rfl) (fun _ _ _ _ h => h) rfl hC ⟨_, fun w hw => by (go_simp; try with_reducible rfl), fun a1 ha => ?_⟩
        simp only [Act.put, List.setIfInBounds_toArray, List.set_cons_succ, List.set_cons_zero] at ha; subst ha
        refine wt_take 2 rfl (by kernel_rfl) (by kernel_rfl) (by kernel_rfl) (fun _ _ _ _ h => h) rfl hC ⟨_, fun w hw => by (go_simp; try with_reducible rfl), fun a1 ha => ?_⟩
        simp only [Act.put, List.setIfInBounds_toArray, List.set_cons_succ, List.set_cons_zero] at ha; subst ha
        refine wt_take 3 rfl (by kernel_rfl) (by kernel_rfl) (by kernel_rfl) (fun _ _ _ _ h => h) rfl hC ⟨_, fun w hw => ex_load2 rfl Tryd.underlying23 rfl size23 rfl (Res.cellAt HP.out hw rfl) (Res.cellAt HP.out hw rfl), fun a1 ha => ?_⟩
        simp only [Act.put, List.setIfInBounds_toArray, List.set_cons_succ, List.set_cons_zero] at ha; subst ha
        refine wt_take 4 rfl (by kernel_rfl) (by kernel_rfl) (by kernel_rfl) (fun _ _ _ _ h => h) rfl hC ⟨_, fun w hw => by (go_simp; try with_reducible rfl), fun a1 ha => ?_⟩
        simp only [Act.put, List.setIfInBounds_toArray, List.set_cons_succ, List.set_cons_zero] at ha; subst ha
        refine wt_take 5 rfl (by kernel_rfl) (by kernel_rfl) (by kernel_rfl) (fun _ _ _ _ h => h) rfl hC ⟨_, fun w hw => by (go_simp; try with_reducible rfl), fun a1 ha => ?_⟩
        simp only [Act.put, List.setIfInBounds_toArray, List.set_cons_succ, List.set_cons_zero] at ha; subst ha
        refine wt_take 6 rfl (by kernel_rfl) (by kernel_rfl) (by kernel_rfl) (fun _ _ _ _ h => h) rfl hC ⟨_, fun w hw => ex_indexS rfl Tryd.underlying24 size3 rfl rfl k rfl hlt rfl, fun a1 ha => ?_⟩
        simp only [Act.put, List.setIfInBounds_toArray, List.set_cons_succ, List.set_cons_zero] at ha; subst ha
        refine wt_take 7 rfl (by kernel_rfl) (by kernel_rfl) (by kernel_rfl) (fun _ _ _ _ h => h) rfl hC ⟨.int .i64 (G k), fun w hw => ex_load1 rfl Tryd.underlying3 rfl rfl (by rw [Nat.mul_one]; exact HR.out.keep hw k hlt), fun a1 ha => ?_⟩
        simp only [Act.put, List.setIfInBounds_toArray, List.set_cons_succ, List.set_cons_zero] at ha; subst ha
        refine wt_one 8 (by kernel_rfl) ?_
        refine wt_call0 hs rfl rfl (by go_simp) (HK.out _) (by simp only [Act.put, List.setIfInBounds_toArray, List.set_cons_succ, List.set_cons_zero]; rfl) ?_
        clear hs; intro w1 hs
        refine wt_and (hs.sub (by repeat (first | exact List.Sublist.refl _ | refine List.Sublist.cons_cons _ ?_ | refine List.Sublist.cons _ ?_))) fun hC => ?_
        refine wt_take 9 rfl (by kernel_rfl) (by kernel_rfl) (by kernel_rfl) (fun _ _ _ _ h => h) rfl hC ⟨_, fun w hw => by (go_simp; try with_reducible rfl), fun a1 ha => ?_⟩
        simp only [Act.put, List.setIfInBounds_toArray, List.set_cons_succ, List.set_cons_zero] at ha; subst ha
        refine wt_done (by kernel_rfl) ?_
        skip
        go_wp2
        go_roundw
        case rel => exact ⟨k + 1, by omega, by go_num, fun j hj => by
          rcases Nat.lt_or_ge j k with h1 | h1
          · exact HALL.out j h1
          · obtain rfl : j = k := by omega
            exact HZ.out, hs⟩
        case measure => simp [intOf]; omega
    · exfalso
      obtain ⟨j, hj, hf⟩ := HX.out
      rw [HALL.out j (by omega)] at hf
      cases hf
set_option maxHeartbeats 1000000 in
theorem rlanded_yes (N cap db doff : Nat) (ao : Option Addr) (G : Nat → Int) (hn : n ≤ 4096) (hN : N ≤ 9223372036854775807) (hao : 0 < N → ao = some ⟨db, doff, none⟩) (hR : Rd w db doff N fun j => .int .i64 (G j)) (hne : 0 < N → db ∉ (refS p b i n m B I).foot)
    (hgood : ∀ j, j < N → inD n m (G j) = true) (h : (refS p b i n m B I).holds w) :
    Calls Tryd.prog 30 #[.pointer (some ⟨p, 0, none⟩), .slice ao N cap] w fun e w' => e = .returned (.int .i64 0) ∧ Tr w (refS p b i n m B I).foot w' [refS p b i n m (landB B G N) I] := by
  have hs := Tr.open3 h
  have HA := Lib.hid hao
  have HR := Lib.hid hR
  have HNE := Lib.hid hne
  have HX := Lib.hid hgood
  clear hao hR h hgood hne
  go_enter Tryd.func30, Tryd.ntmps30
  go_wp2
  go_loopw [5] (fun iv wr => ∃ k : Nat, k ≤ N ∧ iv = .int .i64 k ∧ Tr w (refS p b i n m B I).foot wr [Res.blk p #[.int .i64 n, .int .i64 m, .slice (some ⟨b, 0, none⟩) n n, .slice (some ⟨i, 0, none⟩) (m + 1) (m + 1)] 73, Res.blk b (rowOf n (rowB B)) 3, Res.blk i (rowOf (m + 1) (rowI I)) 3]) (fun i _ => N - (intOf i).toNat)
  case atStart => exact ⟨0, by omega, rfl, hs⟩
  case round =>
    clear hs
    obtain ⟨k, hk, rfl, hs⟩ := hrel
    by_cases hlt : k < N
    · have hltI : (k : Int) < N := by omega
      obtain rfl := HA.out (by omega)
      have HK := Lib.hid (fun w => rdata_any n m (G k) w)
      rw [HX.out k hlt] at HK
      go_upto_region 4 with fail
      refine wt_enter 10 rfl hs (by kernel_rfl) ?_
      clear hs; intro w1 hs; have hC := hs
      refine wt_take 0 rfl (by kernel_rfl) (by kernel_rfl) (by kernel_rfl) (fun _ _ _ _ h => h) rfl hC ⟨_, fun w hw => by (go_simp; try with_reducible rfl), fun a1 ha => ?_⟩
      simp only [Act.put, List.setIfInBounds_toArray, List.set_cons_succ, List.set_cons_zero] at ha; subst ha
      refine wt_take 1 rfl (by kernel_rfl) (by kernel_rfl) (by kernel_rfl) (fun _ _ _ _ h => h) rfl hC ⟨_, fun w hw => by (go_simp; try with_reducible rfl), fun a1 ha => ?_⟩
      simp only [Act.put, List.setIfInBounds_toArray, List.set_cons_succ, List.set_cons_zero] at ha; subst ha
      refine wt_take 2 rfl (by kernel_rfl) (by kernel_rfl) (by kernel_rfl) (fun _ _ _ _ h => h) rfl hC ⟨_, fun w hw => by (go_simp; try with_reducible rfl), fun a1 ha => ?_⟩
      simp only [Act.put, List.setIfInBounds_toArray, List.set_cons_succ, List.set_cons_zero] at ha; subst ha
      refine wt_take 3 rfl (by kernel_rfl) (by kernel_rfl) (by kernel_rfl) (fun _ _ _ _ h => h) rfl hC ⟨_, fun w hw => ex_load2 rfl Tryd.underlying23 rfl size23 rfl (by rw [cell_of_row w _ _ _ _ (0, 0) (hw.getB 0 rfl)]; rfl) (by rw [cell_of_row w _ _ _ _ (0, 0) (hw.getB 0 rfl)]; rfl), fun a1 ha => ?_⟩
      simp only [Act.put, List.setIfInBounds_toArray, List.set_cons_succ, List.set_cons_zero] at ha; subst ha
      refine wt_take 4 rfl (by kernel_rfl) (by kernel_rfl) (by kernel_rfl) (fun _ _ _ _ h => h) rfl hC ⟨_, fun w hw => by (go_simp; try with_reducible rfl), fun a1 ha => ?_⟩
      simp only [Act.put, List.setIfInBounds_toArray, List.set_cons_succ, List.set_cons_zero] at ha; subst ha
      refine wt_take 5 rfl (by kernel_rfl) (by kernel_rfl) (by kernel_rfl) (fun _ _ _ _ h => h) rfl hC ⟨_, fun w hw => by (go_simp; try with_reducible rfl), fun a1 ha => ?_⟩
      simp only [Act.put, List.setIfInBounds_toArray, List.set_cons_succ, List.set_cons_zero] at ha; subst ha
      refine wt_take 6 rfl (by kernel_rfl) (by kernel_rfl) (by kernel_rfl) (fun _ _ _ _ h => h) rfl hC ⟨_, fun w hw => ex_indexS rfl Tryd.underlying24 size3 rfl rfl k rfl hlt rfl, fun a1 ha => ?_⟩
      simp only [Act.put, List.setIfInBounds_toArray, List.set_cons_succ, List.set_cons_zero] at ha; subst ha
      refine wt_take 7 rfl (by kernel_rfl) (by kernel_rfl) (by kernel_rfl) (fun _ _ _ _ h => h) rfl hC ⟨.int .i64 (G k), fun w hw => ex_load1 rfl Tryd.underlying3 rfl rfl (by rw [Nat.mul_one]; exact (HR.out.keepS hw (HNE.out (by omega))) k hlt), fun a1 ha => ?_⟩
      simp only [Act.put, List.setIfInBounds_toArray, List.set_cons_succ, List.set_cons_zero] at ha; subst ha
      refine wt_one 8 (by kernel_rfl) ?_
      refine wt_call0 hs rfl rfl (by go_simp) (HK.out _) (by simp only [Act.put, List.setIfInBounds_toArray, List.set_cons_succ, List.set_cons_zero]; rfl) ?_
      clear hs; intro w1 hs
      refine wt_and (hs.sub (by repeat (first | exact List.Sublist.refl _ | refine List.Sublist.cons_cons _ ?_ | refine List.Sublist.cons _ ?_))) fun hC => ?_
      refine wt_take 9 rfl (by kernel_rfl) (by kernel_rfl) (by kernel_rfl) (fun _ _ _ _ h => h) rfl hC ⟨_, fun w hw => by (go_simp; try with_reducible rfl), fun a1 ha => ?_⟩
      simp only [Act.put, List.setIfInBounds_toArray, List.set_cons_succ, List.set_cons_zero] at ha; subst ha
      refine wt_done (by kernel_rfl) ?_
      skip
      go_wp2
      go_roundw
      case rel => exact ⟨k + 1, by omega, by go_num, hs⟩
      case measure => simp [intOf]; omega
    · obtain rfl : k = N := by omega
      go_wp2
      go_loopw [7] (fun iv wr => ∃ (j : Nat), j ≤ k ∧ iv = .int .i64 j ∧ Tr w (refS p b i n m B I).foot wr [Res.blk p #[.int .i64 n, .int .i64 m, .slice (some ⟨b, 0, none⟩) n n, .slice (some ⟨i, 0, none⟩) (m + 1) (m + 1)] 73, Res.blk b (rowOf n (rowB (landB B G j))) 3, Res.blk i (rowOf (m + 1) (rowI I)) 3]) (fun i _ => k - (intOf i).toNat)
      case atStart => exact ⟨0, by omega, rfl, hs⟩
      case round =>
        clear hs
        obtain ⟨j, hj, rfl, hs⟩ := hrel
        have HLS : Hid (landB B G (j + 1) = landS (landB B G j) (G j).toNat) := Lib.hid rfl
        by_cases hlt : j < k
        · have hltI : (j : Int) < k := by omega
          obtain rfl := HA.out (by omega)
          rcases inD_or n m (G j) with ⟨g, hg, hm, hgn⟩ | hbad
          · rw [hg] at HLS
            have HV : Hid (∀ {w' : World} {L : List Res}, Tr w (refS p b i n m B I).foot w' L → w'.cell? ⟨db, doff + j, none⟩ = some (.int .i64 (g : Int))) := Lib.hid fun hs => ((HR.out.keepS hs (HNE.out (by omega))) j hlt).trans (by show some (Value.int .i64 (G j)) = _; rw [hg])
            rw [Int.toNat_natCast] at HLS
            clear hg
            generalize landB B G j = C at *
            obtain ⟨v, hv⟩ : ∃ v, C g = v := ⟨_, rfl⟩
            have HG : Hid ((rowOf n (rowB C))[g]? = some (.int .i64 ((v : Nat) : Int))) := Lib.hid (by rw [rowOf_get hgn, rowB, hv])
            have HU := Lib.hid (rowB_upd C g 0 n)
            by_cases hC : v = 2
            · subst hC
              have HE : Hid (landS C g = setB C g 0) := Lib.hid (by rw [landS, if_pos hv])
              clear hv
              go_upto_region 10 with fail
              refine wt_enter 11 rfl hs (by kernel_rfl) ?_
              clear hs; intro w1 hs; have hC := hs
              refine wt_take 0 rfl (by kernel_rfl) (by kernel_rfl) (by kernel_rfl) (fun _ _ _ _ h => h) rfl hC ⟨_, fun w hw => by (go_simp; try with_reducible rfl), fun a1 ha => ?_⟩
              simp only [Act.put, List.setIfInBounds_toArray, List.set_cons_succ, List.set_cons_zero] at ha; subst ha
              refine wt_take 1 rfl (by kernel_rfl) (by kernel_rfl) (by kernel_rfl) (fun _ _ _ _ h => h) rfl hC ⟨_, fun w hw => by (go_simp; try with_reducible rfl), fun a1 ha => ?_⟩
              simp only [Act.put, List.setIfInBounds_toArray, List.set_cons_succ, List.set_cons_zero] at ha; subst ha
              refine wt_take 2 rfl (by kernel_rfl) (by kernel_rfl) (by kernel_rfl) (fun _ _ _ _ h => h) rfl hC ⟨_, fun w hw => by (go_simp; try with_reducible rfl), fun a1 ha => ?_⟩
              simp only [Act.put, List.setIfInBounds_toArray, List.set_cons_succ, List.set_cons_zero] at ha; subst ha
              refine wt_take 3 rfl (by kernel_rfl) (by kernel_rfl) (by kernel_rfl) (fun _ _ _ _ h => h) rfl hC ⟨_, fun w hw => ex_load1 rfl Tryd.underlying24 rfl rfl (by rw [cell_of_row w _ _ _ _ (0, 0) (hw.getB 0 rfl)]; rfl), fun a1 ha => ?_⟩
              simp only [Act.put, List.setIfInBounds_toArray, List.set_cons_succ, List.set_cons_zero] at ha; subst ha
              refine wt_take 4 rfl (by kernel_rfl) (by kernel_rfl) (by kernel_rfl) (fun _ _ _ _ h => h) rfl hC ⟨_, fun w hw => by (go_simp; try with_reducible rfl), fun a1 ha => ?_⟩
              simp only [Act.put, List.setIfInBounds_toArray, List.set_cons_succ, List.set_cons_zero] at ha; subst ha
              refine wt_take 5 rfl (by kernel_rfl) (by kernel_rfl) (by kernel_rfl) (fun _ _ _ _ h => h) rfl hC ⟨_, fun w hw => by (go_simp; try with_reducible rfl), fun a1 ha => ?_⟩
              simp only [Act.put, List.setIfInBounds_toArray, List.set_cons_succ, List.set_cons_zero] at ha; subst ha
              refine wt_take 6 rfl (by kernel_rfl) (by kernel_rfl) (by kernel_rfl) (fun _ _ _ _ h => h) rfl hC ⟨_, fun w hw => ex_indexS rfl Tryd.underlying24 size3 rfl rfl j rfl hlt rfl, fun a1 ha => ?_⟩
              simp only [Act.put, List.setIfInBounds_toArray, List.set_cons_succ, List.set_cons_zero] at ha; subst ha
              refine wt_take 7 rfl (by kernel_rfl) (by kernel_rfl) (by kernel_rfl) (fun _ _ _ _ h => h) rfl hC ⟨.int .i64 ((g : Nat) : Int), fun w hw => ex_load1 rfl Tryd.underlying3 rfl rfl (by rw [Nat.mul_one]; exact HV.out hw), fun a1 ha => ?_⟩
              simp only [Act.put, List.setIfInBounds_toArray, List.set_cons_succ, List.set_cons_zero] at ha; subst ha
              refine wt_take 8 rfl (by kernel_rfl) (by kernel_rfl) (by kernel_rfl) (fun _ _ _ _ h => h) rfl hC ⟨_, fun w hw => ex_index1 rfl Tryd.underlying24 size3 rfl rfl g rfl hgn rfl, fun a1 ha => ?_⟩
              simp only [Act.put, List.setIfInBounds_toArray, List.set_cons_succ, List.set_cons_zero] at ha; subst ha
              refine wt_take 9 rfl (by kernel_rfl) (by kernel_rfl) (by kernel_rfl) (fun _ _ _ _ h => h) rfl hC ⟨_, fun w hw => ex_load1 rfl Tryd.underlying3 rfl rfl (by rw [cell_of_row w _ _ _ _ (0, 0) (hw.getB 1 rfl)]; exact HG.out), fun a1 ha => ?_⟩
              simp only [Act.put, List.setIfInBounds_toArray, List.set_cons_succ, List.set_cons_zero] at ha; subst ha
              refine wt_take 10 rfl (by kernel_rfl) (by kernel_rfl) (by kernel_rfl) (fun _ _ _ _ h => h) rfl hC ⟨_, fun w hw => by (go_simp; try with_reducible rfl), fun a1 ha => ?_⟩
              simp only [Act.put, List.setIfInBounds_toArray, List.set_cons_succ, List.set_cons_zero] at ha; subst ha
              refine wt_done (by kernel_rfl) ?_
              skip
              go_upto_region 11 with fail
              refine wt_enterS (List.Sublist.cons_cons _ (List.Sublist.cons _ (List.Sublist.refl _))) 10 rfl hs (by kernel_rfl) ?_
              clear hs; intro w1 hC hs
              refine wt_take 0 rfl (by kernel_rfl) (by kernel_rfl) (by kernel_rfl) (fun _ _ _ _ h => h) rfl hC ⟨_, fun w hw => by (go_simp; try with_reducible rfl), fun a1 ha => ?_⟩
              simp only [Act.put, List.setIfInBounds_toArray, List.set_cons_succ, List.set_cons_zero] at ha; subst ha
              refine wt_take 1 rfl (by kernel_rfl) (by kernel_rfl) (by kernel_rfl) (fun _ _ _ _ h => h) rfl hC ⟨_, fun w hw => by (go_simp; try with_reducible rfl), fun a1 ha => ?_⟩
              simp only [Act.put, List.setIfInBounds_toArray, List.set_cons_succ, List.set_cons_zero] at ha; subst ha
              refine wt_take 2 rfl (by kernel_rfl) (by kernel_rfl) (by kernel_rfl) (fun _ _ _ _ h => h) rfl hC ⟨_, fun w hw => by (go_simp; try with_reducible rfl), fun a1 ha => ?_⟩
              simp only [Act.put, List.setIfInBounds_toArray, List.set_cons_succ, List.set_cons_zero] at ha; subst ha
              refine wt_take 3 rfl (by kernel_rfl) (by kernel_rfl) (by kernel_rfl) (fun _ _ _ _ h => h) rfl hC ⟨_, fun w hw => ex_load1 rfl Tryd.underlying24 rfl rfl (by rw [cell_of_row w _ _ _ _ (0, 0) (hw.getB 0 rfl)]; rfl), fun a1 ha => ?_⟩
              simp only [Act.put, List.setIfInBounds_toArray, List.set_cons_succ, List.set_cons_zero] at ha; subst ha
              refine wt_take 4 rfl (by kernel_rfl) (by kernel_rfl) (by kernel_rfl) (fun _ _ _ _ h => h) rfl hC ⟨_, fun w hw => by (go_simp; try with_reducible rfl), fun a1 ha => ?_⟩
              simp only [Act.put, List.setIfInBounds_toArray, List.set_cons_succ, List.set_cons_zero] at ha; subst ha
              refine wt_take 5 rfl (by kernel_rfl) (by kernel_rfl) (by kernel_rfl) (fun _ _ _ _ h => h) rfl hC ⟨_, fun w hw => by (go_simp; try with_reducible rfl), fun a1 ha => ?_⟩
              simp only [Act.put, List.setIfInBounds_toArray, List.set_cons_succ, List.set_cons_zero] at ha; subst ha
              refine wt_take 6 rfl (by kernel_rfl) (by kernel_rfl) (by kernel_rfl) (fun _ _ _ _ h => h) rfl hC ⟨_, fun w hw => ex_indexS rfl Tryd.underlying24 size3 rfl rfl j rfl hlt rfl, fun a1 ha => ?_⟩
              simp only [Act.put, List.setIfInBounds_toArray, List.set_cons_succ, List.set_cons_zero] at ha; subst ha
              refine wt_take 7 rfl (by kernel_rfl) (by kernel_rfl) (by kernel_rfl) (fun _ _ _ _ h => h) rfl hC ⟨.int .i64 ((g : Nat) : Int), fun w hw => ex_load1 rfl Tryd.underlying3 rfl rfl (by rw [Nat.mul_one]; exact HV.out hw), fun a1 ha => ?_⟩
              simp only [Act.put, List.setIfInBounds_toArray, List.set_cons_succ, List.set_cons_zero] at ha; subst ha
              refine wt_take 8 rfl (by kernel_rfl) (by kernel_rfl) (by kernel_rfl) (fun _ _ _ _ h => h) rfl hC ⟨_, fun w hw => ex_index1 rfl Tryd.underlying24 size3 rfl rfl g rfl hgn rfl, fun a1 ha => ?_⟩
              simp only [Act.put, List.setIfInBounds_toArray, List.set_cons_succ, List.set_cons_zero] at ha; subst ha
              refine wt_one 9 (by kernel_rfl) ?_
              refine wt_store1R hs rfl rfl rfl size3 rfl rfl rfl 1 rfl hgn (rowB (setB C g 0)) HU.out (by simp only [Act.put, List.setIfInBounds_toArray, List.set_cons_succ, List.set_cons_zero]; rfl) ?_
              clear hs; intro w1 hs
              refine wt_and (hs.sub (by repeat (first | exact List.Sublist.refl _ | refine List.Sublist.cons_cons _ ?_ | refine List.Sublist.cons _ ?_))) fun hC => ?_
              refine wt_done (by kernel_rfl) ?_
              skip
              go_wp2
              go_roundw
              case rel => exact ⟨j + 1, by omega, by go_num, by rw [HLS.out, HE.out]; exact hs⟩
              case measure => simp [intOf]; omega
            · have HE : Hid (landS C g = C) := Lib.hid (by rw [landS, if_neg (by rw [hv]; exact hC)])
              have t1 : ((v : Int) == 2) = false := by rw [beq_eq_false_iff_ne]; omega
              clear hv hC
              go_upto_region 10 with fail
              refine wt_enter 11 rfl hs (by kernel_rfl) ?_
              clear hs; intro w1 hs; have hC := hs
              refine wt_take 0 rfl (by kernel_rfl) (by kernel_rfl) (by kernel_rfl) (fun _ _ _ _ h => h) rfl hC ⟨_, fun w hw => by (go_simp; try with_reducible rfl), fun a1 ha => ?_⟩
              simp only [Act.put, List.setIfInBounds_toArray, List.set_cons_succ, List.set_cons_zero] at ha; subst ha
              refine wt_take 1 rfl (by kernel_rfl) (by kernel_rfl) (by kernel_rfl) (fun _ _ _ _ h => h) rfl hC ⟨_, fun w hw => by (go_simp; try with_reducible rfl), fun a1 ha => ?_⟩
              simp only [Act.put, List.setIfInBounds_toArray, List.set_cons_succ, List.set_cons_zero] at ha; subst ha
              refine wt_take 2 rfl (by kernel_rfl) (by kernel_rfl) (by kernel_rfl) (fun _ _ _ _ h => h) rfl hC ⟨_, fun w hw => by (go_simp; try with_reducible rfl), fun a1 ha => ?_⟩
              simp only [Act.put, List.setIfInBounds_toArray, List.set_cons_succ, List.set_cons_zero] at ha; subst ha
              refine wt_take 3 rfl (by kernel_rfl) (by kernel_rfl) (by kernel_rfl) (fun _ _ _ _ h => h) rfl hC ⟨_, fun w hw => ex_load1 rfl Tryd.underlying24 rfl rfl (by rw [cell_of_row w _ _ _ _ (0, 0) (hw.getB 0 rfl)]; rfl), fun a1 ha => ?_⟩
              simp only [Act.put, List.setIfInBounds_toArray, List.set_cons_succ, List.set_cons_zero] at ha; subst ha
              refine wt_take 4 rfl (by kernel_rfl) (by kernel_rfl) (by kernel_rfl) (fun _ _ _ _ h => h) rfl hC ⟨_, fun w hw => by (go_simp; try with_reducible rfl), fun a1 ha => ?_⟩
              simp only [Act.put, List.setIfInBounds_toArray, List.set_cons_succ, List.set_cons_zero] at ha; subst ha
              refine wt_take 5 rfl (by kernel_rfl) (by kernel_rfl) (by kernel_rfl) (fun _ _ _ _ h => h) rfl hC ⟨_, fun w hw => by (go_simp; try with_reducible rfl), fun a1 ha => ?_⟩
              simp only [Act.put, List.setIfInBounds_toArray, List.set_cons_succ, List.set_cons_zero] at ha; subst ha
              refine wt_take 6 rfl (by kernel_rfl) (by kernel_rfl) (by kernel_rfl) (fun _ _ _ _ h => h) rfl hC ⟨_, fun w hw => ex_indexS rfl Tryd.underlying24 size3 rfl rfl j rfl hlt rfl, fun a1 ha => ?_⟩
              simp only [Act.put, List.setIfInBounds_toArray, List.set_cons_succ, List.set_cons_zero] at ha; subst ha
              refine wt_take 7 rfl (by kernel_rfl) (by kernel_rfl) (by kernel_rfl) (fun _ _ _ _ h => h) rfl hC ⟨.int .i64 ((g : Nat) : Int), fun w hw => ex_load1 rfl Tryd.underlying3 rfl rfl (by rw [Nat.mul_one]; exact HV.out hw), fun a1 ha => ?_⟩
              simp only [Act.put, List.setIfInBounds_toArray, List.set_cons_succ, List.set_cons_zero] at ha; subst ha
              refine wt_take 8 rfl (by kernel_rfl) (by kernel_rfl) (by kernel_rfl) (fun _ _ _ _ h => h) rfl hC ⟨_, fun w hw => ex_index1 rfl Tryd.underlying24 size3 rfl rfl g rfl hgn rfl, fun a1 ha => ?_⟩
              simp only [Act.put, List.setIfInBounds_toArray, List.set_cons_succ, List.set_cons_zero] at ha; subst ha
              refine wt_take 9 rfl (by kernel_rfl) (by kernel_rfl) (by kernel_rfl) (fun _ _ _ _ h => h) rfl hC ⟨_, fun w hw => ex_load1 rfl Tryd.underlying3 rfl rfl (by rw [cell_of_row w _ _ _ _ (0, 0) (hw.getB 1 rfl)]; exact HG.out), fun a1 ha => ?_⟩
              simp only [Act.put, List.setIfInBounds_toArray, List.set_cons_succ, List.set_cons_zero] at ha; subst ha
              refine wt_take 10 rfl (by kernel_rfl) (by kernel_rfl) (by kernel_rfl) (fun _ _ _ _ h => h) rfl hC ⟨_, fun w hw => by (go_simp; try with_reducible rfl), fun a1 ha => ?_⟩
              simp only [Act.put, List.setIfInBounds_toArray, List.set_cons_succ, List.set_cons_zero] at ha; subst ha
              refine wt_done (by kernel_rfl) ?_
              skip
              go_wp2
              go_roundw
              case rel => exact ⟨j + 1, by omega, by go_num, by rw [HLS.out, HE.out]; exact hs⟩
              case measure => simp [intOf]; omega
          · exfalso
            have := HX.out j hlt
            rw [inD_out hbad] at this
            cases this
        · obtain rfl : j = k := by omega
          go_wp2
          go_ret
          exact ⟨rfl, Tr.join3 hs⟩
theorem rB_low (n m : Nat) (B : Nat → Nat) : cntP (rB n m B) (m + 1) = 0 := cntP_zero fun j hj => by
  simp only [rB]; rw [decide_eq_false (by omega)]; rfl
theorem fL_low (n m : Nat) (B : Nat → Nat) : cntP (fL n m B) (m + 1) = 0 := cntP_zero fun j hj => by
  simp only [fL]; rw [decide_eq_false (p := m < j) (by omega)]; simp
set_option maxHeartbeats 1000000 in
theorem rroom_any (hn : n ≤ 4096) (hm : m ≤ 512) (hmn : m < n) (hB : ∀ j, B j ≤ 2) (h : (refS p b i n m B I).holds w) :
    Calls Tryd.prog 18 #[.pointer (some ⟨p, 0, none⟩)] w fun e w' => e = .returned (roomV n m B I) ∧ Tr w [] w' [] := by
  have hs := Tr.refl w []
  have HP := Lib.hid (rs_p h)
  have HB := Lib.hid (rs_b h)
  have HI := Lib.hid (rs_i h)
  have HB2 := Lib.hid hB
  have HL1 := Lib.hid (rB_low n m B)
  have HL2 := Lib.hid (fL_low n m B)
  clear h hB
  go_enter Tryd.func18, Tryd.ntmps18
  go_upto_region 1 with (first
    | ((with_reducible refine at_alloc rfl ?_); refine wl_allocA hs rfl rfl zero40 ?_; clear hs; intro w1 ob hs))
  go_wp2_with (first
    | ((with_reducible refine at_alloc rfl ?_); refine wl_allocA hs rfl rfl zero40 ?_; clear hs; intro w1 rb hs)
    | ((with_reducible refine at_store rfl ?_); refine wl_storeA hs rfl rfl rfl rfl size40 (by simp [Value.oneCell']) 0 rfl rfl ?_; clear hs; intro w1 hs)
    | ((with_reducible refine (at_load (t := 3)) rfl ?_); refine wl_loadC rfl rfl Tryd.underlying3 rfl rfl (Res.cellAt HP.out hs rfl) ?_))
  go_loopw [4] (fun iv wr => ∃ k : Nat, m < k ∧ k ≤ n ∧ iv = .int .i64 k ∧ Tr w [] wr [Res.blk rb #[.int .i64 ((cntP (rB n m B) k : Nat) : Int), .int .i64 ((cntP (fL n m B) k : Nat) : Int), .int .i64 0] 40, Res.blk ob #[.int .i64 0, .int .i64 0, .int .i64 0] 40]) (fun i _ => n - (intOf i).toNat)
  case atStart => exact ⟨m + 1, by omega, by omega, by go_num, by rw [HL1.out, HL2.out]; exact hs⟩
  case round =>
    clear hs
    obtain ⟨k, hk1, hk2, rfl, hs⟩ := hrel
    by_cases hlt : k < n
    · have hltI : (k : Int) < n := by omega
      obtain ⟨v, hv⟩ : ∃ v, B k = v := ⟨_, rfl⟩
      have HG : Hid ((rowOf n (rowB B))[k]? = some (.int .i64 (v : Nat))) := Lib.hid (by rw [rowOf_get hlt, rowB, hv])
      have HC1 : Hid (cntP (rB n m B) (k + 1) = cntP (rB n m B) k + (decide (v ≠ 1)).toNat) := Lib.hid (by
        rw [cntP]; congr 1; simp only [rB]; rw [decide_eq_true hk1, hv, Bool.true_and])
      have HC2 : Hid (cntP (fL n m B) (k + 1) = cntP (fL n m B) k + (decide (v = 2)).toNat) := Lib.hid (by
        rw [cntP, fL_in hlt hk1, hv])
      have c1 := cntP_le (rB n m B) k
      have c2 := cntP_le (fL n m B) k
      have hv2 := HB2.out k
      rw [hv] at hv2
      clear hv
      generalize cntP (rB n m B) k = x1 at *
      generalize cntP (fL n m B) k = x2 at *
      rcases (by omega : v = 0 ∨ v = 1 ∨ v = 2) with rfl | rfl | rfl
      all_goals
        clear hv2
        go_wp2_with (first
                | ((with_reducible refine at_load rfl ?_); refine wl_load1 hs rfl rfl Tryd.underlying3 rfl rfl 0 rfl rfl ?_)
                | ((with_reducible refine (at_load (t := 3)) rfl ?_); refine wl_loadC rfl rfl Tryd.underlying3 rfl rfl (Res.cellAt HP.out hs rfl) ?_)
                | ((with_reducible refine (at_load (t := 24)) rfl ?_); refine wl_loadC rfl rfl Tryd.underlying24 rfl rfl (Res.cellAt HP.out hs rfl) ?_)
                | ((with_reducible refine (at_load (t := 3)) rfl ?_); refine wl_loadC rfl rfl Tryd.underlying3 rfl rfl (Res.cellAt HB.out hs HG.out) ?_)
                | ((with_reducible refine at_store rfl ?_); refine wl_store1 hs rfl rfl size3 rfl rfl rfl 0 rfl (of_decide_eq_true rfl) ?_; clear hs; intro w1 hs))
        go_roundw
        case rel => exact ⟨k + 1, by omega, by omega, by go_num, by rw [HC1.out, HC2.out]; exact hs⟩
        case measure => simp [intOf]; omega
    · obtain rfl : k = n := by omega
      have HV : Hid (roomV k m B I = .agg #[.int .i64 ((cntP (rB k m B) k : Nat) : Int), .int .i64 ((cntP (fL k m B) k : Nat) : Int), .int .i64 ((cntP (rI I) (m + 1) : Nat) : Int)]) := Lib.hid rfl
      generalize cntP (rB k m B) k = x1 at *
      generalize cntP (fL k m B) k = x2 at *
      have HZ : Hid (cntP (rI I) 1 = 0) := Lib.hid rfl
      go_wp2_with (first | ((with_reducible refine (at_load (t := 3)) rfl ?_); refine wl_loadC rfl rfl Tryd.underlying3 rfl rfl (Res.cellAt HP.out hs rfl) ?_))
      go_loopw [5] (fun iv wr => ∃ j : Nat, 1 ≤ j ∧ j ≤ m + 1 ∧ iv = .int .i64 j ∧ Tr w [] wr [Res.blk rb #[.int .i64 (x1 : Int), .int .i64 (x2 : Int), .int .i64 ((cntP (rI I) j : Nat) : Int)] 40, Res.blk ob #[.int .i64 0, .int .i64 0, .int .i64 0] 40]) (fun i _ => m + 1 - (intOf i).toNat)
      case atStart => exact ⟨1, by omega, by omega, rfl, by rw [HZ.out]; exact hs⟩
      case round =>
        clear hs
        obtain ⟨j, hj1, hj2, rfl, hs⟩ := hrel
        by_cases hlt : j ≤ m
        · have hltI : (j : Int) ≤ m := by omega
          obtain ⟨z, hz⟩ : ∃ z, I j = z := ⟨_, rfl⟩
          have HG : Hid ((rowOf (m + 1) (rowI I))[j]? = some (.int .i64 ((z.toNat : Nat) : Int))) := Lib.hid (by rw [rowOf_get (by omega), rowI, hz])
          have HC1 : Hid (cntP (rI I) (j + 1) = cntP (rI I) j + (!z).toNat) := Lib.hid (by
            rw [cntP]; congr 1; simp only [rI]; rw [decide_eq_true hj1, hz, Bool.true_and])
          have c1 := cntP_le (rI I) j
          clear hz
          generalize cntP (rI I) j = x3 at *
          cases z
          all_goals
            go_wp2_with (first
                    | ((with_reducible refine at_load rfl ?_); refine wl_load1 hs rfl rfl Tryd.underlying3 rfl rfl 0 rfl rfl ?_)
                    | ((with_reducible refine (at_load (t := 3)) rfl ?_); refine wl_loadC rfl rfl Tryd.underlying3 rfl rfl (Res.cellAt HP.out hs rfl) ?_)
                    | ((with_reducible refine (at_load (t := 24)) rfl ?_); refine wl_loadC rfl rfl Tryd.underlying24 rfl rfl (Res.cellAt HP.out hs rfl) ?_)
                    | ((with_reducible refine (at_load (t := 3)) rfl ?_); refine wl_loadC rfl rfl Tryd.underlying3 rfl rfl (Res.cellAt HI.out hs HG.out) ?_)
                    | ((with_reducible refine at_store rfl ?_); refine wl_store1 hs rfl rfl size3 rfl rfl rfl 0 rfl (of_decide_eq_true rfl) ?_; clear hs; intro w1 hs))
            go_roundw
            case rel => exact ⟨j + 1, by omega, by omega, by go_num, by rw [HC1.out]; exact hs⟩
            case measure => simp [intOf]; omega
        · obtain rfl : j = m + 1 := by omega
          have hltI : ¬ ((m + 1 : Nat) : Int) ≤ m := by omega
          go_wp2_with (first
            | ((with_reducible refine (at_load (t := 3)) rfl ?_); refine wl_loadC rfl rfl Tryd.underlying3 rfl rfl (Res.cellAt HP.out hs rfl) ?_)
            | ((with_reducible refine at_load rfl ?_); refine wl_loadA hs rfl rfl Tryd.underlying40 rfl rfl 0 rfl size40 ?_)
            | ((with_reducible refine at_store rfl ?_); refine wl_storeA hs rfl rfl rfl rfl size40 (by simp [Value.oneCell']) 1 rfl rfl ?_; clear hs; intro w1 hs))
          exact ret_cell hs rfl rfl Tryd.underlying40 rfl rfl 1 rfl size40 ⟨by rw [HV.out], hs.letgo⟩
end
end Go.Proofs.YtfedfdcbhggipaaDoor
