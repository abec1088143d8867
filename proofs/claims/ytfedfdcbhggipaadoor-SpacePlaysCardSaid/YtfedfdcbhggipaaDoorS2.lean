/- Spaces: New of the reference, refused. -/
import Derived.Test.YtfedfdcbhggipaaDoorS
namespace Go.Proofs.YtfedfdcbhggipaaDoor
set_option linter.unusedVariables false
set_option linter.unusedSimpArgs false
open Go Go.Sp Go.RowKit Go.BigFrame

theorem rowI_hit {j N : Nat} {I : Nat → Bool} (h : j < N) (hb : I j = true) : (rowOf N (rowI I))[j]? = some (.int .i64 1) := by
  rw [rowOf_get h, rowI, hb]; rfl
theorem rowBs_hit {j N k : Nat} {G : Nat → Int} (h : j < N) (hb : stF (fun _ => false) G k j = true) : (rowOf N (rowB (stB G k)))[j]? = some (.int .i64 1) := by
  rw [rowOf_get h, rowB, stB, hb]; rfl
section
variable {n m N1 N2 c1 c2 db1 do1 db2 do2 : Nat} {ao1 ao2 : Option Addr} {G1 G2 : Nat → Int} {w : World}
set_option maxRecDepth 100000 in
set_option maxHeartbeats 4000000 in
theorem rnew_no1 (hmay : 8 ≤ n ∧ n ≤ 4096 ∧ 1 ≤ m ∧ m ≤ 512 ∧ m + 2 ≤ n) (g1 : Ints w (.slice ao1 N1 c1) ao1 N1 c1 db1 do1 G1) (g2 : Ints w (.slice ao2 N2 c2) ao2 N2 c2 db2 do2 G2) (j : Nat)
    (hj : j < N1) (hok1 : ∀ k, k < j → okF (m + 1) 1 (stF (fun _ => false) G1 k) (G1 k)) (hbad : ¬ okF (m + 1) 1 (stF (fun _ => false) G1 j) (G1 j)) :
    Calls Tryd.prog 13 #[.agg #[.int .i64 n, .int .i64 m], .slice ao1 N1 c1, .slice ao2 N2 c2] w fun e w' => e = .returned (.tuple #[.pointer none, .int .i64 82]) ∧ Tr w [] w' [] := by
  have hs := Tr.refl w []
  have HM := Lib.hid (fun w => rmay_yes n m w hmay)
  have I1 := Lib.hid g1
  have I2 := Lib.hid g2
  have hl1 := g1.le
  have hm1 := g1.max
  have hl2 := g2.le
  have hm2 := g2.max
  unfold maxLen at hm1 hm2
  obtain ⟨h1, h2, h3, h4, h5⟩ := hmay
  have HO1 := Lib.hid hok1
  have HBAD := Lib.hid hbad
  clear g1 g2 hok1 hbad
  go_enter Tryd.func13, Tryd.ntmps13
  go_upto_region 4 with (first
    | ((with_reducible refine at_box (t := 23) rfl ?_); refine wl_boxA hs rfl rfl rfl ?_; clear hs; intro w1 xb hs)
    | ((with_reducible refine (at_load (t := 23)) rfl ?_); refine wl_loadA hs rfl rfl Tryd.underlying23 rfl rfl 0 rfl size23 ?_)
    | (go_at_call 35; refine (HM.out _).mono ?_; rintro e w2 ⟨rfl, hc⟩; replace hs := hs.call0 hc; clear hc))
  refine wt_enter 11 rfl hs (by kernel_rfl) ?_
  clear hs; intro w1 hs; have hC := hs
  refine wt_take 0 rfl (by kernel_rfl) (by kernel_rfl) (by kernel_rfl) (fun _ _ _ _ h => h) rfl hC ⟨_, fun w hw => ex_load2 rfl Tryd.underlying23 rfl size23 rfl (by rw [cell_of_row w _ _ _ _ (0, 0) (hw.getB 0 rfl)]; rfl) (by rw [cell_of_row w _ _ _ _ (0, 0) (hw.getB 0 rfl)]; rfl), fun a1 ha => ?_⟩
  simp only [Act.put, List.setIfInBounds_toArray, List.set_cons_succ, List.set_cons_zero] at ha; subst ha
  refine wt_take 1 rfl (by kernel_rfl) (by kernel_rfl) (by kernel_rfl) (fun _ _ _ _ h => h) rfl hC ⟨_, fun w hw => by (go_simp; try with_reducible rfl), fun a1 ha => ?_⟩
  simp only [Act.put, List.setIfInBounds_toArray, List.set_cons_succ, List.set_cons_zero] at ha; subst ha
  refine wt_take 2 rfl (by kernel_rfl) (by kernel_rfl) (by kernel_rfl) (fun _ _ _ _ h => h) rfl hC ⟨_, fun w hw => ex_load1 rfl Tryd.underlying3 rfl rfl (by rw [cell_of_row w _ _ _ _ (0, 0) (hw.getB 0 rfl)]; rfl), fun a1 ha => ?_⟩
  simp only [Act.put, List.setIfInBounds_toArray, List.set_cons_succ, List.set_cons_zero] at ha; subst ha
  refine wt_take 4 rfl (by kernel_rfl) (by kernel_rfl) (by kernel_rfl) (fun _ _ _ _ h => h) rfl hC ⟨_, fun w hw => by (go_simp; try with_reducible rfl), fun a1 ha => ?_⟩
  simp only [Act.put, List.setIfInBounds_toArray, List.set_cons_succ, List.set_cons_zero] at ha; subst ha
  refine wt_take 5 rfl (by kernel_rfl) (by kernel_rfl) (by kernel_rfl) (fun _ _ _ _ h => h) rfl hC ⟨_, fun w hw => ex_load1 rfl Tryd.underlying3 rfl rfl (by rw [cell_of_row w _ _ _ _ (0, 0) (hw.getB 0 rfl)]; rfl), fun a1 ha => ?_⟩
  simp only [Act.put, List.setIfInBounds_toArray, List.set_cons_succ, List.set_cons_zero] at ha; subst ha
  refine wt_take 6 rfl (by kernel_rfl) (by kernel_rfl) (by kernel_rfl) (fun _ _ _ _ h => h) rfl hC ⟨.int .i64 ((m : Int) + 1), fun w hw => by (go_simp; first | done | exact wrap_in (by omega) | go_num), fun a1 ha => ?_⟩
  simp only [Act.put, List.setIfInBounds_toArray, List.set_cons_succ, List.set_cons_zero] at ha; subst ha
  refine wt_all [3, 7] (by kernel_rfl) (by simp) ?_
  refine wt_cons ?_ ?_
  ·
    refine wt_make hs rfl rfl rfl Tryd.underlying24 info3 n rfl rfl rfl (by omega) (by omega) (rowB fun _ => 0) (zmakeRB _) (fun _ => by simp only [Act.put, List.setIfInBounds_toArray, List.set_cons_succ, List.set_cons_zero]; rfl) ?_
    clear hs; intro w1 b hs; rw [Nat.mul_one] at hs
    refine wt_and (hs.sub (by repeat (first | exact List.Sublist.refl _ | refine List.Sublist.cons_cons _ ?_ | refine List.Sublist.cons _ ?_))) fun hC => ?_
    refine wt_one 7 (by kernel_rfl) ?_
    refine wt_make hs rfl rfl rfl Tryd.underlying24 info3 (m + 1) rfl rfl (by omega) (by omega) (by omega) (rowI fun _ => false) (zmakeRI _) (fun _ => by simp only [Act.put, List.setIfInBounds_toArray, List.set_cons_succ, List.set_cons_zero]; rfl) ?_
    clear hs; intro w1 i hs; rw [Nat.mul_one] at hs
    refine wt_and (hs.sub (by repeat (first | exact List.Sublist.refl _ | refine List.Sublist.cons_cons _ ?_ | refine List.Sublist.cons _ ?_))) fun hC => ?_
    refine wt_take 8 rfl (by kernel_rfl) (by kernel_rfl) (by kernel_rfl) (fun _ _ _ _ h => h) rfl hC ⟨.agg #[.int .i64 n, .int .i64 m, .slice (some ⟨b, 0, none⟩) n n, .slice (some ⟨i, 0, none⟩) (m + 1) (m + 1)], fun w hw => by (go_simp; try rfl), fun a1 ha => ?_⟩
    simp only [Act.put, List.setIfInBounds_toArray, List.set_cons_succ, List.set_cons_zero] at ha; subst ha
    refine wt_one 9 (by kernel_rfl) ?_
    refine wt_boxA hs rfl rfl rfl rfl (fun _ => by simp only [Act.put, List.setIfInBounds_toArray, List.set_cons_succ, List.set_cons_zero]; rfl) ?_
    clear hs; intro w1 p hs
    refine wt_and (hs.sub (by repeat (first | exact List.Sublist.refl _ | refine List.Sublist.cons_cons _ ?_ | refine List.Sublist.cons _ ?_))) fun hC => ?_
    refine wt_take 10 rfl (by kernel_rfl) (by kernel_rfl) (by kernel_rfl) (fun _ _ _ _ h => h) rfl hC ⟨_, fun w hw => by (go_simp; try with_reducible rfl), fun a1 ha => ?_⟩
    simp only [Act.put, List.setIfInBounds_toArray, List.set_cons_succ, List.set_cons_zero] at ha; subst ha
    refine wt_done (by kernel_rfl) ?_
    have hs3 : Tr w [] w1 [Res.blk p #[.int .i64 n, .int .i64 m, .slice (some ⟨b, 0, none⟩) n n, .slice (some ⟨i, 0, none⟩) (m + 1) (m + 1)] 73, Res.blk b (rowOf n (rowB (stB G2 0))) 3, Res.blk i (rowOf (m + 1) (rowI (stF (fun _ => false) G1 0))) 3, Res.blk xb #[.int .i64 n, .int .i64 m] 23] := by first | exact hs | exact hs.perm (List.Perm.cons _ (List.Perm.swap _ _ _))
    clear hs hC; have hs := hs3; clear hs3
    as_aux_lemma =>
      go_wp2_with fail
      go_loopw [10] (fun iv wr => ∃ k : Nat, k ≤ j ∧ iv = .int .i64 k ∧ Tr w [] wr [Res.blk p #[.int .i64 n, .int .i64 m, .slice (some ⟨b, 0, none⟩) n n, .slice (some ⟨i, 0, none⟩) (m + 1) (m + 1)] 73, Res.blk b (rowOf n (rowB (stB G2 0))) 3, Res.blk i (rowOf (m + 1) (rowI (stF (fun _ => false) G1 k))) 3, Res.blk xb #[.int .i64 n, .int .i64 m] 23]) (fun iv _ => j - (intOf iv).toNat)
      case atStart => exact ⟨0, Nat.zero_le _, rfl, hs⟩
      case round =>
        clear hs
        obtain ⟨k, hk, rfl, hs⟩ := hrel
        have hlt : k < N1 := by omega
        have hltI : (k : Int) < N1 := by omega
        obtain rfl := I1.out.ao (by omega)
        by_cases hlj : k < j
        · skip
          obtain ⟨o1, o2, o3⟩ := HO1.out k hlj
          obtain ⟨g, hg⟩ : ∃ g : Nat, G1 k = (g : Int) := ⟨(G1 k).toNat, by omega⟩
          have HX : Hid (∀ {w1 : World} {L : List Res}, Tr w [] w1 L → w1.cell? ⟨db1, do1 + k, none⟩ = some (.int .i64 (g : Int))) := Lib.hid fun h => by have := I1.out.rd.keep h k hlt; rw [this]; show some (Value.int .i64 (G1 k)) = _; rw [hg]
          rw [hg] at o1 o2 o3
          rw [Int.toNat_natCast] at o3
          have HK := Lib.hid (fun w => rinode_any n m (g : Int) w)
          rw [show inI m (g : Int) = true from if_pos ⟨by omega, by omega⟩] at HK
          have hgm : g < m + 1 := by omega
          have HV := Lib.hid (rowI_at hgm o3)
          have HST := Lib.hid (rowIs_step (n := m + 1) hg)
          clear o1 o2 o3 hg
          go_upto_region 8 with fail
          refine wt_enter 7 rfl hs (by kernel_rfl) ?_
          clear hs; intro w1 hs; have hC := hs
          refine wt_take 0 rfl (by kernel_rfl) (by kernel_rfl) (by kernel_rfl) (fun _ _ _ _ h => h) rfl hC ⟨_, fun w hw => ex_load2 rfl Tryd.underlying23 rfl size23 rfl (by rw [cell_of_row w _ _ _ _ (0, 0) (hw.getB 3 rfl)]; rfl) (by rw [cell_of_row w _ _ _ _ (0, 0) (hw.getB 3 rfl)]; rfl), fun a1 ha => ?_⟩
          simp only [Act.put, List.setIfInBounds_toArray, List.set_cons_succ, List.set_cons_zero] at ha; subst ha
          refine wt_take 1 rfl (by kernel_rfl) (by kernel_rfl) (by kernel_rfl) (fun _ _ _ _ h => h) rfl hC ⟨_, fun w hw => by (go_simp; try with_reducible rfl), fun a1 ha => ?_⟩
          simp only [Act.put, List.setIfInBounds_toArray, List.set_cons_succ, List.set_cons_zero] at ha; subst ha
          refine wt_take 2 rfl (by kernel_rfl) (by kernel_rfl) (by kernel_rfl) (fun _ _ _ _ h => h) rfl hC ⟨_, fun w hw => by (go_simp; try with_reducible rfl), fun a1 ha => ?_⟩
          simp only [Act.put, List.setIfInBounds_toArray, List.set_cons_succ, List.set_cons_zero] at ha; subst ha
          refine wt_take 3 rfl (by kernel_rfl) (by kernel_rfl) (by kernel_rfl) (fun _ _ _ _ h => h) rfl hC ⟨_, fun w hw => ex_indexS rfl Tryd.underlying24 size3 rfl rfl k rfl hlt rfl, fun a1 ha => ?_⟩
          simp only [Act.put, List.setIfInBounds_toArray, List.set_cons_succ, List.set_cons_zero] at ha; subst ha
          refine wt_take 4 rfl (by kernel_rfl) (by kernel_rfl) (by kernel_rfl) (fun _ _ _ _ h => h) rfl hC ⟨.int .i64 (g : Int), fun w hw => ex_load1 rfl Tryd.underlying3 rfl rfl (by rw [Nat.mul_one]; exact HX.out hw), fun a1 ha => ?_⟩
          simp only [Act.put, List.setIfInBounds_toArray, List.set_cons_succ, List.set_cons_zero] at ha; subst ha
          refine wt_one 5 (by kernel_rfl) ?_
          refine wt_call0 hs rfl rfl (by go_simp) (HK.out _) (by simp only [Act.put, List.setIfInBounds_toArray, List.set_cons_succ, List.set_cons_zero]; rfl) ?_
          clear hs; intro w1 hs
          refine wt_and (hs.sub (by repeat (first | exact List.Sublist.refl _ | refine List.Sublist.cons_cons _ ?_ | refine List.Sublist.cons _ ?_))) fun hC => ?_
          refine wt_take 6 rfl (by kernel_rfl) (by kernel_rfl) (by kernel_rfl) (fun _ _ _ _ h => h) rfl hC ⟨_, fun w hw => by (go_simp; try with_reducible rfl), fun a1 ha => ?_⟩
          simp only [Act.put, List.setIfInBounds_toArray, List.set_cons_succ, List.set_cons_zero] at ha; subst ha
          refine wt_done (by kernel_rfl) ?_
          skip
          clear hC
          go_upto_region 9 with fail
          refine wt_enter 15 rfl hs (by kernel_rfl) ?_
          clear hs; intro w1 hs; have hC := hs
          refine wt_take 0 rfl (by kernel_rfl) (by kernel_rfl) (by kernel_rfl) (fun _ _ _ _ h => h) rfl hC ⟨_, fun w hw => by (go_simp; try with_reducible rfl), fun a1 ha => ?_⟩
          simp only [Act.put, List.setIfInBounds_toArray, List.set_cons_succ, List.set_cons_zero] at ha; subst ha
          refine wt_take 1 rfl (by kernel_rfl) (by kernel_rfl) (by kernel_rfl) (fun _ _ _ _ h => h) rfl hC ⟨_, fun w hw => by (go_simp; try with_reducible rfl), fun a1 ha => ?_⟩
          simp only [Act.put, List.setIfInBounds_toArray, List.set_cons_succ, List.set_cons_zero] at ha; subst ha
          refine wt_take 2 rfl (by kernel_rfl) (by kernel_rfl) (by kernel_rfl) (fun _ _ _ _ h => h) rfl hC ⟨_, fun w hw => by (go_simp; try with_reducible rfl), fun a1 ha => ?_⟩
          simp only [Act.put, List.setIfInBounds_toArray, List.set_cons_succ, List.set_cons_zero] at ha; subst ha
          refine wt_take 3 rfl (by kernel_rfl) (by kernel_rfl) (by kernel_rfl) (fun _ _ _ _ h => h) rfl hC ⟨_, fun w hw => by (go_simp; try with_reducible rfl), fun a1 ha => ?_⟩
          simp only [Act.put, List.setIfInBounds_toArray, List.set_cons_succ, List.set_cons_zero] at ha; subst ha
          refine wt_take 4 rfl (by kernel_rfl) (by kernel_rfl) (by kernel_rfl) (fun _ _ _ _ h => h) rfl hC ⟨_, fun w hw => by (go_simp; try with_reducible rfl), fun a1 ha => ?_⟩
          simp only [Act.put, List.setIfInBounds_toArray, List.set_cons_succ, List.set_cons_zero] at ha; subst ha
          refine wt_take 5 rfl (by kernel_rfl) (by kernel_rfl) (by kernel_rfl) (fun _ _ _ _ h => h) rfl hC ⟨_, fun w hw => by (go_simp; try with_reducible rfl), fun a1 ha => ?_⟩
          simp only [Act.put, List.setIfInBounds_toArray, List.set_cons_succ, List.set_cons_zero] at ha; subst ha
          refine wt_take 6 rfl (by kernel_rfl) (by kernel_rfl) (by kernel_rfl) (fun _ _ _ _ h => h) rfl hC ⟨_, fun w hw => ex_load1 rfl Tryd.underlying24 rfl rfl (by rw [cell_of_row w _ _ _ _ (0, 0) (hw.getB 0 rfl)]; rfl), fun a1 ha => ?_⟩
          simp only [Act.put, List.setIfInBounds_toArray, List.set_cons_succ, List.set_cons_zero] at ha; subst ha
          refine wt_take 7 rfl (by kernel_rfl) (by kernel_rfl) (by kernel_rfl) (fun _ _ _ _ h => h) rfl hC ⟨_, fun w hw => by (go_simp; try with_reducible rfl), fun a1 ha => ?_⟩
          simp only [Act.put, List.setIfInBounds_toArray, List.set_cons_succ, List.set_cons_zero] at ha; subst ha
          refine wt_take 8 rfl (by kernel_rfl) (by kernel_rfl) (by kernel_rfl) (fun _ _ _ _ h => h) rfl hC ⟨_, fun w hw => by (go_simp; try with_reducible rfl), fun a1 ha => ?_⟩
          simp only [Act.put, List.setIfInBounds_toArray, List.set_cons_succ, List.set_cons_zero] at ha; subst ha
          refine wt_take 9 rfl (by kernel_rfl) (by kernel_rfl) (by kernel_rfl) (fun _ _ _ _ h => h) rfl hC ⟨_, fun w hw => ex_indexS rfl Tryd.underlying24 size3 rfl rfl k rfl hlt rfl, fun a1 ha => ?_⟩
          simp only [Act.put, List.setIfInBounds_toArray, List.set_cons_succ, List.set_cons_zero] at ha; subst ha
          refine wt_take 10 rfl (by kernel_rfl) (by kernel_rfl) (by kernel_rfl) (fun _ _ _ _ h => h) rfl hC ⟨.int .i64 (g : Int), fun w hw => ex_load1 rfl Tryd.underlying3 rfl rfl (by rw [Nat.mul_one]; exact HX.out hw), fun a1 ha => ?_⟩
          simp only [Act.put, List.setIfInBounds_toArray, List.set_cons_succ, List.set_cons_zero] at ha; subst ha
          refine wt_take 11 rfl (by kernel_rfl) (by kernel_rfl) (by kernel_rfl) (fun _ _ _ _ h => h) rfl hC ⟨_, fun w hw => ex_index1 rfl Tryd.underlying24 size3 rfl rfl g rfl hgm rfl, fun a1 ha => ?_⟩
          simp only [Act.put, List.setIfInBounds_toArray, List.set_cons_succ, List.set_cons_zero] at ha; subst ha
          refine wt_take 12 rfl (by kernel_rfl) (by kernel_rfl) (by kernel_rfl) (fun _ _ _ _ h => h) rfl hC ⟨.int .i64 0, fun w hw => ex_load1 rfl Tryd.underlying3 rfl rfl (by rw [cell_of_row w _ _ _ _ (0, 0) (hw.getB 2 rfl)]; exact HV.out), fun a1 ha => ?_⟩
          simp only [Act.put, List.setIfInBounds_toArray, List.set_cons_succ, List.set_cons_zero] at ha; subst ha
          refine wt_take 13 rfl (by kernel_rfl) (by kernel_rfl) (by kernel_rfl) (fun _ _ _ _ h => h) rfl hC ⟨_, fun w hw => by (go_simp; try with_reducible rfl), fun a1 ha => ?_⟩
          simp only [Act.put, List.setIfInBounds_toArray, List.set_cons_succ, List.set_cons_zero] at ha; subst ha
          refine wt_take 14 rfl (by kernel_rfl) (by kernel_rfl) (by kernel_rfl) (fun _ _ _ _ h => h) rfl hC ⟨_, fun w hw => by (go_simp; try with_reducible rfl), fun a1 ha => ?_⟩
          simp only [Act.put, List.setIfInBounds_toArray, List.set_cons_succ, List.set_cons_zero] at ha; subst ha
          refine wt_done (by kernel_rfl) ?_
          skip
          clear hC
          go_upto_region 11 with fail
          refine wt_enterS (List.Sublist.cons_cons _ (List.Sublist.cons_cons _ (List.Sublist.cons _ (List.Sublist.refl _)))) 10 rfl hs (by kernel_rfl) ?_
          clear hs; intro w1 hC hs
          refine wt_take 0 rfl (by kernel_rfl) (by kernel_rfl) (by kernel_rfl) (fun _ _ _ _ h => h) rfl hC ⟨_, fun w hw => by (go_simp; try with_reducible rfl), fun a1 ha => ?_⟩
          simp only [Act.put, List.setIfInBounds_toArray, List.set_cons_succ, List.set_cons_zero] at ha; subst ha
          refine wt_take 1 rfl (by kernel_rfl) (by kernel_rfl) (by kernel_rfl) (fun _ _ _ _ h => h) rfl hC ⟨_, fun w hw => by (go_simp; try with_reducible rfl), fun a1 ha => ?_⟩
          simp only [Act.put, List.setIfInBounds_toArray, List.set_cons_succ, List.set_cons_zero] at ha; subst ha
          refine wt_take 2 rfl (by kernel_rfl) (by kernel_rfl) (by kernel_rfl) (fun _ _ _ _ h => h) rfl hC ⟨_, fun w hw => by (go_simp; try with_reducible rfl), fun a1 ha => ?_⟩
          simp only [Act.put, List.setIfInBounds_toArray, List.set_cons_succ, List.set_cons_zero] at ha; subst ha
          refine wt_take 3 rfl (by kernel_rfl) (by kernel_rfl) (by kernel_rfl) (fun _ _ _ _ h => h) rfl hC ⟨_, fun w hw => ex_load1 rfl Tryd.underlying24 rfl rfl (by rw [cell_of_row w _ _ _ _ (0, 0) (hw.getB 0 rfl)]; rfl), fun a1 ha => ?_⟩
          simp only [Act.put, List.setIfInBounds_toArray, List.set_cons_succ, List.set_cons_zero] at ha; subst ha
          refine wt_take 4 rfl (by kernel_rfl) (by kernel_rfl) (by kernel_rfl) (fun _ _ _ _ h => h) rfl hC ⟨_, fun w hw => by (go_simp; try with_reducible rfl), fun a1 ha => ?_⟩
          simp only [Act.put, List.setIfInBounds_toArray, List.set_cons_succ, List.set_cons_zero] at ha; subst ha
          refine wt_take 5 rfl (by kernel_rfl) (by kernel_rfl) (by kernel_rfl) (fun _ _ _ _ h => h) rfl hC ⟨_, fun w hw => by (go_simp; try with_reducible rfl), fun a1 ha => ?_⟩
          simp only [Act.put, List.setIfInBounds_toArray, List.set_cons_succ, List.set_cons_zero] at ha; subst ha
          refine wt_take 6 rfl (by kernel_rfl) (by kernel_rfl) (by kernel_rfl) (fun _ _ _ _ h => h) rfl hC ⟨_, fun w hw => ex_indexS rfl Tryd.underlying24 size3 rfl rfl k rfl hlt rfl, fun a1 ha => ?_⟩
          simp only [Act.put, List.setIfInBounds_toArray, List.set_cons_succ, List.set_cons_zero] at ha; subst ha
          refine wt_take 7 rfl (by kernel_rfl) (by kernel_rfl) (by kernel_rfl) (fun _ _ _ _ h => h) rfl hC ⟨.int .i64 (g : Int), fun w hw => ex_load1 rfl Tryd.underlying3 rfl rfl (by rw [Nat.mul_one]; exact HX.out hw), fun a1 ha => ?_⟩
          simp only [Act.put, List.setIfInBounds_toArray, List.set_cons_succ, List.set_cons_zero] at ha; subst ha
          refine wt_take 8 rfl (by kernel_rfl) (by kernel_rfl) (by kernel_rfl) (fun _ _ _ _ h => h) rfl hC ⟨_, fun w hw => ex_index1 rfl Tryd.underlying24 size3 rfl rfl g rfl hgm rfl, fun a1 ha => ?_⟩
          simp only [Act.put, List.setIfInBounds_toArray, List.set_cons_succ, List.set_cons_zero] at ha; subst ha
          refine wt_one 9 (by kernel_rfl) ?_
          refine wt_store1R hs rfl rfl rfl size3 rfl rfl rfl 2 rfl hgm (rowI (stF (fun _ => false) G1 (k + 1))) HST.out (by simp only [Act.put, List.setIfInBounds_toArray, List.set_cons_succ, List.set_cons_zero]; rfl) ?_
          clear hs; intro w1 hs
          refine wt_and (hs.sub (by repeat (first | exact List.Sublist.refl _ | refine List.Sublist.cons_cons _ ?_ | refine List.Sublist.cons _ ?_))) fun hC => ?_
          refine wt_done (by kernel_rfl) ?_
          skip
          go_wp2
          go_roundw
          case rel => exact ⟨k + 1, by omega, by go_num, hs⟩
          case measure => simp [intOf]; omega
        · obtain rfl : k = j := by omega
          clear hlj
          by_cases hin : 1 ≤ G1 k ∧ G1 k ≤ m
          · obtain ⟨g, hg⟩ : ∃ g : Nat, G1 k = (g : Int) := ⟨(G1 k).toNat, by omega⟩
            have HX : Hid (∀ {w1 : World} {L : List Res}, Tr w [] w1 L → w1.cell? ⟨db1, do1 + k, none⟩ = some (.int .i64 (g : Int))) := Lib.hid fun h => by have := I1.out.rd.keep h k hlt; rw [this]; show some (Value.int .i64 (G1 k)) = _; rw [hg]
            rw [hg] at hin
            have hgm : g < m + 1 := by omega
            have hst : stF (fun _ => false) G1 k g = true := by
              have hb := HBAD.out
              simp only [okF] at hb
              rw [hg, Int.toNat_natCast] at hb
              cases hf : stF (fun _ => false) G1 k g
              · exact absurd ⟨by omega, by omega, hf⟩ hb
              · rfl
            have HK := Lib.hid (fun w => rinode_any n m (g : Int) w)
            rw [show inI m (g : Int) = true from if_pos ⟨by omega, by omega⟩] at HK
            have HV := Lib.hid (rowI_hit hgm hst)
            clear hin hg hst HBAD
            go_upto_region 8 with fail
            refine wt_enter 7 rfl hs (by kernel_rfl) ?_
            clear hs; intro w1 hs; have hC := hs
            refine wt_take 0 rfl (by kernel_rfl) (by kernel_rfl) (by kernel_rfl) (fun _ _ _ _ h => h) rfl hC ⟨_, fun w hw => ex_load2 rfl Tryd.underlying23 rfl size23 rfl (by rw [cell_of_row w _ _ _ _ (0, 0) (hw.getB 3 rfl)]; rfl) (by rw [cell_of_row w _ _ _ _ (0, 0) (hw.getB 3 rfl)]; rfl), fun a1 ha => ?_⟩
            simp only [Act.put, List.setIfInBounds_toArray, List.set_cons_succ, List.set_cons_zero] at ha; subst ha
            refine wt_take 1 rfl (by kernel_rfl) (by kernel_rfl) (by kernel_rfl) (fun _ _ _ _ h => h) rfl hC ⟨_, fun w hw => by (go_simp; try with_reducible rfl), fun a1 ha => ?_⟩
            simp only [Act.put, List.setIfInBounds_toArray, List.set_cons_succ, List.set_cons_zero] at ha; subst ha
            refine wt_take 2 rfl (by kernel_rfl) (by kernel_rfl) (by kernel_rfl) (fun _ _ _ _ h => h) rfl hC ⟨_, fun w hw => by (go_simp; try with_reducible rfl), fun a1 ha => ?_⟩
            simp only [Act.put, List.setIfInBounds_toArray, List.set_cons_succ, List.set_cons_zero] at ha; subst ha
            refine wt_take 3 rfl (by kernel_rfl) (by kernel_rfl) (by kernel_rfl) (fun _ _ _ _ h => h) rfl hC ⟨_, fun w hw => ex_indexS rfl Tryd.underlying24 size3 rfl rfl k rfl hlt rfl, fun a1 ha => ?_⟩
            simp only [Act.put, List.setIfInBounds_toArray, List.set_cons_succ, List.set_cons_zero] at ha; subst ha
            refine wt_take 4 rfl (by kernel_rfl) (by kernel_rfl) (by kernel_rfl) (fun _ _ _ _ h => h) rfl hC ⟨.int .i64 (g : Int), fun w hw => ex_load1 rfl Tryd.underlying3 rfl rfl (by rw [Nat.mul_one]; exact HX.out hw), fun a1 ha => ?_⟩
            simp only [Act.put, List.setIfInBounds_toArray, List.set_cons_succ, List.set_cons_zero] at ha; subst ha
            refine wt_one 5 (by kernel_rfl) ?_
            refine wt_call0 hs rfl rfl (by go_simp) (HK.out _) (by simp only [Act.put, List.setIfInBounds_toArray, List.set_cons_succ, List.set_cons_zero]; rfl) ?_
            clear hs; intro w1 hs
            refine wt_and (hs.sub (by repeat (first | exact List.Sublist.refl _ | refine List.Sublist.cons_cons _ ?_ | refine List.Sublist.cons _ ?_))) fun hC => ?_
            refine wt_take 6 rfl (by kernel_rfl) (by kernel_rfl) (by kernel_rfl) (fun _ _ _ _ h => h) rfl hC ⟨_, fun w hw => by (go_simp; try with_reducible rfl), fun a1 ha => ?_⟩
            simp only [Act.put, List.setIfInBounds_toArray, List.set_cons_succ, List.set_cons_zero] at ha; subst ha
            refine wt_done (by kernel_rfl) ?_
            skip
            clear hC
            go_upto_region 9 with fail
            refine wt_enter 15 rfl hs (by kernel_rfl) ?_
            clear hs; intro w1 hs; have hC := hs
            refine wt_take 0 rfl (by kernel_rfl) (by kernel_rfl) (by kernel_rfl) (fun _ _ _ _ h => h) rfl hC ⟨_, fun w hw => by (go_simp; try with_reducible rfl), fun a1 ha => ?_⟩
            simp only [Act.put, List.setIfInBounds_toArray, List.set_cons_succ, List.set_cons_zero] at ha; subst ha
            refine wt_take 1 rfl (by kernel_rfl) (by kernel_rfl) (by kernel_rfl) (fun _ _ _ _ h => h) rfl hC ⟨_, fun w hw => by (go_simp; try with_reducible rfl), fun a1 ha => ?_⟩
            simp only [Act.put, List.setIfInBounds_toArray, List.set_cons_succ, List.set_cons_zero] at ha; subst ha
            refine wt_take 2 rfl (by kernel_rfl) (by kernel_rfl) (by kernel_rfl) (fun _ _ _ _ h => h) rfl hC ⟨_, fun w hw => by (go_simp; try with_reducible rfl), fun a1 ha => ?_⟩
            simp only [Act.put, List.setIfInBounds_toArray, List.set_cons_succ, List.set_cons_zero] at ha; subst ha
            refine wt_take 3 rfl (by kernel_rfl) (by kernel_rfl) (by kernel_rfl) (fun _ _ _ _ h => h) rfl hC ⟨_, fun w hw => by (go_simp; try with_reducible rfl), fun a1 ha => ?_⟩
            simp only [Act.put, List.setIfInBounds_toArray, List.set_cons_succ, List.set_cons_zero] at ha; subst ha
            refine wt_take 4 rfl (by kernel_rfl) (by kernel_rfl) (by kernel_rfl) (fun _ _ _ _ h => h) rfl hC ⟨_, fun w hw => by (go_simp; try with_reducible rfl), fun a1 ha => ?_⟩
            simp only [Act.put, List.setIfInBounds_toArray, List.set_cons_succ, List.set_cons_zero] at ha; subst ha
            refine wt_take 5 rfl (by kernel_rfl) (by kernel_rfl) (by kernel_rfl) (fun _ _ _ _ h => h) rfl hC ⟨_, fun w hw => by (go_simp; try with_reducible rfl), fun a1 ha => ?_⟩
            simp only [Act.put, List.setIfInBounds_toArray, List.set_cons_succ, List.set_cons_zero] at ha; subst ha
            refine wt_take 6 rfl (by kernel_rfl) (by kernel_rfl) (by kernel_rfl) (fun _ _ _ _ h => h) rfl hC ⟨_, fun w hw => ex_load1 rfl Tryd.underlying24 rfl rfl (by rw [cell_of_row w _ _ _ _ (0, 0) (hw.getB 0 rfl)]; rfl), fun a1 ha => ?_⟩
            simp only [Act.put, List.setIfInBounds_toArray, List.set_cons_succ, List.set_cons_zero] at ha; subst ha
            refine wt_take 7 rfl (by kernel_rfl) (by kernel_rfl) (by kernel_rfl) (fun _ _ _ _ h => h) rfl hC ⟨_, fun w hw => by (go_simp; try with_reducible rfl), fun a1 ha => ?_⟩
            simp only [Act.put, List.setIfInBounds_toArray, List.set_cons_succ, List.set_cons_zero] at ha; subst ha
            refine wt_take 8 rfl (by kernel_rfl) (by kernel_rfl) (by kernel_rfl) (fun _ _ _ _ h => h) rfl hC ⟨_, fun w hw => by (go_simp; try with_reducible rfl), fun a1 ha => ?_⟩
            simp only [Act.put, List.setIfInBounds_toArray, List.set_cons_succ, List.set_cons_zero] at ha; subst ha
            refine wt_take 9 rfl (by kernel_rfl) (by kernel_rfl) (by kernel_rfl) (fun _ _ _ _ h => h) rfl hC ⟨_, fun w hw => ex_indexS rfl Tryd.underlying24 size3 rfl rfl k rfl hlt rfl, fun a1 ha => ?_⟩
            simp only [Act.put, List.setIfInBounds_toArray, List.set_cons_succ, List.set_cons_zero] at ha; subst ha
            refine wt_take 10 rfl (by kernel_rfl) (by kernel_rfl) (by kernel_rfl) (fun _ _ _ _ h => h) rfl hC ⟨.int .i64 (g : Int), fun w hw => ex_load1 rfl Tryd.underlying3 rfl rfl (by rw [Nat.mul_one]; exact HX.out hw), fun a1 ha => ?_⟩
            simp only [Act.put, List.setIfInBounds_toArray, List.set_cons_succ, List.set_cons_zero] at ha; subst ha
            refine wt_take 11 rfl (by kernel_rfl) (by kernel_rfl) (by kernel_rfl) (fun _ _ _ _ h => h) rfl hC ⟨_, fun w hw => ex_index1 rfl Tryd.underlying24 size3 rfl rfl g rfl hgm rfl, fun a1 ha => ?_⟩
            simp only [Act.put, List.setIfInBounds_toArray, List.set_cons_succ, List.set_cons_zero] at ha; subst ha
            refine wt_take 12 rfl (by kernel_rfl) (by kernel_rfl) (by kernel_rfl) (fun _ _ _ _ h => h) rfl hC ⟨.int .i64 1, fun w hw => ex_load1 rfl Tryd.underlying3 rfl rfl (by rw [cell_of_row w _ _ _ _ (0, 0) (hw.getB 2 rfl)]; exact HV.out), fun a1 ha => ?_⟩
            simp only [Act.put, List.setIfInBounds_toArray, List.set_cons_succ, List.set_cons_zero] at ha; subst ha
            refine wt_take 13 rfl (by kernel_rfl) (by kernel_rfl) (by kernel_rfl) (fun _ _ _ _ h => h) rfl hC ⟨_, fun w hw => by (go_simp; try with_reducible rfl), fun a1 ha => ?_⟩
            simp only [Act.put, List.setIfInBounds_toArray, List.set_cons_succ, List.set_cons_zero] at ha; subst ha
            refine wt_take 14 rfl (by kernel_rfl) (by kernel_rfl) (by kernel_rfl) (fun _ _ _ _ h => h) rfl hC ⟨_, fun w hw => by (go_simp; try with_reducible rfl), fun a1 ha => ?_⟩
            simp only [Act.put, List.setIfInBounds_toArray, List.set_cons_succ, List.set_cons_zero] at ha; subst ha
            refine wt_done (by kernel_rfl) ?_
            skip
            clear hC
            go_wp2
            go_ret2
            exact ⟨rfl, hs.letgo⟩
          · obtain ⟨x, hg⟩ : ∃ x : Int, G1 k = x := ⟨_, rfl⟩
            have HX : Hid (∀ {w1 : World} {L : List Res}, Tr w [] w1 L → w1.cell? ⟨db1, do1 + k, none⟩ = some (.int .i64 x)) := Lib.hid fun h => by have := I1.out.rd.keep h k hlt; rw [this]; show some (Value.int .i64 (G1 k)) = _; rw [hg]
            rw [hg] at hin
            have HK := Lib.hid (fun w => rinode_any n m x w)
            rw [show inI m x = false from if_neg (by omega)] at HK
            clear hin hg HBAD
            go_upto_region 8 with fail
            refine wt_enter 7 rfl hs (by kernel_rfl) ?_
            clear hs; intro w1 hs; have hC := hs
            refine wt_take 0 rfl (by kernel_rfl) (by kernel_rfl) (by kernel_rfl) (fun _ _ _ _ h => h) rfl hC ⟨_, fun w hw => ex_load2 rfl Tryd.underlying23 rfl size23 rfl (by rw [cell_of_row w _ _ _ _ (0, 0) (hw.getB 3 rfl)]; rfl) (by rw [cell_of_row w _ _ _ _ (0, 0) (hw.getB 3 rfl)]; rfl), fun a1 ha => ?_⟩
            simp only [Act.put, List.setIfInBounds_toArray, List.set_cons_succ, List.set_cons_zero] at ha; subst ha
            refine wt_take 1 rfl (by kernel_rfl) (by kernel_rfl) (by kernel_rfl) (fun _ _ _ _ h => h) rfl hC ⟨_, fun w hw => by (go_simp; try with_reducible rfl), fun a1 ha => ?_⟩
            simp only [Act.put, List.setIfInBounds_toArray, List.set_cons_succ, List.set_cons_zero] at ha; subst ha
            refine wt_take 2 rfl (by kernel_rfl) (by kernel_rfl) (by kernel_rfl) (fun _ _ _ _ h => h) rfl hC ⟨_, fun w hw => by (go_simp; try with_reducible rfl), fun a1 ha => ?_⟩
            simp only [Act.put, List.setIfInBounds_toArray, List.set_cons_succ, List.set_cons_zero] at ha; subst ha
            refine wt_take 3 rfl (by kernel_rfl) (by kernel_rfl) (by kernel_rfl) (fun _ _ _ _ h => h) rfl hC ⟨_, fun w hw => ex_indexS rfl Tryd.underlying24 size3 rfl rfl k rfl hlt rfl, fun a1 ha => ?_⟩
            simp only [Act.put, List.setIfInBounds_toArray, List.set_cons_succ, List.set_cons_zero] at ha; subst ha
            refine wt_take 4 rfl (by kernel_rfl) (by kernel_rfl) (by kernel_rfl) (fun _ _ _ _ h => h) rfl hC ⟨.int .i64 x, fun w hw => ex_load1 rfl Tryd.underlying3 rfl rfl (by rw [Nat.mul_one]; exact HX.out hw), fun a1 ha => ?_⟩
            simp only [Act.put, List.setIfInBounds_toArray, List.set_cons_succ, List.set_cons_zero] at ha; subst ha
            refine wt_one 5 (by kernel_rfl) ?_
            refine wt_call0 hs rfl rfl (by go_simp) (HK.out _) (by simp only [Act.put, List.setIfInBounds_toArray, List.set_cons_succ, List.set_cons_zero]; rfl) ?_
            clear hs; intro w1 hs
            refine wt_and (hs.sub (by repeat (first | exact List.Sublist.refl _ | refine List.Sublist.cons_cons _ ?_ | refine List.Sublist.cons _ ?_))) fun hC => ?_
            refine wt_take 6 rfl (by kernel_rfl) (by kernel_rfl) (by kernel_rfl) (fun _ _ _ _ h => h) rfl hC ⟨_, fun w hw => by (go_simp; try with_reducible rfl), fun a1 ha => ?_⟩
            simp only [Act.put, List.setIfInBounds_toArray, List.set_cons_succ, List.set_cons_zero] at ha; subst ha
            refine wt_done (by kernel_rfl) ?_
            skip
            clear hC
            go_upto_region 9 with fail
            refine wt_enter 15 rfl hs (by kernel_rfl) ?_
            clear hs; intro w1 hs; have hC := hs
            refine wt_take 0 rfl (by kernel_rfl) (by kernel_rfl) (by kernel_rfl) (fun _ _ _ _ h => h) rfl hC ⟨_, fun w hw => by (go_simp; try with_reducible rfl), fun a1 ha => ?_⟩
            simp only [Act.put, List.setIfInBounds_toArray, List.set_cons_succ, List.set_cons_zero] at ha; subst ha
            refine wt_take 1 rfl (by kernel_rfl) (by kernel_rfl) (by kernel_rfl) (fun _ _ _ _ h => h) rfl hC ⟨_, fun w hw => by (go_simp; try with_reducible rfl), fun a1 ha => ?_⟩
            simp only [Act.put, List.setIfInBounds_toArray, List.set_cons_succ, List.set_cons_zero] at ha; subst ha
            refine wt_take 2 rfl (by kernel_rfl) (by kernel_rfl) (by kernel_rfl) (fun _ _ _ _ h => h) rfl hC ⟨_, fun w hw => by (go_simp; try with_reducible rfl), fun a1 ha => ?_⟩
            simp only [Act.put, List.setIfInBounds_toArray, List.set_cons_succ, List.set_cons_zero] at ha; subst ha
            refine wt_pass 3 rfl (by kernel_rfl) (by kernel_rfl) (by kernel_rfl) (fun _ _ _ h => h) rfl hC (by simp only [Act.put, List.setIfInBounds_toArray, List.set_cons_succ, List.set_cons_zero]; rfl) ?_
            refine wt_pass 4 rfl (by kernel_rfl) (by kernel_rfl) (by kernel_rfl) (fun _ _ _ h => h) rfl hC (by simp only [Act.put, List.setIfInBounds_toArray, List.set_cons_succ, List.set_cons_zero]; rfl) ?_
            refine wt_pass 5 rfl (by kernel_rfl) (by kernel_rfl) (by kernel_rfl) (fun _ _ _ h => h) rfl hC (by simp only [Act.put, List.setIfInBounds_toArray, List.set_cons_succ, List.set_cons_zero]; rfl) ?_
            refine wt_pass 6 rfl (by kernel_rfl) (by kernel_rfl) (by kernel_rfl) (fun _ _ _ h => h) rfl hC (by simp only [Act.put, List.setIfInBounds_toArray, List.set_cons_succ, List.set_cons_zero]; rfl) ?_
            refine wt_pass 7 rfl (by kernel_rfl) (by kernel_rfl) (by kernel_rfl) (fun _ _ _ h => h) rfl hC (by simp only [Act.put, List.setIfInBounds_toArray, List.set_cons_succ, List.set_cons_zero]; rfl) ?_
            refine wt_pass 8 rfl (by kernel_rfl) (by kernel_rfl) (by kernel_rfl) (fun _ _ _ h => h) rfl hC (by simp only [Act.put, List.setIfInBounds_toArray, List.set_cons_succ, List.set_cons_zero]; rfl) ?_
            refine wt_pass 9 rfl (by kernel_rfl) (by kernel_rfl) (by kernel_rfl) (fun _ _ _ h => h) rfl hC (by simp only [Act.put, List.setIfInBounds_toArray, List.set_cons_succ, List.set_cons_zero]; rfl) ?_
            refine wt_pass 10 rfl (by kernel_rfl) (by kernel_rfl) (by kernel_rfl) (fun _ _ _ h => h) rfl hC (by simp only [Act.put, List.setIfInBounds_toArray, List.set_cons_succ, List.set_cons_zero]; rfl) ?_
            refine wt_pass 11 rfl (by kernel_rfl) (by kernel_rfl) (by kernel_rfl) (fun _ _ _ h => h) rfl hC (by simp only [Act.put, List.setIfInBounds_toArray, List.set_cons_succ, List.set_cons_zero]; rfl) ?_
            refine wt_pass 12 rfl (by kernel_rfl) (by kernel_rfl) (by kernel_rfl) (fun _ _ _ h => h) rfl hC (by simp only [Act.put, List.setIfInBounds_toArray, List.set_cons_succ, List.set_cons_zero]; rfl) ?_
            refine wt_pass 13 rfl (by kernel_rfl) (by kernel_rfl) (by kernel_rfl) (fun _ _ _ h => h) rfl hC (by simp only [Act.put, List.setIfInBounds_toArray, List.set_cons_succ, List.set_cons_zero]; rfl) ?_
            refine wt_take 14 rfl (by kernel_rfl) (by kernel_rfl) (by kernel_rfl) (fun _ _ _ _ h => h) rfl hC ⟨_, fun w hw => by (go_simp; try with_reducible rfl), fun a1 ha => ?_⟩
            simp only [Act.put, List.setIfInBounds_toArray, List.set_cons_succ, List.set_cons_zero] at ha; subst ha
            refine wt_done (by kernel_rfl) ?_
            skip
            clear hC
            go_wp2
            go_ret2
            exact ⟨rfl, hs.letgo⟩
  refine wt_cons ?_ ?_
  ·
    refine wt_make hs rfl rfl rfl Tryd.underlying24 info3 (m + 1) rfl rfl (by omega) (by omega) (by omega) (rowI fun _ => false) (zmakeRI _) (fun _ => by simp only [Act.put, List.setIfInBounds_toArray, List.set_cons_succ, List.set_cons_zero]; rfl) ?_
    clear hs; intro w1 i hs; rw [Nat.mul_one] at hs
    refine wt_and (hs.sub (by repeat (first | exact List.Sublist.refl _ | refine List.Sublist.cons_cons _ ?_ | refine List.Sublist.cons _ ?_))) fun hC => ?_
    refine wt_one 3 (by kernel_rfl) ?_
    refine wt_make hs rfl rfl rfl Tryd.underlying24 info3 n rfl rfl rfl (by omega) (by omega) (rowB fun _ => 0) (zmakeRB _) (fun _ => by simp only [Act.put, List.setIfInBounds_toArray, List.set_cons_succ, List.set_cons_zero]; rfl) ?_
    clear hs; intro w1 b hs; rw [Nat.mul_one] at hs
    refine wt_and (hs.sub (by repeat (first | exact List.Sublist.refl _ | refine List.Sublist.cons_cons _ ?_ | refine List.Sublist.cons _ ?_))) fun hC => ?_
    refine wt_take 8 rfl (by kernel_rfl) (by kernel_rfl) (by kernel_rfl) (fun _ _ _ _ h => h) rfl hC ⟨.agg #[.int .i64 n, .int .i64 m, .slice (some ⟨b, 0, none⟩) n n, .slice (some ⟨i, 0, none⟩) (m + 1) (m + 1)], fun w hw => by (go_simp; try rfl), fun a1 ha => ?_⟩
    simp only [Act.put, List.setIfInBounds_toArray, List.set_cons_succ, List.set_cons_zero] at ha; subst ha
    refine wt_one 9 (by kernel_rfl) ?_
    refine wt_boxA hs rfl rfl rfl rfl (fun _ => by simp only [Act.put, List.setIfInBounds_toArray, List.set_cons_succ, List.set_cons_zero]; rfl) ?_
    clear hs; intro w1 p hs
    refine wt_and (hs.sub (by repeat (first | exact List.Sublist.refl _ | refine List.Sublist.cons_cons _ ?_ | refine List.Sublist.cons _ ?_))) fun hC => ?_
    refine wt_take 10 rfl (by kernel_rfl) (by kernel_rfl) (by kernel_rfl) (fun _ _ _ _ h => h) rfl hC ⟨_, fun w hw => by (go_simp; try with_reducible rfl), fun a1 ha => ?_⟩
    simp only [Act.put, List.setIfInBounds_toArray, List.set_cons_succ, List.set_cons_zero] at ha; subst ha
    refine wt_done (by kernel_rfl) ?_
    have hs3 : Tr w [] w1 [Res.blk p #[.int .i64 n, .int .i64 m, .slice (some ⟨b, 0, none⟩) n n, .slice (some ⟨i, 0, none⟩) (m + 1) (m + 1)] 73, Res.blk b (rowOf n (rowB (stB G2 0))) 3, Res.blk i (rowOf (m + 1) (rowI (stF (fun _ => false) G1 0))) 3, Res.blk xb #[.int .i64 n, .int .i64 m] 23] := by first | exact hs | exact hs.perm (List.Perm.cons _ (List.Perm.swap _ _ _))
    clear hs hC; have hs := hs3; clear hs3
    as_aux_lemma =>
      go_wp2_with fail
      go_loopw [10] (fun iv wr => ∃ k : Nat, k ≤ j ∧ iv = .int .i64 k ∧ Tr w [] wr [Res.blk p #[.int .i64 n, .int .i64 m, .slice (some ⟨b, 0, none⟩) n n, .slice (some ⟨i, 0, none⟩) (m + 1) (m + 1)] 73, Res.blk b (rowOf n (rowB (stB G2 0))) 3, Res.blk i (rowOf (m + 1) (rowI (stF (fun _ => false) G1 k))) 3, Res.blk xb #[.int .i64 n, .int .i64 m] 23]) (fun iv _ => j - (intOf iv).toNat)
      case atStart => exact ⟨0, Nat.zero_le _, rfl, hs⟩
      case round =>
        clear hs
        obtain ⟨k, hk, rfl, hs⟩ := hrel
        have hlt : k < N1 := by omega
        have hltI : (k : Int) < N1 := by omega
        obtain rfl := I1.out.ao (by omega)
        by_cases hlj : k < j
        · skip
          obtain ⟨o1, o2, o3⟩ := HO1.out k hlj
          obtain ⟨g, hg⟩ : ∃ g : Nat, G1 k = (g : Int) := ⟨(G1 k).toNat, by omega⟩
          have HX : Hid (∀ {w1 : World} {L : List Res}, Tr w [] w1 L → w1.cell? ⟨db1, do1 + k, none⟩ = some (.int .i64 (g : Int))) := Lib.hid fun h => by have := I1.out.rd.keep h k hlt; rw [this]; show some (Value.int .i64 (G1 k)) = _; rw [hg]
          rw [hg] at o1 o2 o3
          rw [Int.toNat_natCast] at o3
          have HK := Lib.hid (fun w => rinode_any n m (g : Int) w)
          rw [show inI m (g : Int) = true from if_pos ⟨by omega, by omega⟩] at HK
          have hgm : g < m + 1 := by omega
          have HV := Lib.hid (rowI_at hgm o3)
          have HST := Lib.hid (rowIs_step (n := m + 1) hg)
          clear o1 o2 o3 hg
          go_upto_region 8 with fail
          refine wt_enter 7 rfl hs (by kernel_rfl) ?_
          clear hs; intro w1 hs; have hC := hs
          refine wt_take 0 rfl (by kernel_rfl) (by kernel_rfl) (by kernel_rfl) (fun _ _ _ _ h => h) rfl hC ⟨_, fun w hw => ex_load2 rfl Tryd.underlying23 rfl size23 rfl (by rw [cell_of_row w _ _ _ _ (0, 0) (hw.getB 3 rfl)]; rfl) (by rw [cell_of_row w _ _ _ _ (0, 0) (hw.getB 3 rfl)]; rfl), fun a1 ha => ?_⟩
          simp only [Act.put, List.setIfInBounds_toArray, List.set_cons_succ, List.set_cons_zero] at ha; subst ha
          refine wt_take 1 rfl (by kernel_rfl) (by kernel_rfl) (by kernel_rfl) (fun _ _ _ _ h => h) rfl hC ⟨_, fun w hw => by (go_simp; try with_reducible rfl), fun a1 ha => ?_⟩
          simp only [Act.put, List.setIfInBounds_toArray, List.set_cons_succ, List.set_cons_zero] at ha; subst ha
          refine wt_take 2 rfl (by kernel_rfl) (by kernel_rfl) (by kernel_rfl) (fun _ _ _ _ h => h) rfl hC ⟨_, fun w hw => by (go_simp; try with_reducible rfl), fun a1 ha => ?_⟩
          simp only [Act.put, List.setIfInBounds_toArray, List.set_cons_succ, List.set_cons_zero] at ha; subst ha
          refine wt_take 3 rfl (by kernel_rfl) (by kernel_rfl) (by kernel_rfl) (fun _ _ _ _ h => h) rfl hC ⟨_, fun w hw => ex_indexS rfl Tryd.underlying24 size3 rfl rfl k rfl hlt rfl, fun a1 ha => ?_⟩
          simp only [Act.put, List.setIfInBounds_toArray, List.set_cons_succ, List.set_cons_zero] at ha; subst ha
          refine wt_take 4 rfl (by kernel_rfl) (by kernel_rfl) (by kernel_rfl) (fun _ _ _ _ h => h) rfl hC ⟨.int .i64 (g : Int), fun w hw => ex_load1 rfl Tryd.underlying3 rfl rfl (by rw [Nat.mul_one]; exact HX.out hw), fun a1 ha => ?_⟩
          simp only [Act.put, List.setIfInBounds_toArray, List.set_cons_succ, List.set_cons_zero] at ha; subst ha
          refine wt_one 5 (by kernel_rfl) ?_
          refine wt_call0 hs rfl rfl (by go_simp) (HK.out _) (by simp only [Act.put, List.setIfInBounds_toArray, List.set_cons_succ, List.set_cons_zero]; rfl) ?_
          clear hs; intro w1 hs
          refine wt_and (hs.sub (by repeat (first | exact List.Sublist.refl _ | refine List.Sublist.cons_cons _ ?_ | refine List.Sublist.cons _ ?_))) fun hC => ?_
          refine wt_take 6 rfl (by kernel_rfl) (by kernel_rfl) (by kernel_rfl) (fun _ _ _ _ h => h) rfl hC ⟨_, fun w hw => by (go_simp; try with_reducible rfl), fun a1 ha => ?_⟩
          simp only [Act.put, List.setIfInBounds_toArray, List.set_cons_succ, List.set_cons_zero] at ha; subst ha
          refine wt_done (by kernel_rfl) ?_
          skip
          clear hC
          go_upto_region 9 with fail
          refine wt_enter 15 rfl hs (by kernel_rfl) ?_
          clear hs; intro w1 hs; have hC := hs
          refine wt_take 0 rfl (by kernel_rfl) (by kernel_rfl) (by kernel_rfl) (fun _ _ _ _ h => h) rfl hC ⟨_, fun w hw => by (go_simp; try with_reducible rfl), fun a1 ha => ?_⟩
          simp only [Act.put, List.setIfInBounds_toArray, List.set_cons_succ, List.set_cons_zero] at ha; subst ha
          refine wt_take 1 rfl (by kernel_rfl) (by kernel_rfl) (by kernel_rfl) (fun _ _ _ _ h => h) rfl hC ⟨_, fun w hw => by (go_simp; try with_reducible rfl), fun a1 ha => ?_⟩
          simp only [Act.put, List.setIfInBounds_toArray, List.set_cons_succ, List.set_cons_zero] at ha; subst ha
          refine wt_take 2 rfl (by kernel_rfl) (by kernel_rfl) (by kernel_rfl) (fun _ _ _ _ h => h) rfl hC ⟨_, fun w hw => by (go_simp; try with_reducible rfl), fun a1 ha => ?_⟩
          simp only [Act.put, List.setIfInBounds_toArray, List.set_cons_succ, List.set_cons_zero] at ha; subst ha
          refine wt_take 3 rfl (by kernel_rfl) (by kernel_rfl) (by kernel_rfl) (fun _ _ _ _ h => h) rfl hC ⟨_, fun w hw => by (go_simp; try with_reducible rfl), fun a1 ha => ?_⟩
          simp only [Act.put, List.setIfInBounds_toArray, List.set_cons_succ, List.set_cons_zero] at ha; subst ha
          refine wt_take 4 rfl (by kernel_rfl) (by kernel_rfl) (by kernel_rfl) (fun _ _ _ _ h => h) rfl hC ⟨_, fun w hw => by (go_simp; try with_reducible rfl), fun a1 ha => ?_⟩
          simp only [Act.put, List.setIfInBounds_toArray, List.set_cons_succ, List.set_cons_zero] at ha; subst ha
          refine wt_take 5 rfl (by kernel_rfl) (by kernel_rfl) (by kernel_rfl) (fun _ _ _ _ h => h) rfl hC ⟨_, fun w hw => by (go_simp; try with_reducible rfl), fun a1 ha => ?_⟩
          simp only [Act.put, List.setIfInBounds_toArray, List.set_cons_succ, List.set_cons_zero] at ha; subst ha
          refine wt_take 6 rfl (by kernel_rfl) (by kernel_rfl) (by kernel_rfl) (fun _ _ _ _ h => h) rfl hC ⟨_, fun w hw => ex_load1 rfl Tryd.underlying24 rfl rfl (by rw [cell_of_row w _ _ _ _ (0, 0) (hw.getB 0 rfl)]; rfl), fun a1 ha => ?_⟩
          simp only [Act.put, List.setIfInBounds_toArray, List.set_cons_succ, List.set_cons_zero] at ha; subst ha
          refine wt_take 7 rfl (by kernel_rfl) (by kernel_rfl) (by kernel_rfl) (fun _ _ _ _ h => h) rfl hC ⟨_, fun w hw => by (go_simp; try with_reducible rfl), fun a1 ha => ?_⟩
          simp only [Act.put, List.setIfInBounds_toArray, List.set_cons_succ, List.set_cons_zero] at ha; subst ha
          refine wt_take 8 rfl (by kernel_rfl) (by kernel_rfl) (by kernel_rfl) (fun _ _ _ _ h => h) rfl hC ⟨_, fun w hw => by (go_simp; try with_reducible rfl), fun a1 ha => ?_⟩
          simp only [Act.put, List.setIfInBounds_toArray, List.set_cons_succ, List.set_cons_zero] at ha; subst ha
          refine wt_take 9 rfl (by kernel_rfl) (by kernel_rfl) (by kernel_rfl) (fun _ _ _ _ h => h) rfl hC ⟨_, fun w hw => ex_indexS rfl Tryd.underlying24 size3 rfl rfl k rfl hlt rfl, fun a1 ha => ?_⟩
          simp only [Act.put, List.setIfInBounds_toArray, List.set_cons_succ, List.set_cons_zero] at ha; subst ha
          refine wt_take 10 rfl (by kernel_rfl) (by kernel_rfl) (by kernel_rfl) (fun _ _ _ _ h => h) rfl hC ⟨.int .i64 (g : Int), fun w hw => ex_load1 rfl Tryd.underlying3 rfl rfl (by rw [Nat.mul_one]; exact HX.out hw), fun a1 ha => ?_⟩
          simp only [Act.put, List.setIfInBounds_toArray, List.set_cons_succ, List.set_cons_zero] at ha; subst ha
          refine wt_take 11 rfl (by kernel_rfl) (by kernel_rfl) (by kernel_rfl) (fun _ _ _ _ h => h) rfl hC ⟨_, fun w hw => ex_index1 rfl Tryd.underlying24 size3 rfl rfl g rfl hgm rfl, fun a1 ha => ?_⟩
          simp only [Act.put, List.setIfInBounds_toArray, List.set_cons_succ, List.set_cons_zero] at ha; subst ha
          refine wt_take 12 rfl (by kernel_rfl) (by kernel_rfl) (by kernel_rfl) (fun _ _ _ _ h => h) rfl hC ⟨.int .i64 0, fun w hw => ex_load1 rfl Tryd.underlying3 rfl rfl (by rw [cell_of_row w _ _ _ _ (0, 0) (hw.getB 2 rfl)]; exact HV.out), fun a1 ha => ?_⟩
          simp only [Act.put, List.setIfInBounds_toArray, List.set_cons_succ, List.set_cons_zero] at ha; subst ha
          refine wt_take 13 rfl (by kernel_rfl) (by kernel_rfl) (by kernel_rfl) (fun _ _ _ _ h => h) rfl hC ⟨_, fun w hw => by (go_simp; try with_reducible rfl), fun a1 ha => ?_⟩
          simp only [Act.put, List.setIfInBounds_toArray, List.set_cons_succ, List.set_cons_zero] at ha; subst ha
          refine wt_take 14 rfl (by kernel_rfl) (by kernel_rfl) (by kernel_rfl) (fun _ _ _ _ h => h) rfl hC ⟨_, fun w hw => by (go_simp; try with_reducible rfl), fun a1 ha => ?_⟩
          simp only [Act.put, List.setIfInBounds_toArray, List.set_cons_succ, List.set_cons_zero] at ha; subst ha
          refine wt_done (by kernel_rfl) ?_
          skip
          clear hC
          go_upto_region 11 with fail
          refine wt_enterS (List.Sublist.cons_cons _ (List.Sublist.cons_cons _ (List.Sublist.cons _ (List.Sublist.refl _)))) 10 rfl hs (by kernel_rfl) ?_
          clear hs; intro w1 hC hs
          refine wt_take 0 rfl (by kernel_rfl) (by kernel_rfl) (by kernel_rfl) (fun _ _ _ _ h => h) rfl hC ⟨_, fun w hw => by (go_simp; try with_reducible rfl), fun a1 ha => ?_⟩
          simp only [Act.put, List.setIfInBounds_toArray, List.set_cons_succ, List.set_cons_zero] at ha; subst ha
          refine wt_take 1 rfl (by kernel_rfl) (by kernel_rfl) (by kernel_rfl) (fun _ _ _ _ h => h) rfl hC ⟨_, fun w hw => by (go_simp; try with_reducible rfl), fun a1 ha => ?_⟩
          simp only [Act.put, List.setIfInBounds_toArray, List.set_cons_succ, List.set_cons_zero] at ha; subst ha
          refine wt_take 2 rfl (by kernel_rfl) (by kernel_rfl) (by kernel_rfl) (fun _ _ _ _ h => h) rfl hC ⟨_, fun w hw => by (go_simp; try with_reducible rfl), fun a1 ha => ?_⟩
          simp only [Act.put, List.setIfInBounds_toArray, List.set_cons_succ, List.set_cons_zero] at ha; subst ha
          refine wt_take 3 rfl (by kernel_rfl) (by kernel_rfl) (by kernel_rfl) (fun _ _ _ _ h => h) rfl hC ⟨_, fun w hw => ex_load1 rfl Tryd.underlying24 rfl rfl (by rw [cell_of_row w _ _ _ _ (0, 0) (hw.getB 0 rfl)]; rfl), fun a1 ha => ?_⟩
          simp only [Act.put, List.setIfInBounds_toArray, List.set_cons_succ, List.set_cons_zero] at ha; subst ha
          refine wt_take 4 rfl (by kernel_rfl) (by kernel_rfl) (by kernel_rfl) (fun _ _ _ _ h => h) rfl hC ⟨_, fun w hw => by (go_simp; try with_reducible rfl), fun a1 ha => ?_⟩
          simp only [Act.put, List.setIfInBounds_toArray, List.set_cons_succ, List.set_cons_zero] at ha; subst ha
          refine wt_take 5 rfl (by kernel_rfl) (by kernel_rfl) (by kernel_rfl) (fun _ _ _ _ h => h) rfl hC ⟨_, fun w hw => by (go_simp; try with_reducible rfl), fun a1 ha => ?_⟩
          simp only [Act.put, List.setIfInBounds_toArray, List.set_cons_succ, List.set_cons_zero] at ha; subst ha
          refine wt_take 6 rfl (by kernel_rfl) (by kernel_rfl) (by kernel_rfl) (fun _ _ _ _ h => h) rfl hC ⟨_, fun w hw => ex_indexS rfl Tryd.underlying24 size3 rfl rfl k rfl hlt rfl, fun a1 ha => ?_⟩
          simp only [Act.put, List.setIfInBounds_toArray, List.set_cons_succ, List.set_cons_zero] at ha; subst ha
          refine wt_take 7 rfl (by kernel_rfl) (by kernel_rfl) (by kernel_rfl) (fun _ _ _ _ h => h) rfl hC ⟨.int .i64 (g : Int), fun w hw => ex_load1 rfl Tryd.underlying3 rfl rfl (by rw [Nat.mul_one]; exact HX.out hw), fun a1 ha => ?_⟩
          simp only [Act.put, List.setIfInBounds_toArray, List.set_cons_succ, List.set_cons_zero] at ha; subst ha
          refine wt_take 8 rfl (by kernel_rfl) (by kernel_rfl) (by kernel_rfl) (fun _ _ _ _ h => h) rfl hC ⟨_, fun w hw => ex_index1 rfl Tryd.underlying24 size3 rfl rfl g rfl hgm rfl, fun a1 ha => ?_⟩
          simp only [Act.put, List.setIfInBounds_toArray, List.set_cons_succ, List.set_cons_zero] at ha; subst ha
          refine wt_one 9 (by kernel_rfl) ?_
          refine wt_store1R hs rfl rfl rfl size3 rfl rfl rfl 2 rfl hgm (rowI (stF (fun _ => false) G1 (k + 1))) HST.out (by simp only [Act.put, List.setIfInBounds_toArray, List.set_cons_succ, List.set_cons_zero]; rfl) ?_
          clear hs; intro w1 hs
          refine wt_and (hs.sub (by repeat (first | exact List.Sublist.refl _ | refine List.Sublist.cons_cons _ ?_ | refine List.Sublist.cons _ ?_))) fun hC => ?_
          refine wt_done (by kernel_rfl) ?_
          skip
          go_wp2
          go_roundw
          case rel => exact ⟨k + 1, by omega, by go_num, hs⟩
          case measure => simp [intOf]; omega
        · obtain rfl : k = j := by omega
          clear hlj
          by_cases hin : 1 ≤ G1 k ∧ G1 k ≤ m
          · obtain ⟨g, hg⟩ : ∃ g : Nat, G1 k = (g : Int) := ⟨(G1 k).toNat, by omega⟩
            have HX : Hid (∀ {w1 : World} {L : List Res}, Tr w [] w1 L → w1.cell? ⟨db1, do1 + k, none⟩ = some (.int .i64 (g : Int))) := Lib.hid fun h => by have := I1.out.rd.keep h k hlt; rw [this]; show some (Value.int .i64 (G1 k)) = _; rw [hg]
            rw [hg] at hin
            have hgm : g < m + 1 := by omega
            have hst : stF (fun _ => false) G1 k g = true := by
              have hb := HBAD.out
              simp only [okF] at hb
              rw [hg, Int.toNat_natCast] at hb
              cases hf : stF (fun _ => false) G1 k g
              · exact absurd ⟨by omega, by omega, hf⟩ hb
              · rfl
            have HK := Lib.hid (fun w => rinode_any n m (g : Int) w)
            rw [show inI m (g : Int) = true from if_pos ⟨by omega, by omega⟩] at HK
            have HV := Lib.hid (rowI_hit hgm hst)
            clear hin hg hst HBAD
            go_upto_region 8 with fail
            refine wt_enter 7 rfl hs (by kernel_rfl) ?_
            clear hs; intro w1 hs; have hC := hs
            refine wt_take 0 rfl (by kernel_rfl) (by kernel_rfl) (by kernel_rfl) (fun _ _ _ _ h => h) rfl hC ⟨_, fun w hw => ex_load2 rfl Tryd.underlying23 rfl size23 rfl (by rw [cell_of_row w _ _ _ _ (0, 0) (hw.getB 3 rfl)]; rfl) (by rw [cell_of_row w _ _ _ _ (0, 0) (hw.getB 3 rfl)]; rfl), fun a1 ha => ?_⟩
            simp only [Act.put, List.setIfInBounds_toArray, List.set_cons_succ, List.set_cons_zero] at ha; subst ha
            refine wt_take 1 rfl (by kernel_rfl) (by kernel_rfl) (by kernel_rfl) (fun _ _ _ _ h => h) rfl hC ⟨_, fun w hw => by (go_simp; try with_reducible rfl), fun a1 ha => ?_⟩
            simp only [Act.put, List.setIfInBounds_toArray, List.set_cons_succ, List.set_cons_zero] at ha; subst ha
            refine wt_take 2 rfl (by kernel_rfl) (by kernel_rfl) (by kernel_rfl) (fun _ _ _ _ h => h) rfl hC ⟨_, fun w hw => by (go_simp; try with_reducible rfl), fun a1 ha => ?_⟩
            simp only [Act.put, List.setIfInBounds_toArray, List.set_cons_succ, List.set_cons_zero] at ha; subst ha
            refine wt_take 3 rfl (by kernel_rfl) (by kernel_rfl) (by kernel_rfl) (fun _ _ _ _ h => h) rfl hC ⟨_, fun w hw => ex_indexS rfl Tryd.underlying24 size3 rfl rfl k rfl hlt rfl, fun a1 ha => ?_⟩
            simp only [Act.put, List.setIfInBounds_toArray, List.set_cons_succ, List.set_cons_zero] at ha; subst ha
            refine wt_take 4 rfl (by kernel_rfl) (by kernel_rfl) (by kernel_rfl) (fun _ _ _ _ h => h) rfl hC ⟨.int .i64 (g : Int), fun w hw => ex_load1 rfl Tryd.underlying3 rfl rfl (by rw [Nat.mul_one]; exact HX.out hw), fun a1 ha => ?_⟩
            simp only [Act.put, List.setIfInBounds_toArray, List.set_cons_succ, List.set_cons_zero] at ha; subst ha
            refine wt_one 5 (by kernel_rfl) ?_
            refine wt_call0 hs rfl rfl (by go_simp) (HK.out _) (by simp only [Act.put, List.setIfInBounds_toArray, List.set_cons_succ, List.set_cons_zero]; rfl) ?_
            clear hs; intro w1 hs
            refine wt_and (hs.sub (by repeat (first | exact List.Sublist.refl _ | refine List.Sublist.cons_cons _ ?_ | refine List.Sublist.cons _ ?_))) fun hC => ?_
            refine wt_take 6 rfl (by kernel_rfl) (by kernel_rfl) (by kernel_rfl) (fun _ _ _ _ h => h) rfl hC ⟨_, fun w hw => by (go_simp; try with_reducible rfl), fun a1 ha => ?_⟩
            simp only [Act.put, List.setIfInBounds_toArray, List.set_cons_succ, List.set_cons_zero] at ha; subst ha
            refine wt_done (by kernel_rfl) ?_
            skip
            clear hC
            go_upto_region 9 with fail
            refine wt_enter 15 rfl hs (by kernel_rfl) ?_
            clear hs; intro w1 hs; have hC := hs
            refine wt_take 0 rfl (by kernel_rfl) (by kernel_rfl) (by kernel_rfl) (fun _ _ _ _ h => h) rfl hC ⟨_, fun w hw => by (go_simp; try with_reducible rfl), fun a1 ha => ?_⟩
            simp only [Act.put, List.setIfInBounds_toArray, List.set_cons_succ, List.set_cons_zero] at ha; subst ha
            refine wt_take 1 rfl (by kernel_rfl) (by kernel_rfl) (by kernel_rfl) (fun _ _ _ _ h => h) rfl hC ⟨_, fun w hw => by (go_simp; try with_reducible rfl), fun a1 ha => ?_⟩
            simp only [Act.put, List.setIfInBounds_toArray, List.set_cons_succ, List.set_cons_zero] at ha; subst ha
            refine wt_take 2 rfl (by kernel_rfl) (by kernel_rfl) (by kernel_rfl) (fun _ _ _ _ h => h) rfl hC ⟨_, fun w hw => by (go_simp; try with_reducible rfl), fun a1 ha => ?_⟩
            simp only [Act.put, List.setIfInBounds_toArray, List.set_cons_succ, List.set_cons_zero] at ha; subst ha
            refine wt_take 3 rfl (by kernel_rfl) (by kernel_rfl) (by kernel_rfl) (fun _ _ _ _ h => h) rfl hC ⟨_, fun w hw => by (go_simp; try with_reducible rfl), fun a1 ha => ?_⟩
            simp only [Act.put, List.setIfInBounds_toArray, List.set_cons_succ, List.set_cons_zero] at ha; subst ha
            refine wt_take 4 rfl (by kernel_rfl) (by kernel_rfl) (by kernel_rfl) (fun _ _ _ _ h => h) rfl hC ⟨_, fun w hw => by (go_simp; try with_reducible rfl), fun a1 ha => ?_⟩
            simp only [Act.put, List.setIfInBounds_toArray, List.set_cons_succ, List.set_cons_zero] at ha; subst ha
            refine wt_take 5 rfl (by kernel_rfl) (by kernel_rfl) (by kernel_rfl) (fun _ _ _ _ h => h) rfl hC ⟨_, fun w hw => by (go_simp; try with_reducible rfl), fun a1 ha => ?_⟩
            simp only [Act.put, List.setIfInBounds_toArray, List.set_cons_succ, List.set_cons_zero] at ha; subst ha
            refine wt_take 6 rfl (by kernel_rfl) (by kernel_rfl) (by kernel_rfl) (fun _ _ _ _ h => h) rfl hC ⟨_, fun w hw => ex_load1 rfl Tryd.underlying24 rfl rfl (by rw [cell_of_row w _ _ _ _ (0, 0) (hw.getB 0 rfl)]; rfl), fun a1 ha => ?_⟩
            simp only [Act.put, List.setIfInBounds_toArray, List.set_cons_succ, List.set_cons_zero] at ha; subst ha
            refine wt_take 7 rfl (by kernel_rfl) (by kernel_rfl) (by kernel_rfl) (fun _ _ _ _ h => h) rfl hC ⟨_, fun w hw => by (go_simp; try with_reducible rfl), fun a1 ha => ?_⟩
            simp only [Act.put, List.setIfInBounds_toArray, List.set_cons_succ, List.set_cons_zero] at ha; subst ha
            refine wt_take 8 rfl (by kernel_rfl) (by kernel_rfl) (by kernel_rfl) (fun _ _ _ _ h => h) rfl hC ⟨_, fun w hw => by (go_simp; try with_reducible rfl), fun a1 ha => ?_⟩
            simp only [Act.put, List.setIfInBounds_toArray, List.set_cons_succ, List.set_cons_zero] at ha; subst ha
            refine wt_take 9 rfl (by kernel_rfl) (by kernel_rfl) (by kernel_rfl) (fun _ _ _ _ h => h) rfl hC ⟨_, fun w hw => ex_indexS rfl Tryd.underlying24 size3 rfl rfl k rfl hlt rfl, fun a1 ha => ?_⟩
            simp only [Act.put, List.setIfInBounds_toArray, List.set_cons_succ, List.set_cons_zero] at ha; subst ha
            refine wt_take 10 rfl (by kernel_rfl) (by kernel_rfl) (by kernel_rfl) (fun _ _ _ _ h => h) rfl hC ⟨.int .i64 (g : Int), fun w hw => ex_load1 rfl Tryd.underlying3 rfl rfl (by rw [Nat.mul_one]; exact HX.out hw), fun a1 ha => ?_⟩
            simp only [Act.put, List.setIfInBounds_toArray, List.set_cons_succ, List.set_cons_zero] at ha; subst ha
            refine wt_take 11 rfl (by kernel_rfl) (by kernel_rfl) (by kernel_rfl) (fun _ _ _ _ h => h) rfl hC ⟨_, fun w hw => ex_index1 rfl Tryd.underlying24 size3 rfl rfl g rfl hgm rfl, fun a1 ha => ?_⟩
            simp only [Act.put, List.setIfInBounds_toArray, List.set_cons_succ, List.set_cons_zero] at ha; subst ha
            refine wt_take 12 rfl (by kernel_rfl) (by kernel_rfl) (by kernel_rfl) (fun _ _ _ _ h => h) rfl hC ⟨.int .i64 1, fun w hw => ex_load1 rfl Tryd.underlying3 rfl rfl (by rw [cell_of_row w _ _ _ _ (0, 0) (hw.getB 2 rfl)]; exact HV.out), fun a1 ha => ?_⟩
            simp only [Act.put, List.setIfInBounds_toArray, List.set_cons_succ, List.set_cons_zero] at ha; subst ha
            refine wt_take 13 rfl (by kernel_rfl) (by kernel_rfl) (by kernel_rfl) (fun _ _ _ _ h => h) rfl hC ⟨_, fun w hw => by (go_simp; try with_reducible rfl), fun a1 ha => ?_⟩
            simp only [Act.put, List.setIfInBounds_toArray, List.set_cons_succ, List.set_cons_zero] at ha; subst ha
            refine wt_take 14 rfl (by kernel_rfl) (by kernel_rfl) (by kernel_rfl) (fun _ _ _ _ h => h) rfl hC ⟨_, fun w hw => by (go_simp; try with_reducible rfl), fun a1 ha => ?_⟩
            simp only [Act.put, List.setIfInBounds_toArray, List.set_cons_succ, List.set_cons_zero] at ha; subst ha
            refine wt_done (by kernel_rfl) ?_
            skip
            clear hC
            go_wp2
            go_ret2
            exact ⟨rfl, hs.letgo⟩
          · obtain ⟨x, hg⟩ : ∃ x : Int, G1 k = x := ⟨_, rfl⟩
            have HX : Hid (∀ {w1 : World} {L : List Res}, Tr w [] w1 L → w1.cell? ⟨db1, do1 + k, none⟩ = some (.int .i64 x)) := Lib.hid fun h => by have := I1.out.rd.keep h k hlt; rw [this]; show some (Value.int .i64 (G1 k)) = _; rw [hg]
            rw [hg] at hin
            have HK := Lib.hid (fun w => rinode_any n m x w)
            rw [show inI m x = false from if_neg (by omega)] at HK
            clear hin hg HBAD
            go_upto_region 8 with fail
            refine wt_enter 7 rfl hs (by kernel_rfl) ?_
            clear hs; intro w1 hs; have hC := hs
            refine wt_take 0 rfl (by kernel_rfl) (by kernel_rfl) (by kernel_rfl) (fun _ _ _ _ h => h) rfl hC ⟨_, fun w hw => ex_load2 rfl Tryd.underlying23 rfl size23 rfl (by rw [cell_of_row w _ _ _ _ (0, 0) (hw.getB 3 rfl)]; rfl) (by rw [cell_of_row w _ _ _ _ (0, 0) (hw.getB 3 rfl)]; rfl), fun a1 ha => ?_⟩
            simp only [Act.put, List.setIfInBounds_toArray, List.set_cons_succ, List.set_cons_zero] at ha; subst ha
            refine wt_take 1 rfl (by kernel_rfl) (by kernel_rfl) (by kernel_rfl) (fun _ _ _ _ h => h) rfl hC ⟨_, fun w hw => by (go_simp; try with_reducible rfl), fun a1 ha => ?_⟩
            simp only [Act.put, List.setIfInBounds_toArray, List.set_cons_succ, List.set_cons_zero] at ha; subst ha
            refine wt_take 2 rfl (by kernel_rfl) (by kernel_rfl) (by kernel_rfl) (fun _ _ _ _ h => h) rfl hC ⟨_, fun w hw => by (go_simp; try with_reducible rfl), fun a1 ha => ?_⟩
            simp only [Act.put, List.setIfInBounds_toArray, List.set_cons_succ, List.set_cons_zero] at ha; subst ha
            refine wt_take 3 rfl (by kernel_rfl) (by kernel_rfl) (by kernel_rfl) (fun _ _ _ _ h => h) rfl hC ⟨_, fun w hw => ex_indexS rfl Tryd.underlying24 size3 rfl rfl k rfl hlt rfl, fun a1 ha => ?_⟩
            simp only [Act.put, List.setIfInBounds_toArray, List.set_cons_succ, List.set_cons_zero] at ha; subst ha
            refine wt_take 4 rfl (by kernel_rfl) (by kernel_rfl) (by kernel_rfl) (fun _ _ _ _ h => h) rfl hC ⟨.int .i64 x, fun w hw => ex_load1 rfl Tryd.underlying3 rfl rfl (by rw [Nat.mul_one]; exact HX.out hw), fun a1 ha => ?_⟩
            simp only [Act.put, List.setIfInBounds_toArray, List.set_cons_succ, List.set_cons_zero] at ha; subst ha
            refine wt_one 5 (by kernel_rfl) ?_
            refine wt_call0 hs rfl rfl (by go_simp) (HK.out _) (by simp only [Act.put, List.setIfInBounds_toArray, List.set_cons_succ, List.set_cons_zero]; rfl) ?_
            clear hs; intro w1 hs
            refine wt_and (hs.sub (by repeat (first | exact List.Sublist.refl _ | refine List.Sublist.cons_cons _ ?_ | refine List.Sublist.cons _ ?_))) fun hC => ?_
            refine wt_take 6 rfl (by kernel_rfl) (by kernel_rfl) (by kernel_rfl) (fun _ _ _ _ h => h) rfl hC ⟨_, fun w hw => by (go_simp; try with_reducible rfl), fun a1 ha => ?_⟩
            simp only [Act.put, List.setIfInBounds_toArray, List.set_cons_succ, List.set_cons_zero] at ha; subst ha
            refine wt_done (by kernel_rfl) ?_
            skip
            clear hC
            go_upto_region 9 with fail
            refine wt_enter 15 rfl hs (by kernel_rfl) ?_
            clear hs; intro w1 hs; have hC := hs
            refine wt_take 0 rfl (by kernel_rfl) (by kernel_rfl) (by kernel_rfl) (fun _ _ _ _ h => h) rfl hC ⟨_, fun w hw => by (go_simp; try with_reducible rfl), fun a1 ha => ?_⟩
            simp only [Act.put, List.setIfInBounds_toArray, List.set_cons_succ, List.set_cons_zero] at ha; subst ha
            refine wt_take 1 rfl (by kernel_rfl) (by kernel_rfl) (by kernel_rfl) (fun _ _ _ _ h => h) rfl hC ⟨_, fun w hw => by (go_simp; try with_reducible rfl), fun a1 ha => ?_⟩
            simp only [Act.put, List.setIfInBounds_toArray, List.set_cons_succ, List.set_cons_zero] at ha; subst ha
            refine wt_take 2 rfl (by kernel_rfl) (by kernel_rfl) (by kernel_rfl) (fun _ _ _ _ h => h) rfl hC ⟨_, fun w hw => by (go_simp; try with_reducible rfl), fun a1 ha => ?_⟩
            simp only [Act.put, List.setIfInBounds_toArray, List.set_cons_succ, List.set_cons_zero] at ha; subst ha
            refine wt_pass 3 rfl (by kernel_rfl) (by kernel_rfl) (by kernel_rfl) (fun _ _ _ h => h) rfl hC (by simp only [Act.put, List.setIfInBounds_toArray, List.set_cons_succ, List.set_cons_zero]; rfl) ?_
            refine wt_pass 4 rfl (by kernel_rfl) (by kernel_rfl) (by kernel_rfl) (fun _ _ _ h => h) rfl hC (by simp only [Act.put, List.setIfInBounds_toArray, List.set_cons_succ, List.set_cons_zero]; rfl) ?_
            refine wt_pass 5 rfl (by kernel_rfl) (by kernel_rfl) (by kernel_rfl) (fun _ _ _ h => h) rfl hC (by simp only [Act.put, List.setIfInBounds_toArray, List.set_cons_succ, List.set_cons_zero]; rfl) ?_
            refine wt_pass 6 rfl (by kernel_rfl) (by kernel_rfl) (by kernel_rfl) (fun _ _ _ h => h) rfl hC (by simp only [Act.put, List.setIfInBounds_toArray, List.set_cons_succ, List.set_cons_zero]; rfl) ?_
            refine wt_pass 7 rfl (by kernel_rfl) (by kernel_rfl) (by kernel_rfl) (fun _ _ _ h => h) rfl hC (by simp only [Act.put, List.setIfInBounds_toArray, List.set_cons_succ, List.set_cons_zero]; rfl) ?_
            refine wt_pass 8 rfl (by kernel_rfl) (by kernel_rfl) (by kernel_rfl) (fun _ _ _ h => h) rfl hC (by simp only [Act.put, List.setIfInBounds_toArray, List.set_cons_succ, List.set_cons_zero]; rfl) ?_
            refine wt_pass 9 rfl (by kernel_rfl) (by kernel_rfl) (by kernel_rfl) (fun _ _ _ h => h) rfl hC (by simp only [Act.put, List.setIfInBounds_toArray, List.set_cons_succ, List.set_cons_zero]; rfl) ?_
            refine wt_pass 10 rfl (by kernel_rfl) (by kernel_rfl) (by kernel_rfl) (fun _ _ _ h => h) rfl hC (by simp only [Act.put, List.setIfInBounds_toArray, List.set_cons_succ, List.set_cons_zero]; rfl) ?_
            refine wt_pass 11 rfl (by kernel_rfl) (by kernel_rfl) (by kernel_rfl) (fun _ _ _ h => h) rfl hC (by simp only [Act.put, List.setIfInBounds_toArray, List.set_cons_succ, List.set_cons_zero]; rfl) ?_
            refine wt_pass 12 rfl (by kernel_rfl) (by kernel_rfl) (by kernel_rfl) (fun _ _ _ h => h) rfl hC (by simp only [Act.put, List.setIfInBounds_toArray, List.set_cons_succ, List.set_cons_zero]; rfl) ?_
            refine wt_pass 13 rfl (by kernel_rfl) (by kernel_rfl) (by kernel_rfl) (fun _ _ _ h => h) rfl hC (by simp only [Act.put, List.setIfInBounds_toArray, List.set_cons_succ, List.set_cons_zero]; rfl) ?_
            refine wt_take 14 rfl (by kernel_rfl) (by kernel_rfl) (by kernel_rfl) (fun _ _ _ _ h => h) rfl hC ⟨_, fun w hw => by (go_simp; try with_reducible rfl), fun a1 ha => ?_⟩
            simp only [Act.put, List.setIfInBounds_toArray, List.set_cons_succ, List.set_cons_zero] at ha; subst ha
            refine wt_done (by kernel_rfl) ?_
            skip
            clear hC
            go_wp2
            go_ret2
            exact ⟨rfl, hs.letgo⟩
  exact wt_nil
set_option maxRecDepth 100000 in
set_option maxHeartbeats 4000000 in
theorem rnew_no2 (hmay : 8 ≤ n ∧ n ≤ 4096 ∧ 1 ≤ m ∧ m ≤ 512 ∧ m + 2 ≤ n) (g1 : Ints w (.slice ao1 N1 c1) ao1 N1 c1 db1 do1 G1) (g2 : Ints w (.slice ao2 N2 c2) ao2 N2 c2 db2 do2 G2) (j : Nat)
    (hok1 : ∀ k, k < N1 → okF (m + 1) 1 (stF (fun _ => false) G1 k) (G1 k)) (hj : j < N2) (hok2 : ∀ k, k < j → okF n (m + 1) (stF (fun _ => false) G2 k) (G2 k)) (hbad : ¬ okF n (m + 1) (stF (fun _ => false) G2 j) (G2 j)) :
    Calls Tryd.prog 13 #[.agg #[.int .i64 n, .int .i64 m], .slice ao1 N1 c1, .slice ao2 N2 c2] w fun e w' => e = .returned (.tuple #[.pointer none, .int .i64 82]) ∧ Tr w [] w' [] := by
  have hs := Tr.refl w []
  have HM := Lib.hid (fun w => rmay_yes n m w hmay)
  have I1 := Lib.hid g1
  have I2 := Lib.hid g2
  have hl1 := g1.le
  have hm1 := g1.max
  have hl2 := g2.le
  have hm2 := g2.max
  unfold maxLen at hm1 hm2
  obtain ⟨h1, h2, h3, h4, h5⟩ := hmay
  have HO1 := Lib.hid hok1
  have HO2 := Lib.hid hok2
  have HBAD := Lib.hid hbad
  clear g1 g2 hok1 hok2 hbad
  go_enter Tryd.func13, Tryd.ntmps13
  go_upto_region 4 with (first
    | ((with_reducible refine at_box (t := 23) rfl ?_); refine wl_boxA hs rfl rfl rfl ?_; clear hs; intro w1 xb hs)
    | ((with_reducible refine (at_load (t := 23)) rfl ?_); refine wl_loadA hs rfl rfl Tryd.underlying23 rfl rfl 0 rfl size23 ?_)
    | (go_at_call 35; refine (HM.out _).mono ?_; rintro e w2 ⟨rfl, hc⟩; replace hs := hs.call0 hc; clear hc))
  refine wt_enter 11 rfl hs (by kernel_rfl) ?_
  clear hs; intro w1 hs; have hC := hs
  refine wt_take 0 rfl (by kernel_rfl) (by kernel_rfl) (by kernel_rfl) (fun _ _ _ _ h => h) rfl hC ⟨_, fun w hw => ex_load2 rfl Tryd.underlying23 rfl size23 rfl (by rw [cell_of_row w _ _ _ _ (0, 0) (hw.getB 0 rfl)]; rfl) (by rw [cell_of_row w _ _ _ _ (0, 0) (hw.getB 0 rfl)]; rfl), fun a1 ha => ?_⟩
  simp only [Act.put, List.setIfInBounds_toArray, List.set_cons_succ, List.set_cons_zero] at ha; subst ha
  refine wt_take 1 rfl (by kernel_rfl) (by kernel_rfl) (by kernel_rfl) (fun _ _ _ _ h => h) rfl hC ⟨_, fun w hw => by (go_simp; try with_reducible rfl), fun a1 ha => ?_⟩
  simp only [Act.put, List.setIfInBounds_toArray, List.set_cons_succ, List.set_cons_zero] at ha; subst ha
  refine wt_take 2 rfl (by kernel_rfl) (by kernel_rfl) (by kernel_rfl) (fun _ _ _ _ h => h) rfl hC ⟨_, fun w hw => ex_load1 rfl Tryd.underlying3 rfl rfl (by rw [cell_of_row w _ _ _ _ (0, 0) (hw.getB 0 rfl)]; rfl), fun a1 ha => ?_⟩
  simp only [Act.put, List.setIfInBounds_toArray, List.set_cons_succ, List.set_cons_zero] at ha; subst ha
  refine wt_take 4 rfl (by kernel_rfl) (by kernel_rfl) (by kernel_rfl) (fun _ _ _ _ h => h) rfl hC ⟨_, fun w hw => by (go_simp; try with_reducible rfl), fun a1 ha => ?_⟩
  simp only [Act.put, List.setIfInBounds_toArray, List.set_cons_succ, List.set_cons_zero] at ha; subst ha
  refine wt_take 5 rfl (by kernel_rfl) (by kernel_rfl) (by kernel_rfl) (fun _ _ _ _ h => h) rfl hC ⟨_, fun w hw => ex_load1 rfl Tryd.underlying3 rfl rfl (by rw [cell_of_row w _ _ _ _ (0, 0) (hw.getB 0 rfl)]; rfl), fun a1 ha => ?_⟩
  simp only [Act.put, List.setIfInBounds_toArray, List.set_cons_succ, List.set_cons_zero] at ha; subst ha
  refine wt_take 6 rfl (by kernel_rfl) (by kernel_rfl) (by kernel_rfl) (fun _ _ _ _ h => h) rfl hC ⟨.int .i64 ((m : Int) + 1), fun w hw => by (go_simp; first | done | exact wrap_in (by omega) | go_num), fun a1 ha => ?_⟩
  simp only [Act.put, List.setIfInBounds_toArray, List.set_cons_succ, List.set_cons_zero] at ha; subst ha
  refine wt_all [3, 7] (by kernel_rfl) (by simp) ?_
  refine wt_cons ?_ ?_
  ·
    refine wt_make hs rfl rfl rfl Tryd.underlying24 info3 n rfl rfl rfl (by omega) (by omega) (rowB fun _ => 0) (zmakeRB _) (fun _ => by simp only [Act.put, List.setIfInBounds_toArray, List.set_cons_succ, List.set_cons_zero]; rfl) ?_
    clear hs; intro w1 b hs; rw [Nat.mul_one] at hs
    refine wt_and (hs.sub (by repeat (first | exact List.Sublist.refl _ | refine List.Sublist.cons_cons _ ?_ | refine List.Sublist.cons _ ?_))) fun hC => ?_
    refine wt_one 7 (by kernel_rfl) ?_
    refine wt_make hs rfl rfl rfl Tryd.underlying24 info3 (m + 1) rfl rfl (by omega) (by omega) (by omega) (rowI fun _ => false) (zmakeRI _) (fun _ => by simp only [Act.put, List.setIfInBounds_toArray, List.set_cons_succ, List.set_cons_zero]; rfl) ?_
    clear hs; intro w1 i hs; rw [Nat.mul_one] at hs
    refine wt_and (hs.sub (by repeat (first | exact List.Sublist.refl _ | refine List.Sublist.cons_cons _ ?_ | refine List.Sublist.cons _ ?_))) fun hC => ?_
    refine wt_take 8 rfl (by kernel_rfl) (by kernel_rfl) (by kernel_rfl) (fun _ _ _ _ h => h) rfl hC ⟨.agg #[.int .i64 n, .int .i64 m, .slice (some ⟨b, 0, none⟩) n n, .slice (some ⟨i, 0, none⟩) (m + 1) (m + 1)], fun w hw => by (go_simp; try rfl), fun a1 ha => ?_⟩
    simp only [Act.put, List.setIfInBounds_toArray, List.set_cons_succ, List.set_cons_zero] at ha; subst ha
    refine wt_one 9 (by kernel_rfl) ?_
    refine wt_boxA hs rfl rfl rfl rfl (fun _ => by simp only [Act.put, List.setIfInBounds_toArray, List.set_cons_succ, List.set_cons_zero]; rfl) ?_
    clear hs; intro w1 p hs
    refine wt_and (hs.sub (by repeat (first | exact List.Sublist.refl _ | refine List.Sublist.cons_cons _ ?_ | refine List.Sublist.cons _ ?_))) fun hC => ?_
    refine wt_take 10 rfl (by kernel_rfl) (by kernel_rfl) (by kernel_rfl) (fun _ _ _ _ h => h) rfl hC ⟨_, fun w hw => by (go_simp; try with_reducible rfl), fun a1 ha => ?_⟩
    simp only [Act.put, List.setIfInBounds_toArray, List.set_cons_succ, List.set_cons_zero] at ha; subst ha
    refine wt_done (by kernel_rfl) ?_
    have hs3 : Tr w [] w1 [Res.blk p #[.int .i64 n, .int .i64 m, .slice (some ⟨b, 0, none⟩) n n, .slice (some ⟨i, 0, none⟩) (m + 1) (m + 1)] 73, Res.blk b (rowOf n (rowB (stB G2 0))) 3, Res.blk i (rowOf (m + 1) (rowI (stF (fun _ => false) G1 0))) 3, Res.blk xb #[.int .i64 n, .int .i64 m] 23] := by first | exact hs | exact hs.perm (List.Perm.cons _ (List.Perm.swap _ _ _))
    clear hs hC; have hs := hs3; clear hs3
    as_aux_lemma =>
      go_wp2_with fail
      go_loopw [10] (fun iv wr => ∃ k : Nat, k ≤ N1 ∧ iv = .int .i64 k ∧ Tr w [] wr [Res.blk p #[.int .i64 n, .int .i64 m, .slice (some ⟨b, 0, none⟩) n n, .slice (some ⟨i, 0, none⟩) (m + 1) (m + 1)] 73, Res.blk b (rowOf n (rowB (stB G2 0))) 3, Res.blk i (rowOf (m + 1) (rowI (stF (fun _ => false) G1 k))) 3, Res.blk xb #[.int .i64 n, .int .i64 m] 23]) (fun iv _ => N1 - (intOf iv).toNat)
      case atStart => exact ⟨0, Nat.zero_le _, rfl, hs⟩
      case round =>
        clear hs
        obtain ⟨k, hk, rfl, hs⟩ := hrel
        by_cases hlt : k < N1
        · have hltI : (k : Int) < N1 := by omega
          obtain rfl := I1.out.ao (by omega)
          obtain ⟨o1, o2, o3⟩ := HO1.out k hlt
          obtain ⟨g, hg⟩ : ∃ g : Nat, G1 k = (g : Int) := ⟨(G1 k).toNat, by omega⟩
          have HX : Hid (∀ {w1 : World} {L : List Res}, Tr w [] w1 L → w1.cell? ⟨db1, do1 + k, none⟩ = some (.int .i64 (g : Int))) := Lib.hid fun h => by have := I1.out.rd.keep h k hlt; rw [this]; show some (Value.int .i64 (G1 k)) = _; rw [hg]
          rw [hg] at o1 o2 o3
          rw [Int.toNat_natCast] at o3
          have HK := Lib.hid (fun w => rinode_any n m (g : Int) w)
          rw [show inI m (g : Int) = true from if_pos ⟨by omega, by omega⟩] at HK
          have hgm : g < m + 1 := by omega
          have HV := Lib.hid (rowI_at hgm o3)
          have HST := Lib.hid (rowIs_step (n := m + 1) hg)
          clear o1 o2 o3 hg
          go_upto_region 8 with fail
          refine wt_enter 7 rfl hs (by kernel_rfl) ?_
          clear hs; intro w1 hs; have hC := hs
          refine wt_take 0 rfl (by kernel_rfl) (by kernel_rfl) (by kernel_rfl) (fun _ _ _ _ h => h) rfl hC ⟨_, fun w hw => ex_load2 rfl Tryd.underlying23 rfl size23 rfl (by rw [cell_of_row w _ _ _ _ (0, 0) (hw.getB 3 rfl)]; rfl) (by rw [cell_of_row w _ _ _ _ (0, 0) (hw.getB 3 rfl)]; rfl), fun a1 ha => ?_⟩
          simp only [Act.put, List.setIfInBounds_toArray, List.set_cons_succ, List.set_cons_zero] at ha; subst ha
          refine wt_take 1 rfl (by kernel_rfl) (by kernel_rfl) (by kernel_rfl) (fun _ _ _ _ h => h) rfl hC ⟨_, fun w hw => by (go_simp; try with_reducible rfl), fun a1 ha => ?_⟩
          simp only [Act.put, List.setIfInBounds_toArray, List.set_cons_succ, List.set_cons_zero] at ha; subst ha
          refine wt_take 2 rfl (by kernel_rfl) (by kernel_rfl) (by kernel_rfl) (fun _ _ _ _ h => h) rfl hC ⟨_, fun w hw => by (go_simp; try with_reducible rfl), fun a1 ha => ?_⟩
          simp only [Act.put, List.setIfInBounds_toArray, List.set_cons_succ, List.set_cons_zero] at ha; subst ha
          refine wt_take 3 rfl (by kernel_rfl) (by kernel_rfl) (by kernel_rfl) (fun _ _ _ _ h => h) rfl hC ⟨_, fun w hw => ex_indexS rfl Tryd.underlying24 size3 rfl rfl k rfl hlt rfl, fun a1 ha => ?_⟩
          simp only [Act.put, List.setIfInBounds_toArray, List.set_cons_succ, List.set_cons_zero] at ha; subst ha
          refine wt_take 4 rfl (by kernel_rfl) (by kernel_rfl) (by kernel_rfl) (fun _ _ _ _ h => h) rfl hC ⟨.int .i64 (g : Int), fun w hw => ex_load1 rfl Tryd.underlying3 rfl rfl (by rw [Nat.mul_one]; exact HX.out hw), fun a1 ha => ?_⟩
          simp only [Act.put, List.setIfInBounds_toArray, List.set_cons_succ, List.set_cons_zero] at ha; subst ha
          refine wt_one 5 (by kernel_rfl) ?_
          refine wt_call0 hs rfl rfl (by go_simp) (HK.out _) (by simp only [Act.put, List.setIfInBounds_toArray, List.set_cons_succ, List.set_cons_zero]; rfl) ?_
          clear hs; intro w1 hs
          refine wt_and (hs.sub (by repeat (first | exact List.Sublist.refl _ | refine List.Sublist.cons_cons _ ?_ | refine List.Sublist.cons _ ?_))) fun hC => ?_
          refine wt_take 6 rfl (by kernel_rfl) (by kernel_rfl) (by kernel_rfl) (fun _ _ _ _ h => h) rfl hC ⟨_, fun w hw => by (go_simp; try with_reducible rfl), fun a1 ha => ?_⟩
          simp only [Act.put, List.setIfInBounds_toArray, List.set_cons_succ, List.set_cons_zero] at ha; subst ha
          refine wt_done (by kernel_rfl) ?_
          skip
          clear hC
          go_upto_region 9 with fail
          refine wt_enter 15 rfl hs (by kernel_rfl) ?_
          clear hs; intro w1 hs; have hC := hs
          refine wt_take 0 rfl (by kernel_rfl) (by kernel_rfl) (by kernel_rfl) (fun _ _ _ _ h => h) rfl hC ⟨_, fun w hw => by (go_simp; try with_reducible rfl), fun a1 ha => ?_⟩
          simp only [Act.put, List.setIfInBounds_toArray, List.set_cons_succ, List.set_cons_zero] at ha; subst ha
          refine wt_take 1 rfl (by kernel_rfl) (by kernel_rfl) (by kernel_rfl) (fun _ _ _ _ h => h) rfl hC ⟨_, fun w hw => by (go_simp; try with_reducible rfl), fun a1 ha => ?_⟩
          simp only [Act.put, List.setIfInBounds_toArray, List.set_cons_succ, List.set_cons_zero] at ha; subst ha
          refine wt_take 2 rfl (by kernel_rfl) (by kernel_rfl) (by kernel_rfl) (fun _ _ _ _ h => h) rfl hC ⟨_, fun w hw => by (go_simp; try with_reducible rfl), fun a1 ha => ?_⟩
          simp only [Act.put, List.setIfInBounds_toArray, List.set_cons_succ, List.set_cons_zero] at ha; subst ha
          refine wt_take 3 rfl (by kernel_rfl) (by kernel_rfl) (by kernel_rfl) (fun _ _ _ _ h => h) rfl hC ⟨_, fun w hw => by (go_simp; try with_reducible rfl), fun a1 ha => ?_⟩
          simp only [Act.put, List.setIfInBounds_toArray, List.set_cons_succ, List.set_cons_zero] at ha; subst ha
          refine wt_take 4 rfl (by kernel_rfl) (by kernel_rfl) (by kernel_rfl) (fun _ _ _ _ h => h) rfl hC ⟨_, fun w hw => by (go_simp; try with_reducible rfl), fun a1 ha => ?_⟩
          simp only [Act.put, List.setIfInBounds_toArray, List.set_cons_succ, List.set_cons_zero] at ha; subst ha
          refine wt_take 5 rfl (by kernel_rfl) (by kernel_rfl) (by kernel_rfl) (fun _ _ _ _ h => h) rfl hC ⟨_, fun w hw => by (go_simp; try with_reducible rfl), fun a1 ha => ?_⟩
          simp only [Act.put, List.setIfInBounds_toArray, List.set_cons_succ, List.set_cons_zero] at ha; subst ha
          refine wt_take 6 rfl (by kernel_rfl) (by kernel_rfl) (by kernel_rfl) (fun _ _ _ _ h => h) rfl hC ⟨_, fun w hw => ex_load1 rfl Tryd.underlying24 rfl rfl (by rw [cell_of_row w _ _ _ _ (0, 0) (hw.getB 0 rfl)]; rfl), fun a1 ha => ?_⟩
          simp only [Act.put, List.setIfInBounds_toArray, List.set_cons_succ, List.set_cons_zero] at ha; subst ha
          refine wt_take 7 rfl (by kernel_rfl) (by kernel_rfl) (by kernel_rfl) (fun _ _ _ _ h => h) rfl hC ⟨_, fun w hw => by (go_simp; try with_reducible rfl), fun a1 ha => ?_⟩
          simp only [Act.put, List.setIfInBounds_toArray, List.set_cons_succ, List.set_cons_zero] at ha; subst ha
          refine wt_take 8 rfl (by kernel_rfl) (by kernel_rfl) (by kernel_rfl) (fun _ _ _ _ h => h) rfl hC ⟨_, fun w hw => by (go_simp; try with_reducible rfl), fun a1 ha => ?_⟩
          simp only [Act.put, List.setIfInBounds_toArray, List.set_cons_succ, List.set_cons_zero] at ha; subst ha
          refine wt_take 9 rfl (by kernel_rfl) (by kernel_rfl) (by kernel_rfl) (fun _ _ _ _ h => h) rfl hC ⟨_, fun w hw => ex_indexS rfl Tryd.underlying24 size3 rfl rfl k rfl hlt rfl, fun a1 ha => ?_⟩
          simp only [Act.put, List.setIfInBounds_toArray, List.set_cons_succ, List.set_cons_zero] at ha; subst ha
          refine wt_take 10 rfl (by kernel_rfl) (by kernel_rfl) (by kernel_rfl) (fun _ _ _ _ h => h) rfl hC ⟨.int .i64 (g : Int), fun w hw => ex_load1 rfl Tryd.underlying3 rfl rfl (by rw [Nat.mul_one]; exact HX.out hw), fun a1 ha => ?_⟩
          simp only [Act.put, List.setIfInBounds_toArray, List.set_cons_succ, List.set_cons_zero] at ha; subst ha
          refine wt_take 11 rfl (by kernel_rfl) (by kernel_rfl) (by kernel_rfl) (fun _ _ _ _ h => h) rfl hC ⟨_, fun w hw => ex_index1 rfl Tryd.underlying24 size3 rfl rfl g rfl hgm rfl, fun a1 ha => ?_⟩
          simp only [Act.put, List.setIfInBounds_toArray, List.set_cons_succ, List.set_cons_zero] at ha; subst ha
          refine wt_take 12 rfl (by kernel_rfl) (by kernel_rfl) (by kernel_rfl) (fun _ _ _ _ h => h) rfl hC ⟨.int .i64 0, fun w hw => ex_load1 rfl Tryd.underlying3 rfl rfl (by rw [cell_of_row w _ _ _ _ (0, 0) (hw.getB 2 rfl)]; exact HV.out), fun a1 ha => ?_⟩
          simp only [Act.put, List.setIfInBounds_toArray, List.set_cons_succ, List.set_cons_zero] at ha; subst ha
          refine wt_take 13 rfl (by kernel_rfl) (by kernel_rfl) (by kernel_rfl) (fun _ _ _ _ h => h) rfl hC ⟨_, fun w hw => by (go_simp; try with_reducible rfl), fun a1 ha => ?_⟩
          simp only [Act.put, List.setIfInBounds_toArray, List.set_cons_succ, List.set_cons_zero] at ha; subst ha
          refine wt_take 14 rfl (by kernel_rfl) (by kernel_rfl) (by kernel_rfl) (fun _ _ _ _ h => h) rfl hC ⟨_, fun w hw => by (go_simp; try with_reducible rfl), fun a1 ha => ?_⟩
          simp only [Act.put, List.setIfInBounds_toArray, List.set_cons_succ, List.set_cons_zero] at ha; subst ha
          refine wt_done (by kernel_rfl) ?_
          skip
          clear hC
          go_upto_region 11 with fail
          refine wt_enterS (List.Sublist.cons_cons _ (List.Sublist.cons_cons _ (List.Sublist.cons _ (List.Sublist.refl _)))) 10 rfl hs (by kernel_rfl) ?_
          clear hs; intro w1 hC hs
          refine wt_take 0 rfl (by kernel_rfl) (by kernel_rfl) (by kernel_rfl) (fun _ _ _ _ h => h) rfl hC ⟨_, fun w hw => by (go_simp; try with_reducible rfl), fun a1 ha => ?_⟩
          simp only [Act.put, List.setIfInBounds_toArray, List.set_cons_succ, List.set_cons_zero] at ha; subst ha
          refine wt_take 1 rfl (by kernel_rfl) (by kernel_rfl) (by kernel_rfl) (fun _ _ _ _ h => h) rfl hC ⟨_, fun w hw => by (go_simp; try with_reducible rfl), fun a1 ha => ?_⟩
          simp only [Act.put, List.setIfInBounds_toArray, List.set_cons_succ, List.set_cons_zero] at ha; subst ha
          refine wt_take 2 rfl (by kernel_rfl) (by kernel_rfl) (by kernel_rfl) (fun _ _ _ _ h => h) rfl hC ⟨_, fun w hw => by (go_simp; try with_reducible rfl), fun a1 ha => ?_⟩
          simp only [Act.put, List.setIfInBounds_toArray, List.set_cons_succ, List.set_cons_zero] at ha; subst ha
          refine wt_take 3 rfl (by kernel_rfl) (by kernel_rfl) (by kernel_rfl) (fun _ _ _ _ h => h) rfl hC ⟨_, fun w hw => ex_load1 rfl Tryd.underlying24 rfl rfl (by rw [cell_of_row w _ _ _ _ (0, 0) (hw.getB 0 rfl)]; rfl), fun a1 ha => ?_⟩
          simp only [Act.put, List.setIfInBounds_toArray, List.set_cons_succ, List.set_cons_zero] at ha; subst ha
          refine wt_take 4 rfl (by kernel_rfl) (by kernel_rfl) (by kernel_rfl) (fun _ _ _ _ h => h) rfl hC ⟨_, fun w hw => by (go_simp; try with_reducible rfl), fun a1 ha => ?_⟩
          simp only [Act.put, List.setIfInBounds_toArray, List.set_cons_succ, List.set_cons_zero] at ha; subst ha
          refine wt_take 5 rfl (by kernel_rfl) (by kernel_rfl) (by kernel_rfl) (fun _ _ _ _ h => h) rfl hC ⟨_, fun w hw => by (go_simp; try with_reducible rfl), fun a1 ha => ?_⟩
          simp only [Act.put, List.setIfInBounds_toArray, List.set_cons_succ, List.set_cons_zero] at ha; subst ha
          refine wt_take 6 rfl (by kernel_rfl) (by kernel_rfl) (by kernel_rfl) (fun _ _ _ _ h => h) rfl hC ⟨_, fun w hw => ex_indexS rfl Tryd.underlying24 size3 rfl rfl k rfl hlt rfl, fun a1 ha => ?_⟩
          simp only [Act.put, List.setIfInBounds_toArray, List.set_cons_succ, List.set_cons_zero] at ha; subst ha
          refine wt_take 7 rfl (by kernel_rfl) (by kernel_rfl) (by kernel_rfl) (fun _ _ _ _ h => h) rfl hC ⟨.int .i64 (g : Int), fun w hw => ex_load1 rfl Tryd.underlying3 rfl rfl (by rw [Nat.mul_one]; exact HX.out hw), fun a1 ha => ?_⟩
          simp only [Act.put, List.setIfInBounds_toArray, List.set_cons_succ, List.set_cons_zero] at ha; subst ha
          refine wt_take 8 rfl (by kernel_rfl) (by kernel_rfl) (by kernel_rfl) (fun _ _ _ _ h => h) rfl hC ⟨_, fun w hw => ex_index1 rfl Tryd.underlying24 size3 rfl rfl g rfl hgm rfl, fun a1 ha => ?_⟩
          simp only [Act.put, List.setIfInBounds_toArray, List.set_cons_succ, List.set_cons_zero] at ha; subst ha
          refine wt_one 9 (by kernel_rfl) ?_
          refine wt_store1R hs rfl rfl rfl size3 rfl rfl rfl 2 rfl hgm (rowI (stF (fun _ => false) G1 (k + 1))) HST.out (by simp only [Act.put, List.setIfInBounds_toArray, List.set_cons_succ, List.set_cons_zero]; rfl) ?_
          clear hs; intro w1 hs
          refine wt_and (hs.sub (by repeat (first | exact List.Sublist.refl _ | refine List.Sublist.cons_cons _ ?_ | refine List.Sublist.cons _ ?_))) fun hC => ?_
          refine wt_done (by kernel_rfl) ?_
          skip
          go_wp2
          go_roundw
          case rel => exact ⟨k + 1, by omega, by go_num, hs⟩
          case measure => simp [intOf]; omega
        · obtain rfl : N1 = k := by omega
          go_wp2_with fail
          clear hlt
          go_loopw [12] (fun iv wr => ∃ t : Nat, t ≤ j ∧ iv = .int .i64 t ∧ Tr w [] wr [Res.blk p #[.int .i64 n, .int .i64 m, .slice (some ⟨b, 0, none⟩) n n, .slice (some ⟨i, 0, none⟩) (m + 1) (m + 1)] 73, Res.blk b (rowOf n (rowB (stB G2 t))) 3, Res.blk i (rowOf (m + 1) (rowI (stF (fun _ => false) G1 N1))) 3, Res.blk xb #[.int .i64 n, .int .i64 m] 23]) (fun iv _ => j - (intOf iv).toNat)
          case atStart => exact ⟨0, Nat.zero_le _, rfl, hs⟩
          case round =>
            clear hs
            obtain ⟨k, hk2, rfl, hs⟩ := hrel
            have hlt : k < N2 := by omega
            have hltI : (k : Int) < N2 := by omega
            obtain rfl := I2.out.ao (by omega)
            by_cases hlj : k < j
            · skip
              obtain ⟨o1, o2, o3⟩ := HO2.out k hlj
              obtain ⟨g, hg⟩ : ∃ g : Nat, G2 k = (g : Int) := ⟨(G2 k).toNat, by omega⟩
              have HX : Hid (∀ {w1 : World} {L : List Res}, Tr w [] w1 L → w1.cell? ⟨db2, do2 + k, none⟩ = some (.int .i64 (g : Int))) := Lib.hid fun h => by have := I2.out.rd.keep h k hlt; rw [this]; show some (Value.int .i64 (G2 k)) = _; rw [hg]
              rw [hg] at o1 o2 o3
              rw [Int.toNat_natCast] at o3
              have HK := Lib.hid (fun w => rdata_any n m (g : Int) w)
              rw [inD_in (show m < g by omega) (show g < n by omega)] at HK
              have hgm : g < n := by omega
              have HV := Lib.hid (rowBs_at hgm o3)
              have HST := Lib.hid (rowBs_step (n := n) hg)
              clear o1 o2 o3 hg
              go_upto_region 15 with fail
              refine wt_enter 7 rfl hs (by kernel_rfl) ?_
              clear hs; intro w1 hs; have hC := hs
              refine wt_take 0 rfl (by kernel_rfl) (by kernel_rfl) (by kernel_rfl) (fun _ _ _ _ h => h) rfl hC ⟨_, fun w hw => ex_load2 rfl Tryd.underlying23 rfl size23 rfl (by rw [cell_of_row w _ _ _ _ (0, 0) (hw.getB 3 rfl)]; rfl) (by rw [cell_of_row w _ _ _ _ (0, 0) (hw.getB 3 rfl)]; rfl), fun a1 ha => ?_⟩
              simp only [Act.put, List.setIfInBounds_toArray, List.set_cons_succ, List.set_cons_zero] at ha; subst ha
              refine wt_take 1 rfl (by kernel_rfl) (by kernel_rfl) (by kernel_rfl) (fun _ _ _ _ h => h) rfl hC ⟨_, fun w hw => by (go_simp; try with_reducible rfl), fun a1 ha => ?_⟩
              simp only [Act.put, List.setIfInBounds_toArray, List.set_cons_succ, List.set_cons_zero] at ha; subst ha
              refine wt_take 2 rfl (by kernel_rfl) (by kernel_rfl) (by kernel_rfl) (fun _ _ _ _ h => h) rfl hC ⟨_, fun w hw => by (go_simp; try with_reducible rfl), fun a1 ha => ?_⟩
              simp only [Act.put, List.setIfInBounds_toArray, List.set_cons_succ, List.set_cons_zero] at ha; subst ha
              refine wt_take 3 rfl (by kernel_rfl) (by kernel_rfl) (by kernel_rfl) (fun _ _ _ _ h => h) rfl hC ⟨_, fun w hw => ex_indexS rfl Tryd.underlying24 size3 rfl rfl k rfl hlt rfl, fun a1 ha => ?_⟩
              simp only [Act.put, List.setIfInBounds_toArray, List.set_cons_succ, List.set_cons_zero] at ha; subst ha
              refine wt_take 4 rfl (by kernel_rfl) (by kernel_rfl) (by kernel_rfl) (fun _ _ _ _ h => h) rfl hC ⟨.int .i64 (g : Int), fun w hw => ex_load1 rfl Tryd.underlying3 rfl rfl (by rw [Nat.mul_one]; exact HX.out hw), fun a1 ha => ?_⟩
              simp only [Act.put, List.setIfInBounds_toArray, List.set_cons_succ, List.set_cons_zero] at ha; subst ha
              refine wt_one 5 (by kernel_rfl) ?_
              refine wt_call0 hs rfl rfl (by go_simp) (HK.out _) (by simp only [Act.put, List.setIfInBounds_toArray, List.set_cons_succ, List.set_cons_zero]; rfl) ?_
              clear hs; intro w1 hs
              refine wt_and (hs.sub (by repeat (first | exact List.Sublist.refl _ | refine List.Sublist.cons_cons _ ?_ | refine List.Sublist.cons _ ?_))) fun hC => ?_
              refine wt_take 6 rfl (by kernel_rfl) (by kernel_rfl) (by kernel_rfl) (fun _ _ _ _ h => h) rfl hC ⟨_, fun w hw => by (go_simp; try with_reducible rfl), fun a1 ha => ?_⟩
              simp only [Act.put, List.setIfInBounds_toArray, List.set_cons_succ, List.set_cons_zero] at ha; subst ha
              refine wt_done (by kernel_rfl) ?_
              skip
              clear hC
              go_upto_region 16 with fail
              refine wt_enter 15 rfl hs (by kernel_rfl) ?_
              clear hs; intro w1 hs; have hC := hs
              refine wt_take 0 rfl (by kernel_rfl) (by kernel_rfl) (by kernel_rfl) (fun _ _ _ _ h => h) rfl hC ⟨_, fun w hw => by (go_simp; try with_reducible rfl), fun a1 ha => ?_⟩
              simp only [Act.put, List.setIfInBounds_toArray, List.set_cons_succ, List.set_cons_zero] at ha; subst ha
              refine wt_take 1 rfl (by kernel_rfl) (by kernel_rfl) (by kernel_rfl) (fun _ _ _ _ h => h) rfl hC ⟨_, fun w hw => by (go_simp; try with_reducible rfl), fun a1 ha => ?_⟩
              simp only [Act.put, List.setIfInBounds_toArray, List.set_cons_succ, List.set_cons_zero] at ha; subst ha
              refine wt_take 2 rfl (by kernel_rfl) (by kernel_rfl) (by kernel_rfl) (fun _ _ _ _ h => h) rfl hC ⟨_, fun w hw => by (go_simp; try with_reducible rfl), fun a1 ha => ?_⟩
              simp only [Act.put, List.setIfInBounds_toArray, List.set_cons_succ, List.set_cons_zero] at ha; subst ha
              refine wt_take 3 rfl (by kernel_rfl) (by kernel_rfl) (by kernel_rfl) (fun _ _ _ _ h => h) rfl hC ⟨_, fun w hw => by (go_simp; try with_reducible rfl), fun a1 ha => ?_⟩
              simp only [Act.put, List.setIfInBounds_toArray, List.set_cons_succ, List.set_cons_zero] at ha; subst ha
              refine wt_take 4 rfl (by kernel_rfl) (by kernel_rfl) (by kernel_rfl) (fun _ _ _ _ h => h) rfl hC ⟨_, fun w hw => by (go_simp; try with_reducible rfl), fun a1 ha => ?_⟩
              simp only [Act.put, List.setIfInBounds_toArray, List.set_cons_succ, List.set_cons_zero] at ha; subst ha
              refine wt_take 5 rfl (by kernel_rfl) (by kernel_rfl) (by kernel_rfl) (fun _ _ _ _ h => h) rfl hC ⟨_, fun w hw => by (go_simp; try with_reducible rfl), fun a1 ha => ?_⟩
              simp only [Act.put, List.setIfInBounds_toArray, List.set_cons_succ, List.set_cons_zero] at ha; subst ha
              refine wt_take 6 rfl (by kernel_rfl) (by kernel_rfl) (by kernel_rfl) (fun _ _ _ _ h => h) rfl hC ⟨_, fun w hw => ex_load1 rfl Tryd.underlying24 rfl rfl (by rw [cell_of_row w _ _ _ _ (0, 0) (hw.getB 0 rfl)]; rfl), fun a1 ha => ?_⟩
              simp only [Act.put, List.setIfInBounds_toArray, List.set_cons_succ, List.set_cons_zero] at ha; subst ha
              refine wt_take 7 rfl (by kernel_rfl) (by kernel_rfl) (by kernel_rfl) (fun _ _ _ _ h => h) rfl hC ⟨_, fun w hw => by (go_simp; try with_reducible rfl), fun a1 ha => ?_⟩
              simp only [Act.put, List.setIfInBounds_toArray, List.set_cons_succ, List.set_cons_zero] at ha; subst ha
              refine wt_take 8 rfl (by kernel_rfl) (by kernel_rfl) (by kernel_rfl) (fun _ _ _ _ h => h) rfl hC ⟨_, fun w hw => by (go_simp; try with_reducible rfl), fun a1 ha => ?_⟩
              simp only [Act.put, List.setIfInBounds_toArray, List.set_cons_succ, List.set_cons_zero] at ha; subst ha
              refine wt_take 9 rfl (by kernel_rfl) (by kernel_rfl) (by kernel_rfl) (fun _ _ _ _ h => h) rfl hC ⟨_, fun w hw => ex_indexS rfl Tryd.underlying24 size3 rfl rfl k rfl hlt rfl, fun a1 ha => ?_⟩
              simp only [Act.put, List.setIfInBounds_toArray, List.set_cons_succ, List.set_cons_zero] at ha; subst ha
              refine wt_take 10 rfl (by kernel_rfl) (by kernel_rfl) (by kernel_rfl) (fun _ _ _ _ h => h) rfl hC ⟨.int .i64 (g : Int), fun w hw => ex_load1 rfl Tryd.underlying3 rfl rfl (by rw [Nat.mul_one]; exact HX.out hw), fun a1 ha => ?_⟩
              simp only [Act.put, List.setIfInBounds_toArray, List.set_cons_succ, List.set_cons_zero] at ha; subst ha
              refine wt_take 11 rfl (by kernel_rfl) (by kernel_rfl) (by kernel_rfl) (fun _ _ _ _ h => h) rfl hC ⟨_, fun w hw => ex_index1 rfl Tryd.underlying24 size3 rfl rfl g rfl hgm rfl, fun a1 ha => ?_⟩
              simp only [Act.put, List.setIfInBounds_toArray, List.set_cons_succ, List.set_cons_zero] at ha; subst ha
              refine wt_take 12 rfl (by kernel_rfl) (by kernel_rfl) (by kernel_rfl) (fun _ _ _ _ h => h) rfl hC ⟨.int .i64 0, fun w hw => ex_load1 rfl Tryd.underlying3 rfl rfl (by rw [cell_of_row w _ _ _ _ (0, 0) (hw.getB 1 rfl)]; exact HV.out), fun a1 ha => ?_⟩
              simp only [Act.put, List.setIfInBounds_toArray, List.set_cons_succ, List.set_cons_zero] at ha; subst ha
              refine wt_take 13 rfl (by kernel_rfl) (by kernel_rfl) (by kernel_rfl) (fun _ _ _ _ h => h) rfl hC ⟨_, fun w hw => by (go_simp; try with_reducible rfl), fun a1 ha => ?_⟩
              simp only [Act.put, List.setIfInBounds_toArray, List.set_cons_succ, List.set_cons_zero] at ha; subst ha
              refine wt_take 14 rfl (by kernel_rfl) (by kernel_rfl) (by kernel_rfl) (fun _ _ _ _ h => h) rfl hC ⟨_, fun w hw => by (go_simp; try with_reducible rfl), fun a1 ha => ?_⟩
              simp only [Act.put, List.setIfInBounds_toArray, List.set_cons_succ, List.set_cons_zero] at ha; subst ha
              refine wt_done (by kernel_rfl) ?_
              skip
              clear hC
              go_upto_region 18 with fail
              refine wt_enterS (List.Sublist.cons_cons _ (List.Sublist.cons _ (List.Sublist.refl _))) 10 rfl hs (by kernel_rfl) ?_
              clear hs; intro w1 hC hs
              refine wt_take 0 rfl (by kernel_rfl) (by kernel_rfl) (by kernel_rfl) (fun _ _ _ _ h => h) rfl hC ⟨_, fun w hw => by (go_simp; try with_reducible rfl), fun a1 ha => ?_⟩
              simp only [Act.put, List.setIfInBounds_toArray, List.set_cons_succ, List.set_cons_zero] at ha; subst ha
              refine wt_take 1 rfl (by kernel_rfl) (by kernel_rfl) (by kernel_rfl) (fun _ _ _ _ h => h) rfl hC ⟨_, fun w hw => by (go_simp; try with_reducible rfl), fun a1 ha => ?_⟩
              simp only [Act.put, List.setIfInBounds_toArray, List.set_cons_succ, List.set_cons_zero] at ha; subst ha
              refine wt_take 2 rfl (by kernel_rfl) (by kernel_rfl) (by kernel_rfl) (fun _ _ _ _ h => h) rfl hC ⟨_, fun w hw => by (go_simp; try with_reducible rfl), fun a1 ha => ?_⟩
              simp only [Act.put, List.setIfInBounds_toArray, List.set_cons_succ, List.set_cons_zero] at ha; subst ha
              refine wt_take 3 rfl (by kernel_rfl) (by kernel_rfl) (by kernel_rfl) (fun _ _ _ _ h => h) rfl hC ⟨_, fun w hw => ex_load1 rfl Tryd.underlying24 rfl rfl (by rw [cell_of_row w _ _ _ _ (0, 0) (hw.getB 0 rfl)]; rfl), fun a1 ha => ?_⟩
              simp only [Act.put, List.setIfInBounds_toArray, List.set_cons_succ, List.set_cons_zero] at ha; subst ha
              refine wt_take 4 rfl (by kernel_rfl) (by kernel_rfl) (by kernel_rfl) (fun _ _ _ _ h => h) rfl hC ⟨_, fun w hw => by (go_simp; try with_reducible rfl), fun a1 ha => ?_⟩
              simp only [Act.put, List.setIfInBounds_toArray, List.set_cons_succ, List.set_cons_zero] at ha; subst ha
              refine wt_take 5 rfl (by kernel_rfl) (by kernel_rfl) (by kernel_rfl) (fun _ _ _ _ h => h) rfl hC ⟨_, fun w hw => by (go_simp; try with_reducible rfl), fun a1 ha => ?_⟩
              simp only [Act.put, List.setIfInBounds_toArray, List.set_cons_succ, List.set_cons_zero] at ha; subst ha
              refine wt_take 6 rfl (by kernel_rfl) (by kernel_rfl) (by kernel_rfl) (fun _ _ _ _ h => h) rfl hC ⟨_, fun w hw => ex_indexS rfl Tryd.underlying24 size3 rfl rfl k rfl hlt rfl, fun a1 ha => ?_⟩
              simp only [Act.put, List.setIfInBounds_toArray, List.set_cons_succ, List.set_cons_zero] at ha; subst ha
              refine wt_take 7 rfl (by kernel_rfl) (by kernel_rfl) (by kernel_rfl) (fun _ _ _ _ h => h) rfl hC ⟨.int .i64 (g : Int), fun w hw => ex_load1 rfl Tryd.underlying3 rfl rfl (by rw [Nat.mul_one]; exact HX.out hw), fun a1 ha => ?_⟩
              simp only [Act.put, List.setIfInBounds_toArray, List.set_cons_succ, List.set_cons_zero] at ha; subst ha
              refine wt_take 8 rfl (by kernel_rfl) (by kernel_rfl) (by kernel_rfl) (fun _ _ _ _ h => h) rfl hC ⟨_, fun w hw => ex_index1 rfl Tryd.underlying24 size3 rfl rfl g rfl hgm rfl, fun a1 ha => ?_⟩
              simp only [Act.put, List.setIfInBounds_toArray, List.set_cons_succ, List.set_cons_zero] at ha; subst ha
              refine wt_one 9 (by kernel_rfl) ?_
              refine wt_store1R hs rfl rfl rfl size3 rfl rfl rfl 1 rfl hgm (rowB (stB G2 (k + 1))) HST.out (by simp only [Act.put, List.setIfInBounds_toArray, List.set_cons_succ, List.set_cons_zero]; rfl) ?_
              clear hs; intro w1 hs
              refine wt_and (hs.sub (by repeat (first | exact List.Sublist.refl _ | refine List.Sublist.cons_cons _ ?_ | refine List.Sublist.cons _ ?_))) fun hC => ?_
              refine wt_done (by kernel_rfl) ?_
              skip
              go_wp2
              go_roundw
              case rel => exact ⟨k + 1, by omega, by go_num, hs⟩
              case measure => simp [intOf]; omega
            · obtain rfl : k = j := by omega
              clear hlj
              by_cases hin : (m : Int) < G2 k ∧ G2 k < n
              · obtain ⟨g, hg⟩ : ∃ g : Nat, G2 k = (g : Int) := ⟨(G2 k).toNat, by omega⟩
                have HX : Hid (∀ {w1 : World} {L : List Res}, Tr w [] w1 L → w1.cell? ⟨db2, do2 + k, none⟩ = some (.int .i64 (g : Int))) := Lib.hid fun h => by have := I2.out.rd.keep h k hlt; rw [this]; show some (Value.int .i64 (G2 k)) = _; rw [hg]
                rw [hg] at hin
                have hgm : g < n := by omega
                have hst : stF (fun _ => false) G2 k g = true := by
                  have hb := HBAD.out
                  simp only [okF] at hb
                  rw [hg, Int.toNat_natCast] at hb
                  cases hf : stF (fun _ => false) G2 k g
                  · exact absurd ⟨by omega, by omega, hf⟩ hb
                  · rfl
                have HK := Lib.hid (fun w => rdata_any n m (g : Int) w)
                rw [inD_in (show m < g by omega) (show g < n by omega)] at HK
                have HV := Lib.hid (rowBs_hit hgm hst)
                clear hin hg hst HBAD
                go_upto_region 15 with fail
                refine wt_enter 7 rfl hs (by kernel_rfl) ?_
                clear hs; intro w1 hs; have hC := hs
                refine wt_take 0 rfl (by kernel_rfl) (by kernel_rfl) (by kernel_rfl) (fun _ _ _ _ h => h) rfl hC ⟨_, fun w hw => ex_load2 rfl Tryd.underlying23 rfl size23 rfl (by rw [cell_of_row w _ _ _ _ (0, 0) (hw.getB 3 rfl)]; rfl) (by rw [cell_of_row w _ _ _ _ (0, 0) (hw.getB 3 rfl)]; rfl), fun a1 ha => ?_⟩
                simp only [Act.put, List.setIfInBounds_toArray, List.set_cons_succ, List.set_cons_zero] at ha; subst ha
                refine wt_take 1 rfl (by kernel_rfl) (by kernel_rfl) (by kernel_rfl) (fun _ _ _ _ h => h) rfl hC ⟨_, fun w hw => by (go_simp; try with_reducible rfl), fun a1 ha => ?_⟩
                simp only [Act.put, List.setIfInBounds_toArray, List.set_cons_succ, List.set_cons_zero] at ha; subst ha
                refine wt_take 2 rfl (by kernel_rfl) (by kernel_rfl) (by kernel_rfl) (fun _ _ _ _ h => h) rfl hC ⟨_, fun w hw => by (go_simp; try with_reducible rfl), fun a1 ha => ?_⟩
                simp only [Act.put, List.setIfInBounds_toArray, List.set_cons_succ, List.set_cons_zero] at ha; subst ha
                refine wt_take 3 rfl (by kernel_rfl) (by kernel_rfl) (by kernel_rfl) (fun _ _ _ _ h => h) rfl hC ⟨_, fun w hw => ex_indexS rfl Tryd.underlying24 size3 rfl rfl k rfl hlt rfl, fun a1 ha => ?_⟩
                simp only [Act.put, List.setIfInBounds_toArray, List.set_cons_succ, List.set_cons_zero] at ha; subst ha
                refine wt_take 4 rfl (by kernel_rfl) (by kernel_rfl) (by kernel_rfl) (fun _ _ _ _ h => h) rfl hC ⟨.int .i64 (g : Int), fun w hw => ex_load1 rfl Tryd.underlying3 rfl rfl (by rw [Nat.mul_one]; exact HX.out hw), fun a1 ha => ?_⟩
                simp only [Act.put, List.setIfInBounds_toArray, List.set_cons_succ, List.set_cons_zero] at ha; subst ha
                refine wt_one 5 (by kernel_rfl) ?_
                refine wt_call0 hs rfl rfl (by go_simp) (HK.out _) (by simp only [Act.put, List.setIfInBounds_toArray, List.set_cons_succ, List.set_cons_zero]; rfl) ?_
                clear hs; intro w1 hs
                refine wt_and (hs.sub (by repeat (first | exact List.Sublist.refl _ | refine List.Sublist.cons_cons _ ?_ | refine List.Sublist.cons _ ?_))) fun hC => ?_
                refine wt_take 6 rfl (by kernel_rfl) (by kernel_rfl) (by kernel_rfl) (fun _ _ _ _ h => h) rfl hC ⟨_, fun w hw => by (go_simp; try with_reducible rfl), fun a1 ha => ?_⟩
                simp only [Act.put, List.setIfInBounds_toArray, List.set_cons_succ, List.set_cons_zero] at ha; subst ha
                refine wt_done (by kernel_rfl) ?_
                skip
                clear hC
                go_upto_region 16 with fail
                refine wt_enter 15 rfl hs (by kernel_rfl) ?_
                clear hs; intro w1 hs; have hC := hs
                refine wt_take 0 rfl (by kernel_rfl) (by kernel_rfl) (by kernel_rfl) (fun _ _ _ _ h => h) rfl hC ⟨_, fun w hw => by (go_simp; try with_reducible rfl), fun a1 ha => ?_⟩
                simp only [Act.put, List.setIfInBounds_toArray, List.set_cons_succ, List.set_cons_zero] at ha; subst ha
                refine wt_take 1 rfl (by kernel_rfl) (by kernel_rfl) (by kernel_rfl) (fun _ _ _ _ h => h) rfl hC ⟨_, fun w hw => by (go_simp; try with_reducible rfl), fun a1 ha => ?_⟩
                simp only [Act.put, List.setIfInBounds_toArray, List.set_cons_succ, List.set_cons_zero] at ha; subst ha
                refine wt_take 2 rfl (by kernel_rfl) (by kernel_rfl) (by kernel_rfl) (fun _ _ _ _ h => h) rfl hC ⟨_, fun w hw => by (go_simp; try with_reducible rfl), fun a1 ha => ?_⟩
                simp only [Act.put, List.setIfInBounds_toArray, List.set_cons_succ, List.set_cons_zero] at ha; subst ha
                refine wt_take 3 rfl (by kernel_rfl) (by kernel_rfl) (by kernel_rfl) (fun _ _ _ _ h => h) rfl hC ⟨_, fun w hw => by (go_simp; try with_reducible rfl), fun a1 ha => ?_⟩
                simp only [Act.put, List.setIfInBounds_toArray, List.set_cons_succ, List.set_cons_zero] at ha; subst ha
                refine wt_take 4 rfl (by kernel_rfl) (by kernel_rfl) (by kernel_rfl) (fun _ _ _ _ h => h) rfl hC ⟨_, fun w hw => by (go_simp; try with_reducible rfl), fun a1 ha => ?_⟩
                simp only [Act.put, List.setIfInBounds_toArray, List.set_cons_succ, List.set_cons_zero] at ha; subst ha
                refine wt_take 5 rfl (by kernel_rfl) (by kernel_rfl) (by kernel_rfl) (fun _ _ _ _ h => h) rfl hC ⟨_, fun w hw => by (go_simp; try with_reducible rfl), fun a1 ha => ?_⟩
                simp only [Act.put, List.setIfInBounds_toArray, List.set_cons_succ, List.set_cons_zero] at ha; subst ha
                refine wt_take 6 rfl (by kernel_rfl) (by kernel_rfl) (by kernel_rfl) (fun _ _ _ _ h => h) rfl hC ⟨_, fun w hw => ex_load1 rfl Tryd.underlying24 rfl rfl (by rw [cell_of_row w _ _ _ _ (0, 0) (hw.getB 0 rfl)]; rfl), fun a1 ha => ?_⟩
                simp only [Act.put, List.setIfInBounds_toArray, List.set_cons_succ, List.set_cons_zero] at ha; subst ha
                refine wt_take 7 rfl (by kernel_rfl) (by kernel_rfl) (by kernel_rfl) (fun _ _ _ _ h => h) rfl hC ⟨_, fun w hw => by (go_simp; try with_reducible rfl), fun a1 ha => ?_⟩
                simp only [Act.put, List.setIfInBounds_toArray, List.set_cons_succ, List.set_cons_zero] at ha; subst ha
                refine wt_take 8 rfl (by kernel_rfl) (by kernel_rfl) (by kernel_rfl) (fun _ _ _ _ h => h) rfl hC ⟨_, fun w hw => by (go_simp; try with_reducible rfl), fun a1 ha => ?_⟩
                simp only [Act.put, List.setIfInBounds_toArray, List.set_cons_succ, List.set_cons_zero] at ha; subst ha
                refine wt_take 9 rfl (by kernel_rfl) (by kernel_rfl) (by kernel_rfl) (fun _ _ _ _ h => h) rfl hC ⟨_, fun w hw => ex_indexS rfl Tryd.underlying24 size3 rfl rfl k rfl hlt rfl, fun a1 ha => ?_⟩
                simp only [Act.put, List.setIfInBounds_toArray, List.set_cons_succ, List.set_cons_zero] at ha; subst ha
                refine wt_take 10 rfl (by kernel_rfl) (by kernel_rfl) (by kernel_rfl) (fun _ _ _ _ h => h) rfl hC ⟨.int .i64 (g : Int), fun w hw => ex_load1 rfl Tryd.underlying3 rfl rfl (by rw [Nat.mul_one]; exact HX.out hw), fun a1 ha => ?_⟩
                simp only [Act.put, List.setIfInBounds_toArray, List.set_cons_succ, List.set_cons_zero] at ha; subst ha
                refine wt_take 11 rfl (by kernel_rfl) (by kernel_rfl) (by kernel_rfl) (fun _ _ _ _ h => h) rfl hC ⟨_, fun w hw => ex_index1 rfl Tryd.underlying24 size3 rfl rfl g rfl hgm rfl, fun a1 ha => ?_⟩
                simp only [Act.put, List.setIfInBounds_toArray, List.set_cons_succ, List.set_cons_zero] at ha; subst ha
                refine wt_take 12 rfl (by kernel_rfl) (by kernel_rfl) (by kernel_rfl) (fun _ _ _ _ h => h) rfl hC ⟨.int .i64 1, fun w hw => ex_load1 rfl Tryd.underlying3 rfl rfl (by rw [cell_of_row w _ _ _ _ (0, 0) (hw.getB 1 rfl)]; exact HV.out), fun a1 ha => ?_⟩
                simp only [Act.put, List.setIfInBounds_toArray, List.set_cons_succ, List.set_cons_zero] at ha; subst ha
                refine wt_take 13 rfl (by kernel_rfl) (by kernel_rfl) (by kernel_rfl) (fun _ _ _ _ h => h) rfl hC ⟨_, fun w hw => by (go_simp; try with_reducible rfl), fun a1 ha => ?_⟩
                simp only [Act.put, List.setIfInBounds_toArray, List.set_cons_succ, List.set_cons_zero] at ha; subst ha
                refine wt_take 14 rfl (by kernel_rfl) (by kernel_rfl) (by kernel_rfl) (fun _ _ _ _ h => h) rfl hC ⟨_, fun w hw => by (go_simp; try with_reducible rfl), fun a1 ha => ?_⟩
                simp only [Act.put, List.setIfInBounds_toArray, List.set_cons_succ, List.set_cons_zero] at ha; subst ha
                refine wt_done (by kernel_rfl) ?_
                skip
                clear hC
                go_wp2
                go_ret2
                exact ⟨rfl, hs.letgo⟩
              · obtain ⟨x, hg⟩ : ∃ x : Int, G2 k = x := ⟨_, rfl⟩
                have HX : Hid (∀ {w1 : World} {L : List Res}, Tr w [] w1 L → w1.cell? ⟨db2, do2 + k, none⟩ = some (.int .i64 x)) := Lib.hid fun h => by have := I2.out.rd.keep h k hlt; rw [this]; show some (Value.int .i64 (G2 k)) = _; rw [hg]
                rw [hg] at hin
                have HK := Lib.hid (fun w => rdata_any n m x w)
                rw [inD_out (n := n) (m := m) (b := x) (by omega)] at HK
                clear hin hg HBAD
                go_upto_region 15 with fail
                refine wt_enter 7 rfl hs (by kernel_rfl) ?_
                clear hs; intro w1 hs; have hC := hs
                refine wt_take 0 rfl (by kernel_rfl) (by kernel_rfl) (by kernel_rfl) (fun _ _ _ _ h => h) rfl hC ⟨_, fun w hw => ex_load2 rfl Tryd.underlying23 rfl size23 rfl (by rw [cell_of_row w _ _ _ _ (0, 0) (hw.getB 3 rfl)]; rfl) (by rw [cell_of_row w _ _ _ _ (0, 0) (hw.getB 3 rfl)]; rfl), fun a1 ha => ?_⟩
                simp only [Act.put, List.setIfInBounds_toArray, List.set_cons_succ, List.set_cons_zero] at ha; subst ha
                refine wt_take 1 rfl (by kernel_rfl) (by kernel_rfl) (by kernel_rfl) (fun _ _ _ _ h => h) rfl hC ⟨_, fun w hw => by (go_simp; try with_reducible rfl), fun a1 ha => ?_⟩
                simp only [Act.put, List.setIfInBounds_toArray, List.set_cons_succ, List.set_cons_zero] at ha; subst ha
                refine wt_take 2 rfl (by kernel_rfl) (by kernel_rfl) (by kernel_rfl) (fun _ _ _ _ h => h) rfl hC ⟨_, fun w hw => by (go_simp; try with_reducible rfl), fun a1 ha => ?_⟩
                simp only [Act.put, List.setIfInBounds_toArray, List.set_cons_succ, List.set_cons_zero] at ha; subst ha
                refine wt_take 3 rfl (by kernel_rfl) (by kernel_rfl) (by kernel_rfl) (fun _ _ _ _ h => h) rfl hC ⟨_, fun w hw => ex_indexS rfl Tryd.underlying24 size3 rfl rfl k rfl hlt rfl, fun a1 ha => ?_⟩
                simp only [Act.put, List.setIfInBounds_toArray, List.set_cons_succ, List.set_cons_zero] at ha; subst ha
                refine wt_take 4 rfl (by kernel_rfl) (by kernel_rfl) (by kernel_rfl) (fun _ _ _ _ h => h) rfl hC ⟨.int .i64 x, fun w hw => ex_load1 rfl Tryd.underlying3 rfl rfl (by rw [Nat.mul_one]; exact HX.out hw), fun a1 ha => ?_⟩
                simp only [Act.put, List.setIfInBounds_toArray, List.set_cons_succ, List.set_cons_zero] at ha; subst ha
                refine wt_one 5 (by kernel_rfl) ?_
                refine wt_call0 hs rfl rfl (by go_simp) (HK.out _) (by simp only [Act.put, List.setIfInBounds_toArray, List.set_cons_succ, List.set_cons_zero]; rfl) ?_
                clear hs; intro w1 hs
                refine wt_and (hs.sub (by repeat (first | exact List.Sublist.refl _ | refine List.Sublist.cons_cons _ ?_ | refine List.Sublist.cons _ ?_))) fun hC => ?_
                refine wt_take 6 rfl (by kernel_rfl) (by kernel_rfl) (by kernel_rfl) (fun _ _ _ _ h => h) rfl hC ⟨_, fun w hw => by (go_simp; try with_reducible rfl), fun a1 ha => ?_⟩
                simp only [Act.put, List.setIfInBounds_toArray, List.set_cons_succ, List.set_cons_zero] at ha; subst ha
                refine wt_done (by kernel_rfl) ?_
                skip
                clear hC
                go_upto_region 16 with fail
                refine wt_enter 15 rfl hs (by kernel_rfl) ?_
                clear hs; intro w1 hs; have hC := hs
                refine wt_take 0 rfl (by kernel_rfl) (by kernel_rfl) (by kernel_rfl) (fun _ _ _ _ h => h) rfl hC ⟨_, fun w hw => by (go_simp; try with_reducible rfl), fun a1 ha => ?_⟩
                simp only [Act.put, List.setIfInBounds_toArray, List.set_cons_succ, List.set_cons_zero] at ha; subst ha
                refine wt_take 1 rfl (by kernel_rfl) (by kernel_rfl) (by kernel_rfl) (fun _ _ _ _ h => h) rfl hC ⟨_, fun w hw => by (go_simp; try with_reducible rfl), fun a1 ha => ?_⟩
                simp only [Act.put, List.setIfInBounds_toArray, List.set_cons_succ, List.set_cons_zero] at ha; subst ha
                refine wt_take 2 rfl (by kernel_rfl) (by kernel_rfl) (by kernel_rfl) (fun _ _ _ _ h => h) rfl hC ⟨_, fun w hw => by (go_simp; try with_reducible rfl), fun a1 ha => ?_⟩
                simp only [Act.put, List.setIfInBounds_toArray, List.set_cons_succ, List.set_cons_zero] at ha; subst ha
                refine wt_pass 3 rfl (by kernel_rfl) (by kernel_rfl) (by kernel_rfl) (fun _ _ _ h => h) rfl hC (by simp only [Act.put, List.setIfInBounds_toArray, List.set_cons_succ, List.set_cons_zero]; rfl) ?_
                refine wt_pass 4 rfl (by kernel_rfl) (by kernel_rfl) (by kernel_rfl) (fun _ _ _ h => h) rfl hC (by simp only [Act.put, List.setIfInBounds_toArray, List.set_cons_succ, List.set_cons_zero]; rfl) ?_
                refine wt_pass 5 rfl (by kernel_rfl) (by kernel_rfl) (by kernel_rfl) (fun _ _ _ h => h) rfl hC (by simp only [Act.put, List.setIfInBounds_toArray, List.set_cons_succ, List.set_cons_zero]; rfl) ?_
                refine wt_pass 6 rfl (by kernel_rfl) (by kernel_rfl) (by kernel_rfl) (fun _ _ _ h => h) rfl hC (by simp only [Act.put, List.setIfInBounds_toArray, List.set_cons_succ, List.set_cons_zero]; rfl) ?_
                refine wt_pass 7 rfl (by kernel_rfl) (by kernel_rfl) (by kernel_rfl) (fun _ _ _ h => h) rfl hC (by simp only [Act.put, List.setIfInBounds_toArray, List.set_cons_succ, List.set_cons_zero]; rfl) ?_
                refine wt_pass 8 rfl (by kernel_rfl) (by kernel_rfl) (by kernel_rfl) (fun _ _ _ h => h) rfl hC (by simp only [Act.put, List.setIfInBounds_toArray, List.set_cons_succ, List.set_cons_zero]; rfl) ?_
                refine wt_pass 9 rfl (by kernel_rfl) (by kernel_rfl) (by kernel_rfl) (fun _ _ _ h => h) rfl hC (by simp only [Act.put, List.setIfInBounds_toArray, List.set_cons_succ, List.set_cons_zero]; rfl) ?_
                refine wt_pass 10 rfl (by kernel_rfl) (by kernel_rfl) (by kernel_rfl) (fun _ _ _ h => h) rfl hC (by simp only [Act.put, List.setIfInBounds_toArray, List.set_cons_succ, List.set_cons_zero]; rfl) ?_
                refine wt_pass 11 rfl (by kernel_rfl) (by kernel_rfl) (by kernel_rfl) (fun _ _ _ h => h) rfl hC (by simp only [Act.put, List.setIfInBounds_toArray, List.set_cons_succ, List.set_cons_zero]; rfl) ?_
                refine wt_pass 12 rfl (by kernel_rfl) (by kernel_rfl) (by kernel_rfl) (fun _ _ _ h => h) rfl hC (by simp only [Act.put, List.setIfInBounds_toArray, List.set_cons_succ, List.set_cons_zero]; rfl) ?_
                refine wt_pass 13 rfl (by kernel_rfl) (by kernel_rfl) (by kernel_rfl) (fun _ _ _ h => h) rfl hC (by simp only [Act.put, List.setIfInBounds_toArray, List.set_cons_succ, List.set_cons_zero]; rfl) ?_
                refine wt_take 14 rfl (by kernel_rfl) (by kernel_rfl) (by kernel_rfl) (fun _ _ _ _ h => h) rfl hC ⟨_, fun w hw => by (go_simp; try with_reducible rfl), fun a1 ha => ?_⟩
                simp only [Act.put, List.setIfInBounds_toArray, List.set_cons_succ, List.set_cons_zero] at ha; subst ha
                refine wt_done (by kernel_rfl) ?_
                skip
                clear hC
                go_wp2
                go_ret2
                exact ⟨rfl, hs.letgo⟩
  refine wt_cons ?_ ?_
  ·
    refine wt_make hs rfl rfl rfl Tryd.underlying24 info3 (m + 1) rfl rfl (by omega) (by omega) (by omega) (rowI fun _ => false) (zmakeRI _) (fun _ => by simp only [Act.put, List.setIfInBounds_toArray, List.set_cons_succ, List.set_cons_zero]; rfl) ?_
    clear hs; intro w1 i hs; rw [Nat.mul_one] at hs
    refine wt_and (hs.sub (by repeat (first | exact List.Sublist.refl _ | refine List.Sublist.cons_cons _ ?_ | refine List.Sublist.cons _ ?_))) fun hC => ?_
    refine wt_one 3 (by kernel_rfl) ?_
    refine wt_make hs rfl rfl rfl Tryd.underlying24 info3 n rfl rfl rfl (by omega) (by omega) (rowB fun _ => 0) (zmakeRB _) (fun _ => by simp only [Act.put, List.setIfInBounds_toArray, List.set_cons_succ, List.set_cons_zero]; rfl) ?_
    clear hs; intro w1 b hs; rw [Nat.mul_one] at hs
    refine wt_and (hs.sub (by repeat (first | exact List.Sublist.refl _ | refine List.Sublist.cons_cons _ ?_ | refine List.Sublist.cons _ ?_))) fun hC => ?_
    refine wt_take 8 rfl (by kernel_rfl) (by kernel_rfl) (by kernel_rfl) (fun _ _ _ _ h => h) rfl hC ⟨.agg #[.int .i64 n, .int .i64 m, .slice (some ⟨b, 0, none⟩) n n, .slice (some ⟨i, 0, none⟩) (m + 1) (m + 1)], fun w hw => by (go_simp; try rfl), fun a1 ha => ?_⟩
    simp only [Act.put, List.setIfInBounds_toArray, List.set_cons_succ, List.set_cons_zero] at ha; subst ha
    refine wt_one 9 (by kernel_rfl) ?_
    refine wt_boxA hs rfl rfl rfl rfl (fun _ => by simp only [Act.put, List.setIfInBounds_toArray, List.set_cons_succ, List.set_cons_zero]; rfl) ?_
    clear hs; intro w1 p hs
    refine wt_and (hs.sub (by repeat (first | exact List.Sublist.refl _ | refine List.Sublist.cons_cons _ ?_ | refine List.Sublist.cons _ ?_))) fun hC => ?_
    refine wt_take 10 rfl (by kernel_rfl) (by kernel_rfl) (by kernel_rfl) (fun _ _ _ _ h => h) rfl hC ⟨_, fun w hw => by (go_simp; try with_reducible rfl), fun a1 ha => ?_⟩
    simp only [Act.put, List.setIfInBounds_toArray, List.set_cons_succ, List.set_cons_zero] at ha; subst ha
    refine wt_done (by kernel_rfl) ?_
    have hs3 : Tr w [] w1 [Res.blk p #[.int .i64 n, .int .i64 m, .slice (some ⟨b, 0, none⟩) n n, .slice (some ⟨i, 0, none⟩) (m + 1) (m + 1)] 73, Res.blk b (rowOf n (rowB (stB G2 0))) 3, Res.blk i (rowOf (m + 1) (rowI (stF (fun _ => false) G1 0))) 3, Res.blk xb #[.int .i64 n, .int .i64 m] 23] := by first | exact hs | exact hs.perm (List.Perm.cons _ (List.Perm.swap _ _ _))
    clear hs hC; have hs := hs3; clear hs3
    as_aux_lemma =>
      go_wp2_with fail
      go_loopw [10] (fun iv wr => ∃ k : Nat, k ≤ N1 ∧ iv = .int .i64 k ∧ Tr w [] wr [Res.blk p #[.int .i64 n, .int .i64 m, .slice (some ⟨b, 0, none⟩) n n, .slice (some ⟨i, 0, none⟩) (m + 1) (m + 1)] 73, Res.blk b (rowOf n (rowB (stB G2 0))) 3, Res.blk i (rowOf (m + 1) (rowI (stF (fun _ => false) G1 k))) 3, Res.blk xb #[.int .i64 n, .int .i64 m] 23]) (fun iv _ => N1 - (intOf iv).toNat)
      case atStart => exact ⟨0, Nat.zero_le _, rfl, hs⟩
      case round =>
        clear hs
        obtain ⟨k, hk, rfl, hs⟩ := hrel
        by_cases hlt : k < N1
        · have hltI : (k : Int) < N1 := by omega
          obtain rfl := I1.out.ao (by omega)
          obtain ⟨o1, o2, o3⟩ := HO1.out k hlt
          obtain ⟨g, hg⟩ : ∃ g : Nat, G1 k = (g : Int) := ⟨(G1 k).toNat, by omega⟩
          have HX : Hid (∀ {w1 : World} {L : List Res}, Tr w [] w1 L → w1.cell? ⟨db1, do1 + k, none⟩ = some (.int .i64 (g : Int))) := Lib.hid fun h => by have := I1.out.rd.keep h k hlt; rw [this]; show some (Value.int .i64 (G1 k)) = _; rw [hg]
          rw [hg] at o1 o2 o3
          rw [Int.toNat_natCast] at o3
          have HK := Lib.hid (fun w => rinode_any n m (g : Int) w)
          rw [show inI m (g : Int) = true from if_pos ⟨by omega, by omega⟩] at HK
          have hgm : g < m + 1 := by omega
          have HV := Lib.hid (rowI_at hgm o3)
          have HST := Lib.hid (rowIs_step (n := m + 1) hg)
          clear o1 o2 o3 hg
          go_upto_region 8 with fail
          refine wt_enter 7 rfl hs (by kernel_rfl) ?_
          clear hs; intro w1 hs; have hC := hs
          refine wt_take 0 rfl (by kernel_rfl) (by kernel_rfl) (by kernel_rfl) (fun _ _ _ _ h => h) rfl hC ⟨_, fun w hw => ex_load2 rfl Tryd.underlying23 rfl size23 rfl (by rw [cell_of_row w _ _ _ _ (0, 0) (hw.getB 3 rfl)]; rfl) (by rw [cell_of_row w _ _ _ _ (0, 0) (hw.getB 3 rfl)]; rfl), fun a1 ha => ?_⟩
          simp only [Act.put, List.setIfInBounds_toArray, List.set_cons_succ, List.set_cons_zero] at ha; subst ha
          refine wt_take 1 rfl (by kernel_rfl) (by kernel_rfl) (by kernel_rfl) (fun _ _ _ _ h => h) rfl hC ⟨_, fun w hw => by (go_simp; try with_reducible rfl), fun a1 ha => ?_⟩
          simp only [Act.put, List.setIfInBounds_toArray, List.set_cons_succ, List.set_cons_zero] at ha; subst ha
          refine wt_take 2 rfl (by kernel_rfl) (by kernel_rfl) (by kernel_rfl) (fun _ _ _ _ h => h) rfl hC ⟨_, fun w hw => by (go_simp; try with_reducible rfl), fun a1 ha => ?_⟩
          simp only [Act.put, List.setIfInBounds_toArray, List.set_cons_succ, List.set_cons_zero] at ha; subst ha
          refine wt_take 3 rfl (by kernel_rfl) (by kernel_rfl) (by kernel_rfl) (fun _ _ _ _ h => h) rfl hC ⟨_, fun w hw => ex_indexS rfl Tryd.underlying24 size3 rfl rfl k rfl hlt rfl, fun a1 ha => ?_⟩
          simp only [Act.put, List.setIfInBounds_toArray, List.set_cons_succ, List.set_cons_zero] at ha; subst ha
          refine wt_take 4 rfl (by kernel_rfl) (by kernel_rfl) (by kernel_rfl) (fun _ _ _ _ h => h) rfl hC ⟨.int .i64 (g : Int), fun w hw => ex_load1 rfl Tryd.underlying3 rfl rfl (by rw [Nat.mul_one]; exact HX.out hw), fun a1 ha => ?_⟩
          simp only [Act.put, List.setIfInBounds_toArray, List.set_cons_succ, List.set_cons_zero] at ha; subst ha
          refine wt_one 5 (by kernel_rfl) ?_
          refine wt_call0 hs rfl rfl (by go_simp) (HK.out _) (by simp only [Act.put, List.setIfInBounds_toArray, List.set_cons_succ, List.set_cons_zero]; rfl) ?_
          clear hs; intro w1 hs
          refine wt_and (hs.sub (by repeat (first | exact List.Sublist.refl _ | refine List.Sublist.cons_cons _ ?_ | refine List.Sublist.cons _ ?_))) fun hC => ?_
          refine wt_take 6 rfl (by kernel_rfl) (by kernel_rfl) (by kernel_rfl) (fun _ _ _ _ h => h) rfl hC ⟨_, fun w hw => by (go_simp; try with_reducible rfl), fun a1 ha => ?_⟩
          simp only [Act.put, List.setIfInBounds_toArray, List.set_cons_succ, List.set_cons_zero] at ha; subst ha
          refine wt_done (by kernel_rfl) ?_
          skip
          clear hC
          go_upto_region 9 with fail
          refine wt_enter 15 rfl hs (by kernel_rfl) ?_
          clear hs; intro w1 hs; have hC := hs
          refine wt_take 0 rfl (by kernel_rfl) (by kernel_rfl) (by kernel_rfl) (fun _ _ _ _ h => h) rfl hC ⟨_, fun w hw => by (go_simp; try with_reducible rfl), fun a1 ha => ?_⟩
          simp only [Act.put, List.setIfInBounds_toArray, List.set_cons_succ, List.set_cons_zero] at ha; subst ha
          refine wt_take 1 rfl (by kernel_rfl) (by kernel_rfl) (by kernel_rfl) (fun _ _ _ _ h => h) rfl hC ⟨_, fun w hw => by (go_simp; try with_reducible rfl), fun a1 ha => ?_⟩
          simp only [Act.put, List.setIfInBounds_toArray, List.set_cons_succ, List.set_cons_zero] at ha; subst ha
          refine wt_take 2 rfl (by kernel_rfl) (by kernel_rfl) (by kernel_rfl) (fun _ _ _ _ h => h) rfl hC ⟨_, fun w hw => by (go_simp; try with_reducible rfl), fun a1 ha => ?_⟩
          simp only [Act.put, List.setIfInBounds_toArray, List.set_cons_succ, List.set_cons_zero] at ha; subst ha
          refine wt_take 3 rfl (by kernel_rfl) (by kernel_rfl) (by kernel_rfl) (fun _ _ _ _ h => h) rfl hC ⟨_, fun w hw => by (go_simp; try with_reducible rfl), fun a1 ha => ?_⟩
          simp only [Act.put, List.setIfInBounds_toArray, List.set_cons_succ, List.set_cons_zero] at ha; subst ha
          refine wt_take 4 rfl (by kernel_rfl) (by kernel_rfl) (by kernel_rfl) (fun _ _ _ _ h => h) rfl hC ⟨_, fun w hw => by (go_simp; try with_reducible rfl), fun a1 ha => ?_⟩
          simp only [Act.put, List.setIfInBounds_toArray, List.set_cons_succ, List.set_cons_zero] at ha; subst ha
          refine wt_take 5 rfl (by kernel_rfl) (by kernel_rfl) (by kernel_rfl) (fun _ _ _ _ h => h) rfl hC ⟨_, fun w hw => by (go_simp; try with_reducible rfl), fun a1 ha => ?_⟩
          simp only [Act.put, List.setIfInBounds_toArray, List.set_cons_succ, List.set_cons_zero] at ha; subst ha
          refine wt_take 6 rfl (by kernel_rfl) (by kernel_rfl) (by kernel_rfl) (fun _ _ _ _ h => h) rfl hC ⟨_, fun w hw => ex_load1 rfl Tryd.underlying24 rfl rfl (by rw [cell_of_row w _ _ _ _ (0, 0) (hw.getB 0 rfl)]; rfl), fun a1 ha => ?_⟩
          simp only [Act.put, List.setIfInBounds_toArray, List.set_cons_succ, List.set_cons_zero] at ha; subst ha
          refine wt_take 7 rfl (by kernel_rfl) (by kernel_rfl) (by kernel_rfl) (fun _ _ _ _ h => h) rfl hC ⟨_, fun w hw => by (go_simp; try with_reducible rfl), fun a1 ha => ?_⟩
          simp only [Act.put, List.setIfInBounds_toArray, List.set_cons_succ, List.set_cons_zero] at ha; subst ha
          refine wt_take 8 rfl (by kernel_rfl) (by kernel_rfl) (by kernel_rfl) (fun _ _ _ _ h => h) rfl hC ⟨_, fun w hw => by (go_simp; try with_reducible rfl), fun a1 ha => ?_⟩
          simp only [Act.put, List.setIfInBounds_toArray, List.set_cons_succ, List.set_cons_zero] at ha; subst ha
          refine wt_take 9 rfl (by kernel_rfl) (by kernel_rfl) (by kernel_rfl) (fun _ _ _ _ h => h) rfl hC ⟨_, fun w hw => ex_indexS rfl Tryd.underlying24 size3 rfl rfl k rfl hlt rfl, fun a1 ha => ?_⟩
          simp only [Act.put, List.setIfInBounds_toArray, List.set_cons_succ, List.set_cons_zero] at ha; subst ha
          refine wt_take 10 rfl (by kernel_rfl) (by kernel_rfl) (by kernel_rfl) (fun _ _ _ _ h => h) rfl hC ⟨.int .i64 (g : Int), fun w hw => ex_load1 rfl Tryd.underlying3 rfl rfl (by rw [Nat.mul_one]; exact HX.out hw), fun a1 ha => ?_⟩
          simp only [Act.put, List.setIfInBounds_toArray, List.set_cons_succ, List.set_cons_zero] at ha; subst ha
          refine wt_take 11 rfl (by kernel_rfl) (by kernel_rfl) (by kernel_rfl) (fun _ _ _ _ h => h) rfl hC ⟨_, fun w hw => ex_index1 rfl Tryd.underlying24 size3 rfl rfl g rfl hgm rfl, fun a1 ha => ?_⟩
          simp only [Act.put, List.setIfInBounds_toArray, List.set_cons_succ, List.set_cons_zero] at ha; subst ha
          refine wt_take 12 rfl (by kernel_rfl) (by kernel_rfl) (by kernel_rfl) (fun _ _ _ _ h => h) rfl hC ⟨.int .i64 0, fun w hw => ex_load1 rfl Tryd.underlying3 rfl rfl (by rw [cell_of_row w _ _ _ _ (0, 0) (hw.getB 2 rfl)]; exact HV.out), fun a1 ha => ?_⟩
          simp only [Act.put, List.setIfInBounds_toArray, List.set_cons_succ, List.set_cons_zero] at ha; subst ha
          refine wt_take 13 rfl (by kernel_rfl) (by kernel_rfl) (by kernel_rfl) (fun _ _ _ _ h => h) rfl hC ⟨_, fun w hw => by (go_simp; try with_reducible rfl), fun a1 ha => ?_⟩
          simp only [Act.put, List.setIfInBounds_toArray, List.set_cons_succ, List.set_cons_zero] at ha; subst ha
          refine wt_take 14 rfl (by kernel_rfl) (by kernel_rfl) (by kernel_rfl) (fun _ _ _ _ h => h) rfl hC ⟨_, fun w hw => by (go_simp; try with_reducible rfl), fun a1 ha => ?_⟩
          simp only [Act.put, List.setIfInBounds_toArray, List.set_cons_succ, List.set_cons_zero] at ha; subst ha
          refine wt_done (by kernel_rfl) ?_
          skip
          clear hC
          go_upto_region 11 with fail
          refine wt_enterS (List.Sublist.cons_cons _ (List.Sublist.cons_cons _ (List.Sublist.cons _ (List.Sublist.refl _)))) 10 rfl hs (by kernel_rfl) ?_
          clear hs; intro w1 hC hs
          refine wt_take 0 rfl (by kernel_rfl) (by kernel_rfl) (by kernel_rfl) (fun _ _ _ _ h => h) rfl hC ⟨_, fun w hw => by (go_simp; try with_reducible rfl), fun a1 ha => ?_⟩
          simp only [Act.put, List.setIfInBounds_toArray, List.set_cons_succ, List.set_cons_zero] at ha; subst ha
          refine wt_take 1 rfl (by kernel_rfl) (by kernel_rfl) (by kernel_rfl) (fun _ _ _ _ h => h) rfl hC ⟨_, fun w hw => by (go_simp; try with_reducible rfl), fun a1 ha => ?_⟩
          simp only [Act.put, List.setIfInBounds_toArray, List.set_cons_succ, List.set_cons_zero] at ha; subst ha
          refine wt_take 2 rfl (by kernel_rfl) (by kernel_rfl) (by kernel_rfl) (fun _ _ _ _ h => h) rfl hC ⟨_, fun w hw => by (go_simp; try with_reducible rfl), fun a1 ha => ?_⟩
          simp only [Act.put, List.setIfInBounds_toArray, List.set_cons_succ, List.set_cons_zero] at ha; subst ha
          refine wt_take 3 rfl (by kernel_rfl) (by kernel_rfl) (by kernel_rfl) (fun _ _ _ _ h => h) rfl hC ⟨_, fun w hw => ex_load1 rfl Tryd.underlying24 rfl rfl (by rw [cell_of_row w _ _ _ _ (0, 0) (hw.getB 0 rfl)]; rfl), fun a1 ha => ?_⟩
          simp only [Act.put, List.setIfInBounds_toArray, List.set_cons_succ, List.set_cons_zero] at ha; subst ha
          refine wt_take 4 rfl (by kernel_rfl) (by kernel_rfl) (by kernel_rfl) (fun _ _ _ _ h => h) rfl hC ⟨_, fun w hw => by (go_simp; try with_reducible rfl), fun a1 ha => ?_⟩
          simp only [Act.put, List.setIfInBounds_toArray, List.set_cons_succ, List.set_cons_zero] at ha; subst ha
          refine wt_take 5 rfl (by kernel_rfl) (by kernel_rfl) (by kernel_rfl) (fun _ _ _ _ h => h) rfl hC ⟨_, fun w hw => by (go_simp; try with_reducible rfl), fun a1 ha => ?_⟩
          simp only [Act.put, List.setIfInBounds_toArray, List.set_cons_succ, List.set_cons_zero] at ha; subst ha
          refine wt_take 6 rfl (by kernel_rfl) (by kernel_rfl) (by kernel_rfl) (fun _ _ _ _ h => h) rfl hC ⟨_, fun w hw => ex_indexS rfl Tryd.underlying24 size3 rfl rfl k rfl hlt rfl, fun a1 ha => ?_⟩
          simp only [Act.put, List.setIfInBounds_toArray, List.set_cons_succ, List.set_cons_zero] at ha; subst ha
          refine wt_take 7 rfl (by kernel_rfl) (by kernel_rfl) (by kernel_rfl) (fun _ _ _ _ h => h) rfl hC ⟨.int .i64 (g : Int), fun w hw => ex_load1 rfl Tryd.underlying3 rfl rfl (by rw [Nat.mul_one]; exact HX.out hw), fun a1 ha => ?_⟩
          simp only [Act.put, List.setIfInBounds_toArray, List.set_cons_succ, List.set_cons_zero] at ha; subst ha
          refine wt_take 8 rfl (by kernel_rfl) (by kernel_rfl) (by kernel_rfl) (fun _ _ _ _ h => h) rfl hC ⟨_, fun w hw => ex_index1 rfl Tryd.underlying24 size3 rfl rfl g rfl hgm rfl, fun a1 ha => ?_⟩
          simp only [Act.put, List.setIfInBounds_toArray, List.set_cons_succ, List.set_cons_zero] at ha; subst ha
          refine wt_one 9 (by kernel_rfl) ?_
          refine wt_store1R hs rfl rfl rfl size3 rfl rfl rfl 2 rfl hgm (rowI (stF (fun _ => false) G1 (k + 1))) HST.out (by simp only [Act.put, List.setIfInBounds_toArray, List.set_cons_succ, List.set_cons_zero]; rfl) ?_
          clear hs; intro w1 hs
          refine wt_and (hs.sub (by repeat (first | exact List.Sublist.refl _ | refine List.Sublist.cons_cons _ ?_ | refine List.Sublist.cons _ ?_))) fun hC => ?_
          refine wt_done (by kernel_rfl) ?_
          skip
          go_wp2
          go_roundw
          case rel => exact ⟨k + 1, by omega, by go_num, hs⟩
          case measure => simp [intOf]; omega
        · obtain rfl : N1 = k := by omega
          go_wp2_with fail
          clear hlt
          go_loopw [12] (fun iv wr => ∃ t : Nat, t ≤ j ∧ iv = .int .i64 t ∧ Tr w [] wr [Res.blk p #[.int .i64 n, .int .i64 m, .slice (some ⟨b, 0, none⟩) n n, .slice (some ⟨i, 0, none⟩) (m + 1) (m + 1)] 73, Res.blk b (rowOf n (rowB (stB G2 t))) 3, Res.blk i (rowOf (m + 1) (rowI (stF (fun _ => false) G1 N1))) 3, Res.blk xb #[.int .i64 n, .int .i64 m] 23]) (fun iv _ => j - (intOf iv).toNat)
          case atStart => exact ⟨0, Nat.zero_le _, rfl, hs⟩
          case round =>
            clear hs
            obtain ⟨k, hk2, rfl, hs⟩ := hrel
            have hlt : k < N2 := by omega
            have hltI : (k : Int) < N2 := by omega
            obtain rfl := I2.out.ao (by omega)
            by_cases hlj : k < j
            · skip
              obtain ⟨o1, o2, o3⟩ := HO2.out k hlj
              obtain ⟨g, hg⟩ : ∃ g : Nat, G2 k = (g : Int) := ⟨(G2 k).toNat, by omega⟩
              have HX : Hid (∀ {w1 : World} {L : List Res}, Tr w [] w1 L → w1.cell? ⟨db2, do2 + k, none⟩ = some (.int .i64 (g : Int))) := Lib.hid fun h => by have := I2.out.rd.keep h k hlt; rw [this]; show some (Value.int .i64 (G2 k)) = _; rw [hg]
              rw [hg] at o1 o2 o3
              rw [Int.toNat_natCast] at o3
              have HK := Lib.hid (fun w => rdata_any n m (g : Int) w)
              rw [inD_in (show m < g by omega) (show g < n by omega)] at HK
              have hgm : g < n := by omega
              have HV := Lib.hid (rowBs_at hgm o3)
              have HST := Lib.hid (rowBs_step (n := n) hg)
              clear o1 o2 o3 hg
              go_upto_region 15 with fail
              refine wt_enter 7 rfl hs (by kernel_rfl) ?_
              clear hs; intro w1 hs; have hC := hs
              refine wt_take 0 rfl (by kernel_rfl) (by kernel_rfl) (by kernel_rfl) (fun _ _ _ _ h => h) rfl hC ⟨_, fun w hw => ex_load2 rfl Tryd.underlying23 rfl size23 rfl (by rw [cell_of_row w _ _ _ _ (0, 0) (hw.getB 3 rfl)]; rfl) (by rw [cell_of_row w _ _ _ _ (0, 0) (hw.getB 3 rfl)]; rfl), fun a1 ha => ?_⟩
              simp only [Act.put, List.setIfInBounds_toArray, List.set_cons_succ, List.set_cons_zero] at ha; subst ha
              refine wt_take 1 rfl (by kernel_rfl) (by kernel_rfl) (by kernel_rfl) (fun _ _ _ _ h => h) rfl hC ⟨_, fun w hw => by (go_simp; try with_reducible rfl), fun a1 ha => ?_⟩
              simp only [Act.put, List.setIfInBounds_toArray, List.set_cons_succ, List.set_cons_zero] at ha; subst ha
              refine wt_take 2 rfl (by kernel_rfl) (by kernel_rfl) (by kernel_rfl) (fun _ _ _ _ h => h) rfl hC ⟨_, fun w hw => by (go_simp; try with_reducible rfl), fun a1 ha => ?_⟩
              simp only [Act.put, List.setIfInBounds_toArray, List.set_cons_succ, List.set_cons_zero] at ha; subst ha
              refine wt_take 3 rfl (by kernel_rfl) (by kernel_rfl) (by kernel_rfl) (fun _ _ _ _ h => h) rfl hC ⟨_, fun w hw => ex_indexS rfl Tryd.underlying24 size3 rfl rfl k rfl hlt rfl, fun a1 ha => ?_⟩
              simp only [Act.put, List.setIfInBounds_toArray, List.set_cons_succ, List.set_cons_zero] at ha; subst ha
              refine wt_take 4 rfl (by kernel_rfl) (by kernel_rfl) (by kernel_rfl) (fun _ _ _ _ h => h) rfl hC ⟨.int .i64 (g : Int), fun w hw => ex_load1 rfl Tryd.underlying3 rfl rfl (by rw [Nat.mul_one]; exact HX.out hw), fun a1 ha => ?_⟩
              simp only [Act.put, List.setIfInBounds_toArray, List.set_cons_succ, List.set_cons_zero] at ha; subst ha
              refine wt_one 5 (by kernel_rfl) ?_
              refine wt_call0 hs rfl rfl (by go_simp) (HK.out _) (by simp only [Act.put, List.setIfInBounds_toArray, List.set_cons_succ, List.set_cons_zero]; rfl) ?_
              clear hs; intro w1 hs
              refine wt_and (hs.sub (by repeat (first | exact List.Sublist.refl _ | refine List.Sublist.cons_cons _ ?_ | refine List.Sublist.cons _ ?_))) fun hC => ?_
              refine wt_take 6 rfl (by kernel_rfl) (by kernel_rfl) (by kernel_rfl) (fun _ _ _ _ h => h) rfl hC ⟨_, fun w hw => by (go_simp; try with_reducible rfl), fun a1 ha => ?_⟩
              simp only [Act.put, List.setIfInBounds_toArray, List.set_cons_succ, List.set_cons_zero] at ha; subst ha
              refine wt_done (by kernel_rfl) ?_
              skip
              clear hC
              go_upto_region 16 with fail
              refine wt_enter 15 rfl hs (by kernel_rfl) ?_
              clear hs; intro w1 hs; have hC := hs
              refine wt_take 0 rfl (by kernel_rfl) (by kernel_rfl) (by kernel_rfl) (fun _ _ _ _ h => h) rfl hC ⟨_, fun w hw => by (go_simp; try with_reducible rfl), fun a1 ha => ?_⟩
              simp only [Act.put, List.setIfInBounds_toArray, List.set_cons_succ, List.set_cons_zero] at ha; subst ha
              refine wt_take 1 rfl (by kernel_rfl) (by kernel_rfl) (by kernel_rfl) (fun _ _ _ _ h => h) rfl hC ⟨_, fun w hw => by (go_simp; try with_reducible rfl), fun a1 ha => ?_⟩
              simp only [Act.put, List.setIfInBounds_toArray, List.set_cons_succ, List.set_cons_zero] at ha; subst ha
              refine wt_take 2 rfl (by kernel_rfl) (by kernel_rfl) (by kernel_rfl) (fun _ _ _ _ h => h) rfl hC ⟨_, fun w hw => by (go_simp; try with_reducible rfl), fun a1 ha => ?_⟩
              simp only [Act.put, List.setIfInBounds_toArray, List.set_cons_succ, List.set_cons_zero] at ha; subst ha
              refine wt_take 3 rfl (by kernel_rfl) (by kernel_rfl) (by kernel_rfl) (fun _ _ _ _ h => h) rfl hC ⟨_, fun w hw => by (go_simp; try with_reducible rfl), fun a1 ha => ?_⟩
              simp only [Act.put, List.setIfInBounds_toArray, List.set_cons_succ, List.set_cons_zero] at ha; subst ha
              refine wt_take 4 rfl (by kernel_rfl) (by kernel_rfl) (by kernel_rfl) (fun _ _ _ _ h => h) rfl hC ⟨_, fun w hw => by (go_simp; try with_reducible rfl), fun a1 ha => ?_⟩
              simp only [Act.put, List.setIfInBounds_toArray, List.set_cons_succ, List.set_cons_zero] at ha; subst ha
              refine wt_take 5 rfl (by kernel_rfl) (by kernel_rfl) (by kernel_rfl) (fun _ _ _ _ h => h) rfl hC ⟨_, fun w hw => by (go_simp; try with_reducible rfl), fun a1 ha => ?_⟩
              simp only [Act.put, List.setIfInBounds_toArray, List.set_cons_succ, List.set_cons_zero] at ha; subst ha
              refine wt_take 6 rfl (by kernel_rfl) (by kernel_rfl) (by kernel_rfl) (fun _ _ _ _ h => h) rfl hC ⟨_, fun w hw => ex_load1 rfl Tryd.underlying24 rfl rfl (by rw [cell_of_row w _ _ _ _ (0, 0) (hw.getB 0 rfl)]; rfl), fun a1 ha => ?_⟩
              simp only [Act.put, List.setIfInBounds_toArray, List.set_cons_succ, List.set_cons_zero] at ha; subst ha
              refine wt_take 7 rfl (by kernel_rfl) (by kernel_rfl) (by kernel_rfl) (fun _ _ _ _ h => h) rfl hC ⟨_, fun w hw => by (go_simp; try with_reducible rfl), fun a1 ha => ?_⟩
              simp only [Act.put, List.setIfInBounds_toArray, List.set_cons_succ, List.set_cons_zero] at ha; subst ha
              refine wt_take 8 rfl (by kernel_rfl) (by kernel_rfl) (by kernel_rfl) (fun _ _ _ _ h => h) rfl hC ⟨_, fun w hw => by (go_simp; try with_reducible rfl), fun a1 ha => ?_⟩
              simp only [Act.put, List.setIfInBounds_toArray, List.set_cons_succ, List.set_cons_zero] at ha; subst ha
              refine wt_take 9 rfl (by kernel_rfl) (by kernel_rfl) (by kernel_rfl) (fun _ _ _ _ h => h) rfl hC ⟨_, fun w hw => ex_indexS rfl Tryd.underlying24 size3 rfl rfl k rfl hlt rfl, fun a1 ha => ?_⟩
              simp only [Act.put, List.setIfInBounds_toArray, List.set_cons_succ, List.set_cons_zero] at ha; subst ha
              refine wt_take 10 rfl (by kernel_rfl) (by kernel_rfl) (by kernel_rfl) (fun _ _ _ _ h => h) rfl hC ⟨.int .i64 (g : Int), fun w hw => ex_load1 rfl Tryd.underlying3 rfl rfl (by rw [Nat.mul_one]; exact HX.out hw), fun a1 ha => ?_⟩
              simp only [Act.put, List.setIfInBounds_toArray, List.set_cons_succ, List.set_cons_zero] at ha; subst ha
              refine wt_take 11 rfl (by kernel_rfl) (by kernel_rfl) (by kernel_rfl) (fun _ _ _ _ h => h) rfl hC ⟨_, fun w hw => ex_index1 rfl Tryd.underlying24 size3 rfl rfl g rfl hgm rfl, fun a1 ha => ?_⟩
              simp only [Act.put, List.setIfInBounds_toArray, List.set_cons_succ, List.set_cons_zero] at ha; subst ha
              refine wt_take 12 rfl (by kernel_rfl) (by kernel_rfl) (by kernel_rfl) (fun _ _ _ _ h => h) rfl hC ⟨.int .i64 0, fun w hw => ex_load1 rfl Tryd.underlying3 rfl rfl (by rw [cell_of_row w _ _ _ _ (0, 0) (hw.getB 1 rfl)]; exact HV.out), fun a1 ha => ?_⟩
              simp only [Act.put, List.setIfInBounds_toArray, List.set_cons_succ, List.set_cons_zero] at ha; subst ha
              refine wt_take 13 rfl (by kernel_rfl) (by kernel_rfl) (by kernel_rfl) (fun _ _ _ _ h => h) rfl hC ⟨_, fun w hw => by (go_simp; try with_reducible rfl), fun a1 ha => ?_⟩
              simp only [Act.put, List.setIfInBounds_toArray, List.set_cons_succ, List.set_cons_zero] at ha; subst ha
              refine wt_take 14 rfl (by kernel_rfl) (by kernel_rfl) (by kernel_rfl) (fun _ _ _ _ h => h) rfl hC ⟨_, fun w hw => by (go_simp; try with_reducible rfl), fun a1 ha => ?_⟩
              simp only [Act.put, List.setIfInBounds_toArray, List.set_cons_succ, List.set_cons_zero] at ha; subst ha
              refine wt_done (by kernel_rfl) ?_
              skip
              clear hC
              go_upto_region 18 with fail
              refine wt_enterS (List.Sublist.cons_cons _ (List.Sublist.cons _ (List.Sublist.refl _))) 10 rfl hs (by kernel_rfl) ?_
              clear hs; intro w1 hC hs
              refine wt_take 0 rfl (by kernel_rfl) (by kernel_rfl) (by kernel_rfl) (fun _ _ _ _ h => h) rfl hC ⟨_, fun w hw => by (go_simp; try with_reducible rfl), fun a1 ha => ?_⟩
              simp only [Act.put, List.setIfInBounds_toArray, List.set_cons_succ, List.set_cons_zero] at ha; subst ha
              refine wt_take 1 rfl (by kernel_rfl) (by kernel_rfl) (by kernel_rfl) (fun _ _ _ _ h => h) rfl hC ⟨_, fun w hw => by (go_simp; try with_reducible rfl), fun a1 ha => ?_⟩
              simp only [Act.put, List.setIfInBounds_toArray, List.set_cons_succ, List.set_cons_zero] at ha; subst ha
              refine wt_take 2 rfl (by kernel_rfl) (by kernel_rfl) (by kernel_rfl) (fun _ _ _ _ h => h) rfl hC ⟨_, fun w hw => by (go_simp; try with_reducible rfl), fun a1 ha => ?_⟩
              simp only [Act.put, List.setIfInBounds_toArray, List.set_cons_succ, List.set_cons_zero] at ha; subst ha
              refine wt_take 3 rfl (by kernel_rfl) (by kernel_rfl) (by kernel_rfl) (fun _ _ _ _ h => h) rfl hC ⟨_, fun w hw => ex_load1 rfl Tryd.underlying24 rfl rfl (by rw [cell_of_row w _ _ _ _ (0, 0) (hw.getB 0 rfl)]; rfl), fun a1 ha => ?_⟩
              simp only [Act.put, List.setIfInBounds_toArray, List.set_cons_succ, List.set_cons_zero] at ha; subst ha
              refine wt_take 4 rfl (by kernel_rfl) (by kernel_rfl) (by kernel_rfl) (fun _ _ _ _ h => h) rfl hC ⟨_, fun w hw => by (go_simp; try with_reducible rfl), fun a1 ha => ?_⟩
              simp only [Act.put, List.setIfInBounds_toArray, List.set_cons_succ, List.set_cons_zero] at ha; subst ha
              refine wt_take 5 rfl (by kernel_rfl) (by kernel_rfl) (by kernel_rfl) (fun _ _ _ _ h => h) rfl hC ⟨_, fun w hw => by (go_simp; try with_reducible rfl), fun a1 ha => ?_⟩
              simp only [Act.put, List.setIfInBounds_toArray, List.set_cons_succ, List.set_cons_zero] at ha; subst ha
              refine wt_take 6 rfl (by kernel_rfl) (by kernel_rfl) (by kernel_rfl) (fun _ _ _ _ h => h) rfl hC ⟨_, fun w hw => ex_indexS rfl Tryd.underlying24 size3 rfl rfl k rfl hlt rfl, fun a1 ha => ?_⟩
              simp only [Act.put, List.setIfInBounds_toArray, List.set_cons_succ, List.set_cons_zero] at ha; subst ha
              refine wt_take 7 rfl (by kernel_rfl) (by kernel_rfl) (by kernel_rfl) (fun _ _ _ _ h => h) rfl hC ⟨.int .i64 (g : Int), fun w hw => ex_load1 rfl Tryd.underlying3 rfl rfl (by rw [Nat.mul_one]; exact HX.out hw), fun a1 ha => ?_⟩
              simp only [Act.put, List.setIfInBounds_toArray, List.set_cons_succ, List.set_cons_zero] at ha; subst ha
              refine wt_take 8 rfl (by kernel_rfl) (by kernel_rfl) (by kernel_rfl) (fun _ _ _ _ h => h) rfl hC ⟨_, fun w hw => ex_index1 rfl Tryd.underlying24 size3 rfl rfl g rfl hgm rfl, fun a1 ha => ?_⟩
              simp only [Act.put, List.setIfInBounds_toArray, List.set_cons_succ, List.set_cons_zero] at ha; subst ha
              refine wt_one 9 (by kernel_rfl) ?_
              refine wt_store1R hs rfl rfl rfl size3 rfl rfl rfl 1 rfl hgm (rowB (stB G2 (k + 1))) HST.out (by simp only [Act.put, List.setIfInBounds_toArray, List.set_cons_succ, List.set_cons_zero]; rfl) ?_
              clear hs; intro w1 hs
              refine wt_and (hs.sub (by repeat (first | exact List.Sublist.refl _ | refine List.Sublist.cons_cons _ ?_ | refine List.Sublist.cons _ ?_))) fun hC => ?_
              refine wt_done (by kernel_rfl) ?_
              skip
              go_wp2
              go_roundw
              case rel => exact ⟨k + 1, by omega, by go_num, hs⟩
              case measure => simp [intOf]; omega
            · obtain rfl : k = j := by omega
              clear hlj
              by_cases hin : (m : Int) < G2 k ∧ G2 k < n
              · obtain ⟨g, hg⟩ : ∃ g : Nat, G2 k = (g : Int) := ⟨(G2 k).toNat, by omega⟩
                have HX : Hid (∀ {w1 : World} {L : List Res}, Tr w [] w1 L → w1.cell? ⟨db2, do2 + k, none⟩ = some (.int .i64 (g : Int))) := Lib.hid fun h => by have := I2.out.rd.keep h k hlt; rw [this]; show some (Value.int .i64 (G2 k)) = _; rw [hg]
                rw [hg] at hin
                have hgm : g < n := by omega
                have hst : stF (fun _ => false) G2 k g = true := by
                  have hb := HBAD.out
                  simp only [okF] at hb
                  rw [hg, Int.toNat_natCast] at hb
                  cases hf : stF (fun _ => false) G2 k g
                  · exact absurd ⟨by omega, by omega, hf⟩ hb
                  · rfl
                have HK := Lib.hid (fun w => rdata_any n m (g : Int) w)
                rw [inD_in (show m < g by omega) (show g < n by omega)] at HK
                have HV := Lib.hid (rowBs_hit hgm hst)
                clear hin hg hst HBAD
                go_upto_region 15 with fail
                refine wt_enter 7 rfl hs (by kernel_rfl) ?_
                clear hs; intro w1 hs; have hC := hs
                refine wt_take 0 rfl (by kernel_rfl) (by kernel_rfl) (by kernel_rfl) (fun _ _ _ _ h => h) rfl hC ⟨_, fun w hw => ex_load2 rfl Tryd.underlying23 rfl size23 rfl (by rw [cell_of_row w _ _ _ _ (0, 0) (hw.getB 3 rfl)]; rfl) (by rw [cell_of_row w _ _ _ _ (0, 0) (hw.getB 3 rfl)]; rfl), fun a1 ha => ?_⟩
                simp only [Act.put, List.setIfInBounds_toArray, List.set_cons_succ, List.set_cons_zero] at ha; subst ha
                refine wt_take 1 rfl (by kernel_rfl) (by kernel_rfl) (by kernel_rfl) (fun _ _ _ _ h => h) rfl hC ⟨_, fun w hw => by (go_simp; try with_reducible rfl), fun a1 ha => ?_⟩
                simp only [Act.put, List.setIfInBounds_toArray, List.set_cons_succ, List.set_cons_zero] at ha; subst ha
                refine wt_take 2 rfl (by kernel_rfl) (by kernel_rfl) (by kernel_rfl) (fun _ _ _ _ h => h) rfl hC ⟨_, fun w hw => by (go_simp; try with_reducible rfl), fun a1 ha => ?_⟩
                simp only [Act.put, List.setIfInBounds_toArray, List.set_cons_succ, List.set_cons_zero] at ha; subst ha
                refine wt_take 3 rfl (by kernel_rfl) (by kernel_rfl) (by kernel_rfl) (fun _ _ _ _ h => h) rfl hC ⟨_, fun w hw => ex_indexS rfl Tryd.underlying24 size3 rfl rfl k rfl hlt rfl, fun a1 ha => ?_⟩
                simp only [Act.put, List.setIfInBounds_toArray, List.set_cons_succ, List.set_cons_zero] at ha; subst ha
                refine wt_take 4 rfl (by kernel_rfl) (by kernel_rfl) (by kernel_rfl) (fun _ _ _ _ h => h) rfl hC ⟨.int .i64 (g : Int), fun w hw => ex_load1 rfl Tryd.underlying3 rfl rfl (by rw [Nat.mul_one]; exact HX.out hw), fun a1 ha => ?_⟩
                simp only [Act.put, List.setIfInBounds_toArray, List.set_cons_succ, List.set_cons_zero] at ha; subst ha
                refine wt_one 5 (by kernel_rfl) ?_
                refine wt_call0 hs rfl rfl (by go_simp) (HK.out _) (by simp only [Act.put, List.setIfInBounds_toArray, List.set_cons_succ, List.set_cons_zero]; rfl) ?_
                clear hs; intro w1 hs
                refine wt_and (hs.sub (by repeat (first | exact List.Sublist.refl _ | refine List.Sublist.cons_cons _ ?_ | refine List.Sublist.cons _ ?_))) fun hC => ?_
                refine wt_take 6 rfl (by kernel_rfl) (by kernel_rfl) (by kernel_rfl) (fun _ _ _ _ h => h) rfl hC ⟨_, fun w hw => by (go_simp; try with_reducible rfl), fun a1 ha => ?_⟩
                simp only [Act.put, List.setIfInBounds_toArray, List.set_cons_succ, List.set_cons_zero] at ha; subst ha
                refine wt_done (by kernel_rfl) ?_
                skip
                clear hC
                go_upto_region 16 with fail
                refine wt_enter 15 rfl hs (by kernel_rfl) ?_
                clear hs; intro w1 hs; have hC := hs
                refine wt_take 0 rfl (by kernel_rfl) (by kernel_rfl) (by kernel_rfl) (fun _ _ _ _ h => h) rfl hC ⟨_, fun w hw => by (go_simp; try with_reducible rfl), fun a1 ha => ?_⟩
                simp only [Act.put, List.setIfInBounds_toArray, List.set_cons_succ, List.set_cons_zero] at ha; subst ha
                refine wt_take 1 rfl (by kernel_rfl) (by kernel_rfl) (by kernel_rfl) (fun _ _ _ _ h => h) rfl hC ⟨_, fun w hw => by (go_simp; try with_reducible rfl), fun a1 ha => ?_⟩
                simp only [Act.put, List.setIfInBounds_toArray, List.set_cons_succ, List.set_cons_zero] at ha; subst ha
                refine wt_take 2 rfl (by kernel_rfl) (by kernel_rfl) (by kernel_rfl) (fun _ _ _ _ h => h) rfl hC ⟨_, fun w hw => by (go_simp; try with_reducible rfl), fun a1 ha => ?_⟩
                simp only [Act.put, List.setIfInBounds_toArray, List.set_cons_succ, List.set_cons_zero] at ha; subst ha
                refine wt_take 3 rfl (by kernel_rfl) (by kernel_rfl) (by kernel_rfl) (fun _ _ _ _ h => h) rfl hC ⟨_, fun w hw => by (go_simp; try with_reducible rfl), fun a1 ha => ?_⟩
                simp only [Act.put, List.setIfInBounds_toArray, List.set_cons_succ, List.set_cons_zero] at ha; subst ha
                refine wt_take 4 rfl (by kernel_rfl) (by kernel_rfl) (by kernel_rfl) (fun _ _ _ _ h => h) rfl hC ⟨_, fun w hw => by (go_simp; try with_reducible rfl), fun a1 ha => ?_⟩
                simp only [Act.put, List.setIfInBounds_toArray, List.set_cons_succ, List.set_cons_zero] at ha; subst ha
                refine wt_take 5 rfl (by kernel_rfl) (by kernel_rfl) (by kernel_rfl) (fun _ _ _ _ h => h) rfl hC ⟨_, fun w hw => by (go_simp; try with_reducible rfl), fun a1 ha => ?_⟩
                simp only [Act.put, List.setIfInBounds_toArray, List.set_cons_succ, List.set_cons_zero] at ha; subst ha
                refine wt_take 6 rfl (by kernel_rfl) (by kernel_rfl) (by kernel_rfl) (fun _ _ _ _ h => h) rfl hC ⟨_, fun w hw => ex_load1 rfl Tryd.underlying24 rfl rfl (by rw [cell_of_row w _ _ _ _ (0, 0) (hw.getB 0 rfl)]; rfl), fun a1 ha => ?_⟩
                simp only [Act.put, List.setIfInBounds_toArray, List.set_cons_succ, List.set_cons_zero] at ha; subst ha
                refine wt_take 7 rfl (by kernel_rfl) (by kernel_rfl) (by kernel_rfl) (fun _ _ _ _ h => h) rfl hC ⟨_, fun w hw => by (go_simp; try with_reducible rfl), fun a1 ha => ?_⟩
                simp only [Act.put, List.setIfInBounds_toArray, List.set_cons_succ, List.set_cons_zero] at ha; subst ha
                refine wt_take 8 rfl (by kernel_rfl) (by kernel_rfl) (by kernel_rfl) (fun _ _ _ _ h => h) rfl hC ⟨_, fun w hw => by (go_simp; try with_reducible rfl), fun a1 ha => ?_⟩
                simp only [Act.put, List.setIfInBounds_toArray, List.set_cons_succ, List.set_cons_zero] at ha; subst ha
                refine wt_take 9 rfl (by kernel_rfl) (by kernel_rfl) (by kernel_rfl) (fun _ _ _ _ h => h) rfl hC ⟨_, fun w hw => ex_indexS rfl Tryd.underlying24 size3 rfl rfl k rfl hlt rfl, fun a1 ha => ?_⟩
                simp only [Act.put, List.setIfInBounds_toArray, List.set_cons_succ, List.set_cons_zero] at ha; subst ha
                refine wt_take 10 rfl (by kernel_rfl) (by kernel_rfl) (by kernel_rfl) (fun _ _ _ _ h => h) rfl hC ⟨.int .i64 (g : Int), fun w hw => ex_load1 rfl Tryd.underlying3 rfl rfl (by rw [Nat.mul_one]; exact HX.out hw), fun a1 ha => ?_⟩
                simp only [Act.put, List.setIfInBounds_toArray, List.set_cons_succ, List.set_cons_zero] at ha; subst ha
                refine wt_take 11 rfl (by kernel_rfl) (by kernel_rfl) (by kernel_rfl) (fun _ _ _ _ h => h) rfl hC ⟨_, fun w hw => ex_index1 rfl Tryd.underlying24 size3 rfl rfl g rfl hgm rfl, fun a1 ha => ?_⟩
                simp only [Act.put, List.setIfInBounds_toArray, List.set_cons_succ, List.set_cons_zero] at ha; subst ha
                refine wt_take 12 rfl (by kernel_rfl) (by kernel_rfl) (by kernel_rfl) (fun _ _ _ _ h => h) rfl hC ⟨.int .i64 1, fun w hw => ex_load1 rfl Tryd.underlying3 rfl rfl (by rw [cell_of_row w _ _ _ _ (0, 0) (hw.getB 1 rfl)]; exact HV.out), fun a1 ha => ?_⟩
                simp only [Act.put, List.setIfInBounds_toArray, List.set_cons_succ, List.set_cons_zero] at ha; subst ha
                refine wt_take 13 rfl (by kernel_rfl) (by kernel_rfl) (by kernel_rfl) (fun _ _ _ _ h => h) rfl hC ⟨_, fun w hw => by (go_simp; try with_reducible rfl), fun a1 ha => ?_⟩
                simp only [Act.put, List.setIfInBounds_toArray, List.set_cons_succ, List.set_cons_zero] at ha; subst ha
                refine wt_take 14 rfl (by kernel_rfl) (by kernel_rfl) (by kernel_rfl) (fun _ _ _ _ h => h) rfl hC ⟨_, fun w hw => by (go_simp; try with_reducible rfl), fun a1 ha => ?_⟩
                simp only [Act.put, List.setIfInBounds_toArray, List.set_cons_succ, List.set_cons_zero] at ha; subst ha
                refine wt_done (by kernel_rfl) ?_
                skip
                clear hC
                go_wp2
                go_ret2
                exact ⟨rfl, hs.letgo⟩
              · obtain ⟨x, hg⟩ : ∃ x : Int, G2 k = x := ⟨_, rfl⟩
                have HX : Hid (∀ {w1 : World} {L : List Res}, Tr w [] w1 L → w1.cell? ⟨db2, do2 + k, none⟩ = some (.int .i64 x)) := Lib.hid fun h => by have := I2.out.rd.keep h k hlt; rw [this]; show some (Value.int .i64 (G2 k)) = _; rw [hg]
                rw [hg] at hin
                have HK := Lib.hid (fun w => rdata_any n m x w)
                rw [inD_out (n := n) (m := m) (b := x) (by omega)] at HK
                clear hin hg HBAD
                go_upto_region 15 with fail
                refine wt_enter 7 rfl hs (by kernel_rfl) ?_
                clear hs; intro w1 hs; have hC := hs
                refine wt_take 0 rfl (by kernel_rfl) (by kernel_rfl) (by kernel_rfl) (fun _ _ _ _ h => h) rfl hC ⟨_, fun w hw => ex_load2 rfl Tryd.underlying23 rfl size23 rfl (by rw [cell_of_row w _ _ _ _ (0, 0) (hw.getB 3 rfl)]; rfl) (by rw [cell_of_row w _ _ _ _ (0, 0) (hw.getB 3 rfl)]; rfl), fun a1 ha => ?_⟩
                simp only [Act.put, List.setIfInBounds_toArray, List.set_cons_succ, List.set_cons_zero] at ha; subst ha
                refine wt_take 1 rfl (by kernel_rfl) (by kernel_rfl) (by kernel_rfl) (fun _ _ _ _ h => h) rfl hC ⟨_, fun w hw => by (go_simp; try with_reducible rfl), fun a1 ha => ?_⟩
                simp only [Act.put, List.setIfInBounds_toArray, List.set_cons_succ, List.set_cons_zero] at ha; subst ha
                refine wt_take 2 rfl (by kernel_rfl) (by kernel_rfl) (by kernel_rfl) (fun _ _ _ _ h => h) rfl hC ⟨_, fun w hw => by (go_simp; try with_reducible rfl), fun a1 ha => ?_⟩
                simp only [Act.put, List.setIfInBounds_toArray, List.set_cons_succ, List.set_cons_zero] at ha; subst ha
                refine wt_take 3 rfl (by kernel_rfl) (by kernel_rfl) (by kernel_rfl) (fun _ _ _ _ h => h) rfl hC ⟨_, fun w hw => ex_indexS rfl Tryd.underlying24 size3 rfl rfl k rfl hlt rfl, fun a1 ha => ?_⟩
                simp only [Act.put, List.setIfInBounds_toArray, List.set_cons_succ, List.set_cons_zero] at ha; subst ha
                refine wt_take 4 rfl (by kernel_rfl) (by kernel_rfl) (by kernel_rfl) (fun _ _ _ _ h => h) rfl hC ⟨.int .i64 x, fun w hw => ex_load1 rfl Tryd.underlying3 rfl rfl (by rw [Nat.mul_one]; exact HX.out hw), fun a1 ha => ?_⟩
                simp only [Act.put, List.setIfInBounds_toArray, List.set_cons_succ, List.set_cons_zero] at ha; subst ha
                refine wt_one 5 (by kernel_rfl) ?_
                refine wt_call0 hs rfl rfl (by go_simp) (HK.out _) (by simp only [Act.put, List.setIfInBounds_toArray, List.set_cons_succ, List.set_cons_zero]; rfl) ?_
                clear hs; intro w1 hs
                refine wt_and (hs.sub (by repeat (first | exact List.Sublist.refl _ | refine List.Sublist.cons_cons _ ?_ | refine List.Sublist.cons _ ?_))) fun hC => ?_
                refine wt_take 6 rfl (by kernel_rfl) (by kernel_rfl) (by kernel_rfl) (fun _ _ _ _ h => h) rfl hC ⟨_, fun w hw => by (go_simp; try with_reducible rfl), fun a1 ha => ?_⟩
                simp only [Act.put, List.setIfInBounds_toArray, List.set_cons_succ, List.set_cons_zero] at ha; subst ha
                refine wt_done (by kernel_rfl) ?_
                skip
                clear hC
                go_upto_region 16 with fail
                refine wt_enter 15 rfl hs (by kernel_rfl) ?_
                clear hs; intro w1 hs; have hC := hs
                refine wt_take 0 rfl (by kernel_rfl) (by kernel_rfl) (by kernel_rfl) (fun _ _ _ _ h => h) rfl hC ⟨_, fun w hw => by (go_simp; try with_reducible rfl), fun a1 ha => ?_⟩
                simp only [Act.put, List.setIfInBounds_toArray, List.set_cons_succ, List.set_cons_zero] at ha; subst ha
                refine wt_take 1 rfl (by kernel_rfl) (by kernel_rfl) (by kernel_rfl) (fun _ _ _ _ h => h) rfl hC ⟨_, fun w hw => by (go_simp; try with_reducible rfl), fun a1 ha => ?_⟩
                simp only [Act.put, List.setIfInBounds_toArray, List.set_cons_succ, List.set_cons_zero] at ha; subst ha
                refine wt_take 2 rfl (by kernel_rfl) (by kernel_rfl) (by kernel_rfl) (fun _ _ _ _ h => h) rfl hC ⟨_, fun w hw => by (go_simp; try with_reducible rfl), fun a1 ha => ?_⟩
                simp only [Act.put, List.setIfInBounds_toArray, List.set_cons_succ, List.set_cons_zero] at ha; subst ha
                refine wt_pass 3 rfl (by kernel_rfl) (by kernel_rfl) (by kernel_rfl) (fun _ _ _ h => h) rfl hC (by simp only [Act.put, List.setIfInBounds_toArray, List.set_cons_succ, List.set_cons_zero]; rfl) ?_
                refine wt_pass 4 rfl (by kernel_rfl) (by kernel_rfl) (by kernel_rfl) (fun _ _ _ h => h) rfl hC (by simp only [Act.put, List.setIfInBounds_toArray, List.set_cons_succ, List.set_cons_zero]; rfl) ?_
                refine wt_pass 5 rfl (by kernel_rfl) (by kernel_rfl) (by kernel_rfl) (fun _ _ _ h => h) rfl hC (by simp only [Act.put, List.setIfInBounds_toArray, List.set_cons_succ, List.set_cons_zero]; rfl) ?_
                refine wt_pass 6 rfl (by kernel_rfl) (by kernel_rfl) (by kernel_rfl) (fun _ _ _ h => h) rfl hC (by simp only [Act.put, List.setIfInBounds_toArray, List.set_cons_succ, List.set_cons_zero]; rfl) ?_
                refine wt_pass 7 rfl (by kernel_rfl) (by kernel_rfl) (by kernel_rfl) (fun _ _ _ h => h) rfl hC (by simp only [Act.put, List.setIfInBounds_toArray, List.set_cons_succ, List.set_cons_zero]; rfl) ?_
                refine wt_pass 8 rfl (by kernel_rfl) (by kernel_rfl) (by kernel_rfl) (fun _ _ _ h => h) rfl hC (by simp only [Act.put, List.setIfInBounds_toArray, List.set_cons_succ, List.set_cons_zero]; rfl) ?_
                refine wt_pass 9 rfl (by kernel_rfl) (by kernel_rfl) (by kernel_rfl) (fun _ _ _ h => h) rfl hC (by simp only [Act.put, List.setIfInBounds_toArray, List.set_cons_succ, List.set_cons_zero]; rfl) ?_
                refine wt_pass 10 rfl (by kernel_rfl) (by kernel_rfl) (by kernel_rfl) (fun _ _ _ h => h) rfl hC (by simp only [Act.put, List.setIfInBounds_toArray, List.set_cons_succ, List.set_cons_zero]; rfl) ?_
                refine wt_pass 11 rfl (by kernel_rfl) (by kernel_rfl) (by kernel_rfl) (fun _ _ _ h => h) rfl hC (by simp only [Act.put, List.setIfInBounds_toArray, List.set_cons_succ, List.set_cons_zero]; rfl) ?_
                refine wt_pass 12 rfl (by kernel_rfl) (by kernel_rfl) (by kernel_rfl) (fun _ _ _ h => h) rfl hC (by simp only [Act.put, List.setIfInBounds_toArray, List.set_cons_succ, List.set_cons_zero]; rfl) ?_
                refine wt_pass 13 rfl (by kernel_rfl) (by kernel_rfl) (by kernel_rfl) (fun _ _ _ h => h) rfl hC (by simp only [Act.put, List.setIfInBounds_toArray, List.set_cons_succ, List.set_cons_zero]; rfl) ?_
                refine wt_take 14 rfl (by kernel_rfl) (by kernel_rfl) (by kernel_rfl) (fun _ _ _ _ h => h) rfl hC ⟨_, fun w hw => by (go_simp; try with_reducible rfl), fun a1 ha => ?_⟩
                simp only [Act.put, List.setIfInBounds_toArray, List.set_cons_succ, List.set_cons_zero] at ha; subst ha
                refine wt_done (by kernel_rfl) ?_
                skip
                clear hC
                go_wp2
                go_ret2
                exact ⟨rfl, hs.letgo⟩
  exact wt_nil
end
end Go.Proofs.YtfedfdcbhggipaaDoor
