/- SpaceNews: the walk. -/
import Derived.Test.YtfedfdcbhggipaaDoorU
namespace Go.Proofs.YtfedfdcbhggipaaDoor
set_option linter.unusedVariables false
set_option linter.unusedSimpArgs false
open Go Go.Sp Go.RowKit Go.BigFrame

theorem lent_ints {w : World} {b n : Nat} {a1 : Option Addr} {G : Nat → Int} (h : w.heap[b]? = some (.cells (rowOf (n + 20) (gI (lentF G n))) 3 (0, 0))) (hn : n * 8 ≤ 140737488351232) (ha : 0 < n → a1 = some ⟨b, 0, none⟩)
    (hG : ∀ i, i < n → -9223372036854775808 ≤ G i ∧ G i ≤ 9223372036854775807) : Ints w (.slice a1 n (n + 20)) a1 n (n + 20) b 0 G :=
  ⟨rfl, by omega, by unfold maxLen; omega, ha, fun j hj => by rw [Nat.zero_add, cell_of_row _ b j _ _ (0, 0) h, rowOf_get (by omega)]; simp only [gI, lentF]; rw [if_pos hj], hG⟩
set_option maxRecDepth 100000 in
set_option maxHeartbeats 8000000 in
theorem news_nil (X0 X1 E : Int) (N1 c1 N2 c2 db1 do1 db2 do2 : Nat) (ao1 ao2 : Option Addr) (G1 G2 : Nat → Int) (w : World) (hN1 : N1 * 8 ≤ 140737488351232) (hN2 : N2 * 8 ≤ 140737488351232)
    (g1 : Ints w (.slice ao1 N1 c1) ao1 N1 c1 db1 do1 G1) (g2 : Ints w (.slice ao2 N2 c2) ao2 N2 c2 db2 do2 G2)
    (HS : Hid (∀ (w' : World) (a1 a2 : Option Addr) (k1 k2 b1 b2 : Nat), Ints w' (.slice a1 N1 k1) a1 N1 k1 b1 0 G1 → Ints w' (.slice a2 N2 k2) a2 N2 k2 b2 0 G2 → Calls Tryd.prog 11 #[.agg #[.int .i64 X0, .int .i64 X1], .slice a1 N1 k1, .slice a2 N2 k2] w' fun e w'' => e = .returned (.tuple #[.pointer none, .int .i64 E]) ∧ Tr w' [] w'' []))
    (HN : Hid (∀ w' : World, Ints w' (.slice ao1 N1 c1) ao1 N1 c1 db1 do1 G1 → Ints w' (.slice ao2 N2 c2) ao2 N2 c2 db2 do2 G2 → Calls Tryd.prog 13 #[.agg #[.int .i64 X0, .int .i64 X1], .slice ao1 N1 c1, .slice ao2 N2 c2] w' fun e w'' => e = .returned (.tuple #[.pointer none, .int .i64 E]) ∧ Tr w' [] w'' [])) (hR : Rd w 0 0 64 tabV) :
    Calls Tryd.prog 3 #[.agg #[.int .i64 X0, .int .i64 X1, .slice ao1 N1 c1, .slice ao2 N2 c2]] w fun e w' => e = .returned (.bool true) ∧ Tr w [] w' [] := by
  have hs := Tr.refl w []
  have HR := Lib.hid hR
  have I1 := Lib.hid g1
  have I2 := Lib.hid g2
  have HK1 : Hid (∀ {w' : World} {L : List Res}, Tr w [] w' L → Ints w' (.slice ao1 N1 c1) ao1 N1 c1 db1 do1 G1) := Lib.hid fun h => ⟨rfl, I1.out.le, I1.out.max, I1.out.ao, I1.out.rd.keep h, I1.out.wf⟩
  have HK2 : Hid (∀ {w' : World} {L : List Res}, Tr w [] w' L → Ints w' (.slice ao2 N2 c2) ao2 N2 c2 db2 do2 G2) := Lib.hid fun h => ⟨rfl, I2.out.le, I2.out.max, I2.out.ao, I2.out.rd.keep h, I2.out.wf⟩
  clear hR g1 g2
  go_enter Tryd.func3, Tryd.ntmps3
  go_upto_region 2 with (first | ((with_reducible refine at_box (t := 26) rfl ?_); refine wl_boxA hs rfl rfl rfl ?_; clear hs; intro w1 xb hs) | (go_at_call 9; refine (awake_any _ (HR.out.keep hs)).mono ?_; rintro e w2 ⟨rfl, hc⟩; replace hs := hs.call0 hc; clear hc))
  go_upto_region 3 with (first | ((with_reducible refine at_load rfl ?_); refine wl_load1 hs rfl rfl Tryd.underlying24 rfl rfl 0 rfl rfl ?_) | (go_at_call 10; refine (lend_any ao1 N1 c1 db1 do1 G1 _ hN1 I1.out.ao (I1.out.rd.keep hs)).mono ?_; rintro e w2 ⟨ba, rfl, hc⟩; replace hs := hs.call1 hc; clear hc))
  go_upto_region 4 with (first | ((with_reducible refine at_load rfl ?_); refine wl_load1 hs rfl rfl Tryd.underlying24 rfl rfl 1 rfl rfl ?_) | (go_at_call 10; refine (lend_any ao2 N2 c2 db2 do2 G2 _ hN2 I2.out.ao (I2.out.rd.keep hs)).mono ?_; rintro e w2 ⟨bb, rfl, hc⟩; replace hs := hs.call1 hc; clear hc))
  refine wt_enter 18 rfl hs (by kernel_rfl) ?_
  clear hs; intro w1 hs; have hC := hs
  refine wt_take 0 rfl (by kernel_rfl) (by kernel_rfl) (by kernel_rfl) (fun _ _ _ _ h => h) rfl hC ⟨_, fun w hw => by (go_simp; try with_reducible rfl), fun a1 ha => ?_⟩
  simp only [Act.put, List.setIfInBounds_toArray, List.set_cons_succ, List.set_cons_zero] at ha; subst ha
  refine wt_take 1 rfl (by kernel_rfl) (by kernel_rfl) (by kernel_rfl) (fun _ _ _ _ h => h) rfl hC ⟨_, fun w hw => ex_load2 rfl Tryd.underlying23 rfl size23 rfl (by rw [cell_of_row w _ _ _ _ (0, 0) (hw.getB 2 rfl)]; rfl) (by rw [cell_of_row w _ _ _ _ (0, 0) (hw.getB 2 rfl)]; rfl), fun a1 ha => ?_⟩
  simp only [Act.put, List.setIfInBounds_toArray, List.set_cons_succ, List.set_cons_zero] at ha; subst ha
  refine wt_take 2 rfl (by kernel_rfl) (by kernel_rfl) (by kernel_rfl) (fun _ _ _ _ h => h) rfl hC ⟨_, fun w hw => by (go_simp; try with_reducible rfl), fun a1 ha => ?_⟩
  simp only [Act.put, List.setIfInBounds_toArray, List.set_cons_succ, List.set_cons_zero] at ha; subst ha
  refine wt_take 3 rfl (by kernel_rfl) (by kernel_rfl) (by kernel_rfl) (fun _ _ _ _ h => h) rfl hC ⟨_, fun w hw => by (go_simp; try with_reducible rfl), fun a1 ha => ?_⟩
  simp only [Act.put, List.setIfInBounds_toArray, List.set_cons_succ, List.set_cons_zero] at ha; subst ha
  refine wt_take 4 rfl (by kernel_rfl) (by kernel_rfl) (by kernel_rfl) (fun _ _ _ _ h => h) rfl hC ⟨_, fun w hw => ex_load1 rfl Tryd.underlying24 rfl rfl (by rw [cell_of_row w _ _ _ _ (0, 0) (hw.getB 2 rfl)]; rfl), fun a1 ha => ?_⟩
  simp only [Act.put, List.setIfInBounds_toArray, List.set_cons_succ, List.set_cons_zero] at ha; subst ha
  refine wt_take 5 rfl (by kernel_rfl) (by kernel_rfl) (by kernel_rfl) (fun _ _ _ _ h => h) rfl hC ⟨_, fun w hw => by (go_simp; try with_reducible rfl), fun a1 ha => ?_⟩
  simp only [Act.put, List.setIfInBounds_toArray, List.set_cons_succ, List.set_cons_zero] at ha; subst ha
  refine wt_takeSlice 6 rfl (by kernel_rfl) (by kernel_rfl) (by kernel_rfl) (fun _ _ _ _ h => h) rfl hC rfl Tryd.underlying24 size3 rfl (0) (N1) (Or.inl ⟨rfl, rfl⟩) (Or.inr ⟨_, _, rfl, rfl⟩) (by omega) (by omega) (fun h => rfl) ?_
  intro aoA haoA a1 ha; replace haoA := Lib.hid haoA
  simp only [Act.put, List.setIfInBounds_toArray, List.set_cons_succ, List.set_cons_zero] at ha; subst ha
  refine wt_take 7 rfl (by kernel_rfl) (by kernel_rfl) (by kernel_rfl) (fun _ _ _ _ h => h) rfl hC ⟨_, fun w hw => by (go_simp; try with_reducible rfl), fun a1 ha => ?_⟩
  simp only [Act.put, List.setIfInBounds_toArray, List.set_cons_succ, List.set_cons_zero] at ha; subst ha
  refine wt_take 8 rfl (by kernel_rfl) (by kernel_rfl) (by kernel_rfl) (fun _ _ _ _ h => h) rfl hC ⟨_, fun w hw => by (go_simp; try with_reducible rfl), fun a1 ha => ?_⟩
  simp only [Act.put, List.setIfInBounds_toArray, List.set_cons_succ, List.set_cons_zero] at ha; subst ha
  refine wt_take 9 rfl (by kernel_rfl) (by kernel_rfl) (by kernel_rfl) (fun _ _ _ _ h => h) rfl hC ⟨_, fun w hw => ex_load1 rfl Tryd.underlying24 rfl rfl (by rw [cell_of_row w _ _ _ _ (0, 0) (hw.getB 2 rfl)]; rfl), fun a1 ha => ?_⟩
  simp only [Act.put, List.setIfInBounds_toArray, List.set_cons_succ, List.set_cons_zero] at ha; subst ha
  refine wt_take 10 rfl (by kernel_rfl) (by kernel_rfl) (by kernel_rfl) (fun _ _ _ _ h => h) rfl hC ⟨_, fun w hw => by (go_simp; try with_reducible rfl), fun a1 ha => ?_⟩
  simp only [Act.put, List.setIfInBounds_toArray, List.set_cons_succ, List.set_cons_zero] at ha; subst ha
  refine wt_takeSlice 11 rfl (by kernel_rfl) (by kernel_rfl) (by kernel_rfl) (fun _ _ _ _ h => h) rfl hC rfl Tryd.underlying24 size3 rfl (0) (N2) (Or.inl ⟨rfl, rfl⟩) (Or.inr ⟨_, _, rfl, rfl⟩) (by omega) (by omega) (fun h => rfl) ?_
  intro aoB haoB a1 ha; replace haoB := Lib.hid haoB
  simp only [Act.put, List.setIfInBounds_toArray, List.set_cons_succ, List.set_cons_zero] at ha; subst ha
  refine wt_one 12 (by kernel_rfl) ?_
  refine wt_call0 hs rfl rfl (by go_simp) (HS.out _ _ _ _ _ _ _ (lent_ints (hs.getB 1 rfl) hN1 haoA.out I1.out.wf) (lent_ints (hs.getB 0 rfl) hN2 haoB.out I2.out.wf)) (by simp only [Act.put, List.setIfInBounds_toArray, List.set_cons_succ, List.set_cons_zero]; rfl) ?_
  clear hs; intro w1 hs
  refine wt_and (hs.sub (by repeat (first | exact List.Sublist.refl _ | refine List.Sublist.cons_cons _ ?_ | refine List.Sublist.cons _ ?_))) fun hC => ?_
  refine wt_take 13 rfl (by kernel_rfl) (by kernel_rfl) (by kernel_rfl) (fun _ _ _ _ h => h) rfl hC ⟨_, fun w hw => by (go_simp; try with_reducible rfl), fun a1 ha => ?_⟩
  simp only [Act.put, List.setIfInBounds_toArray, List.set_cons_succ, List.set_cons_zero] at ha; subst ha
  refine wt_take 14 rfl (by kernel_rfl) (by kernel_rfl) (by kernel_rfl) (fun _ _ _ _ h => h) rfl hC ⟨_, fun w hw => by (go_simp; try with_reducible rfl), fun a1 ha => ?_⟩
  simp only [Act.put, List.setIfInBounds_toArray, List.set_cons_succ, List.set_cons_zero] at ha; subst ha
  refine wt_take 15 rfl (by kernel_rfl) (by kernel_rfl) (by kernel_rfl) (fun _ _ _ _ h => h) rfl hC ⟨_, fun w hw => by (go_simp; try with_reducible rfl), fun a1 ha => ?_⟩
  simp only [Act.put, List.setIfInBounds_toArray, List.set_cons_succ, List.set_cons_zero] at ha; subst ha
  refine wt_take 16 rfl (by kernel_rfl) (by kernel_rfl) (by kernel_rfl) (fun _ _ _ _ h => h) rfl hC ⟨_, fun w hw => by (go_simp; try with_reducible rfl), fun a1 ha => ?_⟩
  simp only [Act.put, List.setIfInBounds_toArray, List.set_cons_succ, List.set_cons_zero] at ha; subst ha
  refine wt_take 17 rfl (by kernel_rfl) (by kernel_rfl) (by kernel_rfl) (fun _ _ _ _ h => h) rfl hC ⟨_, fun w hw => by (go_simp; try with_reducible rfl), fun a1 ha => ?_⟩
  simp only [Act.put, List.setIfInBounds_toArray, List.set_cons_succ, List.set_cons_zero] at ha; subst ha
  refine wt_done (by kernel_rfl) ?_
  skip
  clear hC
  go_upto_region 6 with (first | ((with_reducible refine at_load rfl ?_); refine wl_load1 hs rfl rfl Tryd.underlying24 rfl rfl 2 rfl rfl ?_) | (go_at_call 12; refine (kept_any ba ao1 N1 c1 db1 do1 G1 _ hN1 I1.out.ao (I1.out.rd.keep hs) (hs.rd0 1 rfl (Nat.le_refl _))).mono ?_; rintro e w2 ⟨rfl, hc⟩; replace hs := hs.call0 hc; clear hc))
  go_upto_region 7 with (first | ((with_reducible refine at_load rfl ?_); refine wl_load1 hs rfl rfl Tryd.underlying24 rfl rfl 2 rfl rfl ?_) | (go_at_call 12; refine (kept_any bb ao2 N2 c2 db2 do2 G2 _ hN2 I2.out.ao (I2.out.rd.keep hs) (hs.rd0 0 rfl (Nat.le_refl _))).mono ?_; rintro e w2 ⟨rfl, hc⟩; replace hs := hs.call0 hc; clear hc))
  go_wp2_with (first
    | ((with_reducible refine at_load rfl ?_); refine wl_load1 hs rfl rfl Tryd.underlying24 rfl rfl 2 rfl rfl ?_)
    | ((with_reducible refine (at_load (t := 23)) rfl ?_); refine wl_load2 rfl rfl Tryd.underlying23 rfl size23 rfl (by rw [cell_of_row _ xb 0 _ _ (0, 0) (hs.getB 2 rfl)]; rfl) (by rw [cell_of_row _ xb 1 _ _ (0, 0) (hs.getB 2 rfl)]; rfl) ?_)
    | (go_at_call 13; refine (HN.out _ (HK1.out hs) (HK2.out hs)).mono ?_; rintro e w2 ⟨rfl, hc⟩; replace hs := hs.call0 hc; clear hc))
  go_ret
  exact ⟨rfl, hs.letgo⟩
theorem neq_no (r0 : Nat) : intOf (.int .i64 (r0 : Int)) = r0 := rfl
set_option maxRecDepth 100000 in
set_option maxHeartbeats 8000000 in
theorem news_yes (n m : Nat) (hmay : 8 ≤ n ∧ n ≤ 4096 ∧ 1 ≤ m ∧ m ≤ 512 ∧ m + 2 ≤ n) (N1 c1 N2 c2 db1 do1 db2 do2 : Nat) (ao1 ao2 : Option Addr) (G1 G2 : Nat → Int) (w : World) (hN1 : N1 * 8 ≤ 140737488351232) (hN2 : N2 * 8 ≤ 140737488351232)
    (g1 : Ints w (.slice ao1 N1 c1) ao1 N1 c1 db1 do1 G1) (g2 : Ints w (.slice ao2 N2 c2) ao2 N2 c2 db2 do2 G2)
    (hok1 : ∀ k, k < N1 → okF (m + 1) 1 (stF (fun _ => false) G1 k) (G1 k)) (hok2 : ∀ k, k < N2 → okF n (m + 1) (stF (fun _ => false) G2 k) (G2 k)) (hR : Rd w 0 0 64 tabV) :
    Calls Tryd.prog 3 #[.agg #[.int .i64 n, .int .i64 m, .slice ao1 N1 c1, .slice ao2 N2 c2]] w fun e w' => e = .returned (.bool true) ∧ Tr w [] w' [] := by
  have hs := Tr.refl w []
  have HR := Lib.hid hR
  have I1 := Lib.hid g1
  have I2 := Lib.hid g2
  have HK1 : Hid (∀ {w' : World} {L : List Res}, Tr w [] w' L → Ints w' (.slice ao1 N1 c1) ao1 N1 c1 db1 do1 G1) := Lib.hid fun h => ⟨rfl, I1.out.le, I1.out.max, I1.out.ao, I1.out.rd.keep h, I1.out.wf⟩
  have HK2 : Hid (∀ {w' : World} {L : List Res}, Tr w [] w' L → Ints w' (.slice ao2 N2 c2) ao2 N2 c2 db2 do2 G2) := Lib.hid fun h => ⟨rfl, I2.out.le, I2.out.max, I2.out.ao, I2.out.rd.keep h, I2.out.wf⟩
  have HMAY := Lib.hid hmay
  have HO1 := Lib.hid hok1
  have HO2 := Lib.hid hok2
  obtain ⟨h1, h2, h3, h4, h5⟩ := hmay
  clear hR g1 g2 hok1 hok2
  go_enter Tryd.func3, Tryd.ntmps3
  go_upto_region 2 with (first | ((with_reducible refine at_box (t := 26) rfl ?_); refine wl_boxA hs rfl rfl rfl ?_; clear hs; intro w1 xb hs) | (go_at_call 9; refine (awake_any _ (HR.out.keep hs)).mono ?_; rintro e w2 ⟨rfl, hc⟩; replace hs := hs.call0 hc; clear hc))
  go_upto_region 3 with (first | ((with_reducible refine at_load rfl ?_); refine wl_load1 hs rfl rfl Tryd.underlying24 rfl rfl 0 rfl rfl ?_) | (go_at_call 10; refine (lend_any ao1 N1 c1 db1 do1 G1 _ hN1 I1.out.ao (I1.out.rd.keep hs)).mono ?_; rintro e w2 ⟨ba, rfl, hc⟩; replace hs := hs.call1 hc; clear hc))
  go_upto_region 4 with (first | ((with_reducible refine at_load rfl ?_); refine wl_load1 hs rfl rfl Tryd.underlying24 rfl rfl 1 rfl rfl ?_) | (go_at_call 10; refine (lend_any ao2 N2 c2 db2 do2 G2 _ hN2 I2.out.ao (I2.out.rd.keep hs)).mono ?_; rintro e w2 ⟨bb, rfl, hc⟩; replace hs := hs.call1 hc; clear hc))
  refine wt_enter 18 rfl hs (by kernel_rfl) ?_
  clear hs; intro w1 hs; have hC := hs
  refine wt_take 0 rfl (by kernel_rfl) (by kernel_rfl) (by kernel_rfl) (fun _ _ _ _ h => h) rfl hC ⟨_, fun w hw => by (go_simp; try with_reducible rfl), fun a1 ha => ?_⟩
  simp only [Act.put, List.setIfInBounds_toArray, List.set_cons_succ, List.set_cons_zero] at ha; subst ha
  refine wt_take 1 rfl (by kernel_rfl) (by kernel_rfl) (by kernel_rfl) (fun _ _ _ _ h => h) rfl hC ⟨_, fun w hw => ex_load2 rfl Tryd.underlying23 rfl size23 rfl (by rw [cell_of_row w _ _ _ _ (0, 0) (hw.getB 2 rfl)]; rfl) (by rw [cell_of_row w _ _ _ _ (0, 0) (hw.getB 2 rfl)]; rfl), fun a1 ha => ?_⟩
  simp only [Act.put, List.setIfInBounds_toArray, List.set_cons_succ, List.set_cons_zero] at ha; subst ha
  refine wt_take 2 rfl (by kernel_rfl) (by kernel_rfl) (by kernel_rfl) (fun _ _ _ _ h => h) rfl hC ⟨_, fun w hw => by (go_simp; try with_reducible rfl), fun a1 ha => ?_⟩
  simp only [Act.put, List.setIfInBounds_toArray, List.set_cons_succ, List.set_cons_zero] at ha; subst ha
  refine wt_take 3 rfl (by kernel_rfl) (by kernel_rfl) (by kernel_rfl) (fun _ _ _ _ h => h) rfl hC ⟨_, fun w hw => by (go_simp; try with_reducible rfl), fun a1 ha => ?_⟩
  simp only [Act.put, List.setIfInBounds_toArray, List.set_cons_succ, List.set_cons_zero] at ha; subst ha
  refine wt_take 4 rfl (by kernel_rfl) (by kernel_rfl) (by kernel_rfl) (fun _ _ _ _ h => h) rfl hC ⟨_, fun w hw => ex_load1 rfl Tryd.underlying24 rfl rfl (by rw [cell_of_row w _ _ _ _ (0, 0) (hw.getB 2 rfl)]; rfl), fun a1 ha => ?_⟩
  simp only [Act.put, List.setIfInBounds_toArray, List.set_cons_succ, List.set_cons_zero] at ha; subst ha
  refine wt_take 5 rfl (by kernel_rfl) (by kernel_rfl) (by kernel_rfl) (fun _ _ _ _ h => h) rfl hC ⟨_, fun w hw => by (go_simp; try with_reducible rfl), fun a1 ha => ?_⟩
  simp only [Act.put, List.setIfInBounds_toArray, List.set_cons_succ, List.set_cons_zero] at ha; subst ha
  refine wt_takeSlice 6 rfl (by kernel_rfl) (by kernel_rfl) (by kernel_rfl) (fun _ _ _ _ h => h) rfl hC rfl Tryd.underlying24 size3 rfl (0) (N1) (Or.inl ⟨rfl, rfl⟩) (Or.inr ⟨_, _, rfl, rfl⟩) (by omega) (by omega) (fun h => rfl) ?_
  intro aoA haoA a1 ha; replace haoA := Lib.hid haoA
  simp only [Act.put, List.setIfInBounds_toArray, List.set_cons_succ, List.set_cons_zero] at ha; subst ha
  refine wt_take 7 rfl (by kernel_rfl) (by kernel_rfl) (by kernel_rfl) (fun _ _ _ _ h => h) rfl hC ⟨_, fun w hw => by (go_simp; try with_reducible rfl), fun a1 ha => ?_⟩
  simp only [Act.put, List.setIfInBounds_toArray, List.set_cons_succ, List.set_cons_zero] at ha; subst ha
  refine wt_take 8 rfl (by kernel_rfl) (by kernel_rfl) (by kernel_rfl) (fun _ _ _ _ h => h) rfl hC ⟨_, fun w hw => by (go_simp; try with_reducible rfl), fun a1 ha => ?_⟩
  simp only [Act.put, List.setIfInBounds_toArray, List.set_cons_succ, List.set_cons_zero] at ha; subst ha
  refine wt_take 9 rfl (by kernel_rfl) (by kernel_rfl) (by kernel_rfl) (fun _ _ _ _ h => h) rfl hC ⟨_, fun w hw => ex_load1 rfl Tryd.underlying24 rfl rfl (by rw [cell_of_row w _ _ _ _ (0, 0) (hw.getB 2 rfl)]; rfl), fun a1 ha => ?_⟩
  simp only [Act.put, List.setIfInBounds_toArray, List.set_cons_succ, List.set_cons_zero] at ha; subst ha
  refine wt_take 10 rfl (by kernel_rfl) (by kernel_rfl) (by kernel_rfl) (fun _ _ _ _ h => h) rfl hC ⟨_, fun w hw => by (go_simp; try with_reducible rfl), fun a1 ha => ?_⟩
  simp only [Act.put, List.setIfInBounds_toArray, List.set_cons_succ, List.set_cons_zero] at ha; subst ha
  refine wt_takeSlice 11 rfl (by kernel_rfl) (by kernel_rfl) (by kernel_rfl) (fun _ _ _ _ h => h) rfl hC rfl Tryd.underlying24 size3 rfl (0) (N2) (Or.inl ⟨rfl, rfl⟩) (Or.inr ⟨_, _, rfl, rfl⟩) (by omega) (by omega) (fun h => rfl) ?_
  intro aoB haoB a1 ha; replace haoB := Lib.hid haoB
  simp only [Act.put, List.setIfInBounds_toArray, List.set_cons_succ, List.set_cons_zero] at ha; subst ha
  refine wt_one 12 (by kernel_rfl) ?_
  refine wt_call rfl rfl (by go_simp) ((snew_yes HMAY.out (lent_ints (hs.getB 1 rfl) hN1 haoA.out I1.out.wf) (lent_ints (hs.getB 0 rfl) hN2 haoB.out I2.out.wf) HO1.out HO2.out).mono ?_)
  rintro e w2 ⟨p, b, bs, ii, is, q, rfl, hc⟩
  refine ⟨_, rfl, fun a2 ha2 => ?_⟩
  simp only [Act.put, List.setIfInBounds_toArray, List.set_cons_succ, List.set_cons_zero] at ha2; subst ha2
  replace hs := hs.call1 hc; clear hc
  refine wt_and (hs.sub (by repeat (first | exact List.Sublist.refl _ | refine List.Sublist.cons_cons _ ?_ | refine List.Sublist.cons _ ?_))) fun hC => ?_
  refine wt_take 13 rfl (by kernel_rfl) (by kernel_rfl) (by kernel_rfl) (fun _ _ _ _ h => h) rfl hC ⟨_, fun w hw => by (go_simp; try with_reducible rfl), fun a1 ha => ?_⟩
  simp only [Act.put, List.setIfInBounds_toArray, List.set_cons_succ, List.set_cons_zero] at ha; subst ha
  refine wt_take 14 rfl (by kernel_rfl) (by kernel_rfl) (by kernel_rfl) (fun _ _ _ _ h => h) rfl hC ⟨_, fun w hw => by (go_simp; try with_reducible rfl), fun a1 ha => ?_⟩
  simp only [Act.put, List.setIfInBounds_toArray, List.set_cons_succ, List.set_cons_zero] at ha; subst ha
  refine wt_take 15 rfl (by kernel_rfl) (by kernel_rfl) (by kernel_rfl) (fun _ _ _ _ h => h) rfl hC ⟨_, fun w hw => by (go_simp; try with_reducible rfl), fun a1 ha => ?_⟩
  simp only [Act.put, List.setIfInBounds_toArray, List.set_cons_succ, List.set_cons_zero] at ha; subst ha
  refine wt_take 16 rfl (by kernel_rfl) (by kernel_rfl) (by kernel_rfl) (fun _ _ _ _ h => h) rfl hC ⟨_, fun w hw => by (go_simp; try with_reducible rfl), fun a1 ha => ?_⟩
  simp only [Act.put, List.setIfInBounds_toArray, List.set_cons_succ, List.set_cons_zero] at ha; subst ha
  refine wt_take 17 rfl (by kernel_rfl) (by kernel_rfl) (by kernel_rfl) (fun _ _ _ _ h => h) rfl hC ⟨_, fun w hw => by (go_simp; try with_reducible rfl), fun a1 ha => ?_⟩
  simp only [Act.put, List.setIfInBounds_toArray, List.set_cons_succ, List.set_cons_zero] at ha; subst ha
  refine wt_done (by kernel_rfl) ?_
  skip
  clear hC
  go_upto_region 6 with (first | ((with_reducible refine at_load rfl ?_); refine wl_load1 hs rfl rfl Tryd.underlying24 rfl rfl 3 rfl rfl ?_) | (go_at_call 12; refine (kept_any ba ao1 N1 c1 db1 do1 G1 _ hN1 I1.out.ao (I1.out.rd.keep hs) (hs.rd0 2 rfl (Nat.le_refl _))).mono ?_; rintro e w2 ⟨rfl, hc⟩; replace hs := hs.call0 hc; clear hc))
  go_upto_region 7 with (first | ((with_reducible refine at_load rfl ?_); refine wl_load1 hs rfl rfl Tryd.underlying24 rfl rfl 3 rfl rfl ?_) | (go_at_call 12; refine (kept_any bb ao2 N2 c2 db2 do2 G2 _ hN2 I2.out.ao (I2.out.rd.keep hs) (hs.rd0 1 rfl (Nat.le_refl _))).mono ?_; rintro e w2 ⟨rfl, hc⟩; replace hs := hs.call0 hc; clear hc))
  go_upto_region 12 with (first
    | ((with_reducible refine at_load rfl ?_); refine wl_load1 hs rfl rfl Tryd.underlying24 rfl rfl 3 rfl rfl ?_)
    | ((with_reducible refine (at_load (t := 23)) rfl ?_); refine wl_load2 rfl rfl Tryd.underlying23 rfl size23 rfl (by rw [cell_of_row _ xb 0 _ _ (0, 0) (hs.getB 3 rfl)]; rfl) (by rw [cell_of_row _ xb 1 _ _ (0, 0) (hs.getB 3 rfl)]; rfl) ?_)
    | (go_at_call 13; refine (rnew_yes HMAY.out (HK1.out hs) (HK2.out hs) HO1.out HO2.out).mono ?_; rintro e w2 ⟨rp, rb, ri, rfl, hc⟩; replace hs := hs.call1 hc; clear hc))
  go_upto_region 13 with (first | (go_at_call 14; refine (spoil_any ba (N1 + 20) (lentF G1 N1) _ (by omega) (hs.getB 3 rfl)).mono ?_; rintro e w2 ⟨rfl, hc⟩; replace hs := hs.updB 3 rfl hc; clear hc))
  go_upto_region 14 with (first | (go_at_call 14; refine (spoil_any bb (N2 + 20) (lentF G2 N2) _ (by omega) (hs.getB 2 rfl)).mono ?_; rintro e w2 ⟨rfl, hc⟩; replace hs := hs.updB 2 rfl hc; clear hc))
  have HB0 := Lib.hid (newB_two G2 N2)
  generalize newB G2 N2 = B0' at *
  generalize newI G1 N1 = I0' at *
  go_wp2_with fail
  have hs1 : Tr w [] _ [refS rp rb ri n m B0' I0', spaceR p b bs ii is q n m B0' I0', _, _, Res.blk xb #[.int .i64 n, .int .i64 m, .slice ao1 N1 c1, .slice ao2 N2 c2] 26] := hs
  clear hs
  have hs := hs1.sub (List.Sublist.cons_cons _ (List.Sublist.cons_cons _ (List.Sublist.cons _ (List.Sublist.cons _ (List.Sublist.refl _)))))
  clear hs1
  go_loopw [12] (fun i wr => ∃ q0 : Int, -1 ≤ q0 ∧ q0 ≤ m + 2 ∧ i = .int .i64 q0 ∧ Tr w [] wr [refS rp rb ri n m B0' I0', spaceR p b bs ii is q n m B0' I0', Res.blk xb #[.int .i64 n, .int .i64 m, .slice ao1 N1 c1, .slice ao2 N2 c2] 26]) (fun i _ => ((m : Int) + 2 - intOf i).toNat)
  case atStart => exact ⟨-1, by omega, by omega, rfl, hs⟩
  case round =>
    clear hs
    obtain ⟨q0, hq1, hq2, rfl, hs⟩ := hrel
    by_cases hq : q0 ≤ (m : Int) + 1
    · have HU := Lib.hid (fun w h => used_any (p := p) (b := b) (bs := bs) (i := ii) (is := is) (q := q) (n := n) (m := m) (w := w) (B := B0') (I := I0') q0 h4 h)
      have HRU := Lib.hid (fun w h => rused_any (p := rp) (b := rb) (i := ri) (n := n) (m := m) (w := w) (B := B0') (I := I0') q0 h)
      generalize usedI m I0' q0 = z at *
      cases z
      all_goals
        go_wp2_with (first
          | ((with_reducible refine at_load rfl ?_); refine wl_load1 hs rfl rfl Tryd.underlying3 rfl rfl 2 rfl rfl ?_)
          | (go_at_call 15; refine (HU.out _ (hs.get 1 rfl)).mono ?_; rintro e w2 ⟨rfl, hc⟩; replace hs := hs.call0 hc; clear hc)
          | (go_at_call 16; refine (HRU.out _ (hs.get 0 rfl)).mono ?_; rintro e w2 ⟨rfl, hc⟩; replace hs := hs.call0 hc; clear hc))
        go_roundw
        case rel => exact ⟨q0 + 1, by omega, by omega, by go_num, hs⟩
        case measure => simp [intOf]; omega
    · have hq3 : (m : Int) + 1 < q0 := by omega
      have HM := Lib.hid (fun w h => room_any (p := p) (b := b) (bs := bs) (i := ii) (is := is) (q := q) (n := n) (m := m) (w := w) h2 h4 HB0.out (I := I0') h)
      have HRM := Lib.hid (fun w h => rroom_any (p := rp) (b := rb) (i := ri) (n := n) (m := m) (w := w) h2 h4 (by omega) HB0.out (I := I0') h)
      rw [roomV] at HM HRM
      generalize cntP (rB n m B0') n = ra at HM HRM
      generalize cntP (fL n m B0') n = rl at HM HRM
      generalize cntP (rI I0') (m + 1) = rc at HM HRM
      go_upto_region 22 with (first
        | ((with_reducible refine at_load rfl ?_); refine wl_load1 hs rfl rfl Tryd.underlying3 rfl rfl 2 rfl rfl ?_)
        | (go_at_call 17; refine (HM.out _ (hs.get 1 rfl)).mono ?_; rintro e w2 ⟨rfl, hc⟩; replace hs := hs.call0 hc; clear hc)
        | (go_at_call 18; refine (HRM.out _ (hs.get 0 rfl)).mono ?_; rintro e w2 ⟨rfl, hc⟩; replace hs := hs.call0 hc; clear hc))
      clear HM HRM hq hq1 hq2 hq3
      go_loopw [14] (fun v wr => ∃ (B : Nat → Nat) (r0 : Nat), intOf v = r0 ∧ r0 < n ∧ (∀ j, B j ≤ 2) ∧ (∀ j, m < j → j ≤ r0 → B j ≠ 0) ∧ Tr w [] wr [refS rp rb ri n m B I0', spaceR p b bs ii is q n m B I0', Res.blk xb #[.int .i64 n, .int .i64 m, .slice ao1 N1 c1, .slice ao2 N2 c2] 26]) (fun v _ => n - (intOf v).toNat)
      case atStart => exact ⟨B0', 0, rfl, by omega, HB0.out, fun j a b => by omega, hs⟩
      case round =>
        clear hs
        obtain ⟨B, r0, hr0, hrn, hB2, hBr, hs⟩ := hrel
        have HI0 := Lib.hid hr0
        rcases free_ex n m B with ⟨f, hf1, hf2, hf0, hfu⟩ | hall
        · have hrf : r0 < f := by
            rcases Nat.lt_or_ge r0 f with h | h
            · exact h
            · exact absurd hf0 (hBr f hf1 h)
          have HTK := Lib.hid (fun w hR h => take_yes (p := p) (b := b) (bs := bs) (i := ii) (is := is) (q := q) (n := n) (m := m) (w := w) (B := B) (I := I0') f h2 hf1 hf2 hf0 hfu hR h)
          have HRT := Lib.hid (fun w h => (rtake_any (p := rp) (b := rb) (i := ri) (n := n) (m := m) (w := w) (B := B) (I := I0') h2 (by omega) f hf1 (by omega) hfu (fun _ => hf0) h).mono fun e w' hp => hp.1 hf2)
          have HT2 := Lib.hid (setB_two (k := f) (v := 1) hB2 (by omega))
          have HN2 : Hid (∀ j, m < j → j ≤ f → setB B f 1 j ≠ 0) := Lib.hid fun j a b => by
            rcases Nat.lt_or_ge j f with h | h
            · rw [setB_off (by omega)]; exact hfu j a h
            · obtain rfl : j = f := by omega
              rw [setB_at]; omega
          clear hB2 hBr hfu hr0 hf0
          go_wp2_with (first
            | (go_at_call 19; refine (HTK.out _ (HR.out.keep hs) (hs.get 1 rfl)).mono ?_; rintro e w2 ⟨rfl, hc⟩; replace hs := hs.upd 1 rfl hc; clear hc)
            | (go_at_call 20; refine (HRT.out _ (hs.get 0 rfl)).mono ?_; rintro e w2 ⟨rfl, hc⟩; replace hs := hs.upd 0 rfl hc; clear hc))
          go_roundw
          case rel => exact ⟨setB B f 1, f, rfl, hf2, HT2.out, HN2.out, hs⟩
          case measure => rw [HI0.out]; simp [intOf]; omega
        · have HTK := Lib.hid (fun w hR h => take_no (p := p) (b := b) (bs := bs) (i := ii) (is := is) (q := q) (n := n) (m := m) (w := w) (B := B) (I := I0') h2 hall hR h)
          have HRT := Lib.hid (fun w h => (rtake_any (p := rp) (b := rb) (i := ri) (n := n) (m := m) (w := w) (B := B) (I := I0') h2 (by omega) n (by omega) (Nat.le_refl _) hall (fun h => by omega) h).mono fun e w' hp => hp.2 rfl)
          have HM := Lib.hid (fun w h => room_any (p := p) (b := b) (bs := bs) (i := ii) (is := is) (q := q) (n := n) (m := m) (w := w) h2 h4 hB2 (I := I0') h)
          have HRM := Lib.hid (fun w h => rroom_any (p := rp) (b := rb) (i := ri) (n := n) (m := m) (w := w) h2 h4 (by omega) hB2 (I := I0') h)
          rw [roomV] at HM HRM
          generalize cntP (rB n m B) n = ra at HM HRM
          generalize cntP (fL n m B) n = rl at HM HRM
          generalize cntP (rI I0') (m + 1) = rc at HM HRM
          clear hall hB2 hBr hr0
          go_wp2_with (first
            | (go_at_call 19; refine (HTK.out _ (HR.out.keep hs) (hs.get 1 rfl)).mono ?_; rintro e w2 ⟨rfl, hc⟩; replace hs := hs.call0 hc; clear hc)
            | (go_at_call 20; refine (HRT.out _ (hs.get 0 rfl)).mono ?_; rintro e w2 ⟨rfl, hc⟩; replace hs := hs.upd 0 rfl hc; clear hc)
            | (go_at_call 17; refine (HM.out _ (hs.get 1 rfl)).mono ?_; rintro e w2 ⟨rfl, hc⟩; replace hs := hs.call0 hc; clear hc)
            | (go_at_call 18; refine (HRM.out _ (hs.get 0 rfl)).mono ?_; rintro e w2 ⟨rfl, hc⟩; replace hs := hs.call0 hc; clear hc))
          go_ret
          exact ⟨rfl, hs.letgo⟩
end Go.Proofs.YtfedfdcbhggipaaDoor
