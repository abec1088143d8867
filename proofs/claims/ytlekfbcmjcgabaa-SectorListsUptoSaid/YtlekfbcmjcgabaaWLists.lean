/- Lists: the walk. -/
import Derived.Test.YtlekfbcmjcgabaaLs
namespace Go.Proofs.Ytlekfbcmjcgabaa
set_option linter.unusedVariables false
set_option linter.unusedSimpArgs false
open Go Go.Sp Go.RowKit

set_option maxRecDepth 100000 in
set_option maxHeartbeats 4000000 in
theorem lists_core (A B CA CB C D : Nat → UInt8) (N : Int) (na nb ma mb m K ca cb : Nat) (ao bo : Option Addr) (db doff eb eoff : Nat) (w : World)
    (h1 : na ≤ 1048576) (h2 : nb ≤ 1048576) (hma : ma ≤ 10000) (hmb : mb ≤ 10000) (hm : ma + mb = m) (hN1 : -9223372036854775808 ≤ N) (hN2 : N ≤ 9223372036854775807) (hK : K = min N.toNat (m * 128)) (hca : na ≤ ca)
    (hao : 0 < na → ao = some ⟨db, doff, none⟩) (hbo : 0 < nb → bo = some ⟨eb, eoff, none⟩) (hrA : Rd w db doff na (u8v A)) (hrB : Rd w eb eoff nb (u8v B))
    (HCA : Hid (∀ ao2 c2 b off w', na ≤ c2 → (0 < na → ao2 = some ⟨b, off, none⟩) → Rd w' b off na (u8v A) → Calls Try.prog 14 #[.slice ao2 na c2] w' fun e w'' => ∃ v, e = .returned v ∧ Tr w' [] w'' [Res.own 30 128 v ma (rowOf (ma * 128) (u8v CA)).toList]))
    (HCB : Hid (∀ ao2 c2 b off w', nb ≤ c2 → (0 < nb → ao2 = some ⟨b, off, none⟩) → Rd w' b off nb (u8v B) → Calls Try.prog 14 #[.slice ao2 nb c2] w' fun e w'' => ∃ v, e = .returned v ∧ Tr w' [] w'' [Res.own 30 128 v mb (rowOf (mb * 128) (u8v CB)).toList]))
    (HRA : Hid (∀ w', Rd w' db doff na (u8v A) → Calls Try.prog 16 #[.slice ao na ca] w' fun e w'' => ∃ v, e = .returned v ∧ Tr w' [] w'' [Res.own 30 128 v ma (rowOf (ma * 128) (u8v CA)).toList]))
    (HRB : Hid (∀ w', Rd w' eb eoff nb (u8v B) → Calls Try.prog 16 #[.slice bo nb cb] w' fun e w'' => ∃ v, e = .returned v ∧ Tr w' [] w'' [Res.own 30 128 v mb (rowOf (mb * 128) (u8v CB)).toList]))
    (HC : Hid (∀ v, Res.own 30 128 v (0 + ma + mb) ([] ++ (rowOf (ma * 128) (u8v CA)).toList ++ (rowOf (mb * 128) (u8v CB)).toList) = Res.own 30 128 v m (rowOf (m * 128) (u8v C)).toList))
    (HD : Hid (∀ v, Res.own 30 128 v (0 + m + 1) ([] ++ (rowOf (m * 128) (u8v C)).toList ++ (rowOf 128 (u8v fun _ => 77)).toList) = Res.own 30 128 v (m + 1) (rowOf ((m + 1) * 128) (u8v D)).toList))
    (HDC : Hid (∀ i, i < m * 128 → D i = C i)) (HEQ : Hid ((!eqB 128 (fun j => D (m * 128 + j)) fun _ => 77) = false)) :
    Calls Try.prog 4 #[.slice ao na ca, .slice bo nb cb, .int .i64 N] w fun e w' => e = .returned (.bool true) ∧ Below w.heap.size w w' := by
  have hs := Tr.refl w []
  have HA := Lib.hid hao
  have HB := Lib.hid hbo
  have HR := Lib.hid hrA
  have HS := Lib.hid hrB
  have HK := Lib.hid hK
  have hm2 : m ≤ 20000 := by omega
  have hK2 : K ≤ 2560000 := by omega
  clear hao hbo hrA hrB hK
  go_enter Try.func4, Try.ntmps4
  go_upto_region 2 with (first | (go_at_call 13; refine (lend_any ao na ca db doff A _ (by omega) HA.out (HR.out.keep hs)).mono ?_; rintro e w2 ⟨bx, rfl, hc⟩; replace hs := hs.call1 hc; clear hc))
  go_upto_region 3 with (first | (go_at_call 13; refine (lend_any bo nb cb eb eoff B _ (by omega) HB.out (HS.out.keep hs)).mono ?_; rintro e w2 ⟨cy, rfl, hc⟩; replace hs := hs.call1 hc; clear hc))
  have HNX : Hid (0 < na → db ≠ bx) := Lib.hid fun h e => by
    have h3 := freshB hs 1 rfl
    have h4 := World.block_lt_of_cell? w _ (HR.out 0 h)
    simp only at h4
    omega
  have HNY : Hid (0 < nb → eb ≠ cy) := Lib.hid fun h e => by
    have h3 := freshB hs 0 rfl
    have h4 := World.block_lt_of_cell? w _ (HS.out 0 h)
    simp only at h4
    omega
  go_upto_region 4 with (first | ((with_reducible refine at_slice rfl ?_); refine wl_slice rfl rfl Try.underlying23 size5 rfl 0 na (Or.inl ⟨rfl, rfl⟩) (Or.inr ⟨_, _, rfl, rfl⟩) (by omega) (by omega) (fun _ => rfl) ?_; intro ao3 hao3) | (go_at_call 14; refine (HCA.out ao3 _ bx (0 + 0 * 1) _ (by omega) hao3 (lent_rdT hs 1 rfl)).mono ?_; rintro e w2 ⟨v, rfl, hc⟩; replace hs := hs.call1 hc; clear hc hao3; obtain ⟨aoP, cP, gP, rfl, hcP, hmP, haP, hzP⟩ := hs.own_open 0 rfl; replace haP := Lib.hid haP; replace hzP := Lib.hid hzP; clear hcP hmP))
  go_upto_region 5 with (first | ((with_reducible refine at_slice rfl ?_); refine wl_slice rfl rfl Try.underlying23 size5 rfl 0 nb (Or.inl ⟨rfl, rfl⟩) (Or.inr ⟨_, _, rfl, rfl⟩) (by omega) (by omega) (fun _ => rfl) ?_; intro ao3 hao3) | (go_at_call 14; refine (HCB.out ao3 _ cy (0 + 0 * 1) _ (by omega) hao3 (lent_rdT hs 1 rfl)).mono ?_; rintro e w2 ⟨v, rfl, hc⟩; replace hs := hs.call1 hc; clear hc hao3; obtain ⟨aoQ, cQ, gQ, rfl, hcQ, hmQ, haQ, hzQ⟩ := hs.own_open 0 rfl; replace haQ := Lib.hid haQ; replace hzQ := Lib.hid hzQ; clear hcQ hmQ))
  go_upto_region 6 with (first | ((with_reducible refine at_slice rfl ?_); refine wl_slice rfl rfl Try.underlying23 size5 rfl 0 na (Or.inl ⟨rfl, rfl⟩) (Or.inr ⟨_, _, rfl, rfl⟩) (by omega) (by omega) (fun _ => rfl) ?_; intro ao3 hao3) | (go_at_call 14; refine (HCA.out ao3 _ bx (0 + 0 * 1) _ (by omega) hao3 (lent_rdT hs 3 rfl)).mono ?_; rintro e w2 ⟨v, rfl, hc⟩; replace hs := hs.call1 hc; clear hc hao3; obtain ⟨aoR, cR, gR, rfl, hcR, hmR, haR, hzR⟩ := hs.own_open 0 rfl; replace haR := Lib.hid haR; replace hzR := Lib.hid hzR; clear hcR hmR))
  go_upto_region 8 with (first | (go_at_call_of 15 bx; refine (unchanged_any bx ao na ca db doff A _ (by omega) HA.out (HR.out.keep hs) HNX.out (hs.getB 4 rfl)).mono ?_; rintro e w2 ⟨rfl, f, hc⟩; replace hs := hs.updB 4 rfl hc; clear hc) | (go_at_call_of 15 cy; refine (unchanged_any cy bo nb cb eb eoff B _ (by omega) HB.out (HS.out.keep hs) HNY.out (hs.getB 3 rfl)).mono ?_; rintro e w2 ⟨rfl, f, hc⟩; replace hs := hs.updB 3 rfl hc; clear hc))
  clear HNX HNY
  replace hs := (hs.erase 4).erase 3
  go_upto_region 9 with (first | (go_at_call 16; refine (HRA.out _ (HR.out.keep hs)).mono ?_; rintro e w2 ⟨v, rfl, hc⟩; replace hs := hs.call1 hc; clear hc; obtain ⟨aoW, cW, gW, rfl, hcW, hmW, haW, hzW⟩ := hs.own_open 0 rfl; replace haW := Lib.hid haW; replace hzW := Lib.hid hzW; clear hcW hmW))
  go_upto_region 10 with (first | (go_at_call 16; refine (HRB.out _ (HS.out.keep hs)).mono ?_; rintro e w2 ⟨v, rfl, hc⟩; replace hs := hs.call1 hc; clear hc; obtain ⟨aoB, cB, gB, rfl, hcB, hmB, haB, hzB⟩ := hs.own_open 0 rfl; replace haB := Lib.hid haB; replace hzB := Lib.hid hzB; clear hcB hmB))
  clear HCB HRA HRB HB HS
  go_upto_region 12 with (first | (go_at_call_of 17 cP; refine (same_yes CA CA ma _ _ _ _ gP 0 gW 0 _ (by omega) haP.out haW.out (hs.own_rdx 4 rfl haP.out) (hs.own_rdx 1 rfl haW.out) (fun _ _ => rfl)).mono ?_; rintro e w2 ⟨rfl, hc⟩; replace hs := hs.call0 hc; clear hc) | (go_at_call_of 17 cR; refine (same_yes CA CA ma _ _ _ _ gR 0 gW 0 _ (by omega) haR.out haW.out (hs.own_rdx 2 rfl haR.out) (hs.own_rdx 1 rfl haW.out) (fun _ _ => rfl)).mono ?_; rintro e w2 ⟨rfl, hc⟩; replace hs := hs.call0 hc; clear hc) | (go_at_call_of 17 cQ; refine (same_yes CB CB mb _ _ _ _ gQ 0 gB 0 _ (by omega) haQ.out haB.out (hs.own_rdx 3 rfl haQ.out) (hs.own_rdx 0 rfl haB.out) (fun _ _ => rfl)).mono ?_; rintro e w2 ⟨rfl, hc⟩; replace hs := hs.call0 hc; clear hc))
  go_upto_region 13 with (first | ((with_reducible refine at_buildSlice rfl ?_); refine wl_slice0 hs rfl rfl Try.underlying25 size30 ?_; clear hs; intro w1 v9 hs) | ((with_reducible refine (at_bi .append) rfl ?_); refine wl_appendG hs rfl rfl Try.underlying25 info30 zc30 (by omega) 0 rfl rfl rfl hzW.out gW 0 haW.out (rowOf (ma * 128) (u8v CA)).toList (by simp) ((hs.own_rdx 2 rfl haW.out).news) (oneU8 _ _) (by unfold maxLen; omega) (by omega) ?_; clear hs; intro w1 v9 hs) | ((with_reducible refine (at_bi .append) rfl ?_); refine wl_appendG hs rfl rfl Try.underlying25 info30 zc30 (by omega) 0 rfl rfl rfl hzB.out gB 0 haB.out (rowOf (mb * 128) (u8v CB)).toList (by simp) ((hs.own_rdx 1 rfl haB.out).news) (oneU8 _ _) (by unfold maxLen; omega) (by omega) ?_; clear hs; intro w1 v9 hs))
  rw [HC.out] at hs
  obtain ⟨aoA, cA, gA, rfl, hcA, hmA, haA, hzA⟩ := hs.own_open 0 rfl; replace haA := Lib.hid haA; replace hzA := Lib.hid hzA; clear hcA hmA
  go_upto_region 14 with (first | ((with_reducible refine at_buildSlice rfl ?_); refine wl_slice0 hs rfl rfl Try.underlying25 size30 ?_; clear hs; intro w1 v9 hs) | ((with_reducible refine (at_bi .append) rfl ?_); refine wl_appendG hs rfl rfl Try.underlying25 info30 zc30 (by omega) 0 rfl rfl rfl hzA.out gA 0 haA.out (rowOf (m * 128) (u8v C)).toList (by simp) ((hs.own_rdx 1 rfl haA.out).news) (oneU8 _ _) (by unfold maxLen; omega) (by omega) ?_; clear hs; intro w1 v9 hs) | (go_at_call 18; refine (full_any 77 77 rfl _).mono ?_; rintro e w2 ⟨rfl, hc⟩; replace hs := hs.call0 hc; clear hc) | ((with_reducible refine at_buildSlice rfl ?_); refine wl_buildSlice1A hs rfl rfl Try.underlying25 info30 (by omega) (by omega) rfl (rowOf_size _ _) ?_; clear hs; intro w1 b3 hs) | ((with_reducible refine (at_bi .append) rfl ?_); refine wl_append hs rfl rfl Try.underlying25 info30 zc30 (by omega) 1 rfl rfl rfl b3 0 rfl (rowOf 128 (u8v fun _ => 77)).toList (by simp) (news30 hs 0 rfl) (oneU8 _ _) (by unfold maxLen; omega) (by omega) ?_; clear hs; intro w1 v9 hs hnil; clear hnil))
  rw [HD.out] at hs
  replace hs := hs.erase 0
  obtain ⟨aoL, cL, gL, hv, hcL, hmL, haL, _⟩ := hs.own_open 0 rfl
  obtain rfl := haL (by omega)
  subst hv
  clear haL
  have HLE : Hid (∀ (w' : World) (L : List Res) (i : Nat), Tr w [] w' L → L[i]? = some (Res.own 30 128 (.slice (some ⟨gL, 0, none⟩) (m + 1) cL) (m + 1) (rowOf ((m + 1) * 128) (u8v D)).toList) → Rd w' gL (0 + 0 * 128) (m * 128) (u8v C)) := Lib.hid fun w' L i h hi => by
    have h2 := (h.own_rd i hi).sub 0 (m * 128) (by omega)
    exact h2.congr fun j hj => by simp only [u8v, Nat.zero_add, HDC.out j hj]
  go_upto_region 15 with (first | ((with_reducible refine at_slice rfl ?_); refine wl_slice rfl rfl Try.underlying25 size30 rfl 0 m (Or.inl ⟨rfl, rfl⟩) (Or.inr ⟨_, _, rfl, rfl⟩) (by omega) (by omega) (fun _ => rfl) ?_; intro ao3 hao3; replace hao3 := Lib.hid hao3) | (go_at_call 19; refine (join_any N m _ ao3 gL (0 + 0 * 128) C _ hN2 (by omega) hao3.out (HLE.out _ _ 0 hs rfl) K HK.out).mono ?_; rintro e w2 ⟨v, rfl, hc⟩; replace hs := hs.call1 hc; clear hc hao3; obtain ⟨aoU, cU, gU, rfl, hcU, hmU, haU, hzU⟩ := hs.own_open 0 rfl; replace haU := Lib.hid haU; replace hzU := Lib.hid hzU; clear hcU hmU))
  go_upto_region 16 with (first | ((with_reducible refine at_slice rfl ?_); refine wl_slice rfl rfl Try.underlying25 size30 rfl 0 m (Or.inl ⟨rfl, rfl⟩) (Or.inr ⟨_, _, rfl, rfl⟩) (by omega) (by omega) (fun _ => rfl) ?_; intro ao3 hao3; replace hao3 := Lib.hid hao3) | (go_at_call 19; refine (join_any N m _ ao3 gL (0 + 0 * 128) C _ hN2 (by omega) hao3.out (HLE.out _ _ 1 hs rfl) K HK.out).mono ?_; rintro e w2 ⟨v, rfl, hc⟩; replace hs := hs.call1 hc; clear hc hao3; obtain ⟨aoV, cV, gV, rfl, hcV, hmV, haV, hzV⟩ := hs.own_open 0 rfl; replace haV := Lib.hid haV; replace hzV := Lib.hid hzV; clear hcV hmV))
  go_upto_region 17 with (first | (go_at_call 20; refine (rjoin_any N m cA aoA gA 0 C _ hN2 hN1 (by omega) haA.out (hs.own_rdx 3 rfl haA.out) K HK.out).mono ?_; rintro e w2 ⟨v, rfl, hc⟩; replace hs := hs.call1 hc; clear hc; obtain ⟨aoH, cH, gH, rfl, hcH, hmH, haH, hzH⟩ := hs.own_open 0 rfl; replace haH := Lib.hid haH; replace hzH := Lib.hid hzH; clear hcH hmH))
  clear HK
  refine wt_enter 30 rfl hs (by kernel_rfl) ?_
  clear hs; intro w1 hs; have hC := hs
  refine wt_take 0 rfl (by kernel_rfl) (by kernel_rfl) (by kernel_rfl) (fun _ _ _ _ h => h) rfl hC ⟨_, fun w hw => by (go_simp; try with_reducible rfl), fun a1 ha => ?_⟩
  simp only [Act.put, List.setIfInBounds_toArray, List.set_cons_succ, List.set_cons_zero] at ha; subst ha
  refine wt_take 1 rfl (by kernel_rfl) (by kernel_rfl) (by kernel_rfl) (fun _ _ _ _ h => h) rfl hC ⟨.string (strOf K C), fun w hw => ex_convStr rfl Try.underlying23 Try.underlying5 Try.underlying9 rfl haU.out (hw.own_rdx 2 rfl haU.out), fun a1 ha => ?_⟩
  simp only [Act.put, List.setIfInBounds_toArray, List.set_cons_succ, List.set_cons_zero] at ha; subst ha
  refine wt_take 2 rfl (by kernel_rfl) (by kernel_rfl) (by kernel_rfl) (fun _ _ _ _ h => h) rfl hC ⟨_, fun w hw => by (go_simp; try with_reducible rfl), fun a1 ha => ?_⟩
  simp only [Act.put, List.setIfInBounds_toArray, List.set_cons_succ, List.set_cons_zero] at ha; subst ha
  refine wt_take 3 rfl (by kernel_rfl) (by kernel_rfl) (by kernel_rfl) (fun _ _ _ _ h => h) rfl hC ⟨.string (strOf K C), fun w hw => ex_convStr rfl Try.underlying23 Try.underlying5 Try.underlying9 rfl haH.out (hw.own_rdx 0 rfl haH.out), fun a1 ha => ?_⟩
  simp only [Act.put, List.setIfInBounds_toArray, List.set_cons_succ, List.set_cons_zero] at ha; subst ha
  refine wt_take 4 rfl (by kernel_rfl) (by kernel_rfl) (by kernel_rfl) (fun _ _ _ _ h => h) rfl hC ⟨.bool false, fun w hw => ex_neqSL rfl rfl rfl rfl rfl (by rw [eqS_self K C]; rfl), fun a1 ha => ?_⟩
  simp only [Act.put, List.setIfInBounds_toArray, List.set_cons_succ, List.set_cons_zero] at ha; subst ha
  refine wt_take 5 rfl (by kernel_rfl) (by kernel_rfl) (by kernel_rfl) (fun _ _ _ _ h => h) rfl hC ⟨_, fun w hw => by (go_simp; try with_reducible rfl), fun a1 ha => ?_⟩
  simp only [Act.put, List.setIfInBounds_toArray, List.set_cons_succ, List.set_cons_zero] at ha; subst ha
  refine wt_take 6 rfl (by kernel_rfl) (by kernel_rfl) (by kernel_rfl) (fun _ _ _ _ h => h) rfl hC ⟨_, fun w hw => by (go_simp; try with_reducible rfl), fun a1 ha => ?_⟩
  simp only [Act.put, List.setIfInBounds_toArray, List.set_cons_succ, List.set_cons_zero] at ha; subst ha
  refine wt_take 7 rfl (by kernel_rfl) (by kernel_rfl) (by kernel_rfl) (fun _ _ _ _ h => h) rfl hC ⟨.string (strOf K C), fun w hw => ex_convStr rfl Try.underlying23 Try.underlying5 Try.underlying9 rfl haV.out (hw.own_rdx 1 rfl haV.out), fun a1 ha => ?_⟩
  simp only [Act.put, List.setIfInBounds_toArray, List.set_cons_succ, List.set_cons_zero] at ha; subst ha
  refine wt_take 8 rfl (by kernel_rfl) (by kernel_rfl) (by kernel_rfl) (fun _ _ _ _ h => h) rfl hC ⟨_, fun w hw => by (go_simp; try with_reducible rfl), fun a1 ha => ?_⟩
  simp only [Act.put, List.setIfInBounds_toArray, List.set_cons_succ, List.set_cons_zero] at ha; subst ha
  refine wt_take 9 rfl (by kernel_rfl) (by kernel_rfl) (by kernel_rfl) (fun _ _ _ _ h => h) rfl hC ⟨.string (strOf K C), fun w hw => ex_convStr rfl Try.underlying23 Try.underlying5 Try.underlying9 rfl haH.out (hw.own_rdx 0 rfl haH.out), fun a1 ha => ?_⟩
  simp only [Act.put, List.setIfInBounds_toArray, List.set_cons_succ, List.set_cons_zero] at ha; subst ha
  refine wt_take 10 rfl (by kernel_rfl) (by kernel_rfl) (by kernel_rfl) (fun _ _ _ _ h => h) rfl hC ⟨.bool false, fun w hw => ex_neqSL rfl rfl rfl rfl rfl (by rw [eqS_self K C]; rfl), fun a1 ha => ?_⟩
  simp only [Act.put, List.setIfInBounds_toArray, List.set_cons_succ, List.set_cons_zero] at ha; subst ha
  refine wt_take 11 rfl (by kernel_rfl) (by kernel_rfl) (by kernel_rfl) (fun _ _ _ _ h => h) rfl hC ⟨_, fun w hw => by (go_simp; try with_reducible rfl), fun a1 ha => ?_⟩
  simp only [Act.put, List.setIfInBounds_toArray, List.set_cons_succ, List.set_cons_zero] at ha; subst ha
  refine wt_take 12 rfl (by kernel_rfl) (by kernel_rfl) (by kernel_rfl) (fun _ _ _ _ h => h) rfl hC ⟨_, fun w hw => by (go_simp; try with_reducible rfl), fun a1 ha => ?_⟩
  simp only [Act.put, List.setIfInBounds_toArray, List.set_cons_succ, List.set_cons_zero] at ha; subst ha
  refine wt_take 13 rfl (by kernel_rfl) (by kernel_rfl) (by kernel_rfl) (fun _ _ _ _ h => h) rfl hC ⟨_, fun w hw => by (go_simp; try with_reducible rfl), fun a1 ha => ?_⟩
  simp only [Act.put, List.setIfInBounds_toArray, List.set_cons_succ, List.set_cons_zero] at ha; subst ha
  refine wt_take 14 rfl (by kernel_rfl) (by kernel_rfl) (by kernel_rfl) (fun _ _ _ _ h => h) rfl hC ⟨_, fun w hw => by (go_simp; try with_reducible rfl), fun a1 ha => ?_⟩
  simp only [Act.put, List.setIfInBounds_toArray, List.set_cons_succ, List.set_cons_zero] at ha; subst ha
  refine wt_take 15 rfl (by kernel_rfl) (by kernel_rfl) (by kernel_rfl) (fun _ _ _ _ h => h) rfl hC ⟨_, fun w hw => by (go_simp; try with_reducible rfl), fun a1 ha => ?_⟩
  simp only [Act.put, List.setIfInBounds_toArray, List.set_cons_succ, List.set_cons_zero] at ha; subst ha
  refine wt_takeSlice 16 rfl (by kernel_rfl) (by kernel_rfl) (by kernel_rfl) (fun _ _ _ _ h => h) rfl hC rfl Try.underlying25 size30 rfl (0) (m) (Or.inl ⟨rfl, rfl⟩) (Or.inr ⟨_, _, rfl, rfl⟩) (by omega) (by omega) (fun h => rfl) ?_
  intro s1 hs1 a1 ha; replace hs1 := Lib.hid hs1
  simp only [Act.put, List.setIfInBounds_toArray, List.set_cons_succ, List.set_cons_zero] at ha; subst ha
  refine wt_take 17 rfl (by kernel_rfl) (by kernel_rfl) (by kernel_rfl) (fun _ _ _ _ h => h) rfl hC ⟨_, fun w hw => by (go_simp; try with_reducible rfl), fun a1 ha => ?_⟩
  simp only [Act.put, List.setIfInBounds_toArray, List.set_cons_succ, List.set_cons_zero] at ha; subst ha
  refine wt_one 18 (by kernel_rfl) ?_
  refine wt_call0 hs rfl rfl (by go_simp) (same_yes C C m cL cA _ _ gL (0 + 0 * 128) gA 0 _ (by omega) hs1.out haA.out (HLE.out _ _ 3 hs rfl) (hs.own_rdx 4 rfl haA.out) (fun _ _ => rfl)) (by simp only [Act.put, List.setIfInBounds_toArray, List.set_cons_succ, List.set_cons_zero]; rfl) ?_
  clear hs; intro w1 hs
  refine wt_and (hs.sub (by repeat (first | exact List.Sublist.refl _ | refine List.Sublist.cons_cons _ ?_ | refine List.Sublist.cons _ ?_))) fun hC => ?_
  refine wt_take 19 rfl (by kernel_rfl) (by kernel_rfl) (by kernel_rfl) (fun _ _ _ _ h => h) rfl hC ⟨_, fun w hw => by (go_simp; try with_reducible rfl), fun a1 ha => ?_⟩
  simp only [Act.put, List.setIfInBounds_toArray, List.set_cons_succ, List.set_cons_zero] at ha; subst ha
  refine wt_take 20 rfl (by kernel_rfl) (by kernel_rfl) (by kernel_rfl) (fun _ _ _ _ h => h) rfl hC ⟨_, fun w hw => by (go_simp; try with_reducible rfl), fun a1 ha => ?_⟩
  simp only [Act.put, List.setIfInBounds_toArray, List.set_cons_succ, List.set_cons_zero] at ha; subst ha
  refine wt_take 21 rfl (by kernel_rfl) (by kernel_rfl) (by kernel_rfl) (fun _ _ _ _ h => h) rfl hC ⟨_, fun w hw => by (go_simp; try with_reducible rfl), fun a1 ha => ?_⟩
  simp only [Act.put, List.setIfInBounds_toArray, List.set_cons_succ, List.set_cons_zero] at ha; subst ha
  refine wt_take 22 rfl (by kernel_rfl) (by kernel_rfl) (by kernel_rfl) (fun _ _ _ _ h => h) rfl hC ⟨_, fun w hw => by (go_simp; try with_reducible rfl), fun a1 ha => ?_⟩
  simp only [Act.put, List.setIfInBounds_toArray, List.set_cons_succ, List.set_cons_zero] at ha; subst ha
  refine wt_take 23 rfl (by kernel_rfl) (by kernel_rfl) (by kernel_rfl) (fun _ _ _ _ h => h) rfl hC ⟨_, fun w hw => by (go_simp; try with_reducible rfl), fun a1 ha => ?_⟩
  simp only [Act.put, List.setIfInBounds_toArray, List.set_cons_succ, List.set_cons_zero] at ha; subst ha
  refine wt_take 24 rfl (by kernel_rfl) (by kernel_rfl) (by kernel_rfl) (fun _ _ _ _ h => h) rfl hC ⟨_, fun w hw => by (go_simp; try with_reducible rfl), fun a1 ha => ?_⟩
  simp only [Act.put, List.setIfInBounds_toArray, List.set_cons_succ, List.set_cons_zero] at ha; subst ha
  refine wt_take 25 rfl (by kernel_rfl) (by kernel_rfl) (by kernel_rfl) (fun _ _ _ _ h => h) rfl hC ⟨_, fun w hw => ex_indexS rfl Try.underlying25 size30 rfl rfl m rfl (by omega) rfl, fun a1 ha => ?_⟩
  simp only [Act.put, List.setIfInBounds_toArray, List.set_cons_succ, List.set_cons_zero] at ha; subst ha
  refine wt_take 26 rfl (by kernel_rfl) (by kernel_rfl) (by kernel_rfl) (fun _ _ _ _ h => h) rfl hC ⟨_, fun w hw => ex_loadMB (F := fun q => D (m * 128 + q)) rfl Try.underlying30 size30 rfl ((hw.own_rd 3 rfl).sub (m * 128) 128 (by omega)), fun a1 ha => ?_⟩
  simp only [Act.put, List.setIfInBounds_toArray, List.set_cons_succ, List.set_cons_zero] at ha; subst ha
  refine wt_one 27 (by kernel_rfl) ?_
  refine wt_call0 hs rfl rfl (by go_simp) (full_any 77 77 rfl _) (by simp only [Act.put, List.setIfInBounds_toArray, List.set_cons_succ, List.set_cons_zero]; rfl) ?_
  clear hs; intro w1 hs
  refine wt_and (hs.sub (by repeat (first | exact List.Sublist.refl _ | refine List.Sublist.cons_cons _ ?_ | refine List.Sublist.cons _ ?_))) fun hC => ?_
  refine wt_take 28 rfl (by kernel_rfl) (by kernel_rfl) (by kernel_rfl) (fun _ _ _ _ h => h) rfl hC ⟨.bool false, fun w hw => ex_neqBR rfl Try.underlying30 Try.underlying5 size5 eqg30 rfl rfl HEQ.out, fun a1 ha => ?_⟩
  simp only [Act.put, List.setIfInBounds_toArray, List.set_cons_succ, List.set_cons_zero] at ha; subst ha
  refine wt_take 29 rfl (by kernel_rfl) (by kernel_rfl) (by kernel_rfl) (fun _ _ _ _ h => h) rfl hC ⟨_, fun w hw => by (go_simp; try with_reducible rfl), fun a1 ha => ?_⟩
  simp only [Act.put, List.setIfInBounds_toArray, List.set_cons_succ, List.set_cons_zero] at ha; subst ha
  refine wt_done (by kernel_rfl) ?_
  skip
  clear hC
  simp only [Nat.zero_add, Nat.sub_zero]
  replace hs := hs.erase 0
  go_wp2_with fail
  go_loopw [19] (fun i wr => ∃ k : Nat, k ≤ ma ∧ i = .int .i64 k ∧ Tr w [] wr [Res.own 5 1 (.slice aoV K cV) K (rowOf K (u8v (C))).toList, Res.own 5 1 (.slice aoU K cU) K (rowOf K (u8v (C))).toList, Res.own 30 128 (.slice (some ⟨gL, 0, none⟩) (m + 1) cL) (m + 1) (rowOf ((m + 1) * 128) (u8v D)).toList, Res.own 30 128 (.slice aoA m cA) m (rowOf (m * 128) (u8v C)).toList, Res.own 30 128 (.slice aoB mb cB) mb (rowOf (mb * 128) (u8v CB)).toList, Res.own 30 128 (.slice aoW ma cW) ma (rowOf (ma * 128) (u8v CA)).toList, Res.own 30 128 (.slice aoR ma cR) ma (rowOf (ma * 128) (u8v (CA))).toList, Res.own 30 128 (.slice aoQ mb cQ) mb (rowOf (mb * 128) (u8v (CB))).toList, Res.own 30 128 (.slice aoP ma cP) ma (rowOf (ma * 128) (u8v (fillC 1 CA k))).toList]) (fun i _ => ma - (intOf i).toNat)
  case atStart => exact ⟨0, Nat.zero_le _, rfl, by rw [fillC_zero]; exact hs⟩
  case round =>
    clear hs
    obtain ⟨k, hk, rfl, hs⟩ := hrel
    by_cases hlt : k < ma
    · have hltI : (k : Int) < ma := by omega
      have hao := haP.out (by omega)
      subst hao
      go_wp2_with (first | (go_at_call 18; refine (full_any 1 1 rfl _).mono ?_; rintro e w2 ⟨rfl, hc⟩; replace hs := hs.call0 hc; clear hc) | ((with_reducible refine (at_index (t := 25)) rfl ?_); refine wl_index rfl rfl Try.underlying25 size30 rfl rfl k rfl hlt rfl ?_) | ((with_reducible refine (at_store (t := 30)) rfl ?_); refine wl_storeO hs rfl rfl size30 rfl rfl (rowOf_size _ _) (oneU8 _ _) 8 rfl (by rw [Array.length_toList, rowOf_size]; omega) _ (fillC_step 1 CA (by omega)) ?_; clear hs; intro w1 hs))
      go_roundw
      case rel => first | exact ⟨k + 1, by omega, by go_num, hs⟩ | ((repeat apply Exists.intro); exact ⟨⟨k + 1, by omega, by go_num, hs⟩, rfl⟩)
      case measure => simp [intOf]; omega
    · obtain rfl : ma = k := by omega
      rw [fillC_all] at hs
      go_wp2_with fail
      go_loopw [20] (fun i wr => ∃ k : Nat, k ≤ mb ∧ i = .int .i64 k ∧ Tr w [] wr [Res.own 5 1 (.slice aoV K cV) K (rowOf K (u8v (C))).toList, Res.own 5 1 (.slice aoU K cU) K (rowOf K (u8v (C))).toList, Res.own 30 128 (.slice (some ⟨gL, 0, none⟩) (m + 1) cL) (m + 1) (rowOf ((m + 1) * 128) (u8v D)).toList, Res.own 30 128 (.slice aoA m cA) m (rowOf (m * 128) (u8v C)).toList, Res.own 30 128 (.slice aoB mb cB) mb (rowOf (mb * 128) (u8v CB)).toList, Res.own 30 128 (.slice aoW ma cW) ma (rowOf (ma * 128) (u8v CA)).toList, Res.own 30 128 (.slice aoR ma cR) ma (rowOf (ma * 128) (u8v (CA))).toList, Res.own 30 128 (.slice aoQ mb cQ) mb (rowOf (mb * 128) (u8v (fillC 2 CB k))).toList, Res.own 30 128 (.slice aoP ma cP) ma (rowOf (ma * 128) (u8v (fun _ => 1))).toList]) (fun i _ => mb - (intOf i).toNat)
      case atStart => exact ⟨0, Nat.zero_le _, rfl, by rw [fillC_zero]; exact hs⟩
      case round =>
        clear hs
        obtain ⟨k, hk, rfl, hs⟩ := hrel
        by_cases hlt : k < mb
        · have hltI : (k : Int) < mb := by omega
          have hao := haQ.out (by omega)
          subst hao
          go_wp2_with (first | (go_at_call 18; refine (full_any 2 2 rfl _).mono ?_; rintro e w2 ⟨rfl, hc⟩; replace hs := hs.call0 hc; clear hc) | ((with_reducible refine (at_index (t := 25)) rfl ?_); refine wl_index rfl rfl Try.underlying25 size30 rfl rfl k rfl hlt rfl ?_) | ((with_reducible refine (at_store (t := 30)) rfl ?_); refine wl_storeO hs rfl rfl size30 rfl rfl (rowOf_size _ _) (oneU8 _ _) 7 rfl (by rw [Array.length_toList, rowOf_size]; omega) _ (fillC_step 2 CB (by omega)) ?_; clear hs; intro w1 hs))
          go_roundw
          case rel => first | exact ⟨k + 1, by omega, by go_num, hs⟩ | ((repeat apply Exists.intro); exact ⟨⟨k + 1, by omega, by go_num, hs⟩, rfl⟩)
          case measure => simp [intOf]; omega
        · obtain rfl : mb = k := by omega
          rw [fillC_all] at hs
          go_wp2_with fail
          go_loopw [21] (fun i wr => ∃ k : Nat, k ≤ ma ∧ i = .int .i64 k ∧ Tr w [] wr [Res.own 5 1 (.slice aoV K cV) K (rowOf K (u8v (C))).toList, Res.own 5 1 (.slice aoU K cU) K (rowOf K (u8v (C))).toList, Res.own 30 128 (.slice (some ⟨gL, 0, none⟩) (m + 1) cL) (m + 1) (rowOf ((m + 1) * 128) (u8v D)).toList, Res.own 30 128 (.slice aoA m cA) m (rowOf (m * 128) (u8v C)).toList, Res.own 30 128 (.slice aoB mb cB) mb (rowOf (mb * 128) (u8v CB)).toList, Res.own 30 128 (.slice aoW ma cW) ma (rowOf (ma * 128) (u8v CA)).toList, Res.own 30 128 (.slice aoR ma cR) ma (rowOf (ma * 128) (u8v (fillC 3 CA k))).toList, Res.own 30 128 (.slice aoQ mb cQ) mb (rowOf (mb * 128) (u8v (fun _ => 2))).toList, Res.own 30 128 (.slice aoP ma cP) ma (rowOf (ma * 128) (u8v (fun _ => 1))).toList]) (fun i _ => ma - (intOf i).toNat)
          case atStart => exact ⟨0, Nat.zero_le _, rfl, by rw [fillC_zero]; exact hs⟩
          case round =>
            clear hs
            obtain ⟨k, hk, rfl, hs⟩ := hrel
            by_cases hlt : k < ma
            · have hltI : (k : Int) < ma := by omega
              have hao := haR.out (by omega)
              subst hao
              go_wp2_with (first | (go_at_call 18; refine (full_any 3 3 rfl _).mono ?_; rintro e w2 ⟨rfl, hc⟩; replace hs := hs.call0 hc; clear hc) | ((with_reducible refine (at_index (t := 25)) rfl ?_); refine wl_index rfl rfl Try.underlying25 size30 rfl rfl k rfl hlt rfl ?_) | ((with_reducible refine (at_store (t := 30)) rfl ?_); refine wl_storeO hs rfl rfl size30 rfl rfl (rowOf_size _ _) (oneU8 _ _) 6 rfl (by rw [Array.length_toList, rowOf_size]; omega) _ (fillC_step 3 CA (by omega)) ?_; clear hs; intro w1 hs))
              go_roundw
              case rel => first | exact ⟨k + 1, by omega, by go_num, hs⟩ | ((repeat apply Exists.intro); exact ⟨⟨k + 1, by omega, by go_num, hs⟩, rfl⟩)
              case measure => simp [intOf]; omega
            · obtain rfl : ma = k := by omega
              rw [fillC_all] at hs
              go_wp2_with fail
              go_loopw [22] (fun i wr => ∃ k : Nat, k ≤ K ∧ i = .int .i64 k ∧ Tr w [] wr [Res.own 5 1 (.slice aoV K cV) K (rowOf K (u8v (C))).toList, Res.own 5 1 (.slice aoU K cU) K (rowOf K (u8v (fillB 4 C k))).toList, Res.own 30 128 (.slice (some ⟨gL, 0, none⟩) (m + 1) cL) (m + 1) (rowOf ((m + 1) * 128) (u8v D)).toList, Res.own 30 128 (.slice aoA m cA) m (rowOf (m * 128) (u8v C)).toList, Res.own 30 128 (.slice aoB mb cB) mb (rowOf (mb * 128) (u8v CB)).toList, Res.own 30 128 (.slice aoW ma cW) ma (rowOf (ma * 128) (u8v CA)).toList, Res.own 30 128 (.slice aoR ma cR) ma (rowOf (ma * 128) (u8v (fun _ => 3))).toList, Res.own 30 128 (.slice aoQ mb cQ) mb (rowOf (mb * 128) (u8v (fun _ => 2))).toList, Res.own 30 128 (.slice aoP ma cP) ma (rowOf (ma * 128) (u8v (fun _ => 1))).toList]) (fun i _ => K - (intOf i).toNat)
              case atStart => exact ⟨0, Nat.zero_le _, rfl, by rw [fillB_zero]; exact hs⟩
              case round =>
                clear hs
                obtain ⟨k, hk, rfl, hs⟩ := hrel
                by_cases hlt : k < K
                · have hltI : (k : Int) < K := by omega
                  have hao := haU.out (by omega)
                  subst hao
                  go_wp2_with (first | ((with_reducible refine (at_index (t := 23)) rfl ?_); refine wl_index rfl rfl Try.underlying23 size5 rfl rfl k rfl hlt rfl ?_) | ((with_reducible refine (at_store (t := 5)) rfl ?_); refine wl_storeO1 (off := k) hs rfl rfl size5 (by first | rfl | (rw [Nat.zero_add, Nat.mul_one]; rfl)) rfl rfl 1 rfl (by rw [Array.length_toList, rowOf_size]; omega) _ (fillB_step 4 C K k 4 rfl) ?_; clear hs; intro w1 hs))
                  go_roundw
                  case rel => first | exact ⟨k + 1, by omega, by go_num, hs⟩ | ((repeat apply Exists.intro); exact ⟨⟨k + 1, by omega, by go_num, hs⟩, rfl⟩)
                  case measure => simp [intOf]; omega
                · obtain rfl : K = k := by omega
                  rw [fillB_all] at hs
                  go_wp2_with fail
                  go_loopw [23] (fun i wr => ∃ k : Nat, k ≤ K ∧ i = .int .i64 k ∧ Tr w [] wr [Res.own 5 1 (.slice aoV K cV) K (rowOf K (u8v (fillB 5 C k))).toList, Res.own 5 1 (.slice aoU K cU) K (rowOf K (u8v (fun _ => 4))).toList, Res.own 30 128 (.slice (some ⟨gL, 0, none⟩) (m + 1) cL) (m + 1) (rowOf ((m + 1) * 128) (u8v D)).toList, Res.own 30 128 (.slice aoA m cA) m (rowOf (m * 128) (u8v C)).toList, Res.own 30 128 (.slice aoB mb cB) mb (rowOf (mb * 128) (u8v CB)).toList, Res.own 30 128 (.slice aoW ma cW) ma (rowOf (ma * 128) (u8v CA)).toList, Res.own 30 128 (.slice aoR ma cR) ma (rowOf (ma * 128) (u8v (fun _ => 3))).toList, Res.own 30 128 (.slice aoQ mb cQ) mb (rowOf (mb * 128) (u8v (fun _ => 2))).toList, Res.own 30 128 (.slice aoP ma cP) ma (rowOf (ma * 128) (u8v (fun _ => 1))).toList]) (fun i _ => K - (intOf i).toNat)
                  case atStart => exact ⟨0, Nat.zero_le _, rfl, by rw [fillB_zero]; exact hs⟩
                  case round =>
                    clear hs
                    obtain ⟨k, hk, rfl, hs⟩ := hrel
                    by_cases hlt : k < K
                    · have hltI : (k : Int) < K := by omega
                      have hao := haV.out (by omega)
                      subst hao
                      go_wp2_with (first | ((with_reducible refine (at_index (t := 23)) rfl ?_); refine wl_index rfl rfl Try.underlying23 size5 rfl rfl k rfl hlt rfl ?_) | ((with_reducible refine (at_store (t := 5)) rfl ?_); refine wl_storeO1 (off := k) hs rfl rfl size5 (by first | rfl | (rw [Nat.zero_add, Nat.mul_one]; rfl)) rfl rfl 0 rfl (by rw [Array.length_toList, rowOf_size]; omega) _ (fillB_step 5 C K k 5 rfl) ?_; clear hs; intro w1 hs))
                      go_roundw
                      case rel => first | exact ⟨k + 1, by omega, by go_num, hs⟩ | ((repeat apply Exists.intro); exact ⟨⟨k + 1, by omega, by go_num, hs⟩, rfl⟩)
                      case measure => simp [intOf]; omega
                    · obtain rfl : K = k := by omega
                      rw [fillB_all] at hs
                      go_upto_region 40 with (first | (go_at_call 18; refine (full_any 1 1 rfl _).mono ?_; rintro e w2 ⟨rfl, hc⟩; replace hs := hs.call0 hc; clear hc) | ((with_reducible refine at_buildSlice rfl ?_); refine wl_buildSliceF hs rfl rfl Try.underlying25 info30 (by omega) (by omega) [(0, bytesV 128 fun _ => 1), (1, bytesV 128 fun _ => 1)] rfl _ (fun Z hZ => two_fill Z hZ 1) ?_; clear hs; intro w1 b3 hs) | ((with_reducible refine (at_bi .append) rfl ?_); refine wl_append hs rfl rfl Try.underlying25 info30 zc30 (by omega) 9 rfl rfl rfl b3 0 rfl (rowOf 256 (u8v fun _ => 1)).toList (by simp) (news30 hs 0 rfl) (oneU8 _ _) (by unfold maxLen; omega) (by omega) ?_; clear hs; intro w1 v9 hs hnil; clear hnil))
                      rw [own_two] at hs
                      replace hs := hs.erase 0
                      obtain ⟨aoP2, cP2, gP2, hv, _, _, haP2, _⟩ := hs.own_open 8 rfl
                      subst hv
                      replace haP2 := Lib.hid haP2
                      go_upto_region 41 with (first | (go_at_call 18; refine (full_any 2 2 rfl _).mono ?_; rintro e w2 ⟨rfl, hc⟩; replace hs := hs.call0 hc; clear hc) | ((with_reducible refine at_buildSlice rfl ?_); refine wl_buildSliceF hs rfl rfl Try.underlying25 info30 (by omega) (by omega) [(0, bytesV 128 fun _ => 2), (1, bytesV 128 fun _ => 2)] rfl _ (fun Z hZ => two_fill Z hZ 2) ?_; clear hs; intro w1 b3 hs) | ((with_reducible refine (at_bi .append) rfl ?_); refine wl_append hs rfl rfl Try.underlying25 info30 zc30 (by omega) 8 rfl rfl rfl b3 0 rfl (rowOf 256 (u8v fun _ => 2)).toList (by simp) (news30 hs 0 rfl) (oneU8 _ _) (by unfold maxLen; omega) (by omega) ?_; clear hs; intro w1 v9 hs hnil; clear hnil))
                      rw [own_two] at hs
                      replace hs := hs.erase 0
                      obtain ⟨aoQ2, cQ2, gQ2, hv, _, _, haQ2, _⟩ := hs.own_open 7 rfl
                      subst hv
                      replace haQ2 := Lib.hid haQ2
                      go_upto_region 42 with (first | (go_at_call 18; refine (full_any 3 3 rfl _).mono ?_; rintro e w2 ⟨rfl, hc⟩; replace hs := hs.call0 hc; clear hc) | ((with_reducible refine at_buildSlice rfl ?_); refine wl_buildSliceF hs rfl rfl Try.underlying25 info30 (by omega) (by omega) [(0, bytesV 128 fun _ => 3), (1, bytesV 128 fun _ => 3)] rfl _ (fun Z hZ => two_fill Z hZ 3) ?_; clear hs; intro w1 b3 hs) | ((with_reducible refine (at_bi .append) rfl ?_); refine wl_append hs rfl rfl Try.underlying25 info30 zc30 (by omega) 7 rfl rfl rfl b3 0 rfl (rowOf 256 (u8v fun _ => 3)).toList (by simp) (news30 hs 0 rfl) (oneU8 _ _) (by unfold maxLen; omega) (by omega) ?_; clear hs; intro w1 v9 hs hnil; clear hnil))
                      rw [own_two] at hs
                      replace hs := hs.erase 0
                      obtain ⟨aoR2, cR2, gR2, hv, _, _, haR2, _⟩ := hs.own_open 6 rfl
                      subst hv
                      replace haR2 := Lib.hid haR2

                      go_wp2_with fail
                      go_loopw [27, 28, 29] (fun x y i wr => ∃ (k : Nat) (xv yv : Value), k ≤ 40 ∧ i = .int .i64 k ∧ x = xv ∧ y = yv ∧ Tr w [] wr [Res.own 5 1 yv (K + k) (rowOf (K + k) (u8v fun _ => 5)).toList, Res.own 5 1 xv (K + k) (rowOf (K + k) (u8v fun _ => 4)).toList, Res.own 30 128 (.slice (some ⟨gL, 0, none⟩) (m + 1) cL) (m + 1) (rowOf ((m + 1) * 128) (u8v D)).toList, Res.own 30 128 (.slice aoA m cA) m (rowOf (m * 128) (u8v C)).toList, Res.own 30 128 (.slice aoB mb cB) mb (rowOf (mb * 128) (u8v CB)).toList, Res.own 30 128 (.slice aoW ma cW) ma (rowOf (ma * 128) (u8v CA)).toList, Res.own 30 128 (.slice aoR2 (ma + 2) cR2) (ma + 2) (rowOf ((ma + 2) * 128) (u8v fun _ => 3)).toList, Res.own 30 128 (.slice aoQ2 (mb + 2) cQ2) (mb + 2) (rowOf ((mb + 2) * 128) (u8v fun _ => 2)).toList, Res.own 30 128 (.slice aoP2 (ma + 2) cP2) (ma + 2) (rowOf ((ma + 2) * 128) (u8v fun _ => 1)).toList]) (fun _ _ i _ => 40 - (intOf i).toNat)
                      case atStart => exact ⟨0, _, _, by omega, rfl, rfl, rfl, hs⟩
                      case round =>
                        clear hs
                        obtain ⟨k, xv, yv, hk, rfl, rfl, rfl, hs⟩ := hrel
                        by_cases hlt : k < 40
                        · have hltI : (k : Int) < 40 := by omega
                          have H4 := Lib.hid (const_one 4 4 rfl (K + k))
                          have H5 := Lib.hid (const_one 5 5 rfl (K + k))
                          go_upto_region 48 with (first | ((with_reducible refine at_buildSlice rfl ?_); refine wl_buildSliceV hs rfl rfl Try.underlying23 info5 (by omega) (by omega) [.int .u8 4] rfl rfl (by simp [Value.oneCell']) ?_; clear hs; intro w1 eb1 hs) | ((with_reducible refine (at_bi .append) rfl ?_); refine wl_append hs rfl rfl Try.underlying23 info5 rfl (by omega) 2 rfl rfl rfl eb1 0 rfl [.int .u8 4] rfl (one_news (hs.getB 0 rfl)) (by simp [Value.oneCell']) (by unfold maxLen; omega) (by omega) ?_; rw [H4.out]; clear hs; intro w1 v9 hs hnil; clear hnil))
                          go_wp2_with (first | ((with_reducible refine at_buildSlice rfl ?_); refine wl_buildSliceV hs rfl rfl Try.underlying23 info5 (by omega) (by omega) [.int .u8 5] rfl rfl (by simp [Value.oneCell']) ?_; clear hs; intro w1 eb1 hs) | ((with_reducible refine (at_bi .append) rfl ?_); refine wl_append hs rfl rfl Try.underlying23 info5 rfl (by omega) 2 rfl rfl rfl eb1 0 rfl [.int .u8 5] rfl (one_news (hs.getB 0 rfl)) (by simp [Value.oneCell']) (by unfold maxLen; omega) (by omega) ?_; rw [H5.out]; clear hs; intro w1 v8 hs hnil; clear hnil))
                          go_roundw
                          case rel => first | exact ⟨k + 1, _, _, by omega, by go_num, rfl, rfl, (hs.erase 0).erase 0⟩ | ((repeat apply Exists.intro); exact ⟨⟨k + 1, by omega, by go_num, (hs.erase 0).erase 0⟩, by first | rfl | exact ⟨rfl, rfl, rfl⟩⟩)
                          case measure => simp [intOf]; omega
                        · obtain rfl : k = 40 := by omega
                          obtain ⟨aoY, cY, gY, hv, _, _, haY, _⟩ := hs.own_open 0 rfl
                          obtain rfl := haY (by omega)
                          subst hv
                          obtain ⟨aoX, cX, gX, hv, _, _, haX, _⟩ := hs.own_open 1 rfl
                          obtain rfl := haX (by omega)
                          subst hv
                          clear haX haY
                          generalize hKK : K + 40 = KK at *
                          have hKB : KK ≤ 2560040 := by omega
                          go_wp2_with fail
                          go_loopw [30] (fun i wr => ∃ k : Nat, k ≤ KK ∧ i = .int .i64 k ∧ Tr w [] wr [Res.own 5 1 (.slice (some ⟨gY, 0, none⟩) KK cY) KK (rowOf KK (u8v fun _ => 5)).toList, Res.own 5 1 (.slice (some ⟨gX, 0, none⟩) KK cX) KK (rowOf KK (u8v fun _ => 4)).toList, Res.own 30 128 (.slice (some ⟨gL, 0, none⟩) (m + 1) cL) (m + 1) (rowOf ((m + 1) * 128) (u8v D)).toList, Res.own 30 128 (.slice aoA m cA) m (rowOf (m * 128) (u8v C)).toList, Res.own 30 128 (.slice aoB mb cB) mb (rowOf (mb * 128) (u8v CB)).toList, Res.own 30 128 (.slice aoW ma cW) ma (rowOf (ma * 128) (u8v CA)).toList, Res.own 30 128 (.slice aoR2 (ma + 2) cR2) (ma + 2) (rowOf ((ma + 2) * 128) (u8v fun _ => 3)).toList, Res.own 30 128 (.slice aoQ2 (mb + 2) cQ2) (mb + 2) (rowOf ((mb + 2) * 128) (u8v fun _ => 2)).toList, Res.own 30 128 (.slice aoP2 (ma + 2) cP2) (ma + 2) (rowOf ((ma + 2) * 128) (u8v fun _ => 1)).toList]) (fun i _ => KK - (intOf i).toNat)
                          case atStart => exact ⟨0, Nat.zero_le _, rfl, hs⟩
                          case round =>
                            clear hs
                            obtain ⟨k, hk, rfl, hs⟩ := hrel
                            by_cases hlt : k < KK
                            · have hltI : (k : Int) < KK := by omega
                              go_wp2_with (first | ((with_reducible refine (at_index (t := 23)) rfl ?_); refine wl_index rfl rfl Try.underlying23 size5 rfl rfl k rfl hlt rfl ?_) | ((with_reducible refine (at_load (t := 5)) rfl ?_); refine wl_loadC (v := .int .u8 4) rfl rfl Try.underlying5 rfl rfl (by rw [Nat.mul_one]; exact hs.own_rd 1 rfl k hlt) ?_))
                              go_roundw
                              case rel => first | exact ⟨k + 1, by omega, by go_num, hs⟩ | ((repeat apply Exists.intro); exact ⟨⟨k + 1, by omega, by go_num, hs⟩, rfl⟩)
                              case measure => simp [intOf]; omega
                            · obtain rfl : KK = k := by omega
                              go_wp2_with fail
                              go_loopw [31] (fun i wr => ∃ k : Nat, k ≤ KK ∧ i = .int .i64 k ∧ Tr w [] wr [Res.own 5 1 (.slice (some ⟨gY, 0, none⟩) KK cY) KK (rowOf KK (u8v fun _ => 5)).toList, Res.own 5 1 (.slice (some ⟨gX, 0, none⟩) KK cX) KK (rowOf KK (u8v fun _ => 4)).toList, Res.own 30 128 (.slice (some ⟨gL, 0, none⟩) (m + 1) cL) (m + 1) (rowOf ((m + 1) * 128) (u8v D)).toList, Res.own 30 128 (.slice aoA m cA) m (rowOf (m * 128) (u8v C)).toList, Res.own 30 128 (.slice aoB mb cB) mb (rowOf (mb * 128) (u8v CB)).toList, Res.own 30 128 (.slice aoW ma cW) ma (rowOf (ma * 128) (u8v CA)).toList, Res.own 30 128 (.slice aoR2 (ma + 2) cR2) (ma + 2) (rowOf ((ma + 2) * 128) (u8v fun _ => 3)).toList, Res.own 30 128 (.slice aoQ2 (mb + 2) cQ2) (mb + 2) (rowOf ((mb + 2) * 128) (u8v fun _ => 2)).toList, Res.own 30 128 (.slice aoP2 (ma + 2) cP2) (ma + 2) (rowOf ((ma + 2) * 128) (u8v fun _ => 1)).toList]) (fun i _ => KK - (intOf i).toNat)
                              case atStart => exact ⟨0, Nat.zero_le _, rfl, hs⟩
                              case round =>
                                clear hs
                                obtain ⟨k, hk, rfl, hs⟩ := hrel
                                by_cases hlt : k < KK
                                · have hltI : (k : Int) < KK := by omega
                                  go_wp2_with (first | ((with_reducible refine (at_index (t := 23)) rfl ?_); refine wl_index rfl rfl Try.underlying23 size5 rfl rfl k rfl hlt rfl ?_) | ((with_reducible refine (at_load (t := 5)) rfl ?_); refine wl_loadC (v := .int .u8 5) rfl rfl Try.underlying5 rfl rfl (by rw [Nat.mul_one]; exact hs.own_rd 0 rfl k hlt) ?_))
                                  go_roundw
                                  case rel => first | exact ⟨k + 1, by omega, by go_num, hs⟩ | ((repeat apply Exists.intro); exact ⟨⟨k + 1, by omega, by go_num, hs⟩, rfl⟩)
                                  case measure => simp [intOf]; omega
                                · obtain rfl : KK = k := by omega
                                  go_upto_region 60 with (first | (go_at_call_of 21 cP2; refine (marked_any 1 1 rfl (fun _ => 1) _ _ _ gP2 0 _ (by omega) haP2.out (hs.own_rdx 8 rfl haP2.out) (fun _ _ => rfl)).mono ?_; rintro e w2 ⟨rfl, hc⟩; replace hs := hs.call0 hc; clear hc) | (go_at_call_of 21 cQ2; refine (marked_any 2 2 rfl (fun _ => 2) _ _ _ gQ2 0 _ (by omega) haQ2.out (hs.own_rdx 7 rfl haQ2.out) (fun _ _ => rfl)).mono ?_; rintro e w2 ⟨rfl, hc⟩; replace hs := hs.call0 hc; clear hc) | (go_at_call_of 21 cR2; refine (marked_any 3 3 rfl (fun _ => 3) _ _ _ gR2 0 _ (by omega) haR2.out (hs.own_rdx 6 rfl haR2.out) (fun _ _ => rfl)).mono ?_; rintro e w2 ⟨rfl, hc⟩; replace hs := hs.call0 hc; clear hc))
                                  go_wp2_with (first | ((with_reducible refine at_slice rfl ?_); refine wl_slice rfl rfl Try.underlying25 size30 rfl 0 m (Or.inl ⟨rfl, rfl⟩) (Or.inr ⟨_, _, rfl, rfl⟩) (by omega) (by omega) (fun _ => rfl) ?_; intro ao3 hao3; replace hao3 := Lib.hid hao3) | (go_at_call_of 17 cA; refine (same_yes C C m cL cA _ _ gL (0 + 0 * 128) gA 0 _ (by omega) hao3.out haA.out (HLE.out _ _ 2 hs rfl) (hs.own_rdx 3 rfl haA.out) (fun _ _ => rfl)).mono ?_; rintro e w2 ⟨rfl, hc⟩; replace hs := hs.call0 hc; clear hc) | (go_at_call 14; refine (HCA.out ao _ db doff _ hca HA.out (HR.out.keep hs)).mono ?_; rintro e w2 ⟨v, rfl, hc⟩; replace hs := hs.call1 hc; clear hc; obtain ⟨aoZ, cZ, gZ, rfl, hcZ, hmZ, haZ, hzZ⟩ := hs.own_open 0 rfl; replace haZ := Lib.hid haZ; replace hzZ := Lib.hid hzZ; clear hcZ hmZ) | (go_at_call_of 17 cZ; refine (same_yes CA CA ma _ _ _ _ gZ 0 gW 0 _ (by omega) haZ.out haW.out (hs.own_rdx 0 rfl haZ.out) (hs.own_rdx 6 rfl haW.out) (fun _ _ => rfl)).mono ?_; rintro e w2 ⟨rfl, hc⟩; replace hs := hs.call0 hc; clear hc) | (go_at_call 12; refine (known_any _).mono ?_; rintro e w2 ⟨rfl, hc⟩; replace hs := hs.call0 hc; clear hc))
                                  go_ret
                                  exact ⟨rfl, hs.below⟩
end Go.Proofs.Ytlekfbcmjcgabaa
