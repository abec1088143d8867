/- DiskPlays: the walk. -/
import Derived.Test.YtcflolcaiedmfaaMd
import Derived.Test.YtcflolcaiedmfaaOpenD
namespace Go.Proofs.Ytcflolcaiedmfaa
set_option linter.unusedVariables false
set_option linter.unusedSimpArgs false
open Go Go.Sp Go.RowKit Go.BigFrame

theorem wl_buildP {P : Program} {w : World} {ops : Array Oper} {Q : Exit → Act → World → Prop} {a : Act} {o : Oper} {rest : List Oper} {t : TypeId} {ps : Array (Nat × Operand)} (hw : Region.wanted o (yielded ops a.tmps) = true) (ho : o.op = .build t ps)
    (vs : List (Nat × Value)) (hv : ps.toList.map (fun x => (x.1, a.eval x.2)) = vs) {cs : Array Value} (hb : P.built t vs = some cs) (k : wpList P ops Q rest (a.put o.dst (.agg cs)) w) : wpList P ops Q (o :: rest) a w := by
  refine wl_run hw ?_ k
  subst hv
  have h1 := run_build (P := P) w t (ps.map fun (x : Nat × Operand) => (x.1, a.eval x.2)) cs (by rw [Array.toList_map]; exact hb)
  unfold execOp
  simp [ho, h1, Result.andThen]
theorem built66 : Try.prog.built 66 [] = some #[.pointer none, .pointer none, .pointer none, .pointer none, .pointer none, .pointer none, .slice none 0 0, .slice none 0 0] := by kernel_rfl
theorem built66C : (#[.pointer none, .pointer none, .pointer none, .pointer none, .pointer none, .pointer none, .slice none 0 0, .slice none 0 0] : Array Value) = rowOf 8 (begC (fun _ => noD) 0) := by
  refine rowOf_ext rfl fun i hi => ?_
  match i, hi with
  | 0, _ => rfl
  | 1, _ => rfl
  | 2, _ => rfl
  | 3, _ => rfl
  | 4, _ => rfl
  | 5, _ => rfl
  | 6, _ => rfl
  | 7, _ => rfl
theorem size69 : (Try.prog.info? 69).map (·.size) = some 5 := by kernel_rfl
theorem wl_load5 {P : Program} {w : World} {ops : Array Oper} {Q : Exit → Act → World → Prop} {a : Act} {o : Oper} {rest : List Oper} {t : TypeId} {x : Operand} (hw : Region.wanted o (yielded ops a.tmps) = true) (ho : o.op = .load t x) {d : TypeDesc} (hu : P.underlying t = some d) (hd : d.isRow = true) (hn : (P.info? t).map (·.size) = some 5) {b off : Nat} (hx : a.eval x = .pointer (some ⟨b, off, none⟩))
    {v0 v1 v2 v3 v4 : Value} (h0 : w.cell? ⟨b, off, none⟩ = some v0) (h1 : w.cell? ⟨b, off + 1, none⟩ = some v1) (h2 : w.cell? ⟨b, off + 2, none⟩ = some v2) (h3 : w.cell? ⟨b, off + 3, none⟩ = some v3) (h4 : w.cell? ⟨b, off + 4, none⟩ = some v4) (k : wpList P ops Q rest (a.put o.dst (.agg #[v0, v1, v2, v3, v4])) w) : wpList P ops Q (o :: rest) a w := by
  have h := ex_loadA (f := fun j => if j = 0 then v0 else if j = 1 then v1 else if j = 2 then v2 else if j = 3 then v3 else v4) ho hu hd hn hx (fun j hj => by
    match j, hj with
    | 0, _ => exact h0
    | 1, _ => exact h1
    | 2, _ => exact h2
    | 3, _ => exact h3
    | 4, _ => exact h4)
  have e : (#[v0, v1, v2, v3, v4] : Array Value) = rowOf 5 (fun j => if j = 0 then v0 else if j = 1 then v1 else if j = 2 then v2 else if j = 3 then v3 else v4) := rowOf_ext rfl fun i hi => by
    match i, hi with
    | 0, _ => rfl
    | 1, _ => rfl
    | 2, _ => rfl
    | 3, _ => rfl
    | 4, _ => rfl
  rw [← e] at h
  exact wl_run hw h k
theorem begins_int (xb n : Nat) (N : Int) (im : Nat → Im) (w0 w : World) (hN : N = (n : Int)) (n1 : 1 ≤ n) (n2 : n ≤ 4096) (hs : Tr w0 [] w [Res.blk xb (rowOf 8 (begC (fun _ => noD) 0)) 66]) :
    Calls Try.prog 30 #[.pointer (some ⟨xb, 0, none⟩), .int .i64 N] w fun e w' => e = .returned (.bool true) ∧ ∃ st lv wv, (∀ j, j < 3 → (st j).Ok 0) ∧ Tr w0 [] w' (deskL xb st 0 lv wv im) := by
  subst hN
  exact begins_any xb n im w0 w n1 n2 hs
set_option maxRecDepth 100000 in
set_option maxHeartbeats 1000000 in
theorem plays_core (n M cap : Nat) (x : Int) (ao : Option Addr) (sb so : Nat) (K : Nat → OpV) (w : World) (n1 : 1 ≤ n) (n2 : n ≤ 4096) (hM : M ≤ 4611686018427387903) (hao : 0 < M → ao = some ⟨sb, so, none⟩) (hK : ∀ i, i < M → OpAt w sb (so + i * 5) (K i))
    (HP : Hid (∀ w, Calls Try.prog 19 #[.int .i64 x, .int .i64 40] w fun e w' => e = .returned (.int .i64 ((n : Int) - 1)) ∧ w = w')) :
    Calls Try.prog 9 #[.int .i64 x, .slice ao M cap] w fun e w' => e = .returned (.bool true) ∧ Tr w [] w' [] := by
  have hs := Tr.refl w []
  have HA := Lib.hid hao
  have HK := Lib.hid hK
  clear hao hK
  go_enter Try.func9, Try.ntmps9
  go_upto_region 3 with (first | (go_at_call 10; refine (awake_any _).mono ?_; rintro e w2 ⟨rfl, hc⟩; replace hs := hs.call0 hc; clear hc) | ((with_reducible refine (at_build (t := 66)) rfl ?_); refine wl_buildP rfl rfl _ (by rfl) built66 ?_) | ((with_reducible refine (at_box (t := 66)) rfl ?_); refine wl_boxA hs rfl rfl rfl ?_; clear hs; intro w1 xb hs))
  rw [built66C] at hs
  go_upto_region 4 with (first | (go_at_call 19; refine (HP.out _).mono ?_; rintro e w2 ⟨rfl, rfl⟩) | (go_at_call 30; refine (begins_int xb n _ (fun _ => ⟨0, 0, undef, fun _ => 0⟩) w _ (by omega) n1 n2 hs).mono ?_; rintro e w2 ⟨rfl, st, lv, wv, hst, hc⟩; clear hs; have hs := hc; clear hc))
  go_wp2_with fail
  go_loopw [8] (fun i wr => ∃ (k m : Nat) (lv wv : Value) (st : Nat → Ds) (im : Nat → Im), k ≤ M ∧ i = .int .i64 k ∧ m ≤ 40 ∧ (∀ j, j < 3 → (st j).Ok k) ∧ Tr w [] wr (deskL xb st m lv wv im)) (fun i _ => M - (intOf i).toNat)
  case atStart => exact ⟨0, 0, lv, wv, st, _, Nat.zero_le _, rfl, Nat.zero_le _, hst, hs⟩
  case round =>
    clear hs hst lv wv st
    obtain ⟨k, m, lv, wv, st, im, hk, rfl, hm, hst, hs⟩ := hrel
    have HST := Lib.hid hst
    clear hst
    by_cases hlt : k < M
    · have hltI : (k : Int) < M := by omega
      have hao := HA.out (by omega)
      subst hao
      have HO := Lib.hid (HK.out k hlt)
      go_upto_region 10 with (first | ((with_reducible refine (at_index (t := 60)) rfl ?_); refine wl_index rfl rfl Try.underlying60 size69 rfl rfl k rfl hlt rfl ?_) | ((with_reducible refine (at_load (t := 69)) rfl ?_); refine wl_load5 rfl rfl Try.underlying69 rfl size69 rfl (hs.keepCell HO.out.c0) (hs.keepCell HO.out.c1) (hs.keepCell HO.out.c2) (hs.keepCell HO.out.c3) (hs.keepCell HO.out.c4) ?_) | (go_at_call 31; refine (step_all xb m lv wv st im k w _ _ _ _ _ _ _ HST.out (by omega) hm HO.out.h1 HO.out.h2 HO.out.h3 HO.out.hb hs).mono ?_; rintro e w2 ⟨rfl, m', lv', wv', st', im', hm', hst', hc⟩; clear hs; have hs := hc; clear hc))
      clear HST HO
      have HST := Lib.hid hst'
      clear hst'
      go_wp2_with (first | (go_at_call 32; refine (tells_any xb m' lv' wv' st' im' _ w _ HST.out hs).mono ?_; rintro e w2 ⟨rfl, hc⟩; clear hs; have hs := hc; clear hc))
      go_roundw
      case rel => exact ⟨k + 1, m', lv', wv', st', im', by omega, by go_num, hm', HST.out, hs⟩
      case measure => simp [intOf]; omega
    · obtain rfl : M = k := by omega
      go_wp2_with fail
      go_loopw [11] (fun i wr => ∃ k : Nat, k ≤ 3 ∧ i = .int .i64 k ∧ Tr w [] wr (deskL xb st m lv wv im)) (fun i _ => 3 - (intOf i).toNat)
      case atStart => exact ⟨0, by omega, rfl, hs⟩
      case round =>
        clear hs hlt hk
        obtain ⟨k, hk, rfl, hs⟩ := hrel
        by_cases hlt : k < 3
        · have hltI : (k : Int) < 3 := by omega
          obtain ⟨R', hs1, hback⟩ := Tr.pull (B := Res.blk xb (rowOf 8 (deskC st lv wv)) 66 :: Res.own 30 1 lv m (rowOf m (imL im)).toList :: Res.own 30 1 wv m (rowOf m (imW im)).toList :: rows m (imF im)) (F := deskF st) hs hlt
          clear hs
          have hs : Tr w [] wr ((st k).I :: (st k).R :: Res.blk xb (rowOf 8 (deskC st lv wv)) 66 :: Res.own 30 1 lv m (rowOf m (imL im)).toList :: Res.own 30 1 wv m (rowOf m (imW im)).toList :: (rows m (imF im) ++ R')) := hs1
          clear hs1
          have HB := Lib.hid hback
          clear hback
          have HV1 := Lib.hid (deskC_1 st lv wv hlt)
          have HV2 := Lib.hid (deskC_2 st lv wv hlt)
          have hL : Like (st k).n (st k).wr (st k).off (st k).aI (st k).aR (st k).lI (st k).lR _ := HST.out k hlt
          have n2 := hL.1.2
          have n1 := hL.1.1
          clear hL
          have HE : Hid (deskF st k = [(st k).I, (st k).R]) := Lib.hid rfl
          generalize st k = y at hs HV1 HV2 HE n1 n2
          obtain ⟨d, s, g, c, rd, n, f, wr1, off, aI, aR, lI, lR⟩ := y
          dsimp only [Ds.I, Ds.R] at hs HV1 HV2 n1 n2 HE
          go_upto_region 16 with fail
          refine wt_enter 18 rfl hs (by kernel_rfl) ?_
          clear hs; intro w1 hs; have hC := hs
          refine wt_take 0 rfl (by kernel_rfl) (by kernel_rfl) (by kernel_rfl) (fun _ _ _ _ h => h) rfl hC ⟨_, fun w hw => by (go_simp; try with_reducible rfl), fun a1 ha => ?_⟩
          simp only [Act.put, List.setIfInBounds_toArray, List.set_cons_succ, List.set_cons_zero] at ha; subst ha
          refine wt_take 1 rfl (by kernel_rfl) (by kernel_rfl) (by kernel_rfl) (fun _ _ _ _ h => h) rfl hC ⟨_, fun w hw => by (go_simp; try with_reducible rfl), fun a1 ha => ?_⟩
          simp only [Act.put, List.setIfInBounds_toArray, List.set_cons_succ, List.set_cons_zero] at ha; subst ha
          refine wt_take 2 rfl (by kernel_rfl) (by kernel_rfl) (by kernel_rfl) (fun _ _ _ _ h => h) rfl hC ⟨_, fun w hw => by (go_simp; try with_reducible rfl), fun a1 ha => ?_⟩
          simp only [Act.put, List.setIfInBounds_toArray, List.set_cons_succ, List.set_cons_zero] at ha; subst ha
          refine wt_take 3 rfl (by kernel_rfl) (by kernel_rfl) (by kernel_rfl) (fun _ _ _ _ h => h) rfl hC ⟨_, fun w hw => by (go_simp; try with_reducible rfl), fun a1 ha => ?_⟩
          simp only [Act.put, List.setIfInBounds_toArray, List.set_cons_succ, List.set_cons_zero] at ha; subst ha
          refine wt_take 4 rfl (by kernel_rfl) (by kernel_rfl) (by kernel_rfl) (fun _ _ _ _ h => h) rfl hC ⟨_, fun w hw => ex_indexA rfl Try.underlying62 size23 rfl rfl k rfl hlt, fun a1 ha => ?_⟩
          simp only [Act.put, List.setIfInBounds_toArray, List.set_cons_succ, List.set_cons_zero] at ha; subst ha
          refine wt_take 5 rfl (by kernel_rfl) (by kernel_rfl) (by kernel_rfl) (fun _ _ _ _ h => h) rfl hC ⟨_, fun w hw => ex_load1 rfl Try.underlying23 rfl rfl (by rw [Nat.zero_add, Nat.mul_one, cell_of_row w _ _ _ _ (0, 0) (hw.getB 2 rfl)]; exact HV1.out), fun a1 ha => ?_⟩
          simp only [Act.put, List.setIfInBounds_toArray, List.set_cons_succ, List.set_cons_zero] at ha; subst ha
          refine wt_take 7 rfl (by kernel_rfl) (by kernel_rfl) (by kernel_rfl) (fun _ _ _ _ h => h) rfl hC ⟨_, fun w hw => by (go_simp; try with_reducible rfl), fun a1 ha => ?_⟩
          simp only [Act.put, List.setIfInBounds_toArray, List.set_cons_succ, List.set_cons_zero] at ha; subst ha
          refine wt_take 8 rfl (by kernel_rfl) (by kernel_rfl) (by kernel_rfl) (fun _ _ _ _ h => h) rfl hC ⟨_, fun w hw => by (go_simp; try with_reducible rfl), fun a1 ha => ?_⟩
          simp only [Act.put, List.setIfInBounds_toArray, List.set_cons_succ, List.set_cons_zero] at ha; subst ha
          refine wt_take 9 rfl (by kernel_rfl) (by kernel_rfl) (by kernel_rfl) (fun _ _ _ _ h => h) rfl hC ⟨_, fun w hw => by (go_simp; try with_reducible rfl), fun a1 ha => ?_⟩
          simp only [Act.put, List.setIfInBounds_toArray, List.set_cons_succ, List.set_cons_zero] at ha; subst ha
          refine wt_take 10 rfl (by kernel_rfl) (by kernel_rfl) (by kernel_rfl) (fun _ _ _ _ h => h) rfl hC ⟨_, fun w hw => by (go_simp; try with_reducible rfl), fun a1 ha => ?_⟩
          simp only [Act.put, List.setIfInBounds_toArray, List.set_cons_succ, List.set_cons_zero] at ha; subst ha
          refine wt_take 11 rfl (by kernel_rfl) (by kernel_rfl) (by kernel_rfl) (fun _ _ _ _ h => h) rfl hC ⟨_, fun w hw => ex_indexA rfl Try.underlying63 size27 rfl rfl k rfl hlt, fun a1 ha => ?_⟩
          simp only [Act.put, List.setIfInBounds_toArray, List.set_cons_succ, List.set_cons_zero] at ha; subst ha
          refine wt_take 12 rfl (by kernel_rfl) (by kernel_rfl) (by kernel_rfl) (fun _ _ _ _ h => h) rfl hC ⟨_, fun w hw => ex_load1 rfl Try.underlying27 rfl rfl (by rw [Nat.mul_one, cell_of_row w _ _ _ _ (0, 0) (hw.getB 2 rfl)]; exact HV2.out), fun a1 ha => ?_⟩
          simp only [Act.put, List.setIfInBounds_toArray, List.set_cons_succ, List.set_cons_zero] at ha; subst ha
          refine wt_take 13 rfl (by kernel_rfl) (by kernel_rfl) (by kernel_rfl) (fun _ _ _ _ h => h) rfl hC ⟨_, fun w hw => by (go_simp; try with_reducible rfl), fun a1 ha => ?_⟩
          simp only [Act.put, List.setIfInBounds_toArray, List.set_cons_succ, List.set_cons_zero] at ha; subst ha
          refine wt_take 14 rfl (by kernel_rfl) (by kernel_rfl) (by kernel_rfl) (fun _ _ _ _ h => h) rfl hC ⟨_, fun w hw => by (go_simp; try with_reducible rfl), fun a1 ha => ?_⟩
          simp only [Act.put, List.setIfInBounds_toArray, List.set_cons_succ, List.set_cons_zero] at ha; subst ha
          refine wt_take 15 rfl (by kernel_rfl) (by kernel_rfl) (by kernel_rfl) (fun _ _ _ _ h => h) rfl hC ⟨_, fun w hw => ex_load1 rfl Try.underlying30 rfl rfl (cellAt2 ((Tr.open2 (hw.get 1 rfl)).get 0 rfl) (Tr.refl _ []) rfl), fun a1 ha => ?_⟩
          simp only [Act.put, List.setIfInBounds_toArray, List.set_cons_succ, List.set_cons_zero] at ha; subst ha
          refine wt_one 6 (by kernel_rfl) ?_
          refine wt_call rfl rfl (by go_simp) ((image_any n2 (hs.get 0 rfl)).mono ?_)
          rintro e w2 ⟨b, rfl, hc⟩
          refine ⟨_, rfl, fun a1 ha => ?_⟩
          simp only [Act.put, List.setIfInBounds_toArray, List.set_cons_succ, List.set_cons_zero] at ha; subst ha
          replace hs := hs.call1 hc; clear hc
          refine wt_and (hs.sub (by repeat (first | exact List.Sublist.refl _ | exact List.nil_sublist _ | refine List.Sublist.cons_cons _ ?_ | refine List.Sublist.cons _ ?_))) fun hC => ?_
          refine wt_one 16 (by kernel_rfl) ?_
          refine wt_call0 hs rfl rfl (by go_simp) (same_yes f f n n c _ _ b 0 g 0 _ (by omega) (fun _ => rfl) (fun _ => rfl) (hs.rd0 0 rfl (Nat.le_refl _)) ((Tr.open2 (hs.get 2 rfl)).own_rd 1 rfl) (fun _ _ => rfl)) (by simp only [Act.put, List.setIfInBounds_toArray, List.set_cons_succ, List.set_cons_zero]; rfl) ?_
          clear hs; intro w1 hs
          refine wt_and (hs.sub (by repeat (first | exact List.Sublist.refl _ | exact List.nil_sublist _ | refine List.Sublist.cons_cons _ ?_ | refine List.Sublist.cons _ ?_))) fun hC => ?_
          refine wt_take 17 rfl (by kernel_rfl) (by kernel_rfl) (by kernel_rfl) (fun _ _ _ _ h => h) rfl hC ⟨_, fun w hw => by (go_simp; try with_reducible rfl), fun a1 ha => ?_⟩
          simp only [Act.put, List.setIfInBounds_toArray, List.set_cons_succ, List.set_cons_zero] at ha; subst ha
          refine wt_done (by kernel_rfl) ?_
          skip
          clear hC
          go_wp2_with fail
          go_roundw
          case rel => exact ⟨k + 1, by omega, by go_num, HB.out _ (Res.blk xb (rowOf 8 (deskC st lv wv)) 66 :: Res.own 30 1 lv m (rowOf m (imL im)).toList :: Res.own 30 1 wv m (rowOf m (imW im)).toList :: rows m (imF im)) (deskF st) (fun _ _ _ => rfl) (by rw [HE.out]; exact hs.erase 0)⟩
          case measure => simp [intOf]; omega
        · obtain rfl : k = 3 := by omega
          go_wp2_with (first | (go_at_call 33; refine (still_any xb m lv wv st im 0 w _ hm hs).mono ?_; rintro e w2 ⟨rfl, hc⟩; clear hs; have hs := hc; clear hc))
          go_ret
          exact ⟨rfl, hs.letgo⟩
theorem plays_walk (M cap : Nat) (x : Int) (ao : Option Addr) (sb so : Nat) (K : Nat → OpV) (w : World) (hx : -9223372036854775808 ≤ x ∧ x ≤ 9223372036854775807) (hM : M ≤ 4611686018427387903) (hao : 0 < M → ao = some ⟨sb, so, none⟩) (hK : ∀ i, i < M → OpAt w sb (so + i * 5) (K i)) :
    Calls Try.prog 9 #[.int .i64 x, .slice ao M cap] w fun e w' => e = .returned (.bool true) ∧ Below w.heap.size w w' := by
  have h := pick_bd x 40 (by omega)
  refine (plays_core ((pick x 40).toNat + 1) M cap x ao sb so K w (by omega) (by omega) hM hao hK (Lib.hid fun w => ?_)).mono fun e w' ⟨he, ht⟩ => ⟨he, ht.below⟩
  have h2 := pick_any x 40 w (by omega) (by omega) hx.1 hx.2
  rwa [show pick x 40 = ((((pick x 40).toNat + 1 : Nat) : Int) - 1) by omega] at h2
end Go.Proofs.Ytcflolcaiedmfaa
