/- One step of the desk. -/
import Derived.Test.YtcflolcaiedmfaaMa
namespace Go.Proofs.Ytcflolcaiedmfaa
set_option linter.unusedVariables false
set_option linter.unusedSimpArgs false
open Go Go.Sp Go.RowKit Go.BigFrame

theorem pick3 (x : Int) (hx : -9223372036854775808 ≤ x ∧ x ≤ 9223372036854775807) : ∃ k : Nat, k < 3 ∧ Hid (∀ w, Calls Try.prog 19 #[.int .i64 x, .int .i64 3] w fun e w' => e = .returned (.int .i64 k) ∧ w = w') := by
  have h := pick_bd x 3 (by omega)
  refine ⟨(pick x 3).toNat, by omega, Lib.hid fun w => ?_⟩
  have h2 := pick_any x 3 w (by omega) (by omega) hx.1 hx.2
  rwa [show pick x 3 = (((pick x 3).toNat : Nat) : Int) by omega] at h2
def DeskP (w0 : World) (xb : Nat) (B : Int) (e : Ending) (w' : World) : Prop := e = .returned (.bool true) ∧ ∃ m' lv' wv' st' im', m' ≤ 40 ∧ (∀ j, j < 3 → (st' j).Ok (B + 1)) ∧ Tr w0 [] w' (deskL xb st' m' lv' wv' im')
theorem ok_put {st : Nat → Ds} {B : Int} {k : Nat} {y : Ds} (hst : ∀ j, j < 3 → (st j).Ok B) (hy : y.Ok (B + 1)) : ∀ j, j < 3 → (putD st k y j).Ok (B + 1) := fun j hj => by
  by_cases h : j = k
  · subst h; rw [putD_at]; exact hy
  · rw [putD_ne _ _ h]; exact (hst j hj).more (by omega)
set_option maxHeartbeats 1000000 in
theorem step_all (xb m : Nat) (lv wv : Value) (st : Nat → Ds) (im : Nat → Im) (B : Int) (w0 w : World) (kd on tt N : Int) (bv : Value) (F : Nat → UInt8)
    (hst : ∀ j, j < 3 → (st j).Ok B) (hB : 0 ≤ B ∧ B ≤ 4611686018427387904) (hm : m ≤ 40) (hon : -9223372036854775808 ≤ on ∧ on ≤ 9223372036854775807) (htt : -9223372036854775808 ≤ tt ∧ tt ≤ 9223372036854775807) (hN : -9223372036854775808 ≤ N ∧ N ≤ 9223372036854775807)
    (hb : isBytes w0 bv F) (hs : Tr w0 [] w (deskL xb st m lv wv im)) :
    Calls Try.prog 31 #[.pointer (some ⟨xb, 0, none⟩), .agg #[.int .i64 kd, .int .i64 on, .int .i64 tt, .int .i64 N, bv]] w (DeskP w0 xb B) := by
  obtain ⟨k, hk, HP⟩ := pick3 on hon
  obtain ⟨t, ht, HP2⟩ := pick3 tt htt
  unfold deskL at hs
  obtain ⟨aoL, cL, gL, rfl, _⟩ := hs.own_open 1 rfl
  obtain ⟨aoW, cW, gW, rfl, _⟩ := hs.own_open 2 rfl
  obtain ⟨R', hs1, hback⟩ := Tr.pull (B := Res.blk xb (rowOf 8 (deskC st (.slice aoL m cL) (.slice aoW m cW))) 66 :: Res.own 30 1 (.slice aoL m cL) m (rowOf m (imL im)).toList :: Res.own 30 1 (.slice aoW m cW) m (rowOf m (imW im)).toList :: rows m (imF im)) (F := deskF st) hs hk
  clear hs
  have HV1 := Lib.hid (deskC_1 st (.slice aoL m cL) (.slice aoW m cW) hk)
  have HV2 := Lib.hid (deskC_2 st (.slice aoL m cL) (.slice aoW m cW) hk)
  have HV6 := Lib.hid (deskC_6 st (.slice aoL m cL) (.slice aoW m cW))
  have HV7 := Lib.hid (deskC_7 st (.slice aoL m cL) (.slice aoW m cW))
  have hL : Like (st k).n (st k).wr (st k).off (st k).aI (st k).aR (st k).lI (st k).lR B := hst k hk
  obtain ⟨R2, hR2⟩ : ∃ R2, R2 = Res.own 30 1 (.slice aoL m cL) m (rowOf m (imL im)).toList :: Res.own 30 1 (.slice aoW m cW) m (rowOf m (imW im)).toList :: (rows m (imF im) ++ R') := ⟨_, rfl⟩
  have hs2 : Tr w0 [] w (diskR (st k).d (st k).s (st k).n (st k).f (st k).wr (st k).off (st k).aI (st k).lI :: refG (st k).rd (st k).g (st k).c (st k).n (st k).f (st k).wr (st k).off (st k).aR (st k).lR :: Res.blk xb (rowOf 8 (deskC st (.slice aoL m cL) (.slice aoW m cW))) 66 :: R2) := by rw [hR2]; exact hs1
  have back : ∀ (y : Ds) w', y.d = (st k).d → y.rd = (st k).rd → y.Ok (B + 1) → Tr w0 [] w' (y.I :: y.R :: Res.blk xb (rowOf 8 (deskC st (.slice aoL m cL) (.slice aoW m cW))) 66 :: R2) → DeskP w0 xb B (.returned (.bool true)) w' := fun y w' h1 h2 h3 h => by
    refine ⟨rfl, m, .slice aoL m cL, .slice aoW m cW, putD st k y, im, hm, ok_put hst h3, ?_⟩
    unfold deskL
    rw [deskC_same st k y _ _ h1 h2]
    refine hback w' (Res.blk xb (rowOf 8 (deskC st (.slice aoL m cL) (.slice aoW m cW))) 66 :: Res.own 30 1 (.slice aoL m cL) m (rowOf m (imL im)).toList :: Res.own 30 1 (.slice aoW m cW) m (rowOf m (imW im)).toList :: rows m (imF im)) (deskF (putD st k y)) (fun j hj hne => by unfold deskF; rw [putD_ne _ _ hne]) ?_
    have e : deskF (putD st k y) k = [y.I, y.R] := by unfold deskF; rw [putD_at]
    rw [e]
    rw [hR2] at h
    exact h
  have put : ∀ (y : Ds) w', y.Ok (B + 1) → Tr w0 [] w' (y.R :: y.I :: (st k).I :: (st k).R :: Res.blk xb (rowOf 8 (setC (setC (deskC st (.slice aoL m cL) (.slice aoW m cW)) t (.pointer (some ⟨y.d, 0, none⟩))) (3 + t) (.pointer (some ⟨y.rd, 0, none⟩)))) 66 :: R2) → DeskP w0 xb B (.returned (.bool true)) w' := fun y w' h3 h => by
    refine ⟨rfl, m, .slice aoL m cL, .slice aoW m cW, putD st t y, im, hm, ok_put hst h3, ?_⟩
    rw [deskC_put st ht y, hR2] at h
    have h1 := h.perm (perm_two y.R y.I _ (st k).I (st k).R)
    have h2 := hback w' (y.R :: y.I :: Res.blk xb (rowOf 8 (deskC (putD st t y) (.slice aoL m cL) (.slice aoW m cW))) 66 :: Res.own 30 1 (.slice aoL m cL) m (rowOf m (imL im)).toList :: Res.own 30 1 (.slice aoW m cW) m (rowOf m (imW im)).toList :: rows m (imF im)) (deskF st) (fun _ _ _ => rfl) h1
    exact rows_put (a := y.R) (b := y.I) (B := Res.blk xb (rowOf 8 (deskC (putD st t y) (.slice aoL m cL) (.slice aoW m cW))) 66 :: Res.own 30 1 (.slice aoL m cL) m (rowOf m (imL im)).toList :: Res.own 30 1 (.slice aoW m cW) m (rowOf m (imW im)).toList :: rows m (imF im)) (F := deskF st) (G := deskF (putD st t y)) h2 ht rfl (by unfold deskF; rw [putD_at]) (fun j _ hne => by unfold deskF; rw [putD_ne _ _ hne])
  by_cases k1 : kd = 1
  · subst k1
    refine (step_read xb _ _ _ _ _ _ k t _ _ _ _ _ _ _ B _ R2 w0 w on tt N bv hL hk ht hN HP HP2 HV1 HV2 hs2).mono fun e w' ⟨he, h⟩ => ?_
    subst he
    exact back (st k) w' rfl rfl (hL.more (by omega)) h
  by_cases k2 : kd = 2
  · subst k2
    refine (step_write xb _ _ _ _ _ _ k t _ _ _ _ _ _ _ B _ R2 w0 w on tt N bv hL hk ht hN HP HP2 HV1 HV2 hs2 F hB.2 hb).mono fun e w' ⟨he, f', wr', off', aI', aR', lI', lR', hL', h⟩ => ?_
    subst he
    exact back ⟨(st k).d, (st k).s, (st k).g, (st k).c, (st k).rd, (st k).n, f', wr', off', aI', aR', lI', lR'⟩ w' rfl rfl hL' h
  by_cases k3 : kd = 3
  · subst k3
    refine (step_arm xb _ _ _ _ _ _ k t _ _ _ _ _ _ _ B _ R2 w0 w on tt N bv hL hk ht hN HP HP2 HV1 HV2 hs2).mono fun e w' ⟨he, aI', aR', lI', lR', hL', h⟩ => ?_
    subst he
    exact back ⟨(st k).d, (st k).s, (st k).g, (st k).c, (st k).rd, (st k).n, (st k).f, (st k).wr, (st k).off, aI', aR', lI', lR'⟩ w' rfl rfl (hL'.more (by omega)) h
  by_cases k4 : kd = 4
  · subst k4
    refine (step_restart xb _ _ _ _ _ _ k t _ _ _ _ _ _ _ B _ R2 w0 w on tt N bv hL hk ht hN HP HP2 HV1 HV2 hs2).mono fun e w' ⟨he, h⟩ => ?_
    subst he
    exact back ⟨(st k).d, (st k).s, (st k).g, (st k).c, (st k).rd, (st k).n, (st k).f, (st k).wr, false, false, false, 0, 0⟩ w' rfl rfl ⟨hL.1, ⟨hL.2.1.1, by have := hL.2.1.2; show (st k).wr ≤ B + 1; omega⟩, .inr ⟨rfl, rfl⟩, Int.le_refl _, by show (0 : Int) ≤ _; omega⟩ h
  by_cases k5 : kd = 5
  · subst k5
    refine (step_copy xb _ _ _ _ _ _ k t _ _ _ _ _ _ _ B _ R2 w0 w on tt N bv hL hk ht hN HP HP2 HV1 HV2 hs2).mono fun e w' ⟨he, d2, s2, rd2, g2, c2, h⟩ => ?_
    subst he
    exact put ⟨d2, s2, g2, c2, rd2, (st k).n, (st k).f, (st k).wr, (st k).off, (st k).aI, (st k).aR, (st k).lI, (st k).lR⟩ w' (hL.more (by omega)) h
  by_cases k6 : kd = 6
  · subst k6
    refine (step_image xb _ _ _ _ _ _ k t _ _ _ _ _ _ _ B _ R2 w0 w on tt N bv hL hk ht hN HP HP2 HV1 HV2 hs2 m cL cW aoL aoW _ _ _ hR2 hm HV6 HV7).mono fun e w' ⟨he, h⟩ => ?_
    subst he
    rcases h with h | ⟨hm2, b, v, lv', wv', h⟩
    · exact back (st k) w' rfl rfl (hL.more (by omega)) h
    · refine ⟨rfl, m + 1, lv', wv', st, putD im m ⟨b, (st k).n, v, (st k).f⟩, by omega, fun j hj => (hst j hj).more (by omega), ?_⟩
      rw [deskC_lists] at h
      unfold deskL
      rw [← row_upd (V := imL im) (V' := imL (putD im m ⟨b, (st k).n, v, (st k).f⟩)) (v := .slice (some ⟨b, 0, none⟩) (st k).n (st k).n) (fun j hj => by unfold imL; rw [putD_ne _ _ (by omega)]) (by unfold imL; rw [putD_at]),
        ← row_upd (V := imW im) (V' := imW (putD im m ⟨b, (st k).n, v, (st k).f⟩)) (v := v) (fun j hj => by unfold imW; rw [putD_ne _ _ (by omega)]) (by unfold imW; rw [putD_at]),
        rows_succ, rows_congr (F := imF (putD im m ⟨b, (st k).n, v, (st k).f⟩)) (G := imF im) (fun j hj => by unfold imF; rw [putD_ne _ _ (by omega)])]
      have e : imF (putD im m ⟨b, (st k).n, v, (st k).f⟩) m = [Res.blk b (rowOf ((st k).n * 128) (u8v (st k).f)) 40, Res.own 40 128 v (st k).n (rowOf ((st k).n * 128) (u8v (st k).f)).toList] := by unfold imF; rw [putD_at]
      rw [e]
      refine hback w' (Res.blk xb (rowOf 8 (deskC st lv' wv')) 66 :: Res.own 30 1 lv' (m + 1) ((rowOf m (imL im)).toList ++ [.slice (some ⟨b, 0, none⟩) (st k).n (st k).n]) :: Res.own 30 1 wv' (m + 1) ((rowOf m (imW im)).toList ++ [v]) :: (rows m (imF im) ++ [Res.blk b (rowOf ((st k).n * 128) (u8v (st k).f)) 40, Res.own 40 128 v (st k).n (rowOf ((st k).n * 128) (u8v (st k).f)).toList])) (deskF st) (fun _ _ _ => rfl) ?_
      exact h.perm (perm_im _ _ _ _ [_, _, _] (rows m (imF im)) R')
  by_cases k7 : kd = 7
  · subst k7
    by_cases hb2 : N < 1 ∨ 4096 < N
    · refine (step_new_no xb _ _ _ _ _ _ k t _ _ _ _ _ _ _ B _ R2 w0 w on tt N bv hL hk ht hN HP HP2 HV1 HV2 hs2 hb2).mono fun e w' ⟨he, h⟩ => ?_
      subst he
      exact back (st k) w' rfl rfl (hL.more (by omega)) h
    · refine (step_new_ok xb _ _ _ _ _ _ k t _ _ _ _ _ _ _ B _ R2 w0 w on tt N bv hL hk ht hN HP HP2 HV1 HV2 hs2 N.toNat (by omega) (by omega) (by omega)).mono fun e w' ⟨he, d2, s2, rd2, g2, c2, h⟩ => ?_
      subst he
      exact put ⟨d2, s2, g2, c2, rd2, N.toNat, fun _ => 0, 0, false, false, false, 0, 0⟩ w' (Like.fresh (n := N.toNat) (by omega) (by omega) (by omega)) h
  by_cases k8 : kd = 8
  · subst k8
    refine (step_from xb _ _ _ _ _ _ k t _ _ _ _ _ _ _ B _ R2 w0 w on tt N bv hL hk ht hN HP HP2 HV1 HV2 hs2).mono fun e w' ⟨he, d2, s2, rd2, g2, c2, h⟩ => ?_
    subst he
    exact put ⟨d2, s2, g2, c2, rd2, (st k).n, (st k).f, 0, false, false, false, 0, 0⟩ w' (Like.fresh hL.1.1 hL.1.2 (by omega)) h
  refine (step_other xb _ _ _ _ _ _ k t _ _ _ _ _ _ _ B _ R2 w0 w on tt N bv hL hk ht hN HP HP2 HV1 HV2 hs2 kd (by omega)).mono fun e w' ⟨he, h⟩ => ?_
  subst he
  exact back (st k) w' rfl rfl (hL.more (by omega)) h
end Go.Proofs.Ytcflolcaiedmfaa
