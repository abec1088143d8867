/- One step on two disks: copies, new ones, those made of an image. -/
import Derived.Test.YtcflolcaiedmfaaJ
namespace Go.Proofs.Ytcflolcaiedmfaa
set_option linter.unusedVariables false
set_option linter.unusedSimpArgs false
open Go Go.Sp Go.RowKit Go.BigFrame

theorem setC_lo {C8 : Nat → Value} {k t : Nat} {v u : Value} (ht : t < 3) (hk : k < 3) (h : (rowOf 8 C8)[3 + k]? = some u) : (rowOf 8 (setC C8 t v))[3 + k]? = some u := by
  rw [rowOf_get (by omega)] at h ⊢
  unfold setC
  rw [if_neg (by omega)]
  exact h
theorem wt_store1R {P : Program} {l : List Oper} {Q : Exit → Act → World → Prop} {a a' : Act} {w : World} {o : Oper} {t : TypeId} {x y : Operand} {i : Nat} {K : Act → World → Prop} {w0 : World} {S : List Nat} {L : List Res} (hs : Tr w0 S w L) (hi : l[i]? = some o) (hw : Region.wanted o (yielded l.toArray a.tmps) = true) (ho : o.op = .store t x y) (hn : (P.info? t).map (·.size) = some 1) {b off : Nat} (hx : a.eval x = .pointer (some ⟨b, off, none⟩)) {v : Value} (hy : a.eval y = v) (h1 : v.oneCell' = true)
    (j : Nat) {N : Nat} {f : Nat → Value} {bt : TypeId} (hj : L[j]? = some (Res.blk b (rowOf N f) bt)) (hoff : off < N) (g : Nat → Value) (hg : ∀ q, q < N → (if q = off then v else f q) = g q)
    (ha : a.put o.dst undef = a') (k : ∀ w', Tr w0 S w' (L.set j (Res.blk b (rowOf N g) bt)) → K a' w') : wpOp P l.toArray Q i K a w := by
  refine wt_skip hi hw (ex_store1 ho hn hx hy h1 (hs.getB j hj) (by rw [rowOf_size]; exact hoff)) ha (k _ (hs.updB j hj ?_))
  have e : (rowOf N f).setIfInBounds off v = rowOf N g := by rw [rowOf_set, rowOf_congr hg]
  rw [e]
  exact tr_setRow (hs.getB j hj) _
set_option maxRecDepth 100000 in
set_option maxHeartbeats 1000000 in
theorem step_copy (xb d s g c rd n k t : Nat) (f : Nat → UInt8) (wr : Int) (off aI aR : Bool) (lI lR B : Int) (C8 : Nat → Value) (R2 : List Res) (w0 w : World) (on tt N : Int) (bv : Value)
    (hL : Like n wr off aI aR lI lR B) (hk : k < 3) (ht : t < 3) (hN : -9223372036854775808 ≤ N ∧ N ≤ 9223372036854775807)
    (HP : Hid (∀ w, Calls Try.prog 19 #[.int .i64 on, .int .i64 3] w fun e w' => e = .returned (.int .i64 k) ∧ w = w')) (HP2 : Hid (∀ w, Calls Try.prog 19 #[.int .i64 tt, .int .i64 3] w fun e w' => e = .returned (.int .i64 t) ∧ w = w'))
    (HV1 : Hid ((rowOf 8 C8)[k]? = some (.pointer (some ⟨d, 0, none⟩)))) (HV2 : Hid ((rowOf 8 C8)[3 + k]? = some (.pointer (some ⟨rd, 0, none⟩))))
    (hs0 : Tr w0 [] w (diskR d s n f wr off aI lI :: refG rd g c n f wr off aR lR :: Res.blk xb (rowOf 8 C8) 66 :: R2)) :
    Calls Try.prog 31 #[.pointer (some ⟨xb, 0, none⟩), .agg #[.int .i64 5, .int .i64 on, .int .i64 tt, .int .i64 N, bv]] w fun e w' => e = .returned (.bool true) ∧ ∃ d2 s2 rd2 g2 c2, Tr w0 [] w' (refG rd2 g2 c2 n f wr off aR lR :: diskR d2 s2 n f wr off aI lI :: diskR d s n f wr off aI lI :: refG rd g c n f wr off aR lR :: Res.blk xb (rowOf 8 (setC (setC C8 t (.pointer (some ⟨d2, 0, none⟩))) (3 + t) (.pointer (some ⟨rd2, 0, none⟩)))) 66 :: R2) := by
  have hs := hs0
  have n1 := hL.1.1
  have n2 := hL.1.2
  clear hs0
  go_enter Try.func31, Try.ntmps31
  go_upto_region 2 with (first | ((with_reducible refine (at_box (t := 69)) rfl ?_); refine wl_boxA hs rfl rfl rfl ?_; clear hs; intro w1 ob hs) | ((with_reducible refine at_load rfl ?_); refine wl_load1 hs rfl rfl Try.underlying3 rfl rfl 0 rfl rfl ?_) | (go_at_call 19; refine (HP.out _).mono ?_; rintro e w2 ⟨rfl, rfl⟩))
  go_upto_region 3 with (first | ((with_reducible refine at_load rfl ?_); refine wl_load1 hs rfl rfl Try.underlying3 rfl rfl 0 rfl rfl ?_) | (go_at_call 19; refine (HP2.out _).mono ?_; rintro e w2 ⟨rfl, rfl⟩))
  clear HP HP2
  go_upto_region 21 with (first | ((with_reducible refine at_load rfl ?_); refine wl_load1 hs rfl rfl Try.underlying3 rfl rfl 0 rfl rfl ?_) | ((with_reducible refine (at_index (t := 62)) rfl ?_); refine wl_run rfl (ex_indexA rfl Try.underlying62 size23 rfl rfl k rfl hk) ?_) | ((with_reducible refine (at_load (t := 23)) rfl ?_); refine wl_load1 hs rfl rfl Try.underlying23 rfl rfl 3 rfl (by rw [Nat.zero_add, Nat.mul_one]; exact HV1.out) ?_) | (go_at_call 28; refine (copy_any n2 (hs.get 1 rfl)).mono ?_; rintro e w2 ⟨d2, s2, rfl, hc⟩; replace hs := hs.call1 hc; clear hc))
  go_upto_region 22 with (first | ((with_reducible refine (at_index (t := 62)) rfl ?_); refine wl_run rfl (ex_indexA rfl Try.underlying62 size23 rfl rfl t rfl ht) ?_) | ((with_reducible refine (at_store (t := 23)) rfl ?_); refine wl_store1R hs rfl rfl size23 rfl rfl rfl 4 rfl (by omega) (setC C8 t (.pointer (some ⟨d2, 0, none⟩))) (fun j _ => by rw [Nat.zero_add, Nat.mul_one]; rfl) ?_; clear hs; intro w1 hs))
  have HVc := Lib.hid (setC_lo (v := .pointer (some ⟨d2, 0, none⟩)) ht hk HV2.out)
  refine wt_enterS (List.nil_sublist _) 13 rfl hs (by kernel_rfl) ?_
  clear hs; intro w1 hC hs
  refine wt_take 0 rfl (by kernel_rfl) (by kernel_rfl) (by kernel_rfl) (fun _ _ _ _ h => h) rfl hC ⟨_, fun w hw => by (go_simp; try with_reducible rfl), fun a1 ha => ?_⟩
  simp only [Act.put, List.setIfInBounds_toArray, List.set_cons_succ, List.set_cons_zero] at ha; subst ha
  refine wt_take 1 rfl (by kernel_rfl) (by kernel_rfl) (by kernel_rfl) (fun _ _ _ _ h => h) rfl hC ⟨_, fun w hw => by (go_simp; try with_reducible rfl), fun a1 ha => ?_⟩
  simp only [Act.put, List.setIfInBounds_toArray, List.set_cons_succ, List.set_cons_zero] at ha; subst ha
  refine wt_take 2 rfl (by kernel_rfl) (by kernel_rfl) (by kernel_rfl) (fun _ _ _ _ h => h) rfl hC ⟨_, fun w hw => by (go_simp; try with_reducible rfl), fun a1 ha => ?_⟩
  simp only [Act.put, List.setIfInBounds_toArray, List.set_cons_succ, List.set_cons_zero] at ha; subst ha
  refine wt_take 3 rfl (by kernel_rfl) (by kernel_rfl) (by kernel_rfl) (fun _ _ _ _ h => h) rfl hC ⟨_, fun w hw => by (go_simp; try with_reducible rfl), fun a1 ha => ?_⟩
  simp only [Act.put, List.setIfInBounds_toArray, List.set_cons_succ, List.set_cons_zero] at ha; subst ha
  refine wt_take 4 rfl (by kernel_rfl) (by kernel_rfl) (by kernel_rfl) (fun _ _ _ _ h => h) rfl hC ⟨_, fun w hw => by (go_simp; try with_reducible rfl), fun a1 ha => ?_⟩
  simp only [Act.put, List.setIfInBounds_toArray, List.set_cons_succ, List.set_cons_zero] at ha; subst ha
  refine wt_take 5 rfl (by kernel_rfl) (by kernel_rfl) (by kernel_rfl) (fun _ _ _ _ h => h) rfl hC ⟨_, fun w hw => by (go_simp; try with_reducible rfl), fun a1 ha => ?_⟩
  simp only [Act.put, List.setIfInBounds_toArray, List.set_cons_succ, List.set_cons_zero] at ha; subst ha
  refine wt_take 6 rfl (by kernel_rfl) (by kernel_rfl) (by kernel_rfl) (fun _ _ _ _ h => h) rfl hC ⟨_, fun w hw => ex_indexA rfl Try.underlying63 size27 rfl rfl k rfl hk, fun a1 ha => ?_⟩
  simp only [Act.put, List.setIfInBounds_toArray, List.set_cons_succ, List.set_cons_zero] at ha; subst ha
  refine wt_take 9 rfl (by kernel_rfl) (by kernel_rfl) (by kernel_rfl) (fun _ _ _ _ h => h) rfl hC ⟨_, fun w hw => by (go_simp; try with_reducible rfl), fun a1 ha => ?_⟩
  simp only [Act.put, List.setIfInBounds_toArray, List.set_cons_succ, List.set_cons_zero] at ha; subst ha
  refine wt_take 10 rfl (by kernel_rfl) (by kernel_rfl) (by kernel_rfl) (fun _ _ _ _ h => h) rfl hC ⟨_, fun w hw => by (go_simp; try with_reducible rfl), fun a1 ha => ?_⟩
  simp only [Act.put, List.setIfInBounds_toArray, List.set_cons_succ, List.set_cons_zero] at ha; subst ha
  refine wt_one 7 (by kernel_rfl) ?_
  refine wt_run (v := .pointer (some ⟨rd, 0, none⟩)) rfl rfl (ex_load1 rfl Try.underlying27 rfl rfl (by rw [Nat.mul_one, cell_of_row _ _ _ _ _ (0, 0) (hs.getB 4 rfl)]; exact HVc.out)) (by simp only [Act.put, List.setIfInBounds_toArray, List.set_cons_succ, List.set_cons_zero]; rfl) ?_
  refine wt_and (hs.sub (by repeat (first | exact List.Sublist.refl _ | exact List.nil_sublist _ | refine List.Sublist.cons_cons _ ?_ | refine List.Sublist.cons _ ?_))) fun hC => ?_
  refine wt_one 8 (by kernel_rfl) ?_
  refine wt_call rfl rfl (by go_simp) ((rcopy_any n1 n2 (hs.get 3 rfl)).mono ?_)
  rintro e w2 ⟨rd2, g2, c2, rfl, hc⟩
  refine ⟨_, rfl, fun a1 ha => ?_⟩
  simp only [Act.put, List.setIfInBounds_toArray, List.set_cons_succ, List.set_cons_zero] at ha; subst ha
  replace hs := hs.call1 hc; clear hc
  refine wt_and (hs.sub (by repeat (first | exact List.Sublist.refl _ | exact List.nil_sublist _ | refine List.Sublist.cons_cons _ ?_ | refine List.Sublist.cons _ ?_))) fun hC => ?_
  refine wt_take 11 rfl (by kernel_rfl) (by kernel_rfl) (by kernel_rfl) (fun _ _ _ _ h => h) rfl hC ⟨_, fun w hw => ex_indexA rfl Try.underlying63 size27 rfl rfl t rfl ht, fun a1 ha => ?_⟩
  simp only [Act.put, List.setIfInBounds_toArray, List.set_cons_succ, List.set_cons_zero] at ha; subst ha
  refine wt_one 12 (by kernel_rfl) ?_
  refine wt_store1R hs rfl rfl rfl size27 rfl rfl rfl 5 rfl (by omega) (setC (setC C8 t (.pointer (some ⟨d2, 0, none⟩))) (3 + t) (.pointer (some ⟨rd2, 0, none⟩))) (fun j _ => by rw [Nat.mul_one]; rfl) (by simp only [Act.put, List.setIfInBounds_toArray, List.set_cons_succ, List.set_cons_zero]; rfl) ?_
  clear hs; intro w1 hs
  refine wt_and (hs.sub (by repeat (first | exact List.Sublist.refl _ | exact List.nil_sublist _ | refine List.Sublist.cons_cons _ ?_ | refine List.Sublist.cons _ ?_))) fun hC => ?_
  refine wt_done (by kernel_rfl) ?_
  go_wp2_with fail
  go_ret
  exact ⟨rfl, _, _, _, _, _, hs.erase 2⟩
set_option maxRecDepth 100000 in
set_option maxHeartbeats 1000000 in
theorem step_new_no (xb d s g c rd n k t : Nat) (f : Nat → UInt8) (wr : Int) (off aI aR : Bool) (lI lR B : Int) (C8 : Nat → Value) (R2 : List Res) (w0 w : World) (on tt N : Int) (bv : Value)
    (hL : Like n wr off aI aR lI lR B) (hk : k < 3) (ht : t < 3) (hN : -9223372036854775808 ≤ N ∧ N ≤ 9223372036854775807)
    (HP : Hid (∀ w, Calls Try.prog 19 #[.int .i64 on, .int .i64 3] w fun e w' => e = .returned (.int .i64 k) ∧ w = w')) (HP2 : Hid (∀ w, Calls Try.prog 19 #[.int .i64 tt, .int .i64 3] w fun e w' => e = .returned (.int .i64 t) ∧ w = w'))
    (HV1 : Hid ((rowOf 8 C8)[k]? = some (.pointer (some ⟨d, 0, none⟩)))) (HV2 : Hid ((rowOf 8 C8)[3 + k]? = some (.pointer (some ⟨rd, 0, none⟩))))
    (hs0 : Tr w0 [] w (diskR d s n f wr off aI lI :: refG rd g c n f wr off aR lR :: Res.blk xb (rowOf 8 C8) 66 :: R2)) (hb : N < 1 ∨ 4096 < N) :
    Calls Try.prog 31 #[.pointer (some ⟨xb, 0, none⟩), .agg #[.int .i64 7, .int .i64 on, .int .i64 tt, .int .i64 N, bv]] w fun e w' => e = .returned (.bool true) ∧ Tr w0 [] w' (diskR d s n f wr off aI lI :: refG rd g c n f wr off aR lR :: Res.blk xb (rowOf 8 C8) 66 :: R2) := by
  have hb := Lib.hid hb
  have hs := hs0
  have n1 := hL.1.1
  have n2 := hL.1.2
  clear hs0
  go_enter Try.func31, Try.ntmps31
  go_upto_region 2 with (first | ((with_reducible refine (at_box (t := 69)) rfl ?_); refine wl_boxA hs rfl rfl rfl ?_; clear hs; intro w1 ob hs) | ((with_reducible refine at_load rfl ?_); refine wl_load1 hs rfl rfl Try.underlying3 rfl rfl 0 rfl rfl ?_) | (go_at_call 19; refine (HP.out _).mono ?_; rintro e w2 ⟨rfl, rfl⟩))
  go_upto_region 3 with (first | ((with_reducible refine at_load rfl ?_); refine wl_load1 hs rfl rfl Try.underlying3 rfl rfl 0 rfl rfl ?_) | (go_at_call 19; refine (HP2.out _).mono ?_; rintro e w2 ⟨rfl, rfl⟩))
  clear HP HP2
  go_wp2_with (first | ((with_reducible refine at_load rfl ?_); refine wl_load1 hs rfl rfl Try.underlying3 rfl rfl 0 rfl rfl ?_) | (go_at_call 11; refine (new_no N _ hb.out).mono ?_; rintro e w2 ⟨rfl, hc⟩; replace hs := hs.call0 hc; clear hc) | (go_at_call 12; refine (rnew_no N _ hb.out).mono ?_; rintro e w2 ⟨rfl, hc⟩; replace hs := hs.call0 hc; clear hc))
  go_ret
  exact ⟨rfl, hs.erase 0⟩
set_option maxRecDepth 100000 in
set_option maxHeartbeats 1000000 in
theorem step_new_ok (xb d s g c rd n k t : Nat) (f : Nat → UInt8) (wr : Int) (off aI aR : Bool) (lI lR B : Int) (C8 : Nat → Value) (R2 : List Res) (w0 w : World) (on tt N : Int) (bv : Value)
    (hL : Like n wr off aI aR lI lR B) (hk : k < 3) (ht : t < 3) (hN : -9223372036854775808 ≤ N ∧ N ≤ 9223372036854775807)
    (HP : Hid (∀ w, Calls Try.prog 19 #[.int .i64 on, .int .i64 3] w fun e w' => e = .returned (.int .i64 k) ∧ w = w')) (HP2 : Hid (∀ w, Calls Try.prog 19 #[.int .i64 tt, .int .i64 3] w fun e w' => e = .returned (.int .i64 t) ∧ w = w'))
    (HV1 : Hid ((rowOf 8 C8)[k]? = some (.pointer (some ⟨d, 0, none⟩)))) (HV2 : Hid ((rowOf 8 C8)[3 + k]? = some (.pointer (some ⟨rd, 0, none⟩))))
    (hs0 : Tr w0 [] w (diskR d s n f wr off aI lI :: refG rd g c n f wr off aR lR :: Res.blk xb (rowOf 8 C8) 66 :: R2)) (m : Nat) (hm : N = m) (m1 : 1 ≤ m) (m2 : m ≤ 4096) :
    Calls Try.prog 31 #[.pointer (some ⟨xb, 0, none⟩), .agg #[.int .i64 7, .int .i64 on, .int .i64 tt, .int .i64 N, bv]] w fun e w' => e = .returned (.bool true) ∧ ∃ d2 s2 rd2 g2 c2, Tr w0 [] w' (refG rd2 g2 c2 m (fun _ => 0) 0 false false 0 :: diskR d2 s2 m (fun _ => 0) 0 false false 0 :: diskR d s n f wr off aI lI :: refG rd g c n f wr off aR lR :: Res.blk xb (rowOf 8 (setC (setC C8 t (.pointer (some ⟨d2, 0, none⟩))) (3 + t) (.pointer (some ⟨rd2, 0, none⟩)))) 66 :: R2) := by
  subst hm
  have hs := hs0
  have n1 := hL.1.1
  have n2 := hL.1.2
  clear hs0
  go_enter Try.func31, Try.ntmps31
  go_upto_region 2 with (first | ((with_reducible refine (at_box (t := 69)) rfl ?_); refine wl_boxA hs rfl rfl rfl ?_; clear hs; intro w1 ob hs) | ((with_reducible refine at_load rfl ?_); refine wl_load1 hs rfl rfl Try.underlying3 rfl rfl 0 rfl rfl ?_) | (go_at_call 19; refine (HP.out _).mono ?_; rintro e w2 ⟨rfl, rfl⟩))
  go_upto_region 3 with (first | ((with_reducible refine at_load rfl ?_); refine wl_load1 hs rfl rfl Try.underlying3 rfl rfl 0 rfl rfl ?_) | (go_at_call 19; refine (HP2.out _).mono ?_; rintro e w2 ⟨rfl, rfl⟩))
  clear HP HP2
  go_upto_region 31 with (first | ((with_reducible refine at_load rfl ?_); refine wl_load1 hs rfl rfl Try.underlying3 rfl rfl 0 rfl rfl ?_) | (go_at_call 11; refine (new_ok m _ m1 m2).mono ?_; rintro e w2 ⟨d2, s2, rfl, hc⟩; replace hs := hs.call1 hc; clear hc))
  go_upto_region 32 with (first | ((with_reducible refine at_load rfl ?_); refine wl_load1 hs rfl rfl Try.underlying3 rfl rfl 1 rfl rfl ?_) | (go_at_call 12; refine (rnew_ok m _ m1 m2).mono ?_; rintro e w2 ⟨rd2, g2, rfl, hc⟩; replace hs := ref_own m2 (hs.call1 hc); clear hc))
  go_upto_region 36 with (first | ((with_reducible refine (at_index (t := 62)) rfl ?_); refine wl_run rfl (ex_indexA rfl Try.underlying62 size23 rfl rfl t rfl ht) ?_) | ((with_reducible refine (at_store (t := 23)) rfl ?_); refine wl_store1R hs rfl rfl size23 rfl rfl rfl 5 rfl (by omega) (setC C8 t (.pointer (some ⟨d2, 0, none⟩))) (fun j _ => by rw [Nat.zero_add, Nat.mul_one]; rfl) ?_; clear hs; intro w1 hs))
  go_wp2_with (first | ((with_reducible refine (at_index (t := 63)) rfl ?_); refine wl_run rfl (ex_indexA rfl Try.underlying63 size27 rfl rfl t rfl ht) ?_) | ((with_reducible refine (at_store (t := 27)) rfl ?_); refine wl_store1R hs rfl rfl size27 rfl rfl rfl 5 rfl (by omega) (setC (setC C8 t (.pointer (some ⟨d2, 0, none⟩))) (3 + t) (.pointer (some ⟨rd2, 0, none⟩))) (fun j _ => by rw [Nat.mul_one]; rfl) ?_; clear hs; intro w1 hs))
  go_ret
  exact ⟨rfl, _, _, _, _, _, hs.erase 2⟩
set_option maxRecDepth 100000 in
set_option maxHeartbeats 1000000 in
theorem step_from (xb d s g c rd n k t : Nat) (f : Nat → UInt8) (wr : Int) (off aI aR : Bool) (lI lR B : Int) (C8 : Nat → Value) (R2 : List Res) (w0 w : World) (on tt N : Int) (bv : Value)
    (hL : Like n wr off aI aR lI lR B) (hk : k < 3) (ht : t < 3) (hN : -9223372036854775808 ≤ N ∧ N ≤ 9223372036854775807)
    (HP : Hid (∀ w, Calls Try.prog 19 #[.int .i64 on, .int .i64 3] w fun e w' => e = .returned (.int .i64 k) ∧ w = w')) (HP2 : Hid (∀ w, Calls Try.prog 19 #[.int .i64 tt, .int .i64 3] w fun e w' => e = .returned (.int .i64 t) ∧ w = w'))
    (HV1 : Hid ((rowOf 8 C8)[k]? = some (.pointer (some ⟨d, 0, none⟩)))) (HV2 : Hid ((rowOf 8 C8)[3 + k]? = some (.pointer (some ⟨rd, 0, none⟩))))
    (hs0 : Tr w0 [] w (diskR d s n f wr off aI lI :: refG rd g c n f wr off aR lR :: Res.blk xb (rowOf 8 C8) 66 :: R2)) :
    Calls Try.prog 31 #[.pointer (some ⟨xb, 0, none⟩), .agg #[.int .i64 8, .int .i64 on, .int .i64 tt, .int .i64 N, bv]] w fun e w' => e = .returned (.bool true) ∧ ∃ d2 s2 rd2 g2 c2, Tr w0 [] w' (refG rd2 g2 c2 n f 0 false false 0 :: diskR d2 s2 n f 0 false false 0 :: diskR d s n f wr off aI lI :: refG rd g c n f wr off aR lR :: Res.blk xb (rowOf 8 (setC (setC C8 t (.pointer (some ⟨d2, 0, none⟩))) (3 + t) (.pointer (some ⟨rd2, 0, none⟩)))) 66 :: R2) := by
  have hs := hs0
  have n1 := hL.1.1
  have n2 := hL.1.2
  clear hs0
  go_enter Try.func31, Try.ntmps31
  go_upto_region 2 with (first | ((with_reducible refine (at_box (t := 69)) rfl ?_); refine wl_boxA hs rfl rfl rfl ?_; clear hs; intro w1 ob hs) | ((with_reducible refine at_load rfl ?_); refine wl_load1 hs rfl rfl Try.underlying3 rfl rfl 0 rfl rfl ?_) | (go_at_call 19; refine (HP.out _).mono ?_; rintro e w2 ⟨rfl, rfl⟩))
  go_upto_region 3 with (first | ((with_reducible refine at_load rfl ?_); refine wl_load1 hs rfl rfl Try.underlying3 rfl rfl 0 rfl rfl ?_) | (go_at_call 19; refine (HP2.out _).mono ?_; rintro e w2 ⟨rfl, rfl⟩))
  clear HP HP2
  go_upto_region 39 with (first | ((with_reducible refine at_load rfl ?_); refine wl_load1 hs rfl rfl Try.underlying3 rfl rfl 0 rfl rfl ?_) | ((with_reducible refine (at_index (t := 62)) rfl ?_); refine wl_run rfl (ex_indexA rfl Try.underlying62 size23 rfl rfl k rfl hk) ?_) | ((with_reducible refine (at_load (t := 23)) rfl ?_); refine wl_load1 hs rfl rfl Try.underlying23 rfl rfl 3 rfl (by rw [Nat.zero_add, Nat.mul_one]; exact HV1.out) ?_) | (go_at_call 13; refine (image_any n2 (hs.get 1 rfl)).mono ?_; rintro e w2 ⟨bi, rfl, hc⟩; replace hs := hs.call1 hc; clear hc) | (go_at_call 26; refine (from_ok n n bi 0 f _ n1 n2 (hs.rd0 0 rfl (Nat.le_refl _))).mono ?_; rintro e w2 ⟨d2, s2, rfl, hc⟩; replace hs := hs.call1 hc; clear hc))
  go_upto_region 40 with (first | ((with_reducible refine (at_index (t := 63)) rfl ?_); refine wl_run rfl (ex_indexA rfl Try.underlying63 size27 rfl rfl k rfl hk) ?_) | ((with_reducible refine (at_load (t := 27)) rfl ?_); refine wl_load1 hs rfl rfl Try.underlying27 rfl rfl 5 rfl (by rw [Nat.mul_one]; exact HV2.out) ?_) | ((with_reducible refine (at_load (t := 30)) rfl ?_); refine wl_loadC rfl rfl Try.underlying30 rfl rfl (cellAt2 ((Tr.open2 (hs.get 4 rfl)).get 0 rfl) (Tr.refl _ []) rfl) ?_) | (go_at_call 27; refine (rfrom_all n c g 0 f _ n1 n2 ((Tr.open2 (hs.get 4 rfl)).own_rd 1 rfl)).mono ?_; rintro e w2 ⟨rd2, g2, c2, rfl, hc⟩; replace hs := hs.call1 hc; clear hc))
  replace hs := hs.erase 2
  go_upto_region 43 with (first | ((with_reducible refine (at_index (t := 62)) rfl ?_); refine wl_run rfl (ex_indexA rfl Try.underlying62 size23 rfl rfl t rfl ht) ?_) | ((with_reducible refine (at_store (t := 23)) rfl ?_); refine wl_store1R hs rfl rfl size23 rfl rfl rfl 5 rfl (by omega) (setC C8 t (.pointer (some ⟨d2, 0, none⟩))) (fun j _ => by rw [Nat.zero_add, Nat.mul_one]; rfl) ?_; clear hs; intro w1 hs))
  go_wp2_with (first | ((with_reducible refine (at_index (t := 63)) rfl ?_); refine wl_run rfl (ex_indexA rfl Try.underlying63 size27 rfl rfl t rfl ht) ?_) | ((with_reducible refine (at_store (t := 27)) rfl ?_); refine wl_store1R hs rfl rfl size27 rfl rfl rfl 5 rfl (by omega) (setC (setC C8 t (.pointer (some ⟨d2, 0, none⟩))) (3 + t) (.pointer (some ⟨rd2, 0, none⟩))) (fun j _ => by rw [Nat.mul_one]; rfl) ?_; clear hs; intro w1 hs))
  go_ret
  exact ⟨rfl, _, _, _, _, _, hs.erase 2⟩
end Go.Proofs.Ytcflolcaiedmfaa
