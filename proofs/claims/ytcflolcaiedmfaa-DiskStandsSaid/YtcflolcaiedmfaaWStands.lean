/- DiskStands: the walk. -/
import Derived.Test.YtcflolcaiedmfaaWArms
namespace Go.Proofs.Ytcflolcaiedmfaa
set_option linter.unusedVariables false
set_option linter.unusedSimpArgs false
open Go Go.Sp Go.RowKit Go.BigFrame

theorem ex_neI {P : Program} {w : World} {a : Act} {o : Oper} {t yt : TypeId} {x y : Operand} (ho : o.op = .binOp .neq t x y yt) {kx : IntKind} {X Y : Int} (hx : a.eval x = .int kx X) (hy : a.eval y = .int kx Y) {R : Bool} (hR : (X != Y) = R) :
    (execOp a.eval o).run P w = .ok (.value (.bool R)) w := by
  unfold execOp
  simp only [ho, hx, hy, eqGuard, binOp, Op.intCmp, hR]
  simp
theorem updF_off (f : Nat → UInt8) (i o : Nat) (F : Nat → UInt8) (h : o ≠ i) : eqB 128 (fun j => updF f i F (0 + o * 128 + j)) (fun j => f (0 + o * 128 + j)) = true := by
  refine eqB_iff.2 fun j hj => ?_
  simp only [updF]
  rw [if_neg (by omega)]
/-- What was written there last, or what stood there. -/
def lastF (f : Nat → UInt8) (K : Nat → Nat) (WF : Nat → Nat → UInt8) (a : Nat) : Nat → Nat → UInt8
  | 0 => fun q => f (0 + a * 128 + q)
  | c + 1 => if K c = a then WF c else lastF f K WF a c
theorem lastF_eq (f : Nat → UInt8) (K : Nat → Nat) (WF : Nat → Nat → UInt8) (a : Nat) : ∀ c, eqB 128 (fun q => wf f K WF c (0 + a * 128 + q)) (lastF f K WF a c) = true
  | 0 => eqB_refl _ _
  | c + 1 => by
    have ih := eqB_iff.1 (lastF_eq f K WF a c)
    refine eqB_iff.2 fun q hq => ?_
    simp only [lastF, wf]
    by_cases h : K c = a
    · rw [if_pos h]
      simp only [updF]
      rw [if_pos (by omega), show 0 + a * 128 + q - K c * 128 = q by omega]
    · rw [if_neg h, ← ih q hq]
      simp only [updF]
      rw [if_neg (by omega)]

set_option maxRecDepth 100000 in
set_option maxHeartbeats 1000000 in
theorem stands_no (n cap m cap2 : Nat) (ao ao2 : Option Addr) (w : World) (hn : n = 0 ∨ 4096 < n) (hn2 : n ≤ 9223372036854775807) :
    Calls Try.prog 7 #[.slice ao n cap, .slice ao2 m cap2] w fun e w' => e = .returned (.bool true) ∧ Tr w [] w' [] := by
  have hs := Tr.refl w []
  have hf : Hid (∀ w, Calls Try.prog 24 #[.slice ao n cap] w fun e w' => e = .returned (.bool (decide ((n : Int) ≤ 5000))) ∧ w = w') := Lib.hid fun w => by
    go_enter Try.func24, Try.ntmps24
    go_wp2
    go_ret
    exact ⟨rfl, rfl⟩
  have hn := Lib.hid hn
  by_cases h5 : n ≤ 5000
  · have h5' : decide ((n : Int) ≤ 5000) = true := decide_eq_true (by omega)
    rw [h5'] at hf
    clear h5'
    rcases hn.out with h0 | h0
    · subst h0
      clear h5
      go_enter Try.func7, Try.ntmps7
      go_wp2_with (first
        | (go_at_call 10; refine (awake_any _).mono ?_; rintro e w2 ⟨rfl, hc⟩; replace hs := hs.call0 hc; clear hc)
        | (go_at_call 24; refine (hf.out _).mono ?_; rintro e w2 ⟨rfl, rfl⟩))
      go_ret
      exact ⟨rfl, hs.letgo⟩
    · have h0' : ¬ (n : Int) = 0 := by omega
      have h0''' : ¬ n = 0 := by omega
      have h0'' : (4096 : Int) < (n : Int) := by omega
      clear h5
      go_enter Try.func7, Try.ntmps7
      go_wp2_with (first
        | (go_at_call 10; refine (awake_any _).mono ?_; rintro e w2 ⟨rfl, hc⟩; replace hs := hs.call0 hc; clear hc)
        | (go_at_call 24; refine (hf.out _).mono ?_; rintro e w2 ⟨rfl, rfl⟩))
      go_ret
      exact ⟨rfl, hs.letgo⟩
  · have h5' : decide ((n : Int) ≤ 5000) = false := decide_eq_false (by omega)
    rw [h5'] at hf
    clear h5'
    go_enter Try.func7, Try.ntmps7
    go_wp2_with (first
      | (go_at_call 10; refine (awake_any _).mono ?_; rintro e w2 ⟨rfl, hc⟩; replace hs := hs.call0 hc; clear hc)
      | (go_at_call 24; refine (hf.out _).mono ?_; rintro e w2 ⟨rfl, rfl⟩))
    go_ret
    exact ⟨rfl, hs.letgo⟩

set_option maxRecDepth 100000 in
set_option maxHeartbeats 2000000 in
theorem stands_yes (n cap m cap2 : Nat) (ao ao2 : Option Addr) (db doff db2 doff2 : Nat) (V : Nat → Value) (SF : Nat → Nat → UInt8) (N : Nat → Int) (V2 : Nat → Value) (WF : Nat → Nat → UInt8) (K O : Nat → Nat) (w : World) (h1 : 1 ≤ n) (h2 : n ≤ 4096) (hm : m ≤ 4611686018427387903)
    (hao : ao = some ⟨db, doff, none⟩) (hV : Rd w db doff n V) (hB : ∀ i, i < n → isBytes w (V i) (SF i)) (hao2 : 0 < m → ao2 = some ⟨db2, doff2, none⟩)
    (hW : Hid (∀ i, i < m → (w.cell? ⟨db2, doff2 + i * 2, none⟩ = some (.int .i64 (N i)) ∧ w.cell? ⟨db2, doff2 + i * 2 + 1, none⟩ = some (V2 i)) ∧ isBytes w (V2 i) (WF i)))
    (hN : Hid (∀ i, i < m → -9223372036854775808 ≤ N i ∧ N i ≤ 9223372036854775807))
    (hK : Hid (∀ i, K i < n)) (hO : Hid (∀ i, O i < n)) (HK : Hid (∀ i, i < m → ∀ w, Calls Try.prog 19 #[.int .i64 (N i), .int .i64 (n : Int)] w fun e w' => e = .returned (.int .i64 (K i : Nat)) ∧ w = w'))
    (HO : Hid (∀ i, i < m → ∀ w, Calls Try.prog 19 #[.int .i64 ((N i).tdiv 7), .int .i64 (n : Int)] w fun e w' => e = .returned (.int .i64 (O i : Nat)) ∧ w = w')) :
    Calls Try.prog 7 #[.slice ao n cap, .slice ao2 m cap2] w fun e w' => e = .returned (.bool true) ∧ Tr w [] w' [] := by
  have hs := Tr.refl w []
  subst hao
  have HV := Lib.hid hV
  have HB := Lib.hid hB
  have HA2 := Lib.hid hao2
  clear hV hB hao2
  have hn1 : ((n : Int) == 0) = false := by rw [beq_eq_false_iff_ne]; omega
  have hn2 : ¬ (4096 : Int) < (n : Int) := by omega
  have hf : Hid (∀ w, Calls Try.prog 24 #[.slice (some ⟨db, doff, none⟩) n cap] w fun e w' => e = .returned (.bool true) ∧ w = w') := Lib.hid fun w => by
    have h5 : (n : Int) ≤ 5000 := by omega
    go_enter Try.func24, Try.ntmps24
    go_wp2
    go_ret
    exact ⟨rfl, rfl⟩
  have HL := Lib.hid (fun (w' : World) (hw : Tr w [] w' []) => laid_any n cap (some ⟨db, doff, none⟩) db doff V SF w' (by omega) (fun _ => rfl) (HV.out.keep hw) (fun i hi => (HB.out i hi).keep hw))
  go_enter Try.func7, Try.ntmps7
  go_upto_region 9 with (first
    | (go_at_call 10; refine (awake_any _).mono ?_; rintro e w2 ⟨rfl, hc⟩; replace hs := hs.call0 hc; clear hc)
    | (go_at_call 24; refine (hf.out _).mono ?_; rintro e w2 ⟨rfl, rfl⟩)
    | (go_at_call 25; refine (HL.out _ hs.letgo).mono ?_; rintro e w2 ⟨b, rfl, hc⟩; replace hs := hs.call1 hc; clear hc)
    | ((with_reducible refine at_slice rfl ?_); refine wl_slice rfl rfl Try.underlying30 size40 rfl 0 n (Or.inl ⟨rfl, rfl⟩) (Or.inr ⟨_, _, rfl, rfl⟩) (by omega) (by omega) (fun _ => rfl) ?_; intro ao3 hao3; obtain rfl := hao3 (by omega); clear hao3)
    | (go_at_call 26; refine (from_ok n _ b (0 + 0 * 128) (laidF n SF) _ h1 h2 (hs.rd0 0 rfl (by omega))).mono ?_; rintro e w2 ⟨d, s, rfl, hc⟩; replace hs := hs.call1 hc; clear hc))
  generalize laidF n SF = f0 at *
  go_wp2_with fail
  go_loopw [10] (fun i wr => ∃ (j : Nat), j ≤ m ∧ i = .int .i64 j ∧ Tr w [] wr [diskR d s n (wf f0 K WF j) (j : Int) false false 0, Res.blk b (rowOf ((n + 3) * 128) (u8v f0)) 40]) (fun i _ => m - (intOf i).toNat)
  case atStart => exact ⟨0, by omega, rfl, hs⟩
  case round =>
    clear hs
    obtain ⟨j, hj, rfl, hs⟩ := hrel
    by_cases hlt : j < m
    · have hlt2 : (j : Int) < m := by omega
      obtain rfl := HA2.out (by omega)
      obtain ⟨⟨c0, c1⟩, hB1⟩ := hW.out j hlt
      have hNj := hN.out j hlt
      replace c0 := Lib.hid c0
      replace c1 := Lib.hid c1
      replace hB1 := Lib.hid hB1
      have hKj := hK.out j
      have hOj := hO.out j
      have hw1 := Lib.hid (fun (w' : World) (h : (diskR d s n (wf f0 K WF j) (j : Int) false false 0).holds w') => write_yes (K j) (WF j) 0 h2 hKj (by omega) (Or.inr ⟨rfl, rfl⟩) h)
      have hr1 := Lib.hid (fun (w' : World) (h : (diskR d s n (wf f0 K WF j) (j : Int) false false 0).holds w') => read_ok (O j) h2 hOj h)
      have hr2 := Lib.hid (fun (w' : World) (h : (diskR d s n (updF (wf f0 K WF j) (K j) (WF j)) ((j : Int) + 1) false false 0).holds w') => read_ok (K j) h2 hKj h)
      have hr3 := Lib.hid (fun (w' : World) (h : (diskR d s n (updF (wf f0 K WF j) (K j) (WF j)) ((j : Int) + 1) false false 0).holds w') => read_ok (O j) h2 hOj h)
      go_upto_region 13 with (first
          | ((with_reducible refine at_load rfl ?_); refine wl_loadC rfl rfl Try.underlying3 rfl rfl (hs.keepCell c0.out) ?_)
          | (go_at_call 19; refine (HK.out j hlt _).mono ?_; rintro e w2 ⟨rfl, rfl⟩))
      go_upto_region 16 with (first
          | ((with_reducible refine at_load rfl ?_); refine wl_loadC rfl rfl Try.underlying3 rfl rfl (hs.keepCell c0.out) ?_)
          | ((with_reducible refine at_load rfl ?_); refine wl_loadC rfl rfl Try.underlying42 rfl rfl (hs.keepCell c1.out) ?_)
          | (go_at_call 19; refine (HO.out j hlt _).mono ?_; rintro e w2 ⟨rfl, rfl⟩)
          | (go_at_call 23; refine (hr1.out _ (hs.get 0 rfl)).mono ?_; rintro e w2 ⟨rfl, hc⟩; replace hs := hs.call0 hc; clear hc)
          | ((with_reducible refine at_alloc rfl ?_); refine wl_allocA hs rfl rfl zero40 ?_; clear hs; intro w1 s1 hs)
          | ((with_reducible refine at_store rfl ?_); refine wl_storeA hs rfl rfl rfl rfl (size40r _) (one40 _) 0 rfl (by simp only [rowOf_size]) ?_; clear hs; intro w1 hs)
          | (go_at_call 22; refine (of_bytes (hB1.out.keep hs)).mono ?_; rintro e w2 ⟨rfl, hc⟩; replace hs := hs.call0 hc; clear hc)
          | (go_at_call 21; refine (hw1.out _ (hs.get 1 rfl)).mono ?_; rintro e w2 ⟨rfl, hc⟩; replace hs := hs.upd 1 rfl hc; clear hc))
      go_upto_region 17 with (first
          | (go_at_call 23; refine (hr2.out _ (hs.get 1 rfl)).mono ?_; rintro e w2 ⟨rfl, hc⟩; replace hs := hs.call0 hc; clear hc)
          | ((with_reducible refine at_alloc rfl ?_); refine wl_allocA hs rfl rfl zero40 ?_; clear hs; intro w1 s2 hs)
          | ((with_reducible refine at_store rfl ?_); refine wl_storeA hs rfl rfl rfl rfl (size40r _) (one40 _) 0 rfl (by simp only [rowOf_size]) ?_; clear hs; intro w1 hs))
      go_upto_region 18 with (first
          | (go_at_call 23; refine (hr3.out _ (hs.get 2 rfl)).mono ?_; rintro e w2 ⟨rfl, hc⟩; replace hs := hs.call0 hc; clear hc)
          | ((with_reducible refine at_alloc rfl ?_); refine wl_allocA hs rfl rfl zero40 ?_; clear hs; intro w1 s3 hs)
          | ((with_reducible refine at_store rfl ?_); refine wl_storeA hs rfl rfl rfl rfl (size40r _) (one40 _) 0 rfl (by simp only [rowOf_size]) ?_; clear hs; intro w1 hs))
      by_cases ho : O j = K j
      · have HOK := Lib.hid (show (((O j : Nat) : Int) != ((K j : Nat) : Int)) = false by rw [ho]; simp)
        clear ho
        refine wt_enter 34 rfl hs (by kernel_rfl) ?_
        clear hs; intro w1 hs; have hC := hs
        refine wt_take 0 rfl (by kernel_rfl) (by kernel_rfl) (by kernel_rfl) (fun _ _ _ _ h => h) rfl hC ⟨_, fun w hw => by (go_simp; try with_reducible rfl), fun a1 ha => ?_⟩
        simp only [Act.put, List.setIfInBounds_toArray, List.set_cons_succ, List.set_cons_zero] at ha; subst ha
        refine wt_take 1 rfl (by kernel_rfl) (by kernel_rfl) (by kernel_rfl) (fun _ _ _ _ h => h) rfl hC ⟨_, fun w hw => by (go_simp; try with_reducible rfl), fun a1 ha => ?_⟩
        simp only [Act.put, List.setIfInBounds_toArray, List.set_cons_succ, List.set_cons_zero] at ha; subst ha
        refine wt_take 2 rfl (by kernel_rfl) (by kernel_rfl) (by kernel_rfl) (fun _ _ _ _ h => h) rfl hC ⟨_, fun w hw => by (go_simp; try with_reducible rfl), fun a1 ha => ?_⟩
        simp only [Act.put, List.setIfInBounds_toArray, List.set_cons_succ, List.set_cons_zero] at ha; subst ha
        refine wt_take 3 rfl (by kernel_rfl) (by kernel_rfl) (by kernel_rfl) (fun _ _ _ _ h => h) rfl hC ⟨_, fun w hw => by (go_simp; try with_reducible rfl), fun a1 ha => ?_⟩
        simp only [Act.put, List.setIfInBounds_toArray, List.set_cons_succ, List.set_cons_zero] at ha; subst ha
        refine wt_take 4 rfl (by kernel_rfl) (by kernel_rfl) (by kernel_rfl) (fun _ _ _ _ h => h) rfl hC ⟨_, fun w hw => by (go_simp; try with_reducible rfl), fun a1 ha => ?_⟩
        simp only [Act.put, List.setIfInBounds_toArray, List.set_cons_succ, List.set_cons_zero] at ha; subst ha
        refine wt_take 5 rfl (by kernel_rfl) (by kernel_rfl) (by kernel_rfl) (fun _ _ _ _ h => h) rfl hC ⟨_, fun w hw => by (go_simp; try with_reducible rfl), fun a1 ha => ?_⟩
        simp only [Act.put, List.setIfInBounds_toArray, List.set_cons_succ, List.set_cons_zero] at ha; subst ha
        refine wt_take 6 rfl (by kernel_rfl) (by kernel_rfl) (by kernel_rfl) (fun _ _ _ _ h => h) rfl hC ⟨_, fun w hw => by (go_simp; try with_reducible rfl), fun a1 ha => ?_⟩
        simp only [Act.put, List.setIfInBounds_toArray, List.set_cons_succ, List.set_cons_zero] at ha; subst ha
        refine wt_take 7 rfl (by kernel_rfl) (by kernel_rfl) (by kernel_rfl) (fun _ _ _ _ h => h) rfl hC ⟨_, fun w hw => by (go_simp; try with_reducible rfl), fun a1 ha => ?_⟩
        simp only [Act.put, List.setIfInBounds_toArray, List.set_cons_succ, List.set_cons_zero] at ha; subst ha
        refine wt_take 8 rfl (by kernel_rfl) (by kernel_rfl) (by kernel_rfl) (fun _ _ _ _ h => h) rfl hC ⟨_, fun w hw => by (go_simp; try with_reducible rfl), fun a1 ha => ?_⟩
        simp only [Act.put, List.setIfInBounds_toArray, List.set_cons_succ, List.set_cons_zero] at ha; subst ha
        refine wt_take 9 rfl (by kernel_rfl) (by kernel_rfl) (by kernel_rfl) (fun _ _ _ _ h => h) rfl hC ⟨_, fun w hw => by (go_simp; try with_reducible rfl), fun a1 ha => ?_⟩
        simp only [Act.put, List.setIfInBounds_toArray, List.set_cons_succ, List.set_cons_zero] at ha; subst ha
        refine wt_take 10 rfl (by kernel_rfl) (by kernel_rfl) (by kernel_rfl) (fun _ _ _ _ h => h) rfl hC ⟨_, fun w hw => by (go_simp; try with_reducible rfl), fun a1 ha => ?_⟩
        simp only [Act.put, List.setIfInBounds_toArray, List.set_cons_succ, List.set_cons_zero] at ha; subst ha
        refine wt_take 11 rfl (by kernel_rfl) (by kernel_rfl) (by kernel_rfl) (fun _ _ _ _ h => h) rfl hC ⟨_, fun w hw => by (go_simp; try with_reducible rfl), fun a1 ha => ?_⟩
        simp only [Act.put, List.setIfInBounds_toArray, List.set_cons_succ, List.set_cons_zero] at ha; subst ha
        refine wt_take 12 rfl (by kernel_rfl) (by kernel_rfl) (by kernel_rfl) (fun _ _ _ _ h => h) rfl hC ⟨_, fun w hw => by (go_simp; try with_reducible rfl), fun a1 ha => ?_⟩
        simp only [Act.put, List.setIfInBounds_toArray, List.set_cons_succ, List.set_cons_zero] at ha; subst ha
        refine wt_take 13 rfl (by kernel_rfl) (by kernel_rfl) (by kernel_rfl) (fun _ _ _ _ h => h) rfl hC ⟨_, fun w hw => by (go_simp; try with_reducible rfl), fun a1 ha => ?_⟩
        simp only [Act.put, List.setIfInBounds_toArray, List.set_cons_succ, List.set_cons_zero] at ha; subst ha
        refine wt_take 14 rfl (by kernel_rfl) (by kernel_rfl) (by kernel_rfl) (fun _ _ _ _ h => h) rfl hC ⟨_, fun w hw => by (go_simp; try with_reducible rfl), fun a1 ha => ?_⟩
        simp only [Act.put, List.setIfInBounds_toArray, List.set_cons_succ, List.set_cons_zero] at ha; subst ha
        refine wt_take 15 rfl (by kernel_rfl) (by kernel_rfl) (by kernel_rfl) (fun _ _ _ _ h => h) rfl hC ⟨_, fun w hw => ex_loadB rfl Try.underlying40 size40 rfl (hw.getB 1 rfl), fun a1 ha => ?_⟩
        simp only [Act.put, List.setIfInBounds_toArray, List.set_cons_succ, List.set_cons_zero] at ha; subst ha
        refine wt_take 16 rfl (by kernel_rfl) (by kernel_rfl) (by kernel_rfl) (fun _ _ _ _ h => h) rfl hC ⟨_, fun w hw => by (go_simp; try with_reducible rfl), fun a1 ha => ?_⟩
        simp only [Act.put, List.setIfInBounds_toArray, List.set_cons_succ, List.set_cons_zero] at ha; subst ha
        refine wt_take 17 rfl (by kernel_rfl) (by kernel_rfl) (by kernel_rfl) (fun _ _ _ _ h => h) rfl hC ⟨_, fun w hw => by (go_simp; try with_reducible rfl), fun a1 ha => ?_⟩
        simp only [Act.put, List.setIfInBounds_toArray, List.set_cons_succ, List.set_cons_zero] at ha; subst ha
        refine wt_take 18 rfl (by kernel_rfl) (by kernel_rfl) (by kernel_rfl) (fun _ _ _ _ h => h) rfl hC ⟨_, fun w hw => by (go_simp; try with_reducible rfl), fun a1 ha => ?_⟩
        simp only [Act.put, List.setIfInBounds_toArray, List.set_cons_succ, List.set_cons_zero] at ha; subst ha
        refine wt_take 19 rfl (by kernel_rfl) (by kernel_rfl) (by kernel_rfl) (fun _ _ _ _ h => h) rfl hC ⟨_, fun w hw => by (go_simp; try with_reducible rfl), fun a1 ha => ?_⟩
        simp only [Act.put, List.setIfInBounds_toArray, List.set_cons_succ, List.set_cons_zero] at ha; subst ha
        refine wt_take 20 rfl (by kernel_rfl) (by kernel_rfl) (by kernel_rfl) (fun _ _ _ _ h => h) rfl hC ⟨_, fun w hw => ex_load1 rfl Try.underlying42 rfl rfl (hw.keepCell c1.out), fun a1 ha => ?_⟩
        simp only [Act.put, List.setIfInBounds_toArray, List.set_cons_succ, List.set_cons_zero] at ha; subst ha
        refine wt_one 21 (by kernel_rfl) ?_
        refine wt_call0 hs rfl rfl (by go_simp) (of_bytes (hB1.out.keep hs)) (by simp only [Act.put, List.setIfInBounds_toArray, List.set_cons_succ, List.set_cons_zero]; rfl) ?_
        clear hs; intro w1 hs
        refine wt_and (hs.sub (by repeat (first | exact List.Sublist.refl _ | refine List.Sublist.cons_cons _ ?_ | refine List.Sublist.cons _ ?_))) fun hC => ?_
        refine wt_take 22 rfl (by kernel_rfl) (by kernel_rfl) (by kernel_rfl) (fun _ _ _ _ h => h) rfl hC ⟨.bool false, fun w hw => ex_neqBR rfl Try.underlying40 Try.underlying5 size5 eqg40 rfl rfl (by have e := updF_at (wf f0 K WF j) (K j) (WF j); first | (rw [e]; rfl) | (simp only [Nat.zero_add] at e; rw [e]; rfl)), fun a1 ha => ?_⟩
        simp only [Act.put, List.setIfInBounds_toArray, List.set_cons_succ, List.set_cons_zero] at ha; subst ha
        refine wt_take 23 rfl (by kernel_rfl) (by kernel_rfl) (by kernel_rfl) (fun _ _ _ _ h => h) rfl hC ⟨_, fun w hw => by (go_simp; try with_reducible rfl), fun a1 ha => ?_⟩
        simp only [Act.put, List.setIfInBounds_toArray, List.set_cons_succ, List.set_cons_zero] at ha; subst ha
        refine wt_take 24 rfl (by kernel_rfl) (by kernel_rfl) (by kernel_rfl) (fun _ _ _ _ h => h) rfl hC ⟨_, fun w hw => by (go_simp; try with_reducible rfl), fun a1 ha => ?_⟩
        simp only [Act.put, List.setIfInBounds_toArray, List.set_cons_succ, List.set_cons_zero] at ha; subst ha
        refine wt_take 25 rfl (by kernel_rfl) (by kernel_rfl) (by kernel_rfl) (fun _ _ _ _ h => h) rfl hC ⟨_, fun w hw => by (go_simp; try with_reducible rfl), fun a1 ha => ?_⟩
        simp only [Act.put, List.setIfInBounds_toArray, List.set_cons_succ, List.set_cons_zero] at ha; subst ha
        refine wt_take 26 rfl (by kernel_rfl) (by kernel_rfl) (by kernel_rfl) (fun _ _ _ _ h => h) rfl hC ⟨_, fun w hw => by (go_simp; try with_reducible rfl), fun a1 ha => ?_⟩
        simp only [Act.put, List.setIfInBounds_toArray, List.set_cons_succ, List.set_cons_zero] at ha; subst ha
        refine wt_take 27 rfl (by kernel_rfl) (by kernel_rfl) (by kernel_rfl) (fun _ _ _ _ h => h) rfl hC ⟨.bool false, fun w hw => ex_neI rfl rfl rfl HOK.out, fun a1 ha => ?_⟩
        simp only [Act.put, List.setIfInBounds_toArray, List.set_cons_succ, List.set_cons_zero] at ha; subst ha
        refine wt_take 28 rfl (by kernel_rfl) (by kernel_rfl) (by kernel_rfl) (fun _ _ _ _ h => h) rfl hC ⟨_, fun w hw => by (go_simp; try with_reducible rfl), fun a1 ha => ?_⟩
        simp only [Act.put, List.setIfInBounds_toArray, List.set_cons_succ, List.set_cons_zero] at ha; subst ha
        refine wt_pass 29 rfl (by kernel_rfl) (by kernel_rfl) (by kernel_rfl) (fun _ _ _ h => h) rfl hC (by simp only [Act.put, List.setIfInBounds_toArray, List.set_cons_succ, List.set_cons_zero]; rfl) ?_
        refine wt_pass 30 rfl (by kernel_rfl) (by kernel_rfl) (by kernel_rfl) (fun _ _ _ h => h) rfl hC (by simp only [Act.put, List.setIfInBounds_toArray, List.set_cons_succ, List.set_cons_zero]; rfl) ?_
        refine wt_pass 31 rfl (by kernel_rfl) (by kernel_rfl) (by kernel_rfl) (fun _ _ _ h => h) rfl hC (by simp only [Act.put, List.setIfInBounds_toArray, List.set_cons_succ, List.set_cons_zero]; rfl) ?_
        refine wt_take 32 rfl (by kernel_rfl) (by kernel_rfl) (by kernel_rfl) (fun _ _ _ _ h => h) rfl hC ⟨_, fun w hw => by (go_simp; try with_reducible rfl), fun a1 ha => ?_⟩
        simp only [Act.put, List.setIfInBounds_toArray, List.set_cons_succ, List.set_cons_zero] at ha; subst ha
        refine wt_take 33 rfl (by kernel_rfl) (by kernel_rfl) (by kernel_rfl) (fun _ _ _ _ h => h) rfl hC ⟨_, fun w hw => by (go_simp; try with_reducible rfl), fun a1 ha => ?_⟩
        simp only [Act.put, List.setIfInBounds_toArray, List.set_cons_succ, List.set_cons_zero] at ha; subst ha
        refine wt_done (by kernel_rfl) ?_
        go_wp2_with fail
        go_roundw
        case rel => exact ⟨j + 1, by omega, by go_num, ((hs.erase 0).erase 0).erase 0⟩
        case measure => simp [intOf]; omega
      · have HOK := Lib.hid (show (((O j : Nat) : Int) != ((K j : Nat) : Int)) = true by rw [bne_iff_ne]; omega)
        replace ho := Lib.hid ho
        refine wt_enter 34 rfl hs (by kernel_rfl) ?_
        clear hs; intro w1 hs; have hC := hs
        refine wt_take 0 rfl (by kernel_rfl) (by kernel_rfl) (by kernel_rfl) (fun _ _ _ _ h => h) rfl hC ⟨_, fun w hw => by (go_simp; try with_reducible rfl), fun a1 ha => ?_⟩
        simp only [Act.put, List.setIfInBounds_toArray, List.set_cons_succ, List.set_cons_zero] at ha; subst ha
        refine wt_take 1 rfl (by kernel_rfl) (by kernel_rfl) (by kernel_rfl) (fun _ _ _ _ h => h) rfl hC ⟨_, fun w hw => by (go_simp; try with_reducible rfl), fun a1 ha => ?_⟩
        simp only [Act.put, List.setIfInBounds_toArray, List.set_cons_succ, List.set_cons_zero] at ha; subst ha
        refine wt_take 2 rfl (by kernel_rfl) (by kernel_rfl) (by kernel_rfl) (fun _ _ _ _ h => h) rfl hC ⟨_, fun w hw => by (go_simp; try with_reducible rfl), fun a1 ha => ?_⟩
        simp only [Act.put, List.setIfInBounds_toArray, List.set_cons_succ, List.set_cons_zero] at ha; subst ha
        refine wt_take 3 rfl (by kernel_rfl) (by kernel_rfl) (by kernel_rfl) (fun _ _ _ _ h => h) rfl hC ⟨_, fun w hw => by (go_simp; try with_reducible rfl), fun a1 ha => ?_⟩
        simp only [Act.put, List.setIfInBounds_toArray, List.set_cons_succ, List.set_cons_zero] at ha; subst ha
        refine wt_take 4 rfl (by kernel_rfl) (by kernel_rfl) (by kernel_rfl) (fun _ _ _ _ h => h) rfl hC ⟨_, fun w hw => by (go_simp; try with_reducible rfl), fun a1 ha => ?_⟩
        simp only [Act.put, List.setIfInBounds_toArray, List.set_cons_succ, List.set_cons_zero] at ha; subst ha
        refine wt_take 5 rfl (by kernel_rfl) (by kernel_rfl) (by kernel_rfl) (fun _ _ _ _ h => h) rfl hC ⟨_, fun w hw => by (go_simp; try with_reducible rfl), fun a1 ha => ?_⟩
        simp only [Act.put, List.setIfInBounds_toArray, List.set_cons_succ, List.set_cons_zero] at ha; subst ha
        refine wt_take 6 rfl (by kernel_rfl) (by kernel_rfl) (by kernel_rfl) (fun _ _ _ _ h => h) rfl hC ⟨_, fun w hw => by (go_simp; try with_reducible rfl), fun a1 ha => ?_⟩
        simp only [Act.put, List.setIfInBounds_toArray, List.set_cons_succ, List.set_cons_zero] at ha; subst ha
        refine wt_take 7 rfl (by kernel_rfl) (by kernel_rfl) (by kernel_rfl) (fun _ _ _ _ h => h) rfl hC ⟨_, fun w hw => by (go_simp; try with_reducible rfl), fun a1 ha => ?_⟩
        simp only [Act.put, List.setIfInBounds_toArray, List.set_cons_succ, List.set_cons_zero] at ha; subst ha
        refine wt_take 8 rfl (by kernel_rfl) (by kernel_rfl) (by kernel_rfl) (fun _ _ _ _ h => h) rfl hC ⟨_, fun w hw => by (go_simp; try with_reducible rfl), fun a1 ha => ?_⟩
        simp only [Act.put, List.setIfInBounds_toArray, List.set_cons_succ, List.set_cons_zero] at ha; subst ha
        refine wt_take 9 rfl (by kernel_rfl) (by kernel_rfl) (by kernel_rfl) (fun _ _ _ _ h => h) rfl hC ⟨_, fun w hw => by (go_simp; try with_reducible rfl), fun a1 ha => ?_⟩
        simp only [Act.put, List.setIfInBounds_toArray, List.set_cons_succ, List.set_cons_zero] at ha; subst ha
        refine wt_take 10 rfl (by kernel_rfl) (by kernel_rfl) (by kernel_rfl) (fun _ _ _ _ h => h) rfl hC ⟨_, fun w hw => by (go_simp; try with_reducible rfl), fun a1 ha => ?_⟩
        simp only [Act.put, List.setIfInBounds_toArray, List.set_cons_succ, List.set_cons_zero] at ha; subst ha
        refine wt_take 11 rfl (by kernel_rfl) (by kernel_rfl) (by kernel_rfl) (fun _ _ _ _ h => h) rfl hC ⟨_, fun w hw => by (go_simp; try with_reducible rfl), fun a1 ha => ?_⟩
        simp only [Act.put, List.setIfInBounds_toArray, List.set_cons_succ, List.set_cons_zero] at ha; subst ha
        refine wt_take 12 rfl (by kernel_rfl) (by kernel_rfl) (by kernel_rfl) (fun _ _ _ _ h => h) rfl hC ⟨_, fun w hw => by (go_simp; try with_reducible rfl), fun a1 ha => ?_⟩
        simp only [Act.put, List.setIfInBounds_toArray, List.set_cons_succ, List.set_cons_zero] at ha; subst ha
        refine wt_take 13 rfl (by kernel_rfl) (by kernel_rfl) (by kernel_rfl) (fun _ _ _ _ h => h) rfl hC ⟨_, fun w hw => by (go_simp; try with_reducible rfl), fun a1 ha => ?_⟩
        simp only [Act.put, List.setIfInBounds_toArray, List.set_cons_succ, List.set_cons_zero] at ha; subst ha
        refine wt_take 14 rfl (by kernel_rfl) (by kernel_rfl) (by kernel_rfl) (fun _ _ _ _ h => h) rfl hC ⟨_, fun w hw => by (go_simp; try with_reducible rfl), fun a1 ha => ?_⟩
        simp only [Act.put, List.setIfInBounds_toArray, List.set_cons_succ, List.set_cons_zero] at ha; subst ha
        refine wt_take 15 rfl (by kernel_rfl) (by kernel_rfl) (by kernel_rfl) (fun _ _ _ _ h => h) rfl hC ⟨_, fun w hw => ex_loadB rfl Try.underlying40 size40 rfl (hw.getB 1 rfl), fun a1 ha => ?_⟩
        simp only [Act.put, List.setIfInBounds_toArray, List.set_cons_succ, List.set_cons_zero] at ha; subst ha
        refine wt_take 16 rfl (by kernel_rfl) (by kernel_rfl) (by kernel_rfl) (fun _ _ _ _ h => h) rfl hC ⟨_, fun w hw => by (go_simp; try with_reducible rfl), fun a1 ha => ?_⟩
        simp only [Act.put, List.setIfInBounds_toArray, List.set_cons_succ, List.set_cons_zero] at ha; subst ha
        refine wt_take 17 rfl (by kernel_rfl) (by kernel_rfl) (by kernel_rfl) (fun _ _ _ _ h => h) rfl hC ⟨_, fun w hw => by (go_simp; try with_reducible rfl), fun a1 ha => ?_⟩
        simp only [Act.put, List.setIfInBounds_toArray, List.set_cons_succ, List.set_cons_zero] at ha; subst ha
        refine wt_take 18 rfl (by kernel_rfl) (by kernel_rfl) (by kernel_rfl) (fun _ _ _ _ h => h) rfl hC ⟨_, fun w hw => by (go_simp; try with_reducible rfl), fun a1 ha => ?_⟩
        simp only [Act.put, List.setIfInBounds_toArray, List.set_cons_succ, List.set_cons_zero] at ha; subst ha
        refine wt_take 19 rfl (by kernel_rfl) (by kernel_rfl) (by kernel_rfl) (fun _ _ _ _ h => h) rfl hC ⟨_, fun w hw => by (go_simp; try with_reducible rfl), fun a1 ha => ?_⟩
        simp only [Act.put, List.setIfInBounds_toArray, List.set_cons_succ, List.set_cons_zero] at ha; subst ha
        refine wt_take 20 rfl (by kernel_rfl) (by kernel_rfl) (by kernel_rfl) (fun _ _ _ _ h => h) rfl hC ⟨_, fun w hw => ex_load1 rfl Try.underlying42 rfl rfl (hw.keepCell c1.out), fun a1 ha => ?_⟩
        simp only [Act.put, List.setIfInBounds_toArray, List.set_cons_succ, List.set_cons_zero] at ha; subst ha
        refine wt_one 21 (by kernel_rfl) ?_
        refine wt_call0 hs rfl rfl (by go_simp) (of_bytes (hB1.out.keep hs)) (by simp only [Act.put, List.setIfInBounds_toArray, List.set_cons_succ, List.set_cons_zero]; rfl) ?_
        clear hs; intro w1 hs
        refine wt_and (hs.sub (by repeat (first | exact List.Sublist.refl _ | refine List.Sublist.cons_cons _ ?_ | refine List.Sublist.cons _ ?_))) fun hC => ?_
        refine wt_take 22 rfl (by kernel_rfl) (by kernel_rfl) (by kernel_rfl) (fun _ _ _ _ h => h) rfl hC ⟨.bool false, fun w hw => ex_neqBR rfl Try.underlying40 Try.underlying5 size5 eqg40 rfl rfl (by have e := updF_at (wf f0 K WF j) (K j) (WF j); first | (rw [e]; rfl) | (simp only [Nat.zero_add] at e; rw [e]; rfl)), fun a1 ha => ?_⟩
        simp only [Act.put, List.setIfInBounds_toArray, List.set_cons_succ, List.set_cons_zero] at ha; subst ha
        refine wt_take 23 rfl (by kernel_rfl) (by kernel_rfl) (by kernel_rfl) (fun _ _ _ _ h => h) rfl hC ⟨_, fun w hw => by (go_simp; try with_reducible rfl), fun a1 ha => ?_⟩
        simp only [Act.put, List.setIfInBounds_toArray, List.set_cons_succ, List.set_cons_zero] at ha; subst ha
        refine wt_take 24 rfl (by kernel_rfl) (by kernel_rfl) (by kernel_rfl) (fun _ _ _ _ h => h) rfl hC ⟨_, fun w hw => by (go_simp; try with_reducible rfl), fun a1 ha => ?_⟩
        simp only [Act.put, List.setIfInBounds_toArray, List.set_cons_succ, List.set_cons_zero] at ha; subst ha
        refine wt_take 25 rfl (by kernel_rfl) (by kernel_rfl) (by kernel_rfl) (fun _ _ _ _ h => h) rfl hC ⟨_, fun w hw => by (go_simp; try with_reducible rfl), fun a1 ha => ?_⟩
        simp only [Act.put, List.setIfInBounds_toArray, List.set_cons_succ, List.set_cons_zero] at ha; subst ha
        refine wt_take 26 rfl (by kernel_rfl) (by kernel_rfl) (by kernel_rfl) (fun _ _ _ _ h => h) rfl hC ⟨_, fun w hw => by (go_simp; try with_reducible rfl), fun a1 ha => ?_⟩
        simp only [Act.put, List.setIfInBounds_toArray, List.set_cons_succ, List.set_cons_zero] at ha; subst ha
        refine wt_take 27 rfl (by kernel_rfl) (by kernel_rfl) (by kernel_rfl) (fun _ _ _ _ h => h) rfl hC ⟨.bool true, fun w hw => ex_neI rfl rfl rfl HOK.out, fun a1 ha => ?_⟩
        simp only [Act.put, List.setIfInBounds_toArray, List.set_cons_succ, List.set_cons_zero] at ha; subst ha
        refine wt_take 28 rfl (by kernel_rfl) (by kernel_rfl) (by kernel_rfl) (fun _ _ _ _ h => h) rfl hC ⟨_, fun w hw => by (go_simp; try with_reducible rfl), fun a1 ha => ?_⟩
        simp only [Act.put, List.setIfInBounds_toArray, List.set_cons_succ, List.set_cons_zero] at ha; subst ha
        refine wt_take 29 rfl (by kernel_rfl) (by kernel_rfl) (by kernel_rfl) (fun _ _ _ _ h => h) rfl hC ⟨_, fun w hw => ex_loadB rfl Try.underlying40 size40 rfl (hw.getB 0 rfl), fun a1 ha => ?_⟩
        simp only [Act.put, List.setIfInBounds_toArray, List.set_cons_succ, List.set_cons_zero] at ha; subst ha
        refine wt_take 30 rfl (by kernel_rfl) (by kernel_rfl) (by kernel_rfl) (fun _ _ _ _ h => h) rfl hC ⟨_, fun w hw => ex_loadB rfl Try.underlying40 size40 rfl (hw.getB 2 rfl), fun a1 ha => ?_⟩
        simp only [Act.put, List.setIfInBounds_toArray, List.set_cons_succ, List.set_cons_zero] at ha; subst ha
        refine wt_take 31 rfl (by kernel_rfl) (by kernel_rfl) (by kernel_rfl) (fun _ _ _ _ h => h) rfl hC ⟨.bool false, fun w hw => ex_neqBR rfl Try.underlying40 Try.underlying5 size5 eqg40 rfl rfl (by have e := updF_off (wf f0 K WF j) (K j) (O j) (WF j) ho.out; first | (rw [e]; rfl) | (simp only [Nat.zero_add] at e; rw [e]; rfl)), fun a1 ha => ?_⟩
        simp only [Act.put, List.setIfInBounds_toArray, List.set_cons_succ, List.set_cons_zero] at ha; subst ha
        refine wt_take 32 rfl (by kernel_rfl) (by kernel_rfl) (by kernel_rfl) (fun _ _ _ _ h => h) rfl hC ⟨_, fun w hw => by (go_simp; try with_reducible rfl), fun a1 ha => ?_⟩
        simp only [Act.put, List.setIfInBounds_toArray, List.set_cons_succ, List.set_cons_zero] at ha; subst ha
        refine wt_take 33 rfl (by kernel_rfl) (by kernel_rfl) (by kernel_rfl) (fun _ _ _ _ h => h) rfl hC ⟨_, fun w hw => by (go_simp; try with_reducible rfl), fun a1 ha => ?_⟩
        simp only [Act.put, List.setIfInBounds_toArray, List.set_cons_succ, List.set_cons_zero] at ha; subst ha
        refine wt_done (by kernel_rfl) ?_
        go_wp2_with fail
        go_roundw
        case rel => exact ⟨j + 1, by omega, by go_num, ((hs.erase 0).erase 0).erase 0⟩
        case measure => simp [intOf]; omega
    · obtain rfl : j = m := by omega
      have hle := lastF_eq f0 K WF
      replace hle := Lib.hid (fun a => hle a j)
      go_wp2_with (first
          | (go_at_call 13; refine (image_any h2 (hs.get 0 rfl)).mono ?_; rintro e w2 ⟨bi, rfl, hc⟩; replace hs := hs.call1 hc; clear hc))
      go_loopw [21] (fun i wr => ∃ (a : Nat), a ≤ n ∧ i = .int .i64 a ∧ Tr w [] wr [Res.blk bi (rowOf (n * 128) (u8v (wf f0 K WF j))) 40, diskR d s n (wf f0 K WF j) (j : Int) false false 0, Res.blk b (rowOf ((n + 3) * 128) (u8v f0)) 40]) (fun i _ => n - (intOf i).toNat)
      case atStart => exact ⟨0, by omega, rfl, hs⟩
      case round =>
        clear hs
        obtain ⟨a, ha, rfl, hs⟩ := hrel
        by_cases halt : a < n
        · have halt2 : (a : Int) < n := by omega
          go_wp2_with (first
            | ((with_reducible refine at_index rfl ?_); refine wl_index rfl rfl Try.underlying30 size40 rfl rfl a rfl (by omega) rfl ?_)
            | ((with_reducible refine at_load rfl ?_); refine wl_loadMB rfl rfl Try.underlying40 size40 rfl (F := fun q => f0 (0 + a * 128 + q)) (hs.rd 2 rfl (by omega)) ?_)
            | ((with_reducible refine at_alloc rfl ?_); refine wl_allocA hs rfl rfl zero40 ?_; clear hs; intro w1 s1 hs)
            | ((with_reducible refine at_store rfl ?_); refine wl_storeA hs rfl rfl rfl rfl (size40r _) (one40 _) 0 rfl (by simp only [rowOf_size]) ?_; clear hs; intro w1 hs))
          go_loopw [23] (fun i wr => ∃ (c : Nat), c ≤ j ∧ i = .int .i64 c ∧ Tr w [] wr [Res.blk s1 (rowOf 128 (u8v (lastF f0 K WF a c))) 40, Res.blk bi (rowOf (n * 128) (u8v (wf f0 K WF j))) 40, diskR d s n (wf f0 K WF j) (j : Int) false false 0, Res.blk b (rowOf ((n + 3) * 128) (u8v f0)) 40]) (fun i _ => j - (intOf i).toNat)
          case atStart => exact ⟨0, by omega, rfl, hs⟩
          case round =>
            clear hs
            obtain ⟨c, hc0, rfl, hs⟩ := hrel
            by_cases hclt : c < j
            · have hclt2 : (c : Int) < j := by omega
              obtain rfl := HA2.out (by omega)
              obtain ⟨⟨c0, c1⟩, hB1⟩ := hW.out c hclt
              replace c0 := Lib.hid c0
              replace c1 := Lib.hid c1
              replace hB1 := Lib.hid hB1
              by_cases hka : K c = a
              · have hka2 : (((K c : Nat) : Int) == (a : Int)) = true := by rw [hka]; simp
                have hl2 := Lib.hid (show lastF f0 K WF a (c + 1) = WF c by simp only [lastF]; rw [if_pos hka])
                clear hka
                go_wp2_with (first
                  | ((with_reducible refine at_load rfl ?_); refine wl_loadC rfl rfl Try.underlying3 rfl rfl (hs.keepCell c0.out) ?_)
                  | ((with_reducible refine at_load rfl ?_); refine wl_loadC rfl rfl Try.underlying42 rfl rfl (hs.keepCell c1.out) ?_)
                  | (go_at_call 19; refine (HK.out c hclt _).mono ?_; rintro e w2 ⟨rfl, rfl⟩)
                  | (go_at_call 22; refine (of_bytes (hB1.out.keep hs)).mono ?_; rintro e w2 ⟨rfl, hc⟩; replace hs := hs.call0 hc; clear hc)
                  | ((with_reducible refine at_store rfl ?_); refine wl_storeA hs rfl rfl rfl rfl (size40r _) (one40 _) 0 rfl (by simp only [rowOf_size]) ?_; clear hs; intro w1 hs))
                go_roundw
                case rel => exact ⟨c + 1, by omega, by go_num, by rw [hl2.out]; exact hs⟩
                case measure => simp [intOf]; omega
              · have hka2 : (((K c : Nat) : Int) == (a : Int)) = false := by rw [beq_eq_false_iff_ne]; omega
                have hl2 := Lib.hid (show lastF f0 K WF a (c + 1) = lastF f0 K WF a c by simp only [lastF]; rw [if_neg hka])
                clear hka
                go_wp2_with (first
                  | ((with_reducible refine at_load rfl ?_); refine wl_loadC rfl rfl Try.underlying3 rfl rfl (hs.keepCell c0.out) ?_)
                  | (go_at_call 19; refine (HK.out c hclt _).mono ?_; rintro e w2 ⟨rfl, rfl⟩))
                go_roundw
                case rel => exact ⟨c + 1, by omega, by go_num, by rw [hl2.out]; exact hs⟩
                case measure => simp [intOf]; omega
            · obtain rfl : c = j := by omega
              have hr1 := Lib.hid (fun (w' : World) (h : (diskR d s n (wf f0 K WF c) (c : Int) false false 0).holds w') => read_ok a h2 halt h)
              go_upto_region 31 with (first
                | (go_at_call 23; refine (hr1.out _ (hs.get 2 rfl)).mono ?_; rintro e w2 ⟨rfl, hc⟩; replace hs := hs.call0 hc; clear hc)
                | ((with_reducible refine at_alloc rfl ?_); refine wl_allocA hs rfl rfl zero40 ?_; clear hs; intro w1 s2 hs)
                | ((with_reducible refine at_store rfl ?_); refine wl_storeA hs rfl rfl rfl rfl (size40r _) (one40 _) 0 rfl (by simp only [rowOf_size]) ?_; clear hs; intro w1 hs))
              refine wt_enter 15 rfl hs (by kernel_rfl) ?_
              clear hs; intro w1 hs; have hC := hs
              refine wt_take 0 rfl (by kernel_rfl) (by kernel_rfl) (by kernel_rfl) (fun _ _ _ _ h => h) rfl hC ⟨_, fun w hw => by (go_simp; try with_reducible rfl), fun a1 ha => ?_⟩
              simp only [Act.put, List.setIfInBounds_toArray, List.set_cons_succ, List.set_cons_zero] at ha; subst ha
              refine wt_take 1 rfl (by kernel_rfl) (by kernel_rfl) (by kernel_rfl) (fun _ _ _ _ h => h) rfl hC ⟨_, fun w hw => by (go_simp; try with_reducible rfl), fun a1 ha => ?_⟩
              simp only [Act.put, List.setIfInBounds_toArray, List.set_cons_succ, List.set_cons_zero] at ha; subst ha
              refine wt_take 2 rfl (by kernel_rfl) (by kernel_rfl) (by kernel_rfl) (fun _ _ _ _ h => h) rfl hC ⟨_, fun w hw => by (go_simp; try with_reducible rfl), fun a1 ha => ?_⟩
              simp only [Act.put, List.setIfInBounds_toArray, List.set_cons_succ, List.set_cons_zero] at ha; subst ha
              refine wt_take 3 rfl (by kernel_rfl) (by kernel_rfl) (by kernel_rfl) (fun _ _ _ _ h => h) rfl hC ⟨_, fun w hw => ex_loadB rfl Try.underlying40 size40 rfl (hw.getB 0 rfl), fun a1 ha => ?_⟩
              simp only [Act.put, List.setIfInBounds_toArray, List.set_cons_succ, List.set_cons_zero] at ha; subst ha
              refine wt_take 4 rfl (by kernel_rfl) (by kernel_rfl) (by kernel_rfl) (fun _ _ _ _ h => h) rfl hC ⟨_, fun w hw => ex_loadB rfl Try.underlying40 size40 rfl (hw.getB 1 rfl), fun a1 ha => ?_⟩
              simp only [Act.put, List.setIfInBounds_toArray, List.set_cons_succ, List.set_cons_zero] at ha; subst ha
              refine wt_take 5 rfl (by kernel_rfl) (by kernel_rfl) (by kernel_rfl) (fun _ _ _ _ h => h) rfl hC ⟨.bool false, fun w hw => ex_neqBR rfl Try.underlying40 Try.underlying5 size5 eqg40 rfl rfl (by have e := hle.out a; first | (rw [e]; rfl) | (simp only [Nat.zero_add] at e; rw [e]; rfl)), fun a1 ha => ?_⟩
              simp only [Act.put, List.setIfInBounds_toArray, List.set_cons_succ, List.set_cons_zero] at ha; subst ha
              refine wt_take 6 rfl (by kernel_rfl) (by kernel_rfl) (by kernel_rfl) (fun _ _ _ _ h => h) rfl hC ⟨_, fun w hw => by (go_simp; try with_reducible rfl), fun a1 ha => ?_⟩
              simp only [Act.put, List.setIfInBounds_toArray, List.set_cons_succ, List.set_cons_zero] at ha; subst ha
              refine wt_take 7 rfl (by kernel_rfl) (by kernel_rfl) (by kernel_rfl) (fun _ _ _ _ h => h) rfl hC ⟨_, fun w hw => by (go_simp; try with_reducible rfl), fun a1 ha => ?_⟩
              simp only [Act.put, List.setIfInBounds_toArray, List.set_cons_succ, List.set_cons_zero] at ha; subst ha
              refine wt_take 8 rfl (by kernel_rfl) (by kernel_rfl) (by kernel_rfl) (fun _ _ _ _ h => h) rfl hC ⟨_, fun w hw => by (go_simp; try with_reducible rfl), fun a1 ha => ?_⟩
              simp only [Act.put, List.setIfInBounds_toArray, List.set_cons_succ, List.set_cons_zero] at ha; subst ha
              refine wt_take 9 rfl (by kernel_rfl) (by kernel_rfl) (by kernel_rfl) (fun _ _ _ _ h => h) rfl hC ⟨_, fun w hw => by (go_simp; try with_reducible rfl), fun a1 ha => ?_⟩
              simp only [Act.put, List.setIfInBounds_toArray, List.set_cons_succ, List.set_cons_zero] at ha; subst ha
              refine wt_take 10 rfl (by kernel_rfl) (by kernel_rfl) (by kernel_rfl) (fun _ _ _ _ h => h) rfl hC ⟨_, fun w hw => ex_indexS rfl Try.underlying30 size40 rfl rfl a rfl halt rfl, fun a1 ha => ?_⟩
              simp only [Act.put, List.setIfInBounds_toArray, List.set_cons_succ, List.set_cons_zero] at ha; subst ha
              refine wt_take 11 rfl (by kernel_rfl) (by kernel_rfl) (by kernel_rfl) (fun _ _ _ _ h => h) rfl hC ⟨_, fun w hw => ex_loadMB rfl Try.underlying40 size40 rfl (hw.rd 2 rfl (by omega)), fun a1 ha => ?_⟩
              simp only [Act.put, List.setIfInBounds_toArray, List.set_cons_succ, List.set_cons_zero] at ha; subst ha
              refine wt_take 12 rfl (by kernel_rfl) (by kernel_rfl) (by kernel_rfl) (fun _ _ _ _ h => h) rfl hC ⟨_, fun w hw => ex_loadB rfl Try.underlying40 size40 rfl (hw.getB 1 rfl), fun a1 ha => ?_⟩
              simp only [Act.put, List.setIfInBounds_toArray, List.set_cons_succ, List.set_cons_zero] at ha; subst ha
              refine wt_take 13 rfl (by kernel_rfl) (by kernel_rfl) (by kernel_rfl) (fun _ _ _ _ h => h) rfl hC ⟨.bool false, fun w hw => ex_neqBR rfl Try.underlying40 Try.underlying5 size5 eqg40 rfl rfl (by have e := hle.out a; first | (rw [e]; rfl) | (simp only [Nat.zero_add] at e; rw [e]; rfl)), fun a1 ha => ?_⟩
              simp only [Act.put, List.setIfInBounds_toArray, List.set_cons_succ, List.set_cons_zero] at ha; subst ha
              refine wt_take 14 rfl (by kernel_rfl) (by kernel_rfl) (by kernel_rfl) (fun _ _ _ _ h => h) rfl hC ⟨_, fun w hw => by (go_simp; try with_reducible rfl), fun a1 ha => ?_⟩
              simp only [Act.put, List.setIfInBounds_toArray, List.set_cons_succ, List.set_cons_zero] at ha; subst ha
              refine wt_done (by kernel_rfl) ?_
              skip
              go_wp2_with fail
              go_roundw
              case rel => exact ⟨a + 1, by omega, by go_num, (hs.erase 0).erase 0⟩
              case measure => simp [intOf]; omega
        · obtain rfl : a = n := by omega
          go_wp2_with (first
            | (go_at_call 17; refine (writes_any (hs.get 1 rfl)).mono ?_; rintro e w2 ⟨rfl, hc⟩; replace hs := hs.call0 hc; clear hc))
          go_ret
          exact ⟨rfl, hs.letgo⟩

theorem tdiv7 (x : Int) (h : -9223372036854775808 ≤ x ∧ x ≤ 9223372036854775807) : -9223372036854775808 ≤ x.tdiv 7 ∧ x.tdiv 7 ≤ 9223372036854775807 := by
  by_cases h0 : 0 ≤ x
  · rw [Int.tdiv_eq_ediv_of_nonneg h0]; omega
  · obtain ⟨y, rfl⟩ : ∃ y, x = -y := ⟨-x, by omega⟩
    rw [Int.neg_tdiv, Int.tdiv_eq_ediv_of_nonneg (by omega)]
    omega

theorem stands_walk (n cap m cap2 : Nat) (ao ao2 : Option Addr) (db doff db2 doff2 : Nat) (V : Nat → Value) (SF : Nat → Nat → UInt8) (N : Nat → Int) (V2 : Nat → Value) (WF : Nat → Nat → UInt8) (w : World) (hn : n ≤ 9223372036854775807) (hm : m ≤ 4611686018427387903)
    (hao : 0 < n → ao = some ⟨db, doff, none⟩) (hV : Rd w db doff n V) (hB : ∀ i, i < n → isBytes w (V i) (SF i)) (hao2 : 0 < m → ao2 = some ⟨db2, doff2, none⟩)
    (hW : ∀ i, i < m → (w.cell? ⟨db2, doff2 + i * 2, none⟩ = some (.int .i64 (N i)) ∧ w.cell? ⟨db2, doff2 + i * 2 + 1, none⟩ = some (V2 i)) ∧ (-9223372036854775808 ≤ N i ∧ N i ≤ 9223372036854775807) ∧ isBytes w (V2 i) (WF i)) :
    Calls Try.prog 7 #[.slice ao n cap, .slice ao2 m cap2] w fun e w' => e = .returned (.bool true) ∧ Below w.heap.size w w' := by
  suffices hh : Calls Try.prog 7 #[.slice ao n cap, .slice ao2 m cap2] w fun e w' => e = .returned (.bool true) ∧ Tr w [] w' [] from hh.mono fun e w' ⟨he, ht⟩ => ⟨he, ht.below⟩
  by_cases h : n = 0 ∨ 4096 < n
  · exact stands_no n cap m cap2 ao ao2 w h hn
  · have bK := fun i => pick_bd (N i) (n : Int) (by omega)
    have bO := fun i => pick_bd ((N i).tdiv 7) (n : Int) (by omega)
    refine stands_yes n cap m cap2 ao ao2 db doff db2 doff2 V SF N V2 WF (fun i => (pick (N i) n).toNat) (fun i => (pick ((N i).tdiv 7) n).toNat) w (by omega) (by omega) hm (hao (by omega)) hV hB hao2 (Lib.hid fun i hi => ⟨(hW i hi).1, (hW i hi).2.2⟩) (Lib.hid fun i hi => (hW i hi).2.1) (Lib.hid fun i => ?_) (Lib.hid fun i => ?_) (Lib.hid fun i hi w => ?_) (Lib.hid fun i hi w => ?_)
    · have := bK i
      omega
    · have := bO i
      omega
    · rw [Int.toNat_of_nonneg (bK i).1]
      exact pick_any (N i) n w (by omega) (by omega) (hW i hi).2.1.1 (hW i hi).2.1.2
    · rw [Int.toNat_of_nonneg (bO i).1]
      have := tdiv7 _ (hW i hi).2.1
      exact pick_any _ n w (by omega) (by omega) this.1 this.2
end Go.Proofs.Ytcflolcaiedmfaa
