/- SpacePlays: the walk. -/
import Derived.Test.YtfedfdcbhggipaaDoorV
namespace Go.Proofs.YtfedfdcbhggipaaDoor
set_option linter.unusedVariables false
set_option linter.unusedSimpArgs false
open Go Go.Sp Go.RowKit Go.BigFrame

set_option maxRecDepth 100000 in
set_option maxHeartbeats 8000000 in
theorem plays_core (n m M cap : Nat) (x0 x1 : Int) (ao : Option Addr) (db doff : Nat) (w : World) (hmay : May n m) (hM : M ≤ 9223372036854775807)
    (hao : 0 < M → ao = some ⟨db, doff, none⟩) (hO : Script w db doff M)
    (HS : Hid (∀ w, Calls Tryd.prog 21 #[.int .i64 x0, .int .i64 x1] w fun e w' => e = .returned (.agg #[.int .i64 n, .int .i64 m]) ∧ Tr w [] w' [])) (hR : Rd w 0 0 64 tabV) :
    Calls Tryd.prog 7 #[.int .i64 x0, .int .i64 x1, .slice ao M cap] w fun e w' => e = .returned (.bool true) ∧ Tr w [] w' [] := by
  have hs := Tr.refl w []
  have HR := Lib.hid hR
  have HA := Lib.hid hao
  have HO := Lib.hid hO
  have HMAY := Lib.hid hmay
  clear hR hao hO hmay
  go_enter Tryd.func7, Tryd.ntmps7
  go_wp2_with (first
    | ((with_reducible refine (at_alloc (t := 23)) rfl ?_); refine wl_allocA hs rfl rfl zero23 ?_; clear hs; intro w1 xb hs)
    | ((with_reducible refine at_store rfl ?_); refine wl_storeA hs rfl rfl rfl rfl size23 (by simp [Value.oneCell']) 0 rfl rfl ?_; clear hs; intro w1 hs)
    | ((with_reducible refine (at_alloc (t := 52)) rfl ?_); refine wl_allocA hs rfl rfl zero52 ?_; clear hs; intro w1 sA hs)
    | ((with_reducible refine (at_alloc (t := 53)) rfl ?_); refine wl_allocA hs rfl rfl zero53 ?_; clear hs; intro w1 rA hs)
    | (go_at_call 9; refine (awake_any _ (HR.out.keep hs)).mono ?_; rintro e w2 ⟨rfl, hc⟩; replace hs := hs.call0 hc; clear hc)
    | (go_at_call 21; refine (HS.out _).mono ?_; rintro e w2 ⟨rfl, hc⟩; replace hs := hs.call0 hc; clear hc))
  clear HS
  go_loopw [11] (fun i wr => ∃ k : Nat, k ≤ 2 ∧ i = .int .i64 k ∧ Begun w sA rA xb n m k wr) (fun i _ => 2 - (intOf i).toNat)
  case atStart => exact ⟨0, by omega, rfl, Or.inl ⟨rfl, hs⟩⟩
  case round =>
    clear hs
    obtain ⟨k, hk, rfl, hb⟩ := hrel
    rcases hb with ⟨rfl, hs⟩ | ⟨rfl, a, hs⟩ | ⟨rfl, hb⟩
    · as_aux_lemma =>
        go_upto_region 9 with (first
          | ((with_reducible refine (at_load (t := 23)) rfl ?_); refine wl_loadA hs rfl rfl Tryd.underlying23 rfl rfl 2 rfl size23 ?_)
          | (go_at_call 11; refine (new_nil HMAY.out).mono ?_; rintro e w2 ⟨p, b, bs, ii, is, q, rfl, hc⟩; replace hs := hs.call1 hc; clear hc))
        go_wp2_with (first
          | ((with_reducible refine (at_load (t := 23)) rfl ?_); refine wl_loadA hs rfl rfl Tryd.underlying23 rfl rfl 3 rfl size23 ?_)
          | (go_at_call 13; refine (rnew_yes HMAY.out (nil_ints _) (nil_ints _) (fun k hk => absurd hk (Nat.not_lt_zero k)) (fun k hk => absurd hk (Nat.not_lt_zero k))).mono ?_; rintro e w2 ⟨rp, rb, ri, rfl, hc⟩; rw [newB_nil, newI_nil] at hc; replace hs := hs.call1 hc; clear hc)
          | ((with_reducible refine (at_store (t := 29)) rfl ?_); refine wl_store1 hs rfl rfl size29 rfl rfl rfl 3 rfl (of_decide_eq_true rfl) ?_; clear hs; intro w1 hs)
          | ((with_reducible refine (at_store (t := 34)) rfl ?_); refine wl_store1 hs rfl rfl size34 rfl rfl rfl 2 rfl (of_decide_eq_true rfl) ?_; clear hs; intro w1 hs))
        go_roundw
        case rel => exact ⟨1, by omega, by go_num, Or.inr (Or.inl ⟨rfl, ⟨p, b, bs, ii, is, q, rp, rb, ri⟩, hs⟩)⟩
        case measure => simp [intOf]
    · as_aux_lemma =>
        go_upto_region 9 with (first
          | ((with_reducible refine (at_load (t := 23)) rfl ?_); refine wl_loadA hs rfl rfl Tryd.underlying23 rfl rfl 4 rfl size23 ?_)
          | (go_at_call 11; refine (new_nil HMAY.out).mono ?_; rintro e w2 ⟨p, b, bs, ii, is, q, rfl, hc⟩; replace hs := hs.call1 hc; clear hc))
        go_wp2_with (first
          | ((with_reducible refine (at_load (t := 23)) rfl ?_); refine wl_loadA hs rfl rfl Tryd.underlying23 rfl rfl 5 rfl size23 ?_)
          | (go_at_call 13; refine (rnew_yes HMAY.out (nil_ints _) (nil_ints _) (fun k hk => absurd hk (Nat.not_lt_zero k)) (fun k hk => absurd hk (Nat.not_lt_zero k))).mono ?_; rintro e w2 ⟨rp, rb, ri, rfl, hc⟩; rw [newB_nil, newI_nil] at hc; replace hs := hs.call1 hc; clear hc)
          | ((with_reducible refine (at_store (t := 29)) rfl ?_); refine wl_store1 hs rfl rfl size29 rfl rfl rfl 5 rfl (of_decide_eq_true rfl) ?_; clear hs; intro w1 hs)
          | ((with_reducible refine (at_store (t := 34)) rfl ?_); refine wl_store1 hs rfl rfl size34 rfl rfl rfl 4 rfl (of_decide_eq_true rfl) ?_; clear hs; intro w1 hs))
        go_roundw
        case rel => exact ⟨2, by omega, by go_num, Or.inr (Or.inr ⟨rfl, a, ⟨p, b, bs, ii, is, q, rp, rb, ri⟩, hs⟩)⟩
        case measure => simp [intOf]
    · obtain ⟨A, hs⟩ := begun_ok (Or.inr (Or.inr ⟨rfl, hb⟩))
      have HI0 : Hid (∀ j : Nat, Inv ((fun _ : Nat => B0) j) ((fun _ : Nat => I0) j)) := Lib.hid fun _ => inv_nil
      generalize (fun _ : Nat => B0) = BS at *
      generalize (fun _ : Nat => I0) = IS at *
      clear hb
      rw [show ((2 : Nat) : Int) = 2 from rfl]
      go_wp2_with fail
      go_loopw [16] (fun i wr => ∃ (k : Nat) (B : Nat → Nat → Nat) (IN : Nat → Nat → Bool), k ≤ M ∧ i = .int .i64 k ∧ (∀ j, Inv (B j) (IN j)) ∧ Tr w [] wr (prs A n m B IN 0 ++ prs A n m B IN 1 ++ ars sA rA xb n m A)) (fun i _ => M - (intOf i).toNat)
      case atStart => exact ⟨0, BS, IS, by omega, rfl, HI0.out, hs⟩
      case round =>
        clear hs HI0
        obtain ⟨k, B, IN, hk, rfl, hinv, hs⟩ := hrel
        have HINV := Lib.hid hinv
        clear hinv
        by_cases hlt : k < M
        · have hltI : (k : Int) < M := by omega
          obtain rfl := HA.out (by omega)
          obtain ⟨c, bb, pt, la, ln, lc, db1, do1, lg, hop⟩ := HO.out k hlt
          obtain ⟨kk, hp, hkk⟩ : ∃ kk : Nat, pick bb 2 = (kk : Int) ∧ kk < 2 := ⟨(pick bb 2).toNat, by have := pick_bd bb 2 (by omega); omega, by have := pick_bd bb 2 (by omega); omega⟩
          have HPK := Lib.hid (fun w => pick_any bb 2 w (by omega) (by omega) hop.bO.1 hop.bO.2)
          rw [hp] at HPK
          have Q0 := Lib.hid hop.c0
          have Q1 := Lib.hid hop.c1
          have Q2 := Lib.hid hop.c2
          have Q3 := Lib.hid hop.c3
          have I := Lib.hid hop.l
          have hpt := hop.bN
          have hsz := hop.sz
          have hkI : (kk : Int) < 2 := by omega
          clear hop hp
          replace hs := pick2 kk hkk hs
          by_cases c1 : c = 1
          · subst c1
            as_aux_lemma =>
              obtain ⟨rr, re, B', hinv1, HP⟩ := play_take HMAY.out (HINV.out kk)
              replace HP := Lib.hid HP
              go_upto_region 22 with (first
                  | ((with_reducible refine (at_load (t := 55)) rfl ?_); refine wl_load4 rfl rfl Tryd.underlying55 rfl size55 rfl (hs.keepCell Q0.out) (hs.keepCell Q1.out) (hs.keepCell Q2.out) (hs.keepCell Q3.out) ?_)
                  | ((with_reducible refine (at_alloc (t := 55)) rfl ?_); refine wl_allocA hs rfl rfl zero55 ?_; clear hs; intro w1 ob hs)
                  | ((with_reducible refine at_store rfl ?_); refine wl_storeA hs rfl rfl rfl rfl size55 (by simp [Value.oneCell']) 0 rfl rfl ?_; clear hs; intro w1 hs)
                  | ((with_reducible refine at_load rfl ?_); refine wl_load1 hs rfl rfl Tryd.underlying3 rfl rfl 0 rfl rfl ?_)
                  | (go_at_call 22; refine (HPK.out _).mono ?_; rintro e1 w2 ⟨rfl, rfl⟩))
              go_upto_region 24 with (first
                  | ((with_reducible refine (at_load (t := 29)) rfl ?_); refine wl_load1 (v := .pointer (some ⟨(A kk).p, 0, none⟩)) hs rfl rfl Tryd.underlying29 rfl rfl 5 rfl (rowOf_get hkk) ?_)
                  | ((with_reducible refine (at_load (t := 34)) rfl ?_); refine wl_load1 (v := .pointer (some ⟨(A kk).rp, 0, none⟩)) hs rfl rfl Tryd.underlying34 rfl rfl 6 rfl (rowOf_get hkk) ?_)
                  | (go_at_call 19; refine (HP.out.s _ _ _ _ _ _ _ (HR.out.keep hs) (hs.get 1 rfl)).mono ?_; rintro e1 w2 ⟨rfl, hc⟩; replace hs := hs.upd 1 rfl hc; clear hc)
                  | (go_at_call 20; refine (HP.out.r _ _ _ _ (hs.get 2 rfl)).mono ?_; rintro e1 w2 ⟨rfl, hc⟩; replace hs := hs.upd 2 rfl hc; clear hc))
              clear HP
              go_upto_region 44 with fail
              have hi2 := inv_set (k := kk) (b := B') (i := (IN kk)) HINV.out hinv1
              replace hs := unpick2 kk hkk (hs.erase 0)
              clear HINV hinv1
              generalize setK B kk B' = B2 at *
              generalize setK IN kk (IN kk) = I2 at *
              obtain ⟨ra0, rb0, rc0, HM0⟩ := play_room HMAY.out (hi2 0)
              obtain ⟨ra1, rb1, rc1, HM1⟩ := play_room HMAY.out (hi2 1)
              replace HM0 := Lib.hid HM0
              replace HM1 := Lib.hid HM1
              refine wt_enter 20 rfl hs (by kernel_rfl) ?_
              clear hs; intro w1 hs; have hC := hs
              refine wt_take 0 rfl (by kernel_rfl) (by kernel_rfl) (by kernel_rfl) (fun _ _ _ _ h => h) rfl hC ⟨_, fun w hw => by (go_simp; try with_reducible rfl), fun a1 ha => ?_⟩
              simp only [Act.put, List.setIfInBounds_toArray, List.set_cons_succ, List.set_cons_zero] at ha; subst ha
              refine wt_take 1 rfl (by kernel_rfl) (by kernel_rfl) (by kernel_rfl) (fun _ _ _ _ h => h) rfl hC ⟨_, fun w hw => by (go_simp; try with_reducible rfl), fun a1 ha => ?_⟩
              simp only [Act.put, List.setIfInBounds_toArray, List.set_cons_succ, List.set_cons_zero] at ha; subst ha
              refine wt_take 2 rfl (by kernel_rfl) (by kernel_rfl) (by kernel_rfl) (fun _ _ _ _ h => h) rfl hC ⟨_, fun w hw => by (go_simp; try with_reducible rfl), fun a1 ha => ?_⟩
              simp only [Act.put, List.setIfInBounds_toArray, List.set_cons_succ, List.set_cons_zero] at ha; subst ha
              refine wt_take 3 rfl (by kernel_rfl) (by kernel_rfl) (by kernel_rfl) (fun _ _ _ _ h => h) rfl hC ⟨.pointer (some ⟨sA, 0, none⟩), fun w hw => ex_indexA1 rfl Tryd.underlying52 size29 rfl rfl 0 rfl (by omega), fun a1 ha => ?_⟩
              simp only [Act.put, List.setIfInBounds_toArray, List.set_cons_succ, List.set_cons_zero] at ha; subst ha
              refine wt_take 4 rfl (by kernel_rfl) (by kernel_rfl) (by kernel_rfl) (fun _ _ _ _ h => h) rfl hC ⟨.pointer (some ⟨(A 0).p, 0, none⟩), fun w hw => ex_load1 rfl Tryd.underlying29 rfl rfl (by rw [cell_of_row w _ _ _ _ (0, 0) (hw.getB 4 rfl)]; exact rowOf_get (by omega)), fun a1 ha => ?_⟩
              simp only [Act.put, List.setIfInBounds_toArray, List.set_cons_succ, List.set_cons_zero] at ha; subst ha
              refine wt_take 6 rfl (by kernel_rfl) (by kernel_rfl) (by kernel_rfl) (fun _ _ _ _ h => h) rfl hC ⟨.pointer (some ⟨rA, 0, none⟩), fun w hw => ex_indexA1 rfl Tryd.underlying53 size34 rfl rfl 0 rfl (by omega), fun a1 ha => ?_⟩
              simp only [Act.put, List.setIfInBounds_toArray, List.set_cons_succ, List.set_cons_zero] at ha; subst ha
              refine wt_take 7 rfl (by kernel_rfl) (by kernel_rfl) (by kernel_rfl) (fun _ _ _ _ h => h) rfl hC ⟨.pointer (some ⟨(A 0).rp, 0, none⟩), fun w hw => ex_load1 rfl Tryd.underlying34 rfl rfl (by rw [cell_of_row w _ _ _ _ (0, 0) (hw.getB 5 rfl)]; exact rowOf_get (by omega)), fun a1 ha => ?_⟩
              simp only [Act.put, List.setIfInBounds_toArray, List.set_cons_succ, List.set_cons_zero] at ha; subst ha
              refine wt_one 5 (by kernel_rfl) ?_
              refine wt_callU hs rfl rfl (by go_simp) 0 rfl (HM0.out.s _ _ _ _ _ _ _ (HR.out.keep hs) (hs.get 0 rfl)) (by simp only [Act.put, List.setIfInBounds_toArray, List.set_cons_succ, List.set_cons_zero]; rfl) ?_
              clear hs; intro w1 hs
              refine wt_and (hs.sub (by repeat (first | exact List.Sublist.refl _ | refine List.Sublist.cons_cons _ ?_ | refine List.Sublist.cons _ ?_))) fun hC => ?_
              refine wt_one 8 (by kernel_rfl) ?_
              refine wt_callU hs rfl rfl (by go_simp) 1 rfl (HM0.out.r _ _ _ _ (hs.get 1 rfl)) (by simp only [Act.put, List.setIfInBounds_toArray, List.set_cons_succ, List.set_cons_zero]; rfl) ?_
              clear hs; intro w1 hs
              refine wt_and (hs.sub (by repeat (first | exact List.Sublist.refl _ | refine List.Sublist.cons_cons _ ?_ | refine List.Sublist.cons _ ?_))) fun hC => ?_
              refine wt_take 9 rfl (by kernel_rfl) (by kernel_rfl) (by kernel_rfl) (fun _ _ _ _ h => h) rfl hC ⟨.bool false, fun w hw => by (go_simp; try simp), fun a1 ha => ?_⟩
              simp only [Act.put, List.setIfInBounds_toArray, List.set_cons_succ, List.set_cons_zero] at ha; subst ha
              refine wt_take 10 rfl (by kernel_rfl) (by kernel_rfl) (by kernel_rfl) (fun _ _ _ _ h => h) rfl hC ⟨_, fun w hw => by (go_simp; try with_reducible rfl), fun a1 ha => ?_⟩
              simp only [Act.put, List.setIfInBounds_toArray, List.set_cons_succ, List.set_cons_zero] at ha; subst ha
              refine wt_take 11 rfl (by kernel_rfl) (by kernel_rfl) (by kernel_rfl) (fun _ _ _ _ h => h) rfl hC ⟨_, fun w hw => by (go_simp; try with_reducible rfl), fun a1 ha => ?_⟩
              simp only [Act.put, List.setIfInBounds_toArray, List.set_cons_succ, List.set_cons_zero] at ha; subst ha
              refine wt_take 12 rfl (by kernel_rfl) (by kernel_rfl) (by kernel_rfl) (fun _ _ _ _ h => h) rfl hC ⟨.pointer (some ⟨sA, 1, none⟩), fun w hw => ex_indexA1 rfl Tryd.underlying52 size29 rfl rfl 1 rfl (by omega), fun a1 ha => ?_⟩
              simp only [Act.put, List.setIfInBounds_toArray, List.set_cons_succ, List.set_cons_zero] at ha; subst ha
              refine wt_take 13 rfl (by kernel_rfl) (by kernel_rfl) (by kernel_rfl) (fun _ _ _ _ h => h) rfl hC ⟨.pointer (some ⟨(A 1).p, 0, none⟩), fun w hw => ex_load1 rfl Tryd.underlying29 rfl rfl (by rw [cell_of_row w _ _ _ _ (0, 0) (hw.getB 4 rfl)]; exact rowOf_get (by omega)), fun a1 ha => ?_⟩
              simp only [Act.put, List.setIfInBounds_toArray, List.set_cons_succ, List.set_cons_zero] at ha; subst ha
              refine wt_take 15 rfl (by kernel_rfl) (by kernel_rfl) (by kernel_rfl) (fun _ _ _ _ h => h) rfl hC ⟨.pointer (some ⟨rA, 1, none⟩), fun w hw => ex_indexA1 rfl Tryd.underlying53 size34 rfl rfl 1 rfl (by omega), fun a1 ha => ?_⟩
              simp only [Act.put, List.setIfInBounds_toArray, List.set_cons_succ, List.set_cons_zero] at ha; subst ha
              refine wt_take 16 rfl (by kernel_rfl) (by kernel_rfl) (by kernel_rfl) (fun _ _ _ _ h => h) rfl hC ⟨.pointer (some ⟨(A 1).rp, 0, none⟩), fun w hw => ex_load1 rfl Tryd.underlying34 rfl rfl (by rw [cell_of_row w _ _ _ _ (0, 0) (hw.getB 5 rfl)]; exact rowOf_get (by omega)), fun a1 ha => ?_⟩
              simp only [Act.put, List.setIfInBounds_toArray, List.set_cons_succ, List.set_cons_zero] at ha; subst ha
              refine wt_one 14 (by kernel_rfl) ?_
              refine wt_callU hs rfl rfl (by go_simp) 2 rfl (HM1.out.s _ _ _ _ _ _ _ (HR.out.keep hs) (hs.get 2 rfl)) (by simp only [Act.put, List.setIfInBounds_toArray, List.set_cons_succ, List.set_cons_zero]; rfl) ?_
              clear hs; intro w1 hs
              refine wt_and (hs.sub (by repeat (first | exact List.Sublist.refl _ | refine List.Sublist.cons_cons _ ?_ | refine List.Sublist.cons _ ?_))) fun hC => ?_
              refine wt_one 17 (by kernel_rfl) ?_
              refine wt_callU hs rfl rfl (by go_simp) 3 rfl (HM1.out.r _ _ _ _ (hs.get 3 rfl)) (by simp only [Act.put, List.setIfInBounds_toArray, List.set_cons_succ, List.set_cons_zero]; rfl) ?_
              clear hs; intro w1 hs
              refine wt_and (hs.sub (by repeat (first | exact List.Sublist.refl _ | refine List.Sublist.cons_cons _ ?_ | refine List.Sublist.cons _ ?_))) fun hC => ?_
              refine wt_take 18 rfl (by kernel_rfl) (by kernel_rfl) (by kernel_rfl) (fun _ _ _ _ h => h) rfl hC ⟨.bool false, fun w hw => by (go_simp; try simp), fun a1 ha => ?_⟩
              simp only [Act.put, List.setIfInBounds_toArray, List.set_cons_succ, List.set_cons_zero] at ha; subst ha
              refine wt_take 19 rfl (by kernel_rfl) (by kernel_rfl) (by kernel_rfl) (fun _ _ _ _ h => h) rfl hC ⟨_, fun w hw => by (go_simp; try with_reducible rfl), fun a1 ha => ?_⟩
              simp only [Act.put, List.setIfInBounds_toArray, List.set_cons_succ, List.set_cons_zero] at ha; subst ha
              refine wt_done (by kernel_rfl) ?_
              skip
              clear hC HM0 HM1
              go_wp2
              go_roundw
              case rel => exact ⟨k + 1, B2, I2, by omega, by go_num, hi2, hs⟩
              case measure => simp [intOf]; omega
          ·
            by_cases c2 : c = 2
            · subst c2
              clear c1
              as_aux_lemma =>
                obtain ⟨rr, re, I', hinv1, HP⟩ := play_takei HMAY.out (HINV.out kk)
                replace HP := Lib.hid HP
                go_upto_region 26 with (first
                    | ((with_reducible refine (at_load (t := 55)) rfl ?_); refine wl_load4 rfl rfl Tryd.underlying55 rfl size55 rfl (hs.keepCell Q0.out) (hs.keepCell Q1.out) (hs.keepCell Q2.out) (hs.keepCell Q3.out) ?_)
                    | ((with_reducible refine (at_alloc (t := 55)) rfl ?_); refine wl_allocA hs rfl rfl zero55 ?_; clear hs; intro w1 ob hs)
                    | ((with_reducible refine at_store rfl ?_); refine wl_storeA hs rfl rfl rfl rfl size55 (by simp [Value.oneCell']) 0 rfl rfl ?_; clear hs; intro w1 hs)
                    | ((with_reducible refine at_load rfl ?_); refine wl_load1 hs rfl rfl Tryd.underlying3 rfl rfl 0 rfl rfl ?_)
                    | (go_at_call 22; refine (HPK.out _).mono ?_; rintro e1 w2 ⟨rfl, rfl⟩))
                go_upto_region 28 with (first
                    | ((with_reducible refine (at_load (t := 29)) rfl ?_); refine wl_load1 (v := .pointer (some ⟨(A kk).p, 0, none⟩)) hs rfl rfl Tryd.underlying29 rfl rfl 5 rfl (rowOf_get hkk) ?_)
                    | ((with_reducible refine (at_load (t := 34)) rfl ?_); refine wl_load1 (v := .pointer (some ⟨(A kk).rp, 0, none⟩)) hs rfl rfl Tryd.underlying34 rfl rfl 6 rfl (rowOf_get hkk) ?_)
                    | (go_at_call 23; refine (HP.out.s _ _ _ _ _ _ _ (HR.out.keep hs) (hs.get 1 rfl)).mono ?_; rintro e1 w2 ⟨rfl, hc⟩; replace hs := hs.upd 1 rfl hc; clear hc)
                    | (go_at_call 27; refine (HP.out.r _ _ _ _ (hs.get 2 rfl)).mono ?_; rintro e1 w2 ⟨rfl, hc⟩; replace hs := hs.upd 2 rfl hc; clear hc))
                clear HP
                go_upto_region 44 with fail
                have hi2 := inv_set (k := kk) (b := (B kk)) (i := I') HINV.out hinv1
                replace hs := unpick2 kk hkk (hs.erase 0)
                clear HINV hinv1
                generalize setK B kk (B kk) = B2 at *
                generalize setK IN kk I' = I2 at *
                obtain ⟨ra0, rb0, rc0, HM0⟩ := play_room HMAY.out (hi2 0)
                obtain ⟨ra1, rb1, rc1, HM1⟩ := play_room HMAY.out (hi2 1)
                replace HM0 := Lib.hid HM0
                replace HM1 := Lib.hid HM1
                refine wt_enter 20 rfl hs (by kernel_rfl) ?_
                clear hs; intro w1 hs; have hC := hs
                refine wt_take 0 rfl (by kernel_rfl) (by kernel_rfl) (by kernel_rfl) (fun _ _ _ _ h => h) rfl hC ⟨_, fun w hw => by (go_simp; try with_reducible rfl), fun a1 ha => ?_⟩
                simp only [Act.put, List.setIfInBounds_toArray, List.set_cons_succ, List.set_cons_zero] at ha; subst ha
                refine wt_take 1 rfl (by kernel_rfl) (by kernel_rfl) (by kernel_rfl) (fun _ _ _ _ h => h) rfl hC ⟨_, fun w hw => by (go_simp; try with_reducible rfl), fun a1 ha => ?_⟩
                simp only [Act.put, List.setIfInBounds_toArray, List.set_cons_succ, List.set_cons_zero] at ha; subst ha
                refine wt_take 2 rfl (by kernel_rfl) (by kernel_rfl) (by kernel_rfl) (fun _ _ _ _ h => h) rfl hC ⟨_, fun w hw => by (go_simp; try with_reducible rfl), fun a1 ha => ?_⟩
                simp only [Act.put, List.setIfInBounds_toArray, List.set_cons_succ, List.set_cons_zero] at ha; subst ha
                refine wt_take 3 rfl (by kernel_rfl) (by kernel_rfl) (by kernel_rfl) (fun _ _ _ _ h => h) rfl hC ⟨.pointer (some ⟨sA, 0, none⟩), fun w hw => ex_indexA1 rfl Tryd.underlying52 size29 rfl rfl 0 rfl (by omega), fun a1 ha => ?_⟩
                simp only [Act.put, List.setIfInBounds_toArray, List.set_cons_succ, List.set_cons_zero] at ha; subst ha
                refine wt_take 4 rfl (by kernel_rfl) (by kernel_rfl) (by kernel_rfl) (fun _ _ _ _ h => h) rfl hC ⟨.pointer (some ⟨(A 0).p, 0, none⟩), fun w hw => ex_load1 rfl Tryd.underlying29 rfl rfl (by rw [cell_of_row w _ _ _ _ (0, 0) (hw.getB 4 rfl)]; exact rowOf_get (by omega)), fun a1 ha => ?_⟩
                simp only [Act.put, List.setIfInBounds_toArray, List.set_cons_succ, List.set_cons_zero] at ha; subst ha
                refine wt_take 6 rfl (by kernel_rfl) (by kernel_rfl) (by kernel_rfl) (fun _ _ _ _ h => h) rfl hC ⟨.pointer (some ⟨rA, 0, none⟩), fun w hw => ex_indexA1 rfl Tryd.underlying53 size34 rfl rfl 0 rfl (by omega), fun a1 ha => ?_⟩
                simp only [Act.put, List.setIfInBounds_toArray, List.set_cons_succ, List.set_cons_zero] at ha; subst ha
                refine wt_take 7 rfl (by kernel_rfl) (by kernel_rfl) (by kernel_rfl) (fun _ _ _ _ h => h) rfl hC ⟨.pointer (some ⟨(A 0).rp, 0, none⟩), fun w hw => ex_load1 rfl Tryd.underlying34 rfl rfl (by rw [cell_of_row w _ _ _ _ (0, 0) (hw.getB 5 rfl)]; exact rowOf_get (by omega)), fun a1 ha => ?_⟩
                simp only [Act.put, List.setIfInBounds_toArray, List.set_cons_succ, List.set_cons_zero] at ha; subst ha
                refine wt_one 5 (by kernel_rfl) ?_
                refine wt_callU hs rfl rfl (by go_simp) 0 rfl (HM0.out.s _ _ _ _ _ _ _ (HR.out.keep hs) (hs.get 0 rfl)) (by simp only [Act.put, List.setIfInBounds_toArray, List.set_cons_succ, List.set_cons_zero]; rfl) ?_
                clear hs; intro w1 hs
                refine wt_and (hs.sub (by repeat (first | exact List.Sublist.refl _ | refine List.Sublist.cons_cons _ ?_ | refine List.Sublist.cons _ ?_))) fun hC => ?_
                refine wt_one 8 (by kernel_rfl) ?_
                refine wt_callU hs rfl rfl (by go_simp) 1 rfl (HM0.out.r _ _ _ _ (hs.get 1 rfl)) (by simp only [Act.put, List.setIfInBounds_toArray, List.set_cons_succ, List.set_cons_zero]; rfl) ?_
                clear hs; intro w1 hs
                refine wt_and (hs.sub (by repeat (first | exact List.Sublist.refl _ | refine List.Sublist.cons_cons _ ?_ | refine List.Sublist.cons _ ?_))) fun hC => ?_
                refine wt_take 9 rfl (by kernel_rfl) (by kernel_rfl) (by kernel_rfl) (fun _ _ _ _ h => h) rfl hC ⟨.bool false, fun w hw => by (go_simp; try simp), fun a1 ha => ?_⟩
                simp only [Act.put, List.setIfInBounds_toArray, List.set_cons_succ, List.set_cons_zero] at ha; subst ha
                refine wt_take 10 rfl (by kernel_rfl) (by kernel_rfl) (by kernel_rfl) (fun _ _ _ _ h => h) rfl hC ⟨_, fun w hw => by (go_simp; try with_reducible rfl), fun a1 ha => ?_⟩
                simp only [Act.put, List.setIfInBounds_toArray, List.set_cons_succ, List.set_cons_zero] at ha; subst ha
                refine wt_take 11 rfl (by kernel_rfl) (by kernel_rfl) (by kernel_rfl) (fun _ _ _ _ h => h) rfl hC ⟨_, fun w hw => by (go_simp; try with_reducible rfl), fun a1 ha => ?_⟩
                simp only [Act.put, List.setIfInBounds_toArray, List.set_cons_succ, List.set_cons_zero] at ha; subst ha
                refine wt_take 12 rfl (by kernel_rfl) (by kernel_rfl) (by kernel_rfl) (fun _ _ _ _ h => h) rfl hC ⟨.pointer (some ⟨sA, 1, none⟩), fun w hw => ex_indexA1 rfl Tryd.underlying52 size29 rfl rfl 1 rfl (by omega), fun a1 ha => ?_⟩
                simp only [Act.put, List.setIfInBounds_toArray, List.set_cons_succ, List.set_cons_zero] at ha; subst ha
                refine wt_take 13 rfl (by kernel_rfl) (by kernel_rfl) (by kernel_rfl) (fun _ _ _ _ h => h) rfl hC ⟨.pointer (some ⟨(A 1).p, 0, none⟩), fun w hw => ex_load1 rfl Tryd.underlying29 rfl rfl (by rw [cell_of_row w _ _ _ _ (0, 0) (hw.getB 4 rfl)]; exact rowOf_get (by omega)), fun a1 ha => ?_⟩
                simp only [Act.put, List.setIfInBounds_toArray, List.set_cons_succ, List.set_cons_zero] at ha; subst ha
                refine wt_take 15 rfl (by kernel_rfl) (by kernel_rfl) (by kernel_rfl) (fun _ _ _ _ h => h) rfl hC ⟨.pointer (some ⟨rA, 1, none⟩), fun w hw => ex_indexA1 rfl Tryd.underlying53 size34 rfl rfl 1 rfl (by omega), fun a1 ha => ?_⟩
                simp only [Act.put, List.setIfInBounds_toArray, List.set_cons_succ, List.set_cons_zero] at ha; subst ha
                refine wt_take 16 rfl (by kernel_rfl) (by kernel_rfl) (by kernel_rfl) (fun _ _ _ _ h => h) rfl hC ⟨.pointer (some ⟨(A 1).rp, 0, none⟩), fun w hw => ex_load1 rfl Tryd.underlying34 rfl rfl (by rw [cell_of_row w _ _ _ _ (0, 0) (hw.getB 5 rfl)]; exact rowOf_get (by omega)), fun a1 ha => ?_⟩
                simp only [Act.put, List.setIfInBounds_toArray, List.set_cons_succ, List.set_cons_zero] at ha; subst ha
                refine wt_one 14 (by kernel_rfl) ?_
                refine wt_callU hs rfl rfl (by go_simp) 2 rfl (HM1.out.s _ _ _ _ _ _ _ (HR.out.keep hs) (hs.get 2 rfl)) (by simp only [Act.put, List.setIfInBounds_toArray, List.set_cons_succ, List.set_cons_zero]; rfl) ?_
                clear hs; intro w1 hs
                refine wt_and (hs.sub (by repeat (first | exact List.Sublist.refl _ | refine List.Sublist.cons_cons _ ?_ | refine List.Sublist.cons _ ?_))) fun hC => ?_
                refine wt_one 17 (by kernel_rfl) ?_
                refine wt_callU hs rfl rfl (by go_simp) 3 rfl (HM1.out.r _ _ _ _ (hs.get 3 rfl)) (by simp only [Act.put, List.setIfInBounds_toArray, List.set_cons_succ, List.set_cons_zero]; rfl) ?_
                clear hs; intro w1 hs
                refine wt_and (hs.sub (by repeat (first | exact List.Sublist.refl _ | refine List.Sublist.cons_cons _ ?_ | refine List.Sublist.cons _ ?_))) fun hC => ?_
                refine wt_take 18 rfl (by kernel_rfl) (by kernel_rfl) (by kernel_rfl) (fun _ _ _ _ h => h) rfl hC ⟨.bool false, fun w hw => by (go_simp; try simp), fun a1 ha => ?_⟩
                simp only [Act.put, List.setIfInBounds_toArray, List.set_cons_succ, List.set_cons_zero] at ha; subst ha
                refine wt_take 19 rfl (by kernel_rfl) (by kernel_rfl) (by kernel_rfl) (fun _ _ _ _ h => h) rfl hC ⟨_, fun w hw => by (go_simp; try with_reducible rfl), fun a1 ha => ?_⟩
                simp only [Act.put, List.setIfInBounds_toArray, List.set_cons_succ, List.set_cons_zero] at ha; subst ha
                refine wt_done (by kernel_rfl) ?_
                skip
                clear hC HM0 HM1
                go_wp2
                go_roundw
                case rel => exact ⟨k + 1, B2, I2, by omega, by go_num, hi2, hs⟩
                case measure => simp [intOf]; omega
            ·
              by_cases c3 : c = 3
              · subst c3
                clear c1 c2
                as_aux_lemma =>
                  obtain ⟨re, I', hinv1, HP⟩ := play_free HMAY.out (HINV.out kk) pt
                  replace HP := Lib.hid HP
                  go_upto_region 30 with (first
                      | ((with_reducible refine (at_load (t := 55)) rfl ?_); refine wl_load4 rfl rfl Tryd.underlying55 rfl size55 rfl (hs.keepCell Q0.out) (hs.keepCell Q1.out) (hs.keepCell Q2.out) (hs.keepCell Q3.out) ?_)
                      | ((with_reducible refine (at_alloc (t := 55)) rfl ?_); refine wl_allocA hs rfl rfl zero55 ?_; clear hs; intro w1 ob hs)
                      | ((with_reducible refine at_store rfl ?_); refine wl_storeA hs rfl rfl rfl rfl size55 (by simp [Value.oneCell']) 0 rfl rfl ?_; clear hs; intro w1 hs)
                      | ((with_reducible refine at_load rfl ?_); refine wl_load1 hs rfl rfl Tryd.underlying3 rfl rfl 0 rfl rfl ?_)
                      | (go_at_call 22; refine (HPK.out _).mono ?_; rintro e1 w2 ⟨rfl, rfl⟩))
                  refine wt_enterS (List.Sublist.cons_cons _ (List.Sublist.cons _ (List.Sublist.refl _))) 7 rfl hs (by kernel_rfl) ?_
                  clear hs; intro w1 hC hs
                  refine wt_take 0 rfl (by kernel_rfl) (by kernel_rfl) (by kernel_rfl) (fun _ _ _ _ h => h) rfl hC ⟨_, fun w hw => by (go_simp; try with_reducible rfl), fun a1 ha => ?_⟩
                  simp only [Act.put, List.setIfInBounds_toArray, List.set_cons_succ, List.set_cons_zero] at ha; subst ha
                  refine wt_take 1 rfl (by kernel_rfl) (by kernel_rfl) (by kernel_rfl) (fun _ _ _ _ h => h) rfl hC ⟨.pointer (some ⟨sA, kk, none⟩), fun w hw => ex_indexA1 rfl Tryd.underlying52 size29 rfl rfl kk rfl hkk, fun a1 ha => ?_⟩
                  simp only [Act.put, List.setIfInBounds_toArray, List.set_cons_succ, List.set_cons_zero] at ha; subst ha
                  refine wt_take 2 rfl (by kernel_rfl) (by kernel_rfl) (by kernel_rfl) (fun _ _ _ _ h => h) rfl hC ⟨.pointer (some ⟨(A kk).p, 0, none⟩), fun w hw => ex_load1 rfl Tryd.underlying29 rfl rfl (by rw [cell_of_row w _ _ _ _ (0, 0) (hw.getB 4 rfl)]; exact rowOf_get hkk), fun a1 ha => ?_⟩
                  simp only [Act.put, List.setIfInBounds_toArray, List.set_cons_succ, List.set_cons_zero] at ha; subst ha
                  refine wt_take 3 rfl (by kernel_rfl) (by kernel_rfl) (by kernel_rfl) (fun _ _ _ _ h => h) rfl hC ⟨_, fun w hw => by (go_simp; try with_reducible rfl), fun a1 ha => ?_⟩
                  simp only [Act.put, List.setIfInBounds_toArray, List.set_cons_succ, List.set_cons_zero] at ha; subst ha
                  refine wt_take 4 rfl (by kernel_rfl) (by kernel_rfl) (by kernel_rfl) (fun _ _ _ _ h => h) rfl hC ⟨_, fun w hw => ex_load1 rfl Tryd.underlying3 rfl rfl (by rw [cell_of_row w _ _ _ _ (0, 0) (hw.getB 0 rfl)]; rfl), fun a1 ha => ?_⟩
                  simp only [Act.put, List.setIfInBounds_toArray, List.set_cons_succ, List.set_cons_zero] at ha; subst ha
                  refine wt_one 5 (by kernel_rfl) ?_
                  refine wt_callU hs rfl rfl (by go_simp) 1 rfl (HP.out.s _ _ _ _ _ _ _ (HR.out.keep hs) (hs.get 1 rfl)) (by simp only [Act.put, List.setIfInBounds_toArray, List.set_cons_succ, List.set_cons_zero]; rfl) ?_
                  clear hs; intro w1 hs
                  refine wt_and (hs.sub (by repeat (first | exact List.Sublist.refl _ | refine List.Sublist.cons_cons _ ?_ | refine List.Sublist.cons _ ?_))) fun hC => ?_
                  refine wt_take 6 rfl (by kernel_rfl) (by kernel_rfl) (by kernel_rfl) (fun _ _ _ _ h => h) rfl hC ⟨_, fun w hw => by (go_simp; try with_reducible rfl), fun a1 ha => ?_⟩
                  simp only [Act.put, List.setIfInBounds_toArray, List.set_cons_succ, List.set_cons_zero] at ha; subst ha
                  refine wt_done (by kernel_rfl) ?_
                  skip
                  clear hC
                  go_upto_region 31 with fail
                  refine wt_enterS (List.Sublist.cons_cons _ (List.Sublist.cons_cons _ (List.Sublist.cons _ (List.Sublist.refl _)))) 9 rfl hs (by kernel_rfl) ?_
                  clear hs; intro w1 hC hs
                  refine wt_take 0 rfl (by kernel_rfl) (by kernel_rfl) (by kernel_rfl) (fun _ _ _ _ h => h) rfl hC ⟨_, fun w hw => by (go_simp; try with_reducible rfl), fun a1 ha => ?_⟩
                  simp only [Act.put, List.setIfInBounds_toArray, List.set_cons_succ, List.set_cons_zero] at ha; subst ha
                  refine wt_take 1 rfl (by kernel_rfl) (by kernel_rfl) (by kernel_rfl) (fun _ _ _ _ h => h) rfl hC ⟨_, fun w hw => by (go_simp; try with_reducible rfl), fun a1 ha => ?_⟩
                  simp only [Act.put, List.setIfInBounds_toArray, List.set_cons_succ, List.set_cons_zero] at ha; subst ha
                  refine wt_take 2 rfl (by kernel_rfl) (by kernel_rfl) (by kernel_rfl) (fun _ _ _ _ h => h) rfl hC ⟨.pointer (some ⟨rA, kk, none⟩), fun w hw => ex_indexA1 rfl Tryd.underlying53 size34 rfl rfl kk rfl hkk, fun a1 ha => ?_⟩
                  simp only [Act.put, List.setIfInBounds_toArray, List.set_cons_succ, List.set_cons_zero] at ha; subst ha
                  refine wt_take 3 rfl (by kernel_rfl) (by kernel_rfl) (by kernel_rfl) (fun _ _ _ _ h => h) rfl hC ⟨.pointer (some ⟨(A kk).rp, 0, none⟩), fun w hw => ex_load1 rfl Tryd.underlying34 rfl rfl (by rw [cell_of_row w _ _ _ _ (0, 0) (hw.getB 5 rfl)]; exact rowOf_get hkk), fun a1 ha => ?_⟩
                  simp only [Act.put, List.setIfInBounds_toArray, List.set_cons_succ, List.set_cons_zero] at ha; subst ha
                  refine wt_take 4 rfl (by kernel_rfl) (by kernel_rfl) (by kernel_rfl) (fun _ _ _ _ h => h) rfl hC ⟨_, fun w hw => by (go_simp; try with_reducible rfl), fun a1 ha => ?_⟩
                  simp only [Act.put, List.setIfInBounds_toArray, List.set_cons_succ, List.set_cons_zero] at ha; subst ha
                  refine wt_take 5 rfl (by kernel_rfl) (by kernel_rfl) (by kernel_rfl) (fun _ _ _ _ h => h) rfl hC ⟨_, fun w hw => ex_load1 rfl Tryd.underlying3 rfl rfl (by rw [cell_of_row w _ _ _ _ (0, 0) (hw.getB 0 rfl)]; rfl), fun a1 ha => ?_⟩
                  simp only [Act.put, List.setIfInBounds_toArray, List.set_cons_succ, List.set_cons_zero] at ha; subst ha
                  refine wt_one 6 (by kernel_rfl) ?_
                  refine wt_callU hs rfl rfl (by go_simp) 2 rfl (HP.out.r _ _ _ _ (hs.get 2 rfl)) (by simp only [Act.put, List.setIfInBounds_toArray, List.set_cons_succ, List.set_cons_zero]; rfl) ?_
                  clear hs; intro w1 hs
                  refine wt_and (hs.sub (by repeat (first | exact List.Sublist.refl _ | refine List.Sublist.cons_cons _ ?_ | refine List.Sublist.cons _ ?_))) fun hC => ?_
                  refine wt_take 7 rfl (by kernel_rfl) (by kernel_rfl) (by kernel_rfl) (fun _ _ _ _ h => h) rfl hC ⟨_, fun w hw => by (go_simp; try with_reducible rfl), fun a1 ha => ?_⟩
                  simp only [Act.put, List.setIfInBounds_toArray, List.set_cons_succ, List.set_cons_zero] at ha; subst ha
                  refine wt_take 8 rfl (by kernel_rfl) (by kernel_rfl) (by kernel_rfl) (fun _ _ _ _ h => h) rfl hC ⟨_, fun w hw => by (go_simp; try with_reducible rfl), fun a1 ha => ?_⟩
                  simp only [Act.put, List.setIfInBounds_toArray, List.set_cons_succ, List.set_cons_zero] at ha; subst ha
                  refine wt_done (by kernel_rfl) ?_
                  skip
                  clear hC HP
                  go_upto_region 44 with fail
                  have hi2 := inv_set (k := kk) (b := (B kk)) (i := I') HINV.out hinv1
                  replace hs := unpick2 kk hkk (hs.erase 0)
                  clear HINV hinv1
                  generalize setK B kk (B kk) = B2 at *
                  generalize setK IN kk I' = I2 at *
                  obtain ⟨ra0, rb0, rc0, HM0⟩ := play_room HMAY.out (hi2 0)
                  obtain ⟨ra1, rb1, rc1, HM1⟩ := play_room HMAY.out (hi2 1)
                  replace HM0 := Lib.hid HM0
                  replace HM1 := Lib.hid HM1
                  refine wt_enter 20 rfl hs (by kernel_rfl) ?_
                  clear hs; intro w1 hs; have hC := hs
                  refine wt_take 0 rfl (by kernel_rfl) (by kernel_rfl) (by kernel_rfl) (fun _ _ _ _ h => h) rfl hC ⟨_, fun w hw => by (go_simp; try with_reducible rfl), fun a1 ha => ?_⟩
                  simp only [Act.put, List.setIfInBounds_toArray, List.set_cons_succ, List.set_cons_zero] at ha; subst ha
                  refine wt_take 1 rfl (by kernel_rfl) (by kernel_rfl) (by kernel_rfl) (fun _ _ _ _ h => h) rfl hC ⟨_, fun w hw => by (go_simp; try with_reducible rfl), fun a1 ha => ?_⟩
                  simp only [Act.put, List.setIfInBounds_toArray, List.set_cons_succ, List.set_cons_zero] at ha; subst ha
                  refine wt_take 2 rfl (by kernel_rfl) (by kernel_rfl) (by kernel_rfl) (fun _ _ _ _ h => h) rfl hC ⟨_, fun w hw => by (go_simp; try with_reducible rfl), fun a1 ha => ?_⟩
                  simp only [Act.put, List.setIfInBounds_toArray, List.set_cons_succ, List.set_cons_zero] at ha; subst ha
                  refine wt_take 3 rfl (by kernel_rfl) (by kernel_rfl) (by kernel_rfl) (fun _ _ _ _ h => h) rfl hC ⟨.pointer (some ⟨sA, 0, none⟩), fun w hw => ex_indexA1 rfl Tryd.underlying52 size29 rfl rfl 0 rfl (by omega), fun a1 ha => ?_⟩
                  simp only [Act.put, List.setIfInBounds_toArray, List.set_cons_succ, List.set_cons_zero] at ha; subst ha
                  refine wt_take 4 rfl (by kernel_rfl) (by kernel_rfl) (by kernel_rfl) (fun _ _ _ _ h => h) rfl hC ⟨.pointer (some ⟨(A 0).p, 0, none⟩), fun w hw => ex_load1 rfl Tryd.underlying29 rfl rfl (by rw [cell_of_row w _ _ _ _ (0, 0) (hw.getB 4 rfl)]; exact rowOf_get (by omega)), fun a1 ha => ?_⟩
                  simp only [Act.put, List.setIfInBounds_toArray, List.set_cons_succ, List.set_cons_zero] at ha; subst ha
                  refine wt_take 6 rfl (by kernel_rfl) (by kernel_rfl) (by kernel_rfl) (fun _ _ _ _ h => h) rfl hC ⟨.pointer (some ⟨rA, 0, none⟩), fun w hw => ex_indexA1 rfl Tryd.underlying53 size34 rfl rfl 0 rfl (by omega), fun a1 ha => ?_⟩
                  simp only [Act.put, List.setIfInBounds_toArray, List.set_cons_succ, List.set_cons_zero] at ha; subst ha
                  refine wt_take 7 rfl (by kernel_rfl) (by kernel_rfl) (by kernel_rfl) (fun _ _ _ _ h => h) rfl hC ⟨.pointer (some ⟨(A 0).rp, 0, none⟩), fun w hw => ex_load1 rfl Tryd.underlying34 rfl rfl (by rw [cell_of_row w _ _ _ _ (0, 0) (hw.getB 5 rfl)]; exact rowOf_get (by omega)), fun a1 ha => ?_⟩
                  simp only [Act.put, List.setIfInBounds_toArray, List.set_cons_succ, List.set_cons_zero] at ha; subst ha
                  refine wt_one 5 (by kernel_rfl) ?_
                  refine wt_callU hs rfl rfl (by go_simp) 0 rfl (HM0.out.s _ _ _ _ _ _ _ (HR.out.keep hs) (hs.get 0 rfl)) (by simp only [Act.put, List.setIfInBounds_toArray, List.set_cons_succ, List.set_cons_zero]; rfl) ?_
                  clear hs; intro w1 hs
                  refine wt_and (hs.sub (by repeat (first | exact List.Sublist.refl _ | refine List.Sublist.cons_cons _ ?_ | refine List.Sublist.cons _ ?_))) fun hC => ?_
                  refine wt_one 8 (by kernel_rfl) ?_
                  refine wt_callU hs rfl rfl (by go_simp) 1 rfl (HM0.out.r _ _ _ _ (hs.get 1 rfl)) (by simp only [Act.put, List.setIfInBounds_toArray, List.set_cons_succ, List.set_cons_zero]; rfl) ?_
                  clear hs; intro w1 hs
                  refine wt_and (hs.sub (by repeat (first | exact List.Sublist.refl _ | refine List.Sublist.cons_cons _ ?_ | refine List.Sublist.cons _ ?_))) fun hC => ?_
                  refine wt_take 9 rfl (by kernel_rfl) (by kernel_rfl) (by kernel_rfl) (fun _ _ _ _ h => h) rfl hC ⟨.bool false, fun w hw => by (go_simp; try simp), fun a1 ha => ?_⟩
                  simp only [Act.put, List.setIfInBounds_toArray, List.set_cons_succ, List.set_cons_zero] at ha; subst ha
                  refine wt_take 10 rfl (by kernel_rfl) (by kernel_rfl) (by kernel_rfl) (fun _ _ _ _ h => h) rfl hC ⟨_, fun w hw => by (go_simp; try with_reducible rfl), fun a1 ha => ?_⟩
                  simp only [Act.put, List.setIfInBounds_toArray, List.set_cons_succ, List.set_cons_zero] at ha; subst ha
                  refine wt_take 11 rfl (by kernel_rfl) (by kernel_rfl) (by kernel_rfl) (fun _ _ _ _ h => h) rfl hC ⟨_, fun w hw => by (go_simp; try with_reducible rfl), fun a1 ha => ?_⟩
                  simp only [Act.put, List.setIfInBounds_toArray, List.set_cons_succ, List.set_cons_zero] at ha; subst ha
                  refine wt_take 12 rfl (by kernel_rfl) (by kernel_rfl) (by kernel_rfl) (fun _ _ _ _ h => h) rfl hC ⟨.pointer (some ⟨sA, 1, none⟩), fun w hw => ex_indexA1 rfl Tryd.underlying52 size29 rfl rfl 1 rfl (by omega), fun a1 ha => ?_⟩
                  simp only [Act.put, List.setIfInBounds_toArray, List.set_cons_succ, List.set_cons_zero] at ha; subst ha
                  refine wt_take 13 rfl (by kernel_rfl) (by kernel_rfl) (by kernel_rfl) (fun _ _ _ _ h => h) rfl hC ⟨.pointer (some ⟨(A 1).p, 0, none⟩), fun w hw => ex_load1 rfl Tryd.underlying29 rfl rfl (by rw [cell_of_row w _ _ _ _ (0, 0) (hw.getB 4 rfl)]; exact rowOf_get (by omega)), fun a1 ha => ?_⟩
                  simp only [Act.put, List.setIfInBounds_toArray, List.set_cons_succ, List.set_cons_zero] at ha; subst ha
                  refine wt_take 15 rfl (by kernel_rfl) (by kernel_rfl) (by kernel_rfl) (fun _ _ _ _ h => h) rfl hC ⟨.pointer (some ⟨rA, 1, none⟩), fun w hw => ex_indexA1 rfl Tryd.underlying53 size34 rfl rfl 1 rfl (by omega), fun a1 ha => ?_⟩
                  simp only [Act.put, List.setIfInBounds_toArray, List.set_cons_succ, List.set_cons_zero] at ha; subst ha
                  refine wt_take 16 rfl (by kernel_rfl) (by kernel_rfl) (by kernel_rfl) (fun _ _ _ _ h => h) rfl hC ⟨.pointer (some ⟨(A 1).rp, 0, none⟩), fun w hw => ex_load1 rfl Tryd.underlying34 rfl rfl (by rw [cell_of_row w _ _ _ _ (0, 0) (hw.getB 5 rfl)]; exact rowOf_get (by omega)), fun a1 ha => ?_⟩
                  simp only [Act.put, List.setIfInBounds_toArray, List.set_cons_succ, List.set_cons_zero] at ha; subst ha
                  refine wt_one 14 (by kernel_rfl) ?_
                  refine wt_callU hs rfl rfl (by go_simp) 2 rfl (HM1.out.s _ _ _ _ _ _ _ (HR.out.keep hs) (hs.get 2 rfl)) (by simp only [Act.put, List.setIfInBounds_toArray, List.set_cons_succ, List.set_cons_zero]; rfl) ?_
                  clear hs; intro w1 hs
                  refine wt_and (hs.sub (by repeat (first | exact List.Sublist.refl _ | refine List.Sublist.cons_cons _ ?_ | refine List.Sublist.cons _ ?_))) fun hC => ?_
                  refine wt_one 17 (by kernel_rfl) ?_
                  refine wt_callU hs rfl rfl (by go_simp) 3 rfl (HM1.out.r _ _ _ _ (hs.get 3 rfl)) (by simp only [Act.put, List.setIfInBounds_toArray, List.set_cons_succ, List.set_cons_zero]; rfl) ?_
                  clear hs; intro w1 hs
                  refine wt_and (hs.sub (by repeat (first | exact List.Sublist.refl _ | refine List.Sublist.cons_cons _ ?_ | refine List.Sublist.cons _ ?_))) fun hC => ?_
                  refine wt_take 18 rfl (by kernel_rfl) (by kernel_rfl) (by kernel_rfl) (fun _ _ _ _ h => h) rfl hC ⟨.bool false, fun w hw => by (go_simp; try simp), fun a1 ha => ?_⟩
                  simp only [Act.put, List.setIfInBounds_toArray, List.set_cons_succ, List.set_cons_zero] at ha; subst ha
                  refine wt_take 19 rfl (by kernel_rfl) (by kernel_rfl) (by kernel_rfl) (fun _ _ _ _ h => h) rfl hC ⟨_, fun w hw => by (go_simp; try with_reducible rfl), fun a1 ha => ?_⟩
                  simp only [Act.put, List.setIfInBounds_toArray, List.set_cons_succ, List.set_cons_zero] at ha; subst ha
                  refine wt_done (by kernel_rfl) ?_
                  skip
                  clear hC HM0 HM1
                  go_wp2
                  go_roundw
                  case rel => exact ⟨k + 1, B2, I2, by omega, by go_num, hi2, hs⟩
                  case measure => simp [intOf]; omega
              ·
                by_cases c4 : c = 4
                · subst c4
                  clear c1 c2 c3
                  as_aux_lemma =>
                    obtain ⟨re, B', hinv1, HP⟩ := play_later HMAY.out (HINV.out kk) pt hpt
                    replace HP := Lib.hid HP
                    go_upto_region 33 with (first
                        | ((with_reducible refine (at_load (t := 55)) rfl ?_); refine wl_load4 rfl rfl Tryd.underlying55 rfl size55 rfl (hs.keepCell Q0.out) (hs.keepCell Q1.out) (hs.keepCell Q2.out) (hs.keepCell Q3.out) ?_)
                        | ((with_reducible refine (at_alloc (t := 55)) rfl ?_); refine wl_allocA hs rfl rfl zero55 ?_; clear hs; intro w1 ob hs)
                        | ((with_reducible refine at_store rfl ?_); refine wl_storeA hs rfl rfl rfl rfl size55 (by simp [Value.oneCell']) 0 rfl rfl ?_; clear hs; intro w1 hs)
                        | ((with_reducible refine at_load rfl ?_); refine wl_load1 hs rfl rfl Tryd.underlying3 rfl rfl 0 rfl rfl ?_)
                        | (go_at_call 22; refine (HPK.out _).mono ?_; rintro e1 w2 ⟨rfl, rfl⟩))
                    refine wt_enterS (List.Sublist.cons_cons _ (List.Sublist.cons _ (List.Sublist.refl _))) 7 rfl hs (by kernel_rfl) ?_
                    clear hs; intro w1 hC hs
                    refine wt_take 0 rfl (by kernel_rfl) (by kernel_rfl) (by kernel_rfl) (fun _ _ _ _ h => h) rfl hC ⟨_, fun w hw => by (go_simp; try with_reducible rfl), fun a1 ha => ?_⟩
                    simp only [Act.put, List.setIfInBounds_toArray, List.set_cons_succ, List.set_cons_zero] at ha; subst ha
                    refine wt_take 1 rfl (by kernel_rfl) (by kernel_rfl) (by kernel_rfl) (fun _ _ _ _ h => h) rfl hC ⟨.pointer (some ⟨sA, kk, none⟩), fun w hw => ex_indexA1 rfl Tryd.underlying52 size29 rfl rfl kk rfl hkk, fun a1 ha => ?_⟩
                    simp only [Act.put, List.setIfInBounds_toArray, List.set_cons_succ, List.set_cons_zero] at ha; subst ha
                    refine wt_take 2 rfl (by kernel_rfl) (by kernel_rfl) (by kernel_rfl) (fun _ _ _ _ h => h) rfl hC ⟨.pointer (some ⟨(A kk).p, 0, none⟩), fun w hw => ex_load1 rfl Tryd.underlying29 rfl rfl (by rw [cell_of_row w _ _ _ _ (0, 0) (hw.getB 4 rfl)]; exact rowOf_get hkk), fun a1 ha => ?_⟩
                    simp only [Act.put, List.setIfInBounds_toArray, List.set_cons_succ, List.set_cons_zero] at ha; subst ha
                    refine wt_take 3 rfl (by kernel_rfl) (by kernel_rfl) (by kernel_rfl) (fun _ _ _ _ h => h) rfl hC ⟨_, fun w hw => by (go_simp; try with_reducible rfl), fun a1 ha => ?_⟩
                    simp only [Act.put, List.setIfInBounds_toArray, List.set_cons_succ, List.set_cons_zero] at ha; subst ha
                    refine wt_take 4 rfl (by kernel_rfl) (by kernel_rfl) (by kernel_rfl) (fun _ _ _ _ h => h) rfl hC ⟨_, fun w hw => ex_load1 rfl Tryd.underlying3 rfl rfl (by rw [cell_of_row w _ _ _ _ (0, 0) (hw.getB 0 rfl)]; rfl), fun a1 ha => ?_⟩
                    simp only [Act.put, List.setIfInBounds_toArray, List.set_cons_succ, List.set_cons_zero] at ha; subst ha
                    refine wt_one 5 (by kernel_rfl) ?_
                    refine wt_callU hs rfl rfl (by go_simp) 1 rfl (HP.out.s _ _ _ _ _ _ _ (HR.out.keep hs) (hs.get 1 rfl)) (by simp only [Act.put, List.setIfInBounds_toArray, List.set_cons_succ, List.set_cons_zero]; rfl) ?_
                    clear hs; intro w1 hs
                    refine wt_and (hs.sub (by repeat (first | exact List.Sublist.refl _ | refine List.Sublist.cons_cons _ ?_ | refine List.Sublist.cons _ ?_))) fun hC => ?_
                    refine wt_take 6 rfl (by kernel_rfl) (by kernel_rfl) (by kernel_rfl) (fun _ _ _ _ h => h) rfl hC ⟨_, fun w hw => by (go_simp; try with_reducible rfl), fun a1 ha => ?_⟩
                    simp only [Act.put, List.setIfInBounds_toArray, List.set_cons_succ, List.set_cons_zero] at ha; subst ha
                    refine wt_done (by kernel_rfl) ?_
                    skip
                    clear hC
                    go_upto_region 34 with fail
                    refine wt_enterS (List.Sublist.cons_cons _ (List.Sublist.cons_cons _ (List.Sublist.cons _ (List.Sublist.refl _)))) 9 rfl hs (by kernel_rfl) ?_
                    clear hs; intro w1 hC hs
                    refine wt_take 0 rfl (by kernel_rfl) (by kernel_rfl) (by kernel_rfl) (fun _ _ _ _ h => h) rfl hC ⟨_, fun w hw => by (go_simp; try with_reducible rfl), fun a1 ha => ?_⟩
                    simp only [Act.put, List.setIfInBounds_toArray, List.set_cons_succ, List.set_cons_zero] at ha; subst ha
                    refine wt_take 1 rfl (by kernel_rfl) (by kernel_rfl) (by kernel_rfl) (fun _ _ _ _ h => h) rfl hC ⟨_, fun w hw => by (go_simp; try with_reducible rfl), fun a1 ha => ?_⟩
                    simp only [Act.put, List.setIfInBounds_toArray, List.set_cons_succ, List.set_cons_zero] at ha; subst ha
                    refine wt_take 2 rfl (by kernel_rfl) (by kernel_rfl) (by kernel_rfl) (fun _ _ _ _ h => h) rfl hC ⟨.pointer (some ⟨rA, kk, none⟩), fun w hw => ex_indexA1 rfl Tryd.underlying53 size34 rfl rfl kk rfl hkk, fun a1 ha => ?_⟩
                    simp only [Act.put, List.setIfInBounds_toArray, List.set_cons_succ, List.set_cons_zero] at ha; subst ha
                    refine wt_take 3 rfl (by kernel_rfl) (by kernel_rfl) (by kernel_rfl) (fun _ _ _ _ h => h) rfl hC ⟨.pointer (some ⟨(A kk).rp, 0, none⟩), fun w hw => ex_load1 rfl Tryd.underlying34 rfl rfl (by rw [cell_of_row w _ _ _ _ (0, 0) (hw.getB 5 rfl)]; exact rowOf_get hkk), fun a1 ha => ?_⟩
                    simp only [Act.put, List.setIfInBounds_toArray, List.set_cons_succ, List.set_cons_zero] at ha; subst ha
                    refine wt_take 4 rfl (by kernel_rfl) (by kernel_rfl) (by kernel_rfl) (fun _ _ _ _ h => h) rfl hC ⟨_, fun w hw => by (go_simp; try with_reducible rfl), fun a1 ha => ?_⟩
                    simp only [Act.put, List.setIfInBounds_toArray, List.set_cons_succ, List.set_cons_zero] at ha; subst ha
                    refine wt_take 5 rfl (by kernel_rfl) (by kernel_rfl) (by kernel_rfl) (fun _ _ _ _ h => h) rfl hC ⟨_, fun w hw => ex_load1 rfl Tryd.underlying3 rfl rfl (by rw [cell_of_row w _ _ _ _ (0, 0) (hw.getB 0 rfl)]; rfl), fun a1 ha => ?_⟩
                    simp only [Act.put, List.setIfInBounds_toArray, List.set_cons_succ, List.set_cons_zero] at ha; subst ha
                    refine wt_one 6 (by kernel_rfl) ?_
                    refine wt_callU hs rfl rfl (by go_simp) 2 rfl (HP.out.r _ _ _ _ (hs.get 2 rfl)) (by simp only [Act.put, List.setIfInBounds_toArray, List.set_cons_succ, List.set_cons_zero]; rfl) ?_
                    clear hs; intro w1 hs
                    refine wt_and (hs.sub (by repeat (first | exact List.Sublist.refl _ | refine List.Sublist.cons_cons _ ?_ | refine List.Sublist.cons _ ?_))) fun hC => ?_
                    refine wt_take 7 rfl (by kernel_rfl) (by kernel_rfl) (by kernel_rfl) (fun _ _ _ _ h => h) rfl hC ⟨_, fun w hw => by (go_simp; try with_reducible rfl), fun a1 ha => ?_⟩
                    simp only [Act.put, List.setIfInBounds_toArray, List.set_cons_succ, List.set_cons_zero] at ha; subst ha
                    refine wt_take 8 rfl (by kernel_rfl) (by kernel_rfl) (by kernel_rfl) (fun _ _ _ _ h => h) rfl hC ⟨_, fun w hw => by (go_simp; try with_reducible rfl), fun a1 ha => ?_⟩
                    simp only [Act.put, List.setIfInBounds_toArray, List.set_cons_succ, List.set_cons_zero] at ha; subst ha
                    refine wt_done (by kernel_rfl) ?_
                    skip
                    clear hC HP
                    go_upto_region 44 with fail
                    have hi2 := inv_set (k := kk) (b := B') (i := (IN kk)) HINV.out hinv1
                    replace hs := unpick2 kk hkk (hs.erase 0)
                    clear HINV hinv1
                    generalize setK B kk B' = B2 at *
                    generalize setK IN kk (IN kk) = I2 at *
                    obtain ⟨ra0, rb0, rc0, HM0⟩ := play_room HMAY.out (hi2 0)
                    obtain ⟨ra1, rb1, rc1, HM1⟩ := play_room HMAY.out (hi2 1)
                    replace HM0 := Lib.hid HM0
                    replace HM1 := Lib.hid HM1
                    refine wt_enter 20 rfl hs (by kernel_rfl) ?_
                    clear hs; intro w1 hs; have hC := hs
                    refine wt_take 0 rfl (by kernel_rfl) (by kernel_rfl) (by kernel_rfl) (fun _ _ _ _ h => h) rfl hC ⟨_, fun w hw => by (go_simp; try with_reducible rfl), fun a1 ha => ?_⟩
                    simp only [Act.put, List.setIfInBounds_toArray, List.set_cons_succ, List.set_cons_zero] at ha; subst ha
                    refine wt_take 1 rfl (by kernel_rfl) (by kernel_rfl) (by kernel_rfl) (fun _ _ _ _ h => h) rfl hC ⟨_, fun w hw => by (go_simp; try with_reducible rfl), fun a1 ha => ?_⟩
                    simp only [Act.put, List.setIfInBounds_toArray, List.set_cons_succ, List.set_cons_zero] at ha; subst ha
                    refine wt_take 2 rfl (by kernel_rfl) (by kernel_rfl) (by kernel_rfl) (fun _ _ _ _ h => h) rfl hC ⟨_, fun w hw => by (go_simp; try with_reducible rfl), fun a1 ha => ?_⟩
                    simp only [Act.put, List.setIfInBounds_toArray, List.set_cons_succ, List.set_cons_zero] at ha; subst ha
                    refine wt_take 3 rfl (by kernel_rfl) (by kernel_rfl) (by kernel_rfl) (fun _ _ _ _ h => h) rfl hC ⟨.pointer (some ⟨sA, 0, none⟩), fun w hw => ex_indexA1 rfl Tryd.underlying52 size29 rfl rfl 0 rfl (by omega), fun a1 ha => ?_⟩
                    simp only [Act.put, List.setIfInBounds_toArray, List.set_cons_succ, List.set_cons_zero] at ha; subst ha
                    refine wt_take 4 rfl (by kernel_rfl) (by kernel_rfl) (by kernel_rfl) (fun _ _ _ _ h => h) rfl hC ⟨.pointer (some ⟨(A 0).p, 0, none⟩), fun w hw => ex_load1 rfl Tryd.underlying29 rfl rfl (by rw [cell_of_row w _ _ _ _ (0, 0) (hw.getB 4 rfl)]; exact rowOf_get (by omega)), fun a1 ha => ?_⟩
                    simp only [Act.put, List.setIfInBounds_toArray, List.set_cons_succ, List.set_cons_zero] at ha; subst ha
                    refine wt_take 6 rfl (by kernel_rfl) (by kernel_rfl) (by kernel_rfl) (fun _ _ _ _ h => h) rfl hC ⟨.pointer (some ⟨rA, 0, none⟩), fun w hw => ex_indexA1 rfl Tryd.underlying53 size34 rfl rfl 0 rfl (by omega), fun a1 ha => ?_⟩
                    simp only [Act.put, List.setIfInBounds_toArray, List.set_cons_succ, List.set_cons_zero] at ha; subst ha
                    refine wt_take 7 rfl (by kernel_rfl) (by kernel_rfl) (by kernel_rfl) (fun _ _ _ _ h => h) rfl hC ⟨.pointer (some ⟨(A 0).rp, 0, none⟩), fun w hw => ex_load1 rfl Tryd.underlying34 rfl rfl (by rw [cell_of_row w _ _ _ _ (0, 0) (hw.getB 5 rfl)]; exact rowOf_get (by omega)), fun a1 ha => ?_⟩
                    simp only [Act.put, List.setIfInBounds_toArray, List.set_cons_succ, List.set_cons_zero] at ha; subst ha
                    refine wt_one 5 (by kernel_rfl) ?_
                    refine wt_callU hs rfl rfl (by go_simp) 0 rfl (HM0.out.s _ _ _ _ _ _ _ (HR.out.keep hs) (hs.get 0 rfl)) (by simp only [Act.put, List.setIfInBounds_toArray, List.set_cons_succ, List.set_cons_zero]; rfl) ?_
                    clear hs; intro w1 hs
                    refine wt_and (hs.sub (by repeat (first | exact List.Sublist.refl _ | refine List.Sublist.cons_cons _ ?_ | refine List.Sublist.cons _ ?_))) fun hC => ?_
                    refine wt_one 8 (by kernel_rfl) ?_
                    refine wt_callU hs rfl rfl (by go_simp) 1 rfl (HM0.out.r _ _ _ _ (hs.get 1 rfl)) (by simp only [Act.put, List.setIfInBounds_toArray, List.set_cons_succ, List.set_cons_zero]; rfl) ?_
                    clear hs; intro w1 hs
                    refine wt_and (hs.sub (by repeat (first | exact List.Sublist.refl _ | refine List.Sublist.cons_cons _ ?_ | refine List.Sublist.cons _ ?_))) fun hC => ?_
                    refine wt_take 9 rfl (by kernel_rfl) (by kernel_rfl) (by kernel_rfl) (fun _ _ _ _ h => h) rfl hC ⟨.bool false, fun w hw => by (go_simp; try simp), fun a1 ha => ?_⟩
                    simp only [Act.put, List.setIfInBounds_toArray, List.set_cons_succ, List.set_cons_zero] at ha; subst ha
                    refine wt_take 10 rfl (by kernel_rfl) (by kernel_rfl) (by kernel_rfl) (fun _ _ _ _ h => h) rfl hC ⟨_, fun w hw => by (go_simp; try with_reducible rfl), fun a1 ha => ?_⟩
                    simp only [Act.put, List.setIfInBounds_toArray, List.set_cons_succ, List.set_cons_zero] at ha; subst ha
                    refine wt_take 11 rfl (by kernel_rfl) (by kernel_rfl) (by kernel_rfl) (fun _ _ _ _ h => h) rfl hC ⟨_, fun w hw => by (go_simp; try with_reducible rfl), fun a1 ha => ?_⟩
                    simp only [Act.put, List.setIfInBounds_toArray, List.set_cons_succ, List.set_cons_zero] at ha; subst ha
                    refine wt_take 12 rfl (by kernel_rfl) (by kernel_rfl) (by kernel_rfl) (fun _ _ _ _ h => h) rfl hC ⟨.pointer (some ⟨sA, 1, none⟩), fun w hw => ex_indexA1 rfl Tryd.underlying52 size29 rfl rfl 1 rfl (by omega), fun a1 ha => ?_⟩
                    simp only [Act.put, List.setIfInBounds_toArray, List.set_cons_succ, List.set_cons_zero] at ha; subst ha
                    refine wt_take 13 rfl (by kernel_rfl) (by kernel_rfl) (by kernel_rfl) (fun _ _ _ _ h => h) rfl hC ⟨.pointer (some ⟨(A 1).p, 0, none⟩), fun w hw => ex_load1 rfl Tryd.underlying29 rfl rfl (by rw [cell_of_row w _ _ _ _ (0, 0) (hw.getB 4 rfl)]; exact rowOf_get (by omega)), fun a1 ha => ?_⟩
                    simp only [Act.put, List.setIfInBounds_toArray, List.set_cons_succ, List.set_cons_zero] at ha; subst ha
                    refine wt_take 15 rfl (by kernel_rfl) (by kernel_rfl) (by kernel_rfl) (fun _ _ _ _ h => h) rfl hC ⟨.pointer (some ⟨rA, 1, none⟩), fun w hw => ex_indexA1 rfl Tryd.underlying53 size34 rfl rfl 1 rfl (by omega), fun a1 ha => ?_⟩
                    simp only [Act.put, List.setIfInBounds_toArray, List.set_cons_succ, List.set_cons_zero] at ha; subst ha
                    refine wt_take 16 rfl (by kernel_rfl) (by kernel_rfl) (by kernel_rfl) (fun _ _ _ _ h => h) rfl hC ⟨.pointer (some ⟨(A 1).rp, 0, none⟩), fun w hw => ex_load1 rfl Tryd.underlying34 rfl rfl (by rw [cell_of_row w _ _ _ _ (0, 0) (hw.getB 5 rfl)]; exact rowOf_get (by omega)), fun a1 ha => ?_⟩
                    simp only [Act.put, List.setIfInBounds_toArray, List.set_cons_succ, List.set_cons_zero] at ha; subst ha
                    refine wt_one 14 (by kernel_rfl) ?_
                    refine wt_callU hs rfl rfl (by go_simp) 2 rfl (HM1.out.s _ _ _ _ _ _ _ (HR.out.keep hs) (hs.get 2 rfl)) (by simp only [Act.put, List.setIfInBounds_toArray, List.set_cons_succ, List.set_cons_zero]; rfl) ?_
                    clear hs; intro w1 hs
                    refine wt_and (hs.sub (by repeat (first | exact List.Sublist.refl _ | refine List.Sublist.cons_cons _ ?_ | refine List.Sublist.cons _ ?_))) fun hC => ?_
                    refine wt_one 17 (by kernel_rfl) ?_
                    refine wt_callU hs rfl rfl (by go_simp) 3 rfl (HM1.out.r _ _ _ _ (hs.get 3 rfl)) (by simp only [Act.put, List.setIfInBounds_toArray, List.set_cons_succ, List.set_cons_zero]; rfl) ?_
                    clear hs; intro w1 hs
                    refine wt_and (hs.sub (by repeat (first | exact List.Sublist.refl _ | refine List.Sublist.cons_cons _ ?_ | refine List.Sublist.cons _ ?_))) fun hC => ?_
                    refine wt_take 18 rfl (by kernel_rfl) (by kernel_rfl) (by kernel_rfl) (fun _ _ _ _ h => h) rfl hC ⟨.bool false, fun w hw => by (go_simp; try simp), fun a1 ha => ?_⟩
                    simp only [Act.put, List.setIfInBounds_toArray, List.set_cons_succ, List.set_cons_zero] at ha; subst ha
                    refine wt_take 19 rfl (by kernel_rfl) (by kernel_rfl) (by kernel_rfl) (fun _ _ _ _ h => h) rfl hC ⟨_, fun w hw => by (go_simp; try with_reducible rfl), fun a1 ha => ?_⟩
                    simp only [Act.put, List.setIfInBounds_toArray, List.set_cons_succ, List.set_cons_zero] at ha; subst ha
                    refine wt_done (by kernel_rfl) ?_
                    skip
                    clear hC HM0 HM1
                    go_wp2
                    go_roundw
                    case rel => exact ⟨k + 1, B2, I2, by omega, by go_num, hi2, hs⟩
                    case measure => simp [intOf]; omega
                ·
                  by_cases c5 : c = 5
                  · subst c5
                    clear c1 c2 c3 c4
                    as_aux_lemma =>
                      obtain ⟨re, B', hinv1, HP1, HP2⟩ := play_landed HMAY.out (HINV.out kk) ln lg (by omega)
                      replace HP1 := Lib.hid HP1
                      replace HP2 := Lib.hid HP2
                      go_upto_region 36 with (first
                          | ((with_reducible refine (at_load (t := 55)) rfl ?_); refine wl_load4 rfl rfl Tryd.underlying55 rfl size55 rfl (hs.keepCell Q0.out) (hs.keepCell Q1.out) (hs.keepCell Q2.out) (hs.keepCell Q3.out) ?_)
                          | ((with_reducible refine (at_alloc (t := 55)) rfl ?_); refine wl_allocA hs rfl rfl zero55 ?_; clear hs; intro w1 ob hs)
                          | ((with_reducible refine at_store rfl ?_); refine wl_storeA hs rfl rfl rfl rfl size55 (by simp [Value.oneCell']) 0 rfl rfl ?_; clear hs; intro w1 hs)
                          | ((with_reducible refine at_load rfl ?_); refine wl_load1 hs rfl rfl Tryd.underlying3 rfl rfl 0 rfl rfl ?_)
                          | (go_at_call 22; refine (HPK.out _).mono ?_; rintro e1 w2 ⟨rfl, rfl⟩))
                      go_upto_region 37 with (first | ((with_reducible refine at_load rfl ?_); refine wl_load1 hs rfl rfl Tryd.underlying24 rfl rfl 0 rfl rfl ?_) | (go_at_call 10; refine (lend_any la ln lc db1 do1 lg _ hsz I.out.ao (I.out.rd.keep hs)).mono ?_; rintro e w2 ⟨lb, rfl, hc⟩; replace hs := hs.call1 hc; clear hc))
                      refine wt_enterS (List.Sublist.cons_cons _ (List.Sublist.cons_cons _ (List.Sublist.cons _ (List.Sublist.refl _)))) 10 rfl hs (by kernel_rfl) ?_
                      clear hs; intro w1 hC hs
                      refine wt_take 0 rfl (by kernel_rfl) (by kernel_rfl) (by kernel_rfl) (fun _ _ _ _ h => h) rfl hC ⟨_, fun w hw => by (go_simp; try with_reducible rfl), fun a1 ha => ?_⟩
                      simp only [Act.put, List.setIfInBounds_toArray, List.set_cons_succ, List.set_cons_zero] at ha; subst ha
                      refine wt_take 1 rfl (by kernel_rfl) (by kernel_rfl) (by kernel_rfl) (fun _ _ _ _ h => h) rfl hC ⟨.pointer (some ⟨sA, kk, none⟩), fun w hw => ex_indexA1 rfl Tryd.underlying52 size29 rfl rfl kk rfl hkk, fun a1 ha => ?_⟩
                      simp only [Act.put, List.setIfInBounds_toArray, List.set_cons_succ, List.set_cons_zero] at ha; subst ha
                      refine wt_take 2 rfl (by kernel_rfl) (by kernel_rfl) (by kernel_rfl) (fun _ _ _ _ h => h) rfl hC ⟨.pointer (some ⟨(A kk).p, 0, none⟩), fun w hw => ex_load1 rfl Tryd.underlying29 rfl rfl (by rw [cell_of_row w _ _ _ _ (0, 0) (hw.getB 5 rfl)]; exact rowOf_get hkk), fun a1 ha => ?_⟩
                      simp only [Act.put, List.setIfInBounds_toArray, List.set_cons_succ, List.set_cons_zero] at ha; subst ha
                      refine wt_take 3 rfl (by kernel_rfl) (by kernel_rfl) (by kernel_rfl) (fun _ _ _ _ h => h) rfl hC ⟨_, fun w hw => by (go_simp; try with_reducible rfl), fun a1 ha => ?_⟩
                      simp only [Act.put, List.setIfInBounds_toArray, List.set_cons_succ, List.set_cons_zero] at ha; subst ha
                      refine wt_take 4 rfl (by kernel_rfl) (by kernel_rfl) (by kernel_rfl) (fun _ _ _ _ h => h) rfl hC ⟨_, fun w hw => by (go_simp; try with_reducible rfl), fun a1 ha => ?_⟩
                      simp only [Act.put, List.setIfInBounds_toArray, List.set_cons_succ, List.set_cons_zero] at ha; subst ha
                      refine wt_take 5 rfl (by kernel_rfl) (by kernel_rfl) (by kernel_rfl) (fun _ _ _ _ h => h) rfl hC ⟨_, fun w hw => ex_load1 rfl Tryd.underlying24 rfl rfl (by rw [cell_of_row w _ _ _ _ (0, 0) (hw.getB 1 rfl)]; rfl), fun a1 ha => ?_⟩
                      simp only [Act.put, List.setIfInBounds_toArray, List.set_cons_succ, List.set_cons_zero] at ha; subst ha
                      refine wt_take 6 rfl (by kernel_rfl) (by kernel_rfl) (by kernel_rfl) (fun _ _ _ _ h => h) rfl hC ⟨_, fun w hw => by (go_simp; try with_reducible rfl), fun a1 ha => ?_⟩
                      simp only [Act.put, List.setIfInBounds_toArray, List.set_cons_succ, List.set_cons_zero] at ha; subst ha
                      refine wt_takeSlice 7 rfl (by kernel_rfl) (by kernel_rfl) (by kernel_rfl) (fun _ _ _ _ h => h) rfl hC rfl Tryd.underlying24 size3 rfl (0) (ln) (Or.inl ⟨rfl, rfl⟩) (Or.inr ⟨_, _, rfl, rfl⟩) (by omega) (by omega) (fun h => rfl) ?_
                      intro aoA haoA a1 ha; replace haoA := Lib.hid haoA
                      simp only [Act.put, List.setIfInBounds_toArray, List.set_cons_succ, List.set_cons_zero] at ha; subst ha
                      refine wt_one 8 (by kernel_rfl) ?_
                      refine wt_callU hs rfl rfl (by go_simp) 2 rfl (HP1.out _ _ _ _ _ _ _ (ln + 20) lb 0 _ haoA.out (lent_ints (hs.getB 0 rfl) hsz haoA.out I.out.wf).rd (fun _ => blk_apart hs 0 2 (by decide) rfl rfl) (hs.get 2 rfl)) (by simp only [Act.put, List.setIfInBounds_toArray, List.set_cons_succ, List.set_cons_zero]; rfl) ?_
                      clear hs; intro w1 hs
                      refine wt_and (hs.sub (by repeat (first | exact List.Sublist.refl _ | refine List.Sublist.cons_cons _ ?_ | refine List.Sublist.cons _ ?_))) fun hC => ?_
                      refine wt_take 9 rfl (by kernel_rfl) (by kernel_rfl) (by kernel_rfl) (fun _ _ _ _ h => h) rfl hC ⟨_, fun w hw => by (go_simp; try with_reducible rfl), fun a1 ha => ?_⟩
                      simp only [Act.put, List.setIfInBounds_toArray, List.set_cons_succ, List.set_cons_zero] at ha; subst ha
                      refine wt_done (by kernel_rfl) ?_
                      skip
                      clear hC
                      go_upto_region 39 with (first | ((with_reducible refine at_load rfl ?_); refine wl_load1 hs rfl rfl Tryd.underlying24 rfl rfl 1 rfl rfl ?_) | (go_at_call 12; refine (kept_any lb la ln lc db1 do1 lg _ hsz I.out.ao (I.out.rd.keep hs) (hs.rd0 0 rfl (Nat.le_refl _))).mono ?_; rintro e w2 ⟨rfl, hc⟩; replace hs := hs.call0 hc; clear hc))
                      go_upto_region 40 with (first | (go_at_call 14; refine (spoil_any lb (ln + 20) (lentF lg ln) _ (by omega) (hs.getB 0 rfl)).mono ?_; rintro e w2 ⟨rfl, hc⟩; replace hs := hs.updB 0 rfl hc; clear hc))
                      refine wt_enterS (List.Sublist.cons_cons _ (List.Sublist.cons_cons _ (List.Sublist.cons_cons _ (List.Sublist.cons _ (List.Sublist.refl _))))) 12 rfl hs (by kernel_rfl) ?_
                      clear hs; intro w1 hC hs
                      refine wt_take 0 rfl (by kernel_rfl) (by kernel_rfl) (by kernel_rfl) (fun _ _ _ _ h => h) rfl hC ⟨_, fun w hw => by (go_simp; try with_reducible rfl), fun a1 ha => ?_⟩
                      simp only [Act.put, List.setIfInBounds_toArray, List.set_cons_succ, List.set_cons_zero] at ha; subst ha
                      refine wt_take 1 rfl (by kernel_rfl) (by kernel_rfl) (by kernel_rfl) (fun _ _ _ _ h => h) rfl hC ⟨_, fun w hw => by (go_simp; try with_reducible rfl), fun a1 ha => ?_⟩
                      simp only [Act.put, List.setIfInBounds_toArray, List.set_cons_succ, List.set_cons_zero] at ha; subst ha
                      refine wt_take 2 rfl (by kernel_rfl) (by kernel_rfl) (by kernel_rfl) (fun _ _ _ _ h => h) rfl hC ⟨_, fun w hw => by (go_simp; try with_reducible rfl), fun a1 ha => ?_⟩
                      simp only [Act.put, List.setIfInBounds_toArray, List.set_cons_succ, List.set_cons_zero] at ha; subst ha
                      refine wt_take 3 rfl (by kernel_rfl) (by kernel_rfl) (by kernel_rfl) (fun _ _ _ _ h => h) rfl hC ⟨_, fun w hw => by (go_simp; try with_reducible rfl), fun a1 ha => ?_⟩
                      simp only [Act.put, List.setIfInBounds_toArray, List.set_cons_succ, List.set_cons_zero] at ha; subst ha
                      refine wt_take 4 rfl (by kernel_rfl) (by kernel_rfl) (by kernel_rfl) (fun _ _ _ _ h => h) rfl hC ⟨.pointer (some ⟨rA, kk, none⟩), fun w hw => ex_indexA1 rfl Tryd.underlying53 size34 rfl rfl kk rfl hkk, fun a1 ha => ?_⟩
                      simp only [Act.put, List.setIfInBounds_toArray, List.set_cons_succ, List.set_cons_zero] at ha; subst ha
                      refine wt_take 5 rfl (by kernel_rfl) (by kernel_rfl) (by kernel_rfl) (fun _ _ _ _ h => h) rfl hC ⟨.pointer (some ⟨(A kk).rp, 0, none⟩), fun w hw => ex_load1 rfl Tryd.underlying34 rfl rfl (by rw [cell_of_row w _ _ _ _ (0, 0) (hw.getB 6 rfl)]; exact rowOf_get hkk), fun a1 ha => ?_⟩
                      simp only [Act.put, List.setIfInBounds_toArray, List.set_cons_succ, List.set_cons_zero] at ha; subst ha
                      refine wt_take 6 rfl (by kernel_rfl) (by kernel_rfl) (by kernel_rfl) (fun _ _ _ _ h => h) rfl hC ⟨_, fun w hw => by (go_simp; try with_reducible rfl), fun a1 ha => ?_⟩
                      simp only [Act.put, List.setIfInBounds_toArray, List.set_cons_succ, List.set_cons_zero] at ha; subst ha
                      refine wt_take 7 rfl (by kernel_rfl) (by kernel_rfl) (by kernel_rfl) (fun _ _ _ _ h => h) rfl hC ⟨_, fun w hw => ex_load1 rfl Tryd.underlying24 rfl rfl (by rw [cell_of_row w _ _ _ _ (0, 0) (hw.getB 1 rfl)]; rfl), fun a1 ha => ?_⟩
                      simp only [Act.put, List.setIfInBounds_toArray, List.set_cons_succ, List.set_cons_zero] at ha; subst ha
                      refine wt_one 8 (by kernel_rfl) ?_
                      refine wt_callU hs rfl rfl (by go_simp) 3 rfl (HP2.out _ _ _ _ lc db1 do1 _ I.out.ao (I.out.rd.keep hs) (fun h0 => fresh_foot hs 3 rfl (Ints.lt I.out h0)) (hs.get 3 rfl)) (by simp only [Act.put, List.setIfInBounds_toArray, List.set_cons_succ, List.set_cons_zero]; rfl) ?_
                      clear hs; intro w1 hs
                      refine wt_and (hs.sub (by repeat (first | exact List.Sublist.refl _ | refine List.Sublist.cons_cons _ ?_ | refine List.Sublist.cons _ ?_))) fun hC => ?_
                      refine wt_take 9 rfl (by kernel_rfl) (by kernel_rfl) (by kernel_rfl) (fun _ _ _ _ h => h) rfl hC ⟨_, fun w hw => by (go_simp; try with_reducible rfl), fun a1 ha => ?_⟩
                      simp only [Act.put, List.setIfInBounds_toArray, List.set_cons_succ, List.set_cons_zero] at ha; subst ha
                      refine wt_take 10 rfl (by kernel_rfl) (by kernel_rfl) (by kernel_rfl) (fun _ _ _ _ h => h) rfl hC ⟨_, fun w hw => by (go_simp; try with_reducible rfl), fun a1 ha => ?_⟩
                      simp only [Act.put, List.setIfInBounds_toArray, List.set_cons_succ, List.set_cons_zero] at ha; subst ha
                      refine wt_take 11 rfl (by kernel_rfl) (by kernel_rfl) (by kernel_rfl) (fun _ _ _ _ h => h) rfl hC ⟨_, fun w hw => by (go_simp; try with_reducible rfl), fun a1 ha => ?_⟩
                      simp only [Act.put, List.setIfInBounds_toArray, List.set_cons_succ, List.set_cons_zero] at ha; subst ha
                      refine wt_done (by kernel_rfl) ?_
                      skip
                      clear hC HP1 HP2
                      go_upto_region 44 with fail
                      have hi2 := inv_set (k := kk) (b := B') (i := (IN kk)) HINV.out hinv1
                      replace hs := unpick2 kk hkk ((hs.erase 0).erase 0)
                      clear HINV hinv1
                      generalize setK B kk B' = B2 at *
                      generalize setK IN kk (IN kk) = I2 at *
                      obtain ⟨ra0, rb0, rc0, HM0⟩ := play_room HMAY.out (hi2 0)
                      obtain ⟨ra1, rb1, rc1, HM1⟩ := play_room HMAY.out (hi2 1)
                      replace HM0 := Lib.hid HM0
                      replace HM1 := Lib.hid HM1
                      refine wt_enter 20 rfl hs (by kernel_rfl) ?_
                      clear hs; intro w1 hs; have hC := hs
                      refine wt_take 0 rfl (by kernel_rfl) (by kernel_rfl) (by kernel_rfl) (fun _ _ _ _ h => h) rfl hC ⟨_, fun w hw => by (go_simp; try with_reducible rfl), fun a1 ha => ?_⟩
                      simp only [Act.put, List.setIfInBounds_toArray, List.set_cons_succ, List.set_cons_zero] at ha; subst ha
                      refine wt_take 1 rfl (by kernel_rfl) (by kernel_rfl) (by kernel_rfl) (fun _ _ _ _ h => h) rfl hC ⟨_, fun w hw => by (go_simp; try with_reducible rfl), fun a1 ha => ?_⟩
                      simp only [Act.put, List.setIfInBounds_toArray, List.set_cons_succ, List.set_cons_zero] at ha; subst ha
                      refine wt_take 2 rfl (by kernel_rfl) (by kernel_rfl) (by kernel_rfl) (fun _ _ _ _ h => h) rfl hC ⟨_, fun w hw => by (go_simp; try with_reducible rfl), fun a1 ha => ?_⟩
                      simp only [Act.put, List.setIfInBounds_toArray, List.set_cons_succ, List.set_cons_zero] at ha; subst ha
                      refine wt_take 3 rfl (by kernel_rfl) (by kernel_rfl) (by kernel_rfl) (fun _ _ _ _ h => h) rfl hC ⟨.pointer (some ⟨sA, 0, none⟩), fun w hw => ex_indexA1 rfl Tryd.underlying52 size29 rfl rfl 0 rfl (by omega), fun a1 ha => ?_⟩
                      simp only [Act.put, List.setIfInBounds_toArray, List.set_cons_succ, List.set_cons_zero] at ha; subst ha
                      refine wt_take 4 rfl (by kernel_rfl) (by kernel_rfl) (by kernel_rfl) (fun _ _ _ _ h => h) rfl hC ⟨.pointer (some ⟨(A 0).p, 0, none⟩), fun w hw => ex_load1 rfl Tryd.underlying29 rfl rfl (by rw [cell_of_row w _ _ _ _ (0, 0) (hw.getB 4 rfl)]; exact rowOf_get (by omega)), fun a1 ha => ?_⟩
                      simp only [Act.put, List.setIfInBounds_toArray, List.set_cons_succ, List.set_cons_zero] at ha; subst ha
                      refine wt_take 6 rfl (by kernel_rfl) (by kernel_rfl) (by kernel_rfl) (fun _ _ _ _ h => h) rfl hC ⟨.pointer (some ⟨rA, 0, none⟩), fun w hw => ex_indexA1 rfl Tryd.underlying53 size34 rfl rfl 0 rfl (by omega), fun a1 ha => ?_⟩
                      simp only [Act.put, List.setIfInBounds_toArray, List.set_cons_succ, List.set_cons_zero] at ha; subst ha
                      refine wt_take 7 rfl (by kernel_rfl) (by kernel_rfl) (by kernel_rfl) (fun _ _ _ _ h => h) rfl hC ⟨.pointer (some ⟨(A 0).rp, 0, none⟩), fun w hw => ex_load1 rfl Tryd.underlying34 rfl rfl (by rw [cell_of_row w _ _ _ _ (0, 0) (hw.getB 5 rfl)]; exact rowOf_get (by omega)), fun a1 ha => ?_⟩
                      simp only [Act.put, List.setIfInBounds_toArray, List.set_cons_succ, List.set_cons_zero] at ha; subst ha
                      refine wt_one 5 (by kernel_rfl) ?_
                      refine wt_callU hs rfl rfl (by go_simp) 0 rfl (HM0.out.s _ _ _ _ _ _ _ (HR.out.keep hs) (hs.get 0 rfl)) (by simp only [Act.put, List.setIfInBounds_toArray, List.set_cons_succ, List.set_cons_zero]; rfl) ?_
                      clear hs; intro w1 hs
                      refine wt_and (hs.sub (by repeat (first | exact List.Sublist.refl _ | refine List.Sublist.cons_cons _ ?_ | refine List.Sublist.cons _ ?_))) fun hC => ?_
                      refine wt_one 8 (by kernel_rfl) ?_
                      refine wt_callU hs rfl rfl (by go_simp) 1 rfl (HM0.out.r _ _ _ _ (hs.get 1 rfl)) (by simp only [Act.put, List.setIfInBounds_toArray, List.set_cons_succ, List.set_cons_zero]; rfl) ?_
                      clear hs; intro w1 hs
                      refine wt_and (hs.sub (by repeat (first | exact List.Sublist.refl _ | refine List.Sublist.cons_cons _ ?_ | refine List.Sublist.cons _ ?_))) fun hC => ?_
                      refine wt_take 9 rfl (by kernel_rfl) (by kernel_rfl) (by kernel_rfl) (fun _ _ _ _ h => h) rfl hC ⟨.bool false, fun w hw => by (go_simp; try simp), fun a1 ha => ?_⟩
                      simp only [Act.put, List.setIfInBounds_toArray, List.set_cons_succ, List.set_cons_zero] at ha; subst ha
                      refine wt_take 10 rfl (by kernel_rfl) (by kernel_rfl) (by kernel_rfl) (fun _ _ _ _ h => h) rfl hC ⟨_, fun w hw => by (go_simp; try with_reducible rfl), fun a1 ha => ?_⟩
                      simp only [Act.put, List.setIfInBounds_toArray, List.set_cons_succ, List.set_cons_zero] at ha; subst ha
                      refine wt_take 11 rfl (by kernel_rfl) (by kernel_rfl) (by kernel_rfl) (fun _ _ _ _ h => h) rfl hC ⟨_, fun w hw => by (go_simp; try with_reducible rfl), fun a1 ha => ?_⟩
                      simp only [Act.put, List.setIfInBounds_toArray, List.set_cons_succ, List.set_cons_zero] at ha; subst ha
                      refine wt_take 12 rfl (by kernel_rfl) (by kernel_rfl) (by kernel_rfl) (fun _ _ _ _ h => h) rfl hC ⟨.pointer (some ⟨sA, 1, none⟩), fun w hw => ex_indexA1 rfl Tryd.underlying52 size29 rfl rfl 1 rfl (by omega), fun a1 ha => ?_⟩
                      simp only [Act.put, List.setIfInBounds_toArray, List.set_cons_succ, List.set_cons_zero] at ha; subst ha
                      refine wt_take 13 rfl (by kernel_rfl) (by kernel_rfl) (by kernel_rfl) (fun _ _ _ _ h => h) rfl hC ⟨.pointer (some ⟨(A 1).p, 0, none⟩), fun w hw => ex_load1 rfl Tryd.underlying29 rfl rfl (by rw [cell_of_row w _ _ _ _ (0, 0) (hw.getB 4 rfl)]; exact rowOf_get (by omega)), fun a1 ha => ?_⟩
                      simp only [Act.put, List.setIfInBounds_toArray, List.set_cons_succ, List.set_cons_zero] at ha; subst ha
                      refine wt_take 15 rfl (by kernel_rfl) (by kernel_rfl) (by kernel_rfl) (fun _ _ _ _ h => h) rfl hC ⟨.pointer (some ⟨rA, 1, none⟩), fun w hw => ex_indexA1 rfl Tryd.underlying53 size34 rfl rfl 1 rfl (by omega), fun a1 ha => ?_⟩
                      simp only [Act.put, List.setIfInBounds_toArray, List.set_cons_succ, List.set_cons_zero] at ha; subst ha
                      refine wt_take 16 rfl (by kernel_rfl) (by kernel_rfl) (by kernel_rfl) (fun _ _ _ _ h => h) rfl hC ⟨.pointer (some ⟨(A 1).rp, 0, none⟩), fun w hw => ex_load1 rfl Tryd.underlying34 rfl rfl (by rw [cell_of_row w _ _ _ _ (0, 0) (hw.getB 5 rfl)]; exact rowOf_get (by omega)), fun a1 ha => ?_⟩
                      simp only [Act.put, List.setIfInBounds_toArray, List.set_cons_succ, List.set_cons_zero] at ha; subst ha
                      refine wt_one 14 (by kernel_rfl) ?_
                      refine wt_callU hs rfl rfl (by go_simp) 2 rfl (HM1.out.s _ _ _ _ _ _ _ (HR.out.keep hs) (hs.get 2 rfl)) (by simp only [Act.put, List.setIfInBounds_toArray, List.set_cons_succ, List.set_cons_zero]; rfl) ?_
                      clear hs; intro w1 hs
                      refine wt_and (hs.sub (by repeat (first | exact List.Sublist.refl _ | refine List.Sublist.cons_cons _ ?_ | refine List.Sublist.cons _ ?_))) fun hC => ?_
                      refine wt_one 17 (by kernel_rfl) ?_
                      refine wt_callU hs rfl rfl (by go_simp) 3 rfl (HM1.out.r _ _ _ _ (hs.get 3 rfl)) (by simp only [Act.put, List.setIfInBounds_toArray, List.set_cons_succ, List.set_cons_zero]; rfl) ?_
                      clear hs; intro w1 hs
                      refine wt_and (hs.sub (by repeat (first | exact List.Sublist.refl _ | refine List.Sublist.cons_cons _ ?_ | refine List.Sublist.cons _ ?_))) fun hC => ?_
                      refine wt_take 18 rfl (by kernel_rfl) (by kernel_rfl) (by kernel_rfl) (fun _ _ _ _ h => h) rfl hC ⟨.bool false, fun w hw => by (go_simp; try simp), fun a1 ha => ?_⟩
                      simp only [Act.put, List.setIfInBounds_toArray, List.set_cons_succ, List.set_cons_zero] at ha; subst ha
                      refine wt_take 19 rfl (by kernel_rfl) (by kernel_rfl) (by kernel_rfl) (fun _ _ _ _ h => h) rfl hC ⟨_, fun w hw => by (go_simp; try with_reducible rfl), fun a1 ha => ?_⟩
                      simp only [Act.put, List.setIfInBounds_toArray, List.set_cons_succ, List.set_cons_zero] at ha; subst ha
                      refine wt_done (by kernel_rfl) ?_
                      skip
                      clear hC HM0 HM1
                      go_wp2
                      go_roundw
                      case rel => exact ⟨k + 1, B2, I2, by omega, by go_num, hi2, hs⟩
                      case measure => simp [intOf]; omega
                  ·
                    by_cases c6 : c = 6
                    · subst c6
                      clear c1 c2 c3 c4 c5
                      as_aux_lemma =>
                        have hinv1 := HINV.out kk
                        have HP := Lib.hid (play_used (B := B kk) (I := IN kk) HMAY.out pt)
                        generalize usedI m (IN kk) pt = z at HP
                        go_upto_region 42 with (first
                            | ((with_reducible refine (at_load (t := 55)) rfl ?_); refine wl_load4 rfl rfl Tryd.underlying55 rfl size55 rfl (hs.keepCell Q0.out) (hs.keepCell Q1.out) (hs.keepCell Q2.out) (hs.keepCell Q3.out) ?_)
                            | ((with_reducible refine (at_alloc (t := 55)) rfl ?_); refine wl_allocA hs rfl rfl zero55 ?_; clear hs; intro w1 ob hs)
                            | ((with_reducible refine at_store rfl ?_); refine wl_storeA hs rfl rfl rfl rfl size55 (by simp [Value.oneCell']) 0 rfl rfl ?_; clear hs; intro w1 hs)
                            | ((with_reducible refine at_load rfl ?_); refine wl_load1 hs rfl rfl Tryd.underlying3 rfl rfl 0 rfl rfl ?_)
                            | (go_at_call 22; refine (HPK.out _).mono ?_; rintro e1 w2 ⟨rfl, rfl⟩))
                        refine wt_enterS (List.Sublist.cons_cons _ (List.Sublist.cons _ (List.Sublist.refl _))) 7 rfl hs (by kernel_rfl) ?_
                        clear hs; intro w1 hC hs
                        refine wt_take 0 rfl (by kernel_rfl) (by kernel_rfl) (by kernel_rfl) (fun _ _ _ _ h => h) rfl hC ⟨_, fun w hw => by (go_simp; try with_reducible rfl), fun a1 ha => ?_⟩
                        simp only [Act.put, List.setIfInBounds_toArray, List.set_cons_succ, List.set_cons_zero] at ha; subst ha
                        refine wt_take 1 rfl (by kernel_rfl) (by kernel_rfl) (by kernel_rfl) (fun _ _ _ _ h => h) rfl hC ⟨.pointer (some ⟨sA, kk, none⟩), fun w hw => ex_indexA1 rfl Tryd.underlying52 size29 rfl rfl kk rfl hkk, fun a1 ha => ?_⟩
                        simp only [Act.put, List.setIfInBounds_toArray, List.set_cons_succ, List.set_cons_zero] at ha; subst ha
                        refine wt_take 2 rfl (by kernel_rfl) (by kernel_rfl) (by kernel_rfl) (fun _ _ _ _ h => h) rfl hC ⟨.pointer (some ⟨(A kk).p, 0, none⟩), fun w hw => ex_load1 rfl Tryd.underlying29 rfl rfl (by rw [cell_of_row w _ _ _ _ (0, 0) (hw.getB 4 rfl)]; exact rowOf_get hkk), fun a1 ha => ?_⟩
                        simp only [Act.put, List.setIfInBounds_toArray, List.set_cons_succ, List.set_cons_zero] at ha; subst ha
                        refine wt_take 3 rfl (by kernel_rfl) (by kernel_rfl) (by kernel_rfl) (fun _ _ _ _ h => h) rfl hC ⟨_, fun w hw => by (go_simp; try with_reducible rfl), fun a1 ha => ?_⟩
                        simp only [Act.put, List.setIfInBounds_toArray, List.set_cons_succ, List.set_cons_zero] at ha; subst ha
                        refine wt_take 4 rfl (by kernel_rfl) (by kernel_rfl) (by kernel_rfl) (fun _ _ _ _ h => h) rfl hC ⟨_, fun w hw => ex_load1 rfl Tryd.underlying3 rfl rfl (by rw [cell_of_row w _ _ _ _ (0, 0) (hw.getB 0 rfl)]; rfl), fun a1 ha => ?_⟩
                        simp only [Act.put, List.setIfInBounds_toArray, List.set_cons_succ, List.set_cons_zero] at ha; subst ha
                        refine wt_one 5 (by kernel_rfl) ?_
                        refine wt_callU hs rfl rfl (by go_simp) 1 rfl (HP.out.s _ _ _ _ _ _ _ (HR.out.keep hs) (hs.get 1 rfl)) (by simp only [Act.put, List.setIfInBounds_toArray, List.set_cons_succ, List.set_cons_zero]; rfl) ?_
                        clear hs; intro w1 hs
                        refine wt_and (hs.sub (by repeat (first | exact List.Sublist.refl _ | refine List.Sublist.cons_cons _ ?_ | refine List.Sublist.cons _ ?_))) fun hC => ?_
                        refine wt_take 6 rfl (by kernel_rfl) (by kernel_rfl) (by kernel_rfl) (fun _ _ _ _ h => h) rfl hC ⟨_, fun w hw => by (go_simp; try with_reducible rfl), fun a1 ha => ?_⟩
                        simp only [Act.put, List.setIfInBounds_toArray, List.set_cons_succ, List.set_cons_zero] at ha; subst ha
                        refine wt_done (by kernel_rfl) ?_
                        skip
                        clear hC
                        go_upto_region 43 with fail
                        refine wt_enterS (List.Sublist.cons_cons _ (List.Sublist.cons_cons _ (List.Sublist.cons _ (List.Sublist.refl _)))) 9 rfl hs (by kernel_rfl) ?_
                        clear hs; intro w1 hC hs
                        refine wt_take 0 rfl (by kernel_rfl) (by kernel_rfl) (by kernel_rfl) (fun _ _ _ _ h => h) rfl hC ⟨_, fun w hw => by (go_simp; try with_reducible rfl), fun a1 ha => ?_⟩
                        simp only [Act.put, List.setIfInBounds_toArray, List.set_cons_succ, List.set_cons_zero] at ha; subst ha
                        refine wt_take 1 rfl (by kernel_rfl) (by kernel_rfl) (by kernel_rfl) (fun _ _ _ _ h => h) rfl hC ⟨_, fun w hw => by (go_simp; try with_reducible rfl), fun a1 ha => ?_⟩
                        simp only [Act.put, List.setIfInBounds_toArray, List.set_cons_succ, List.set_cons_zero] at ha; subst ha
                        refine wt_take 2 rfl (by kernel_rfl) (by kernel_rfl) (by kernel_rfl) (fun _ _ _ _ h => h) rfl hC ⟨.pointer (some ⟨rA, kk, none⟩), fun w hw => ex_indexA1 rfl Tryd.underlying53 size34 rfl rfl kk rfl hkk, fun a1 ha => ?_⟩
                        simp only [Act.put, List.setIfInBounds_toArray, List.set_cons_succ, List.set_cons_zero] at ha; subst ha
                        refine wt_take 3 rfl (by kernel_rfl) (by kernel_rfl) (by kernel_rfl) (fun _ _ _ _ h => h) rfl hC ⟨.pointer (some ⟨(A kk).rp, 0, none⟩), fun w hw => ex_load1 rfl Tryd.underlying34 rfl rfl (by rw [cell_of_row w _ _ _ _ (0, 0) (hw.getB 5 rfl)]; exact rowOf_get hkk), fun a1 ha => ?_⟩
                        simp only [Act.put, List.setIfInBounds_toArray, List.set_cons_succ, List.set_cons_zero] at ha; subst ha
                        refine wt_take 4 rfl (by kernel_rfl) (by kernel_rfl) (by kernel_rfl) (fun _ _ _ _ h => h) rfl hC ⟨_, fun w hw => by (go_simp; try with_reducible rfl), fun a1 ha => ?_⟩
                        simp only [Act.put, List.setIfInBounds_toArray, List.set_cons_succ, List.set_cons_zero] at ha; subst ha
                        refine wt_take 5 rfl (by kernel_rfl) (by kernel_rfl) (by kernel_rfl) (fun _ _ _ _ h => h) rfl hC ⟨_, fun w hw => ex_load1 rfl Tryd.underlying3 rfl rfl (by rw [cell_of_row w _ _ _ _ (0, 0) (hw.getB 0 rfl)]; rfl), fun a1 ha => ?_⟩
                        simp only [Act.put, List.setIfInBounds_toArray, List.set_cons_succ, List.set_cons_zero] at ha; subst ha
                        refine wt_one 6 (by kernel_rfl) ?_
                        refine wt_callU hs rfl rfl (by go_simp) 2 rfl (HP.out.r _ _ _ _ (hs.get 2 rfl)) (by simp only [Act.put, List.setIfInBounds_toArray, List.set_cons_succ, List.set_cons_zero]; rfl) ?_
                        clear hs; intro w1 hs
                        refine wt_and (hs.sub (by repeat (first | exact List.Sublist.refl _ | refine List.Sublist.cons_cons _ ?_ | refine List.Sublist.cons _ ?_))) fun hC => ?_
                        refine wt_take 7 rfl (by kernel_rfl) (by kernel_rfl) (by kernel_rfl) (fun _ _ _ _ h => h) rfl hC ⟨_, fun w hw => by (go_simp; try with_reducible rfl), fun a1 ha => ?_⟩
                        simp only [Act.put, List.setIfInBounds_toArray, List.set_cons_succ, List.set_cons_zero] at ha; subst ha
                        refine wt_take 8 rfl (by kernel_rfl) (by kernel_rfl) (by kernel_rfl) (fun _ _ _ _ h => h) rfl hC ⟨_, fun w hw => by (go_simp; try with_reducible rfl), fun a1 ha => ?_⟩
                        simp only [Act.put, List.setIfInBounds_toArray, List.set_cons_succ, List.set_cons_zero] at ha; subst ha
                        refine wt_done (by kernel_rfl) ?_
                        skip
                        clear hC HP
                        go_upto_region 44 with fail
                        have hi2 := inv_set (k := kk) (b := (B kk)) (i := (IN kk)) HINV.out hinv1
                        replace hs := unpick2 kk hkk (hs.erase 0)
                        clear HINV hinv1
                        generalize setK B kk (B kk) = B2 at *
                        generalize setK IN kk (IN kk) = I2 at *
                        obtain ⟨ra0, rb0, rc0, HM0⟩ := play_room HMAY.out (hi2 0)
                        obtain ⟨ra1, rb1, rc1, HM1⟩ := play_room HMAY.out (hi2 1)
                        replace HM0 := Lib.hid HM0
                        replace HM1 := Lib.hid HM1
                        refine wt_enter 20 rfl hs (by kernel_rfl) ?_
                        clear hs; intro w1 hs; have hC := hs
                        refine wt_take 0 rfl (by kernel_rfl) (by kernel_rfl) (by kernel_rfl) (fun _ _ _ _ h => h) rfl hC ⟨_, fun w hw => by (go_simp; try with_reducible rfl), fun a1 ha => ?_⟩
                        simp only [Act.put, List.setIfInBounds_toArray, List.set_cons_succ, List.set_cons_zero] at ha; subst ha
                        refine wt_take 1 rfl (by kernel_rfl) (by kernel_rfl) (by kernel_rfl) (fun _ _ _ _ h => h) rfl hC ⟨_, fun w hw => by (go_simp; try with_reducible rfl), fun a1 ha => ?_⟩
                        simp only [Act.put, List.setIfInBounds_toArray, List.set_cons_succ, List.set_cons_zero] at ha; subst ha
                        refine wt_take 2 rfl (by kernel_rfl) (by kernel_rfl) (by kernel_rfl) (fun _ _ _ _ h => h) rfl hC ⟨_, fun w hw => by (go_simp; try with_reducible rfl), fun a1 ha => ?_⟩
                        simp only [Act.put, List.setIfInBounds_toArray, List.set_cons_succ, List.set_cons_zero] at ha; subst ha
                        refine wt_take 3 rfl (by kernel_rfl) (by kernel_rfl) (by kernel_rfl) (fun _ _ _ _ h => h) rfl hC ⟨.pointer (some ⟨sA, 0, none⟩), fun w hw => ex_indexA1 rfl Tryd.underlying52 size29 rfl rfl 0 rfl (by omega), fun a1 ha => ?_⟩
                        simp only [Act.put, List.setIfInBounds_toArray, List.set_cons_succ, List.set_cons_zero] at ha; subst ha
                        refine wt_take 4 rfl (by kernel_rfl) (by kernel_rfl) (by kernel_rfl) (fun _ _ _ _ h => h) rfl hC ⟨.pointer (some ⟨(A 0).p, 0, none⟩), fun w hw => ex_load1 rfl Tryd.underlying29 rfl rfl (by rw [cell_of_row w _ _ _ _ (0, 0) (hw.getB 4 rfl)]; exact rowOf_get (by omega)), fun a1 ha => ?_⟩
                        simp only [Act.put, List.setIfInBounds_toArray, List.set_cons_succ, List.set_cons_zero] at ha; subst ha
                        refine wt_take 6 rfl (by kernel_rfl) (by kernel_rfl) (by kernel_rfl) (fun _ _ _ _ h => h) rfl hC ⟨.pointer (some ⟨rA, 0, none⟩), fun w hw => ex_indexA1 rfl Tryd.underlying53 size34 rfl rfl 0 rfl (by omega), fun a1 ha => ?_⟩
                        simp only [Act.put, List.setIfInBounds_toArray, List.set_cons_succ, List.set_cons_zero] at ha; subst ha
                        refine wt_take 7 rfl (by kernel_rfl) (by kernel_rfl) (by kernel_rfl) (fun _ _ _ _ h => h) rfl hC ⟨.pointer (some ⟨(A 0).rp, 0, none⟩), fun w hw => ex_load1 rfl Tryd.underlying34 rfl rfl (by rw [cell_of_row w _ _ _ _ (0, 0) (hw.getB 5 rfl)]; exact rowOf_get (by omega)), fun a1 ha => ?_⟩
                        simp only [Act.put, List.setIfInBounds_toArray, List.set_cons_succ, List.set_cons_zero] at ha; subst ha
                        refine wt_one 5 (by kernel_rfl) ?_
                        refine wt_callU hs rfl rfl (by go_simp) 0 rfl (HM0.out.s _ _ _ _ _ _ _ (HR.out.keep hs) (hs.get 0 rfl)) (by simp only [Act.put, List.setIfInBounds_toArray, List.set_cons_succ, List.set_cons_zero]; rfl) ?_
                        clear hs; intro w1 hs
                        refine wt_and (hs.sub (by repeat (first | exact List.Sublist.refl _ | refine List.Sublist.cons_cons _ ?_ | refine List.Sublist.cons _ ?_))) fun hC => ?_
                        refine wt_one 8 (by kernel_rfl) ?_
                        refine wt_callU hs rfl rfl (by go_simp) 1 rfl (HM0.out.r _ _ _ _ (hs.get 1 rfl)) (by simp only [Act.put, List.setIfInBounds_toArray, List.set_cons_succ, List.set_cons_zero]; rfl) ?_
                        clear hs; intro w1 hs
                        refine wt_and (hs.sub (by repeat (first | exact List.Sublist.refl _ | refine List.Sublist.cons_cons _ ?_ | refine List.Sublist.cons _ ?_))) fun hC => ?_
                        refine wt_take 9 rfl (by kernel_rfl) (by kernel_rfl) (by kernel_rfl) (fun _ _ _ _ h => h) rfl hC ⟨.bool false, fun w hw => by (go_simp; try simp), fun a1 ha => ?_⟩
                        simp only [Act.put, List.setIfInBounds_toArray, List.set_cons_succ, List.set_cons_zero] at ha; subst ha
                        refine wt_take 10 rfl (by kernel_rfl) (by kernel_rfl) (by kernel_rfl) (fun _ _ _ _ h => h) rfl hC ⟨_, fun w hw => by (go_simp; try with_reducible rfl), fun a1 ha => ?_⟩
                        simp only [Act.put, List.setIfInBounds_toArray, List.set_cons_succ, List.set_cons_zero] at ha; subst ha
                        refine wt_take 11 rfl (by kernel_rfl) (by kernel_rfl) (by kernel_rfl) (fun _ _ _ _ h => h) rfl hC ⟨_, fun w hw => by (go_simp; try with_reducible rfl), fun a1 ha => ?_⟩
                        simp only [Act.put, List.setIfInBounds_toArray, List.set_cons_succ, List.set_cons_zero] at ha; subst ha
                        refine wt_take 12 rfl (by kernel_rfl) (by kernel_rfl) (by kernel_rfl) (fun _ _ _ _ h => h) rfl hC ⟨.pointer (some ⟨sA, 1, none⟩), fun w hw => ex_indexA1 rfl Tryd.underlying52 size29 rfl rfl 1 rfl (by omega), fun a1 ha => ?_⟩
                        simp only [Act.put, List.setIfInBounds_toArray, List.set_cons_succ, List.set_cons_zero] at ha; subst ha
                        refine wt_take 13 rfl (by kernel_rfl) (by kernel_rfl) (by kernel_rfl) (fun _ _ _ _ h => h) rfl hC ⟨.pointer (some ⟨(A 1).p, 0, none⟩), fun w hw => ex_load1 rfl Tryd.underlying29 rfl rfl (by rw [cell_of_row w _ _ _ _ (0, 0) (hw.getB 4 rfl)]; exact rowOf_get (by omega)), fun a1 ha => ?_⟩
                        simp only [Act.put, List.setIfInBounds_toArray, List.set_cons_succ, List.set_cons_zero] at ha; subst ha
                        refine wt_take 15 rfl (by kernel_rfl) (by kernel_rfl) (by kernel_rfl) (fun _ _ _ _ h => h) rfl hC ⟨.pointer (some ⟨rA, 1, none⟩), fun w hw => ex_indexA1 rfl Tryd.underlying53 size34 rfl rfl 1 rfl (by omega), fun a1 ha => ?_⟩
                        simp only [Act.put, List.setIfInBounds_toArray, List.set_cons_succ, List.set_cons_zero] at ha; subst ha
                        refine wt_take 16 rfl (by kernel_rfl) (by kernel_rfl) (by kernel_rfl) (fun _ _ _ _ h => h) rfl hC ⟨.pointer (some ⟨(A 1).rp, 0, none⟩), fun w hw => ex_load1 rfl Tryd.underlying34 rfl rfl (by rw [cell_of_row w _ _ _ _ (0, 0) (hw.getB 5 rfl)]; exact rowOf_get (by omega)), fun a1 ha => ?_⟩
                        simp only [Act.put, List.setIfInBounds_toArray, List.set_cons_succ, List.set_cons_zero] at ha; subst ha
                        refine wt_one 14 (by kernel_rfl) ?_
                        refine wt_callU hs rfl rfl (by go_simp) 2 rfl (HM1.out.s _ _ _ _ _ _ _ (HR.out.keep hs) (hs.get 2 rfl)) (by simp only [Act.put, List.setIfInBounds_toArray, List.set_cons_succ, List.set_cons_zero]; rfl) ?_
                        clear hs; intro w1 hs
                        refine wt_and (hs.sub (by repeat (first | exact List.Sublist.refl _ | refine List.Sublist.cons_cons _ ?_ | refine List.Sublist.cons _ ?_))) fun hC => ?_
                        refine wt_one 17 (by kernel_rfl) ?_
                        refine wt_callU hs rfl rfl (by go_simp) 3 rfl (HM1.out.r _ _ _ _ (hs.get 3 rfl)) (by simp only [Act.put, List.setIfInBounds_toArray, List.set_cons_succ, List.set_cons_zero]; rfl) ?_
                        clear hs; intro w1 hs
                        refine wt_and (hs.sub (by repeat (first | exact List.Sublist.refl _ | refine List.Sublist.cons_cons _ ?_ | refine List.Sublist.cons _ ?_))) fun hC => ?_
                        refine wt_take 18 rfl (by kernel_rfl) (by kernel_rfl) (by kernel_rfl) (fun _ _ _ _ h => h) rfl hC ⟨.bool false, fun w hw => by (go_simp; try simp), fun a1 ha => ?_⟩
                        simp only [Act.put, List.setIfInBounds_toArray, List.set_cons_succ, List.set_cons_zero] at ha; subst ha
                        refine wt_take 19 rfl (by kernel_rfl) (by kernel_rfl) (by kernel_rfl) (fun _ _ _ _ h => h) rfl hC ⟨_, fun w hw => by (go_simp; try with_reducible rfl), fun a1 ha => ?_⟩
                        simp only [Act.put, List.setIfInBounds_toArray, List.set_cons_succ, List.set_cons_zero] at ha; subst ha
                        refine wt_done (by kernel_rfl) ?_
                        skip
                        clear hC HM0 HM1
                        go_wp2
                        go_roundw
                        case rel => exact ⟨k + 1, B2, I2, by omega, by go_num, hi2, hs⟩
                        case measure => simp [intOf]; omega
                    ·
                      have d1 : (c == 1) = false := by rw [beq_eq_false_iff_ne]; exact c1
                      have d2 : (c == 2) = false := by rw [beq_eq_false_iff_ne]; exact c2
                      have d3 : (c == 3) = false := by rw [beq_eq_false_iff_ne]; exact c3
                      have d4 : (c == 4) = false := by rw [beq_eq_false_iff_ne]; exact c4
                      have d5 : (c == 5) = false := by rw [beq_eq_false_iff_ne]; exact c5
                      have d6 : (c == 6) = false := by rw [beq_eq_false_iff_ne]; exact c6
                      clear c1 c2 c3 c4 c5 c6
                      as_aux_lemma =>
                        have hinv1 := HINV.out kk
                        go_upto_region 44 with (first
                            | ((with_reducible refine (at_load (t := 55)) rfl ?_); refine wl_load4 rfl rfl Tryd.underlying55 rfl size55 rfl (hs.keepCell Q0.out) (hs.keepCell Q1.out) (hs.keepCell Q2.out) (hs.keepCell Q3.out) ?_)
                            | ((with_reducible refine (at_alloc (t := 55)) rfl ?_); refine wl_allocA hs rfl rfl zero55 ?_; clear hs; intro w1 ob hs)
                            | ((with_reducible refine at_store rfl ?_); refine wl_storeA hs rfl rfl rfl rfl size55 (by simp [Value.oneCell']) 0 rfl rfl ?_; clear hs; intro w1 hs)
                            | ((with_reducible refine at_load rfl ?_); refine wl_load1 hs rfl rfl Tryd.underlying3 rfl rfl 0 rfl rfl ?_)
                            | (go_at_call 22; refine (HPK.out _).mono ?_; rintro e1 w2 ⟨rfl, rfl⟩))
                        have hi2 := inv_set (k := kk) (b := (B kk)) (i := (IN kk)) HINV.out hinv1
                        replace hs := unpick2 kk hkk (hs.erase 0)
                        clear HINV hinv1
                        generalize setK B kk (B kk) = B2 at *
                        generalize setK IN kk (IN kk) = I2 at *
                        obtain ⟨ra0, rb0, rc0, HM0⟩ := play_room HMAY.out (hi2 0)
                        obtain ⟨ra1, rb1, rc1, HM1⟩ := play_room HMAY.out (hi2 1)
                        replace HM0 := Lib.hid HM0
                        replace HM1 := Lib.hid HM1
                        refine wt_enter 20 rfl hs (by kernel_rfl) ?_
                        clear hs; intro w1 hs; have hC := hs
                        refine wt_take 0 rfl (by kernel_rfl) (by kernel_rfl) (by kernel_rfl) (fun _ _ _ _ h => h) rfl hC ⟨_, fun w hw => by (go_simp; try with_reducible rfl), fun a1 ha => ?_⟩
                        simp only [Act.put, List.setIfInBounds_toArray, List.set_cons_succ, List.set_cons_zero] at ha; subst ha
                        refine wt_take 1 rfl (by kernel_rfl) (by kernel_rfl) (by kernel_rfl) (fun _ _ _ _ h => h) rfl hC ⟨_, fun w hw => by (go_simp; try with_reducible rfl), fun a1 ha => ?_⟩
                        simp only [Act.put, List.setIfInBounds_toArray, List.set_cons_succ, List.set_cons_zero] at ha; subst ha
                        refine wt_take 2 rfl (by kernel_rfl) (by kernel_rfl) (by kernel_rfl) (fun _ _ _ _ h => h) rfl hC ⟨_, fun w hw => by (go_simp; try with_reducible rfl), fun a1 ha => ?_⟩
                        simp only [Act.put, List.setIfInBounds_toArray, List.set_cons_succ, List.set_cons_zero] at ha; subst ha
                        refine wt_take 3 rfl (by kernel_rfl) (by kernel_rfl) (by kernel_rfl) (fun _ _ _ _ h => h) rfl hC ⟨.pointer (some ⟨sA, 0, none⟩), fun w hw => ex_indexA1 rfl Tryd.underlying52 size29 rfl rfl 0 rfl (by omega), fun a1 ha => ?_⟩
                        simp only [Act.put, List.setIfInBounds_toArray, List.set_cons_succ, List.set_cons_zero] at ha; subst ha
                        refine wt_take 4 rfl (by kernel_rfl) (by kernel_rfl) (by kernel_rfl) (fun _ _ _ _ h => h) rfl hC ⟨.pointer (some ⟨(A 0).p, 0, none⟩), fun w hw => ex_load1 rfl Tryd.underlying29 rfl rfl (by rw [cell_of_row w _ _ _ _ (0, 0) (hw.getB 4 rfl)]; exact rowOf_get (by omega)), fun a1 ha => ?_⟩
                        simp only [Act.put, List.setIfInBounds_toArray, List.set_cons_succ, List.set_cons_zero] at ha; subst ha
                        refine wt_take 6 rfl (by kernel_rfl) (by kernel_rfl) (by kernel_rfl) (fun _ _ _ _ h => h) rfl hC ⟨.pointer (some ⟨rA, 0, none⟩), fun w hw => ex_indexA1 rfl Tryd.underlying53 size34 rfl rfl 0 rfl (by omega), fun a1 ha => ?_⟩
                        simp only [Act.put, List.setIfInBounds_toArray, List.set_cons_succ, List.set_cons_zero] at ha; subst ha
                        refine wt_take 7 rfl (by kernel_rfl) (by kernel_rfl) (by kernel_rfl) (fun _ _ _ _ h => h) rfl hC ⟨.pointer (some ⟨(A 0).rp, 0, none⟩), fun w hw => ex_load1 rfl Tryd.underlying34 rfl rfl (by rw [cell_of_row w _ _ _ _ (0, 0) (hw.getB 5 rfl)]; exact rowOf_get (by omega)), fun a1 ha => ?_⟩
                        simp only [Act.put, List.setIfInBounds_toArray, List.set_cons_succ, List.set_cons_zero] at ha; subst ha
                        refine wt_one 5 (by kernel_rfl) ?_
                        refine wt_callU hs rfl rfl (by go_simp) 0 rfl (HM0.out.s _ _ _ _ _ _ _ (HR.out.keep hs) (hs.get 0 rfl)) (by simp only [Act.put, List.setIfInBounds_toArray, List.set_cons_succ, List.set_cons_zero]; rfl) ?_
                        clear hs; intro w1 hs
                        refine wt_and (hs.sub (by repeat (first | exact List.Sublist.refl _ | refine List.Sublist.cons_cons _ ?_ | refine List.Sublist.cons _ ?_))) fun hC => ?_
                        refine wt_one 8 (by kernel_rfl) ?_
                        refine wt_callU hs rfl rfl (by go_simp) 1 rfl (HM0.out.r _ _ _ _ (hs.get 1 rfl)) (by simp only [Act.put, List.setIfInBounds_toArray, List.set_cons_succ, List.set_cons_zero]; rfl) ?_
                        clear hs; intro w1 hs
                        refine wt_and (hs.sub (by repeat (first | exact List.Sublist.refl _ | refine List.Sublist.cons_cons _ ?_ | refine List.Sublist.cons _ ?_))) fun hC => ?_
                        refine wt_take 9 rfl (by kernel_rfl) (by kernel_rfl) (by kernel_rfl) (fun _ _ _ _ h => h) rfl hC ⟨.bool false, fun w hw => by (go_simp; try simp), fun a1 ha => ?_⟩
                        simp only [Act.put, List.setIfInBounds_toArray, List.set_cons_succ, List.set_cons_zero] at ha; subst ha
                        refine wt_take 10 rfl (by kernel_rfl) (by kernel_rfl) (by kernel_rfl) (fun _ _ _ _ h => h) rfl hC ⟨_, fun w hw => by (go_simp; try with_reducible rfl), fun a1 ha => ?_⟩
                        simp only [Act.put, List.setIfInBounds_toArray, List.set_cons_succ, List.set_cons_zero] at ha; subst ha
                        refine wt_take 11 rfl (by kernel_rfl) (by kernel_rfl) (by kernel_rfl) (fun _ _ _ _ h => h) rfl hC ⟨_, fun w hw => by (go_simp; try with_reducible rfl), fun a1 ha => ?_⟩
                        simp only [Act.put, List.setIfInBounds_toArray, List.set_cons_succ, List.set_cons_zero] at ha; subst ha
                        refine wt_take 12 rfl (by kernel_rfl) (by kernel_rfl) (by kernel_rfl) (fun _ _ _ _ h => h) rfl hC ⟨.pointer (some ⟨sA, 1, none⟩), fun w hw => ex_indexA1 rfl Tryd.underlying52 size29 rfl rfl 1 rfl (by omega), fun a1 ha => ?_⟩
                        simp only [Act.put, List.setIfInBounds_toArray, List.set_cons_succ, List.set_cons_zero] at ha; subst ha
                        refine wt_take 13 rfl (by kernel_rfl) (by kernel_rfl) (by kernel_rfl) (fun _ _ _ _ h => h) rfl hC ⟨.pointer (some ⟨(A 1).p, 0, none⟩), fun w hw => ex_load1 rfl Tryd.underlying29 rfl rfl (by rw [cell_of_row w _ _ _ _ (0, 0) (hw.getB 4 rfl)]; exact rowOf_get (by omega)), fun a1 ha => ?_⟩
                        simp only [Act.put, List.setIfInBounds_toArray, List.set_cons_succ, List.set_cons_zero] at ha; subst ha
                        refine wt_take 15 rfl (by kernel_rfl) (by kernel_rfl) (by kernel_rfl) (fun _ _ _ _ h => h) rfl hC ⟨.pointer (some ⟨rA, 1, none⟩), fun w hw => ex_indexA1 rfl Tryd.underlying53 size34 rfl rfl 1 rfl (by omega), fun a1 ha => ?_⟩
                        simp only [Act.put, List.setIfInBounds_toArray, List.set_cons_succ, List.set_cons_zero] at ha; subst ha
                        refine wt_take 16 rfl (by kernel_rfl) (by kernel_rfl) (by kernel_rfl) (fun _ _ _ _ h => h) rfl hC ⟨.pointer (some ⟨(A 1).rp, 0, none⟩), fun w hw => ex_load1 rfl Tryd.underlying34 rfl rfl (by rw [cell_of_row w _ _ _ _ (0, 0) (hw.getB 5 rfl)]; exact rowOf_get (by omega)), fun a1 ha => ?_⟩
                        simp only [Act.put, List.setIfInBounds_toArray, List.set_cons_succ, List.set_cons_zero] at ha; subst ha
                        refine wt_one 14 (by kernel_rfl) ?_
                        refine wt_callU hs rfl rfl (by go_simp) 2 rfl (HM1.out.s _ _ _ _ _ _ _ (HR.out.keep hs) (hs.get 2 rfl)) (by simp only [Act.put, List.setIfInBounds_toArray, List.set_cons_succ, List.set_cons_zero]; rfl) ?_
                        clear hs; intro w1 hs
                        refine wt_and (hs.sub (by repeat (first | exact List.Sublist.refl _ | refine List.Sublist.cons_cons _ ?_ | refine List.Sublist.cons _ ?_))) fun hC => ?_
                        refine wt_one 17 (by kernel_rfl) ?_
                        refine wt_callU hs rfl rfl (by go_simp) 3 rfl (HM1.out.r _ _ _ _ (hs.get 3 rfl)) (by simp only [Act.put, List.setIfInBounds_toArray, List.set_cons_succ, List.set_cons_zero]; rfl) ?_
                        clear hs; intro w1 hs
                        refine wt_and (hs.sub (by repeat (first | exact List.Sublist.refl _ | refine List.Sublist.cons_cons _ ?_ | refine List.Sublist.cons _ ?_))) fun hC => ?_
                        refine wt_take 18 rfl (by kernel_rfl) (by kernel_rfl) (by kernel_rfl) (fun _ _ _ _ h => h) rfl hC ⟨.bool false, fun w hw => by (go_simp; try simp), fun a1 ha => ?_⟩
                        simp only [Act.put, List.setIfInBounds_toArray, List.set_cons_succ, List.set_cons_zero] at ha; subst ha
                        refine wt_take 19 rfl (by kernel_rfl) (by kernel_rfl) (by kernel_rfl) (fun _ _ _ _ h => h) rfl hC ⟨_, fun w hw => by (go_simp; try with_reducible rfl), fun a1 ha => ?_⟩
                        simp only [Act.put, List.setIfInBounds_toArray, List.set_cons_succ, List.set_cons_zero] at ha; subst ha
                        refine wt_done (by kernel_rfl) ?_
                        skip
                        clear hC HM0 HM1
                        go_wp2
                        go_roundw
                        case rel => exact ⟨k + 1, B2, I2, by omega, by go_num, hi2, hs⟩
                        case measure => simp [intOf]; omega
        · have hltI : ¬ (k : Int) < M := by omega
          as_aux_lemma =>
            go_wp2_with fail
            clear hltI
            go_loopw [34] (fun i wr => ∃ q : Int, -1 ≤ q ∧ q ≤ m + 2 ∧ i = .int .i64 q ∧ Tr w [] wr (prs A n m B IN 0 ++ prs A n m B IN 1 ++ ars sA rA xb n m A)) (fun i _ => ((m : Int) + 2 - intOf i).toNat)
            case atStart => exact ⟨-1, by omega, by omega, rfl, hs⟩
            case round =>
              clear hs
              obtain ⟨q, hq1, hq2, rfl, hs⟩ := hrel
              have hm5 := HMAY.out.2.2.2.1
              by_cases hq : q ≤ (m : Int) + 1
              · have HM0 := Lib.hid (play_used (n := n) (B := B 0) (I := IN 0) HMAY.out q)
                have HM1 := Lib.hid (play_used (n := n) (B := B 1) (I := IN 1) HMAY.out q)
                generalize usedI m (IN 0) q = z0 at HM0
                generalize usedI m (IN 1) q = z1 at HM1
                go_upto_region 49 with (first | ((with_reducible refine at_load rfl ?_); refine wl_load1 hs rfl rfl Tryd.underlying3 rfl rfl 6 rfl rfl ?_))
                refine wt_enter 20 rfl hs (by kernel_rfl) ?_
                clear hs; intro w1 hs; have hC := hs
                refine wt_take 0 rfl (by kernel_rfl) (by kernel_rfl) (by kernel_rfl) (fun _ _ _ _ h => h) rfl hC ⟨.pointer (some ⟨sA, 0, none⟩), fun w hw => ex_indexA1 rfl Tryd.underlying52 size29 rfl rfl 0 rfl (by omega), fun a1 ha => ?_⟩
                simp only [Act.put, List.setIfInBounds_toArray, List.set_cons_succ, List.set_cons_zero] at ha; subst ha
                refine wt_take 1 rfl (by kernel_rfl) (by kernel_rfl) (by kernel_rfl) (fun _ _ _ _ h => h) rfl hC ⟨.pointer (some ⟨(A 0).p, 0, none⟩), fun w hw => ex_load1 rfl Tryd.underlying29 rfl rfl (by rw [cell_of_row w _ _ _ _ (0, 0) (hw.getB 4 rfl)]; exact rowOf_get (by omega)), fun a1 ha => ?_⟩
                simp only [Act.put, List.setIfInBounds_toArray, List.set_cons_succ, List.set_cons_zero] at ha; subst ha
                refine wt_take 2 rfl (by kernel_rfl) (by kernel_rfl) (by kernel_rfl) (fun _ _ _ _ h => h) rfl hC ⟨_, fun w hw => by (go_simp; try with_reducible rfl), fun a1 ha => ?_⟩
                simp only [Act.put, List.setIfInBounds_toArray, List.set_cons_succ, List.set_cons_zero] at ha; subst ha
                refine wt_take 4 rfl (by kernel_rfl) (by kernel_rfl) (by kernel_rfl) (fun _ _ _ _ h => h) rfl hC ⟨.pointer (some ⟨rA, 0, none⟩), fun w hw => ex_indexA1 rfl Tryd.underlying53 size34 rfl rfl 0 rfl (by omega), fun a1 ha => ?_⟩
                simp only [Act.put, List.setIfInBounds_toArray, List.set_cons_succ, List.set_cons_zero] at ha; subst ha
                refine wt_take 5 rfl (by kernel_rfl) (by kernel_rfl) (by kernel_rfl) (fun _ _ _ _ h => h) rfl hC ⟨.pointer (some ⟨(A 0).rp, 0, none⟩), fun w hw => ex_load1 rfl Tryd.underlying34 rfl rfl (by rw [cell_of_row w _ _ _ _ (0, 0) (hw.getB 5 rfl)]; exact rowOf_get (by omega)), fun a1 ha => ?_⟩
                simp only [Act.put, List.setIfInBounds_toArray, List.set_cons_succ, List.set_cons_zero] at ha; subst ha
                refine wt_take 6 rfl (by kernel_rfl) (by kernel_rfl) (by kernel_rfl) (fun _ _ _ _ h => h) rfl hC ⟨_, fun w hw => by (go_simp; try with_reducible rfl), fun a1 ha => ?_⟩
                simp only [Act.put, List.setIfInBounds_toArray, List.set_cons_succ, List.set_cons_zero] at ha; subst ha
                refine wt_one 3 (by kernel_rfl) ?_
                refine wt_callU hs rfl rfl (by go_simp) 0 rfl (HM0.out.s _ _ _ _ _ _ _ (HR.out.keep hs) (hs.get 0 rfl)) (by simp only [Act.put, List.setIfInBounds_toArray, List.set_cons_succ, List.set_cons_zero]; rfl) ?_
                clear hs; intro w1 hs
                refine wt_and (hs.sub (by repeat (first | exact List.Sublist.refl _ | refine List.Sublist.cons_cons _ ?_ | refine List.Sublist.cons _ ?_))) fun hC => ?_
                refine wt_one 7 (by kernel_rfl) ?_
                refine wt_callU hs rfl rfl (by go_simp) 1 rfl (HM0.out.r _ _ _ _ (hs.get 1 rfl)) (by simp only [Act.put, List.setIfInBounds_toArray, List.set_cons_succ, List.set_cons_zero]; rfl) ?_
                clear hs; intro w1 hs
                refine wt_and (hs.sub (by repeat (first | exact List.Sublist.refl _ | refine List.Sublist.cons_cons _ ?_ | refine List.Sublist.cons _ ?_))) fun hC => ?_
                refine wt_take 8 rfl (by kernel_rfl) (by kernel_rfl) (by kernel_rfl) (fun _ _ _ _ h => h) rfl hC ⟨.bool false, fun w hw => by (go_simp; try simp), fun a1 ha => ?_⟩
                simp only [Act.put, List.setIfInBounds_toArray, List.set_cons_succ, List.set_cons_zero] at ha; subst ha
                refine wt_take 9 rfl (by kernel_rfl) (by kernel_rfl) (by kernel_rfl) (fun _ _ _ _ h => h) rfl hC ⟨_, fun w hw => by (go_simp; try with_reducible rfl), fun a1 ha => ?_⟩
                simp only [Act.put, List.setIfInBounds_toArray, List.set_cons_succ, List.set_cons_zero] at ha; subst ha
                refine wt_take 10 rfl (by kernel_rfl) (by kernel_rfl) (by kernel_rfl) (fun _ _ _ _ h => h) rfl hC ⟨.pointer (some ⟨sA, 1, none⟩), fun w hw => ex_indexA1 rfl Tryd.underlying52 size29 rfl rfl 1 rfl (by omega), fun a1 ha => ?_⟩
                simp only [Act.put, List.setIfInBounds_toArray, List.set_cons_succ, List.set_cons_zero] at ha; subst ha
                refine wt_take 11 rfl (by kernel_rfl) (by kernel_rfl) (by kernel_rfl) (fun _ _ _ _ h => h) rfl hC ⟨.pointer (some ⟨(A 1).p, 0, none⟩), fun w hw => ex_load1 rfl Tryd.underlying29 rfl rfl (by rw [cell_of_row w _ _ _ _ (0, 0) (hw.getB 4 rfl)]; exact rowOf_get (by omega)), fun a1 ha => ?_⟩
                simp only [Act.put, List.setIfInBounds_toArray, List.set_cons_succ, List.set_cons_zero] at ha; subst ha
                refine wt_take 12 rfl (by kernel_rfl) (by kernel_rfl) (by kernel_rfl) (fun _ _ _ _ h => h) rfl hC ⟨_, fun w hw => by (go_simp; try with_reducible rfl), fun a1 ha => ?_⟩
                simp only [Act.put, List.setIfInBounds_toArray, List.set_cons_succ, List.set_cons_zero] at ha; subst ha
                refine wt_take 14 rfl (by kernel_rfl) (by kernel_rfl) (by kernel_rfl) (fun _ _ _ _ h => h) rfl hC ⟨.pointer (some ⟨rA, 1, none⟩), fun w hw => ex_indexA1 rfl Tryd.underlying53 size34 rfl rfl 1 rfl (by omega), fun a1 ha => ?_⟩
                simp only [Act.put, List.setIfInBounds_toArray, List.set_cons_succ, List.set_cons_zero] at ha; subst ha
                refine wt_take 15 rfl (by kernel_rfl) (by kernel_rfl) (by kernel_rfl) (fun _ _ _ _ h => h) rfl hC ⟨.pointer (some ⟨(A 1).rp, 0, none⟩), fun w hw => ex_load1 rfl Tryd.underlying34 rfl rfl (by rw [cell_of_row w _ _ _ _ (0, 0) (hw.getB 5 rfl)]; exact rowOf_get (by omega)), fun a1 ha => ?_⟩
                simp only [Act.put, List.setIfInBounds_toArray, List.set_cons_succ, List.set_cons_zero] at ha; subst ha
                refine wt_take 16 rfl (by kernel_rfl) (by kernel_rfl) (by kernel_rfl) (fun _ _ _ _ h => h) rfl hC ⟨_, fun w hw => by (go_simp; try with_reducible rfl), fun a1 ha => ?_⟩
                simp only [Act.put, List.setIfInBounds_toArray, List.set_cons_succ, List.set_cons_zero] at ha; subst ha
                refine wt_one 13 (by kernel_rfl) ?_
                refine wt_callU hs rfl rfl (by go_simp) 2 rfl (HM1.out.s _ _ _ _ _ _ _ (HR.out.keep hs) (hs.get 2 rfl)) (by simp only [Act.put, List.setIfInBounds_toArray, List.set_cons_succ, List.set_cons_zero]; rfl) ?_
                clear hs; intro w1 hs
                refine wt_and (hs.sub (by repeat (first | exact List.Sublist.refl _ | refine List.Sublist.cons_cons _ ?_ | refine List.Sublist.cons _ ?_))) fun hC => ?_
                refine wt_one 17 (by kernel_rfl) ?_
                refine wt_callU hs rfl rfl (by go_simp) 3 rfl (HM1.out.r _ _ _ _ (hs.get 3 rfl)) (by simp only [Act.put, List.setIfInBounds_toArray, List.set_cons_succ, List.set_cons_zero]; rfl) ?_
                clear hs; intro w1 hs
                refine wt_and (hs.sub (by repeat (first | exact List.Sublist.refl _ | refine List.Sublist.cons_cons _ ?_ | refine List.Sublist.cons _ ?_))) fun hC => ?_
                refine wt_take 18 rfl (by kernel_rfl) (by kernel_rfl) (by kernel_rfl) (fun _ _ _ _ h => h) rfl hC ⟨.bool false, fun w hw => by (go_simp; try simp), fun a1 ha => ?_⟩
                simp only [Act.put, List.setIfInBounds_toArray, List.set_cons_succ, List.set_cons_zero] at ha; subst ha
                refine wt_take 19 rfl (by kernel_rfl) (by kernel_rfl) (by kernel_rfl) (fun _ _ _ _ h => h) rfl hC ⟨_, fun w hw => by (go_simp; try with_reducible rfl), fun a1 ha => ?_⟩
                simp only [Act.put, List.setIfInBounds_toArray, List.set_cons_succ, List.set_cons_zero] at ha; subst ha
                refine wt_done (by kernel_rfl) ?_
                skip
                clear hC
                go_wp2
                go_roundw
                case rel => exact ⟨q + 1, by omega, by omega, by go_num, hs⟩
                case measure => simp [intOf]; omega
              · have hq3 : (m : Int) + 1 < q := by omega
                go_wp2_with (first | ((with_reducible refine at_load rfl ?_); refine wl_load1 hs rfl rfl Tryd.underlying3 rfl rfl 6 rfl rfl ?_))
                go_ret
                exact ⟨rfl, hs.letgo⟩
theorem plays_walk (M cap : Nat) (x0 x1 : Int) (ao : Option Addr) (db doff : Nat) (w : World) (hM : M ≤ 9223372036854775807)
    (hao : 0 < M → ao = some ⟨db, doff, none⟩) (hO : Script w db doff M)
    (h0 : -9223372036854775808 ≤ x0 ∧ x0 ≤ 9223372036854775807) (h1 : -9223372036854775808 ≤ x1 ∧ x1 ≤ 9223372036854775807) (hR : Rd w 0 0 64 tabV) :
    Calls Tryd.prog 7 #[.int .i64 x0, .int .i64 x1, .slice ao M cap] w fun e w' => e = .returned (.bool true) ∧ Below w.heap.size w w' := by
  obtain ⟨n, m, hmay, HS⟩ := super_any x0 x1 h0 h1
  exact (plays_core n m M cap x0 x1 ao db doff w hmay hM hao hO (Lib.hid HS) hR).mono fun e w' ⟨he, ht⟩ => ⟨he, ht.below⟩
end Go.Proofs.YtfedfdcbhggipaaDoor
