/- The document's Need: what it answers. -/
import Derived.Test.YtdlnfdlgnbkppaaP3
namespace Go.Proofs.Ytdlnfdlgnbkppaa
set_option linter.unusedVariables false
set_option linter.unusedSimpArgs false
open Go Go.Sp Go.RowKit

theorem ret_pair {a b y : Int} (h : a = b) : Ending.returned (.tuple #[.int .i64 a, .int .i64 y]) = .returned (.tuple #[.int .i64 b, .int .i64 y]) := by rw [h]
set_option maxRecDepth 20000 in
set_option maxHeartbeats 2000000 in
theorem rneed_core (s : Src) (X : Nat → Int) (w : World) (h : s.In w) {ao : Option Addr} {N c db doff : Nat} {G : Nat → Int} (I : Ints w (.slice ao N c) ao N c db doff G)
    (g : Nat → Nat) (hg : ∀ k, k < N → G k = (g k : Int) ∧ g k < 1068) (FF FE : Nat → Int) (T : Nat → Int) (TE : Int) (HHF : Hid (∀ k : Nat, k < 1068 → ∀ w, s.In w → Calls Try.prog 17 #[.agg #[.slice s.ao s.N s.c, .int .i64 s.bad, .int .i64 s.code], .agg (rowOf 18 (gI X)), .int .i64 (k : Int)] w fun e w' => e = .returned (.tuple #[.int .i64 (FF k), .int .i64 (FE k)]) ∧ Tr w [] w' []))
    (HTT : Hid (∀ w, s.In w → Calls Try.prog 28 #[.agg #[.slice s.ao s.N s.c, .int .i64 s.bad, .int .i64 s.code], .int .i64 (X 17)] w fun e w' => e = .returned (.tuple #[.agg (rowOf 32 (gI T)), .int .i64 TE]) ∧ Tr w [] w' [])) (R E : Int)
    (hE : Hid (E = ndE FE g N)) (hR : Hid (ndE FE g N = 0 → R = ((cntP (finF (X 16) (X 17) T (holF FF g N)) 1102 : Nat) : Int))) (hR0 : Hid (ndE FE g N ≠ 0 → R = 0)) :
    Calls Try.prog 25 #[.agg #[.slice s.ao s.N s.c, .int .i64 s.bad, .int .i64 s.code], .agg (rowOf 18 (gI X)), .slice ao N c] w fun e w' => e = .returned (.tuple #[.int .i64 R, .int .i64 E]) ∧ Tr w [] w' [] := by
  have hs := Tr.refl w []
  have H := Lib.hid h
  have HI := Lib.hid I
  have HAO := Lib.hid I.ao
  have hmx := I.max
  have hle := I.le
  unfold maxLen at hmx
  have HG := Lib.hid hg
  clear I h hg
  go_enter Try.func25, Try.ntmps25
  go_wp2_with (first | ((with_reducible refine (at_box (t := 35)) rfl ?_); refine wl_boxA hs rfl rfl rfl ?_; clear hs; intro w1 sb hs) | ((with_reducible refine (at_box (t := 29)) rfl ?_); refine wl_boxA hs rfl rfl rfl ?_; clear hs; intro w1 xb hs))
  go_loopw [8] (fun i wr => ∃ k : Nat, k ≤ N ∧ i = .int .i64 k ∧ Tr w [] wr [Res.blk xb (rowOf 18 (gI X)) 29, Res.blk sb s.cs 35]) (fun i _ => N - (intOf i).toNat)
  case atStart => exact ⟨0, by omega, rfl, hs⟩
  case round =>
    clear hs
    obtain ⟨k, hk, rfl, hs⟩ := hrel
    by_cases hlt : k < N
    · have hltI : (k : Int) < N := by omega
      have hao := HAO.out (by omega)
      subst hao
      have hm := (HG.out k hlt).2
      have HV : Hid (∀ w' L, Tr w [] w' L → w'.cell? ⟨db, doff + k, none⟩ = some (.int .i64 (g k : Int))) := Lib.hid fun w' L h => by rw [← (HG.out k hlt).1]; exact (HI.out.keep h).rd k (by omega)
      generalize g k = gk at *
      have t0 : decide ((gk : Int) < 0) = false := decide_eq_false (by omega)
      have t1 : decide (1068 ≤ (gk : Int)) = false := decide_eq_false (by omega)
      have t2 : decide (1068 ≤ gk) = false := decide_eq_false (by omega)
      go_wp2_with (first | ((with_reducible refine at_index rfl ?_); refine wl_index rfl rfl Try.underlying33 size3 rfl rfl k rfl (by omega) rfl ?_) | ((with_reducible refine (at_load (t := 3)) rfl ?_); refine wl_loadC rfl rfl Try.underlying3 rfl rfl (by rw [Nat.mul_one]; exact HV.out _ _ hs) ?_))
      go_roundw
      case rel => exact ⟨k + 1, by omega, by go_num, hs⟩
      case measure => simp [intOf]; omega
    · obtain rfl : k = N := by omega
      go_wp2_with (first | ((with_reducible refine at_mk rfl ?_); refine wl_make hs rfl rfl Try.underlying81 info4 1068 rfl rfl rfl (by omega) (by omega) (bV fun _ => false) (zmakeB _) ?_; clear hs; intro w1 hb hs))
      replace hs : Tr w [] w1 [Res.blk hb (rowOf 1068 (bV fun _ => false)) 4, Res.blk xb (rowOf 18 (gI X)) 29, Res.blk sb s.cs 35] := hs
      go_loopw [10] (fun i wr => ∃ (m : Nat), m ≤ k ∧ i = .int .i64 m ∧ Hid (ndE FE g m = 0) ∧ Tr w [] wr [Res.blk hb (rowOf 1068 (bV (holF FF g m))) 4, Res.blk xb (rowOf 18 (gI X)) 29, Res.blk sb s.cs 35]) (fun i _ => k - (intOf i).toNat)
      case atStart => exact ⟨0, by omega, rfl, Lib.hid rfl, hs⟩
      case round =>
        clear hs hlt hk
        obtain ⟨m, hk, rfl, h0, hs⟩ := hrel
        by_cases hlt : m < k
        · have hltI : (m : Int) < k := by omega
          have hao := HAO.out (by omega)
          subst hao
          have hm := (HG.out m hlt).2
          have HV : Hid (∀ w' L, Tr w [] w' L → w'.cell? ⟨db, doff + m, none⟩ = some (.int .i64 (g m : Int))) := Lib.hid fun w' L h => by rw [← (HG.out m hlt).1]; exact (HI.out.keep h).rd m (by omega)
          have HF := Lib.hid (HHF.out (g m) hm)
          by_cases hE0 : FE (g m) = 0
          · have h1 : Hid (ndE FE g (m + 1) = 0) := Lib.hid (by simp only [ndE]; rw [if_neg (by rw [h0.out]; simp), hE0])
            have HST : Hid (∀ j, j < 1068 → (if j = g m then Value.bool (FF (g m) == 0) else bV (holF FF g m) j) = bV (holF FF g (m + 1)) j) := Lib.hid fun j hj => by
              simp only [bV, holF, updP]
              by_cases e : j = g m
              · rw [if_pos e, if_pos e]; congr 1
              · rw [if_neg e, if_neg e]
            rw [hE0] at HF
            generalize FF (g m) = y at *
            obtain ⟨A1, hA1⟩ : ∃ A, A = holF FF g (m + 1) := ⟨_, rfl⟩
            rw [← hA1] at HST
            have HA1 := Lib.hid hA1
            clear hA1
            have HG0 : Hid (g m = g m) := Lib.hid rfl
            clear HG0
            obtain ⟨gm, hgm⟩ : ∃ x, x = g m := ⟨_, rfl⟩
            rw [← hgm] at HV HST HF hm
            clear hE0 hgm
            go_upto_region 10 with fail
            refine wt_enter 12 rfl hs (by kernel_rfl) ?_
            clear hs; intro w1 hs; have hC := hs
            refine wt_take 0 rfl (by kernel_rfl) (by kernel_rfl) (by kernel_rfl) (fun _ _ _ _ h => h) rfl hC ⟨_, fun w hw => ex_loadAA (cs := s.cs) rfl Try.underlying35 rfl size35 rfl (hw.getB 2 rfl), fun a1 ha => ?_⟩
            simp only [Act.put, List.setIfInBounds_toArray, List.set_cons_succ, List.set_cons_zero] at ha; subst ha
            refine wt_take 1 rfl (by kernel_rfl) (by kernel_rfl) (by kernel_rfl) (fun _ _ _ _ h => h) rfl hC ⟨_, fun w hw => ex_loadAA rfl Try.underlying29 rfl (size29 _) rfl (hw.getB 1 rfl), fun a1 ha => ?_⟩
            simp only [Act.put, List.setIfInBounds_toArray, List.set_cons_succ, List.set_cons_zero] at ha; subst ha
            refine wt_take 2 rfl (by kernel_rfl) (by kernel_rfl) (by kernel_rfl) (fun _ _ _ _ h => h) rfl hC ⟨_, fun w hw => by (go_simp; try with_reducible rfl), fun a1 ha => ?_⟩
            simp only [Act.put, List.setIfInBounds_toArray, List.set_cons_succ, List.set_cons_zero] at ha; subst ha
            refine wt_take 3 rfl (by kernel_rfl) (by kernel_rfl) (by kernel_rfl) (fun _ _ _ _ h => h) rfl hC ⟨_, fun w hw => by (go_simp; try with_reducible rfl), fun a1 ha => ?_⟩
            simp only [Act.put, List.setIfInBounds_toArray, List.set_cons_succ, List.set_cons_zero] at ha; subst ha
            refine wt_take 4 rfl (by kernel_rfl) (by kernel_rfl) (by kernel_rfl) (fun _ _ _ _ h => h) rfl hC ⟨_, fun w hw => ex_indexS rfl Try.underlying33 size3 rfl rfl m rfl hlt rfl, fun a1 ha => ?_⟩
            simp only [Act.put, List.setIfInBounds_toArray, List.set_cons_succ, List.set_cons_zero] at ha; subst ha
            refine wt_take 5 rfl (by kernel_rfl) (by kernel_rfl) (by kernel_rfl) (fun _ _ _ _ h => h) rfl hC ⟨_, fun w hw => ex_load1 rfl Try.underlying3 rfl rfl (by rw [Nat.mul_one]; exact HV.out _ _ hw), fun a1 ha => ?_⟩
            simp only [Act.put, List.setIfInBounds_toArray, List.set_cons_succ, List.set_cons_zero] at ha; subst ha
            refine wt_one 6 (by kernel_rfl) ?_
            refine wt_call0 hs rfl rfl (by go_simp) (HF.out _ (H.out.keep hs)) (by simp only [Act.put, List.setIfInBounds_toArray, List.set_cons_succ, List.set_cons_zero]; rfl) ?_
            clear hs; intro w1 hs
            refine wt_and (hs.sub (by repeat (first | exact List.Sublist.refl _ | refine List.Sublist.cons_cons _ ?_ | refine List.Sublist.cons _ ?_))) fun hC => ?_
            refine wt_take 7 rfl (by kernel_rfl) (by kernel_rfl) (by kernel_rfl) (fun _ _ _ _ h => h) rfl hC ⟨_, fun w hw => by (go_simp; try with_reducible rfl), fun a1 ha => ?_⟩
            simp only [Act.put, List.setIfInBounds_toArray, List.set_cons_succ, List.set_cons_zero] at ha; subst ha
            refine wt_take 8 rfl (by kernel_rfl) (by kernel_rfl) (by kernel_rfl) (fun _ _ _ _ h => h) rfl hC ⟨_, fun w hw => by (go_simp; try with_reducible rfl), fun a1 ha => ?_⟩
            simp only [Act.put, List.setIfInBounds_toArray, List.set_cons_succ, List.set_cons_zero] at ha; subst ha
            refine wt_take 9 rfl (by kernel_rfl) (by kernel_rfl) (by kernel_rfl) (fun _ _ _ _ h => h) rfl hC ⟨_, fun w hw => by (go_simp; try with_reducible rfl), fun a1 ha => ?_⟩
            simp only [Act.put, List.setIfInBounds_toArray, List.set_cons_succ, List.set_cons_zero] at ha; subst ha
            refine wt_take 10 rfl (by kernel_rfl) (by kernel_rfl) (by kernel_rfl) (fun _ _ _ _ h => h) rfl hC ⟨_, fun w hw => by (go_simp; try with_reducible rfl), fun a1 ha => ?_⟩
            simp only [Act.put, List.setIfInBounds_toArray, List.set_cons_succ, List.set_cons_zero] at ha; subst ha
            refine wt_take 11 rfl (by kernel_rfl) (by kernel_rfl) (by kernel_rfl) (fun _ _ _ _ h => h) rfl hC ⟨_, fun w hw => by (go_simp; try with_reducible rfl), fun a1 ha => ?_⟩
            simp only [Act.put, List.setIfInBounds_toArray, List.set_cons_succ, List.set_cons_zero] at ha; subst ha
            refine wt_done (by kernel_rfl) ?_
            skip
            clear hC
            go_wp2_with (first
              | ((with_reducible refine (at_index (t := 33)) rfl ?_); refine wl_index rfl rfl Try.underlying33 size3 rfl rfl m rfl hlt rfl ?_)
              | ((with_reducible refine (at_load (t := 3)) rfl ?_); refine wl_loadC rfl rfl Try.underlying3 rfl rfl (by rw [Nat.mul_one]; exact HV.out _ _ hs) ?_)
              | ((with_reducible refine (at_index (t := 81)) rfl ?_); refine wl_index rfl rfl Try.underlying81 size4 rfl rfl (gm) rfl (hm) rfl ?_)
              | ((with_reducible refine (at_store (t := 4)) rfl ?_); refine wl_store1R hs rfl rfl size4 rfl rfl rfl 0 rfl (by omega) (bV A1) (by rw [Nat.zero_add, Nat.mul_one]; exact HST.out) ?_; clear hs; intro w1 hs))
            go_roundw
            case rel => exact ⟨m + 1, by omega, by go_num, h1, by rw [← HA1.out]; exact hs⟩
            case measure => simp [intOf]; omega
          · have h1 : ndE FE g (m + 1) = FE (g m) := by simp only [ndE]; rw [if_neg (by rw [h0.out]; simp)]
            have h2 := ndE_stays FE g (m + 1) (k - (m + 1)) (by rw [h1]; exact hE0)
            rw [show m + 1 + (k - (m + 1)) = k by omega, h1] at h2
            have HR1 := Lib.hid (hR0.out (by rw [h2]; exact hE0))
            have HE1 := Lib.hid (hE.out.trans h2)
            have tE : (FE (g m) != 0) = true := by simpa using hE0
            clear h1 h2 hE0 hE hR hR0 h0
            generalize FF (g m) = y at *
            generalize FE (g m) = er at *
            generalize g m = gm at *
            go_upto_region 10 with fail
            refine wt_enter 12 rfl hs (by kernel_rfl) ?_
            clear hs; intro w1 hs; have hC := hs
            refine wt_take 0 rfl (by kernel_rfl) (by kernel_rfl) (by kernel_rfl) (fun _ _ _ _ h => h) rfl hC ⟨_, fun w hw => ex_loadAA (cs := s.cs) rfl Try.underlying35 rfl size35 rfl (hw.getB 2 rfl), fun a1 ha => ?_⟩
            simp only [Act.put, List.setIfInBounds_toArray, List.set_cons_succ, List.set_cons_zero] at ha; subst ha
            refine wt_take 1 rfl (by kernel_rfl) (by kernel_rfl) (by kernel_rfl) (fun _ _ _ _ h => h) rfl hC ⟨_, fun w hw => ex_loadAA rfl Try.underlying29 rfl (size29 _) rfl (hw.getB 1 rfl), fun a1 ha => ?_⟩
            simp only [Act.put, List.setIfInBounds_toArray, List.set_cons_succ, List.set_cons_zero] at ha; subst ha
            refine wt_take 2 rfl (by kernel_rfl) (by kernel_rfl) (by kernel_rfl) (fun _ _ _ _ h => h) rfl hC ⟨_, fun w hw => by (go_simp; try with_reducible rfl), fun a1 ha => ?_⟩
            simp only [Act.put, List.setIfInBounds_toArray, List.set_cons_succ, List.set_cons_zero] at ha; subst ha
            refine wt_take 3 rfl (by kernel_rfl) (by kernel_rfl) (by kernel_rfl) (fun _ _ _ _ h => h) rfl hC ⟨_, fun w hw => by (go_simp; try with_reducible rfl), fun a1 ha => ?_⟩
            simp only [Act.put, List.setIfInBounds_toArray, List.set_cons_succ, List.set_cons_zero] at ha; subst ha
            refine wt_take 4 rfl (by kernel_rfl) (by kernel_rfl) (by kernel_rfl) (fun _ _ _ _ h => h) rfl hC ⟨_, fun w hw => ex_indexS rfl Try.underlying33 size3 rfl rfl m rfl hlt rfl, fun a1 ha => ?_⟩
            simp only [Act.put, List.setIfInBounds_toArray, List.set_cons_succ, List.set_cons_zero] at ha; subst ha
            refine wt_take 5 rfl (by kernel_rfl) (by kernel_rfl) (by kernel_rfl) (fun _ _ _ _ h => h) rfl hC ⟨_, fun w hw => ex_load1 rfl Try.underlying3 rfl rfl (by rw [Nat.mul_one]; exact HV.out _ _ hw), fun a1 ha => ?_⟩
            simp only [Act.put, List.setIfInBounds_toArray, List.set_cons_succ, List.set_cons_zero] at ha; subst ha
            refine wt_one 6 (by kernel_rfl) ?_
            refine wt_call0 hs rfl rfl (by go_simp) (HF.out _ (H.out.keep hs)) (by simp only [Act.put, List.setIfInBounds_toArray, List.set_cons_succ, List.set_cons_zero]; rfl) ?_
            clear hs; intro w1 hs
            refine wt_and (hs.sub (by repeat (first | exact List.Sublist.refl _ | refine List.Sublist.cons_cons _ ?_ | refine List.Sublist.cons _ ?_))) fun hC => ?_
            refine wt_take 7 rfl (by kernel_rfl) (by kernel_rfl) (by kernel_rfl) (fun _ _ _ _ h => h) rfl hC ⟨_, fun w hw => by (go_simp; try with_reducible rfl), fun a1 ha => ?_⟩
            simp only [Act.put, List.setIfInBounds_toArray, List.set_cons_succ, List.set_cons_zero] at ha; subst ha
            refine wt_take 8 rfl (by kernel_rfl) (by kernel_rfl) (by kernel_rfl) (fun _ _ _ _ h => h) rfl hC ⟨_, fun w hw => by (go_simp; try with_reducible rfl), fun a1 ha => ?_⟩
            simp only [Act.put, List.setIfInBounds_toArray, List.set_cons_succ, List.set_cons_zero] at ha; subst ha
            refine wt_take 9 rfl (by kernel_rfl) (by kernel_rfl) (by kernel_rfl) (fun _ _ _ _ h => h) rfl hC ⟨_, fun w hw => by (go_simp; try with_reducible rfl), fun a1 ha => ?_⟩
            simp only [Act.put, List.setIfInBounds_toArray, List.set_cons_succ, List.set_cons_zero] at ha; subst ha
            refine wt_take 10 rfl (by kernel_rfl) (by kernel_rfl) (by kernel_rfl) (fun _ _ _ _ h => h) rfl hC ⟨_, fun w hw => by (go_simp; try with_reducible rfl), fun a1 ha => ?_⟩
            simp only [Act.put, List.setIfInBounds_toArray, List.set_cons_succ, List.set_cons_zero] at ha; subst ha
            refine wt_take 11 rfl (by kernel_rfl) (by kernel_rfl) (by kernel_rfl) (fun _ _ _ _ h => h) rfl hC ⟨_, fun w hw => by (go_simp; try with_reducible rfl), fun a1 ha => ?_⟩
            simp only [Act.put, List.setIfInBounds_toArray, List.set_cons_succ, List.set_cons_zero] at ha; subst ha
            refine wt_done (by kernel_rfl) ?_
            skip
            clear hC
            go_wp2_with fail
            go_ret2
            exact ⟨by rw [HR1.out, HE1.out]; rfl, hs.letgo⟩
        · obtain rfl : m = k := by omega
          have HE1 := Lib.hid (hE.out.trans h0.out)
          have HR1 := Lib.hid (hR.out h0.out)
          have hcn := fin_cnt (X 16) (X 17) T (holF FF g m)
          rw [hcn] at HR1
          clear hE hR hR0 h0 hcn HHF HI
          generalize holF FF g m = A at *
          go_wp2_with (first
            | ((with_reducible refine (at_load (t := 35)) rfl ?_); refine wl_loadA hs rfl rfl Try.underlying35 rfl rfl 2 rfl size35 ?_) | ((with_reducible refine (at_load (t := 3)) rfl ?_); refine wl_load1 hs rfl rfl Try.underlying3 rfl rfl 1 rfl (rowOf_gI (by omega)) ?_) | (go_at_call 28; refine (HTT.out _ (H.out.keep hs)).mono ?_; rintro e w2 ⟨rfl, hc⟩; replace hs := hs.call0 hc; clear hc) | ((with_reducible refine (at_alloc (t := 69)) rfl ?_); refine wl_allocA hs rfl rfl zero69 ?_; clear hs; intro w1 tb hs) | ((with_reducible refine (at_store (t := 69)) rfl ?_); refine wl_storeA hs rfl rfl rfl rfl (size69 _) (oneI 32 _) 0 rfl (by simp only [rowOf_size]) ?_; clear hs; intro w1 hs)
            | ((with_reducible refine at_mk rfl ?_); refine wl_make hs rfl rfl Try.underlying81 info4 32 rfl rfl rfl (by omega) (by omega) (bV fun _ => false) (zmakeB _) ?_; clear hs; intro w1 wb hs))
          replace hs : Tr w [] w1 [Res.blk wb (rowOf 32 (bV fun _ => false)) 4, Res.blk tb (rowOf 32 (gI T)) 69, Res.blk hb (rowOf 1068 (bV A)) 4, Res.blk xb (rowOf 18 (gI X)) 29, Res.blk sb s.cs 35] := hs
          go_loopw [15, 16, 17, 19] (fun n l f i wr => ∃ (k : Nat), k ≤ 1068 ∧ i = .int .i64 k ∧ n = .int .i64 ((cntP A k + cntP (tabB A T k) 32 : Nat) : Int) ∧ l = .bool (lowB A k) ∧ f = .bool (farB A k) ∧ Tr w [] wr [Res.blk wb (rowOf 32 (bV (tabB A T k))) 4, Res.blk tb (rowOf 32 (gI T)) 69, Res.blk hb (rowOf 1068 (bV A)) 4, Res.blk xb (rowOf 18 (gI X)) 29, Res.blk sb s.cs 35]) (fun _ _ _ i _ => 1068 - (intOf i).toNat)
          case atStart => exact ⟨0, by omega, rfl, by rw [cntP_zero (f := tabB A T 0) fun _ _ => rfl]; rfl, rfl, rfl, hs⟩
          case round =>
            clear hs hlt hk
            obtain ⟨k, hk, rfl, rfl, rfl, rfl, hs⟩ := hrel
            have b1 := cntP_le A k
            have b2 := cntP_le (tabB A T k) 32
            by_cases hlt : k < 1068
            · have hltI : (k : Int) < 1068 := by omega
              cases hA : A k
              · have HAk : Hid ((rowOf 1068 (bV A))[k]? = some (.bool false)) := Lib.hid (by rw [← hA]; exact rowOf_get hlt)
                have HL := Lib.hid (low_no (A := A) (k := k) (Or.inl hA))
                have HF := Lib.hid (far_no (A := A) (k := k) (Or.inl hA))
                have HTB0 := tab_no (A := A) (T := T) (k := k) (Or.inl hA)
                have bn : cntP A k + cntP (tabB A T k) 32 ≤ 1100 := by omega
                have HN0 : cntP A (k + 1) + cntP (tabB A T (k + 1)) 32 = cntP A k + cntP (tabB A T k) 32 + 0 := by rw [HTB0, cnt_no hA]; rfl
                have HN := Lib.hid HN0
                have HTB := Lib.hid HTB0
                clear HN0 HTB0
                generalize cntP A k + cntP (tabB A T k) 32 = n0 at *
                generalize lowB A k = lo at *
                generalize farB A k = fa at *
                generalize tabB A T k = W at *
                go_wp2_with (first | ((with_reducible refine (at_index (t := 81)) rfl ?_); refine wl_index rfl rfl Try.underlying81 size4 rfl rfl (k) rfl (hlt) rfl ?_) | ((with_reducible refine (at_load (t := 4)) rfl ?_); refine wl_load1 hs rfl rfl Try.underlying4 rfl rfl 2 rfl (by rw [Nat.zero_add, Nat.mul_one]; exact HAk.out) ?_))
                go_roundw
                case rel => exact ⟨k + 1, by omega, by go_num, by rw [HN.out], by rw [HL.out], by rw [HF.out], by rw [HTB.out]; exact hs⟩
                case measure => simp [intOf]; omega
              · have HAk : Hid ((rowOf 1068 (bV A))[k]? = some (.bool true)) := Lib.hid (by rw [← hA]; exact rowOf_get hlt)
                by_cases r1 : k < 12
                · have HL := Lib.hid (low_no (A := A) (k := k) (Or.inr (Or.inl r1)))
                  have HF := Lib.hid (far_no (A := A) (k := k) (Or.inr (by omega)))
                  have HTB0 := tab_no (A := A) (T := T) (k := k) (Or.inr (Or.inl (by omega)))
                  have bn : cntP A k + cntP (tabB A T k) 32 ≤ 1100 := by omega
                  have HN0 : cntP A (k + 1) + cntP (tabB A T (k + 1)) 32 = cntP A k + cntP (tabB A T k) 32 + 1 := by rw [HTB0, cnt_yes hA]; omega
                  have HN := Lib.hid HN0
                  have HTB := Lib.hid HTB0
                  clear HN0 HTB0
                  generalize cntP A k + cntP (tabB A T k) 32 = n0 at *
                  generalize lowB A k = lo at *
                  generalize farB A k = fa at *
                  generalize tabB A T k = W at *
                  have c1 : decide (12 ≤ (k : Int)) = false := decide_eq_false (by omega)
                  have c2 : decide (12 ≤ k) = false := decide_eq_false (by omega)
                  have c3 : decide (44 ≤ (k : Int)) = false := decide_eq_false (by omega)
                  have c4 : decide (44 ≤ k) = false := decide_eq_false (by omega)
                  go_upto_region 23 with (first | ((with_reducible refine (at_index (t := 81)) rfl ?_); refine wl_index rfl rfl Try.underlying81 size4 rfl rfl (k) rfl (hlt) rfl ?_) | ((with_reducible refine (at_load (t := 4)) rfl ?_); refine wl_load1 hs rfl rfl Try.underlying4 rfl rfl 2 rfl (by rw [Nat.zero_add, Nat.mul_one]; exact HAk.out) ?_))
                  cases lo
                  · go_wp2_with fail
                    go_roundw
                    case rel => exact ⟨k + 1, by omega, by go_num, by rw [HN.out]; go_num, by rw [HL.out], by rw [HF.out], by rw [HTB.out]; exact hs⟩
                    case measure => simp [intOf]; omega
                  · go_wp2_with fail
                    go_roundw
                    case rel => exact ⟨k + 1, by omega, by go_num, by rw [HN.out]; go_num, by rw [HL.out], by rw [HF.out], by rw [HTB.out]; exact hs⟩
                    case measure => simp [intOf]; omega
                · by_cases r2 : k < 44
                  · have HL := Lib.hid (low_yes hA (by omega) r2)
                    have HF := Lib.hid (far_no (A := A) (k := k) (Or.inr (by omega)))
                    have HTB0 := tab_no (A := A) (T := T) (k := k) (Or.inr (Or.inl (by omega)))
                    have bn : cntP A k + cntP (tabB A T k) 32 ≤ 1100 := by omega
                    have HN0 : cntP A (k + 1) + cntP (tabB A T (k + 1)) 32 = cntP A k + cntP (tabB A T k) 32 + 1 := by rw [HTB0, cnt_yes hA]; omega
                    have HN := Lib.hid HN0
                    have HTB := Lib.hid HTB0
                    clear HN0 HTB0
                    generalize cntP A k + cntP (tabB A T k) 32 = n0 at *
                    generalize lowB A k = lo at *
                    generalize farB A k = fa at *
                    generalize tabB A T k = W at *
                    have c1 : decide (12 ≤ (k : Int)) = true := decide_eq_true (by omega)
                    have c2 : decide (12 ≤ k) = true := decide_eq_true (by omega)
                    have c3 : decide (44 ≤ (k : Int)) = false := decide_eq_false (by omega)
                    have c4 : decide (44 ≤ k) = false := decide_eq_false (by omega)
                    have c5 : decide ((k : Int) < 44) = true := decide_eq_true (by omega)
                    have c6 : decide (k < 44) = true := decide_eq_true (by omega)
                    go_upto_region 23 with (first | ((with_reducible refine (at_index (t := 81)) rfl ?_); refine wl_index rfl rfl Try.underlying81 size4 rfl rfl (k) rfl (hlt) rfl ?_) | ((with_reducible refine (at_load (t := 4)) rfl ?_); refine wl_load1 hs rfl rfl Try.underlying4 rfl rfl 2 rfl (by rw [Nat.zero_add, Nat.mul_one]; exact HAk.out) ?_))
                    cases lo
                    · go_wp2_with fail
                      go_roundw
                      case rel => exact ⟨k + 1, by omega, by go_num, by rw [HN.out]; go_num, by rw [HL.out], by rw [HF.out], by rw [HTB.out]; exact hs⟩
                      case measure => simp [intOf]; omega
                    · go_wp2_with fail
                      go_roundw
                      case rel => exact ⟨k + 1, by omega, by go_num, by rw [HN.out]; go_num, by rw [HL.out], by rw [HF.out], by rw [HTB.out]; exact hs⟩
                      case measure => simp [intOf]; omega
                  · have c1 : decide (12 ≤ (k : Int)) = true := decide_eq_true (by omega)
                    have c2 : decide (12 ≤ k) = true := decide_eq_true (by omega)
                    have c3 : decide (44 ≤ (k : Int)) = true := decide_eq_true (by omega)
                    have c4 : decide (44 ≤ k) = true := decide_eq_true (by omega)
                    have c5 : decide ((k : Int) < 44) = false := decide_eq_false (by omega)
                    have c6 : decide (k < 44) = false := decide_eq_false (by omega)
                    have ht : (k - 44) / 32 < 32 := by omega
                    have htI : (((k - 44) / 32 : Nat) : Int) < 32 := by omega
                    have htd : Hid (((k : Int) - 44) / 32 = (((k - 44) / 32 : Nat) : Int)) := Lib.hid (by omega)
                    by_cases hT : T ((k - 44) / 32) = 0
                    · have tx : (T ((k - 44) / 32) == 0) = true := by simpa using hT
                      cases hW : tabB A T k ((k - 44) / 32)
                      · have HWt : Hid ((rowOf 32 (bV (tabB A T k)))[(k - 44) / 32]? = some (.bool false)) := Lib.hid (by rw [← hW]; exact rowOf_get ht)
                        have HL := Lib.hid (low_no (A := A) (k := k) (Or.inr (Or.inr (by omega))))
                        have HF := Lib.hid (far_yes hA (by omega))
                        have HTB0 := tab_yes hA (by omega) hT
                        have bn : cntP A k + cntP (tabB A T k) 32 ≤ 1100 := by omega
                        have HN0 : cntP A (k + 1) + cntP (tabB A T (k + 1)) 32 = cntP A k + cntP (tabB A T k) 32 + 2 := by rw [HTB0, cnt_yes hA, cnt_upd ht hW]; omega
                        have HN := Lib.hid HN0
                        have HTB := Lib.hid HTB0
                        clear HN0 HTB0
                        generalize cntP A k + cntP (tabB A T k) 32 = n0 at *
                        generalize lowB A k = lo at *
                        generalize farB A k = fa at *
                        generalize tabB A T k = W at *
                        have HSt : Hid (∀ j, j < 32 → (if j = (k - 44) / 32 then Value.bool true else bV W j) = bV (updP W ((k - 44) / 32) true) j) := Lib.hid fun j _ => by
                          simp only [bV, updP]
                          split <;> rfl
                        clear hW hT
                        go_upto_region 23 with (first | ((with_reducible refine (at_index (t := 81)) rfl ?_); refine wl_index rfl rfl Try.underlying81 size4 rfl rfl (k) rfl (hlt) rfl ?_) | ((with_reducible refine (at_load (t := 4)) rfl ?_); refine wl_load1 hs rfl rfl Try.underlying4 rfl rfl 2 rfl (by rw [Nat.zero_add, Nat.mul_one]; exact HAk.out) ?_))
                        cases lo
                        · go_upto_region 28 with fail
                          rw [htd.out]
                          generalize (k - 44) / 32 = t at *
                          go_wp2_with (first | ((with_reducible refine (at_load (t := 3)) rfl ?_); refine wl_load1 hs rfl rfl Try.underlying3 rfl rfl 1 rfl (rowOf_gI (by omega)) ?_) | ((with_reducible refine (at_index (t := 81)) rfl ?_); refine wl_index rfl rfl Try.underlying81 size4 rfl rfl (t) rfl (ht) rfl ?_) | ((with_reducible refine (at_load (t := 4)) rfl ?_); refine wl_load1 hs rfl rfl Try.underlying4 rfl rfl 0 rfl (by rw [Nat.zero_add, Nat.mul_one]; exact HWt.out) ?_) | ((with_reducible refine (at_store (t := 4)) rfl ?_); refine wl_store1R hs rfl rfl size4 rfl rfl rfl 0 rfl (by omega) (bV (updP W t true)) (by rw [Nat.zero_add, Nat.mul_one]; exact HSt.out) ?_; clear hs; intro w1 hs))
                          go_roundw
                          case rel => exact ⟨k + 1, by omega, by go_num, by rw [HN.out]; go_num, by rw [HL.out], by rw [HF.out], by rw [HTB.out]; exact hs⟩
                          case measure => simp [intOf]; omega
                        · go_upto_region 28 with fail
                          rw [htd.out]
                          generalize (k - 44) / 32 = t at *
                          go_wp2_with (first | ((with_reducible refine (at_load (t := 3)) rfl ?_); refine wl_load1 hs rfl rfl Try.underlying3 rfl rfl 1 rfl (rowOf_gI (by omega)) ?_) | ((with_reducible refine (at_index (t := 81)) rfl ?_); refine wl_index rfl rfl Try.underlying81 size4 rfl rfl (t) rfl (ht) rfl ?_) | ((with_reducible refine (at_load (t := 4)) rfl ?_); refine wl_load1 hs rfl rfl Try.underlying4 rfl rfl 0 rfl (by rw [Nat.zero_add, Nat.mul_one]; exact HWt.out) ?_) | ((with_reducible refine (at_store (t := 4)) rfl ?_); refine wl_store1R hs rfl rfl size4 rfl rfl rfl 0 rfl (by omega) (bV (updP W t true)) (by rw [Nat.zero_add, Nat.mul_one]; exact HSt.out) ?_; clear hs; intro w1 hs))
                          go_roundw
                          case rel => exact ⟨k + 1, by omega, by go_num, by rw [HN.out]; go_num, by rw [HL.out], by rw [HF.out], by rw [HTB.out]; exact hs⟩
                          case measure => simp [intOf]; omega

                      · have HWt : Hid ((rowOf 32 (bV (tabB A T k)))[(k - 44) / 32]? = some (.bool true)) := Lib.hid (by rw [← hW]; exact rowOf_get ht)
                        have HL := Lib.hid (low_no (A := A) (k := k) (Or.inr (Or.inr (by omega))))
                        have HF := Lib.hid (far_yes hA (by omega))
                        have HTB0 := tab_no (A := A) (T := T) (k := k) (Or.inr (Or.inr (Or.inr hW)))
                        have bn : cntP A k + cntP (tabB A T k) 32 ≤ 1100 := by omega
                        have HN0 : cntP A (k + 1) + cntP (tabB A T (k + 1)) 32 = cntP A k + cntP (tabB A T k) 32 + 1 := by rw [HTB0, cnt_yes hA]; omega
                        have HN := Lib.hid HN0
                        have HTB := Lib.hid HTB0
                        clear HN0 HTB0
                        generalize cntP A k + cntP (tabB A T k) 32 = n0 at *
                        generalize lowB A k = lo at *
                        generalize farB A k = fa at *
                        generalize tabB A T k = W at *
                        clear hW hT
                        go_upto_region 23 with (first | ((with_reducible refine (at_index (t := 81)) rfl ?_); refine wl_index rfl rfl Try.underlying81 size4 rfl rfl (k) rfl (hlt) rfl ?_) | ((with_reducible refine (at_load (t := 4)) rfl ?_); refine wl_load1 hs rfl rfl Try.underlying4 rfl rfl 2 rfl (by rw [Nat.zero_add, Nat.mul_one]; exact HAk.out) ?_))
                        cases lo
                        · go_upto_region 28 with fail
                          rw [htd.out]
                          generalize (k - 44) / 32 = t at *
                          go_wp2_with (first | ((with_reducible refine (at_load (t := 3)) rfl ?_); refine wl_load1 hs rfl rfl Try.underlying3 rfl rfl 1 rfl (rowOf_gI (by omega)) ?_) | ((with_reducible refine (at_index (t := 81)) rfl ?_); refine wl_index rfl rfl Try.underlying81 size4 rfl rfl (t) rfl (ht) rfl ?_) | ((with_reducible refine (at_load (t := 4)) rfl ?_); refine wl_load1 hs rfl rfl Try.underlying4 rfl rfl 0 rfl (by rw [Nat.zero_add, Nat.mul_one]; exact HWt.out) ?_))
                          go_roundw
                          case rel => exact ⟨k + 1, by omega, by go_num, by rw [HN.out]; go_num, by rw [HL.out], by rw [HF.out], by rw [HTB.out]; exact hs⟩
                          case measure => simp [intOf]; omega
                        · go_upto_region 28 with fail
                          rw [htd.out]
                          generalize (k - 44) / 32 = t at *
                          go_wp2_with (first | ((with_reducible refine (at_load (t := 3)) rfl ?_); refine wl_load1 hs rfl rfl Try.underlying3 rfl rfl 1 rfl (rowOf_gI (by omega)) ?_) | ((with_reducible refine (at_index (t := 81)) rfl ?_); refine wl_index rfl rfl Try.underlying81 size4 rfl rfl (t) rfl (ht) rfl ?_) | ((with_reducible refine (at_load (t := 4)) rfl ?_); refine wl_load1 hs rfl rfl Try.underlying4 rfl rfl 0 rfl (by rw [Nat.zero_add, Nat.mul_one]; exact HWt.out) ?_))
                          go_roundw
                          case rel => exact ⟨k + 1, by omega, by go_num, by rw [HN.out]; go_num, by rw [HL.out], by rw [HF.out], by rw [HTB.out]; exact hs⟩
                          case measure => simp [intOf]; omega

                    · have tx : (T ((k - 44) / 32) == 0) = false := by simpa using hT
                      have HL := Lib.hid (low_no (A := A) (k := k) (Or.inr (Or.inr (by omega))))
                      have HF := Lib.hid (far_yes hA (by omega))
                      have HTB0 := tab_no (A := A) (T := T) (k := k) (Or.inr (Or.inr (Or.inl hT)))
                      have bn : cntP A k + cntP (tabB A T k) 32 ≤ 1100 := by omega
                      have HN0 : cntP A (k + 1) + cntP (tabB A T (k + 1)) 32 = cntP A k + cntP (tabB A T k) 32 + 1 := by rw [HTB0, cnt_yes hA]; omega
                      have HN := Lib.hid HN0
                      have HTB := Lib.hid HTB0
                      clear HN0 HTB0
                      generalize cntP A k + cntP (tabB A T k) 32 = n0 at *
                      generalize lowB A k = lo at *
                      generalize farB A k = fa at *
                      generalize tabB A T k = W at *
                      clear hT
                      go_upto_region 23 with (first | ((with_reducible refine (at_index (t := 81)) rfl ?_); refine wl_index rfl rfl Try.underlying81 size4 rfl rfl (k) rfl (hlt) rfl ?_) | ((with_reducible refine (at_load (t := 4)) rfl ?_); refine wl_load1 hs rfl rfl Try.underlying4 rfl rfl 2 rfl (by rw [Nat.zero_add, Nat.mul_one]; exact HAk.out) ?_))
                      cases lo
                      · go_upto_region 28 with fail
                        rw [htd.out]
                        generalize (k - 44) / 32 = t at *
                        go_wp2_with (first | ((with_reducible refine (at_load (t := 3)) rfl ?_); refine wl_load1 hs rfl rfl Try.underlying3 rfl rfl 1 rfl (rowOf_gI (by omega)) ?_))
                        go_roundw
                        case rel => exact ⟨k + 1, by omega, by go_num, by rw [HN.out]; go_num, by rw [HL.out], by rw [HF.out], by rw [HTB.out]; exact hs⟩
                        case measure => simp [intOf]; omega
                      · go_upto_region 28 with fail
                        rw [htd.out]
                        generalize (k - 44) / 32 = t at *
                        go_wp2_with (first | ((with_reducible refine (at_load (t := 3)) rfl ?_); refine wl_load1 hs rfl rfl Try.underlying3 rfl rfl 1 rfl (rowOf_gI (by omega)) ?_))
                        go_roundw
                        case rel => exact ⟨k + 1, by omega, by go_num, by rw [HN.out]; go_num, by rw [HL.out], by rw [HF.out], by rw [HTB.out]; exact hs⟩
                        case measure => simp [intOf]; omega
            · obtain rfl : k = 1068 := by omega
              have bn : cntP A 1068 + cntP (tabB A T 1068) 32 ≤ 1100 := by omega
              have HR2 : Hid (R = ((cntP A 1068 + cntP (tabB A T 1068) 32 + (lowB A 1068 && decide (X 16 = 0)).toNat + (farB A 1068 && decide (X 17 = 0)).toNat : Nat) : Int)) := Lib.hid (by rw [HR1.out]; congr 1; omega)
              clear HR1
              generalize cntP A 1068 + cntP (tabB A T 1068) 32 = n0 at *
              generalize lowB A 1068 = lo at *
              generalize farB A 1068 = fa at *
              generalize tabB A T 1068 = W at *
              cases lo
              · have hb : (false && decide (X 16 = 0)).toNat = 0 := by simp
                obtain ⟨a, ha⟩ : ∃ a, a = 0 := ⟨_, rfl⟩
                rw [← ha] at hb
                go_upto_region 33 with fail
                cases fa
                · have hR2 : R = ((n0 + a + 0 : Nat) : Int) := by rw [HR2.out, hb]; rfl
                  go_wp2_with fail
                  go_ret2
                  subst ha
                  exact ⟨by rw [hR2, HE1.out]; exact ret_pair (by first | rfl | go_num | (unfold wrap64; omega) | omega), hs.letgo⟩
                · by_cases x7 : X 17 = 0
                  · have t7 : (X 17 == 0) = true := by simpa using x7
                    have hR2 : R = ((n0 + a + 1 : Nat) : Int) := by rw [HR2.out, hb, decide_eq_true x7]; rfl
                    clear x7
                    go_wp2_with (first | ((with_reducible refine (at_load (t := 3)) rfl ?_); refine wl_load1 hs rfl rfl Try.underlying3 rfl rfl 3 rfl (rowOf_gI (by omega)) ?_))
                    go_ret2
                    subst ha
                    exact ⟨by rw [hR2, HE1.out]; exact ret_pair (by first | rfl | go_num | (unfold wrap64; omega) | omega), hs.letgo⟩
                  · have t7 : (X 17 == 0) = false := by simpa using x7
                    have hR2 : R = ((n0 + a + 0 : Nat) : Int) := by rw [HR2.out, hb, decide_eq_false x7]; rfl
                    clear x7
                    go_wp2_with (first | ((with_reducible refine (at_load (t := 3)) rfl ?_); refine wl_load1 hs rfl rfl Try.underlying3 rfl rfl 3 rfl (rowOf_gI (by omega)) ?_))
                    go_ret2
                    subst ha
                    exact ⟨by rw [hR2, HE1.out]; exact ret_pair (by first | rfl | go_num | (unfold wrap64; omega) | omega), hs.letgo⟩
              · by_cases x6 : X 16 = 0
                · have t6 : (X 16 == 0) = true := by simpa using x6
                  have hb : (true && decide (X 16 = 0)).toNat = 1 := by rw [decide_eq_true x6]; rfl
                  obtain ⟨a, ha⟩ : ∃ a, a = 1 := ⟨_, rfl⟩
                  rw [← ha] at hb
                  clear x6
                  go_upto_region 33 with (first | ((with_reducible refine (at_load (t := 3)) rfl ?_); refine wl_load1 hs rfl rfl Try.underlying3 rfl rfl 3 rfl (rowOf_gI (by omega)) ?_))
                  cases fa
                  · have hR2 : R = ((n0 + a + 0 : Nat) : Int) := by rw [HR2.out, hb]; rfl
                    go_wp2_with fail
                    go_ret2
                    subst ha
                    exact ⟨by rw [hR2, HE1.out]; exact ret_pair (by first | rfl | go_num | (unfold wrap64; omega) | omega), hs.letgo⟩
                  · by_cases x7 : X 17 = 0
                    · have t7 : (X 17 == 0) = true := by simpa using x7
                      have hR2 : R = ((n0 + a + 1 : Nat) : Int) := by rw [HR2.out, hb, decide_eq_true x7]; rfl
                      clear x7
                      go_wp2_with (first | ((with_reducible refine (at_load (t := 3)) rfl ?_); refine wl_load1 hs rfl rfl Try.underlying3 rfl rfl 3 rfl (rowOf_gI (by omega)) ?_))
                      go_ret2
                      subst ha
                      exact ⟨by rw [hR2, HE1.out]; exact ret_pair (by first | rfl | go_num | (unfold wrap64; omega) | omega), hs.letgo⟩
                    · have t7 : (X 17 == 0) = false := by simpa using x7
                      have hR2 : R = ((n0 + a + 0 : Nat) : Int) := by rw [HR2.out, hb, decide_eq_false x7]; rfl
                      clear x7
                      go_wp2_with (first | ((with_reducible refine (at_load (t := 3)) rfl ?_); refine wl_load1 hs rfl rfl Try.underlying3 rfl rfl 3 rfl (rowOf_gI (by omega)) ?_))
                      go_ret2
                      subst ha
                      exact ⟨by rw [hR2, HE1.out]; exact ret_pair (by first | rfl | go_num | (unfold wrap64; omega) | omega), hs.letgo⟩
                · have t6 : (X 16 == 0) = false := by simpa using x6
                  have hb : (true && decide (X 16 = 0)).toNat = 0 := by rw [decide_eq_false x6]; rfl
                  obtain ⟨a, ha⟩ : ∃ a, a = 0 := ⟨_, rfl⟩
                  rw [← ha] at hb
                  clear x6
                  go_upto_region 33 with (first | ((with_reducible refine (at_load (t := 3)) rfl ?_); refine wl_load1 hs rfl rfl Try.underlying3 rfl rfl 3 rfl (rowOf_gI (by omega)) ?_))
                  cases fa
                  · have hR2 : R = ((n0 + a + 0 : Nat) : Int) := by rw [HR2.out, hb]; rfl
                    go_wp2_with fail
                    go_ret2
                    subst ha
                    exact ⟨by rw [hR2, HE1.out]; exact ret_pair (by first | rfl | go_num | (unfold wrap64; omega) | omega), hs.letgo⟩
                  · by_cases x7 : X 17 = 0
                    · have t7 : (X 17 == 0) = true := by simpa using x7
                      have hR2 : R = ((n0 + a + 1 : Nat) : Int) := by rw [HR2.out, hb, decide_eq_true x7]; rfl
                      clear x7
                      go_wp2_with (first | ((with_reducible refine (at_load (t := 3)) rfl ?_); refine wl_load1 hs rfl rfl Try.underlying3 rfl rfl 3 rfl (rowOf_gI (by omega)) ?_))
                      go_ret2
                      subst ha
                      exact ⟨by rw [hR2, HE1.out]; exact ret_pair (by first | rfl | go_num | (unfold wrap64; omega) | omega), hs.letgo⟩
                    · have t7 : (X 17 == 0) = false := by simpa using x7
                      have hR2 : R = ((n0 + a + 0 : Nat) : Int) := by rw [HR2.out, hb, decide_eq_false x7]; rfl
                      clear x7
                      go_wp2_with (first | ((with_reducible refine (at_load (t := 3)) rfl ?_); refine wl_load1 hs rfl rfl Try.underlying3 rfl rfl 3 rfl (rowOf_gI (by omega)) ?_))
                      go_ret2
                      subst ha
                      exact ⟨by rw [hR2, HE1.out]; exact ret_pair (by first | rfl | go_num | (unfold wrap64; omega) | omega), hs.letgo⟩
end Go.Proofs.Ytdlnfdlgnbkppaa
