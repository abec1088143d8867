/- Nothing. -/
import Derived.Test.YtdlnfdlgnbkppaaK1
namespace Go.Proofs.Ytdlnfdlgnbkppaa
set_option linter.unusedVariables false
set_option linter.unusedSimpArgs false
open Go Go.Sp Go.RowKit

set_option maxRecDepth 20000 in
theorem nothing_walk (X : Nat → Int) {ao : Option Addr} {N c db doff : Nat} {G : Nat → Int} (w : World) (I : Ints w (.slice ao N c) ao N c db doff G) :
    Calls Try.prog 8 #[.agg (rowOf 18 (gI X)), .slice ao N c] w fun e w' => e = .returned (.bool true) ∧ Below w.heap.size w w' := by
  have hs := Tr.refl w []
  have HI := Lib.hid I
  have HAO := Lib.hid I.ao
  have hmx := I.max
  have hle := I.le
  unfold maxLen at hmx
  clear I
  go_enter Try.func8, Try.ntmps8
  go_upto_region 5 with (first | ((with_reducible refine (at_box (t := 29)) rfl ?_); refine wl_boxA hs rfl rfl rfl ?_; clear hs; intro w1 xb hs) | (go_at_call 12; refine (known_any _).mono ?_; rintro e w2 ⟨rfl, hc⟩; replace hs := hs.call0 hc; clear hc) | ((with_reducible refine (at_load (t := 29)) rfl ?_); refine wl_loadA hs rfl rfl Try.underlying29 rfl rfl 0 rfl (size29 _) ?_) | (go_at_call 18; refine (spots_nil _ _ rfl _).mono ?_; rintro e w2 ⟨rfl, hc⟩; replace hs := hs.call0 hc; clear hc))
  go_upto_region 6 with (first | ((with_reducible refine (at_load (t := 29)) rfl ?_); refine wl_loadA hs rfl rfl Try.underlying29 rfl rfl 0 rfl (size29 _) ?_) | (go_at_call 20; refine (tables_nil _ _ rfl _).mono ?_; rintro e w2 ⟨rfl, hc⟩; replace hs := hs.call0 hc; clear hc))
  go_upto_region 9 with (first | ((with_reducible refine (at_load (t := 29)) rfl ?_); refine wl_loadA hs rfl rfl Try.underlying29 rfl rfl 0 rfl (size29 _) ?_) | (go_at_call 24; refine (need_nil _ _ _ rfl _).mono ?_; rintro e w2 ⟨rfl, hc⟩; replace hs := hs.call0 hc; clear hc))
  go_wp2_with fail
  go_loopw [12] (fun i wr => ∃ k : Nat, k ≤ N ∧ i = .int .i64 k ∧ Tr w [] wr [Res.blk xb (rowOf 18 (gI X)) 29]) (fun i _ => N - (intOf i).toNat)
  case atStart => exact ⟨0, by omega, rfl, hs⟩
  case round =>
    clear hs
    obtain ⟨k, hk, rfl, hs⟩ := hrel
    by_cases hlt : k < N
    · have hltI : (k : Int) < N := by omega
      have hao := HAO.out (by omega)
      subst hao
      have HV : Hid (∀ w' L, Tr w [] w' L → w'.cell? ⟨db, doff + k, none⟩ = some (.int .i64 (G k))) := Lib.hid fun w' L h => (HI.out.keep h).rd k hlt
      go_upto_region 12 with fail
      refine wt_enter 11 rfl hs (by kernel_rfl) ?_
      clear hs; intro w1 hs; have hC := hs
      refine wt_take 0 rfl (by kernel_rfl) (by kernel_rfl) (by kernel_rfl) (fun _ _ _ _ h => h) rfl hC ⟨_, fun w hw => ex_loadAA rfl Try.underlying29 rfl (size29 _) rfl (hw.getB 0 rfl), fun a1 ha => ?_⟩
      simp only [Act.put, List.setIfInBounds_toArray, List.set_cons_succ, List.set_cons_zero] at ha; subst ha
      refine wt_take 1 rfl (by kernel_rfl) (by kernel_rfl) (by kernel_rfl) (fun _ _ _ _ h => h) rfl hC ⟨_, fun w hw => by (go_simp; try with_reducible rfl), fun a1 ha => ?_⟩
      simp only [Act.put, List.setIfInBounds_toArray, List.set_cons_succ, List.set_cons_zero] at ha; subst ha
      refine wt_take 2 rfl (by kernel_rfl) (by kernel_rfl) (by kernel_rfl) (fun _ _ _ _ h => h) rfl hC ⟨_, fun w hw => by (go_simp; try with_reducible rfl), fun a1 ha => ?_⟩
      simp only [Act.put, List.setIfInBounds_toArray, List.set_cons_succ, List.set_cons_zero] at ha; subst ha
      refine wt_take 3 rfl (by kernel_rfl) (by kernel_rfl) (by kernel_rfl) (fun _ _ _ _ h => h) rfl hC ⟨_, fun w hw => ex_indexS rfl Try.underlying33 size3 rfl rfl k rfl hlt rfl, fun a1 ha => ?_⟩
      simp only [Act.put, List.setIfInBounds_toArray, List.set_cons_succ, List.set_cons_zero] at ha; subst ha
      refine wt_take 4 rfl (by kernel_rfl) (by kernel_rfl) (by kernel_rfl) (fun _ _ _ _ h => h) rfl hC ⟨_, fun w hw => ex_load1 rfl Try.underlying3 rfl rfl (by rw [Nat.mul_one]; exact HV.out _ _ hw), fun a1 ha => ?_⟩
      simp only [Act.put, List.setIfInBounds_toArray, List.set_cons_succ, List.set_cons_zero] at ha; subst ha
      refine wt_one 5 (by kernel_rfl) ?_
      refine wt_call0 hs rfl rfl (by go_simp) (find_nil (.agg (rowOf 18 (gI X))) (G k) _ rfl _) (by simp only [Act.put, List.setIfInBounds_toArray, List.set_cons_succ, List.set_cons_zero]; rfl) ?_
      clear hs; intro w1 hs
      refine wt_and (hs.sub (by repeat (first | exact List.Sublist.refl _ | refine List.Sublist.cons_cons _ ?_ | refine List.Sublist.cons _ ?_))) fun hC => ?_
      refine wt_take 6 rfl (by kernel_rfl) (by kernel_rfl) (by kernel_rfl) (fun _ _ _ _ h => h) rfl hC ⟨_, fun w hw => by (go_simp; try with_reducible rfl), fun a1 ha => ?_⟩
      simp only [Act.put, List.setIfInBounds_toArray, List.set_cons_succ, List.set_cons_zero] at ha; subst ha
      refine wt_take 7 rfl (by kernel_rfl) (by kernel_rfl) (by kernel_rfl) (fun _ _ _ _ h => h) rfl hC ⟨_, fun w hw => by (go_simp; try with_reducible rfl), fun a1 ha => ?_⟩
      simp only [Act.put, List.setIfInBounds_toArray, List.set_cons_succ, List.set_cons_zero] at ha; subst ha
      refine wt_take 8 rfl (by kernel_rfl) (by kernel_rfl) (by kernel_rfl) (fun _ _ _ _ h => h) rfl hC ⟨_, fun w hw => by (go_simp; try with_reducible rfl), fun a1 ha => ?_⟩
      simp only [Act.put, List.setIfInBounds_toArray, List.set_cons_succ, List.set_cons_zero] at ha; subst ha
      refine wt_take 9 rfl (by kernel_rfl) (by kernel_rfl) (by kernel_rfl) (fun _ _ _ _ h => h) rfl hC ⟨_, fun w hw => by (go_simp; try with_reducible rfl), fun a1 ha => ?_⟩
      simp only [Act.put, List.setIfInBounds_toArray, List.set_cons_succ, List.set_cons_zero] at ha; subst ha
      refine wt_take 10 rfl (by kernel_rfl) (by kernel_rfl) (by kernel_rfl) (fun _ _ _ _ h => h) rfl hC ⟨_, fun w hw => by (go_simp; try with_reducible rfl), fun a1 ha => ?_⟩
      simp only [Act.put, List.setIfInBounds_toArray, List.set_cons_succ, List.set_cons_zero] at ha; subst ha
      refine wt_done (by kernel_rfl) ?_
      skip
      clear hC
      go_wp2_with fail
      go_roundw
      case rel => exact ⟨k + 1, by omega, by go_num, hs⟩
      case measure => simp [intOf]; omega
    · obtain rfl : k = N := by omega
      go_wp2_with fail
      go_ret
      exact ⟨rfl, hs.below⟩
end Go.Proofs.Ytdlnfdlgnbkppaa
