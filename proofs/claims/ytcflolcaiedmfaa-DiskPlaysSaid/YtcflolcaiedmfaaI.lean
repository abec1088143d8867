/- A pair of disks, the program's and the document's: what one call makes of both. -/
import Derived.Test.YtcflolcaiedmfaaH
namespace Go.Proofs.Ytcflolcaiedmfaa
set_option linter.unusedVariables false
set_option linter.unusedSimpArgs false
open Go Go.Sp Go.RowKit Go.BigFrame

/-- Both are alike. -/
def Like (n : Nat) (wr : Int) (off aI aR : Bool) (lI lR B : Int) : Prop := (1 ≤ n ∧ n ≤ 4096) ∧ (0 ≤ wr ∧ wr ≤ B) ∧ (off = true ∨ (aI = aR ∧ lI = lR)) ∧ (0 ≤ lI ∧ lI ≤ 9223372036854775807)
theorem Like.more {n : Nat} {wr : Int} {off aI aR : Bool} {lI lR B B' : Int} (h : Like n wr off aI aR lI lR B) (hB : B ≤ B') : Like n wr off aI aR lI lR B' := ⟨h.1, ⟨h.2.1.1, Int.le_trans h.2.1.2 hB⟩, h.2.2⟩
theorem ck_cases (off : Bool) (n : Nat) (N : Int) : ck off n N ≠ 0 ∨ (off = false ∧ ∃ i : Nat, N = i ∧ i < n) := by
  unfold ck
  cases off
  · by_cases h : 0 ≤ N ∧ N < n
    · exact .inr ⟨rfl, N.toNat, by omega, by omega⟩
    · left; rw [if_neg (by simp), if_neg h]; omega
  · left; rw [if_pos rfl]; omega
section
variable {n : Nat} {f : Nat → UInt8} {wr : Int} {off aI aR : Bool} {lI lR B : Int}
theorem read_same (hL : Like n wr off aI aR lI lR B) (N : Int) : ∃ (F : Nat → UInt8) (E : Int),
    (∀ d s w, (diskR d s n f wr off aI lI).holds w → Calls Try.prog 23 #[.pointer (some ⟨d, 0, none⟩), .int .i64 N] w fun e w' => e = .returned (.tuple #[bytesV 128 F, .int .i64 E]) ∧ Tr w [] w' []) ∧
    (∀ d g c w, (refG d g c n f wr off aR lR).holds w → Calls Try.prog 35 #[.pointer (some ⟨d, 0, none⟩), .int .i64 N] w fun e w' => e = .returned (.tuple #[bytesV 128 F, .int .i64 E]) ∧ Tr w [] w' []) := by
  rcases ck_cases off n N with h | ⟨rfl, i, rfl, hi⟩
  · exact ⟨_, _, fun d s w hh => read_no N _ hL.1.2 rfl h hh, fun d g c w hh => rread_no N _ hL.1.2 rfl h hh⟩
  · exact ⟨_, _, fun d s w hh => read_ok i hL.1.2 hi hh, fun d g c w hh => rread_ok i hL.1.2 hi hh⟩
theorem write_same (hL : Like n wr off aI aR lI lR B) (hB : B ≤ 4611686018427387904) (N : Int) (F : Nat → UInt8) : ∃ (E : Int) (f' : Nat → UInt8) (wr' : Int) (off' aI' aR' : Bool) (lI' lR' : Int), Like n wr' off' aI' aR' lI' lR' (B + 1) ∧
    (∀ d s w, (diskR d s n f wr off aI lI).holds w → Calls Try.prog 21 #[.pointer (some ⟨d, 0, none⟩), .int .i64 N, bytesV 128 F] w fun e w' => e = .returned (.int .i64 E) ∧ Tr w (diskR d s n f wr off aI lI).foot w' [diskR d s n f' wr' off' aI' lI']) ∧
    (∀ d g c w, (refG d g c n f wr off aR lR).holds w → Calls Try.prog 36 #[.pointer (some ⟨d, 0, none⟩), .int .i64 N, bytesV 128 F] w fun e w' => e = .returned (.int .i64 E) ∧ Tr w (refG d g c n f wr off aR lR).foot w' [refG d g c n f' wr' off' aR' lR']) := by
  have hL0 := hL
  obtain ⟨⟨n1, n2⟩, ⟨w1, w2⟩, he, l1, l2⟩ := hL
  rcases ck_cases off n N with h | ⟨rfl, i, rfl, hi⟩
  · exact ⟨_, f, wr, off, aI, aR, lI, lR, hL0.more (by omega), fun d s w hh => (write_no N F _ n2 rfl h hh).mono fun e w' ⟨he, ht⟩ => ⟨he, Tr.idle2 hh ht⟩, fun d g c w hh => (rwrite_no N F _ n2 rfl h hh).mono fun e w' ⟨he, ht⟩ => ⟨he, Tr.idle2 hh ht⟩⟩
  · obtain ⟨rfl, rfl⟩ : aI = aR ∧ lI = lR := by rcases he with he | he; cases he; exact he
    cases aI
    · exact ⟨0, updF f i F, wr + 1, false, false, false, lI, lI, ⟨⟨n1, n2⟩, ⟨by omega, by omega⟩, .inr ⟨rfl, rfl⟩, l1, l2⟩, fun d s w hh => write_big i F lI n2 hi ⟨w1, by omega⟩ (.inr ⟨rfl, rfl⟩) hh, fun d g c w hh => rwrite_yes i F lI n2 hi ⟨w1, by omega⟩ (.inr ⟨rfl, rfl⟩) hh⟩
    · by_cases h0 : lI = 0
      · subst h0
        exact ⟨22, f, wr, true, false, true, 0, 0, ⟨⟨n1, n2⟩, ⟨by omega, by omega⟩, .inl rfl, by omega, by omega⟩, fun d s w hh => write_off i F n2 hi hh, fun d g c w hh => rwrite_off i F n2 hi hh⟩
      · exact ⟨0, updF f i F, wr + 1, false, true, true, lI - 1, lI - 1, ⟨⟨n1, n2⟩, ⟨by omega, by omega⟩, .inr ⟨rfl, rfl⟩, by omega, by omega⟩, fun d s w hh => write_big i F (lI - 1) n2 hi ⟨w1, by omega⟩ (.inl ⟨rfl, by omega, l2, rfl⟩) hh, fun d g c w hh => rwrite_yes i F (lI - 1) n2 hi ⟨w1, by omega⟩ (.inl ⟨rfl, by omega, l2, rfl⟩) hh⟩
theorem arm_same (hL : Like n wr off aI aR lI lR B) (N : Int) (hN : N ≤ 9223372036854775807) : ∃ (E : Int) (aI' aR' : Bool) (lI' lR' : Int), Like n wr off aI' aR' lI' lR' B ∧
    (∀ d s w, (diskR d s n f wr off aI lI).holds w → Calls Try.prog 20 #[.pointer (some ⟨d, 0, none⟩), .int .i64 N] w fun e w' => e = .returned (.int .i64 E) ∧ Tr w (diskR d s n f wr off aI lI).foot w' [diskR d s n f wr off aI' lI']) ∧
    (∀ d g c w, (refG d g c n f wr off aR lR).holds w → Calls Try.prog 37 #[.pointer (some ⟨d, 0, none⟩), .int .i64 N] w fun e w' => e = .returned (.int .i64 E) ∧ Tr w (refG d g c n f wr off aR lR).foot w' [refG d g c n f wr off aR' lR']) := by
  by_cases h : N < 0
  · exact ⟨1, aI, aR, lI, lR, hL, fun d s w hh => (arm_neg N h hh).mono fun e w' ⟨he, ht⟩ => ⟨he, Tr.idle2 hh ht⟩, fun d g c w hh => (rarm_neg N h hh).mono fun e w' ⟨he, ht⟩ => ⟨he, Tr.idle2 hh ht⟩⟩
  · cases off
    · exact ⟨0, true, true, N, N, ⟨hL.1, hL.2.1, .inr ⟨rfl, rfl⟩, by omega, hN⟩, fun d s w hh => arm_ok N (by omega) hh, fun d g c w hh => rarm_ok N (by omega) hh⟩
    · exact ⟨22, aI, aR, lI, lR, hL, fun d s w hh => (arm_off N (by omega) hh).mono fun e w' ⟨he, ht⟩ => ⟨he, Tr.idle2 hh ht⟩, fun d g c w hh => (rarm_off N (by omega) hh).mono fun e w' ⟨he, ht⟩ => ⟨he, Tr.idle2 hh ht⟩⟩
end
theorem Like.fresh {n : Nat} {B : Int} (h1 : 1 ≤ n) (h2 : n ≤ 4096) (hB : 0 ≤ B) : Like n 0 false false false 0 0 B := ⟨⟨h1, h2⟩, ⟨Int.le_refl _, hB⟩, .inr ⟨rfl, rfl⟩, by omega, by omega⟩

/-- The first sectors are those of another row. -/
def cpF (f : Nat → UInt8) (k : Nat) : Nat → UInt8 := fun j => if j < k * 128 then f j else 0
theorem cp_step (f : Nat → UInt8) (n k : Nat) : rowOf (n * 128) (u8v (updF (cpF f k) k (fun j => f (k * 128 + j)))) = rowOf (n * 128) (u8v (cpF f (k + 1))) := rowOf_congr fun j hj => by
  simp only [u8v, updF, cpF]
  by_cases h : k * 128 ≤ j ∧ j < k * 128 + 128
  · rw [if_pos h, if_pos (by omega), show k * 128 + (j - k * 128) = j by omega]
  · rw [if_neg h]
    by_cases h2 : j < k * 128
    · rw [if_pos h2, if_pos (by omega)]
    · rw [if_neg h2, if_neg (by omega)]
theorem cp_zero (f : Nat → UInt8) : cpF f 0 = fun _ => 0 := by funext j; simp only [cpF]; rw [if_neg (by omega)]
theorem cp_all (f : Nat → UInt8) (n : Nat) : rowOf (n * 128) (u8v (cpF f n)) = rowOf (n * 128) (u8v f) := rowOf_congr fun j hj => by simp only [u8v, cpF]; rw [if_pos hj]
set_option maxHeartbeats 1000000 in
theorem rfrom_all (n cap : Nat) (sb so : Nat) (f : Nat → UInt8) (w : World) (h1 : 1 ≤ n) (h2 : n ≤ 4096) (hrd : Rd w sb so (n * 128) (u8v f)) :
    Calls Try.prog 27 #[.slice (some ⟨sb, so, none⟩) n cap] w fun e w' => ∃ r g c, e = .returned (.tuple #[.pointer (some ⟨r, 0, none⟩), .int .i64 0]) ∧ Tr w [] w' [refG r g c n f 0 false false 0] := by
  have hs := Tr.refl w []
  have HR := Lib.hid hrd
  clear hrd
  go_enter Try.func27, Try.ntmps27
  go_wp2_with (first
    | (go_at_call 12; refine (rnew_ok n _ h1 h2).mono ?_; rintro e w2 ⟨d, s, rfl, hc⟩; replace hs := (hs.call1 hc).split2; clear hc))
  go_loopw [6] (fun i wr => ∃ (k : Nat), k ≤ n ∧ i = .int .i64 k ∧ Tr w [] wr [Res.blk d #[.slice (some ⟨s, 0, none⟩) n n, .int .i64 0, .bool false, .int .i64 0, .bool false] 71, Res.blk s (rowOf (n * 128) (u8v (cpF f k))) 40]) (fun i _ => n - (intOf i).toNat)
  case atStart => exact ⟨0, by omega, rfl, by rw [cp_zero]; exact hs⟩
  case round =>
    clear hs
    obtain ⟨k, hk, rfl, hs⟩ := hrel
    by_cases hlt : k < n
    · have hlt2 : (k : Int) < n := by omega
      have HCP := Lib.hid (cp_step f n k)
      generalize hg : cpF f k = g at *
      go_upto_region 7 with fail
      refine wt_enterS (List.Sublist.cons_cons _ (List.nil_sublist _)) 11 rfl hs (by kernel_rfl) ?_
      clear hs; intro w1 hC hs
      refine wt_take 0 rfl (by kernel_rfl) (by kernel_rfl) (by kernel_rfl) (fun _ _ _ _ h => h) rfl hC ⟨_, fun w hw => by (go_simp; try with_reducible rfl), fun a1 ha => ?_⟩
      simp only [Act.put, List.setIfInBounds_toArray, List.set_cons_succ, List.set_cons_zero] at ha; subst ha
      refine wt_take 1 rfl (by kernel_rfl) (by kernel_rfl) (by kernel_rfl) (fun _ _ _ _ h => h) rfl hC ⟨_, fun w hw => by (go_simp; try with_reducible rfl), fun a1 ha => ?_⟩
      simp only [Act.put, List.setIfInBounds_toArray, List.set_cons_succ, List.set_cons_zero] at ha; subst ha
      refine wt_take 2 rfl (by kernel_rfl) (by kernel_rfl) (by kernel_rfl) (fun _ _ _ _ h => h) rfl hC ⟨_, fun w hw => by (go_simp; try with_reducible rfl), fun a1 ha => ?_⟩
      simp only [Act.put, List.setIfInBounds_toArray, List.set_cons_succ, List.set_cons_zero] at ha; subst ha
      refine wt_take 3 rfl (by kernel_rfl) (by kernel_rfl) (by kernel_rfl) (fun _ _ _ _ h => h) rfl hC ⟨_, fun w hw => ex_load1 rfl Try.underlying30 rfl rfl (by rw [cell_of_row w _ _ _ _ (0, 0) (hw.getB 0 rfl)]; rfl), fun a1 ha => ?_⟩
      simp only [Act.put, List.setIfInBounds_toArray, List.set_cons_succ, List.set_cons_zero] at ha; subst ha
      refine wt_take 4 rfl (by kernel_rfl) (by kernel_rfl) (by kernel_rfl) (fun _ _ _ _ h => h) rfl hC ⟨_, fun w hw => by (go_simp; try with_reducible rfl), fun a1 ha => ?_⟩
      simp only [Act.put, List.setIfInBounds_toArray, List.set_cons_succ, List.set_cons_zero] at ha; subst ha
      refine wt_take 5 rfl (by kernel_rfl) (by kernel_rfl) (by kernel_rfl) (fun _ _ _ _ h => h) rfl hC ⟨_, fun w hw => by (go_simp; try with_reducible rfl), fun a1 ha => ?_⟩
      simp only [Act.put, List.setIfInBounds_toArray, List.set_cons_succ, List.set_cons_zero] at ha; subst ha
      refine wt_take 6 rfl (by kernel_rfl) (by kernel_rfl) (by kernel_rfl) (fun _ _ _ _ h => h) rfl hC ⟨_, fun w hw => by (go_simp; try with_reducible rfl), fun a1 ha => ?_⟩
      simp only [Act.put, List.setIfInBounds_toArray, List.set_cons_succ, List.set_cons_zero] at ha; subst ha
      refine wt_take 7 rfl (by kernel_rfl) (by kernel_rfl) (by kernel_rfl) (fun _ _ _ _ h => h) rfl hC ⟨_, fun w hw => ex_indexS rfl Try.underlying30 size40 rfl rfl k rfl hlt rfl, fun a1 ha => ?_⟩
      simp only [Act.put, List.setIfInBounds_toArray, List.set_cons_succ, List.set_cons_zero] at ha; subst ha
      refine wt_take 8 rfl (by kernel_rfl) (by kernel_rfl) (by kernel_rfl) (fun _ _ _ _ h => h) rfl hC ⟨_, fun w hw => ex_loadMB rfl Try.underlying40 size40 rfl ((HR.out.keep hw).sub (k * 128) 128 (by omega)), fun a1 ha => ?_⟩
      simp only [Act.put, List.setIfInBounds_toArray, List.set_cons_succ, List.set_cons_zero] at ha; subst ha
      refine wt_take 9 rfl (by kernel_rfl) (by kernel_rfl) (by kernel_rfl) (fun _ _ _ _ h => h) rfl hC ⟨_, fun w hw => ex_indexS rfl Try.underlying30 size40 rfl rfl k rfl hlt rfl, fun a1 ha => ?_⟩
      simp only [Act.put, List.setIfInBounds_toArray, List.set_cons_succ, List.set_cons_zero] at ha; subst ha
      refine wt_one 10 (by kernel_rfl) ?_
      refine wt_storeM hs rfl rfl rfl rfl rfl size40 (fun _ _ => rfl) 1 rfl (by omega) (u8v (updF g k (fun j => f (k * 128 + j)))) (fun j hj => by simp only [u8v, updF, Nat.zero_add]; split <;> rfl) (by simp only [Act.put, List.setIfInBounds_toArray, List.set_cons_succ, List.set_cons_zero]; rfl) ?_
      clear hs; intro w1 hs
      refine wt_and (hs.sub (by repeat (first | exact List.Sublist.refl _ | exact List.nil_sublist _ | refine List.Sublist.cons_cons _ ?_ | refine List.Sublist.cons _ ?_))) fun hC => ?_
      refine wt_done (by kernel_rfl) ?_
      skip
      go_wp2_with fail
      go_roundw
      case rel => exact ⟨k + 1, by omega, by go_num, by rw [← HCP.out]; exact hs⟩
      case measure => simp [intOf]; omega
    · obtain rfl : n = k := by omega
      rw [cp_all] at hs
      go_wp2
      go_ret2
      exact ⟨_, _, _, rfl, (ref_own h2 hs.join2)⟩
end Go.Proofs.Ytcflolcaiedmfaa
