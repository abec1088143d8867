/- The document's sector of pointers. -/
import Derived.Test.YtdlnfdlgnbkppaaP2
namespace Go.Proofs.Ytdlnfdlgnbkppaa
set_option linter.unusedVariables false
set_option linter.unusedSimpArgs false
open Go Go.Sp Go.RowKit

theorem wrap_in {n : Int} (h : -9223372036854775808 ≤ n ∧ n ≤ 9223372036854775807) : IntKind.i64.wrap n = n := by rw [IntKind.wrap_i64]; omega
theorem div_step (v k : Nat) : v / 256 ^ k / 256 = v / 256 ^ (k + 1) := by rw [Nat.pow_succ, Nat.div_div_eq_div_mul]
theorem rset_cells (F : Nat → UInt8) (A v k q : Nat) (hq : q = v / 256 ^ k) (x : Int) (hx : x = (q : Int) % 256) : ∀ j, j < 128 →
    (if j = A + k then Value.int .u8 x else Sp.u8v (setF F A k v) j) = Sp.u8v (setF F A (k + 1) v) j := by
  intro j hj
  subst hx hq
  simp only [Sp.u8v, setF]
  by_cases h : j = A + k
  · subst h
    rw [if_pos rfl, if_pos (by omega), show A + k - A = k from by omega]
    generalize v / 256 ^ k = q
    rw [UInt8.toNat_ofNat']
    congr 1
  · rw [if_neg h]
    by_cases h2 : A ≤ j ∧ j < A + k
    · rw [if_pos h2, if_pos (by omega)]
    · rw [if_neg h2, if_neg (by omega)]
theorem rwithin_any (x : Int) (w : World) (h0 : 0 ≤ x) (h1 : x ≤ 4294967295) : Calls Try.prog 38 #[.int .i64 x, .int .i64 0, .int .i64 4294967295] w fun e w' => e = .returned (.bool true) ∧ w = w' := by
  go_enter Try.func38, Try.ntmps38
  go_wp2
  go_ret
  exact ⟨rfl, rfl⟩
set_option maxHeartbeats 1000000 in
theorem lay_any (F : Nat → UInt8) (A v : Nat) (w : World) (h : A + 4 ≤ 128) (hv : v < 4294967296) :
    Calls Try.prog 39 #[bytesV 128 F, .int .i64 (A : Int), .int .i64 4, .int .i64 (v : Int)] w fun e w' => e = .returned (bytesV 128 (setF F A 4 v)) ∧ Tr w [] w' [] := by
  have hs := Tr.refl w []
  have HS := Lib.hid (div_step v)
  have HC := Lib.hid (rset_cells F A v)
  go_enter Try.func39, Try.ntmps39
  go_wp2_with (first | ((with_reducible refine (at_box (t := 83)) rfl ?_); refine wl_boxA hs rfl rfl rfl ?_; clear hs; intro w1 b hs) | ((with_reducible refine (at_alloc (t := 83)) rfl ?_); refine wl_allocA hs rfl rfl zero83 ?_; clear hs; intro w1 rb hs))
  go_loopw [9, 10] (fun x i wr => ∃ k : Nat, k ≤ 4 ∧ i = .int .i64 k ∧ x = .int .i64 (v / 256 ^ k : Nat) ∧ Tr w [] wr [Res.blk rb (rowOf 128 (u8v fun _ => 0)) 83, Res.blk b (rowOf 128 (u8v (setF F A k v))) 83]) (fun _ i _ => 4 - (intOf i).toNat)
  case atStart => exact ⟨0, Nat.zero_le _, rfl, by rw [Nat.pow_zero, Nat.div_one], by rw [setF_zero]; exact hs⟩
  case round =>
    clear hs
    obtain ⟨k, hk, rfl, rfl, hs⟩ := hrel
    have HQ := Lib.hid (HS.out k)
    have hbd : v / 256 ^ k ≤ v := Nat.div_le_self _ _
    have HR := Lib.hid (HC.out k (v / 256 ^ k) rfl)
    generalize v / 256 ^ k = q at *
    by_cases hlt : k < 4
    · go_wp2_with (first | ((with_reducible refine at_store rfl ?_); refine wl_store1R hs rfl rfl size5 rfl rfl rfl 1 rfl (by omega) (u8v (setF F A (k + 1) v)) (HR.out _ rfl) ?_; clear hs; intro w1 hs))
      go_roundw
      case rel => exact ⟨k + 1, by omega, by go_num, by rw [← HQ.out]; go_num, hs⟩
      case measure => simp [intOf]; omega
    · obtain rfl : k = 4 := by omega
      go_wp2_with (first | ((with_reducible refine (at_load (t := 83)) rfl ?_); refine wl_loadB hs rfl rfl Try.underlying83 rfl 1 rfl size83 ?_) | ((with_reducible refine (at_store (t := 83)) rfl ?_); refine wl_storeA hs rfl rfl rfl rfl (size83r _) (one83 _) 0 rfl (by simp only [rowOf_size]) ?_; clear hs; intro w1 hs))
      exact ret_cell hs rfl rfl Try.underlying83 rfl rfl 0 rfl (size83r _) ⟨rfl, hs.letgo⟩
/-- The sector after k pointers are laid. -/
def psK (P : Nat → Int) : Nat → Nat → UInt8
  | 0 => fun _ => 0
  | k + 1 => setF (psK P k) (4 * k) 4 (P k).toNat
theorem psK_num {P : Nat → Int} (h : ∀ i, i < 32 → 0 ≤ P i ∧ P i ≤ 4294967295) : ∀ k, k ≤ 32 → ∀ i, i < k → num (psK P k) (4 * i) 4 = (P i).toNat
  | 0, _, i, hi => absurd hi (Nat.not_lt_zero i)
  | k + 1, hk, i, hi => by
    by_cases hik : i = k
    · subst hik
      have := h i (by omega)
      exact num_setF0 _ _ _ _ (by omega) (by rw [show 256 ^ 4 = 4294967296 from rfl]; omega)
    · rw [← psK_num h k (by omega) i (by omega)]
      exact num_congr _ _ fun j h1 h2 => setF_off _ _ _ _ _ (by omega)
theorem ptF_psK {P : Nat → Int} (h : ∀ i, i < 32 → 0 ≤ P i ∧ P i ≤ 4294967295) {i : Nat} (hi : i < 32) : ptF (psK P 32) i = P i := by
  have h1 := psK_num h 32 (by omega) i hi
  have h2 := h i hi
  unfold ptF
  rw [h1]; omega
set_option maxHeartbeats 1000000 in
theorem psec_any (P : Nat → Int) (w : World) (h : ∀ i, i < 32 → 0 ≤ P i ∧ P i ≤ 4294967295) :
    Calls Try.prog 31 #[.agg (rowOf 32 (gI P))] w fun e w' => e = .returned (.tuple #[bytesV 128 (psK P 32), .int .i64 0]) ∧ Tr w [] w' [] := by
  have hs := Tr.refl w []
  have H := Lib.hid h
  clear h
  go_enter Try.func31, Try.ntmps31
  go_upto_region 1 with (first | ((with_reducible refine (at_box (t := 69)) rfl ?_); refine wl_boxA hs rfl rfl rfl ?_; clear hs; intro w1 xb hs) | ((with_reducible refine (at_alloc (t := 83)) rfl ?_); refine wl_allocA hs rfl rfl zero83 ?_; clear hs; intro w1 ab hs))
  go_wp2_with (first | ((with_reducible refine (at_alloc (t := 83)) rfl ?_); refine wl_allocA hs rfl rfl zero83 ?_; clear hs; intro w1 cb hs))
  go_loopw [5] (fun i wr => ∃ k : Nat, k ≤ 32 ∧ i = .int .i64 k ∧ Tr w [] wr [Res.blk cb (rowOf 128 (u8v (psK P k))) 83, Res.blk ab (rowOf 128 (u8v fun _ => 0)) 83, Res.blk xb (rowOf 32 (gI P)) 69]) (fun i _ => 32 - (intOf i).toNat)
  case atStart => exact ⟨0, by omega, rfl, hs⟩
  case round =>
    clear hs
    obtain ⟨k, hk, rfl, hs⟩ := hrel
    by_cases hlt : k < 32
    · have hltI : (k : Int) < 32 := by omega
      obtain ⟨h0, h1⟩ := H.out k hlt
      have HS := Lib.hid (fun w => lay_any (psK P k) (4 * k) (P k).toNat w (by omega) (by omega))
      rw [show ((4 * k : Nat) : Int) = 4 * (k : Int) by omega] at HS
      have HL : Hid ((rowOf 32 (gI P))[k]? = some (.int .i64 ((P k).toNat : Int))) := Lib.hid (by rw [rowOf_gI hlt]; congr 2; omega)
      have HW := Lib.hid (fun w => rwithin_any ((P k).toNat : Int) w (by omega) (by omega))
      have HN : Hid (setF (psK P k) (4 * k) 4 (P k).toNat = psK P (k + 1)) := Lib.hid rfl
      rw [HN.out] at HS
      generalize (P k).toNat = v at *
      clear h0 h1 HN
      go_upto_region 7 with (first | ((with_reducible refine (at_load (t := 3)) rfl ?_); refine wl_load1 hs rfl rfl Try.underlying3 rfl rfl 2 rfl HL.out ?_) | (go_at_call 38; refine (HW.out _).mono ?_; rintro e w2 ⟨rfl, rfl⟩))
      refine wt_enterS (List.Sublist.cons _ (List.Sublist.cons _ (List.Sublist.refl _))) 8 rfl hs (by kernel_rfl) ?_
      clear hs; intro w1 hC hs
      refine wt_take 1 rfl (by kernel_rfl) (by kernel_rfl) (by kernel_rfl) (fun _ _ _ _ h => h) rfl hC ⟨_, fun w hw => by (go_simp; try with_reducible rfl), fun a1 ha => ?_⟩
      simp only [Act.put, List.setIfInBounds_toArray, List.set_cons_succ, List.set_cons_zero] at ha; subst ha
      refine wt_take 2 rfl (by kernel_rfl) (by kernel_rfl) (by kernel_rfl) (fun _ _ _ _ h => h) rfl hC ⟨.int .i64 (4 * (k : Int)), fun w hw => by (go_simp; first | done | rfl | (congr 1; exact wrap_in (by omega)) | (rw [wrap_in (by omega)])), fun a1 ha => ?_⟩
      simp only [Act.put, List.setIfInBounds_toArray, List.set_cons_succ, List.set_cons_zero] at ha; subst ha
      refine wt_take 3 rfl (by kernel_rfl) (by kernel_rfl) (by kernel_rfl) (fun _ _ _ _ h => h) rfl hC ⟨_, fun w hw => by (go_simp; try with_reducible rfl), fun a1 ha => ?_⟩
      simp only [Act.put, List.setIfInBounds_toArray, List.set_cons_succ, List.set_cons_zero] at ha; subst ha
      refine wt_take 4 rfl (by kernel_rfl) (by kernel_rfl) (by kernel_rfl) (fun _ _ _ _ h => h) rfl hC ⟨.pointer (some ⟨xb, k, none⟩), fun w hw => ex_indexA1 rfl Try.underlying69 size3 rfl rfl k rfl hlt, fun a1 ha => ?_⟩
      simp only [Act.put, List.setIfInBounds_toArray, List.set_cons_succ, List.set_cons_zero] at ha; subst ha
      refine wt_take 5 rfl (by kernel_rfl) (by kernel_rfl) (by kernel_rfl) (fun _ _ _ _ h => h) rfl hC ⟨.int .i64 (v : Int), fun w hw => ex_load1 rfl Try.underlying3 rfl rfl (by rw [cell_of_row w _ _ _ _ (0, 0) (hw.getB 0 rfl)]; exact HL.out), fun a1 ha => ?_⟩
      simp only [Act.put, List.setIfInBounds_toArray, List.set_cons_succ, List.set_cons_zero] at ha; subst ha
      refine wt_one 0 (by kernel_rfl) ?_
      refine wt_run (v := bytesV 128 (psK P k)) rfl rfl (ex_loadB rfl Try.underlying83 size83 rfl (hs.getB 0 rfl)) (by simp only [Act.put, List.setIfInBounds_toArray, List.set_cons_succ, List.set_cons_zero]; rfl) ?_
      refine wt_and (hs.sub (by repeat (first | exact List.Sublist.refl _ | refine List.Sublist.cons_cons _ ?_ | refine List.Sublist.cons _ ?_))) fun hC => ?_
      refine wt_one 6 (by kernel_rfl) ?_
      refine wt_call0 hs rfl rfl (by go_simp) (HS.out _) (by simp only [Act.put, List.setIfInBounds_toArray, List.set_cons_succ, List.set_cons_zero]; rfl) ?_
      clear hs; intro w1 hs
      refine wt_and (hs.sub (by repeat (first | exact List.Sublist.refl _ | refine List.Sublist.cons_cons _ ?_ | refine List.Sublist.cons _ ?_))) fun hC => ?_
      refine wt_one 7 (by kernel_rfl) ?_
      refine wt_storeA hs rfl rfl rfl rfl rfl (size83r _) (one83 _) 0 rfl (by simp only [rowOf_size]) (by simp only [Act.put, List.setIfInBounds_toArray, List.set_cons_succ, List.set_cons_zero]; rfl) ?_
      clear hs; intro w1 hs
      refine wt_and (hs.sub (by repeat (first | exact List.Sublist.refl _ | refine List.Sublist.cons_cons _ ?_ | refine List.Sublist.cons _ ?_))) fun hC => ?_
      refine wt_done (by kernel_rfl) ?_
      skip
      clear hC
      go_wp2_with fail
      go_roundw
      case rel => exact ⟨k + 1, by omega, by go_num, hs⟩
      case measure => simp [intOf]; omega
    · obtain rfl : k = 32 := by omega
      go_wp2_with (first | ((with_reducible refine (at_load (t := 83)) rfl ?_); refine wl_loadB hs rfl rfl Try.underlying83 rfl 0 rfl size83 ?_) | ((with_reducible refine (at_store (t := 83)) rfl ?_); refine wl_storeA hs rfl rfl rfl rfl (size83r _) (one83 _) 1 rfl (by simp only [rowOf_size]) ?_; clear hs; intro w1 hs))
      exact ret_cell2 hs rfl rfl Try.underlying83 rfl rfl rfl 1 rfl (size83r _) ⟨rfl, hs.letgo⟩
end Go.Proofs.Ytdlnfdlgnbkppaa
