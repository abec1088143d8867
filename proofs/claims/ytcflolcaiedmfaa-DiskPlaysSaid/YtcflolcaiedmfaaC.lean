/- Disk: more contracts; awake. -/
import Derived.Test.YtcflolcaiedmfaaB
namespace Go.Proofs.Ytcflolcaiedmfaa
set_option linter.unusedVariables false
set_option linter.unusedSimpArgs false
open Go Go.Sp Go.RowKit Go.BigFrame

section
variable {d s n : Nat} {f : Nat → UInt8} {wr : Int} {off armed : Bool} {left : Int} {w : World}

theorem write_off (i : Nat) (F : Nat → UInt8) (hn : n ≤ 4096) (hi : i < n) (h : (diskR d s n f wr false true 0).holds w) :
    Calls Try.prog 21 #[.pointer (some ⟨d, 0, none⟩), .int .i64 (i : Int), bytesV 128 F] w fun e w' => e = .returned (.int .i64 22) ∧ Tr w (diskR d s n f wr false true 0).foot w' [diskR d s n f wr true false 0] := by
  have hs := Tr.open2 h
  have HC := Lib.hid (fun w => check_any (d := d) (s := s) (f := f) (wr := wr) (armed := true) (left := 0) (w := w) (off := false) i (by omega : n ≤ 9223372036854775807))
  rw [show ck false n i = 0 by simp only [ck]; rw [if_neg (by simp), if_pos (by omega)]] at HC
  have h := Lib.hid h
  go_enter Try.func21, Try.ntmps21
  go_wp2_with (first
    | ((with_reducible refine at_box rfl ?_); refine wl_boxA hs rfl rfl rfl ?_; clear hs; intro w1 b hs)
    | (go_at_call 34; refine (HC.out _ ((hs.sub (L' := [_, _]) (by exact List.Sublist.cons _ (List.Sublist.refl _))).join2.get 0 rfl)).mono ?_; rintro e w2 ⟨rfl, hc⟩; replace hs := hs.call0 hc; clear hc)
    | ((with_reducible refine at_load rfl ?_); refine wl_load1 hs rfl rfl Try.underlying4 rfl rfl 1 rfl rfl ?_) | ((with_reducible refine at_load rfl ?_); refine wl_load1 hs rfl rfl Try.underlying3 rfl rfl 1 rfl rfl ?_)
    | ((with_reducible refine at_store rfl ?_); refine wl_storeS hs rfl rfl rfl rfl size74 (by simp [Value.oneCell']) 1 rfl (by simp) _ rfl ?_; clear hs; intro w1 hs))
  go_ret
  exact ⟨rfl, (hs.erase 0).join2⟩

theorem read_ok (i : Nat) (hn : n ≤ 4096) (hi : i < n) (h : (diskR d s n f wr false armed left).holds w) :
    Calls Try.prog 23 #[.pointer (some ⟨d, 0, none⟩), .int .i64 (i : Int)] w fun e w' => e = .returned (.tuple #[bytesV 128 (fun j => f (0 + i * 128 + j)), .int .i64 0]) ∧ Tr w [] w' [] := by
  have hs := Tr.open2 h
  have HC := Lib.hid (fun w => check_any (d := d) (s := s) (f := f) (wr := wr) (armed := armed) (left := left) (w := w) (off := false) i (by omega : n ≤ 9223372036854775807))
  rw [show ck false n i = 0 by simp only [ck]; rw [if_neg (by simp), if_pos (by omega)]] at HC
  have H := Lib.hid h
  clear h
  go_enter Try.func23, Try.ntmps23
  go_wp2_with (first
    | ((with_reducible refine at_alloc rfl ?_); refine wl_allocA hs rfl rfl zero40 ?_; clear hs; intro w1 b hs)
    | (go_at_call 34; refine (HC.out _ ((hs.sub (L' := [_, _]) (by exact List.Sublist.cons _ (List.Sublist.refl _))).join2.get 0 rfl)).mono ?_; rintro e w2 ⟨rfl, hc⟩; replace hs := hs.call0 hc; clear hc)
    | ((with_reducible refine at_load rfl ?_); refine wl_load1 hs rfl rfl Try.underlying30 rfl rfl 1 rfl rfl ?_)
    | ((with_reducible refine at_index rfl ?_); refine wl_index rfl rfl Try.underlying30 size40 rfl rfl i rfl hi rfl ?_)
    | ((with_reducible refine at_load rfl ?_); refine wl_loadMB rfl rfl Try.underlying40 size40 rfl (F := fun j => f (0 + i * 128 + j)) (hs.rd 2 rfl (by omega)) ?_)
    | ((with_reducible refine at_store rfl ?_); refine wl_storeA hs rfl rfl rfl rfl (size40r _) (one40 _) 0 rfl (by simp only [rowOf_size]) ?_; clear hs; intro w1 hs))
  exact ret_cell2 hs rfl rfl Try.underlying40 rfl rfl rfl 0 rfl (size40r _) ⟨rfl, (Tr.same2 H.out hs.rot1).letgo⟩

theorem read_no (i : Int) (c : Int) (hn : n ≤ 4096) (hc : ck off n i = c) (hc0 : c ≠ 0) (h : (diskR d s n f wr off armed left).holds w) :
    Calls Try.prog 23 #[.pointer (some ⟨d, 0, none⟩), .int .i64 i] w fun e w' => e = .returned (.tuple #[bytesV 128 (fun _ => 0), .int .i64 c]) ∧ Tr w [] w' [] := by
  have hs := Tr.open2 h
  have HC := Lib.hid (fun w => check_any (d := d) (s := s) (f := f) (wr := wr) (armed := armed) (left := left) (w := w) (off := off) i (by omega : n ≤ 9223372036854775807))
  rw [hc] at HC
  have H := Lib.hid h
  clear h hc
  go_enter Try.func23, Try.ntmps23
  go_wp2_with (first
    | ((with_reducible refine at_alloc rfl ?_); refine wl_allocA hs rfl rfl zero40 ?_; clear hs; intro w1 b hs)
    | (go_at_call 34; refine (HC.out _ ((hs.sub (L' := [_, _]) (by exact List.Sublist.cons _ (List.Sublist.refl _))).join2.get 0 rfl)).mono ?_; rintro e w2 ⟨rfl, hc⟩; replace hs := hs.call0 hc; clear hc)
    | ((with_reducible refine at_build rfl ?_); refine wl_build0B rfl rfl Try.underlying40 (F := fun _ => 0) zero40 isz5 ?_)
    | ((with_reducible refine at_store rfl ?_); refine wl_storeA hs rfl rfl rfl rfl (size40r _) (one40 _) 0 rfl (by simp only [rowOf_size]) ?_; clear hs; intro w1 hs))
  exact ret_cell2 hs rfl rfl Try.underlying40 rfl rfl rfl 0 rfl (size40r _) ⟨rfl, (Tr.same2 H.out hs.rot1).letgo⟩
end

theorem same_yes (F G : Nat → UInt8) (m c1 c2 : Nat) (ao bo : Option Addr) (ab aoff bb boff : Nat) (w : World) (hm : m ≤ 9223372036854775807) (ha : 0 < m → ao = some ⟨ab, aoff, none⟩) (hb : 0 < m → bo = some ⟨bb, boff, none⟩)
    (hA : Rd w ab aoff (m * 128) (u8v F)) (hB : Rd w bb boff (m * 128) (u8v G)) (h : ∀ i, i < m * 128 → F i = G i) :
    Calls Try.prog 14 #[.slice ao m c1, .slice bo m c2] w fun e w' => e = .returned (.bool true) ∧ Tr w [] w' [] := by
  have hs := Tr.refl w []
  have HA := Lib.hid hA
  have HB := Lib.hid hB
  have ha := Lib.hid ha
  have hb := Lib.hid hb
  have h := Lib.hid h
  clear hA hB
  go_enter Try.func14, Try.ntmps14
  go_wp2
  go_loopw [5] (fun i wr => ∃ k : Nat, k ≤ m ∧ i = .int .i64 k ∧ Tr w [] wr []) (fun i _ => m - (intOf i).toNat)
  case atStart => exact ⟨0, by omega, rfl, hs⟩
  case round =>
    clear hs
    obtain ⟨k, hk, rfl, hs⟩ := hrel
    by_cases hlt : k < m
    · have hlt2 : (k : Int) < m := by omega
      obtain rfl := ha.out (by omega)
      obtain rfl := hb.out (by omega)
      have HE : eqB 128 (fun j => F (k * 128 + j)) (fun j => G (k * 128 + j)) = true := eqB_iff.2 fun i hi => h.out _ (by omega)
      replace HE := Lib.hid HE
      go_wp2_with fail
      (refine wq_enter hs (by kernel_rfl) (by kernel_rfl) ?_; intro hne; clear hs)
      repeat (first | go_big_quiet_skip | ((with_reducible refine qat_index rfl ?_); refine wq_index rfl rfl Try.underlying30 size40 rfl rfl k rfl hlt rfl ?_; refine wq_frame (by simp only [Act.put, List.setIfInBounds_toArray, List.set_cons_succ, List.set_cons_zero]; rfl) ?_) | ((with_reducible refine qat_load rfl ?_); refine wq_loadMB (F := fun j => F (k * 128 + j)) rfl rfl Try.underlying40 size40 rfl (fun w hw => (HA.out.keep hw).sub (k * 128) 128 (by omega)) ?_; refine wq_frame (by simp only [Act.put, List.setIfInBounds_toArray, List.set_cons_succ, List.set_cons_zero]; rfl) ?_) | ((with_reducible refine qat_load rfl ?_); refine wq_loadMB (F := fun j => G (k * 128 + j)) rfl rfl Try.underlying40 size40 rfl (fun w hw => (HB.out.keep hw).sub (k * 128) 128 (by omega)) ?_; refine wq_frame (by simp only [Act.put, List.setIfInBounds_toArray, List.set_cons_succ, List.set_cons_zero]; rfl) ?_) | ((with_reducible refine (qat_bin .neq) rfl ?_); refine wq_neqBR rfl rfl Try.underlying40 Try.underlying5 size5 eqg40 rfl rfl false (by rw [HE.out]; rfl) ?_; refine wq_frame (by simp only [Act.put, List.setIfInBounds_toArray, List.set_cons_succ, List.set_cons_zero]; rfl) ?_) | (go_big_quiet_want; go_big_quiet_op; first | go_big_quiet_on | (refine ⟨_, fun _ => rfl, ?_⟩; go_big_quiet_on)))
      (refine wpQuiet_nil ?_; intro w1 hs)
      go_wp2_with fail
      go_roundw
      case rel => exact ⟨k + 1, by omega, by go_num, hs⟩
      case measure => simp [intOf]; omega
    · obtain rfl : k = m := by omega
      go_wp2
      go_ret
      exact ⟨rfl, hs⟩

def kG : Nat → UInt8 := fun i => if i = 0 then 7 else 8
def kH : Nat → UInt8 := fun _ => 9
def k1 : Nat → UInt8 := updF (fun _ => 0) 1 (ofF 2 kG)
theorem kc : (#[.int .u8 7, .int .u8 8] : Array Value) = rowOf 2 (u8v kG) := by
  refine rowOf_ext rfl fun i hi => ?_
  match i, hi with
  | 0, _ => rfl
  | 1, _ => rfl
theorem kc9 : (#[.int .u8 9] : Array Value) = rowOf 1 (u8v kH) := by
  refine rowOf_ext rfl fun i hi => ?_
  match i, hi with
  | 0, _ => rfl
theorem ke1 : eqB 128 (fun j => k1 (0 + 1 * 128 + j)) (ofF 2 kG) = true := by decide
theorem ke0 : eqB 128 (fun j => k1 (0 + 0 * 128 + j)) (fun _ => 0) = true := by decide

set_option maxHeartbeats 1000000 in
theorem awake_any (w : World) : Calls Try.prog 10 #[] w fun e w' => e = .returned (.bool true) ∧ Tr w [] w' [] := by
  have hs := Tr.refl w []
  have N2 : Hid (∀ w, Calls Try.prog 11 #[.int .i64 2] w fun e w' => ∃ d s, e = .returned (.tuple #[.pointer (some ⟨d, 0, none⟩), .int .i64 0]) ∧ Tr w [] w' [diskR d s 2 (fun _ => 0) 0 false false 0]) := Lib.hid fun w => new_ok 2 w (by omega) (by omega)
  go_enter Try.func10, Try.ntmps10
  go_upto_region 4 with (first
    | (go_at_call 11; refine (N2.out _).mono ?_; rintro e w2 ⟨d, s, rfl, hc⟩; replace hs := hs.call1 hc; clear hc))
  have W1 : Hid (∀ w, (diskR d s 2 (fun _ => 0) 0 false true 1).holds w → Calls Try.prog 21 #[.pointer (some ⟨d, 0, none⟩), .int .i64 1, bytesV 128 (ofF 2 kG)] w fun e w' => e = .returned (.int .i64 0) ∧ Tr w (diskR d s 2 (fun _ => 0) 0 false true 1).foot w' [diskR d s 2 k1 1 false true 0]) :=
    Lib.hid fun w h => write_yes 1 (ofF 2 kG) 0 (by omega) (by omega) (by omega) (Or.inl ⟨rfl, by omega, by omega, rfl⟩) h
  have W0 : Hid (∀ w, (diskR d s 2 k1 1 false true 0).holds w → Calls Try.prog 21 #[.pointer (some ⟨d, 0, none⟩), .int .i64 0, bytesV 128 (ofF 1 kH)] w fun e w' => e = .returned (.int .i64 22) ∧ Tr w (diskR d s 2 k1 1 false true 0).foot w' [diskR d s 2 k1 1 true false 0]) :=
    Lib.hid fun w h => write_off 0 (ofF 1 kH) (by omega) (by omega) h
  go_upto_region 6 with (first
    | (go_at_call 20; refine (arm_ok 1 (by omega) (hs.get 0 rfl)).mono ?_; rintro e w2 ⟨rfl, hc⟩; replace hs := hs.upd 0 rfl hc; clear hc)
    | ((with_reducible refine at_buildSlice rfl ?_); refine wl_buildSliceV hs rfl rfl Try.underlying42 info5 (by omega) (by omega) [.int .u8 7, .int .u8 8] rfl rfl (by simp [Value.oneCell']) ?_; clear hs; intro w1 b2 hs; rw [kc] at hs)
    | (go_at_call 22; refine (of_any kG 2 2 _ b2 0 _ (fun _ => rfl) (hs.rd0 0 rfl (by omega))).mono ?_; rintro e w2 ⟨rfl, hc⟩; replace hs := hs.call0 hc; clear hc)
    | (go_at_call 21; refine (W1.out _ (hs.get 1 rfl)).mono ?_; rintro e w2 ⟨rfl, hc⟩; replace hs := hs.upd 1 rfl hc; clear hc))
  go_upto_region 8 with (first
    | ((with_reducible refine at_buildSlice rfl ?_); refine wl_buildSliceV hs rfl rfl Try.underlying42 info5 (by omega) (by omega) [.int .u8 9] rfl rfl (by simp [Value.oneCell']) ?_; clear hs; intro w1 b3 hs; rw [kc9] at hs)
    | (go_at_call 22; refine (of_any kH 1 1 _ b3 0 _ (fun _ => rfl) (hs.rd0 0 rfl (by omega))).mono ?_; rintro e w2 ⟨rfl, hc⟩; replace hs := hs.call0 hc; clear hc)
    | (go_at_call 21; refine (W0.out _ (hs.get 2 rfl)).mono ?_; rintro e w2 ⟨rfl, hc⟩; replace hs := hs.upd 2 rfl hc; clear hc)
    | (go_at_call 13; refine (image_any (by omega) (hs.get 2 rfl)).mono ?_; rintro e w2 ⟨b4, rfl, hc⟩; replace hs := hs.call1 hc; clear hc))
  refine wt_enter 35 rfl hs (by kernel_rfl) ?_
  clear hs; intro w1 hs; have hC := hs
  refine wt_take 0 rfl (by kernel_rfl) (by kernel_rfl) (by kernel_rfl) (fun _ _ _ _ h => h) rfl hC ⟨_, fun w hw => by (go_simp; try with_reducible rfl), fun a1 ha => ?_⟩
  simp only [Act.put, List.setIfInBounds_toArray, List.set_cons_succ, List.set_cons_zero] at ha; subst ha
  refine wt_take 1 rfl (by kernel_rfl) (by kernel_rfl) (by kernel_rfl) (fun _ _ _ _ h => h) rfl hC ⟨_, fun w hw => by (go_simp; try with_reducible rfl), fun a1 ha => ?_⟩
  simp only [Act.put, List.setIfInBounds_toArray, List.set_cons_succ, List.set_cons_zero] at ha; subst ha
  refine wt_take 2 rfl (by kernel_rfl) (by kernel_rfl) (by kernel_rfl) (fun _ _ _ _ h => h) rfl hC ⟨_, fun w hw => by (go_simp; try with_reducible rfl), fun a1 ha => ?_⟩
  simp only [Act.put, List.setIfInBounds_toArray, List.set_cons_succ, List.set_cons_zero] at ha; subst ha
  refine wt_take 3 rfl (by kernel_rfl) (by kernel_rfl) (by kernel_rfl) (fun _ _ _ _ h => h) rfl hC ⟨_, fun w hw => by (go_simp; try with_reducible rfl), fun a1 ha => ?_⟩
  simp only [Act.put, List.setIfInBounds_toArray, List.set_cons_succ, List.set_cons_zero] at ha; subst ha
  refine wt_take 4 rfl (by kernel_rfl) (by kernel_rfl) (by kernel_rfl) (fun _ _ _ _ h => h) rfl hC ⟨_, fun w hw => by (go_simp; try with_reducible rfl), fun a1 ha => ?_⟩
  simp only [Act.put, List.setIfInBounds_toArray, List.set_cons_succ, List.set_cons_zero] at ha; subst ha
  refine wt_take 5 rfl (by kernel_rfl) (by kernel_rfl) (by kernel_rfl) (fun _ _ _ _ h => h) rfl hC ⟨_, fun w hw => by (go_simp; try with_reducible rfl), fun a1 ha => ?_⟩
  simp only [Act.put, List.setIfInBounds_toArray, List.set_cons_succ, List.set_cons_zero] at ha; subst ha
  refine wt_take 6 rfl (by kernel_rfl) (by kernel_rfl) (by kernel_rfl) (fun _ _ _ _ h => h) rfl hC ⟨_, fun w hw => by (go_simp; try with_reducible rfl), fun a1 ha => ?_⟩
  simp only [Act.put, List.setIfInBounds_toArray, List.set_cons_succ, List.set_cons_zero] at ha; subst ha
  refine wt_take 7 rfl (by kernel_rfl) (by kernel_rfl) (by kernel_rfl) (fun _ _ _ _ h => h) rfl hC ⟨_, fun w hw => by (go_simp; try with_reducible rfl), fun a1 ha => ?_⟩
  simp only [Act.put, List.setIfInBounds_toArray, List.set_cons_succ, List.set_cons_zero] at ha; subst ha
  refine wt_take 8 rfl (by kernel_rfl) (by kernel_rfl) (by kernel_rfl) (fun _ _ _ _ h => h) rfl hC ⟨_, fun w hw => by (go_simp; try with_reducible rfl), fun a1 ha => ?_⟩
  simp only [Act.put, List.setIfInBounds_toArray, List.set_cons_succ, List.set_cons_zero] at ha; subst ha
  refine wt_take 9 rfl (by kernel_rfl) (by kernel_rfl) (by kernel_rfl) (fun _ _ _ _ h => h) rfl hC ⟨_, fun w hw => by (go_simp; try with_reducible rfl), fun a1 ha => ?_⟩
  simp only [Act.put, List.setIfInBounds_toArray, List.set_cons_succ, List.set_cons_zero] at ha; subst ha
  refine wt_take 10 rfl (by kernel_rfl) (by kernel_rfl) (by kernel_rfl) (fun _ _ _ _ h => h) rfl hC ⟨_, fun w hw => by (go_simp; try with_reducible rfl), fun a1 ha => ?_⟩
  simp only [Act.put, List.setIfInBounds_toArray, List.set_cons_succ, List.set_cons_zero] at ha; subst ha
  refine wt_take 11 rfl (by kernel_rfl) (by kernel_rfl) (by kernel_rfl) (fun _ _ _ _ h => h) rfl hC ⟨_, fun w hw => by (go_simp; try with_reducible rfl), fun a1 ha => ?_⟩
  simp only [Act.put, List.setIfInBounds_toArray, List.set_cons_succ, List.set_cons_zero] at ha; subst ha
  refine wt_one 12 (by kernel_rfl) ?_
  refine wt_call0 hs rfl rfl (by go_simp) (down_any (hs.get 3 rfl)) (by simp only [Act.put, List.setIfInBounds_toArray, List.set_cons_succ, List.set_cons_zero]; rfl) ?_
  clear hs; intro w1 hs
  refine wt_and (hs.sub (by repeat (first | exact List.Sublist.refl _ | refine List.Sublist.cons_cons _ ?_ | refine List.Sublist.cons _ ?_))) fun hC => ?_
  refine wt_take 13 rfl (by kernel_rfl) (by kernel_rfl) (by kernel_rfl) (fun _ _ _ _ h => h) rfl hC ⟨_, fun w hw => by (go_simp; try with_reducible rfl), fun a1 ha => ?_⟩
  simp only [Act.put, List.setIfInBounds_toArray, List.set_cons_succ, List.set_cons_zero] at ha; subst ha
  refine wt_take 14 rfl (by kernel_rfl) (by kernel_rfl) (by kernel_rfl) (fun _ _ _ _ h => h) rfl hC ⟨_, fun w hw => by (go_simp; try with_reducible rfl), fun a1 ha => ?_⟩
  simp only [Act.put, List.setIfInBounds_toArray, List.set_cons_succ, List.set_cons_zero] at ha; subst ha
  refine wt_take 15 rfl (by kernel_rfl) (by kernel_rfl) (by kernel_rfl) (fun _ _ _ _ h => h) rfl hC ⟨_, fun w hw => by (go_simp; try with_reducible rfl), fun a1 ha => ?_⟩
  simp only [Act.put, List.setIfInBounds_toArray, List.set_cons_succ, List.set_cons_zero] at ha; subst ha
  refine wt_take 16 rfl (by kernel_rfl) (by kernel_rfl) (by kernel_rfl) (fun _ _ _ _ h => h) rfl hC ⟨_, fun w hw => by (go_simp; try with_reducible rfl), fun a1 ha => ?_⟩
  simp only [Act.put, List.setIfInBounds_toArray, List.set_cons_succ, List.set_cons_zero] at ha; subst ha
  refine wt_take 17 rfl (by kernel_rfl) (by kernel_rfl) (by kernel_rfl) (fun _ _ _ _ h => h) rfl hC ⟨_, fun w hw => by (go_simp; try with_reducible rfl), fun a1 ha => ?_⟩
  simp only [Act.put, List.setIfInBounds_toArray, List.set_cons_succ, List.set_cons_zero] at ha; subst ha
  refine wt_take 18 rfl (by kernel_rfl) (by kernel_rfl) (by kernel_rfl) (fun _ _ _ _ h => h) rfl hC ⟨_, fun w hw => by (go_simp; try with_reducible rfl), fun a1 ha => ?_⟩
  simp only [Act.put, List.setIfInBounds_toArray, List.set_cons_succ, List.set_cons_zero] at ha; subst ha
  refine wt_take 19 rfl (by kernel_rfl) (by kernel_rfl) (by kernel_rfl) (fun _ _ _ _ h => h) rfl hC ⟨_, fun w hw => by (go_simp; try with_reducible rfl), fun a1 ha => ?_⟩
  simp only [Act.put, List.setIfInBounds_toArray, List.set_cons_succ, List.set_cons_zero] at ha; subst ha
  refine wt_take 20 rfl (by kernel_rfl) (by kernel_rfl) (by kernel_rfl) (fun _ _ _ _ h => h) rfl hC ⟨_, fun w hw => by (go_simp; try with_reducible rfl), fun a1 ha => ?_⟩
  simp only [Act.put, List.setIfInBounds_toArray, List.set_cons_succ, List.set_cons_zero] at ha; subst ha
  refine wt_take 21 rfl (by kernel_rfl) (by kernel_rfl) (by kernel_rfl) (fun _ _ _ _ h => h) rfl hC ⟨_, fun w hw => ex_indexS rfl Try.underlying30 size40 rfl rfl 1 rfl (by omega) rfl, fun a1 ha => ?_⟩
  simp only [Act.put, List.setIfInBounds_toArray, List.set_cons_succ, List.set_cons_zero] at ha; subst ha
  refine wt_take 22 rfl (by kernel_rfl) (by kernel_rfl) (by kernel_rfl) (fun _ _ _ _ h => h) rfl hC ⟨_, fun w hw => ex_loadMB rfl Try.underlying40 size40 rfl (hw.rd 0 rfl (by omega)), fun a1 ha => ?_⟩
  simp only [Act.put, List.setIfInBounds_toArray, List.set_cons_succ, List.set_cons_zero] at ha; subst ha
  refine wt_one 23 (by kernel_rfl) ?_
  refine wt_buildV hs rfl rfl rfl Try.underlying42 info5 (by omega) (by omega) [.int .u8 7, .int .u8 8] rfl rfl (by simp [Value.oneCell']) _ kc (fun _ => by simp only [Act.put, List.setIfInBounds_toArray, List.set_cons_succ, List.set_cons_zero]; rfl) ?_
  clear hs; intro w1 b5 hs
  refine wt_and (hs.sub (by repeat (first | exact List.Sublist.refl _ | refine List.Sublist.cons_cons _ ?_ | refine List.Sublist.cons _ ?_))) fun hC => ?_
  refine wt_one 24 (by kernel_rfl) ?_
  refine wt_call0 hs rfl rfl (by go_simp) (of_any kG 2 2 _ b5 0 _ (fun _ => rfl) (hs.rd0 0 rfl (by omega))) (by simp only [Act.put, List.setIfInBounds_toArray, List.set_cons_succ, List.set_cons_zero]; rfl) ?_
  clear hs; intro w1 hs
  refine wt_and (hs.sub (by repeat (first | exact List.Sublist.refl _ | refine List.Sublist.cons_cons _ ?_ | refine List.Sublist.cons _ ?_))) fun hC => ?_
  refine wt_take 25 rfl (by kernel_rfl) (by kernel_rfl) (by kernel_rfl) (fun _ _ _ _ h => h) rfl hC ⟨.bool true, fun w hw => ex_eqlBR rfl Try.underlying40 Try.underlying5 size5 eqg40 rfl rfl ke1, fun a1 ha => ?_⟩
  simp only [Act.put, List.setIfInBounds_toArray, List.set_cons_succ, List.set_cons_zero] at ha; subst ha
  refine wt_take 26 rfl (by kernel_rfl) (by kernel_rfl) (by kernel_rfl) (fun _ _ _ _ h => h) rfl hC ⟨_, fun w hw => by (go_simp; try with_reducible rfl), fun a1 ha => ?_⟩
  simp only [Act.put, List.setIfInBounds_toArray, List.set_cons_succ, List.set_cons_zero] at ha; subst ha
  refine wt_take 27 rfl (by kernel_rfl) (by kernel_rfl) (by kernel_rfl) (fun _ _ _ _ h => h) rfl hC ⟨_, fun w hw => by (go_simp; try with_reducible rfl), fun a1 ha => ?_⟩
  simp only [Act.put, List.setIfInBounds_toArray, List.set_cons_succ, List.set_cons_zero] at ha; subst ha
  refine wt_take 28 rfl (by kernel_rfl) (by kernel_rfl) (by kernel_rfl) (fun _ _ _ _ h => h) rfl hC ⟨_, fun w hw => by (go_simp; try with_reducible rfl), fun a1 ha => ?_⟩
  simp only [Act.put, List.setIfInBounds_toArray, List.set_cons_succ, List.set_cons_zero] at ha; subst ha
  refine wt_take 29 rfl (by kernel_rfl) (by kernel_rfl) (by kernel_rfl) (fun _ _ _ _ h => h) rfl hC ⟨_, fun w hw => ex_indexS rfl Try.underlying30 size40 rfl rfl 0 rfl (by omega) rfl, fun a1 ha => ?_⟩
  simp only [Act.put, List.setIfInBounds_toArray, List.set_cons_succ, List.set_cons_zero] at ha; subst ha
  refine wt_take 30 rfl (by kernel_rfl) (by kernel_rfl) (by kernel_rfl) (fun _ _ _ _ h => h) rfl hC ⟨_, fun w hw => ex_loadMB rfl Try.underlying40 size40 rfl (hw.rd 0 rfl (by omega)), fun a1 ha => ?_⟩
  simp only [Act.put, List.setIfInBounds_toArray, List.set_cons_succ, List.set_cons_zero] at ha; subst ha
  refine wt_take 31 rfl (by kernel_rfl) (by kernel_rfl) (by kernel_rfl) (fun _ _ _ _ h => h) rfl hC ⟨_, fun w hw => ex_build0B rfl Try.underlying40 zero40 isz5, fun a1 ha => ?_⟩
  simp only [Act.put, List.setIfInBounds_toArray, List.set_cons_succ, List.set_cons_zero] at ha; subst ha
  refine wt_take 32 rfl (by kernel_rfl) (by kernel_rfl) (by kernel_rfl) (fun _ _ _ _ h => h) rfl hC ⟨.bool true, fun w hw => ex_eqlBR rfl Try.underlying40 Try.underlying5 size5 eqg40 rfl rfl ke0, fun a1 ha => ?_⟩
  simp only [Act.put, List.setIfInBounds_toArray, List.set_cons_succ, List.set_cons_zero] at ha; subst ha
  refine wt_take 33 rfl (by kernel_rfl) (by kernel_rfl) (by kernel_rfl) (fun _ _ _ _ h => h) rfl hC ⟨_, fun w hw => by (go_simp; try with_reducible rfl), fun a1 ha => ?_⟩
  simp only [Act.put, List.setIfInBounds_toArray, List.set_cons_succ, List.set_cons_zero] at ha; subst ha
  refine wt_take 34 rfl (by kernel_rfl) (by kernel_rfl) (by kernel_rfl) (fun _ _ _ _ h => h) rfl hC ⟨_, fun w hw => by (go_simp; try with_reducible rfl), fun a1 ha => ?_⟩
  simp only [Act.put, List.setIfInBounds_toArray, List.set_cons_succ, List.set_cons_zero] at ha; subst ha
  refine wt_done (by kernel_rfl) ?_
  go_wp2_with fail
  go_ret
  exact ⟨rfl, hs.letgo⟩
end Go.Proofs.Ytcflolcaiedmfaa
