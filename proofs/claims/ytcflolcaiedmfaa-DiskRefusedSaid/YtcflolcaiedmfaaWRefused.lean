/- DiskRefused: the walk. -/
import Derived.Test.YtcflolcaiedmfaaC
namespace Go.Proofs.Ytcflolcaiedmfaa
set_option linter.unusedVariables false
set_option linter.unusedSimpArgs false
open Go Go.Sp Go.RowKit Go.BigFrame

theorem ck_21 {n : Nat} {a : Int} (h : a < 0 ∨ (n : Int) ≤ a) : ck false n a = 21 := by simp only [ck]; rw [if_neg (by simp), if_neg (by omega)]
def kW : Nat → UInt8 := fun i => if i = 0 then 119 else if i = 1 then 114 else if i = 2 then 111 else if i = 3 then 110 else 103
def kR : Nat → UInt8 := fun i => if i = 0 then 114 else if i = 1 then 105 else if i = 2 then 103 else if i = 3 then 104 else 116
def kL : Nat → UInt8 := fun i => if i = 0 then 108 else if i = 1 then 97 else if i = 2 then 116 else 101
theorem kcW : (#[.int .u8 119, .int .u8 114, .int .u8 111, .int .u8 110, .int .u8 103] : Array Value) = rowOf 5 (u8v kW) := by
  refine rowOf_ext rfl fun i hi => ?_
  match i, hi with
  | 0, _ => rfl
  | 1, _ => rfl
  | 2, _ => rfl
  | 3, _ => rfl
  | 4, _ => rfl
theorem kcR : (#[.int .u8 114, .int .u8 105, .int .u8 103, .int .u8 104, .int .u8 116] : Array Value) = rowOf 5 (u8v kR) := by
  refine rowOf_ext rfl fun i hi => ?_
  match i, hi with
  | 0, _ => rfl
  | 1, _ => rfl
  | 2, _ => rfl
  | 3, _ => rfl
  | 4, _ => rfl
theorem kcL : (#[.int .u8 108, .int .u8 97, .int .u8 116, .int .u8 101] : Array Value) = rowOf 4 (u8v kL) := by
  refine rowOf_ext rfl fun i hi => ?_
  match i, hi with
  | 0, _ => rfl
  | 1, _ => rfl
  | 2, _ => rfl
  | 3, _ => rfl

/-- What j writes leave. -/
def rightF (n : Nat) : Nat → Nat → UInt8
  | 0 => fun _ => 0
  | j + 1 => updF (rightF n j) (j % n) (ofF 5 kR)

set_option maxRecDepth 100000 in
set_option maxHeartbeats 2000000 in
theorem refused_core (x0 x1 : Int) (n k m cap : Nat) (ao : Option Addr) (db doff : Nat) (G : Nat → Int) (w : World) (h1 : 1 ≤ n) (h2 : n ≤ 60) (hk : k ≤ 19) (hao : 0 < m → ao = some ⟨db, doff, none⟩) (hrd : Rd w db doff m (fun i => .int .i64 (G i)))
    (hG : Hid (∀ i, i < m → -9223372036854775808 ≤ G i ∧ G i ≤ 9223372036854775807)) (hm : m ≤ 9223372036854775807)
    (P0 : Hid (∀ w, Calls Try.prog 19 #[.int .i64 x0, .int .i64 60] w fun e w' => e = .returned (.int .i64 ((n : Int) - 1)) ∧ w = w'))
    (P1 : Hid (∀ w, Calls Try.prog 19 #[.int .i64 x1, .int .i64 20] w fun e w' => e = .returned (.int .i64 k) ∧ w = w')) :
    Calls Try.prog 4 #[.int .i64 x0, .int .i64 x1, .slice ao m cap] w fun e w' => e = .returned (.bool true) ∧ Tr w [] w' [] := by
  have hs := Tr.refl w []
  have HR := Lib.hid hrd
  have HA := Lib.hid hao
  have h4 : n ≤ 4096 := by omega
  clear hrd hao
  go_enter Try.func4, Try.ntmps4
  go_upto_region 3 with (first
    | (go_at_call 10; refine (awake_any _).mono ?_; rintro e w2 ⟨rfl, hc⟩; replace hs := hs.call0 hc; clear hc)
    | (go_at_call 19; refine (P0.out _).mono ?_; rintro e w2 ⟨rfl, rfl⟩)
    )
  rw [show (1 : Int) + ((n : Int) - 1) = n by omega]
  go_wp2_with (first
    | (go_at_call 19; refine (P1.out _).mono ?_; rintro e w2 ⟨rfl, rfl⟩)
    | (go_at_call 11; refine (new_ok n _ h1 h4).mono ?_; rintro e w2 ⟨d, s, rfl, hc⟩; replace hs := hs.call1 hc; clear hc)
    | (go_at_call 20; refine (arm_ok (k : Int) (by omega) (hs.get 0 rfl)).mono ?_; rintro e w2 ⟨rfl, hc⟩; replace hs := hs.upd 0 rfl hc; clear hc))
  go_loopw [13] (fun i wr => ∃ j : Nat, j ≤ m ∧ i = .int .i64 j ∧ Tr w [] wr [diskR d s n (fun _ => 0) 0 false true k]) (fun i _ => m - (intOf i).toNat)
  case atStart => exact ⟨0, by omega, rfl, hs⟩
  case round =>
    clear hs
    obtain ⟨j, hj, rfl, hs⟩ := hrel
    by_cases hlt : j < m
    · have hlt2 : (j : Int) < m := by omega
      obtain rfl := HA.out (by omega)
      obtain ⟨g1, g2⟩ := hG.out j hlt
      have HC := Lib.hid (fun (w' : World) (hw : Tr w [] w' [diskR d s n (fun _ => 0) 0 false true k]) => HR.out.keep hw j hlt)
      simp only [] at HC
      have hb := pick_bd (G j) 1000 (by omega)
      have hb2 := pick_bd (G j + n) 1000 (by omega)
      generalize G j = g at *
      have hcase : (0 ≤ g ∧ g < n) ∨ g < 0 ∨ (0 ≤ g ∧ (n : Int) ≤ g) := by omega
      rcases hcase with ⟨c1, c2⟩ | c1 | ⟨c1, c2⟩
      all_goals
        go_wp2_with (first
          | ((with_reducible refine at_load rfl ?_); refine wl_loadC rfl rfl Try.underlying3 rfl rfl (HC.out _ hs) ?_)
          | ((with_reducible refine at_buildSlice rfl ?_); refine wl_buildSliceV hs rfl rfl Try.underlying42 info5 (by omega) (by omega) [.int .u8 119, .int .u8 114, .int .u8 111, .int .u8 110, .int .u8 103] rfl rfl (by simp [Value.oneCell']) ?_; clear hs; intro w1 b2 hs; rw [kcW] at hs)
          | ((with_reducible refine at_conv rfl ?_); refine wl_convConst hs rfl rfl Try.underlying42 Try.underlying5 rfl 0 rfl ?_; clear hs; intro w1 hs)
          | (go_at_call 22; refine (of_any kW 5 5 _ b2 0 _ (fun _ => rfl) (hs.obj_rd 0 rfl (by omega))).mono ?_; rintro e w2 ⟨rfl, hc⟩; replace hs := hs.call0 hc; clear hc)
          | (go_at_call 21; refine (write_no _ _ 21 h4 (ck_21 (by omega)) (by omega) (hs.get 1 rfl)).mono ?_; rintro e w2 ⟨rfl, hc⟩; replace hs := hs.call0 hc; clear hc)
          | (go_at_call 23; refine (read_no _ 21 h4 (ck_21 (by omega)) (by omega) (hs.get 1 rfl)).mono ?_; rintro e w2 ⟨rfl, hc⟩; replace hs := hs.call0 hc; clear hc)
          | ((with_reducible refine at_alloc rfl ?_); refine wl_allocA hs rfl rfl zero40 ?_; clear hs; intro w1 b3 hs)
          | ((with_reducible refine at_store rfl ?_); refine wl_storeA hs rfl rfl rfl rfl (size40r _) (one40 _) 0 rfl (by simp only [rowOf_size]) ?_; clear hs; intro w1 hs)
          | (go_at_call 19; refine (pick_any _ 1000 _ (by omega) (by omega) (by omega) (by omega)).mono ?_; rintro e w2 ⟨rfl, rfl⟩)
          | (go_at_call 20; refine (arm_neg _ (by omega) (hs.get 2 rfl)).mono ?_; rintro e w2 ⟨rfl, hc⟩; replace hs := hs.call0 hc; clear hc)
          | (go_at_call 18; refine (down_any (hs.get 2 rfl)).mono ?_; rintro e w2 ⟨rfl, hc⟩; replace hs := hs.call0 hc; clear hc)
          | (go_at_call 17; refine (writes_any (hs.get 2 rfl)).mono ?_; rintro e w2 ⟨rfl, hc⟩; replace hs := hs.call0 hc; clear hc))
        go_roundw
        case rel => exact ⟨j + 1, by omega, by go_num, (hs.erase 0).erase 0⟩
        case measure => simp [intOf]; omega
    · obtain rfl : j = m := by omega
      go_wp2_with fail
      have HW := Lib.hid (fun (j : Nat) (w' : World) (hj : j < k) (h : (diskR d s n (rightF n j) j false true ((k : Int) - j)).holds w') => write_yes (j % n) (ofF 5 kR) ((k : Int) - ((j + 1 : Nat) : Int)) h4 (Nat.mod_lt _ h1) (by omega) (Or.inl ⟨rfl, by omega, by omega, by omega⟩) h)
      go_loopw [19] (fun i wr => ∃ j : Nat, j ≤ k ∧ i = .int .i64 j ∧ Tr w [] wr [diskR d s n (rightF n j) j false true ((k : Int) - j)]) (fun i _ => k - (intOf i).toNat)
      case atStart => exact ⟨0, by omega, rfl, by rw [show (k : Int) - ((0 : Nat) : Int) = k by omega]; exact hs⟩
      case round =>
        clear hs
        obtain ⟨j, hj, rfl, hs⟩ := hrel
        by_cases hlt : j < k
        · have hlt2 : (j : Int) < k := by omega
          have hn0 : (n : Int) ≠ 0 := by omega
          go_upto_region 24 with fail
          refine wt_enterS (List.nil_sublist _) 9 rfl hs (by kernel_rfl) ?_
          clear hs; intro w1 hC hs
          refine wt_take 0 rfl (by kernel_rfl) (by kernel_rfl) (by kernel_rfl) (fun _ _ _ _ h => h) rfl hC ⟨_, fun w hw => by (go_simp; try with_reducible rfl), fun a1 ha => ?_⟩
          simp only [Act.put, List.setIfInBounds_toArray, List.set_cons_succ, List.set_cons_zero] at ha; subst ha
          refine wt_take 1 rfl (by kernel_rfl) (by kernel_rfl) (by kernel_rfl) (fun _ _ _ _ h => h) rfl hC ⟨_, fun w hw => by (go_simp; try with_reducible rfl), fun a1 ha => ?_⟩
          simp only [Act.put, List.setIfInBounds_toArray, List.set_cons_succ, List.set_cons_zero] at ha; subst ha
          refine wt_take 2 rfl (by kernel_rfl) (by kernel_rfl) (by kernel_rfl) (fun _ _ _ _ h => h) rfl hC ⟨_, fun w hw => by (go_simp; try with_reducible rfl), fun a1 ha => ?_⟩
          simp only [Act.put, List.setIfInBounds_toArray, List.set_cons_succ, List.set_cons_zero] at ha; subst ha
          refine wt_take 3 rfl (by kernel_rfl) (by kernel_rfl) (by kernel_rfl) (fun _ _ _ _ h => h) rfl hC ⟨.int .i64 ((j % n : Nat) : Int), fun w hw => by (go_simp; rw [if_neg (by omega), Int.tmod_eq_emod_of_nonneg (by omega)]), fun a1 ha => ?_⟩
          simp only [Act.put, List.setIfInBounds_toArray, List.set_cons_succ, List.set_cons_zero] at ha; subst ha
          refine wt_one 4 (by kernel_rfl) ?_
          refine wt_buildV hs rfl rfl rfl Try.underlying42 info5 (by omega) (by omega) [.int .u8 114, .int .u8 105, .int .u8 103, .int .u8 104, .int .u8 116] rfl rfl (by simp [Value.oneCell']) _ kcR (fun _ => by simp only [Act.put, List.setIfInBounds_toArray, List.set_cons_succ, List.set_cons_zero]; rfl) ?_
          clear hs; intro w1 b5 hs
          refine wt_and (hs.sub (by repeat (first | exact List.Sublist.refl _ | refine List.Sublist.cons_cons _ ?_ | refine List.Sublist.cons _ ?_))) fun hC => ?_
          refine wt_one 5 (by kernel_rfl) ?_
          refine wt_convConst hs rfl rfl rfl Try.underlying42 Try.underlying5 rfl 0 rfl (by simp only [Act.put, List.setIfInBounds_toArray, List.set_cons_succ, List.set_cons_zero]; rfl) ?_
          clear hs; intro w1 hs
          refine wt_and (hs.sub (by repeat (first | exact List.Sublist.refl _ | refine List.Sublist.cons_cons _ ?_ | refine List.Sublist.cons _ ?_))) fun hC => ?_
          refine wt_one 6 (by kernel_rfl) ?_
          refine wt_call0 hs rfl rfl (by go_simp) (of_any kR 5 5 _ b5 0 _ (fun _ => rfl) (hs.obj_rd 0 rfl (by omega))) (by simp only [Act.put, List.setIfInBounds_toArray, List.set_cons_succ, List.set_cons_zero]; rfl) ?_
          clear hs; intro w1 hs
          refine wt_and (hs.sub (by repeat (first | exact List.Sublist.refl _ | refine List.Sublist.cons_cons _ ?_ | refine List.Sublist.cons _ ?_))) fun hC => ?_
          refine wt_one 7 (by kernel_rfl) ?_
          refine wt_callU hs rfl rfl (by go_simp) 1 rfl (HW.out j _ (by omega) (hs.get 1 rfl)) (by simp only [Act.put, List.setIfInBounds_toArray, List.set_cons_succ, List.set_cons_zero]; rfl) ?_
          clear hs; intro w1 hs
          refine wt_and (hs.sub (by repeat (first | exact List.Sublist.refl _ | refine List.Sublist.cons_cons _ ?_ | refine List.Sublist.cons _ ?_))) fun hC => ?_
          refine wt_take 8 rfl (by kernel_rfl) (by kernel_rfl) (by kernel_rfl) (fun _ _ _ _ h => h) rfl hC ⟨_, fun w hw => by (go_simp; try with_reducible rfl), fun a1 ha => ?_⟩
          simp only [Act.put, List.setIfInBounds_toArray, List.set_cons_succ, List.set_cons_zero] at ha; subst ha
          refine wt_done (by kernel_rfl) ?_
          skip
          go_wp2_with fail
          go_roundw
          case rel => exact ⟨j + 1, by omega, by go_num, hs.erase 0⟩
          case measure => simp [intOf]; omega
        · obtain rfl : j = k := by omega
          rw [Int.sub_self] at hs
          have W0 : Hid (∀ w, (diskR d s n (rightF n j) j false true 0).holds w → Calls Try.prog 21 #[.pointer (some ⟨d, 0, none⟩), .int .i64 0, bytesV 128 (ofF 4 kL)] w fun e w' => e = .returned (.int .i64 22) ∧ Tr w (diskR d s n (rightF n j) j false true 0).foot w' [diskR d s n (rightF n j) j true false 0]) :=
            Lib.hid fun w h => write_off 0 (ofF 4 kL) h4 h1 h
          go_wp2_with (first
            | ((with_reducible refine at_buildSlice rfl ?_); refine wl_buildSliceV hs rfl rfl Try.underlying42 info5 (by omega) (by omega) [.int .u8 108, .int .u8 97, .int .u8 116, .int .u8 101] rfl rfl (by simp [Value.oneCell']) ?_; clear hs; intro w1 b2 hs; rw [kcL] at hs)
            | ((with_reducible refine at_conv rfl ?_); refine wl_convConst hs rfl rfl Try.underlying42 Try.underlying5 rfl 0 rfl ?_; clear hs; intro w1 hs)
            | (go_at_call 22; refine (of_any kL 4 4 _ b2 0 _ (fun _ => rfl) (hs.obj_rd 0 rfl (by omega))).mono ?_; rintro e w2 ⟨rfl, hc⟩; replace hs := hs.call0 hc; clear hc)
            | (go_at_call 21; refine (W0.out _ (hs.get 1 rfl)).mono ?_; rintro e w2 ⟨rfl, hc⟩; replace hs := hs.upd 1 rfl hc; clear hc)
            | (go_at_call 18; refine (down_any (hs.get 1 rfl)).mono ?_; rintro e w2 ⟨rfl, hc⟩; replace hs := hs.call0 hc; clear hc)
            | (go_at_call 17; refine (writes_any (hs.get 1 rfl)).mono ?_; rintro e w2 ⟨rfl, hc⟩; replace hs := hs.call0 hc; clear hc))
          go_ret
          exact ⟨rfl, hs.letgo⟩

theorem refused_walk (x0 x1 : Int) (m cap : Nat) (ao : Option Addr) (db doff : Nat) (G : Nat → Int) (w : World) (hao : 0 < m → ao = some ⟨db, doff, none⟩) (hrd : Rd w db doff m (fun i => .int .i64 (G i))) (hG : ∀ i, i < m → -9223372036854775808 ≤ G i ∧ G i ≤ 9223372036854775807) (hm : m ≤ 9223372036854775807)
    (hx0 : -9223372036854775808 ≤ x0 ∧ x0 ≤ 9223372036854775807) (hx1 : -9223372036854775808 ≤ x1 ∧ x1 ≤ 9223372036854775807) :
    Calls Try.prog 4 #[.int .i64 x0, .int .i64 x1, .slice ao m cap] w fun e w' => e = .returned (.bool true) ∧ Below w.heap.size w w' := by
  suffices hh : Calls Try.prog 4 #[.int .i64 x0, .int .i64 x1, .slice ao m cap] w fun e w' => e = .returned (.bool true) ∧ Tr w [] w' [] from hh.mono fun e w' ⟨he, ht⟩ => ⟨he, ht.below⟩
  have b0 := pick_bd x0 60 (by omega)
  have b1 := pick_bd x1 20 (by omega)
  obtain ⟨n, hn⟩ : ∃ n : Nat, pick x0 60 = (n : Int) - 1 := ⟨(pick x0 60 + 1).toNat, by omega⟩
  obtain ⟨k, hk⟩ : ∃ k : Nat, pick x1 20 = (k : Int) := ⟨_, (Int.toNat_of_nonneg b1.1).symm⟩
  exact refused_core x0 x1 n k m cap ao db doff G w (by omega) (by omega) (by omega) hao hrd (Lib.hid hG) hm (Lib.hid fun w => by rw [← hn]; exact pick_any x0 60 w (by omega) (by omega) hx0.1 hx0.2) (Lib.hid fun w => by rw [← hk]; exact pick_any x1 20 w (by omega) (by omega) hx1.1 hx1.2)
end Go.Proofs.Ytcflolcaiedmfaa
