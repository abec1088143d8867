/- DiskArms: the walk. -/
import Derived.Test.YtcflolcaiedmfaaD
namespace Go.Proofs.Ytcflolcaiedmfaa
set_option linter.unusedVariables false
set_option linter.unusedSimpArgs false
open Go Go.Sp Go.RowKit Go.BigFrame

/-- What j writes leave. -/
def wf (f : Nat → UInt8) (K : Nat → Nat) (WF : Nat → Nat → UInt8) : Nat → Nat → UInt8
  | 0 => f
  | j + 1 => updF (wf f K WF j) (K j) (WF j)
theorem upd_cells (f : Nat → UInt8) (i : Nat) (F : Nat → UInt8) (j : Nat) : (if 0 + i * 128 ≤ j ∧ j < 0 + i * 128 + 128 then u8v F (j - (0 + i * 128)) else u8v f j) = u8v (updF f i F) j := by
  simp only [u8v, updF, Nat.zero_add]
  split <;> rfl
theorem updF_at (f : Nat → UInt8) (i : Nat) (F : Nat → UInt8) : eqB 128 (fun j => updF f i F (0 + i * 128 + j)) F = true := by
  refine eqB_iff.2 fun j hj => ?_
  simp only [updF]
  rw [if_pos (by omega), show 0 + i * 128 + j - i * 128 = j by omega]

def kA : Nat → UInt8 := fun i => if i = 0 then 97 else if i = 1 then 103 else if i = 2 then 97 else if i = 3 then 105 else 110
theorem kcA : (#[.int .u8 97, .int .u8 103, .int .u8 97, .int .u8 105, .int .u8 110] : Array Value) = rowOf 5 (u8v kA) := by
  refine rowOf_ext rfl fun i hi => ?_
  match i, hi with
  | 0, _ => rfl
  | 1, _ => rfl
  | 2, _ => rfl
  | 3, _ => rfl
  | 4, _ => rfl

set_option maxRecDepth 100000 in
set_option maxHeartbeats 1000000 in
theorem arms_no (n cap m cap2 : Nat) (ao ao2 : Option Addr) (x : Int) (w : World) (hn : n = 0 ∨ 4096 < n) (hn2 : n ≤ 9223372036854775807) :
    Calls Try.prog 8 #[.slice ao n cap, .int .i64 x, .slice ao2 m cap2] w fun e w' => e = .returned (.bool true) ∧ Tr w [] w' [] := by
  have hs := Tr.refl w []
  have hf : Hid (∀ w, Calls Try.prog 24 #[.slice ao n cap] w fun e w' => e = .returned (.bool (decide ((n : Int) ≤ 5000))) ∧ w = w') := Lib.hid fun w => by
    go_enter Try.func24, Try.ntmps24
    go_wp2
    go_ret
    exact ⟨rfl, rfl⟩
  have hn := Lib.hid hn
  by_cases h5 : n ≤ 5000
  · have h5' : decide ((n : Int) ≤ 5000) = true := decide_eq_true (by omega)
    rw [h5'] at hf
    clear h5'
    rcases hn.out with h0 | h0
    · subst h0
      clear h5
      go_enter Try.func8, Try.ntmps8
      go_wp2_with (first
        | (go_at_call 10; refine (awake_any _).mono ?_; rintro e w2 ⟨rfl, hc⟩; replace hs := hs.call0 hc; clear hc)
        | (go_at_call 24; refine (hf.out _).mono ?_; rintro e w2 ⟨rfl, rfl⟩))
      go_ret
      exact ⟨rfl, hs.letgo⟩
    · have h0' : ¬ (n : Int) = 0 := by omega
      have h0''' : ¬ n = 0 := by omega
      have h0'' : (4096 : Int) < (n : Int) := by omega
      clear h5
      go_enter Try.func8, Try.ntmps8
      go_wp2_with (first
        | (go_at_call 10; refine (awake_any _).mono ?_; rintro e w2 ⟨rfl, hc⟩; replace hs := hs.call0 hc; clear hc)
        | (go_at_call 24; refine (hf.out _).mono ?_; rintro e w2 ⟨rfl, rfl⟩))
      go_ret
      exact ⟨rfl, hs.letgo⟩
  · have h5' : decide ((n : Int) ≤ 5000) = false := decide_eq_false (by omega)
    rw [h5'] at hf
    clear h5'
    go_enter Try.func8, Try.ntmps8
    go_wp2_with (first
      | (go_at_call 10; refine (awake_any _).mono ?_; rintro e w2 ⟨rfl, hc⟩; replace hs := hs.call0 hc; clear hc)
      | (go_at_call 24; refine (hf.out _).mono ?_; rintro e w2 ⟨rfl, rfl⟩))
    go_ret
    exact ⟨rfl, hs.letgo⟩

set_option maxRecDepth 100000 in
set_option maxHeartbeats 2000000 in
theorem arms_yes (n cap m cap2 k last : Nat) (ao ao2 : Option Addr) (db doff db2 doff2 : Nat) (V : Nat → Value) (SF : Nat → Nat → UInt8) (N : Nat → Int) (V2 : Nat → Value) (WF : Nat → Nat → UInt8) (K : Nat → Nat) (x : Int) (w : World) (h1 : 1 ≤ n) (h2 : n ≤ 4096) (hm : m ≤ 4611686018427387903) (hk : k ≤ m + 1) (hlast : last < n)
    (hao : ao = some ⟨db, doff, none⟩) (hV : Rd w db doff n V) (hB : ∀ i, i < n → isBytes w (V i) (SF i)) (hao2 : 0 < m → ao2 = some ⟨db2, doff2, none⟩)
    (hW : Hid (∀ i, i < m → (w.cell? ⟨db2, doff2 + i * 2, none⟩ = some (.int .i64 (N i)) ∧ w.cell? ⟨db2, doff2 + i * 2 + 1, none⟩ = some (V2 i)) ∧ isBytes w (V2 i) (WF i)))
    (hK : Hid (∀ i, K i < n)) (HK : Hid (∀ i, i < m → ∀ w, Calls Try.prog 19 #[.int .i64 (N i), .int .i64 (n : Int)] w fun e w' => e = .returned (.int .i64 (K i : Nat)) ∧ w = w'))
    (HK0 : Hid (∀ w, Calls Try.prog 19 #[.int .i64 x, .int .i64 ((m : Int) + 2)] w fun e w' => e = .returned (.int .i64 k) ∧ w = w'))
    (HK1 : Hid (∀ w, Calls Try.prog 19 #[.int .i64 (k : Int), .int .i64 (n : Int)] w fun e w' => e = .returned (.int .i64 last) ∧ w = w')) :
    Calls Try.prog 8 #[.slice ao n cap, .int .i64 x, .slice ao2 m cap2] w fun e w' => e = .returned (.bool true) ∧ Tr w [] w' [] := by
  have hs := Tr.refl w []
  subst hao
  have HV := Lib.hid hV
  have HB := Lib.hid hB
  have HA2 := Lib.hid hao2
  clear hV hB hao2
  have hn1 : ((n : Int) == 0) = false := by rw [beq_eq_false_iff_ne]; omega
  have hn2 : ¬ (4096 : Int) < (n : Int) := by omega
  have hf : Hid (∀ w, Calls Try.prog 24 #[.slice (some ⟨db, doff, none⟩) n cap] w fun e w' => e = .returned (.bool true) ∧ w = w') := Lib.hid fun w => by
    have h5 : (n : Int) ≤ 5000 := by omega
    go_enter Try.func24, Try.ntmps24
    go_wp2
    go_ret
    exact ⟨rfl, rfl⟩
  have HL := Lib.hid (fun (w' : World) (hw : Tr w [] w' []) => laid_any n cap (some ⟨db, doff, none⟩) db doff V SF w' (by omega) (fun _ => rfl) (HV.out.keep hw) (fun i hi => (HB.out i hi).keep hw))
  go_enter Try.func8, Try.ntmps8
  go_upto_region 9 with (first
    | (go_at_call 10; refine (awake_any _).mono ?_; rintro e w2 ⟨rfl, hc⟩; replace hs := hs.call0 hc; clear hc)
    | (go_at_call 24; refine (hf.out _).mono ?_; rintro e w2 ⟨rfl, rfl⟩)
    | (go_at_call 25; refine (HL.out _ hs.letgo).mono ?_; rintro e w2 ⟨b, rfl, hc⟩; replace hs := hs.call1 hc; clear hc)
    | ((with_reducible refine at_slice rfl ?_); refine wl_slice rfl rfl Try.underlying30 size40 rfl 0 n (Or.inl ⟨rfl, rfl⟩) (Or.inr ⟨_, _, rfl, rfl⟩) (by omega) (by omega) (fun _ => rfl) ?_; intro ao3 hao3; obtain rfl := hao3 (by omega); clear hao3)
    | (go_at_call 26; refine (from_ok n _ b (0 + 0 * 128) (laidF n SF) _ h1 h2 (hs.rd0 0 rfl (by omega))).mono ?_; rintro e w2 ⟨d, s, rfl, hc⟩; replace hs := hs.call1 hc; clear hc))
  have hm2 : (m : Int) + 2 = ((m : Int) + 2) := rfl
  go_upto_region 14 with (first
    | (go_at_call 25; refine (HL.out _ hs.letgo).mono ?_; rintro e w2 ⟨bw, rfl, hc⟩; replace hs := hs.call1 hc; clear hc)
    | ((with_reducible refine at_slice rfl ?_); refine wl_slice rfl rfl Try.underlying30 size40 rfl 0 n (Or.inl ⟨rfl, rfl⟩) (Or.inr ⟨_, _, rfl, rfl⟩) (by omega) (by omega) (fun _ => rfl) ?_; intro ao3 hao3; obtain rfl := hao3 (by omega); clear hao3)
    | (go_at_call 19; refine (HK0.out _).mono ?_; rintro e w2 ⟨rfl, rfl⟩)
    | (go_at_call 20; refine (arm_ok (k : Int) (by omega) (hs.get 1 rfl)).mono ?_; rintro e w2 ⟨rfl, hc⟩; replace hs := hs.upd 1 rfl hc; clear hc))
  replace hs := hs.erase 2
  generalize laidF n SF = f0 at *
  go_wp2_with fail
  go_loopw [14] (fun i wr => ∃ (j : Nat) (off armed : Bool) (left : Int), j ≤ m ∧ i = .int .i64 j ∧ ((j ≤ k ∧ off = false ∧ armed = true ∧ left = (k : Int) - j) ∨ (k < j ∧ off = true ∧ armed = false ∧ left = 0)) ∧
      Tr w [] wr [Res.blk bw (rowOf ((n + 3) * 128) (u8v (wf f0 K WF (min j k)))) 40, diskR d s n (wf f0 K WF (min j k)) ((min j k : Nat) : Int) off armed left]) (fun i _ => m - (intOf i).toNat)
  case atStart => exact ⟨0, false, true, (k : Int), by omega, rfl, Or.inl ⟨by omega, rfl, rfl, by omega⟩, by rw [Nat.zero_min]; exact hs⟩
  case round =>
    clear hs
    obtain ⟨j, off, armed, left, hj, rfl, hst, hs⟩ := hrel
    by_cases hlt : j < m
    · have hlt2 : (j : Int) < m := by omega
      obtain rfl := HA2.out (by omega)
      obtain ⟨⟨c0, c1⟩, hB1⟩ := hW.out j hlt
      replace c0 := Lib.hid c0
      replace c1 := Lib.hid c1
      replace hB1 := Lib.hid hB1
      rcases hst with ⟨hjk, rfl, rfl, hleft⟩ | ⟨hjk, rfl, rfl, rfl⟩
      · by_cases hjk2 : j < k
        · have q1 : (j : Int) < k := by omega
          have q2 : ¬ (k : Int) < (j : Int) + 1 := by omega
          have q3 : (j : Int) + 1 ≤ (k : Int) := by omega
          rw [show min j k = j by omega] at hs
          have hw1 := Lib.hid (fun (w' : World) (h : (diskR d s n (wf f0 K WF j) j false true left).holds w') => write_yes (K j) (WF j) ((k : Int) - ((j + 1 : Nat) : Int)) h2 (hK.out j) (by omega) (Or.inl ⟨rfl, by omega, by omega, by omega⟩) h)
          replace hleft := Lib.hid hleft
          go_wp2_with (first
            | ((with_reducible refine at_load rfl ?_); refine wl_loadC rfl rfl Try.underlying3 rfl rfl (hs.keepCell c0.out) ?_)
            | ((with_reducible refine at_load rfl ?_); refine wl_loadC rfl rfl Try.underlying42 rfl rfl (hs.keepCell c1.out) ?_)
            | (go_at_call 19; refine (HK.out j hlt _).mono ?_; rintro e w2 ⟨rfl, rfl⟩)
            | (go_at_call 22; refine (of_bytes (hB1.out.keep hs)).mono ?_; rintro e w2 ⟨rfl, hc⟩; replace hs := hs.call0 hc; clear hc)
            | (go_at_call 18; refine (down_any (hs.get 1 rfl)).mono ?_; rintro e w2 ⟨rfl, hc⟩; replace hs := hs.call0 hc; clear hc)
            | (go_at_call 17; refine (writes_any (hs.get 1 rfl)).mono ?_; rintro e w2 ⟨rfl, hc⟩; replace hs := hs.call0 hc; clear hc)
            | ((with_reducible refine at_index rfl ?_); refine wl_index rfl rfl Try.underlying30 size40 rfl rfl (K j) rfl (hK.out j) rfl ?_)
            | ((with_reducible refine at_store rfl ?_); refine wl_storeM hs rfl rfl rfl rfl size40 (fun _ _ => rfl) 0 rfl (by have := hK.out j; omega) (u8v (updF (wf f0 K WF j) (K j) (WF j))) (fun q _ => by simp only [u8v, updF, Nat.zero_add, Nat.zero_mul]; split <;> rfl) ?_; clear hs; intro w1 hs)
            | (go_at_call 21; refine (hw1.out _ (hs.get 1 rfl)).mono ?_; rintro e w2 ⟨rfl, hc⟩; replace hs := hs.upd 1 rfl hc; clear hc))
          go_roundw
          case rel => exact ⟨j + 1, false, true, _, by omega, by go_num, Or.inl ⟨by omega, rfl, rfl, rfl⟩, by rw [show min (j + 1) k = j + 1 by omega]; exact hs⟩
          case measure => simp [intOf]; omega
        · obtain rfl : j = k := by omega
          obtain rfl : left = 0 := by omega
          have q2 : (j : Int) < (j : Int) + 1 := by omega
          have q3 : ¬ (j : Int) + 1 ≤ (j : Int) := by omega
          rw [Nat.min_self] at hs
          have hw1 := Lib.hid (fun (w' : World) (h : (diskR d s n (wf f0 K WF j) j false true 0).holds w') => write_off (K j) (WF j) h2 (hK.out j) h)
          clear hleft
          go_wp2_with (first
            | ((with_reducible refine at_load rfl ?_); refine wl_loadC rfl rfl Try.underlying3 rfl rfl (hs.keepCell c0.out) ?_)
            | ((with_reducible refine at_load rfl ?_); refine wl_loadC rfl rfl Try.underlying42 rfl rfl (hs.keepCell c1.out) ?_)
            | (go_at_call 19; refine (HK.out j hlt _).mono ?_; rintro e w2 ⟨rfl, rfl⟩)
            | (go_at_call 22; refine (of_bytes (hB1.out.keep hs)).mono ?_; rintro e w2 ⟨rfl, hc⟩; replace hs := hs.call0 hc; clear hc)
            | (go_at_call 18; refine (down_any (hs.get 1 rfl)).mono ?_; rintro e w2 ⟨rfl, hc⟩; replace hs := hs.call0 hc; clear hc)
            | (go_at_call 17; refine (writes_any (hs.get 1 rfl)).mono ?_; rintro e w2 ⟨rfl, hc⟩; replace hs := hs.call0 hc; clear hc)
            | ((with_reducible refine at_index rfl ?_); refine wl_index rfl rfl Try.underlying30 size40 rfl rfl (K j) rfl (hK.out j) rfl ?_)
            | ((with_reducible refine at_store rfl ?_); refine wl_storeM hs rfl rfl rfl rfl size40 (fun _ _ => rfl) 0 rfl (by have := hK.out j; omega) (u8v (updF (wf f0 K WF j) (K j) (WF j))) (fun q _ => by simp only [u8v, updF, Nat.zero_add, Nat.zero_mul]; split <;> rfl) ?_; clear hs; intro w1 hs)
            | (go_at_call 21; refine (hw1.out _ (hs.get 1 rfl)).mono ?_; rintro e w2 ⟨rfl, hc⟩; replace hs := hs.upd 1 rfl hc; clear hc))
          go_roundw
          case rel => exact ⟨j + 1, true, false, 0, by omega, by go_num, Or.inr ⟨by omega, rfl, rfl, rfl⟩, by rw [show min (j + 1) j = j by omega]; exact hs⟩
          case measure => simp [intOf]; omega
      · have q1 : ¬ (j : Int) < k := by omega
        have q2 : (k : Int) < (j : Int) + 1 := by omega
        have q3 : ¬ (j : Int) + 1 ≤ (k : Int) := by omega
        have q4 : (k : Int) ≤ j := by omega
        rw [show min j k = k by omega] at hs
        have hw1 := Lib.hid (fun (w' : World) (h : (diskR d s n (wf f0 K WF k) k true false 0).holds w') => write_no (K j : Int) (WF j) 22 h2 rfl (by omega) h)
        go_wp2_with (first
            | ((with_reducible refine at_load rfl ?_); refine wl_loadC rfl rfl Try.underlying3 rfl rfl (hs.keepCell c0.out) ?_)
            | ((with_reducible refine at_load rfl ?_); refine wl_loadC rfl rfl Try.underlying42 rfl rfl (hs.keepCell c1.out) ?_)
            | (go_at_call 19; refine (HK.out j hlt _).mono ?_; rintro e w2 ⟨rfl, rfl⟩)
            | (go_at_call 22; refine (of_bytes (hB1.out.keep hs)).mono ?_; rintro e w2 ⟨rfl, hc⟩; replace hs := hs.call0 hc; clear hc)
            | (go_at_call 18; refine (down_any (hs.get 1 rfl)).mono ?_; rintro e w2 ⟨rfl, hc⟩; replace hs := hs.call0 hc; clear hc)
            | (go_at_call 17; refine (writes_any (hs.get 1 rfl)).mono ?_; rintro e w2 ⟨rfl, hc⟩; replace hs := hs.call0 hc; clear hc)
            | ((with_reducible refine at_index rfl ?_); refine wl_index rfl rfl Try.underlying30 size40 rfl rfl (K j) rfl (hK.out j) rfl ?_)
            | ((with_reducible refine at_store rfl ?_); refine wl_storeM hs rfl rfl rfl rfl size40 (fun _ _ => rfl) 0 rfl (by have := hK.out j; omega) (u8v (updF (wf f0 K WF j) (K j) (WF j))) (fun q _ => by simp only [u8v, updF, Nat.zero_add, Nat.zero_mul]; split <;> rfl) ?_; clear hs; intro w1 hs)
            | (go_at_call 21; refine (hw1.out _ (hs.get 1 rfl)).mono ?_; rintro e w2 ⟨rfl, hc⟩; replace hs := hs.call0 hc; clear hc))
        go_roundw
        case rel => exact ⟨j + 1, true, false, 0, by omega, by go_num, Or.inr ⟨by omega, rfl, rfl, rfl⟩, by rw [show min (j + 1) k = k by omega]; exact hs⟩
        case measure => simp [intOf]; omega
    · obtain rfl : j = m := by omega
      clear hst
      have hwr : ((min j k : Nat) : Int) ≤ 4611686018427387904 := by omega
      have hwr0 : (0 : Int) ≤ ((min j k : Nat) : Int) := by omega
      generalize ((min j k : Nat) : Int) = wr0 at *
      generalize wf f0 K WF (min j k) = W at *
      have HE : eqB 128 (fun i => W (0 + last * 128 + i)) (fun i => W (0 + last * 128 + i)) = true := eqB_refl _ _
      replace HE := Lib.hid HE
      have hw1 := Lib.hid (fun (w' : World) (h : (diskR d s n W wr0 false false 0).holds w') => write_yes last (ofF 5 kA) 0 h2 hlast ⟨hwr0, hwr⟩ (Or.inr ⟨rfl, rfl⟩) h)
      have hr1 := Lib.hid (fun (w' : World) (h : (diskR d s n W wr0 false false 0).holds w') => read_ok last h2 hlast h)
      have hr2 := Lib.hid (fun (w' : World) (h : (diskR d s n (updF W last (ofF 5 kA)) (wr0 + 1) false false 0).holds w') => read_ok last h2 hlast h)
      go_upto_region 26 with (first
        | (go_at_call 13; refine (image_any h2 (hs.get 1 rfl)).mono ?_; rintro e w2 ⟨bi, rfl, hc⟩; replace hs := hs.call1 hc; clear hc)
        | (go_at_call 14; refine (same_yes W W n _ _ _ _ bi 0 bw 0 _ (by omega) (fun _ => rfl) (fun _ => rfl) (hs.rd0 0 rfl (by omega)) (hs.rd0 1 rfl (by omega)) (fun _ _ => rfl)).mono ?_; rintro e w2 ⟨rfl, hc⟩; replace hs := hs.call0 hc; clear hc))
      go_upto_region 29 with (first
        | (go_at_call 29; refine (restart_any (hs.get 2 rfl)).mono ?_; rintro e w2 ⟨v, rfl, hc⟩; replace hs := hs.upd 2 rfl hc; clear hc)
        | (go_at_call 13; refine (image_any h2 (hs.get 2 rfl)).mono ?_; rintro e w2 ⟨bj, rfl, hc⟩; replace hs := hs.call1 hc; clear hc)
        | (go_at_call 14; refine (same_yes W W n _ _ _ _ bj 0 bw 0 _ (by omega) (fun _ => rfl) (fun _ => rfl) (hs.rd0 0 rfl (by omega)) (hs.rd0 2 rfl (by omega)) (fun _ _ => rfl)).mono ?_; rintro e w2 ⟨rfl, hc⟩; replace hs := hs.call0 hc; clear hc)
        | (go_at_call 19; refine (HK1.out _).mono ?_; rintro e w2 ⟨rfl, rfl⟩))
      go_upto_region 31 with (first
        | (go_at_call 23; refine (hr1.out _ (hs.get 3 rfl)).mono ?_; rintro e w2 ⟨rfl, hc⟩; replace hs := hs.call0 hc; clear hc)
        | ((with_reducible refine at_alloc rfl ?_); refine wl_allocA hs rfl rfl zero40 ?_; clear hs; intro w1 s1 hs)
        | ((with_reducible refine at_store rfl ?_); refine wl_storeA hs rfl rfl rfl rfl (size40r _) (one40 _) 0 rfl (by simp only [rowOf_size]) ?_; clear hs; intro w1 hs)
        | ((with_reducible refine at_buildSlice rfl ?_); refine wl_buildSliceV hs rfl rfl Try.underlying42 info5 (by omega) (by omega) [.int .u8 97, .int .u8 103, .int .u8 97, .int .u8 105, .int .u8 110] rfl rfl (by simp [Value.oneCell']) ?_; clear hs; intro w1 b2 hs; rw [kcA] at hs)
        | ((with_reducible refine at_conv rfl ?_); refine wl_convConst hs rfl rfl Try.underlying42 Try.underlying5 rfl 0 rfl ?_; clear hs; intro w1 hs)
        | (go_at_call 22; refine (of_any kA 5 5 _ b2 0 _ (fun _ => rfl) (hs.obj_rd 0 rfl (by omega))).mono ?_; rintro e w2 ⟨rfl, hc⟩; replace hs := hs.call0 hc; clear hc)
        | (go_at_call 21; refine (hw1.out _ (hs.get 5 rfl)).mono ?_; rintro e w2 ⟨rfl, hc⟩; replace hs := hs.upd 5 rfl hc; clear hc))
      go_upto_region 32 with (first
        | (go_at_call 23; refine (hr2.out _ (hs.get 5 rfl)).mono ?_; rintro e w2 ⟨rfl, hc⟩; replace hs := hs.call0 hc; clear hc)
        | ((with_reducible refine at_alloc rfl ?_); refine wl_allocA hs rfl rfl zero40 ?_; clear hs; intro w1 s2 hs)
        | ((with_reducible refine at_store rfl ?_); refine wl_storeA hs rfl rfl rfl rfl (size40r _) (one40 _) 0 rfl (by simp only [rowOf_size]) ?_; clear hs; intro w1 hs))
      refine wt_enter 37 rfl hs (by kernel_rfl) ?_
      clear hs; intro w1 hs; have hC := hs
      refine wt_take 0 rfl (by kernel_rfl) (by kernel_rfl) (by kernel_rfl) (fun _ _ _ _ h => h) rfl hC ⟨_, fun w hw => by (go_simp; try with_reducible rfl), fun a1 ha => ?_⟩
      simp only [Act.put, List.setIfInBounds_toArray, List.set_cons_succ, List.set_cons_zero] at ha; subst ha
      refine wt_take 1 rfl (by kernel_rfl) (by kernel_rfl) (by kernel_rfl) (fun _ _ _ _ h => h) rfl hC ⟨_, fun w hw => by (go_simp; try with_reducible rfl), fun a1 ha => ?_⟩
      simp only [Act.put, List.setIfInBounds_toArray, List.set_cons_succ, List.set_cons_zero] at ha; subst ha
      refine wt_take 2 rfl (by kernel_rfl) (by kernel_rfl) (by kernel_rfl) (fun _ _ _ _ h => h) rfl hC ⟨_, fun w hw => by (go_simp; try with_reducible rfl), fun a1 ha => ?_⟩
      simp only [Act.put, List.setIfInBounds_toArray, List.set_cons_succ, List.set_cons_zero] at ha; subst ha
      refine wt_take 3 rfl (by kernel_rfl) (by kernel_rfl) (by kernel_rfl) (fun _ _ _ _ h => h) rfl hC ⟨_, fun w hw => by (go_simp; try with_reducible rfl), fun a1 ha => ?_⟩
      simp only [Act.put, List.setIfInBounds_toArray, List.set_cons_succ, List.set_cons_zero] at ha; subst ha
      refine wt_take 4 rfl (by kernel_rfl) (by kernel_rfl) (by kernel_rfl) (fun _ _ _ _ h => h) rfl hC ⟨_, fun w hw => by (go_simp; try with_reducible rfl), fun a1 ha => ?_⟩
      simp only [Act.put, List.setIfInBounds_toArray, List.set_cons_succ, List.set_cons_zero] at ha; subst ha
      refine wt_take 5 rfl (by kernel_rfl) (by kernel_rfl) (by kernel_rfl) (fun _ _ _ _ h => h) rfl hC ⟨_, fun w hw => by (go_simp; try with_reducible rfl), fun a1 ha => ?_⟩
      simp only [Act.put, List.setIfInBounds_toArray, List.set_cons_succ, List.set_cons_zero] at ha; subst ha
      refine wt_one 6 (by kernel_rfl) ?_
      refine wt_call0 hs rfl rfl (by go_simp) (down_any (hs.get 6 rfl)) (by simp only [Act.put, List.setIfInBounds_toArray, List.set_cons_succ, List.set_cons_zero]; rfl) ?_
      clear hs; intro w1 hs
      refine wt_and (hs.sub (by repeat (first | exact List.Sublist.refl _ | refine List.Sublist.cons_cons _ ?_ | refine List.Sublist.cons _ ?_))) fun hC => ?_
      refine wt_take 7 rfl (by kernel_rfl) (by kernel_rfl) (by kernel_rfl) (fun _ _ _ _ h => h) rfl hC ⟨_, fun w hw => by (go_simp; try with_reducible rfl), fun a1 ha => ?_⟩
      simp only [Act.put, List.setIfInBounds_toArray, List.set_cons_succ, List.set_cons_zero] at ha; subst ha
      refine wt_take 8 rfl (by kernel_rfl) (by kernel_rfl) (by kernel_rfl) (fun _ _ _ _ h => h) rfl hC ⟨_, fun w hw => by (go_simp; try with_reducible rfl), fun a1 ha => ?_⟩
      simp only [Act.put, List.setIfInBounds_toArray, List.set_cons_succ, List.set_cons_zero] at ha; subst ha
      refine wt_take 9 rfl (by kernel_rfl) (by kernel_rfl) (by kernel_rfl) (fun _ _ _ _ h => h) rfl hC ⟨_, fun w hw => by (go_simp; try with_reducible rfl), fun a1 ha => ?_⟩
      simp only [Act.put, List.setIfInBounds_toArray, List.set_cons_succ, List.set_cons_zero] at ha; subst ha
      refine wt_take 10 rfl (by kernel_rfl) (by kernel_rfl) (by kernel_rfl) (fun _ _ _ _ h => h) rfl hC ⟨_, fun w hw => ex_loadB rfl Try.underlying40 size40 rfl (hw.getB 2 rfl), fun a1 ha => ?_⟩
      simp only [Act.put, List.setIfInBounds_toArray, List.set_cons_succ, List.set_cons_zero] at ha; subst ha
      refine wt_take 11 rfl (by kernel_rfl) (by kernel_rfl) (by kernel_rfl) (fun _ _ _ _ h => h) rfl hC ⟨_, fun w hw => by (go_simp; try with_reducible rfl), fun a1 ha => ?_⟩
      simp only [Act.put, List.setIfInBounds_toArray, List.set_cons_succ, List.set_cons_zero] at ha; subst ha
      refine wt_take 12 rfl (by kernel_rfl) (by kernel_rfl) (by kernel_rfl) (fun _ _ _ _ h => h) rfl hC ⟨_, fun w hw => by (go_simp; try with_reducible rfl), fun a1 ha => ?_⟩
      simp only [Act.put, List.setIfInBounds_toArray, List.set_cons_succ, List.set_cons_zero] at ha; subst ha
      refine wt_take 13 rfl (by kernel_rfl) (by kernel_rfl) (by kernel_rfl) (fun _ _ _ _ h => h) rfl hC ⟨_, fun w hw => ex_indexS rfl Try.underlying30 size40 rfl rfl last rfl hlast rfl, fun a1 ha => ?_⟩
      simp only [Act.put, List.setIfInBounds_toArray, List.set_cons_succ, List.set_cons_zero] at ha; subst ha
      refine wt_take 14 rfl (by kernel_rfl) (by kernel_rfl) (by kernel_rfl) (fun _ _ _ _ h => h) rfl hC ⟨_, fun w hw => ex_loadMB rfl Try.underlying40 size40 rfl (hw.rd 5 rfl (by omega)), fun a1 ha => ?_⟩
      simp only [Act.put, List.setIfInBounds_toArray, List.set_cons_succ, List.set_cons_zero] at ha; subst ha
      refine wt_take 15 rfl (by kernel_rfl) (by kernel_rfl) (by kernel_rfl) (fun _ _ _ _ h => h) rfl hC ⟨.bool true, fun w hw => ex_eqlBR rfl Try.underlying40 Try.underlying5 size5 eqg40 rfl rfl (by first | exact HE.out | (simp only [Nat.zero_mul, Nat.zero_add]; exact eqB_refl _ _)), fun a1 ha => ?_⟩
      simp only [Act.put, List.setIfInBounds_toArray, List.set_cons_succ, List.set_cons_zero] at ha; subst ha
      refine wt_take 16 rfl (by kernel_rfl) (by kernel_rfl) (by kernel_rfl) (fun _ _ _ _ h => h) rfl hC ⟨_, fun w hw => by (go_simp; try with_reducible rfl), fun a1 ha => ?_⟩
      simp only [Act.put, List.setIfInBounds_toArray, List.set_cons_succ, List.set_cons_zero] at ha; subst ha
      refine wt_take 17 rfl (by kernel_rfl) (by kernel_rfl) (by kernel_rfl) (fun _ _ _ _ h => h) rfl hC ⟨_, fun w hw => by (go_simp; try with_reducible rfl), fun a1 ha => ?_⟩
      simp only [Act.put, List.setIfInBounds_toArray, List.set_cons_succ, List.set_cons_zero] at ha; subst ha
      refine wt_take 18 rfl (by kernel_rfl) (by kernel_rfl) (by kernel_rfl) (fun _ _ _ _ h => h) rfl hC ⟨_, fun w hw => by (go_simp; try with_reducible rfl), fun a1 ha => ?_⟩
      simp only [Act.put, List.setIfInBounds_toArray, List.set_cons_succ, List.set_cons_zero] at ha; subst ha
      refine wt_take 19 rfl (by kernel_rfl) (by kernel_rfl) (by kernel_rfl) (fun _ _ _ _ h => h) rfl hC ⟨_, fun w hw => by (go_simp; try with_reducible rfl), fun a1 ha => ?_⟩
      simp only [Act.put, List.setIfInBounds_toArray, List.set_cons_succ, List.set_cons_zero] at ha; subst ha
      refine wt_take 20 rfl (by kernel_rfl) (by kernel_rfl) (by kernel_rfl) (fun _ _ _ _ h => h) rfl hC ⟨_, fun w hw => by (go_simp; try with_reducible rfl), fun a1 ha => ?_⟩
      simp only [Act.put, List.setIfInBounds_toArray, List.set_cons_succ, List.set_cons_zero] at ha; subst ha
      refine wt_take 21 rfl (by kernel_rfl) (by kernel_rfl) (by kernel_rfl) (fun _ _ _ _ h => h) rfl hC ⟨_, fun w hw => by (go_simp; try with_reducible rfl), fun a1 ha => ?_⟩
      simp only [Act.put, List.setIfInBounds_toArray, List.set_cons_succ, List.set_cons_zero] at ha; subst ha
      refine wt_take 22 rfl (by kernel_rfl) (by kernel_rfl) (by kernel_rfl) (fun _ _ _ _ h => h) rfl hC ⟨_, fun w hw => by (go_simp; try with_reducible rfl), fun a1 ha => ?_⟩
      simp only [Act.put, List.setIfInBounds_toArray, List.set_cons_succ, List.set_cons_zero] at ha; subst ha
      refine wt_take 23 rfl (by kernel_rfl) (by kernel_rfl) (by kernel_rfl) (fun _ _ _ _ h => h) rfl hC ⟨_, fun w hw => by (go_simp; try with_reducible rfl), fun a1 ha => ?_⟩
      simp only [Act.put, List.setIfInBounds_toArray, List.set_cons_succ, List.set_cons_zero] at ha; subst ha
      refine wt_take 24 rfl (by kernel_rfl) (by kernel_rfl) (by kernel_rfl) (fun _ _ _ _ h => h) rfl hC ⟨_, fun w hw => by (go_simp; try with_reducible rfl), fun a1 ha => ?_⟩
      simp only [Act.put, List.setIfInBounds_toArray, List.set_cons_succ, List.set_cons_zero] at ha; subst ha
      refine wt_take 25 rfl (by kernel_rfl) (by kernel_rfl) (by kernel_rfl) (fun _ _ _ _ h => h) rfl hC ⟨_, fun w hw => by (go_simp; try with_reducible rfl), fun a1 ha => ?_⟩
      simp only [Act.put, List.setIfInBounds_toArray, List.set_cons_succ, List.set_cons_zero] at ha; subst ha
      refine wt_take 26 rfl (by kernel_rfl) (by kernel_rfl) (by kernel_rfl) (fun _ _ _ _ h => h) rfl hC ⟨_, fun w hw => ex_loadB rfl Try.underlying40 size40 rfl (hw.getB 0 rfl), fun a1 ha => ?_⟩
      simp only [Act.put, List.setIfInBounds_toArray, List.set_cons_succ, List.set_cons_zero] at ha; subst ha
      refine wt_one 27 (by kernel_rfl) ?_
      refine wt_buildV hs rfl rfl rfl Try.underlying42 info5 (by omega) (by omega) [.int .u8 97, .int .u8 103, .int .u8 97, .int .u8 105, .int .u8 110] rfl rfl (by simp [Value.oneCell']) _ kcA (fun _ => by simp only [Act.put, List.setIfInBounds_toArray, List.set_cons_succ, List.set_cons_zero]; rfl) ?_
      clear hs; intro w1 b5 hs
      refine wt_and (hs.sub (by repeat (first | exact List.Sublist.refl _ | refine List.Sublist.cons_cons _ ?_ | refine List.Sublist.cons _ ?_))) fun hC => ?_
      refine wt_one 28 (by kernel_rfl) ?_
      refine wt_convConst hs rfl rfl rfl Try.underlying42 Try.underlying5 rfl 0 rfl (by simp only [Act.put, List.setIfInBounds_toArray, List.set_cons_succ, List.set_cons_zero]; rfl) ?_
      clear hs; intro w1 hs
      refine wt_and (hs.sub (by repeat (first | exact List.Sublist.refl _ | refine List.Sublist.cons_cons _ ?_ | refine List.Sublist.cons _ ?_))) fun hC => ?_
      refine wt_one 29 (by kernel_rfl) ?_
      refine wt_call0 hs rfl rfl (by go_simp) (of_any kA 5 5 _ b5 0 _ (fun _ => rfl) (hs.obj_rd 0 rfl (by omega))) (by simp only [Act.put, List.setIfInBounds_toArray, List.set_cons_succ, List.set_cons_zero]; rfl) ?_
      clear hs; intro w1 hs
      refine wt_and (hs.sub (by repeat (first | exact List.Sublist.refl _ | refine List.Sublist.cons_cons _ ?_ | refine List.Sublist.cons _ ?_))) fun hC => ?_
      refine wt_take 30 rfl (by kernel_rfl) (by kernel_rfl) (by kernel_rfl) (fun _ _ _ _ h => h) rfl hC ⟨.bool true, fun w hw => ex_eqlBR rfl Try.underlying40 Try.underlying5 size5 eqg40 rfl rfl (by first | exact updF_at _ _ _ | simpa using updF_at W last (ofF 5 kA)), fun a1 ha => ?_⟩
      simp only [Act.put, List.setIfInBounds_toArray, List.set_cons_succ, List.set_cons_zero] at ha; subst ha
      refine wt_take 31 rfl (by kernel_rfl) (by kernel_rfl) (by kernel_rfl) (fun _ _ _ _ h => h) rfl hC ⟨_, fun w hw => by (go_simp; try with_reducible rfl), fun a1 ha => ?_⟩
      simp only [Act.put, List.setIfInBounds_toArray, List.set_cons_succ, List.set_cons_zero] at ha; subst ha
      refine wt_take 32 rfl (by kernel_rfl) (by kernel_rfl) (by kernel_rfl) (fun _ _ _ _ h => h) rfl hC ⟨_, fun w hw => by (go_simp; try with_reducible rfl), fun a1 ha => ?_⟩
      simp only [Act.put, List.setIfInBounds_toArray, List.set_cons_succ, List.set_cons_zero] at ha; subst ha
      refine wt_take 33 rfl (by kernel_rfl) (by kernel_rfl) (by kernel_rfl) (fun _ _ _ _ h => h) rfl hC ⟨_, fun w hw => by (go_simp; try with_reducible rfl), fun a1 ha => ?_⟩
      simp only [Act.put, List.setIfInBounds_toArray, List.set_cons_succ, List.set_cons_zero] at ha; subst ha
      refine wt_take 34 rfl (by kernel_rfl) (by kernel_rfl) (by kernel_rfl) (fun _ _ _ _ h => h) rfl hC ⟨_, fun w hw => by (go_simp; try with_reducible rfl), fun a1 ha => ?_⟩
      simp only [Act.put, List.setIfInBounds_toArray, List.set_cons_succ, List.set_cons_zero] at ha; subst ha
      refine wt_take 35 rfl (by kernel_rfl) (by kernel_rfl) (by kernel_rfl) (fun _ _ _ _ h => h) rfl hC ⟨_, fun w hw => by (go_simp; try with_reducible rfl), fun a1 ha => ?_⟩
      simp only [Act.put, List.setIfInBounds_toArray, List.set_cons_succ, List.set_cons_zero] at ha; subst ha
      refine wt_take 36 rfl (by kernel_rfl) (by kernel_rfl) (by kernel_rfl) (fun _ _ _ _ h => h) rfl hC ⟨_, fun w hw => by (go_simp; try with_reducible rfl), fun a1 ha => ?_⟩
      simp only [Act.put, List.setIfInBounds_toArray, List.set_cons_succ, List.set_cons_zero] at ha; subst ha
      refine wt_done (by kernel_rfl) ?_
      go_wp2_with fail
      go_ret
      exact ⟨rfl, hs.letgo⟩

theorem arms_walk (n cap m cap2 : Nat) (ao ao2 : Option Addr) (db doff db2 doff2 : Nat) (V : Nat → Value) (SF : Nat → Nat → UInt8) (N : Nat → Int) (V2 : Nat → Value) (WF : Nat → Nat → UInt8) (x : Int) (w : World) (hn : n ≤ 9223372036854775807) (hm : m ≤ 4611686018427387903)
    (hx : -9223372036854775808 ≤ x ∧ x ≤ 9223372036854775807) (hao : 0 < n → ao = some ⟨db, doff, none⟩) (hV : Rd w db doff n V) (hB : ∀ i, i < n → isBytes w (V i) (SF i)) (hao2 : 0 < m → ao2 = some ⟨db2, doff2, none⟩)
    (hW : ∀ i, i < m → (w.cell? ⟨db2, doff2 + i * 2, none⟩ = some (.int .i64 (N i)) ∧ w.cell? ⟨db2, doff2 + i * 2 + 1, none⟩ = some (V2 i)) ∧ (-9223372036854775808 ≤ N i ∧ N i ≤ 9223372036854775807) ∧ isBytes w (V2 i) (WF i)) :
    Calls Try.prog 8 #[.slice ao n cap, .int .i64 x, .slice ao2 m cap2] w fun e w' => e = .returned (.bool true) ∧ Below w.heap.size w w' := by
  suffices hh : Calls Try.prog 8 #[.slice ao n cap, .int .i64 x, .slice ao2 m cap2] w fun e w' => e = .returned (.bool true) ∧ Tr w [] w' [] from hh.mono fun e w' ⟨he, ht⟩ => ⟨he, ht.below⟩
  by_cases h : n = 0 ∨ 4096 < n
  · exact arms_no n cap m cap2 ao ao2 x w h hn
  · have b0 := pick_bd x ((m : Int) + 2) (by omega)
    obtain ⟨k, hk⟩ : ∃ k : Nat, pick x ((m : Int) + 2) = (k : Int) := ⟨_, (Int.toNat_of_nonneg b0.1).symm⟩
    have b1 := pick_bd (k : Int) (n : Int) (by omega)
    obtain ⟨l, hl⟩ : ∃ l : Nat, pick (k : Int) (n : Int) = (l : Int) := ⟨_, (Int.toNat_of_nonneg b1.1).symm⟩
    have bK := fun i => pick_bd (N i) (n : Int) (by omega)
    refine arms_yes n cap m cap2 k l ao ao2 db doff db2 doff2 V SF N V2 WF (fun i => (pick (N i) n).toNat) x w (by omega) (by omega) hm (by omega) (by omega) (hao (by omega)) hV hB hao2 (Lib.hid fun i hi => ⟨(hW i hi).1, (hW i hi).2.2⟩) (Lib.hid fun i => ?_) (Lib.hid fun i hi w => ?_) (Lib.hid fun w => ?_) (Lib.hid fun w => ?_)
    · have := bK i
      omega
    · rw [Int.toNat_of_nonneg (bK i).1]
      exact pick_any (N i) n w (by omega) (by omega) (hW i hi).2.1.1 (hW i hi).2.1.2
    · rw [← hk]
      exact pick_any x _ w (by omega) (by omega) hx.1 hx.2
    · rw [← hl]
      exact pick_any (k : Int) n w (by omega) (by omega) (by omega) (by omega)
end Go.Proofs.Ytcflolcaiedmfaa
