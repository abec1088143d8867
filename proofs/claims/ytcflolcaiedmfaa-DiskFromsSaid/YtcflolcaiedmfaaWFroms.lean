/- DiskFroms: the walk. -/
import Derived.Test.YtcflolcaiedmfaaE
import Derived.Test.YtcflolcaiedmfaaWArms
namespace Go.Proofs.Ytcflolcaiedmfaa
set_option linter.unusedVariables false
set_option linter.unusedSimpArgs false
open Go Go.Sp Go.RowKit Go.BigFrame

def kO : Nat → UInt8 := fun i => if i = 0 then 111 else if i = 1 then 116 else if i = 2 then 104 else if i = 3 then 101 else 114
theorem kcO : (#[.int .u8 111, .int .u8 116, .int .u8 104, .int .u8 101, .int .u8 114] : Array Value) = rowOf 5 (u8v kO) := by
  refine rowOf_ext rfl fun i hi => ?_
  match i, hi with
  | 0, _ => rfl
  | 1, _ => rfl
  | 2, _ => rfl
  | 3, _ => rfl
  | 4, _ => rfl
def k1F : Nat → UInt8 := fun i => if i = 0 then 111 else if i = 1 then 110 else 101
theorem kc1 : (#[.int .u8 111, .int .u8 110, .int .u8 101] : Array Value) = rowOf 3 (u8v k1F) := by
  refine rowOf_ext rfl fun i hi => ?_
  match i, hi with
  | 0, _ => rfl
  | 1, _ => rfl
  | 2, _ => rfl
def k2F : Nat → UInt8 := fun i => if i = 0 then 116 else if i = 1 then 119 else 111
theorem kc2 : (#[.int .u8 116, .int .u8 119, .int .u8 111] : Array Value) = rowOf 3 (u8v k2F) := by
  refine rowOf_ext rfl fun i hi => ?_
  match i, hi with
  | 0, _ => rfl
  | 1, _ => rfl
  | 2, _ => rfl

/-- The first k sectors are X. -/
def fillF (f X : Nat → UInt8) (k : Nat) : Nat → UInt8 := fun j => if j / 128 < k then X (j % 128) else f j
def allF (X : Nat → UInt8) : Nat → UInt8 := fun j => X (j % 128)
theorem fill_step (f X : Nat → UInt8) (k j : Nat) : (if k * 128 ≤ j ∧ j < k * 128 + 128 then u8v X (j - k * 128) else u8v (fillF f X k) j) = u8v (fillF f X (k + 1)) j := by
  simp only [u8v, fillF]
  by_cases h : k * 128 ≤ j ∧ j < k * 128 + 128
  · have h1 : j / 128 = k := by omega
    have h2 : j % 128 = j - k * 128 := by omega
    rw [if_pos h, h1, if_pos (by omega), h2]
  · rw [if_neg h]
    by_cases h1 : j / 128 < k
    · rw [if_pos h1, if_pos (by omega)]
    · rw [if_neg h1, if_neg (by omega)]
theorem fill_zero (f X : Nat → UInt8) : fillF f X 0 = f := by
  funext j
  simp only [fillF]
  rw [if_neg (by omega)]
theorem fill_all (f X : Nat → UInt8) (n : Nat) : rowOf (n * 128) (u8v (fillF f X n)) = rowOf (n * 128) (u8v (allF X)) := rowOf_congr fun j hj => by
  simp only [u8v, fillF, allF]
  rw [if_pos (by omega)]
theorem all_app (X : Nat → UInt8) (n : Nat) : (rowOf (n * 128) (u8v (allF X))).toList ++ (rowOf 128 (u8v X)).toList = (rowOf ((n + 1) * 128) (u8v (allF X))).toList := by
  have e : rowOf 128 (u8v X) = rowOf 128 fun j => u8v (allF X) (n * 128 + j) := rowOf_congr fun j hj => by
    simp only [u8v, allF]
    rw [show (n * 128 + j) % 128 = j by omega]
  rw [e, Nat.add_mul, Nat.one_mul]
  exact rowOf_append (n * 128) 128 (u8v (allF X))
theorem all_at (X : Nat → UInt8) (k : Nat) : eqB 128 (fun j => allF X (0 + k * 128 + j)) X = true := by
  refine eqB_iff.2 fun j hj => ?_
  simp only [allF]
  rw [show (0 + k * 128 + j) % 128 = j by omega]
theorem all_at2 (X : Nat → UInt8) (k : Nat) : eqB 128 (fun j => allF X (k * 128 + j)) X = true := by
  have := all_at X k
  simpa using this
theorem news40 {w0 w : World} {S : List Nat} {L : List Res} (hs : Tr w0 S w L) (i : Nat) {b : Nat} {cs : Array Value} {t : TypeId} (hi : L[i]? = some (Res.blk b cs t)) : ∀ j u, cs.toList[j]? = some u → w.cell? ⟨b, 0 + j, none⟩ = some u := fun j u hj => by
  rw [Nat.zero_add, cell_of_row w b j cs t (0, 0) (hs.getB i hi)]; simpa using hj

set_option maxRecDepth 100000 in
set_option maxHeartbeats 1000000 in
theorem froms_far (n cap : Nat) (ao : Option Addr) (w : World) (hn : 5000 < n) :
    Calls Try.prog 5 #[.slice ao n cap] w fun e w' => e = .returned (.bool true) ∧ Tr w [] w' [] := by
  have hs := Tr.refl w []
  have hf : Hid (∀ w, Calls Try.prog 24 #[.slice ao n cap] w fun e w' => e = .returned (.bool false) ∧ w = w') := Lib.hid fun w => by
    have h5 : ¬ (n : Int) ≤ 5000 := by omega
    go_enter Try.func24, Try.ntmps24
    go_wp2
    go_ret
    exact ⟨rfl, rfl⟩
  go_enter Try.func5, Try.ntmps5
  go_wp2_with (first
    | (go_at_call 10; refine (awake_any _).mono ?_; rintro e w2 ⟨rfl, hc⟩; replace hs := hs.call0 hc; clear hc)
    | (go_at_call 24; refine (hf.out _).mono ?_; rintro e w2 ⟨rfl, rfl⟩))
  go_ret
  exact ⟨rfl, hs.letgo⟩

set_option maxRecDepth 100000 in
set_option maxHeartbeats 1000000 in
theorem froms_no (n cap : Nat) (ao : Option Addr) (db doff : Nat) (V : Nat → Value) (SF : Nat → Nat → UInt8) (w : World) (hn : n = 0 ∨ 4096 < n) (hn5 : n ≤ 5000) (hao : 0 < n → ao = some ⟨db, doff, none⟩) (hV : Rd w db doff n V) (hB : ∀ i, i < n → isBytes w (V i) (SF i)) :
    Calls Try.prog 5 #[.slice ao n cap] w fun e w' => e = .returned (.bool true) ∧ Tr w [] w' [] := by
  have hs := Tr.refl w []
  have HV := Lib.hid hV
  have HB := Lib.hid hB
  have HA := Lib.hid hao
  have hn := Lib.hid hn
  clear hV hB hao
  have hf : Hid (∀ w, Calls Try.prog 24 #[.slice ao n cap] w fun e w' => e = .returned (.bool true) ∧ w = w') := Lib.hid fun w => by
    have h5 : (n : Int) ≤ 5000 := by omega
    go_enter Try.func24, Try.ntmps24
    go_wp2
    go_ret
    exact ⟨rfl, rfl⟩
  have HL := Lib.hid (fun (w' : World) (hw : Tr w [] w' []) => laid_any n cap ao db doff V SF w' (by omega) HA.out (HV.out.keep hw) (fun i hi => (HB.out i hi).keep hw))
  go_enter Try.func5, Try.ntmps5
  go_wp2_with (first
    | (go_at_call 10; refine (awake_any _).mono ?_; rintro e w2 ⟨rfl, hc⟩; replace hs := hs.call0 hc; clear hc)
    | (go_at_call 24; refine (hf.out _).mono ?_; rintro e w2 ⟨rfl, rfl⟩)
    | (go_at_call 25; refine (HL.out _ hs.letgo).mono ?_; rintro e w2 ⟨b, rfl, hc⟩; replace hs := hs.call1 hc; clear hc)
    | ((with_reducible refine at_slice rfl ?_); refine wl_slice rfl rfl Try.underlying30 size40 rfl 0 n (Or.inl ⟨rfl, rfl⟩) (Or.inr ⟨_, _, rfl, rfl⟩) (by omega) (by omega) (fun _ => rfl) ?_; intro ao3 hao3; clear hao3)
    | (go_at_call 26; refine (from_no _ _ _ _ hn.out).mono ?_; rintro e w2 ⟨rfl, hc⟩; replace hs := hs.call0 hc; clear hc)
    | (go_at_call 27; refine (rfrom_no _ _ _ _ hn.out).mono ?_; rintro e w2 ⟨rfl, hc⟩; replace hs := hs.call0 hc; clear hc)
    | (go_at_call 14; refine (same_yes (laidF n SF) (laidF n SF) (n + 3) _ _ _ _ _ 0 _ 0 _ (by omega) (fun _ => rfl) (fun _ => rfl) (hs.rd0 1 rfl (by omega)) (hs.rd0 0 rfl (by omega)) (fun _ _ => rfl)).mono ?_; rintro e w2 ⟨rfl, hc⟩; replace hs := hs.call0 hc; clear hc))
  go_ret
  exact ⟨rfl, hs.letgo⟩

set_option maxRecDepth 100000 in
set_option maxHeartbeats 2000000 in
theorem froms_yes (n cap : Nat) (ao : Option Addr) (db doff : Nat) (V : Nat → Value) (SF : Nat → Nat → UInt8) (w : World) (h1 : 1 ≤ n) (h2 : n ≤ 4096) (hao : ao = some ⟨db, doff, none⟩) (hV : Rd w db doff n V) (hB : ∀ i, i < n → isBytes w (V i) (SF i)) :
    Calls Try.prog 5 #[.slice ao n cap] w fun e w' => e = .returned (.bool true) ∧ Tr w [] w' [] := by
  have hs := Tr.refl w []
  subst hao
  have HV := Lib.hid hV
  have HB := Lib.hid hB
  clear hV hB
  have hf : Hid (∀ w, Calls Try.prog 24 #[.slice (some ⟨db, doff, none⟩) n cap] w fun e w' => e = .returned (.bool true) ∧ w = w') := Lib.hid fun w => by
    have h5 : (n : Int) ≤ 5000 := by omega
    go_enter Try.func24, Try.ntmps24
    go_wp2
    go_ret
    exact ⟨rfl, rfl⟩
  have HL := Lib.hid (fun (w' : World) (hw : Tr w [] w' []) => laid_any n cap (some ⟨db, doff, none⟩) db doff V SF w' (by omega) (fun _ => rfl) (HV.out.keep hw) (fun i hi => (HB.out i hi).keep hw))
  go_enter Try.func5, Try.ntmps5
  go_upto_region 6 with (first
    | (go_at_call 10; refine (awake_any _).mono ?_; rintro e w2 ⟨rfl, hc⟩; replace hs := hs.call0 hc; clear hc)
    | (go_at_call 24; refine (hf.out _).mono ?_; rintro e w2 ⟨rfl, rfl⟩)
    | (go_at_call 25; refine (HL.out _ hs.letgo).mono ?_; rintro e w2 ⟨bo, rfl, hc⟩; replace hs := hs.call1 hc; clear hc))
  go_upto_region 9 with (first
    | (go_at_call 25; refine (HL.out _ hs.letgo).mono ?_; rintro e w2 ⟨bw, rfl, hc⟩; replace hs := hs.call1 hc; clear hc)
    | ((with_reducible refine at_slice rfl ?_); refine wl_slice rfl rfl Try.underlying30 size40 rfl 0 n (Or.inl ⟨rfl, rfl⟩) (Or.inr ⟨_, _, rfl, rfl⟩) (by omega) (by omega) (fun _ => rfl) ?_; intro ao3 hao3; obtain rfl := hao3 (by omega); clear hao3)
    | (go_at_call 26; refine (from_ok n _ bo (0 + 0 * 128) (laidF n SF) _ h1 h2 (hs.rd0 1 rfl (by omega))).mono ?_; rintro e w2 ⟨d, s, rfl, hc⟩; replace hs := hs.call1 hc; clear hc)
    | (go_at_call 27; refine (rfrom_ok n _ bw (0 + 0 * 128) (laidF n SF) _ h1 h2 (hs.rd0 1 rfl (by omega))).mono ?_; rintro e w2 ⟨r, rfl, hc⟩; replace hs := hs.call0 hc; clear hc))
  generalize laidF n SF = f0 at *
  go_upto_region 14 with (first
    | (go_at_call 14; refine (same_yes f0 f0 (n + 3) _ _ _ _ bo 0 bw 0 _ (by omega) (fun _ => rfl) (fun _ => rfl) (hs.rd0 2 rfl (by omega)) (hs.rd0 1 rfl (by omega)) (fun _ _ => rfl)).mono ?_; rintro e w2 ⟨rfl, hc⟩; replace hs := hs.call0 hc; clear hc))
  go_wp2_with fail
  go_loopw [12] (fun i wr => ∃ (k : Nat) (g : Nat → UInt8), k ≤ n + 3 ∧ i = .int .i64 k ∧ Tr w [] wr [diskR d s n f0 0 false false 0, Res.blk bw (rowOf ((n + 3) * 128) (u8v f0)) 40, Res.blk bo (rowOf ((n + 3) * 128) (u8v g)) 40]) (fun i _ => n + 3 - (intOf i).toNat)
  case atStart => exact ⟨0, _, by omega, rfl, hs⟩
  case round =>
    clear hs
    obtain ⟨k, g, hk, rfl, hs⟩ := hrel
    by_cases hlt : k < n + 3
    · have hlt2 : (k : Int) < ((n + 3 : Nat) : Int) := by omega
      go_wp2_with (first
          | ((with_reducible refine at_buildSlice rfl ?_); refine wl_buildSliceV hs rfl rfl Try.underlying42 info5 (by omega) (by omega) [.int .u8 111, .int .u8 116, .int .u8 104, .int .u8 101, .int .u8 114] rfl rfl (by simp [Value.oneCell']) ?_; clear hs; intro w1 b2 hs; rw [kcO] at hs)
          | ((with_reducible refine at_conv rfl ?_); refine wl_convConst hs rfl rfl Try.underlying42 Try.underlying5 rfl 0 rfl ?_; clear hs; intro w1 hs)
          | (go_at_call 22; refine (of_any kO 5 5 _ b2 0 _ (fun _ => rfl) (hs.obj_rd 0 rfl (by omega))).mono ?_; rintro e w2 ⟨rfl, hc⟩; replace hs := hs.call0 hc; clear hc)
          | ((with_reducible refine at_index rfl ?_); refine wl_index rfl rfl Try.underlying30 size40 rfl rfl k rfl (by omega) rfl ?_)
          | ((with_reducible refine at_store rfl ?_); refine wl_storeM hs rfl rfl rfl rfl size40 (fun _ _ => rfl) 3 rfl (by omega) (u8v (updF g k (ofF 5 kO))) (fun q _ => by simp only [u8v, updF, Nat.zero_add]; split <;> rfl) ?_; clear hs; intro w1 hs))
      go_roundw
      case rel => exact ⟨k + 1, _, by omega, by go_num, hs.erase 0⟩
      case measure => simp [intOf]; omega
    · obtain rfl : k = n + 3 := by omega
      replace hs := hs.erase 2
      go_upto_region 19 with (first
        | (go_at_call 13; refine (image_any h2 (hs.get 0 rfl)).mono ?_; rintro e w2 ⟨ba, rfl, hc⟩; replace hs := hs.call1 hc; clear hc))
      go_upto_region 21 with (first
        | (go_at_call 13; refine (image_any h2 (hs.get 1 rfl)).mono ?_; rintro e w2 ⟨bb, rfl, hc⟩; replace hs := hs.call1 hc; clear hc)
        | ((with_reducible refine at_slice rfl ?_); refine wl_slice rfl rfl Try.underlying30 size40 rfl 0 n (Or.inl ⟨rfl, rfl⟩) (Or.inr ⟨_, _, rfl, rfl⟩) (by omega) (by omega) (fun _ => rfl) ?_; intro ao3 hao3; obtain rfl := hao3 (by omega); clear hao3)
        | (go_at_call 14; refine (same_yes f0 f0 n _ _ _ _ ba 0 bw (0 + 0 * 128) _ (by omega) (fun _ => rfl) (fun _ => rfl) (hs.rd0 1 rfl (by omega)) (hs.rd0 3 rfl (by omega)) (fun _ _ => rfl)).mono ?_; rintro e w2 ⟨rfl, hc⟩; replace hs := hs.call0 hc; clear hc))
      go_wp2_with fail
      go_loopw [16] (fun i wr => ∃ (k : Nat), k ≤ n ∧ i = .int .i64 k ∧ Tr w [] wr [Res.blk bb (rowOf (n * 128) (u8v f0)) 40, Res.blk ba (rowOf (n * 128) (u8v (fillF f0 (ofF 3 k1F) k))) 40, diskR d s n f0 0 false false 0, Res.blk bw (rowOf ((n + 3) * 128) (u8v f0)) 40]) (fun i _ => n - (intOf i).toNat)
      case atStart => exact ⟨0, by omega, rfl, by rw [fill_zero]; exact hs⟩
      case round =>
        clear hs
        obtain ⟨k, hk, rfl, hs⟩ := hrel
        by_cases hlt : k < n
        · have hlt2 : (k : Int) < (n : Int) := by omega
          go_wp2_with (first
            | ((with_reducible refine at_buildSlice rfl ?_); refine wl_buildSliceV hs rfl rfl Try.underlying42 info5 (by omega) (by omega) [.int .u8 111, .int .u8 110, .int .u8 101] rfl rfl (by simp [Value.oneCell']) ?_; clear hs; intro w1 b2 hs; rw [kc1] at hs)
            | ((with_reducible refine at_conv rfl ?_); refine wl_convConst hs rfl rfl Try.underlying42 Try.underlying5 rfl 0 rfl ?_; clear hs; intro w1 hs)
            | (go_at_call 22; refine (of_any k1F 3 3 _ b2 0 _ (fun _ => rfl) (hs.obj_rd 0 rfl (by omega))).mono ?_; rintro e w2 ⟨rfl, hc⟩; replace hs := hs.call0 hc; clear hc)
            | ((with_reducible refine at_index rfl ?_); refine wl_index rfl rfl Try.underlying30 size40 rfl rfl k rfl (by omega) rfl ?_)
            | ((with_reducible refine at_store rfl ?_); refine wl_storeM hs rfl rfl rfl rfl size40 (fun _ _ => rfl) 2 rfl (by omega) (u8v (fillF f0 (ofF 3 k1F) (k + 1))) (fun q _ => by rw [Nat.zero_add]; exact fill_step _ _ _ _) ?_; clear hs; intro w1 hs))
          go_roundw
          case rel => exact ⟨k + 1, by omega, by go_num, hs.erase 0⟩
          case measure => simp [intOf]; omega
        · obtain rfl : k = n := by omega
          rw [fill_all] at hs
          go_upto_region 26 with (first
            | ((with_reducible refine at_slice rfl ?_); refine wl_slice rfl rfl Try.underlying30 size40 rfl 0 k (Or.inl ⟨rfl, rfl⟩) (Or.inr ⟨_, _, rfl, rfl⟩) (by omega) (by omega) (fun _ => rfl) ?_; intro ao3 hao3; obtain rfl := hao3 (by omega); clear hao3)
            | (go_at_call 14; refine (same_yes f0 f0 k _ _ _ _ bb 0 bw (0 + 0 * 128) _ (by omega) (fun _ => rfl) (fun _ => rfl) (hs.rd0 0 rfl (by omega)) (hs.rd0 3 rfl (by omega)) (fun _ _ => rfl)).mono ?_; rintro e w2 ⟨rfl, hc⟩; replace hs := hs.call0 hc; clear hc))
          go_wp2_with fail
          go_loopw [18] (fun i wr => ∃ (j : Nat), j ≤ k ∧ i = .int .i64 j ∧ Tr w [] wr [Res.blk bb (rowOf (k * 128) (u8v (fillF f0 (ofF 3 k2F) j))) 40, Res.blk ba (rowOf (k * 128) (u8v (allF (ofF 3 k1F)))) 40, diskR d s k f0 0 false false 0, Res.blk bw (rowOf ((k + 3) * 128) (u8v f0)) 40]) (fun i _ => k - (intOf i).toNat)
          case atStart => exact ⟨0, by omega, rfl, by rw [fill_zero]; exact hs⟩
          case round =>
            clear hs
            obtain ⟨j, hj, rfl, hs⟩ := hrel
            by_cases hlt : j < k
            · have hlt2 : (j : Int) < (k : Int) := by omega
              go_wp2_with (first
                | ((with_reducible refine at_buildSlice rfl ?_); refine wl_buildSliceV hs rfl rfl Try.underlying42 info5 (by omega) (by omega) [.int .u8 116, .int .u8 119, .int .u8 111] rfl rfl (by simp [Value.oneCell']) ?_; clear hs; intro w1 b2 hs; rw [kc2] at hs)
                | ((with_reducible refine at_conv rfl ?_); refine wl_convConst hs rfl rfl Try.underlying42 Try.underlying5 rfl 0 rfl ?_; clear hs; intro w1 hs)
                | (go_at_call 22; refine (of_any k2F 3 3 _ b2 0 _ (fun _ => rfl) (hs.obj_rd 0 rfl (by omega))).mono ?_; rintro e w2 ⟨rfl, hc⟩; replace hs := hs.call0 hc; clear hc)
                | ((with_reducible refine at_index rfl ?_); refine wl_index rfl rfl Try.underlying30 size40 rfl rfl j rfl (by omega) rfl ?_)
                | ((with_reducible refine at_store rfl ?_); refine wl_storeM hs rfl rfl rfl rfl size40 (fun _ _ => rfl) 1 rfl (by omega) (u8v (fillF f0 (ofF 3 k2F) (j + 1))) (fun q _ => by rw [Nat.zero_add]; exact fill_step _ _ _ _) ?_; clear hs; intro w1 hs))
              go_roundw
              case rel => exact ⟨j + 1, by omega, by go_num, hs.erase 0⟩
              case measure => simp [intOf]; omega
            · obtain rfl : j = k := by omega
              rw [fill_all] at hs
              replace hs := hs.toOwnAt 1 (n := j) (size := 128) rfl (by simp) (by unfold maxLen; omega)
              replace hs := hs.toOwnAt 0 (n := j) (size := 128) rfl (by simp) (by unfold maxLen; omega)
              go_wp2_with fail
              go_loopw [13, 19] (fun v i wr => ∃ (c : Nat) (va : Value), va = v ∧ c ≤ 8 ∧ i = .int .i64 c ∧ Tr w [] wr [Res.own 40 128 (.slice (some ⟨bb, 0, none⟩) j j) j (rowOf (j * 128) (u8v (allF (ofF 3 k2F)))).toList, Res.own 40 128 va (j + c) (rowOf ((j + c) * 128) (u8v (allF (ofF 3 k1F)))).toList, diskR d s j f0 0 false false 0, Res.blk bw (rowOf ((j + 3) * 128) (u8v f0)) 40]) (fun _ i _ => 8 - (intOf i).toNat)
              case atStart => exact ⟨0, _, rfl, by omega, rfl, hs⟩
              case round =>
                clear hs
                obtain ⟨c, va, hva, hc8, rfl, hs⟩ := hrel
                subst hva
                by_cases hlt : c < 8
                · have hlt2 : (c : Int) < 8 := by omega
                  go_wp2_with (first
                    | ((with_reducible refine at_buildSlice rfl ?_); refine wl_buildSliceV hs rfl rfl Try.underlying42 info5 (by omega) (by omega) [.int .u8 111, .int .u8 110, .int .u8 101] rfl rfl (by simp [Value.oneCell']) ?_; clear hs; intro w1 b2 hs; rw [kc1] at hs)
                    | ((with_reducible refine at_conv rfl ?_); refine wl_convConst hs rfl rfl Try.underlying42 Try.underlying5 rfl 0 rfl ?_; clear hs; intro w1 hs)
                    | (go_at_call 22; refine (of_any k1F 3 3 _ b2 0 _ (fun _ => rfl) (hs.obj_rd 0 rfl (by omega))).mono ?_; rintro e w2 ⟨rfl, hc⟩; replace hs := hs.call0 hc; clear hc)
                    | ((with_reducible refine at_buildSlice rfl ?_); refine wl_buildSlice1A hs rfl rfl Try.underlying30 info40 (by omega) (by omega) rfl (rowOf_size _ _) ?_; clear hs; intro w1 b3 hs)
                    | ((with_reducible refine (at_bi .append) rfl ?_); refine wl_append hs rfl rfl Try.underlying30 info40 zc40 (by omega) 3 rfl rfl rfl b3 0 rfl (rowOf 128 (u8v (ofF 3 k1F))).toList (by simp) (news40 hs 0 rfl) (oneU8 _ _) (by unfold maxLen; omega) (by omega) ?_; rw [all_app]; clear hs; intro w1 v' hs hnil))
                  go_roundw
                  case rel => exact ⟨c + 1, _, rfl, by omega, by go_num, (hs.erase 0).erase 0⟩
                  case measure => simp [intOf]; omega
                · obtain rfl : c = 8 := by omega
                  go_wp2_with fail
                  go_loopw [14, 20] (fun v i wr => ∃ (c : Nat) (vb : Value), vb = v ∧ c ≤ 8 ∧ i = .int .i64 c ∧ Tr w [] wr [Res.own 40 128 vb (j + c) (rowOf ((j + c) * 128) (u8v (allF (ofF 3 k2F)))).toList, Res.own 40 128 va (j + 8) (rowOf ((j + 8) * 128) (u8v (allF (ofF 3 k1F)))).toList, diskR d s j f0 0 false false 0, Res.blk bw (rowOf ((j + 3) * 128) (u8v f0)) 40]) (fun _ i _ => 8 - (intOf i).toNat)
                  case atStart => exact ⟨0, _, rfl, by omega, rfl, hs⟩
                  case round =>
                    clear hs
                    obtain ⟨c, vb, hvb, hc8, rfl, hs⟩ := hrel
                    subst hvb
                    by_cases hlt : c < 8
                    · have hlt2 : (c : Int) < 8 := by omega
                      go_wp2_with (first
                        | ((with_reducible refine at_buildSlice rfl ?_); refine wl_buildSliceV hs rfl rfl Try.underlying42 info5 (by omega) (by omega) [.int .u8 116, .int .u8 119, .int .u8 111] rfl rfl (by simp [Value.oneCell']) ?_; clear hs; intro w1 b2 hs; rw [kc2] at hs)
                        | ((with_reducible refine at_conv rfl ?_); refine wl_convConst hs rfl rfl Try.underlying42 Try.underlying5 rfl 0 rfl ?_; clear hs; intro w1 hs)
                        | (go_at_call 22; refine (of_any k2F 3 3 _ b2 0 _ (fun _ => rfl) (hs.obj_rd 0 rfl (by omega))).mono ?_; rintro e w2 ⟨rfl, hc⟩; replace hs := hs.call0 hc; clear hc)
                        | ((with_reducible refine at_buildSlice rfl ?_); refine wl_buildSlice1A hs rfl rfl Try.underlying30 info40 (by omega) (by omega) rfl (rowOf_size _ _) ?_; clear hs; intro w1 b3 hs)
                        | ((with_reducible refine (at_bi .append) rfl ?_); refine wl_append hs rfl rfl Try.underlying30 info40 zc40 (by omega) 2 rfl rfl rfl b3 0 rfl (rowOf 128 (u8v (ofF 3 k2F))).toList (by simp) (news40 hs 0 rfl) (oneU8 _ _) (by unfold maxLen; omega) (by omega) ?_; rw [all_app]; clear hs; intro w1 v' hs hnil))
                      go_roundw
                      case rel => exact ⟨_, _, _, _, _, _, _, _, _, _, _, _, ⟨c + 1, _, rfl, by omega, by go_num, (hs.erase 0).erase 0⟩, rfl⟩
                      case measure => simp [intOf]; omega
                    · obtain rfl : c = 8 := by omega
                      obtain ⟨aoA, cA, gA, rfl, _, _, haoA, _⟩ := hs.own_open 1 rfl
                      obtain rfl := haoA (by omega)
                      obtain ⟨aoB, cB, gB, rfl, _, _, haoB, _⟩ := hs.own_open 0 rfl
                      obtain rfl := haoB (by omega)
                      clear haoA haoB
                      go_wp2_with fail
                      go_loopw [21] (fun i wr => ∃ (c : Nat), c ≤ j + 8 ∧ i = .int .i64 c ∧ Tr w [] wr [Res.own 40 128 (.slice (some ⟨gB, 0, none⟩) (j + 8) cB) (j + 8) (rowOf ((j + 8) * 128) (u8v (allF (ofF 3 k2F)))).toList, Res.own 40 128 (.slice (some ⟨gA, 0, none⟩) (j + 8) cA) (j + 8) (rowOf ((j + 8) * 128) (u8v (allF (ofF 3 k1F)))).toList, diskR d s j f0 0 false false 0, Res.blk bw (rowOf ((j + 3) * 128) (u8v f0)) 40]) (fun i _ => j + 8 - (intOf i).toNat)
                      case atStart => exact ⟨0, by omega, rfl, hs⟩
                      case round =>
                        clear hs
                        obtain ⟨c, hc8, rfl, hs⟩ := hrel
                        by_cases hlt : c < j + 8
                        · have hlt2 : (c : Int) < ((j + 8 : Nat) : Int) := by omega
                          go_upto_region 41 with fail
                          refine wt_enter 18 rfl hs (by kernel_rfl) ?_
                          clear hs; intro w1 hs; have hC := hs
                          refine wt_take 0 rfl (by kernel_rfl) (by kernel_rfl) (by kernel_rfl) (fun _ _ _ _ h => h) rfl hC ⟨_, fun w hw => by (go_simp; try with_reducible rfl), fun a1 ha => ?_⟩
                          simp only [Act.put, List.setIfInBounds_toArray, List.set_cons_succ, List.set_cons_zero] at ha; subst ha
                          refine wt_take 1 rfl (by kernel_rfl) (by kernel_rfl) (by kernel_rfl) (fun _ _ _ _ h => h) rfl hC ⟨_, fun w hw => by (go_simp; try with_reducible rfl), fun a1 ha => ?_⟩
                          simp only [Act.put, List.setIfInBounds_toArray, List.set_cons_succ, List.set_cons_zero] at ha; subst ha
                          refine wt_take 2 rfl (by kernel_rfl) (by kernel_rfl) (by kernel_rfl) (fun _ _ _ _ h => h) rfl hC ⟨_, fun w hw => ex_indexS rfl Try.underlying30 size40 rfl rfl c rfl hlt rfl, fun a1 ha => ?_⟩
                          simp only [Act.put, List.setIfInBounds_toArray, List.set_cons_succ, List.set_cons_zero] at ha; subst ha
                          refine wt_take 3 rfl (by kernel_rfl) (by kernel_rfl) (by kernel_rfl) (fun _ _ _ _ h => h) rfl hC ⟨_, fun w hw => ex_loadMB (F := fun q => allF (ofF 3 k1F) (c * 128 + q)) rfl Try.underlying40 size40 rfl ((hw.own_rd 1 rfl).sub (c * 128) 128 (by omega)), fun a1 ha => ?_⟩
                          simp only [Act.put, List.setIfInBounds_toArray, List.set_cons_succ, List.set_cons_zero] at ha; subst ha
                          refine wt_one 4 (by kernel_rfl) ?_
                          refine wt_buildV hs rfl rfl rfl Try.underlying42 info5 (by omega) (by omega) [.int .u8 111, .int .u8 110, .int .u8 101] rfl rfl (by simp [Value.oneCell']) _ kc1 (fun _ => by simp only [Act.put, List.setIfInBounds_toArray, List.set_cons_succ, List.set_cons_zero]; rfl) ?_
                          clear hs; intro w1 b2 hs
                          refine wt_and (hs.sub (by repeat (first | exact List.Sublist.refl _ | refine List.Sublist.cons_cons _ ?_ | refine List.Sublist.cons _ ?_))) fun hC => ?_
                          refine wt_one 5 (by kernel_rfl) ?_
                          refine wt_convConst hs rfl rfl rfl Try.underlying42 Try.underlying5 rfl 0 rfl (by simp only [Act.put, List.setIfInBounds_toArray, List.set_cons_succ, List.set_cons_zero]; rfl) ?_
                          clear hs; intro w1 hs
                          refine wt_and (hs.sub (by repeat (first | exact List.Sublist.refl _ | refine List.Sublist.cons_cons _ ?_ | refine List.Sublist.cons _ ?_))) fun hC => ?_
                          refine wt_one 6 (by kernel_rfl) ?_
                          refine wt_call0 hs rfl rfl (by go_simp) (of_any k1F 3 3 _ b2 0 _ (fun _ => rfl) (hs.obj_rd 0 rfl (by omega))) (by simp only [Act.put, List.setIfInBounds_toArray, List.set_cons_succ, List.set_cons_zero]; rfl) ?_
                          clear hs; intro w1 hs
                          refine wt_and (hs.sub (by repeat (first | exact List.Sublist.refl _ | refine List.Sublist.cons_cons _ ?_ | refine List.Sublist.cons _ ?_))) fun hC => ?_
                          refine wt_take 7 rfl (by kernel_rfl) (by kernel_rfl) (by kernel_rfl) (fun _ _ _ _ h => h) rfl hC ⟨.bool false, fun w hw => ex_neqBR rfl Try.underlying40 Try.underlying5 size5 eqg40 rfl rfl (by rw [all_at2]; rfl), fun a1 ha => ?_⟩
                          simp only [Act.put, List.setIfInBounds_toArray, List.set_cons_succ, List.set_cons_zero] at ha; subst ha
                          refine wt_take 8 rfl (by kernel_rfl) (by kernel_rfl) (by kernel_rfl) (fun _ _ _ _ h => h) rfl hC ⟨_, fun w hw => by (go_simp; try with_reducible rfl), fun a1 ha => ?_⟩
                          simp only [Act.put, List.setIfInBounds_toArray, List.set_cons_succ, List.set_cons_zero] at ha; subst ha
                          refine wt_take 9 rfl (by kernel_rfl) (by kernel_rfl) (by kernel_rfl) (fun _ _ _ _ h => h) rfl hC ⟨_, fun w hw => by (go_simp; try with_reducible rfl), fun a1 ha => ?_⟩
                          simp only [Act.put, List.setIfInBounds_toArray, List.set_cons_succ, List.set_cons_zero] at ha; subst ha
                          refine wt_take 10 rfl (by kernel_rfl) (by kernel_rfl) (by kernel_rfl) (fun _ _ _ _ h => h) rfl hC ⟨_, fun w hw => by (go_simp; try with_reducible rfl), fun a1 ha => ?_⟩
                          simp only [Act.put, List.setIfInBounds_toArray, List.set_cons_succ, List.set_cons_zero] at ha; subst ha
                          refine wt_take 11 rfl (by kernel_rfl) (by kernel_rfl) (by kernel_rfl) (fun _ _ _ _ h => h) rfl hC ⟨_, fun w hw => ex_indexS rfl Try.underlying30 size40 rfl rfl c rfl hlt rfl, fun a1 ha => ?_⟩
                          simp only [Act.put, List.setIfInBounds_toArray, List.set_cons_succ, List.set_cons_zero] at ha; subst ha
                          refine wt_take 12 rfl (by kernel_rfl) (by kernel_rfl) (by kernel_rfl) (fun _ _ _ _ h => h) rfl hC ⟨_, fun w hw => ex_loadMB (F := fun q => allF (ofF 3 k2F) (c * 128 + q)) rfl Try.underlying40 size40 rfl ((hw.own_rd 0 rfl).sub (c * 128) 128 (by omega)), fun a1 ha => ?_⟩
                          simp only [Act.put, List.setIfInBounds_toArray, List.set_cons_succ, List.set_cons_zero] at ha; subst ha
                          refine wt_one 13 (by kernel_rfl) ?_
                          refine wt_buildV hs rfl rfl rfl Try.underlying42 info5 (by omega) (by omega) [.int .u8 116, .int .u8 119, .int .u8 111] rfl rfl (by simp [Value.oneCell']) _ kc2 (fun _ => by simp only [Act.put, List.setIfInBounds_toArray, List.set_cons_succ, List.set_cons_zero]; rfl) ?_
                          clear hs; intro w1 b3 hs
                          refine wt_and (hs.sub (by repeat (first | exact List.Sublist.refl _ | refine List.Sublist.cons_cons _ ?_ | refine List.Sublist.cons _ ?_))) fun hC => ?_
                          refine wt_one 14 (by kernel_rfl) ?_
                          refine wt_convConst hs rfl rfl rfl Try.underlying42 Try.underlying5 rfl 0 rfl (by simp only [Act.put, List.setIfInBounds_toArray, List.set_cons_succ, List.set_cons_zero]; rfl) ?_
                          clear hs; intro w1 hs
                          refine wt_and (hs.sub (by repeat (first | exact List.Sublist.refl _ | refine List.Sublist.cons_cons _ ?_ | refine List.Sublist.cons _ ?_))) fun hC => ?_
                          refine wt_one 15 (by kernel_rfl) ?_
                          refine wt_call0 hs rfl rfl (by go_simp) (of_any k2F 3 3 _ b3 0 _ (fun _ => rfl) (hs.obj_rd 0 rfl (by omega))) (by simp only [Act.put, List.setIfInBounds_toArray, List.set_cons_succ, List.set_cons_zero]; rfl) ?_
                          clear hs; intro w1 hs
                          refine wt_and (hs.sub (by repeat (first | exact List.Sublist.refl _ | refine List.Sublist.cons_cons _ ?_ | refine List.Sublist.cons _ ?_))) fun hC => ?_
                          refine wt_take 16 rfl (by kernel_rfl) (by kernel_rfl) (by kernel_rfl) (fun _ _ _ _ h => h) rfl hC ⟨.bool false, fun w hw => ex_neqBR rfl Try.underlying40 Try.underlying5 size5 eqg40 rfl rfl (by rw [all_at2]; rfl), fun a1 ha => ?_⟩
                          simp only [Act.put, List.setIfInBounds_toArray, List.set_cons_succ, List.set_cons_zero] at ha; subst ha
                          refine wt_take 17 rfl (by kernel_rfl) (by kernel_rfl) (by kernel_rfl) (fun _ _ _ _ h => h) rfl hC ⟨_, fun w hw => by (go_simp; try with_reducible rfl), fun a1 ha => ?_⟩
                          simp only [Act.put, List.setIfInBounds_toArray, List.set_cons_succ, List.set_cons_zero] at ha; subst ha
                          refine wt_done (by kernel_rfl) ?_
                          skip
                          go_wp2_with fail
                          go_roundw
                          case rel => exact ⟨c + 1, by omega, by go_num, (hs.erase 0).erase 0⟩
                          case measure => simp [intOf]; omega
                        · obtain rfl : c = j + 8 := by omega
                          go_wp2_with (first
                            | (go_at_call 13; refine (image_any h2 (hs.get 2 rfl)).mono ?_; rintro e w2 ⟨bc, rfl, hc⟩; replace hs := hs.call1 hc; clear hc)
                            | ((with_reducible refine at_slice rfl ?_); refine wl_slice rfl rfl Try.underlying30 size40 rfl 0 j (Or.inl ⟨rfl, rfl⟩) (Or.inr ⟨_, _, rfl, rfl⟩) (by omega) (by omega) (fun _ => rfl) ?_; intro ao3 hao3; obtain rfl := hao3 (by omega); clear hao3)
                            | (go_at_call 14; refine (same_yes f0 f0 j _ _ _ _ bc 0 bw (0 + 0 * 128) _ (by omega) (fun _ => rfl) (fun _ => rfl) (hs.rd0 0 rfl (by omega)) (hs.rd0 4 rfl (by omega)) (fun _ _ => rfl)).mono ?_; rintro e w2 ⟨rfl, hc⟩; replace hs := hs.call0 hc; clear hc)
                            | (go_at_call 16; refine (len_any (hs.get 3 rfl)).mono ?_; rintro e w2 ⟨rfl, hc⟩; replace hs := hs.call0 hc; clear hc))
                          go_ret
                          exact ⟨rfl, hs.letgo⟩

theorem froms_walk (n cap : Nat) (ao : Option Addr) (db doff : Nat) (V : Nat → Value) (SF : Nat → Nat → UInt8) (w : World) (hao : 0 < n → ao = some ⟨db, doff, none⟩) (hV : Rd w db doff n V) (hB : ∀ i, i < n → isBytes w (V i) (SF i)) :
    Calls Try.prog 5 #[.slice ao n cap] w fun e w' => e = .returned (.bool true) ∧ Below w.heap.size w w' := by
  suffices hh : Calls Try.prog 5 #[.slice ao n cap] w fun e w' => e = .returned (.bool true) ∧ Tr w [] w' [] from hh.mono fun e w' ⟨he, ht⟩ => ⟨he, ht.below⟩
  by_cases h5 : 5000 < n
  · exact froms_far n cap ao w h5
  · by_cases h : n = 0 ∨ 4096 < n
    · exact froms_no n cap ao db doff V SF w h (by omega) hao hV hB
    · exact froms_yes n cap ao db doff V SF w (by omega) (by omega) (hao (by omega)) hV hB
end Go.Proofs.Ytcflolcaiedmfaa
