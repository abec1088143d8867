/- DiskApart: the walk. -/
import Derived.Test.YtcflolcaiedmfaaD
namespace Go.Proofs.Ytcflolcaiedmfaa
set_option linter.unusedVariables false
set_option linter.unusedSimpArgs false
open Go Go.Sp Go.RowKit Go.BigFrame

/-- Armed with fewer than thirty writes, or off. -/
def inv (wr : Int) (off armed : Bool) (left : Int) : Prop := 0 ≤ wr ∧ 0 ≤ left ∧ wr + left ≤ 29 ∧ (off = true ∨ armed = true)

theorem write_inv {n : Nat} {f : Nat → UInt8} {wr : Int} {off armed : Bool} {left : Int} (hn : n ≤ 4096) (hi : inv wr off armed left) (i : Nat) (F : Nat → UInt8) (hin : i < n) :
    ∃ (f' : Nat → UInt8) (wr' : Int) (off' armed' : Bool) (left' cd : Int), inv wr' off' armed' left' ∧ ∀ d s w, (diskR d s n f wr off armed left).holds w →
      Calls Try.prog 21 #[.pointer (some ⟨d, 0, none⟩), .int .i64 (i : Int), bytesV 128 F] w fun e w' => e = .returned (.int .i64 cd) ∧ Tr w (diskR d s n f wr off armed left).foot w' [diskR d s n f' wr' off' armed' left'] := by
  obtain ⟨h1, h2, h3, h4⟩ := hi
  cases off
  · obtain rfl : armed = true := by simpa using h4
    by_cases h0 : left = 0
    · subst h0
      exact ⟨f, wr, true, false, 0, 22, ⟨h1, by omega, by omega, .inl rfl⟩, fun d s w h => write_off i F hn hin h⟩
    · exact ⟨updF f i F, wr + 1, false, true, left - 1, 0, ⟨by omega, by omega, by omega, .inr rfl⟩, fun d s w h => write_yes i F (left - 1) hn hin (by omega) (.inl ⟨rfl, by omega, by omega, rfl⟩) h⟩
  · exact ⟨f, wr, true, armed, left, 22, ⟨h1, h2, h3, .inl rfl⟩, fun d s w h => (write_no (i : Int) F 22 hn rfl (by omega) h).mono fun e w' ⟨he, ht⟩ => ⟨he, Tr.idle2 h ht⟩⟩

theorem size74r : (Try.prog.info? 74).map (·.size) = some 3 := by kernel_rfl
theorem copy_any {d s n : Nat} {f : Nat → UInt8} {wr : Int} {off armed : Bool} {left : Int} {w : World} (hn : n ≤ 4096) (h : (diskR d s n f wr off armed left).holds w) :
    Calls Try.prog 28 #[.pointer (some ⟨d, 0, none⟩)] w fun e w' => ∃ d2 s2, e = .returned (.pointer (some ⟨d2, 0, none⟩)) ∧ Tr w [] w' [diskR d2 s2 n f wr off armed left] := by
  have hs := Tr.open2 h
  have H := Lib.hid h
  clear h
  go_enter Try.func28, Try.ntmps28
  go_upto_region 1 with fail
  refine wt_enter 13 rfl hs (by kernel_rfl) ?_
  clear hs; intro w1 hs; have hC := hs
  refine wt_take 0 rfl (by kernel_rfl) (by kernel_rfl) (by kernel_rfl) (fun _ _ _ _ h => h) rfl hC ⟨_, fun w hw => by (go_simp; try with_reducible rfl), fun a1 ha => ?_⟩
  simp only [Act.put, List.setIfInBounds_toArray, List.set_cons_succ, List.set_cons_zero] at ha; subst ha
  refine wt_take 2 rfl (by kernel_rfl) (by kernel_rfl) (by kernel_rfl) (fun _ _ _ _ h => h) rfl hC ⟨_, fun w hw => by (go_simp; try with_reducible rfl), fun a1 ha => ?_⟩
  simp only [Act.put, List.setIfInBounds_toArray, List.set_cons_succ, List.set_cons_zero] at ha; subst ha
  refine wt_take 3 rfl (by kernel_rfl) (by kernel_rfl) (by kernel_rfl) (fun _ _ _ _ h => h) rfl hC ⟨_, fun w hw => by (go_simp; try with_reducible rfl), fun a1 ha => ?_⟩
  simp only [Act.put, List.setIfInBounds_toArray, List.set_cons_succ, List.set_cons_zero] at ha; subst ha
  refine wt_take 4 rfl (by kernel_rfl) (by kernel_rfl) (by kernel_rfl) (fun _ _ _ _ h => h) rfl hC ⟨_, fun w hw => by (go_simp; try with_reducible rfl), fun a1 ha => ?_⟩
  simp only [Act.put, List.setIfInBounds_toArray, List.set_cons_succ, List.set_cons_zero] at ha; subst ha
  refine wt_take 5 rfl (by kernel_rfl) (by kernel_rfl) (by kernel_rfl) (fun _ _ _ _ h => h) rfl hC ⟨_, fun w hw => ex_load1 rfl Try.underlying3 rfl rfl (by rw [cell_of_row w _ _ _ _ (0, 0) (hw.getB 0 rfl)]; rfl), fun a1 ha => ?_⟩
  simp only [Act.put, List.setIfInBounds_toArray, List.set_cons_succ, List.set_cons_zero] at ha; subst ha
  refine wt_take 6 rfl (by kernel_rfl) (by kernel_rfl) (by kernel_rfl) (fun _ _ _ _ h => h) rfl hC ⟨_, fun w hw => by (go_simp; try with_reducible rfl), fun a1 ha => ?_⟩
  simp only [Act.put, List.setIfInBounds_toArray, List.set_cons_succ, List.set_cons_zero] at ha; subst ha
  refine wt_take 7 rfl (by kernel_rfl) (by kernel_rfl) (by kernel_rfl) (fun _ _ _ _ h => h) rfl hC ⟨_, fun w hw => by (go_simp; try with_reducible rfl), fun a1 ha => ?_⟩
  simp only [Act.put, List.setIfInBounds_toArray, List.set_cons_succ, List.set_cons_zero] at ha; subst ha
  refine wt_take 8 rfl (by kernel_rfl) (by kernel_rfl) (by kernel_rfl) (fun _ _ _ _ h => h) rfl hC ⟨_, fun w hw => by (go_simp; try with_reducible rfl), fun a1 ha => ?_⟩
  simp only [Act.put, List.setIfInBounds_toArray, List.set_cons_succ, List.set_cons_zero] at ha; subst ha
  refine wt_take 9 rfl (by kernel_rfl) (by kernel_rfl) (by kernel_rfl) (fun _ _ _ _ h => h) rfl hC ⟨_, fun w hw => ex_load3 rfl Try.underlying74 rfl size74r rfl (by rw [cell_of_row w _ _ _ _ (0, 0) (hw.getB 0 rfl)]; rfl) (by rw [cell_of_row w _ _ _ _ (0, 0) (hw.getB 0 rfl)]; rfl) (by rw [cell_of_row w _ _ _ _ (0, 0) (hw.getB 0 rfl)]; rfl), fun a1 ha => ?_⟩
  simp only [Act.put, List.setIfInBounds_toArray, List.set_cons_succ, List.set_cons_zero] at ha; subst ha
  refine wt_one 1 (by kernel_rfl) ?_
  refine wt_call rfl rfl (by go_simp) ((image_any hn (hs.join2.get 0 rfl)).mono ?_)
  rintro e w2 ⟨b, rfl, hc⟩
  refine ⟨_, rfl, fun a1 ha => ?_⟩
  simp only [Act.put, List.setIfInBounds_toArray, List.set_cons_succ, List.set_cons_zero] at ha; subst ha
  replace hs := hs.call1 hc; clear hc
  refine wt_and (hs.sub (by repeat (first | exact List.Sublist.refl _ | refine List.Sublist.cons_cons _ ?_ | refine List.Sublist.cons _ ?_))) fun hC => ?_
  refine wt_take 10 rfl (by kernel_rfl) (by kernel_rfl) (by kernel_rfl) (fun _ _ _ _ h => h) rfl hC ⟨.agg #[.slice (some ⟨b, 0, none⟩) n n, .int .i64 wr, .bool off, .bool armed, .int .i64 left], fun w hw => by (go_simp; try with_reducible rfl), fun a1 ha => ?_⟩
  simp only [Act.put, List.setIfInBounds_toArray, List.set_cons_succ, List.set_cons_zero] at ha; subst ha
  refine wt_one 11 (by kernel_rfl) ?_
  refine wt_boxA hs rfl rfl rfl rfl (fun _ => by simp only [Act.put, List.setIfInBounds_toArray, List.set_cons_succ, List.set_cons_zero]; rfl) ?_
  clear hs; intro w1 d2 hs
  refine wt_and (hs.sub (by repeat (first | exact List.Sublist.refl _ | refine List.Sublist.cons_cons _ ?_ | refine List.Sublist.cons _ ?_))) fun hC => ?_
  refine wt_take 12 rfl (by kernel_rfl) (by kernel_rfl) (by kernel_rfl) (fun _ _ _ _ h => h) rfl hC ⟨_, fun w hw => by (go_simp; try with_reducible rfl), fun a1 ha => ?_⟩
  simp only [Act.put, List.setIfInBounds_toArray, List.set_cons_succ, List.set_cons_zero] at ha; subst ha
  refine wt_done (by kernel_rfl) ?_
  skip
  go_wp2_with fail
  go_ret
  exact ⟨_, _, rfl, (Tr.same2 H.out hs.rot2).join2⟩

set_option maxRecDepth 100000 in
set_option maxHeartbeats 1000000 in
theorem apart_no (n cap m1 cap1 m2 cap2 : Nat) (ao ao1 ao2 : Option Addr) (x : Int) (w : World) (hn : n = 0 ∨ 4096 < n) (hn2 : n ≤ 9223372036854775807) :
    Calls Try.prog 6 #[.agg #[.slice ao n cap, .int .i64 x, .slice ao1 m1 cap1, .slice ao2 m2 cap2]] w fun e w' => e = .returned (.bool true) ∧ Tr w [] w' [] := by
  have hs := Tr.refl w []
  have hf : Hid (∀ w, Calls Try.prog 24 #[.slice ao n cap] w fun e w' => e = .returned (.bool (decide ((n : Int) ≤ 5000))) ∧ w = w') := Lib.hid fun w => by
    go_enter Try.func24, Try.ntmps24
    go_wp2
    go_ret
    exact ⟨rfl, rfl⟩
  have hn := Lib.hid hn
  by_cases h5 : n ≤ 5000
  · have h5' : decide ((n : Int) ≤ 5000) = true := decide_eq_true (by omega)
    rw [h5'] at hf
    clear h5'
    rcases hn.out with h0 | h0
    · subst h0
      clear h5
      go_enter Try.func6, Try.ntmps6
      go_wp2_with (first
        | ((with_reducible refine at_box (t := 53) rfl ?_); refine wl_boxA hs rfl rfl rfl ?_; clear hs; intro w1 b0 hs)
        | ((with_reducible refine at_load rfl ?_); refine wl_load1 hs rfl rfl Try.underlying46 rfl rfl 0 rfl rfl ?_) | ((with_reducible refine at_load rfl ?_); refine wl_load1 hs rfl rfl Try.underlying51 rfl rfl 0 rfl rfl ?_)
        | (go_at_call 10; refine (awake_any _).mono ?_; rintro e w2 ⟨rfl, hc⟩; replace hs := hs.call0 hc; clear hc)
        | (go_at_call 24; refine (hf.out _).mono ?_; rintro e w2 ⟨rfl, rfl⟩))
      go_ret
      exact ⟨rfl, hs.letgo⟩
    · have h0' : ((n : Int) == 0) = false := by rw [beq_eq_false_iff_ne]; omega
      have h0'' : (4096 : Int) < (n : Int) := by omega
      clear h5
      go_enter Try.func6, Try.ntmps6
      go_wp2_with (first
        | ((with_reducible refine at_box (t := 53) rfl ?_); refine wl_boxA hs rfl rfl rfl ?_; clear hs; intro w1 b0 hs)
        | ((with_reducible refine at_load rfl ?_); refine wl_load1 hs rfl rfl Try.underlying46 rfl rfl 0 rfl rfl ?_) | ((with_reducible refine at_load rfl ?_); refine wl_load1 hs rfl rfl Try.underlying51 rfl rfl 0 rfl rfl ?_)
        | (go_at_call 10; refine (awake_any _).mono ?_; rintro e w2 ⟨rfl, hc⟩; replace hs := hs.call0 hc; clear hc)
        | (go_at_call 24; refine (hf.out _).mono ?_; rintro e w2 ⟨rfl, rfl⟩))
      go_ret
      exact ⟨rfl, hs.letgo⟩
  · have h5' : decide ((n : Int) ≤ 5000) = false := decide_eq_false (by omega)
    rw [h5'] at hf
    clear h5'
    go_enter Try.func6, Try.ntmps6
    go_wp2_with (first
      | ((with_reducible refine at_box (t := 53) rfl ?_); refine wl_boxA hs rfl rfl rfl ?_; clear hs; intro w1 b0 hs)
      | ((with_reducible refine at_load rfl ?_); refine wl_load1 hs rfl rfl Try.underlying46 rfl rfl 0 rfl rfl ?_) | ((with_reducible refine at_load rfl ?_); refine wl_load1 hs rfl rfl Try.underlying51 rfl rfl 0 rfl rfl ?_)
      | (go_at_call 10; refine (awake_any _).mono ?_; rintro e w2 ⟨rfl, hc⟩; replace hs := hs.call0 hc; clear hc)
      | (go_at_call 24; refine (hf.out _).mono ?_; rintro e w2 ⟨rfl, rfl⟩))
    go_ret
    exact ⟨rfl, hs.letgo⟩

set_option maxRecDepth 100000 in
set_option maxHeartbeats 2000000 in
theorem apart_yes (n cap m1 cap1 m2 cap2 k : Nat) (ao ao1 ao2 : Option Addr) (db doff db1 doff1 db2 doff2 : Nat) (V : Nat → Value) (SF : Nat → Nat → UInt8) (N1 : Nat → Int) (V1 : Nat → Value) (F1 : Nat → Nat → UInt8) (K1 : Nat → Nat) (N2 : Nat → Int) (V2 : Nat → Value) (F2 : Nat → Nat → UInt8) (K2 : Nat → Nat) (x : Int) (w : World) (h1 : 1 ≤ n) (h2 : n ≤ 4096) (hm1 : m1 ≤ 9223372036854775807) (hm2 : m2 ≤ 9223372036854775807) (hk : k ≤ 29)
    (hao : ao = some ⟨db, doff, none⟩) (hV : Rd w db doff n V) (hB : ∀ i, i < n → isBytes w (V i) (SF i)) (hao1 : 0 < m1 → ao1 = some ⟨db1, doff1, none⟩) (hao2 : 0 < m2 → ao2 = some ⟨db2, doff2, none⟩)
    (hW1 : Hid (∀ i, i < m1 → (w.cell? ⟨db1, doff1 + i * 2, none⟩ = some (.int .i64 (N1 i)) ∧ w.cell? ⟨db1, doff1 + i * 2 + 1, none⟩ = some (V1 i)) ∧ isBytes w (V1 i) (F1 i)))
    (hW2 : Hid (∀ i, i < m2 → (w.cell? ⟨db2, doff2 + i * 2, none⟩ = some (.int .i64 (N2 i)) ∧ w.cell? ⟨db2, doff2 + i * 2 + 1, none⟩ = some (V2 i)) ∧ isBytes w (V2 i) (F2 i)))
    (hK1 : Hid (∀ i, K1 i < n)) (hK2 : Hid (∀ i, K2 i < n)) (HK1 : Hid (∀ i, i < m1 → ∀ w, Calls Try.prog 19 #[.int .i64 (N1 i), .int .i64 (n : Int)] w fun e w' => e = .returned (.int .i64 (K1 i : Nat)) ∧ w = w'))
    (HK2 : Hid (∀ i, i < m2 → ∀ w, Calls Try.prog 19 #[.int .i64 (N2 i), .int .i64 (n : Int)] w fun e w' => e = .returned (.int .i64 (K2 i : Nat)) ∧ w = w'))
    (HK0 : Hid (∀ w, Calls Try.prog 19 #[.int .i64 x, .int .i64 30] w fun e w' => e = .returned (.int .i64 k) ∧ w = w')) :
    Calls Try.prog 6 #[.agg #[.slice ao n cap, .int .i64 x, .slice ao1 m1 cap1, .slice ao2 m2 cap2]] w fun e w' => e = .returned (.bool true) ∧ Tr w [] w' [] := by
  have hs := Tr.refl w []
  subst hao
  have HV := Lib.hid hV
  have HB := Lib.hid hB
  have HA1 := Lib.hid hao1
  have HA2 := Lib.hid hao2
  clear hV hB hao1 hao2
  have hn1 : ((n : Int) == 0) = false := by rw [beq_eq_false_iff_ne]; omega
  have hn2 : ¬ (4096 : Int) < (n : Int) := by omega
  have hf : Hid (∀ w, Calls Try.prog 24 #[.slice (some ⟨db, doff, none⟩) n cap] w fun e w' => e = .returned (.bool true) ∧ w = w') := Lib.hid fun w => by
    have h5 : (n : Int) ≤ 5000 := by omega
    go_enter Try.func24, Try.ntmps24
    go_wp2
    go_ret
    exact ⟨rfl, rfl⟩
  have HL := Lib.hid (fun (w' : World) (hw : Tr w [] w' []) => laid_any n cap (some ⟨db, doff, none⟩) db doff V SF w' (by omega) (fun _ => rfl) (HV.out.keep hw) (fun i hi => (HB.out i hi).keep hw))
  go_enter Try.func6, Try.ntmps6
  go_upto_region 12 with (first
    | ((with_reducible refine at_box (t := 53) rfl ?_); refine wl_boxA hs rfl rfl rfl ?_; clear hs; intro w1 by0 hs)
    | ((with_reducible refine at_load rfl ?_); refine wl_load1 hs rfl rfl Try.underlying46 rfl rfl 0 rfl rfl ?_) | ((with_reducible refine at_load rfl ?_); refine wl_load1 hs rfl rfl Try.underlying51 rfl rfl 0 rfl rfl ?_)
    | (go_at_call 10; refine (awake_any _).mono ?_; rintro e w2 ⟨rfl, hc⟩; replace hs := hs.call0 hc; clear hc)
    | (go_at_call 24; refine (hf.out _).mono ?_; rintro e w2 ⟨rfl, rfl⟩)
    | (go_at_call 25; refine (HL.out _ hs.letgo).mono ?_; rintro e w2 ⟨b, rfl, hc⟩; replace hs := hs.call1 hc; clear hc)
    | ((with_reducible refine at_slice rfl ?_); refine wl_slice rfl rfl Try.underlying30 size40 rfl 0 n (Or.inl ⟨rfl, rfl⟩) (Or.inr ⟨_, _, rfl, rfl⟩) (by omega) (by omega) (fun _ => rfl) ?_; intro ao3 hao3; obtain rfl := hao3 (by omega); clear hao3)
    | (go_at_call 26; refine (from_ok n _ b (0 + 0 * 128) (laidF n SF) _ h1 h2 (hs.rd0 0 rfl (by omega))).mono ?_; rintro e w2 ⟨d, s, rfl, hc⟩; replace hs := hs.call1 hc; clear hc))
  go_upto_region 13 with (first
    | ((with_reducible refine at_load rfl ?_); refine wl_load1 hs rfl rfl Try.underlying3 rfl rfl 2 rfl rfl ?_)
    | (go_at_call 19; refine (HK0.out _).mono ?_; rintro e w2 ⟨rfl, rfl⟩)
    | (go_at_call 20; refine (arm_ok (k : Int) (by omega) (hs.get 0 rfl)).mono ?_; rintro e w2 ⟨rfl, hc⟩; replace hs := hs.upd 0 rfl hc; clear hc))
  replace hs := (hs.erase 1).erase 1
  generalize laidF n SF = f0 at *
  go_wp2_with fail
  go_loopw [11] (fun i wr => ∃ (j : Nat) (f : Nat → UInt8) (q : Int) (off armed : Bool) (left : Int), j ≤ m1 ∧ i = .int .i64 j ∧ inv q off armed left ∧ Tr w [] wr [diskR d s n f q off armed left]) (fun i _ => m1 - (intOf i).toNat)
  case atStart => exact ⟨0, f0, 0, false, true, (k : Int), by omega, rfl, ⟨by omega, by omega, by omega, .inr rfl⟩, hs⟩
  case round =>
    clear hs
    obtain ⟨j, f, q, off, armed, left, hj, rfl, hi, hs⟩ := hrel
    by_cases hlt : j < m1
    · have hlt2 : (j : Int) < m1 := by omega
      obtain rfl := HA1.out (by omega)
      obtain ⟨⟨c0, c1⟩, hB1⟩ := hW1.out j hlt
      replace c0 := Lib.hid c0
      replace c1 := Lib.hid c1
      replace hB1 := Lib.hid hB1
      obtain ⟨f', q', off', armed', left', cd, hi', HWr⟩ := write_inv (f := f) h2 hi (K1 j) (F1 j) (hK1.out j)
      replace HWr := Lib.hid HWr
      go_upto_region 16 with fail
      refine wt_enterS (List.nil_sublist _) 16 rfl hs (by kernel_rfl) ?_
      clear hs; intro w1 hC hs
      refine wt_take 0 rfl (by kernel_rfl) (by kernel_rfl) (by kernel_rfl) (fun _ _ _ _ h => h) rfl hC ⟨_, fun w hw => by (go_simp; try with_reducible rfl), fun a1 ha => ?_⟩
      simp only [Act.put, List.setIfInBounds_toArray, List.set_cons_succ, List.set_cons_zero] at ha; subst ha
      refine wt_take 1 rfl (by kernel_rfl) (by kernel_rfl) (by kernel_rfl) (fun _ _ _ _ h => h) rfl hC ⟨_, fun w hw => by (go_simp; try with_reducible rfl), fun a1 ha => ?_⟩
      simp only [Act.put, List.setIfInBounds_toArray, List.set_cons_succ, List.set_cons_zero] at ha; subst ha
      refine wt_take 2 rfl (by kernel_rfl) (by kernel_rfl) (by kernel_rfl) (fun _ _ _ _ h => h) rfl hC ⟨_, fun w hw => by (go_simp; try with_reducible rfl), fun a1 ha => ?_⟩
      simp only [Act.put, List.setIfInBounds_toArray, List.set_cons_succ, List.set_cons_zero] at ha; subst ha
      refine wt_take 3 rfl (by kernel_rfl) (by kernel_rfl) (by kernel_rfl) (fun _ _ _ _ h => h) rfl hC ⟨_, fun w hw => by (go_simp; try with_reducible rfl), fun a1 ha => ?_⟩
      simp only [Act.put, List.setIfInBounds_toArray, List.set_cons_succ, List.set_cons_zero] at ha; subst ha
      refine wt_take 4 rfl (by kernel_rfl) (by kernel_rfl) (by kernel_rfl) (fun _ _ _ _ h => h) rfl hC ⟨_, fun w hw => by (go_simp; try with_reducible rfl), fun a1 ha => ?_⟩
      simp only [Act.put, List.setIfInBounds_toArray, List.set_cons_succ, List.set_cons_zero] at ha; subst ha
      refine wt_take 5 rfl (by kernel_rfl) (by kernel_rfl) (by kernel_rfl) (fun _ _ _ _ h => h) rfl hC ⟨_, fun w hw => ex_load1 rfl Try.underlying3 rfl rfl (hw.keepCell c0.out), fun a1 ha => ?_⟩
      simp only [Act.put, List.setIfInBounds_toArray, List.set_cons_succ, List.set_cons_zero] at ha; subst ha
      refine wt_take 6 rfl (by kernel_rfl) (by kernel_rfl) (by kernel_rfl) (fun _ _ _ _ h => h) rfl hC ⟨_, fun w hw => by (go_simp; try with_reducible rfl), fun a1 ha => ?_⟩
      simp only [Act.put, List.setIfInBounds_toArray, List.set_cons_succ, List.set_cons_zero] at ha; subst ha
      refine wt_take 7 rfl (by kernel_rfl) (by kernel_rfl) (by kernel_rfl) (fun _ _ _ _ h => h) rfl hC ⟨_, fun w hw => by (go_simp; try with_reducible rfl), fun a1 ha => ?_⟩
      simp only [Act.put, List.setIfInBounds_toArray, List.set_cons_succ, List.set_cons_zero] at ha; subst ha
      refine wt_take 9 rfl (by kernel_rfl) (by kernel_rfl) (by kernel_rfl) (fun _ _ _ _ h => h) rfl hC ⟨_, fun w hw => by (go_simp; try with_reducible rfl), fun a1 ha => ?_⟩
      simp only [Act.put, List.setIfInBounds_toArray, List.set_cons_succ, List.set_cons_zero] at ha; subst ha
      refine wt_take 10 rfl (by kernel_rfl) (by kernel_rfl) (by kernel_rfl) (fun _ _ _ _ h => h) rfl hC ⟨_, fun w hw => by (go_simp; try with_reducible rfl), fun a1 ha => ?_⟩
      simp only [Act.put, List.setIfInBounds_toArray, List.set_cons_succ, List.set_cons_zero] at ha; subst ha
      refine wt_take 11 rfl (by kernel_rfl) (by kernel_rfl) (by kernel_rfl) (fun _ _ _ _ h => h) rfl hC ⟨_, fun w hw => by (go_simp; try with_reducible rfl), fun a1 ha => ?_⟩
      simp only [Act.put, List.setIfInBounds_toArray, List.set_cons_succ, List.set_cons_zero] at ha; subst ha
      refine wt_take 12 rfl (by kernel_rfl) (by kernel_rfl) (by kernel_rfl) (fun _ _ _ _ h => h) rfl hC ⟨_, fun w hw => by (go_simp; try with_reducible rfl), fun a1 ha => ?_⟩
      simp only [Act.put, List.setIfInBounds_toArray, List.set_cons_succ, List.set_cons_zero] at ha; subst ha
      refine wt_take 13 rfl (by kernel_rfl) (by kernel_rfl) (by kernel_rfl) (fun _ _ _ _ h => h) rfl hC ⟨_, fun w hw => ex_load1 rfl Try.underlying42 rfl rfl (hw.keepCell c1.out), fun a1 ha => ?_⟩
      simp only [Act.put, List.setIfInBounds_toArray, List.set_cons_succ, List.set_cons_zero] at ha; subst ha
      refine wt_one 8 (by kernel_rfl) ?_
      refine wt_callE hs rfl rfl (by go_simp) (HK1.out j hlt _) (by simp only [Act.put, List.setIfInBounds_toArray, List.set_cons_succ, List.set_cons_zero]; rfl) ?_
      clear hs; intro w1 hs
      refine wt_and (hs.sub (by repeat (first | exact List.Sublist.refl _ | refine List.Sublist.cons_cons _ ?_ | refine List.Sublist.cons _ ?_))) fun hC => ?_
      refine wt_one 14 (by kernel_rfl) ?_
      refine wt_call0 hs rfl rfl (by go_simp) (of_bytes (hB1.out.keep hs)) (by simp only [Act.put, List.setIfInBounds_toArray, List.set_cons_succ, List.set_cons_zero]; rfl) ?_
      clear hs; intro w1 hs
      refine wt_and (hs.sub (by repeat (first | exact List.Sublist.refl _ | refine List.Sublist.cons_cons _ ?_ | refine List.Sublist.cons _ ?_))) fun hC => ?_
      refine wt_one 15 (by kernel_rfl) ?_
      refine wt_callU hs rfl rfl (by go_simp) 0 rfl (HWr.out _ _ _ (hs.get 0 rfl)) (by simp only [Act.put, List.setIfInBounds_toArray, List.set_cons_succ, List.set_cons_zero]; rfl) ?_
      clear hs; intro w1 hs
      refine wt_and (hs.sub (by repeat (first | exact List.Sublist.refl _ | refine List.Sublist.cons_cons _ ?_ | refine List.Sublist.cons _ ?_))) fun hC => ?_
      refine wt_done (by kernel_rfl) ?_
      skip
      go_wp2_with fail
      go_roundw
      case rel => exact ⟨j + 1, _, _, _, _, _, by omega, by go_num, hi', hs⟩
      case measure => simp [intOf]; omega
    · obtain rfl : j = m1 := by omega
      go_upto_region 18 with (first
        | (go_at_call 28; refine (copy_any h2 (hs.get 0 rfl)).mono ?_; rintro e w2 ⟨dc, sc, rfl, hc⟩; replace hs := hs.call1 hc; clear hc))
      go_upto_region 24 with (first
        | (go_at_call 28; refine (copy_any h2 (hs.get 1 rfl)).mono ?_; rintro e w2 ⟨de, se, rfl, hc⟩; replace hs := hs.call1 hc; clear hc)
        | (go_at_call 13; refine (image_any h2 (hs.get 2 rfl)).mono ?_; rintro e w2 ⟨bw, rfl, hc⟩; replace hs := hs.call1 hc; clear hc)
        | (go_at_call 17; refine (writes_any (hs.get 3 rfl)).mono ?_; rintro e w2 ⟨rfl, hc⟩; replace hs := hs.call0 hc; clear hc)
        | (go_at_call 18; refine (down_any (hs.get 3 rfl)).mono ?_; rintro e w2 ⟨rfl, hc⟩; replace hs := hs.call0 hc; clear hc))
      go_wp2_with fail
      go_loopw [17] (fun i wr => ∃ (a : Nat) (g : Nat → UInt8) (p : Int) (of2 ar2 : Bool) (lf2 : Int), a ≤ m2 ∧ i = .int .i64 a ∧ inv p of2 ar2 lf2 ∧ Tr w [] wr [Res.blk bw (rowOf (n * 128) (u8v f)) 40, diskR de se n g p of2 ar2 lf2, diskR dc sc n g p of2 ar2 lf2, diskR d s n f q off armed left]) (fun i _ => m2 - (intOf i).toNat)
      case atStart => exact ⟨0, f, q, off, armed, left, by omega, rfl, hi, hs⟩
      case round =>
        clear hs
        obtain ⟨a, g, p, of2, ar2, lf2, ha, rfl, hi2, hs⟩ := hrel
        by_cases hlt : a < m2
        · have hlt2 : (a : Int) < m2 := by omega
          obtain rfl := HA2.out (by omega)
          obtain ⟨⟨c0, c1⟩, hB1⟩ := hW2.out a hlt
          replace c0 := Lib.hid c0
          replace c1 := Lib.hid c1
          replace hB1 := Lib.hid hB1
          obtain ⟨g', p', of3, ar3, lf3, cd, hi3, HWr⟩ := write_inv (f := g) h2 hi2 (K2 a) (F2 a) (hK2.out a)
          replace HWr := Lib.hid HWr
          go_upto_region 27 with fail
          refine wt_enterS (List.nil_sublist _) 17 rfl hs (by kernel_rfl) ?_
          clear hs; intro w1 hC hs
          refine wt_take 0 rfl (by kernel_rfl) (by kernel_rfl) (by kernel_rfl) (fun _ _ _ _ h => h) rfl hC ⟨_, fun w hw => by (go_simp; try with_reducible rfl), fun a1 ha => ?_⟩
          simp only [Act.put, List.setIfInBounds_toArray, List.set_cons_succ, List.set_cons_zero] at ha; subst ha
          refine wt_take 1 rfl (by kernel_rfl) (by kernel_rfl) (by kernel_rfl) (fun _ _ _ _ h => h) rfl hC ⟨_, fun w hw => by (go_simp; try with_reducible rfl), fun a1 ha => ?_⟩
          simp only [Act.put, List.setIfInBounds_toArray, List.set_cons_succ, List.set_cons_zero] at ha; subst ha
          refine wt_take 2 rfl (by kernel_rfl) (by kernel_rfl) (by kernel_rfl) (fun _ _ _ _ h => h) rfl hC ⟨_, fun w hw => by (go_simp; try with_reducible rfl), fun a1 ha => ?_⟩
          simp only [Act.put, List.setIfInBounds_toArray, List.set_cons_succ, List.set_cons_zero] at ha; subst ha
          refine wt_take 3 rfl (by kernel_rfl) (by kernel_rfl) (by kernel_rfl) (fun _ _ _ _ h => h) rfl hC ⟨_, fun w hw => by (go_simp; try with_reducible rfl), fun a1 ha => ?_⟩
          simp only [Act.put, List.setIfInBounds_toArray, List.set_cons_succ, List.set_cons_zero] at ha; subst ha
          refine wt_take 4 rfl (by kernel_rfl) (by kernel_rfl) (by kernel_rfl) (fun _ _ _ _ h => h) rfl hC ⟨_, fun w hw => by (go_simp; try with_reducible rfl), fun a1 ha => ?_⟩
          simp only [Act.put, List.setIfInBounds_toArray, List.set_cons_succ, List.set_cons_zero] at ha; subst ha
          refine wt_take 5 rfl (by kernel_rfl) (by kernel_rfl) (by kernel_rfl) (fun _ _ _ _ h => h) rfl hC ⟨_, fun w hw => ex_load1 rfl Try.underlying3 rfl rfl (hw.keepCell c0.out), fun a1 ha => ?_⟩
          simp only [Act.put, List.setIfInBounds_toArray, List.set_cons_succ, List.set_cons_zero] at ha; subst ha
          refine wt_take 6 rfl (by kernel_rfl) (by kernel_rfl) (by kernel_rfl) (fun _ _ _ _ h => h) rfl hC ⟨_, fun w hw => by (go_simp; try with_reducible rfl), fun a1 ha => ?_⟩
          simp only [Act.put, List.setIfInBounds_toArray, List.set_cons_succ, List.set_cons_zero] at ha; subst ha
          refine wt_take 7 rfl (by kernel_rfl) (by kernel_rfl) (by kernel_rfl) (fun _ _ _ _ h => h) rfl hC ⟨_, fun w hw => by (go_simp; try with_reducible rfl), fun a1 ha => ?_⟩
          simp only [Act.put, List.setIfInBounds_toArray, List.set_cons_succ, List.set_cons_zero] at ha; subst ha
          refine wt_take 9 rfl (by kernel_rfl) (by kernel_rfl) (by kernel_rfl) (fun _ _ _ _ h => h) rfl hC ⟨_, fun w hw => by (go_simp; try with_reducible rfl), fun a1 ha => ?_⟩
          simp only [Act.put, List.setIfInBounds_toArray, List.set_cons_succ, List.set_cons_zero] at ha; subst ha
          refine wt_take 10 rfl (by kernel_rfl) (by kernel_rfl) (by kernel_rfl) (fun _ _ _ _ h => h) rfl hC ⟨_, fun w hw => by (go_simp; try with_reducible rfl), fun a1 ha => ?_⟩
          simp only [Act.put, List.setIfInBounds_toArray, List.set_cons_succ, List.set_cons_zero] at ha; subst ha
          refine wt_take 11 rfl (by kernel_rfl) (by kernel_rfl) (by kernel_rfl) (fun _ _ _ _ h => h) rfl hC ⟨_, fun w hw => by (go_simp; try with_reducible rfl), fun a1 ha => ?_⟩
          simp only [Act.put, List.setIfInBounds_toArray, List.set_cons_succ, List.set_cons_zero] at ha; subst ha
          refine wt_take 12 rfl (by kernel_rfl) (by kernel_rfl) (by kernel_rfl) (fun _ _ _ _ h => h) rfl hC ⟨_, fun w hw => by (go_simp; try with_reducible rfl), fun a1 ha => ?_⟩
          simp only [Act.put, List.setIfInBounds_toArray, List.set_cons_succ, List.set_cons_zero] at ha; subst ha
          refine wt_take 13 rfl (by kernel_rfl) (by kernel_rfl) (by kernel_rfl) (fun _ _ _ _ h => h) rfl hC ⟨_, fun w hw => ex_load1 rfl Try.underlying42 rfl rfl (hw.keepCell c1.out), fun a1 ha => ?_⟩
          simp only [Act.put, List.setIfInBounds_toArray, List.set_cons_succ, List.set_cons_zero] at ha; subst ha
          refine wt_one 8 (by kernel_rfl) ?_
          refine wt_callE hs rfl rfl (by go_simp) (HK2.out a hlt _) (by simp only [Act.put, List.setIfInBounds_toArray, List.set_cons_succ, List.set_cons_zero]; rfl) ?_
          clear hs; intro w1 hs
          refine wt_and (hs.sub (by repeat (first | exact List.Sublist.refl _ | refine List.Sublist.cons_cons _ ?_ | refine List.Sublist.cons _ ?_))) fun hC => ?_
          refine wt_one 14 (by kernel_rfl) ?_
          refine wt_call0 hs rfl rfl (by go_simp) (of_bytes (hB1.out.keep hs)) (by simp only [Act.put, List.setIfInBounds_toArray, List.set_cons_succ, List.set_cons_zero]; rfl) ?_
          clear hs; intro w1 hs
          refine wt_and (hs.sub (by repeat (first | exact List.Sublist.refl _ | refine List.Sublist.cons_cons _ ?_ | refine List.Sublist.cons _ ?_))) fun hC => ?_
          refine wt_one 15 (by kernel_rfl) ?_
          refine wt_callU hs rfl rfl (by go_simp) 2 rfl (HWr.out _ _ _ (hs.get 2 rfl)) (by simp only [Act.put, List.setIfInBounds_toArray, List.set_cons_succ, List.set_cons_zero]; rfl) ?_
          clear hs; intro w1 hs
          refine wt_and (hs.sub (by repeat (first | exact List.Sublist.refl _ | refine List.Sublist.cons_cons _ ?_ | refine List.Sublist.cons _ ?_))) fun hC => ?_
          refine wt_take 16 rfl (by kernel_rfl) (by kernel_rfl) (by kernel_rfl) (fun _ _ _ _ h => h) rfl hC ⟨_, fun w hw => by (go_simp; try with_reducible rfl), fun a1 ha => ?_⟩
          simp only [Act.put, List.setIfInBounds_toArray, List.set_cons_succ, List.set_cons_zero] at ha; subst ha
          refine wt_done (by kernel_rfl) ?_
          skip
          go_upto_region 28 with fail
          refine wt_enterS (List.nil_sublist _) 17 rfl hs (by kernel_rfl) ?_
          clear hs; intro w1 hC hs
          refine wt_take 0 rfl (by kernel_rfl) (by kernel_rfl) (by kernel_rfl) (fun _ _ _ _ h => h) rfl hC ⟨_, fun w hw => by (go_simp; try with_reducible rfl), fun a1 ha => ?_⟩
          simp only [Act.put, List.setIfInBounds_toArray, List.set_cons_succ, List.set_cons_zero] at ha; subst ha
          refine wt_take 1 rfl (by kernel_rfl) (by kernel_rfl) (by kernel_rfl) (fun _ _ _ _ h => h) rfl hC ⟨_, fun w hw => by (go_simp; try with_reducible rfl), fun a1 ha => ?_⟩
          simp only [Act.put, List.setIfInBounds_toArray, List.set_cons_succ, List.set_cons_zero] at ha; subst ha
          refine wt_take 2 rfl (by kernel_rfl) (by kernel_rfl) (by kernel_rfl) (fun _ _ _ _ h => h) rfl hC ⟨_, fun w hw => by (go_simp; try with_reducible rfl), fun a1 ha => ?_⟩
          simp only [Act.put, List.setIfInBounds_toArray, List.set_cons_succ, List.set_cons_zero] at ha; subst ha
          refine wt_take 3 rfl (by kernel_rfl) (by kernel_rfl) (by kernel_rfl) (fun _ _ _ _ h => h) rfl hC ⟨_, fun w hw => by (go_simp; try with_reducible rfl), fun a1 ha => ?_⟩
          simp only [Act.put, List.setIfInBounds_toArray, List.set_cons_succ, List.set_cons_zero] at ha; subst ha
          refine wt_take 4 rfl (by kernel_rfl) (by kernel_rfl) (by kernel_rfl) (fun _ _ _ _ h => h) rfl hC ⟨_, fun w hw => by (go_simp; try with_reducible rfl), fun a1 ha => ?_⟩
          simp only [Act.put, List.setIfInBounds_toArray, List.set_cons_succ, List.set_cons_zero] at ha; subst ha
          refine wt_take 5 rfl (by kernel_rfl) (by kernel_rfl) (by kernel_rfl) (fun _ _ _ _ h => h) rfl hC ⟨_, fun w hw => ex_load1 rfl Try.underlying3 rfl rfl (hw.keepCell c0.out), fun a1 ha => ?_⟩
          simp only [Act.put, List.setIfInBounds_toArray, List.set_cons_succ, List.set_cons_zero] at ha; subst ha
          refine wt_take 6 rfl (by kernel_rfl) (by kernel_rfl) (by kernel_rfl) (fun _ _ _ _ h => h) rfl hC ⟨_, fun w hw => by (go_simp; try with_reducible rfl), fun a1 ha => ?_⟩
          simp only [Act.put, List.setIfInBounds_toArray, List.set_cons_succ, List.set_cons_zero] at ha; subst ha
          refine wt_take 7 rfl (by kernel_rfl) (by kernel_rfl) (by kernel_rfl) (fun _ _ _ _ h => h) rfl hC ⟨_, fun w hw => by (go_simp; try with_reducible rfl), fun a1 ha => ?_⟩
          simp only [Act.put, List.setIfInBounds_toArray, List.set_cons_succ, List.set_cons_zero] at ha; subst ha
          refine wt_take 9 rfl (by kernel_rfl) (by kernel_rfl) (by kernel_rfl) (fun _ _ _ _ h => h) rfl hC ⟨_, fun w hw => by (go_simp; try with_reducible rfl), fun a1 ha => ?_⟩
          simp only [Act.put, List.setIfInBounds_toArray, List.set_cons_succ, List.set_cons_zero] at ha; subst ha
          refine wt_take 10 rfl (by kernel_rfl) (by kernel_rfl) (by kernel_rfl) (fun _ _ _ _ h => h) rfl hC ⟨_, fun w hw => by (go_simp; try with_reducible rfl), fun a1 ha => ?_⟩
          simp only [Act.put, List.setIfInBounds_toArray, List.set_cons_succ, List.set_cons_zero] at ha; subst ha
          refine wt_take 11 rfl (by kernel_rfl) (by kernel_rfl) (by kernel_rfl) (fun _ _ _ _ h => h) rfl hC ⟨_, fun w hw => by (go_simp; try with_reducible rfl), fun a1 ha => ?_⟩
          simp only [Act.put, List.setIfInBounds_toArray, List.set_cons_succ, List.set_cons_zero] at ha; subst ha
          refine wt_take 12 rfl (by kernel_rfl) (by kernel_rfl) (by kernel_rfl) (fun _ _ _ _ h => h) rfl hC ⟨_, fun w hw => by (go_simp; try with_reducible rfl), fun a1 ha => ?_⟩
          simp only [Act.put, List.setIfInBounds_toArray, List.set_cons_succ, List.set_cons_zero] at ha; subst ha
          refine wt_take 13 rfl (by kernel_rfl) (by kernel_rfl) (by kernel_rfl) (fun _ _ _ _ h => h) rfl hC ⟨_, fun w hw => ex_load1 rfl Try.underlying42 rfl rfl (hw.keepCell c1.out), fun a1 ha => ?_⟩
          simp only [Act.put, List.setIfInBounds_toArray, List.set_cons_succ, List.set_cons_zero] at ha; subst ha
          refine wt_one 8 (by kernel_rfl) ?_
          refine wt_callE hs rfl rfl (by go_simp) (HK2.out a hlt _) (by simp only [Act.put, List.setIfInBounds_toArray, List.set_cons_succ, List.set_cons_zero]; rfl) ?_
          clear hs; intro w1 hs
          refine wt_and (hs.sub (by repeat (first | exact List.Sublist.refl _ | refine List.Sublist.cons_cons _ ?_ | refine List.Sublist.cons _ ?_))) fun hC => ?_
          refine wt_one 14 (by kernel_rfl) ?_
          refine wt_call0 hs rfl rfl (by go_simp) (of_bytes (hB1.out.keep hs)) (by simp only [Act.put, List.setIfInBounds_toArray, List.set_cons_succ, List.set_cons_zero]; rfl) ?_
          clear hs; intro w1 hs
          refine wt_and (hs.sub (by repeat (first | exact List.Sublist.refl _ | refine List.Sublist.cons_cons _ ?_ | refine List.Sublist.cons _ ?_))) fun hC => ?_
          refine wt_one 15 (by kernel_rfl) ?_
          refine wt_callU hs rfl rfl (by go_simp) 1 rfl (HWr.out _ _ _ (hs.get 1 rfl)) (by simp only [Act.put, List.setIfInBounds_toArray, List.set_cons_succ, List.set_cons_zero]; rfl) ?_
          clear hs; intro w1 hs
          refine wt_and (hs.sub (by repeat (first | exact List.Sublist.refl _ | refine List.Sublist.cons_cons _ ?_ | refine List.Sublist.cons _ ?_))) fun hC => ?_
          refine wt_take 16 rfl (by kernel_rfl) (by kernel_rfl) (by kernel_rfl) (fun _ _ _ _ h => h) rfl hC ⟨_, fun w hw => by (go_simp; try with_reducible rfl), fun a1 ha => ?_⟩
          simp only [Act.put, List.setIfInBounds_toArray, List.set_cons_succ, List.set_cons_zero] at ha; subst ha
          refine wt_done (by kernel_rfl) ?_
          skip
          go_wp2_with (first
            | (go_at_call_of 18 (Value.pointer (some ⟨dc, 0, none⟩)); refine (down_any (hs.get 2 rfl)).mono ?_; rintro e w2 ⟨rfl, hc⟩; replace hs := hs.call0 hc; clear hc)
            | (go_at_call_of 18 (Value.pointer (some ⟨de, 0, none⟩)); refine (down_any (hs.get 1 rfl)).mono ?_; rintro e w2 ⟨rfl, hc⟩; replace hs := hs.call0 hc; clear hc)
            | (go_at_call_of 17 (Value.pointer (some ⟨dc, 0, none⟩)); refine (writes_any (hs.get 2 rfl)).mono ?_; rintro e w2 ⟨rfl, hc⟩; replace hs := hs.call0 hc; clear hc)
            | (go_at_call_of 17 (Value.pointer (some ⟨de, 0, none⟩)); refine (writes_any (hs.get 1 rfl)).mono ?_; rintro e w2 ⟨rfl, hc⟩; replace hs := hs.call0 hc; clear hc))
          go_roundw
          case rel => exact ⟨a + 1, _, _, _, _, _, by omega, by go_num, hi3, hs⟩
          case measure => simp [intOf]; omega
        · obtain rfl : a = m2 := by omega
          go_upto_region 32 with (first
            | (go_at_call_of 13 (Value.pointer (some ⟨dc, 0, none⟩)); refine (image_any h2 (hs.get 2 rfl)).mono ?_; rintro e w2 ⟨bi, rfl, hc⟩; replace hs := hs.call1 hc; clear hc)
            | (go_at_call_of 13 (Value.pointer (some ⟨de, 0, none⟩)); refine (image_any h2 (hs.get 2 rfl)).mono ?_; rintro e w2 ⟨bj, rfl, hc⟩; replace hs := hs.call1 hc; clear hc)
            | (go_at_call 14; refine (same_yes g g n _ _ _ _ bi 0 bj 0 _ (by omega) (fun _ => rfl) (fun _ => rfl) (hs.rd0 1 rfl (by omega)) (hs.rd0 0 rfl (by omega)) (fun _ _ => rfl)).mono ?_; rintro e w2 ⟨rfl, hc⟩; replace hs := hs.call0 hc; clear hc))
          go_wp2_with (first
            | (go_at_call 13; refine (image_any h2 (hs.get 5 rfl)).mono ?_; rintro e w2 ⟨bk, rfl, hc⟩; replace hs := hs.call1 hc; clear hc)
            | (go_at_call 14; refine (same_yes f f n _ _ _ _ bk 0 bw 0 _ (by omega) (fun _ => rfl) (fun _ => rfl) (hs.rd0 0 rfl (by omega)) (hs.rd0 3 rfl (by omega)) (fun _ _ => rfl)).mono ?_; rintro e w2 ⟨rfl, hc⟩; replace hs := hs.call0 hc; clear hc)
            | (go_at_call 29; refine (restart_any (hs.get 5 rfl)).mono ?_; rintro e w2 ⟨v, rfl, hc⟩; replace hs := hs.upd 5 rfl hc; clear hc)
            | (go_at_call_of 17 (Value.pointer (some ⟨d, 0, none⟩)); refine (writes_any (hs.get 6 rfl)).mono ?_; rintro e w2 ⟨rfl, hc⟩; replace hs := hs.call0 hc; clear hc)
            | (go_at_call_of 18 (Value.pointer (some ⟨d, 0, none⟩)); refine (down_any (hs.get 6 rfl)).mono ?_; rintro e w2 ⟨rfl, hc⟩; replace hs := hs.call0 hc; clear hc)
            | (go_at_call_of 18 (Value.pointer (some ⟨dc, 0, none⟩)); refine (down_any (hs.get 5 rfl)).mono ?_; rintro e w2 ⟨rfl, hc⟩; replace hs := hs.call0 hc; clear hc))
          go_ret
          exact ⟨rfl, hs.letgo⟩

theorem apart_walk (n cap m1 cap1 m2 cap2 : Nat) (ao ao1 ao2 : Option Addr) (db doff db1 doff1 db2 doff2 : Nat) (V : Nat → Value) (SF : Nat → Nat → UInt8) (N1 : Nat → Int) (V1 : Nat → Value) (F1 : Nat → Nat → UInt8) (N2 : Nat → Int) (V2 : Nat → Value) (F2 : Nat → Nat → UInt8) (x : Int) (w : World) (hn : n ≤ 9223372036854775807) (hm1 : m1 ≤ 9223372036854775807) (hm2 : m2 ≤ 9223372036854775807)
    (hx : -9223372036854775808 ≤ x ∧ x ≤ 9223372036854775807) (hao : 0 < n → ao = some ⟨db, doff, none⟩) (hV : Rd w db doff n V) (hB : ∀ i, i < n → isBytes w (V i) (SF i)) (hao1 : 0 < m1 → ao1 = some ⟨db1, doff1, none⟩) (hao2 : 0 < m2 → ao2 = some ⟨db2, doff2, none⟩)
    (hW1 : ∀ i, i < m1 → (w.cell? ⟨db1, doff1 + i * 2, none⟩ = some (.int .i64 (N1 i)) ∧ w.cell? ⟨db1, doff1 + i * 2 + 1, none⟩ = some (V1 i)) ∧ (-9223372036854775808 ≤ N1 i ∧ N1 i ≤ 9223372036854775807) ∧ isBytes w (V1 i) (F1 i))
    (hW2 : ∀ i, i < m2 → (w.cell? ⟨db2, doff2 + i * 2, none⟩ = some (.int .i64 (N2 i)) ∧ w.cell? ⟨db2, doff2 + i * 2 + 1, none⟩ = some (V2 i)) ∧ (-9223372036854775808 ≤ N2 i ∧ N2 i ≤ 9223372036854775807) ∧ isBytes w (V2 i) (F2 i)) :
    Calls Try.prog 6 #[.agg #[.slice ao n cap, .int .i64 x, .slice ao1 m1 cap1, .slice ao2 m2 cap2]] w fun e w' => e = .returned (.bool true) ∧ Below w.heap.size w w' := by
  suffices hh : Calls Try.prog 6 #[.agg #[.slice ao n cap, .int .i64 x, .slice ao1 m1 cap1, .slice ao2 m2 cap2]] w fun e w' => e = .returned (.bool true) ∧ Tr w [] w' [] from hh.mono fun e w' ⟨he, ht⟩ => ⟨he, ht.below⟩
  by_cases h : n = 0 ∨ 4096 < n
  · exact apart_no n cap m1 cap1 m2 cap2 ao ao1 ao2 x w h hn
  · have b0 := pick_bd x 30 (by omega)
    obtain ⟨k, hk⟩ : ∃ k : Nat, pick x 30 = (k : Int) := ⟨_, (Int.toNat_of_nonneg b0.1).symm⟩
    have bK1 := fun i => pick_bd (N1 i) (n : Int) (by omega)
    have bK2 := fun i => pick_bd (N2 i) (n : Int) (by omega)
    refine apart_yes n cap m1 cap1 m2 cap2 k ao ao1 ao2 db doff db1 doff1 db2 doff2 V SF N1 V1 F1 (fun i => (pick (N1 i) n).toNat) N2 V2 F2 (fun i => (pick (N2 i) n).toNat) x w (by omega) (by omega) hm1 hm2 (by omega) (hao (by omega)) hV hB hao1 hao2 (Lib.hid fun i hi => ⟨(hW1 i hi).1, (hW1 i hi).2.2⟩) (Lib.hid fun i hi => ⟨(hW2 i hi).1, (hW2 i hi).2.2⟩) (Lib.hid fun i => ?_) (Lib.hid fun i => ?_) (Lib.hid fun i hi w => ?_) (Lib.hid fun i hi w => ?_) (Lib.hid fun w => ?_)
    · have := bK1 i
      omega
    · have := bK2 i
      omega
    · rw [Int.toNat_of_nonneg (bK1 i).1]
      exact pick_any (N1 i) n w (by omega) (by omega) (hW1 i hi).2.1.1 (hW1 i hi).2.1.2
    · rw [Int.toNat_of_nonneg (bK2 i).1]
      exact pick_any (N2 i) n w (by omega) (by omega) (hW2 i hi).2.1.1 (hW2 i hi).2.1.2
    · rw [← hk]
      exact pick_any x _ w (by omega) (by omega) hx.1 hx.2
end Go.Proofs.Ytcflolcaiedmfaa
