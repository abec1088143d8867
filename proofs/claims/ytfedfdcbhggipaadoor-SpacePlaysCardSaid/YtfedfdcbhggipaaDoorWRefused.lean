/- SpaceRefused: the walk. -/
import Derived.Test.YtfedfdcbhggipaaDoorR
namespace Go.Proofs.YtfedfdcbhggipaaDoor
set_option linter.unusedVariables false
set_option linter.unusedSimpArgs false
open Go Go.Sp Go.RowKit Go.BigFrame

def B0 : Nat → Nat := fun _ => 0
def I0 : Nat → Bool := updP (fun _ => false) 1 true
theorem nil_ints (w : World) : Ints w (.slice none 0 0) none 0 0 0 0 (fun _ => 0) :=
  ⟨rfl, Nat.le_refl _, by unfold maxLen; omega, fun h => by omega, fun j hj => by omega, fun i hi => by omega⟩
theorem new_nil {n m : Nat} {w : World} (hmay : 8 ≤ n ∧ n ≤ 4096 ∧ 1 ≤ m ∧ m ≤ 512 ∧ m + 2 ≤ n) :
    Calls Tryd.prog 11 #[.agg #[.int .i64 n, .int .i64 m], .slice none 0 0, .slice none 0 0] w fun e w' => ∃ p b bs i is q, e = .returned (.tuple #[.pointer (some ⟨p, 0, none⟩), .int .i64 0]) ∧ Tr w [] w' [spaceR p b bs i is q n m B0 I0] :=
  snew_yes hmay (nil_ints w) (nil_ints w) (fun k hk => by omega) (fun k hk => by omega)
theorem cnt_one {f : Nat → Bool} {n r : Nat} (hr : r < n) (hf : ∀ j, f j = decide (j = r)) : cntP f n = 1 := by
  have h1 : f = updP (fun _ => false) r true := by
    funext j; rw [hf, updP]; split <;> simp_all
  have h := cntP_upd (fun _ => false) r true n
  rw [if_pos hr, if_pos hr, cntP_zero fun _ _ => rfl] at h
  rw [h1]
  simpa using h
theorem rf_later {n m : Nat} (h : m + 1 < n) : cntP (fL n m (setB (setB B0 (m + 1) 1) (m + 1) 2)) n = 1 := cnt_one h fun j => by
  simp only [fL]
  by_cases hj : j = m + 1
  · subst hj; rw [setB_at, decide_eq_true h]; simp
  · rw [setB_off hj, setB_off hj]; simp [B0, hj]
set_option maxRecDepth 100000 in
set_option maxHeartbeats 4000000 in
theorem refused_core (n m t u : Nat) (x0 x1 P x3 : Int) (w : World) (hmay : 8 ≤ n ∧ n ≤ 4096 ∧ 1 ≤ m ∧ m ≤ 512 ∧ m + 2 ≤ n)
    (HS : Hid (∀ w, Calls Tryd.prog 21 #[.int .i64 x0, .int .i64 x1] w fun e w' => e = .returned (.agg #[.int .i64 n, .int .i64 m]) ∧ Tr w [] w' []))
    (PP : Hid (∀ w, Calls Tryd.prog 22 #[.int .i64 P, .int .i64 ((m : Int) + 1)] w fun e w' => e = .returned (.int .i64 t) ∧ w = w')) (ht : t ≤ m)
    (PM : Hid (∀ w, Calls Tryd.prog 22 #[.int .i64 x3, .int .i64 1000] w fun e w' => e = .returned (.int .i64 u) ∧ w = w')) (hu : u < 1000)
    (hP : -9223372036854775808 ≤ P ∧ P ≤ 9223372036854775807) (hR : Rd w 0 0 64 tabV) :
    Calls Tryd.prog 8 #[.agg #[.int .i64 x0, .int .i64 x1, .int .i64 P, .int .i64 x3]] w fun e w' => e = .returned (.bool true) ∧ Tr w [] w' [] := by
  have hs := Tr.refl w []
  have HR := Lib.hid hR
  have HMAY := Lib.hid hmay
  obtain ⟨h1, h2, h3, h4, h5⟩ := hmay
  clear hR
  go_enter Tryd.func8, Tryd.ntmps8
  go_upto_region 8 with (first
    | ((with_reducible refine at_box (t := 58) rfl ?_); refine wl_boxA hs rfl rfl rfl ?_; clear hs; intro w1 yb hs)
    | ((with_reducible refine at_load rfl ?_); refine wl_load1 hs rfl rfl Tryd.underlying3 rfl rfl 0 rfl rfl ?_)
    | ((with_reducible refine at_load rfl ?_); refine wl_load1 hs rfl rfl Tryd.underlying3 rfl rfl 1 rfl rfl ?_)
    | ((with_reducible refine (at_alloc (t := 23)) rfl ?_); refine wl_allocA hs rfl rfl zero23 ?_; clear hs; intro w1 xb hs)
    | ((with_reducible refine at_store rfl ?_); refine wl_storeA hs rfl rfl rfl rfl size23 (by simp [Value.oneCell']) 0 rfl rfl ?_; clear hs; intro w1 hs)
    | ((with_reducible refine (at_load (t := 23)) rfl ?_); refine wl_loadA hs rfl rfl Tryd.underlying23 rfl rfl 0 rfl size23 ?_)
    | (go_at_call 9; refine (awake_any _ (HR.out.keep hs)).mono ?_; rintro e w2 ⟨rfl, hc⟩; replace hs := hs.call0 hc; clear hc)
    | (go_at_call 21; refine (HS.out _).mono ?_; rintro e w2 ⟨rfl, hc⟩; replace hs := hs.call0 hc; clear hc)
    | (go_at_call 11; refine (new_nil HMAY.out).mono ?_; rintro e w2 ⟨p, b, bs, i, is, q, rfl, hc⟩; replace hs := hs.call1 hc; clear hc))
  have HT := Lib.hid (fun w hR h => take_yes (p := p) (b := b) (bs := bs) (i := i) (is := is) (q := q) (n := n) (m := m) (w := w) (B := B0) (I := I0) (m + 1) h2 (by omega) (by omega) rfl (fun j _ _ => by omega) hR h)
  have HL := Lib.hid (fun w h => later_yes (p := p) (b := b) (bs := bs) (i := i) (is := is) (q := q) (n := n) (m := m) (w := w) (B := setB B0 (m + 1) 1) (I := I0) (m + 1) h2 (by omega) (by omega) (setB_at _ _ _) h)
  have hB2 : ∀ j, setB (setB B0 (m + 1) 1) (m + 1) 2 j ≤ 2 := setB_two (setB_two (fun _ => Nat.zero_le _) (by omega)) (by omega)
  have HM := Lib.hid (fun w h => room_any (p := p) (b := b) (bs := bs) (i := i) (is := is) (q := q) (n := n) (m := m) (w := w) h2 h4 hB2 (I := I0) h)
  have HU2 := Lib.hid (fun w h => used_any (p := p) (b := b) (bs := bs) (i := i) (is := is) (q := q) (n := n) (m := m) (w := w) (B := setB (setB B0 (m + 1) 1) (m + 1) 2) (I := I0) 1 h4 h)
  rw [show usedI m I0 1 = true by rw [usedI, if_pos ⟨by omega, by omega⟩]; rfl] at HU2
  have HB2 := Lib.hid hB2
  have hat := setB_at (setB B0 (m + 1) 1) (m + 1) 2
  have HAT := Lib.hid hat
  clear hB2 hat
  have hV : roomV n m (setB (setB B0 (m + 1) 1) (m + 1) 2) I0 = .agg #[.int .i64 ((cntP (rB n m (setB (setB B0 (m + 1) 1) (m + 1) 2)) n : Nat) : Int), .int .i64 1, .int .i64 ((cntP (rI I0) (m + 1) : Nat) : Int)] := by
    rw [roomV, rf_later (by omega)]; rfl
  rw [hV] at HM
  clear hV
  generalize cntP (rB n m (setB (setB B0 (m + 1) 1) (m + 1) 2)) n = rb at *
  generalize cntP (rI I0) (m + 1) = ri at *
  generalize setB (setB B0 (m + 1) 1) (m + 1) 2 = B2 at *
  have HU1 : Hid (usedI m I0 ((m : Int) + 1 + (u : Nat)) = false) := Lib.hid (if_neg (by omega))
  by_cases hp1 : (m : Int) < P
  · by_cases hp2 : P < (n : Int)
    · go_upto_region 9 with (first | ((with_reducible refine at_load rfl ?_); refine wl_load1 hs rfl rfl Tryd.underlying3 rfl rfl 1 rfl rfl ?_))
      refine wt_enter 9 rfl hs (by kernel_rfl) ?_
      clear hs; intro w1 hs; have hC := hs
      refine wt_take 0 rfl (by kernel_rfl) (by kernel_rfl) (by kernel_rfl) (fun _ _ _ _ h => h) rfl hC ⟨_, fun w hw => by (go_simp; try with_reducible rfl), fun a1 ha => ?_⟩
      simp only [Act.put, List.setIfInBounds_toArray, List.set_cons_succ, List.set_cons_zero] at ha; subst ha
      refine wt_take 1 rfl (by kernel_rfl) (by kernel_rfl) (by kernel_rfl) (fun _ _ _ _ h => h) rfl hC ⟨_, fun w hw => ex_load1 rfl Tryd.underlying3 rfl rfl (by rw [cell_of_row w _ _ _ _ (0, 0) (hw.getB 1 rfl)]; rfl), fun a1 ha => ?_⟩
      simp only [Act.put, List.setIfInBounds_toArray, List.set_cons_succ, List.set_cons_zero] at ha; subst ha
      refine wt_take 2 rfl (by kernel_rfl) (by kernel_rfl) (by kernel_rfl) (fun _ _ _ _ h => h) rfl hC ⟨_, fun w hw => by (go_simp; try with_reducible rfl), fun a1 ha => ?_⟩
      simp only [Act.put, List.setIfInBounds_toArray, List.set_cons_succ, List.set_cons_zero] at ha; subst ha
      refine wt_take 3 rfl (by kernel_rfl) (by kernel_rfl) (by kernel_rfl) (fun _ _ _ _ h => h) rfl hC ⟨_, fun w hw => by (go_simp; try with_reducible rfl), fun a1 ha => ?_⟩
      simp only [Act.put, List.setIfInBounds_toArray, List.set_cons_succ, List.set_cons_zero] at ha; subst ha
      refine wt_take 4 rfl (by kernel_rfl) (by kernel_rfl) (by kernel_rfl) (fun _ _ _ _ h => h) rfl hC ⟨_, fun w hw => ex_load1 rfl Tryd.underlying3 rfl rfl (by rw [cell_of_row w _ _ _ _ (0, 0) (hw.getB 1 rfl)]; rfl), fun a1 ha => ?_⟩
      simp only [Act.put, List.setIfInBounds_toArray, List.set_cons_succ, List.set_cons_zero] at ha; subst ha
      refine wt_take 5 rfl (by kernel_rfl) (by kernel_rfl) (by kernel_rfl) (fun _ _ _ _ h => h) rfl hC ⟨.int .i64 ((m : Int) + 1), fun w hw => by (go_simp; first | done | exact wrap_in (by omega) | go_num), fun a1 ha => ?_⟩
      simp only [Act.put, List.setIfInBounds_toArray, List.set_cons_succ, List.set_cons_zero] at ha; subst ha
      refine wt_one 6 (by kernel_rfl) ?_
      refine wt_callE hs rfl rfl (by go_simp) (PP.out _) (by simp only [Act.put, List.setIfInBounds_toArray, List.set_cons_succ, List.set_cons_zero]; rfl) ?_
      clear hs; intro w1 hs
      refine wt_and (hs.sub (by repeat (first | exact List.Sublist.refl _ | refine List.Sublist.cons_cons _ ?_ | refine List.Sublist.cons _ ?_))) fun hC => ?_
      refine wt_take 7 rfl (by kernel_rfl) (by kernel_rfl) (by kernel_rfl) (fun _ _ _ _ h => h) rfl hC ⟨.int .i64 ((m : Int) - (t : Nat)), fun w hw => by (go_simp; first | done | exact wrap_in (by omega) | go_num), fun a1 ha => ?_⟩
      simp only [Act.put, List.setIfInBounds_toArray, List.set_cons_succ, List.set_cons_zero] at ha; subst ha
      refine wt_take 8 rfl (by kernel_rfl) (by kernel_rfl) (by kernel_rfl) (fun _ _ _ _ h => h) rfl hC ⟨_, fun w hw => by (go_simp; try with_reducible rfl), fun a1 ha => ?_⟩
      simp only [Act.put, List.setIfInBounds_toArray, List.set_cons_succ, List.set_cons_zero] at ha; subst ha
      refine wt_done (by kernel_rfl) ?_
      skip
      obtain ⟨Z, hZ⟩ : ∃ Z, Z = (m : Int) - (t : Nat) := ⟨_, rfl⟩
      rw [← hZ]
      have HZ := Lib.hid (inD_out (n := n) (m := m) (b := Z) (Or.inl (by omega)))
      have hZb : -9223372036854775808 ≤ Z ∧ Z ≤ 9223372036854775807 := by omega
      clear hZ hp1 hp2
      go_upto_region 11 with (first | (go_at_call 19; refine (HT.out _ (HR.out.keep hs) (hs.get 0 rfl)).mono ?_; rintro e w2 ⟨rfl, hc⟩; replace hs := hs.upd 0 rfl hc; clear hc))
      go_upto_region 12 with (first | (go_at_call 25; refine (HL.out _ (hs.get 0 rfl)).mono ?_; rintro e w2 ⟨rfl, hc⟩; replace hs := hs.upd 0 rfl hc; clear hc))
      go_upto_region 13 with (first | (go_at_call 17; refine (HM.out _ (hs.get 0 rfl)).mono ?_; rintro e w2 ⟨rfl, hc⟩; replace hs := hs.call0 hc; clear hc) | ((with_reducible refine at_alloc rfl ?_); refine wl_allocA hs rfl rfl zero40 ?_; clear hs; intro w1 rbk hs) | ((with_reducible refine at_store rfl ?_); refine wl_storeA hs rfl rfl rfl rfl size40 (by simp [Value.oneCell']) 0 rfl rfl ?_; clear hs; intro w1 hs))
      have HLST : Hid ((#[.int .i64 ((m + 1 : Nat) : Int), .int .i64 Z] : Array Value) = rowOf 2 fun j => .int .i64 (if j = 0 then ((m + 1 : Nat) : Int) else Z)) := Lib.hid (rowOf_ext rfl fun j hj => by (rcases (by omega : j = 0 ∨ j = 1) with rfl | rfl) <;> rfl)
      go_upto_region 14 with (first | ((with_reducible refine at_buildSlice rfl ?_); refine wl_buildSliceV hs rfl rfl Tryd.underlying24 info3 (by omega) (by omega) [.int .i64 ((m + 1 : Nat) : Int), .int .i64 Z] rfl rfl (by simp [Value.oneCell']) ?_; clear hs; intro w1 lb hs) | (go_at_call 26; refine (landed_no 2 2 lb 0 _ (fun j => if j = 0 then ((m + 1 : Nat) : Int) else Z) (by omega) (fun _ => rfl) (by have h0 := hs.getB 0 rfl; rw [HLST.out] at h0; intro j hj; rw [Nat.zero_add, cell_of_row _ lb j _ _ (0, 0) h0, rowOf_get hj]) ⟨1, by omega, HZ.out⟩ (hs.get 2 rfl)).mono ?_; rintro e w2 ⟨rfl, hc⟩; replace hs := hs.call0 hc; clear hc))
      go_upto_region 15 with (first | (go_at_call 25; refine (later_no Z h2 HB2.out (Or.inl HZ.out) hZb (hs.get 2 rfl)).mono ?_; rintro e w2 ⟨rfl, hc⟩; replace hs := hs.call0 hc; clear hc))
      go_upto_region 16 with (first | (go_at_call 25; refine (later_no ((m + 1 : Nat) : Int) h2 HB2.out (Or.inr (by rw [Int.toNat_natCast, HAT.out]; omega)) (by omega) (hs.get 2 rfl)).mono ?_; rintro e w2 ⟨rfl, hc⟩; replace hs := hs.call0 hc; clear hc))
      go_upto_region 17 with (first | (go_at_call 24; refine (freei_no 1 h4 (Or.inl (by omega)) (hs.get 2 rfl)).mono ?_; rintro e w2 ⟨rfl, hc⟩; replace hs := hs.call0 hc; clear hc))
      refine wt_enter 9 rfl hs (by kernel_rfl) ?_
      clear hs; intro w1 hs; have hC := hs
      refine wt_take 0 rfl (by kernel_rfl) (by kernel_rfl) (by kernel_rfl) (fun _ _ _ _ h => h) rfl hC ⟨_, fun w hw => by (go_simp; try with_reducible rfl), fun a1 ha => ?_⟩
      simp only [Act.put, List.setIfInBounds_toArray, List.set_cons_succ, List.set_cons_zero] at ha; subst ha
      refine wt_take 1 rfl (by kernel_rfl) (by kernel_rfl) (by kernel_rfl) (fun _ _ _ _ h => h) rfl hC ⟨_, fun w hw => by (go_simp; try with_reducible rfl), fun a1 ha => ?_⟩
      simp only [Act.put, List.setIfInBounds_toArray, List.set_cons_succ, List.set_cons_zero] at ha; subst ha
      refine wt_take 2 rfl (by kernel_rfl) (by kernel_rfl) (by kernel_rfl) (fun _ _ _ _ h => h) rfl hC ⟨_, fun w hw => ex_load1 rfl Tryd.underlying3 rfl rfl (by rw [cell_of_row w _ _ _ _ (0, 0) (hw.getB 3 rfl)]; rfl), fun a1 ha => ?_⟩
      simp only [Act.put, List.setIfInBounds_toArray, List.set_cons_succ, List.set_cons_zero] at ha; subst ha
      refine wt_take 3 rfl (by kernel_rfl) (by kernel_rfl) (by kernel_rfl) (fun _ _ _ _ h => h) rfl hC ⟨.int .i64 ((m : Int) + 1), fun w hw => by (go_simp; first | done | exact wrap_in (by omega) | go_num), fun a1 ha => ?_⟩
      simp only [Act.put, List.setIfInBounds_toArray, List.set_cons_succ, List.set_cons_zero] at ha; subst ha
      refine wt_take 4 rfl (by kernel_rfl) (by kernel_rfl) (by kernel_rfl) (fun _ _ _ _ h => h) rfl hC ⟨_, fun w hw => by (go_simp; try with_reducible rfl), fun a1 ha => ?_⟩
      simp only [Act.put, List.setIfInBounds_toArray, List.set_cons_succ, List.set_cons_zero] at ha; subst ha
      refine wt_one 5 (by kernel_rfl) ?_
      refine wt_callE hs rfl rfl (by go_simp) (PM.out _) (by simp only [Act.put, List.setIfInBounds_toArray, List.set_cons_succ, List.set_cons_zero]; rfl) ?_
      clear hs; intro w1 hs
      refine wt_and (hs.sub (by repeat (first | exact List.Sublist.refl _ | refine List.Sublist.cons_cons _ ?_ | refine List.Sublist.cons _ ?_))) fun hC => ?_
      refine wt_take 6 rfl (by kernel_rfl) (by kernel_rfl) (by kernel_rfl) (fun _ _ _ _ h => h) rfl hC ⟨.int .i64 ((m : Int) + 1 + (u : Nat)), fun w hw => by (go_simp; first | done | exact wrap_in (by omega) | go_num), fun a1 ha => ?_⟩
      simp only [Act.put, List.setIfInBounds_toArray, List.set_cons_succ, List.set_cons_zero] at ha; subst ha
      refine wt_one 7 (by kernel_rfl) ?_
      refine wt_call0 hs rfl rfl (by go_simp) (freei_no _ h4 (Or.inr HU1.out) (hs.get 2 rfl)) (by simp only [Act.put, List.setIfInBounds_toArray, List.set_cons_succ, List.set_cons_zero]; rfl) ?_
      clear hs; intro w1 hs
      refine wt_and (hs.sub (by repeat (first | exact List.Sublist.refl _ | refine List.Sublist.cons_cons _ ?_ | refine List.Sublist.cons _ ?_))) fun hC => ?_
      refine wt_take 8 rfl (by kernel_rfl) (by kernel_rfl) (by kernel_rfl) (fun _ _ _ _ h => h) rfl hC ⟨_, fun w hw => by (go_simp; try with_reducible rfl), fun a1 ha => ?_⟩
      simp only [Act.put, List.setIfInBounds_toArray, List.set_cons_succ, List.set_cons_zero] at ha; subst ha
      refine wt_done (by kernel_rfl) ?_
      skip
      go_upto_region 20 with (first | (go_at_call 22; refine (PM.out _).mono ?_; rintro e w2 ⟨rfl, rfl⟩) | (go_at_call 24; refine (freei_no _ h4 (Or.inl (by omega)) (hs.get 2 rfl)).mono ?_; rintro e w2 ⟨rfl, hc⟩; replace hs := hs.call0 hc; clear hc))
      refine wt_enter 17 rfl hs (by kernel_rfl) ?_
      clear hs; intro w1 hs; have hC := hs
      refine wt_take 0 rfl (by kernel_rfl) (by kernel_rfl) (by kernel_rfl) (fun _ _ _ _ h => h) rfl hC ⟨_, fun w hw => by (go_simp; try with_reducible rfl), fun a1 ha => ?_⟩
      simp only [Act.put, List.setIfInBounds_toArray, List.set_cons_succ, List.set_cons_zero] at ha; subst ha
      refine wt_take 1 rfl (by kernel_rfl) (by kernel_rfl) (by kernel_rfl) (fun _ _ _ _ h => h) rfl hC ⟨_, fun w hw => by (go_simp; try with_reducible rfl), fun a1 ha => ?_⟩
      simp only [Act.put, List.setIfInBounds_toArray, List.set_cons_succ, List.set_cons_zero] at ha; subst ha
      refine wt_take 2 rfl (by kernel_rfl) (by kernel_rfl) (by kernel_rfl) (fun _ _ _ _ h => h) rfl hC ⟨_, fun w hw => by (go_simp; try with_reducible rfl), fun a1 ha => ?_⟩
      simp only [Act.put, List.setIfInBounds_toArray, List.set_cons_succ, List.set_cons_zero] at ha; subst ha
      refine wt_take 4 rfl (by kernel_rfl) (by kernel_rfl) (by kernel_rfl) (fun _ _ _ _ h => h) rfl hC ⟨_, fun w hw => ex_loadAA (cs := #[.int .i64 ((rb : Nat) : Int), .int .i64 1, .int .i64 ((ri : Nat) : Int)]) rfl Tryd.underlying40 rfl size40 rfl (hw.getB 1 rfl), fun a1 ha => ?_⟩
      simp only [Act.put, List.setIfInBounds_toArray, List.set_cons_succ, List.set_cons_zero] at ha; subst ha
      refine wt_one 3 (by kernel_rfl) ?_
      refine wt_call0 hs rfl rfl (by go_simp) (HM.out _ (hs.get 2 rfl)) (by simp only [Act.put, List.setIfInBounds_toArray, List.set_cons_succ, List.set_cons_zero]; rfl) ?_
      clear hs; intro w1 hs
      refine wt_and (hs.sub (by repeat (first | exact List.Sublist.refl _ | refine List.Sublist.cons_cons _ ?_ | refine List.Sublist.cons _ ?_))) fun hC => ?_
      refine wt_take 5 rfl (by kernel_rfl) (by kernel_rfl) (by kernel_rfl) (fun _ _ _ _ h => h) rfl hC ⟨.bool true, fun w hw => by go_simp, fun a1 ha => ?_⟩
      simp only [Act.put, List.setIfInBounds_toArray, List.set_cons_succ, List.set_cons_zero] at ha; subst ha
      refine wt_take 6 rfl (by kernel_rfl) (by kernel_rfl) (by kernel_rfl) (fun _ _ _ _ h => h) rfl hC ⟨_, fun w hw => by (go_simp; try with_reducible rfl), fun a1 ha => ?_⟩
      simp only [Act.put, List.setIfInBounds_toArray, List.set_cons_succ, List.set_cons_zero] at ha; subst ha
      refine wt_take 7 rfl (by kernel_rfl) (by kernel_rfl) (by kernel_rfl) (fun _ _ _ _ h => h) rfl hC ⟨_, fun w hw => by (go_simp; try with_reducible rfl), fun a1 ha => ?_⟩
      simp only [Act.put, List.setIfInBounds_toArray, List.set_cons_succ, List.set_cons_zero] at ha; subst ha
      refine wt_take 8 rfl (by kernel_rfl) (by kernel_rfl) (by kernel_rfl) (fun _ _ _ _ h => h) rfl hC ⟨_, fun w hw => by (go_simp; try with_reducible rfl), fun a1 ha => ?_⟩
      simp only [Act.put, List.setIfInBounds_toArray, List.set_cons_succ, List.set_cons_zero] at ha; subst ha
      refine wt_take 9 rfl (by kernel_rfl) (by kernel_rfl) (by kernel_rfl) (fun _ _ _ _ h => h) rfl hC ⟨_, fun w hw => ex_load1 rfl Tryd.underlying3 rfl rfl (by rw [cell_of_row w _ _ _ _ (0, 0) (hw.getB 1 rfl)]; rfl), fun a1 ha => ?_⟩
      simp only [Act.put, List.setIfInBounds_toArray, List.set_cons_succ, List.set_cons_zero] at ha; subst ha
      refine wt_take 10 rfl (by kernel_rfl) (by kernel_rfl) (by kernel_rfl) (fun _ _ _ _ h => h) rfl hC ⟨_, fun w hw => by (go_simp; try with_reducible rfl), fun a1 ha => ?_⟩
      simp only [Act.put, List.setIfInBounds_toArray, List.set_cons_succ, List.set_cons_zero] at ha; subst ha
      refine wt_take 11 rfl (by kernel_rfl) (by kernel_rfl) (by kernel_rfl) (fun _ _ _ _ h => h) rfl hC ⟨_, fun w hw => by (go_simp; try with_reducible rfl), fun a1 ha => ?_⟩
      simp only [Act.put, List.setIfInBounds_toArray, List.set_cons_succ, List.set_cons_zero] at ha; subst ha
      refine wt_take 12 rfl (by kernel_rfl) (by kernel_rfl) (by kernel_rfl) (fun _ _ _ _ h => h) rfl hC ⟨_, fun w hw => by (go_simp; try with_reducible rfl), fun a1 ha => ?_⟩
      simp only [Act.put, List.setIfInBounds_toArray, List.set_cons_succ, List.set_cons_zero] at ha; subst ha
      refine wt_take 13 rfl (by kernel_rfl) (by kernel_rfl) (by kernel_rfl) (fun _ _ _ _ h => h) rfl hC ⟨_, fun w hw => by (go_simp; try with_reducible rfl), fun a1 ha => ?_⟩
      simp only [Act.put, List.setIfInBounds_toArray, List.set_cons_succ, List.set_cons_zero] at ha; subst ha
      refine wt_one 14 (by kernel_rfl) ?_
      refine wt_call0 hs rfl rfl (by go_simp) (HU2.out _ (hs.get 2 rfl)) (by simp only [Act.put, List.setIfInBounds_toArray, List.set_cons_succ, List.set_cons_zero]; rfl) ?_
      clear hs; intro w1 hs
      refine wt_and (hs.sub (by repeat (first | exact List.Sublist.refl _ | refine List.Sublist.cons_cons _ ?_ | refine List.Sublist.cons _ ?_))) fun hC => ?_
      refine wt_take 15 rfl (by kernel_rfl) (by kernel_rfl) (by kernel_rfl) (fun _ _ _ _ h => h) rfl hC ⟨_, fun w hw => by (go_simp; try with_reducible rfl), fun a1 ha => ?_⟩
      simp only [Act.put, List.setIfInBounds_toArray, List.set_cons_succ, List.set_cons_zero] at ha; subst ha
      refine wt_take 16 rfl (by kernel_rfl) (by kernel_rfl) (by kernel_rfl) (fun _ _ _ _ h => h) rfl hC ⟨_, fun w hw => by (go_simp; try with_reducible rfl), fun a1 ha => ?_⟩
      simp only [Act.put, List.setIfInBounds_toArray, List.set_cons_succ, List.set_cons_zero] at ha; subst ha
      refine wt_done (by kernel_rfl) ?_
      skip
      go_wp2
      go_ret
      exact ⟨rfl, hs.letgo⟩
    · have hp3 : (n : Int) ≤ P := by omega
      go_upto_region 10 with (first | ((with_reducible refine at_load rfl ?_); refine wl_load1 hs rfl rfl Tryd.underlying3 rfl rfl 1 rfl rfl ?_))
      obtain ⟨Z, hZ⟩ : ∃ Z, Z = P := ⟨_, rfl⟩
      have HZ := Lib.hid (inD_out (n := n) (m := m) (b := Z) (Or.inr (by omega)))
      have hZb : -9223372036854775808 ≤ Z ∧ Z ≤ 9223372036854775807 := by omega
      subst hZ
      clear hp1 hp2 hp3
      go_upto_region 11 with (first | (go_at_call 19; refine (HT.out _ (HR.out.keep hs) (hs.get 0 rfl)).mono ?_; rintro e w2 ⟨rfl, hc⟩; replace hs := hs.upd 0 rfl hc; clear hc))
      go_upto_region 12 with (first | (go_at_call 25; refine (HL.out _ (hs.get 0 rfl)).mono ?_; rintro e w2 ⟨rfl, hc⟩; replace hs := hs.upd 0 rfl hc; clear hc))
      go_upto_region 13 with (first | (go_at_call 17; refine (HM.out _ (hs.get 0 rfl)).mono ?_; rintro e w2 ⟨rfl, hc⟩; replace hs := hs.call0 hc; clear hc) | ((with_reducible refine at_alloc rfl ?_); refine wl_allocA hs rfl rfl zero40 ?_; clear hs; intro w1 rbk hs) | ((with_reducible refine at_store rfl ?_); refine wl_storeA hs rfl rfl rfl rfl size40 (by simp [Value.oneCell']) 0 rfl rfl ?_; clear hs; intro w1 hs))
      have HLST : Hid ((#[.int .i64 ((m + 1 : Nat) : Int), .int .i64 Z] : Array Value) = rowOf 2 fun j => .int .i64 (if j = 0 then ((m + 1 : Nat) : Int) else Z)) := Lib.hid (rowOf_ext rfl fun j hj => by (rcases (by omega : j = 0 ∨ j = 1) with rfl | rfl) <;> rfl)
      go_upto_region 14 with (first | ((with_reducible refine at_buildSlice rfl ?_); refine wl_buildSliceV hs rfl rfl Tryd.underlying24 info3 (by omega) (by omega) [.int .i64 ((m + 1 : Nat) : Int), .int .i64 Z] rfl rfl (by simp [Value.oneCell']) ?_; clear hs; intro w1 lb hs) | (go_at_call 26; refine (landed_no 2 2 lb 0 _ (fun j => if j = 0 then ((m + 1 : Nat) : Int) else Z) (by omega) (fun _ => rfl) (by have h0 := hs.getB 0 rfl; rw [HLST.out] at h0; intro j hj; rw [Nat.zero_add, cell_of_row _ lb j _ _ (0, 0) h0, rowOf_get hj]) ⟨1, by omega, HZ.out⟩ (hs.get 2 rfl)).mono ?_; rintro e w2 ⟨rfl, hc⟩; replace hs := hs.call0 hc; clear hc))
      go_upto_region 15 with (first | (go_at_call 25; refine (later_no Z h2 HB2.out (Or.inl HZ.out) hZb (hs.get 2 rfl)).mono ?_; rintro e w2 ⟨rfl, hc⟩; replace hs := hs.call0 hc; clear hc))
      go_upto_region 16 with (first | (go_at_call 25; refine (later_no ((m + 1 : Nat) : Int) h2 HB2.out (Or.inr (by rw [Int.toNat_natCast, HAT.out]; omega)) (by omega) (hs.get 2 rfl)).mono ?_; rintro e w2 ⟨rfl, hc⟩; replace hs := hs.call0 hc; clear hc))
      go_upto_region 17 with (first | (go_at_call 24; refine (freei_no 1 h4 (Or.inl (by omega)) (hs.get 2 rfl)).mono ?_; rintro e w2 ⟨rfl, hc⟩; replace hs := hs.call0 hc; clear hc))
      refine wt_enter 9 rfl hs (by kernel_rfl) ?_
      clear hs; intro w1 hs; have hC := hs
      refine wt_take 0 rfl (by kernel_rfl) (by kernel_rfl) (by kernel_rfl) (fun _ _ _ _ h => h) rfl hC ⟨_, fun w hw => by (go_simp; try with_reducible rfl), fun a1 ha => ?_⟩
      simp only [Act.put, List.setIfInBounds_toArray, List.set_cons_succ, List.set_cons_zero] at ha; subst ha
      refine wt_take 1 rfl (by kernel_rfl) (by kernel_rfl) (by kernel_rfl) (fun _ _ _ _ h => h) rfl hC ⟨_, fun w hw => by (go_simp; try with_reducible rfl), fun a1 ha => ?_⟩
      simp only [Act.put, List.setIfInBounds_toArray, List.set_cons_succ, List.set_cons_zero] at ha; subst ha
      refine wt_take 2 rfl (by kernel_rfl) (by kernel_rfl) (by kernel_rfl) (fun _ _ _ _ h => h) rfl hC ⟨_, fun w hw => ex_load1 rfl Tryd.underlying3 rfl rfl (by rw [cell_of_row w _ _ _ _ (0, 0) (hw.getB 3 rfl)]; rfl), fun a1 ha => ?_⟩
      simp only [Act.put, List.setIfInBounds_toArray, List.set_cons_succ, List.set_cons_zero] at ha; subst ha
      refine wt_take 3 rfl (by kernel_rfl) (by kernel_rfl) (by kernel_rfl) (fun _ _ _ _ h => h) rfl hC ⟨.int .i64 ((m : Int) + 1), fun w hw => by (go_simp; first | done | exact wrap_in (by omega) | go_num), fun a1 ha => ?_⟩
      simp only [Act.put, List.setIfInBounds_toArray, List.set_cons_succ, List.set_cons_zero] at ha; subst ha
      refine wt_take 4 rfl (by kernel_rfl) (by kernel_rfl) (by kernel_rfl) (fun _ _ _ _ h => h) rfl hC ⟨_, fun w hw => by (go_simp; try with_reducible rfl), fun a1 ha => ?_⟩
      simp only [Act.put, List.setIfInBounds_toArray, List.set_cons_succ, List.set_cons_zero] at ha; subst ha
      refine wt_one 5 (by kernel_rfl) ?_
      refine wt_callE hs rfl rfl (by go_simp) (PM.out _) (by simp only [Act.put, List.setIfInBounds_toArray, List.set_cons_succ, List.set_cons_zero]; rfl) ?_
      clear hs; intro w1 hs
      refine wt_and (hs.sub (by repeat (first | exact List.Sublist.refl _ | refine List.Sublist.cons_cons _ ?_ | refine List.Sublist.cons _ ?_))) fun hC => ?_
      refine wt_take 6 rfl (by kernel_rfl) (by kernel_rfl) (by kernel_rfl) (fun _ _ _ _ h => h) rfl hC ⟨.int .i64 ((m : Int) + 1 + (u : Nat)), fun w hw => by (go_simp; first | done | exact wrap_in (by omega) | go_num), fun a1 ha => ?_⟩
      simp only [Act.put, List.setIfInBounds_toArray, List.set_cons_succ, List.set_cons_zero] at ha; subst ha
      refine wt_one 7 (by kernel_rfl) ?_
      refine wt_call0 hs rfl rfl (by go_simp) (freei_no _ h4 (Or.inr HU1.out) (hs.get 2 rfl)) (by simp only [Act.put, List.setIfInBounds_toArray, List.set_cons_succ, List.set_cons_zero]; rfl) ?_
      clear hs; intro w1 hs
      refine wt_and (hs.sub (by repeat (first | exact List.Sublist.refl _ | refine List.Sublist.cons_cons _ ?_ | refine List.Sublist.cons _ ?_))) fun hC => ?_
      refine wt_take 8 rfl (by kernel_rfl) (by kernel_rfl) (by kernel_rfl) (fun _ _ _ _ h => h) rfl hC ⟨_, fun w hw => by (go_simp; try with_reducible rfl), fun a1 ha => ?_⟩
      simp only [Act.put, List.setIfInBounds_toArray, List.set_cons_succ, List.set_cons_zero] at ha; subst ha
      refine wt_done (by kernel_rfl) ?_
      skip
      go_upto_region 20 with (first | (go_at_call 22; refine (PM.out _).mono ?_; rintro e w2 ⟨rfl, rfl⟩) | (go_at_call 24; refine (freei_no _ h4 (Or.inl (by omega)) (hs.get 2 rfl)).mono ?_; rintro e w2 ⟨rfl, hc⟩; replace hs := hs.call0 hc; clear hc))
      refine wt_enter 17 rfl hs (by kernel_rfl) ?_
      clear hs; intro w1 hs; have hC := hs
      refine wt_take 0 rfl (by kernel_rfl) (by kernel_rfl) (by kernel_rfl) (fun _ _ _ _ h => h) rfl hC ⟨_, fun w hw => by (go_simp; try with_reducible rfl), fun a1 ha => ?_⟩
      simp only [Act.put, List.setIfInBounds_toArray, List.set_cons_succ, List.set_cons_zero] at ha; subst ha
      refine wt_take 1 rfl (by kernel_rfl) (by kernel_rfl) (by kernel_rfl) (fun _ _ _ _ h => h) rfl hC ⟨_, fun w hw => by (go_simp; try with_reducible rfl), fun a1 ha => ?_⟩
      simp only [Act.put, List.setIfInBounds_toArray, List.set_cons_succ, List.set_cons_zero] at ha; subst ha
      refine wt_take 2 rfl (by kernel_rfl) (by kernel_rfl) (by kernel_rfl) (fun _ _ _ _ h => h) rfl hC ⟨_, fun w hw => by (go_simp; try with_reducible rfl), fun a1 ha => ?_⟩
      simp only [Act.put, List.setIfInBounds_toArray, List.set_cons_succ, List.set_cons_zero] at ha; subst ha
      refine wt_take 4 rfl (by kernel_rfl) (by kernel_rfl) (by kernel_rfl) (fun _ _ _ _ h => h) rfl hC ⟨_, fun w hw => ex_loadAA (cs := #[.int .i64 ((rb : Nat) : Int), .int .i64 1, .int .i64 ((ri : Nat) : Int)]) rfl Tryd.underlying40 rfl size40 rfl (hw.getB 1 rfl), fun a1 ha => ?_⟩
      simp only [Act.put, List.setIfInBounds_toArray, List.set_cons_succ, List.set_cons_zero] at ha; subst ha
      refine wt_one 3 (by kernel_rfl) ?_
      refine wt_call0 hs rfl rfl (by go_simp) (HM.out _ (hs.get 2 rfl)) (by simp only [Act.put, List.setIfInBounds_toArray, List.set_cons_succ, List.set_cons_zero]; rfl) ?_
      clear hs; intro w1 hs
      refine wt_and (hs.sub (by repeat (first | exact List.Sublist.refl _ | refine List.Sublist.cons_cons _ ?_ | refine List.Sublist.cons _ ?_))) fun hC => ?_
      refine wt_take 5 rfl (by kernel_rfl) (by kernel_rfl) (by kernel_rfl) (fun _ _ _ _ h => h) rfl hC ⟨.bool true, fun w hw => by go_simp, fun a1 ha => ?_⟩
      simp only [Act.put, List.setIfInBounds_toArray, List.set_cons_succ, List.set_cons_zero] at ha; subst ha
      refine wt_take 6 rfl (by kernel_rfl) (by kernel_rfl) (by kernel_rfl) (fun _ _ _ _ h => h) rfl hC ⟨_, fun w hw => by (go_simp; try with_reducible rfl), fun a1 ha => ?_⟩
      simp only [Act.put, List.setIfInBounds_toArray, List.set_cons_succ, List.set_cons_zero] at ha; subst ha
      refine wt_take 7 rfl (by kernel_rfl) (by kernel_rfl) (by kernel_rfl) (fun _ _ _ _ h => h) rfl hC ⟨_, fun w hw => by (go_simp; try with_reducible rfl), fun a1 ha => ?_⟩
      simp only [Act.put, List.setIfInBounds_toArray, List.set_cons_succ, List.set_cons_zero] at ha; subst ha
      refine wt_take 8 rfl (by kernel_rfl) (by kernel_rfl) (by kernel_rfl) (fun _ _ _ _ h => h) rfl hC ⟨_, fun w hw => by (go_simp; try with_reducible rfl), fun a1 ha => ?_⟩
      simp only [Act.put, List.setIfInBounds_toArray, List.set_cons_succ, List.set_cons_zero] at ha; subst ha
      refine wt_take 9 rfl (by kernel_rfl) (by kernel_rfl) (by kernel_rfl) (fun _ _ _ _ h => h) rfl hC ⟨_, fun w hw => ex_load1 rfl Tryd.underlying3 rfl rfl (by rw [cell_of_row w _ _ _ _ (0, 0) (hw.getB 1 rfl)]; rfl), fun a1 ha => ?_⟩
      simp only [Act.put, List.setIfInBounds_toArray, List.set_cons_succ, List.set_cons_zero] at ha; subst ha
      refine wt_take 10 rfl (by kernel_rfl) (by kernel_rfl) (by kernel_rfl) (fun _ _ _ _ h => h) rfl hC ⟨_, fun w hw => by (go_simp; try with_reducible rfl), fun a1 ha => ?_⟩
      simp only [Act.put, List.setIfInBounds_toArray, List.set_cons_succ, List.set_cons_zero] at ha; subst ha
      refine wt_take 11 rfl (by kernel_rfl) (by kernel_rfl) (by kernel_rfl) (fun _ _ _ _ h => h) rfl hC ⟨_, fun w hw => by (go_simp; try with_reducible rfl), fun a1 ha => ?_⟩
      simp only [Act.put, List.setIfInBounds_toArray, List.set_cons_succ, List.set_cons_zero] at ha; subst ha
      refine wt_take 12 rfl (by kernel_rfl) (by kernel_rfl) (by kernel_rfl) (fun _ _ _ _ h => h) rfl hC ⟨_, fun w hw => by (go_simp; try with_reducible rfl), fun a1 ha => ?_⟩
      simp only [Act.put, List.setIfInBounds_toArray, List.set_cons_succ, List.set_cons_zero] at ha; subst ha
      refine wt_take 13 rfl (by kernel_rfl) (by kernel_rfl) (by kernel_rfl) (fun _ _ _ _ h => h) rfl hC ⟨_, fun w hw => by (go_simp; try with_reducible rfl), fun a1 ha => ?_⟩
      simp only [Act.put, List.setIfInBounds_toArray, List.set_cons_succ, List.set_cons_zero] at ha; subst ha
      refine wt_one 14 (by kernel_rfl) ?_
      refine wt_call0 hs rfl rfl (by go_simp) (HU2.out _ (hs.get 2 rfl)) (by simp only [Act.put, List.setIfInBounds_toArray, List.set_cons_succ, List.set_cons_zero]; rfl) ?_
      clear hs; intro w1 hs
      refine wt_and (hs.sub (by repeat (first | exact List.Sublist.refl _ | refine List.Sublist.cons_cons _ ?_ | refine List.Sublist.cons _ ?_))) fun hC => ?_
      refine wt_take 15 rfl (by kernel_rfl) (by kernel_rfl) (by kernel_rfl) (fun _ _ _ _ h => h) rfl hC ⟨_, fun w hw => by (go_simp; try with_reducible rfl), fun a1 ha => ?_⟩
      simp only [Act.put, List.setIfInBounds_toArray, List.set_cons_succ, List.set_cons_zero] at ha; subst ha
      refine wt_take 16 rfl (by kernel_rfl) (by kernel_rfl) (by kernel_rfl) (fun _ _ _ _ h => h) rfl hC ⟨_, fun w hw => by (go_simp; try with_reducible rfl), fun a1 ha => ?_⟩
      simp only [Act.put, List.setIfInBounds_toArray, List.set_cons_succ, List.set_cons_zero] at ha; subst ha
      refine wt_done (by kernel_rfl) ?_
      skip
      go_wp2
      go_ret
      exact ⟨rfl, hs.letgo⟩
  · have hp3 : P ≤ (m : Int) := by omega
    go_upto_region 10 with (first | ((with_reducible refine at_load rfl ?_); refine wl_load1 hs rfl rfl Tryd.underlying3 rfl rfl 1 rfl rfl ?_))
    obtain ⟨Z, hZ⟩ : ∃ Z, Z = P := ⟨_, rfl⟩
    have HZ := Lib.hid (inD_out (n := n) (m := m) (b := Z) (Or.inl (by omega)))
    have hZb : -9223372036854775808 ≤ Z ∧ Z ≤ 9223372036854775807 := by omega
    subst hZ
    clear hp1 hp3
    go_upto_region 11 with (first | (go_at_call 19; refine (HT.out _ (HR.out.keep hs) (hs.get 0 rfl)).mono ?_; rintro e w2 ⟨rfl, hc⟩; replace hs := hs.upd 0 rfl hc; clear hc))
    go_upto_region 12 with (first | (go_at_call 25; refine (HL.out _ (hs.get 0 rfl)).mono ?_; rintro e w2 ⟨rfl, hc⟩; replace hs := hs.upd 0 rfl hc; clear hc))
    go_upto_region 13 with (first | (go_at_call 17; refine (HM.out _ (hs.get 0 rfl)).mono ?_; rintro e w2 ⟨rfl, hc⟩; replace hs := hs.call0 hc; clear hc) | ((with_reducible refine at_alloc rfl ?_); refine wl_allocA hs rfl rfl zero40 ?_; clear hs; intro w1 rbk hs) | ((with_reducible refine at_store rfl ?_); refine wl_storeA hs rfl rfl rfl rfl size40 (by simp [Value.oneCell']) 0 rfl rfl ?_; clear hs; intro w1 hs))
    have HLST : Hid ((#[.int .i64 ((m + 1 : Nat) : Int), .int .i64 Z] : Array Value) = rowOf 2 fun j => .int .i64 (if j = 0 then ((m + 1 : Nat) : Int) else Z)) := Lib.hid (rowOf_ext rfl fun j hj => by (rcases (by omega : j = 0 ∨ j = 1) with rfl | rfl) <;> rfl)
    go_upto_region 14 with (first | ((with_reducible refine at_buildSlice rfl ?_); refine wl_buildSliceV hs rfl rfl Tryd.underlying24 info3 (by omega) (by omega) [.int .i64 ((m + 1 : Nat) : Int), .int .i64 Z] rfl rfl (by simp [Value.oneCell']) ?_; clear hs; intro w1 lb hs) | (go_at_call 26; refine (landed_no 2 2 lb 0 _ (fun j => if j = 0 then ((m + 1 : Nat) : Int) else Z) (by omega) (fun _ => rfl) (by have h0 := hs.getB 0 rfl; rw [HLST.out] at h0; intro j hj; rw [Nat.zero_add, cell_of_row _ lb j _ _ (0, 0) h0, rowOf_get hj]) ⟨1, by omega, HZ.out⟩ (hs.get 2 rfl)).mono ?_; rintro e w2 ⟨rfl, hc⟩; replace hs := hs.call0 hc; clear hc))
    go_upto_region 15 with (first | (go_at_call 25; refine (later_no Z h2 HB2.out (Or.inl HZ.out) hZb (hs.get 2 rfl)).mono ?_; rintro e w2 ⟨rfl, hc⟩; replace hs := hs.call0 hc; clear hc))
    go_upto_region 16 with (first | (go_at_call 25; refine (later_no ((m + 1 : Nat) : Int) h2 HB2.out (Or.inr (by rw [Int.toNat_natCast, HAT.out]; omega)) (by omega) (hs.get 2 rfl)).mono ?_; rintro e w2 ⟨rfl, hc⟩; replace hs := hs.call0 hc; clear hc))
    go_upto_region 17 with (first | (go_at_call 24; refine (freei_no 1 h4 (Or.inl (by omega)) (hs.get 2 rfl)).mono ?_; rintro e w2 ⟨rfl, hc⟩; replace hs := hs.call0 hc; clear hc))
    refine wt_enter 9 rfl hs (by kernel_rfl) ?_
    clear hs; intro w1 hs; have hC := hs
    refine wt_take 0 rfl (by kernel_rfl) (by kernel_rfl) (by kernel_rfl) (fun _ _ _ _ h => h) rfl hC ⟨_, fun w hw => by (go_simp; try with_reducible rfl), fun a1 ha => ?_⟩
    simp only [Act.put, List.setIfInBounds_toArray, List.set_cons_succ, List.set_cons_zero] at ha; subst ha
    refine wt_take 1 rfl (by kernel_rfl) (by kernel_rfl) (by kernel_rfl) (fun _ _ _ _ h => h) rfl hC ⟨_, fun w hw => by (go_simp; try with_reducible rfl), fun a1 ha => ?_⟩
    simp only [Act.put, List.setIfInBounds_toArray, List.set_cons_succ, List.set_cons_zero] at ha; subst ha
    refine wt_take 2 rfl (by kernel_rfl) (by kernel_rfl) (by kernel_rfl) (fun _ _ _ _ h => h) rfl hC ⟨_, fun w hw => ex_load1 rfl Tryd.underlying3 rfl rfl (by rw [cell_of_row w _ _ _ _ (0, 0) (hw.getB 3 rfl)]; rfl), fun a1 ha => ?_⟩
    simp only [Act.put, List.setIfInBounds_toArray, List.set_cons_succ, List.set_cons_zero] at ha; subst ha
    refine wt_take 3 rfl (by kernel_rfl) (by kernel_rfl) (by kernel_rfl) (fun _ _ _ _ h => h) rfl hC ⟨.int .i64 ((m : Int) + 1), fun w hw => by (go_simp; first | done | exact wrap_in (by omega) | go_num), fun a1 ha => ?_⟩
    simp only [Act.put, List.setIfInBounds_toArray, List.set_cons_succ, List.set_cons_zero] at ha; subst ha
    refine wt_take 4 rfl (by kernel_rfl) (by kernel_rfl) (by kernel_rfl) (fun _ _ _ _ h => h) rfl hC ⟨_, fun w hw => by (go_simp; try with_reducible rfl), fun a1 ha => ?_⟩
    simp only [Act.put, List.setIfInBounds_toArray, List.set_cons_succ, List.set_cons_zero] at ha; subst ha
    refine wt_one 5 (by kernel_rfl) ?_
    refine wt_callE hs rfl rfl (by go_simp) (PM.out _) (by simp only [Act.put, List.setIfInBounds_toArray, List.set_cons_succ, List.set_cons_zero]; rfl) ?_
    clear hs; intro w1 hs
    refine wt_and (hs.sub (by repeat (first | exact List.Sublist.refl _ | refine List.Sublist.cons_cons _ ?_ | refine List.Sublist.cons _ ?_))) fun hC => ?_
    refine wt_take 6 rfl (by kernel_rfl) (by kernel_rfl) (by kernel_rfl) (fun _ _ _ _ h => h) rfl hC ⟨.int .i64 ((m : Int) + 1 + (u : Nat)), fun w hw => by (go_simp; first | done | exact wrap_in (by omega) | go_num), fun a1 ha => ?_⟩
    simp only [Act.put, List.setIfInBounds_toArray, List.set_cons_succ, List.set_cons_zero] at ha; subst ha
    refine wt_one 7 (by kernel_rfl) ?_
    refine wt_call0 hs rfl rfl (by go_simp) (freei_no _ h4 (Or.inr HU1.out) (hs.get 2 rfl)) (by simp only [Act.put, List.setIfInBounds_toArray, List.set_cons_succ, List.set_cons_zero]; rfl) ?_
    clear hs; intro w1 hs
    refine wt_and (hs.sub (by repeat (first | exact List.Sublist.refl _ | refine List.Sublist.cons_cons _ ?_ | refine List.Sublist.cons _ ?_))) fun hC => ?_
    refine wt_take 8 rfl (by kernel_rfl) (by kernel_rfl) (by kernel_rfl) (fun _ _ _ _ h => h) rfl hC ⟨_, fun w hw => by (go_simp; try with_reducible rfl), fun a1 ha => ?_⟩
    simp only [Act.put, List.setIfInBounds_toArray, List.set_cons_succ, List.set_cons_zero] at ha; subst ha
    refine wt_done (by kernel_rfl) ?_
    skip
    go_upto_region 20 with (first | (go_at_call 22; refine (PM.out _).mono ?_; rintro e w2 ⟨rfl, rfl⟩) | (go_at_call 24; refine (freei_no _ h4 (Or.inl (by omega)) (hs.get 2 rfl)).mono ?_; rintro e w2 ⟨rfl, hc⟩; replace hs := hs.call0 hc; clear hc))
    refine wt_enter 17 rfl hs (by kernel_rfl) ?_
    clear hs; intro w1 hs; have hC := hs
    refine wt_take 0 rfl (by kernel_rfl) (by kernel_rfl) (by kernel_rfl) (fun _ _ _ _ h => h) rfl hC ⟨_, fun w hw => by (go_simp; try with_reducible rfl), fun a1 ha => ?_⟩
    simp only [Act.put, List.setIfInBounds_toArray, List.set_cons_succ, List.set_cons_zero] at ha; subst ha
    refine wt_take 1 rfl (by kernel_rfl) (by kernel_rfl) (by kernel_rfl) (fun _ _ _ _ h => h) rfl hC ⟨_, fun w hw => by (go_simp; try with_reducible rfl), fun a1 ha => ?_⟩
    simp only [Act.put, List.setIfInBounds_toArray, List.set_cons_succ, List.set_cons_zero] at ha; subst ha
    refine wt_take 2 rfl (by kernel_rfl) (by kernel_rfl) (by kernel_rfl) (fun _ _ _ _ h => h) rfl hC ⟨_, fun w hw => by (go_simp; try with_reducible rfl), fun a1 ha => ?_⟩
    simp only [Act.put, List.setIfInBounds_toArray, List.set_cons_succ, List.set_cons_zero] at ha; subst ha
    refine wt_take 4 rfl (by kernel_rfl) (by kernel_rfl) (by kernel_rfl) (fun _ _ _ _ h => h) rfl hC ⟨_, fun w hw => ex_loadAA (cs := #[.int .i64 ((rb : Nat) : Int), .int .i64 1, .int .i64 ((ri : Nat) : Int)]) rfl Tryd.underlying40 rfl size40 rfl (hw.getB 1 rfl), fun a1 ha => ?_⟩
    simp only [Act.put, List.setIfInBounds_toArray, List.set_cons_succ, List.set_cons_zero] at ha; subst ha
    refine wt_one 3 (by kernel_rfl) ?_
    refine wt_call0 hs rfl rfl (by go_simp) (HM.out _ (hs.get 2 rfl)) (by simp only [Act.put, List.setIfInBounds_toArray, List.set_cons_succ, List.set_cons_zero]; rfl) ?_
    clear hs; intro w1 hs
    refine wt_and (hs.sub (by repeat (first | exact List.Sublist.refl _ | refine List.Sublist.cons_cons _ ?_ | refine List.Sublist.cons _ ?_))) fun hC => ?_
    refine wt_take 5 rfl (by kernel_rfl) (by kernel_rfl) (by kernel_rfl) (fun _ _ _ _ h => h) rfl hC ⟨.bool true, fun w hw => by go_simp, fun a1 ha => ?_⟩
    simp only [Act.put, List.setIfInBounds_toArray, List.set_cons_succ, List.set_cons_zero] at ha; subst ha
    refine wt_take 6 rfl (by kernel_rfl) (by kernel_rfl) (by kernel_rfl) (fun _ _ _ _ h => h) rfl hC ⟨_, fun w hw => by (go_simp; try with_reducible rfl), fun a1 ha => ?_⟩
    simp only [Act.put, List.setIfInBounds_toArray, List.set_cons_succ, List.set_cons_zero] at ha; subst ha
    refine wt_take 7 rfl (by kernel_rfl) (by kernel_rfl) (by kernel_rfl) (fun _ _ _ _ h => h) rfl hC ⟨_, fun w hw => by (go_simp; try with_reducible rfl), fun a1 ha => ?_⟩
    simp only [Act.put, List.setIfInBounds_toArray, List.set_cons_succ, List.set_cons_zero] at ha; subst ha
    refine wt_take 8 rfl (by kernel_rfl) (by kernel_rfl) (by kernel_rfl) (fun _ _ _ _ h => h) rfl hC ⟨_, fun w hw => by (go_simp; try with_reducible rfl), fun a1 ha => ?_⟩
    simp only [Act.put, List.setIfInBounds_toArray, List.set_cons_succ, List.set_cons_zero] at ha; subst ha
    refine wt_take 9 rfl (by kernel_rfl) (by kernel_rfl) (by kernel_rfl) (fun _ _ _ _ h => h) rfl hC ⟨_, fun w hw => ex_load1 rfl Tryd.underlying3 rfl rfl (by rw [cell_of_row w _ _ _ _ (0, 0) (hw.getB 1 rfl)]; rfl), fun a1 ha => ?_⟩
    simp only [Act.put, List.setIfInBounds_toArray, List.set_cons_succ, List.set_cons_zero] at ha; subst ha
    refine wt_take 10 rfl (by kernel_rfl) (by kernel_rfl) (by kernel_rfl) (fun _ _ _ _ h => h) rfl hC ⟨_, fun w hw => by (go_simp; try with_reducible rfl), fun a1 ha => ?_⟩
    simp only [Act.put, List.setIfInBounds_toArray, List.set_cons_succ, List.set_cons_zero] at ha; subst ha
    refine wt_take 11 rfl (by kernel_rfl) (by kernel_rfl) (by kernel_rfl) (fun _ _ _ _ h => h) rfl hC ⟨_, fun w hw => by (go_simp; try with_reducible rfl), fun a1 ha => ?_⟩
    simp only [Act.put, List.setIfInBounds_toArray, List.set_cons_succ, List.set_cons_zero] at ha; subst ha
    refine wt_take 12 rfl (by kernel_rfl) (by kernel_rfl) (by kernel_rfl) (fun _ _ _ _ h => h) rfl hC ⟨_, fun w hw => by (go_simp; try with_reducible rfl), fun a1 ha => ?_⟩
    simp only [Act.put, List.setIfInBounds_toArray, List.set_cons_succ, List.set_cons_zero] at ha; subst ha
    refine wt_take 13 rfl (by kernel_rfl) (by kernel_rfl) (by kernel_rfl) (fun _ _ _ _ h => h) rfl hC ⟨_, fun w hw => by (go_simp; try with_reducible rfl), fun a1 ha => ?_⟩
    simp only [Act.put, List.setIfInBounds_toArray, List.set_cons_succ, List.set_cons_zero] at ha; subst ha
    refine wt_one 14 (by kernel_rfl) ?_
    refine wt_call0 hs rfl rfl (by go_simp) (HU2.out _ (hs.get 2 rfl)) (by simp only [Act.put, List.setIfInBounds_toArray, List.set_cons_succ, List.set_cons_zero]; rfl) ?_
    clear hs; intro w1 hs
    refine wt_and (hs.sub (by repeat (first | exact List.Sublist.refl _ | refine List.Sublist.cons_cons _ ?_ | refine List.Sublist.cons _ ?_))) fun hC => ?_
    refine wt_take 15 rfl (by kernel_rfl) (by kernel_rfl) (by kernel_rfl) (fun _ _ _ _ h => h) rfl hC ⟨_, fun w hw => by (go_simp; try with_reducible rfl), fun a1 ha => ?_⟩
    simp only [Act.put, List.setIfInBounds_toArray, List.set_cons_succ, List.set_cons_zero] at ha; subst ha
    refine wt_take 16 rfl (by kernel_rfl) (by kernel_rfl) (by kernel_rfl) (fun _ _ _ _ h => h) rfl hC ⟨_, fun w hw => by (go_simp; try with_reducible rfl), fun a1 ha => ?_⟩
    simp only [Act.put, List.setIfInBounds_toArray, List.set_cons_succ, List.set_cons_zero] at ha; subst ha
    refine wt_done (by kernel_rfl) ?_
    skip
    go_wp2
    go_ret
    exact ⟨rfl, hs.letgo⟩
theorem refused_walk (x0 x1 P x3 : Int) (w : World) (h0 : -9223372036854775808 ≤ x0 ∧ x0 ≤ 9223372036854775807) (h1 : -9223372036854775808 ≤ x1 ∧ x1 ≤ 9223372036854775807)
    (hP : -9223372036854775808 ≤ P ∧ P ≤ 9223372036854775807) (h3 : -9223372036854775808 ≤ x3 ∧ x3 ≤ 9223372036854775807) (hR : Rd w 0 0 64 tabV) :
    Calls Tryd.prog 8 #[.agg #[.int .i64 x0, .int .i64 x1, .int .i64 P, .int .i64 x3]] w fun e w' => e = .returned (.bool true) ∧ Below w.heap.size w w' := by
  obtain ⟨n, m, hmay, HS⟩ := super_any x0 x1 h0 h1
  obtain ⟨t, hp, ht⟩ : ∃ t : Nat, pick P ((m : Int) + 1) = (t : Int) ∧ t ≤ m := ⟨(pick P ((m : Int) + 1)).toNat, by have := pick_bd P ((m : Int) + 1) (by omega); omega, by have := pick_bd P ((m : Int) + 1) (by omega); omega⟩
  have PP := Lib.hid (fun w => pick_any P ((m : Int) + 1) w (by omega) (by omega) hP.1 hP.2)
  rw [hp] at PP
  obtain ⟨u, hq, hu⟩ : ∃ u : Nat, pick x3 1000 = (u : Int) ∧ u < 1000 := ⟨(pick x3 1000).toNat, by have := pick_bd x3 1000 (by omega); omega, by have := pick_bd x3 1000 (by omega); omega⟩
  have PM := Lib.hid (fun w => pick_any x3 1000 w (by omega) (by omega) h3.1 h3.2)
  rw [hq] at PM
  exact (refused_core n m t u x0 x1 P x3 w hmay (Lib.hid HS) PP ht PM hu hP hR).mono fun e w' ⟨he, ht⟩ => ⟨he, ht.below⟩
end Go.Proofs.YtfedfdcbhggipaaDoor
