/- SpaceInodes: the walk. -/
import Derived.Test.YtfedfdcbhggipaaDoorWRefused
namespace Go.Proofs.YtfedfdcbhggipaaDoor
set_option linter.unusedVariables false
set_option linter.unusedSimpArgs false
open Go Go.Sp Go.RowKit Go.BigFrame

/-- which inodes are in use, as a row of truths. -/
def uI (m : Nat) (I : Nat → Bool) : Nat → Value := fun j => .bool (usedI m I (j : Int))
theorem usedI_nat {m j : Nat} {I : Nat → Bool} : usedI m I (j : Int) = (decide (1 ≤ j) && decide (j ≤ m) && I j) := by
  simp only [usedI, Int.toNat_natCast]
  by_cases h1 : 1 ≤ j
  · by_cases h2 : j ≤ m
    · rw [if_pos ⟨by omega, by omega⟩, decide_eq_true h1, decide_eq_true h2]; rfl
    · rw [if_neg (by omega), decide_eq_false h2]; simp
  · rw [if_neg (by omega), decide_eq_false h1]; rfl
theorem uI_at {m j N : Nat} {I : Nat → Bool} (h : j < N) {b : Bool} (hb : usedI m I (j : Int) = b) : (rowOf N (uI m I))[j]? = some (.bool b) := by
  rw [rowOf_get h, uI, hb]
theorem uI_upd {m r N : Nat} {I : Nat → Bool} (h1 : 1 ≤ r) (h2 : r ≤ m) (b : Bool) : ∀ j, j < N → (if j = r then .bool b else uI m I j) = uI m (updP I r b) j := by
  intro j _
  simp only [uI, usedI_nat, updP]
  by_cases h : j = r
  · subst h; rw [if_pos rfl, if_pos rfl, decide_eq_true h1, decide_eq_true h2]; rfl
  · rw [if_neg h, if_neg h]
theorem zmakeI (m0 i : Nat) (_ : i < m0) : (Value.bool false).cells[i % (Value.bool false).cells.size]! = (fun _ => Value.bool false) i := by
  have e : i % (Value.bool false).cells.size = 0 := Nat.mod_one i
  rw [e]; rfl
theorem uI_one {m N : Nat} (hm : 1 ≤ m) : ∀ j, j < N → (if j = 1 then Value.bool true else .bool false) = uI m I0 j := by
  intro j _
  simp only [uI, usedI_nat, I0, updP]
  by_cases h : j = 1
  · subst h; rw [if_pos rfl, if_pos rfl, decide_eq_true hm]; rfl
  · rw [if_neg h, if_neg h]; simp
theorem left_I0 : ∀ j, cntP (rI I0) (j + 2) = j
  | 0 => by decide
  | j + 1 => by
    show cntP (rI I0) (j + 2) + (rI I0 (j + 2)).toNat = j + 1
    rw [left_I0 j]; simp [rI, I0, updP]
theorem rI_upd {I : Nat → Bool} {r : Nat} (h : 1 ≤ r) (b : Bool) : rI (updP I r b) = updP (rI I) r (!b) := by
  funext j
  simp only [rI, updP]
  by_cases hj : j = r
  · subst hj; rw [if_pos rfl, if_pos rfl, decide_eq_true h]; rfl
  · rw [if_neg hj, if_neg hj]
theorem left_take {I : Nat → Bool} {r m : Nat} (h : 1 ≤ r) (hr : r ≤ m) (h0 : I r = false) : cntP (rI I) (m + 1) = cntP (rI (updP I r true)) (m + 1) + 1 := by
  have := cntP_upd (rI I) r false (m + 1)
  rw [if_pos (by omega), if_pos (by omega), show rI I r = true by rw [rI, decide_eq_true h, h0]; rfl] at this
  rw [rI_upd h]; simpa using this.symm
theorem left_free {I : Nat → Bool} {r m : Nat} (h : 1 ≤ r) (hr : r ≤ m) (h0 : I r = true) : cntP (rI (updP I r false)) (m + 1) = cntP (rI I) (m + 1) + 1 := by
  have := cntP_upd (rI I) r true (m + 1)
  rw [if_pos (by omega), if_pos (by omega), show rI I r = false by rw [rI, h0]; simp] at this
  rw [rI_upd h]; simpa using this
theorem least_ex (m : Nat) (hm : 1 ≤ m) (I : Nat → Bool) (h1 : I 1 = true) : ∃ R, 2 ≤ R ∧ R ≤ m + 1 ∧ (∀ j, 1 ≤ j → j < R → I j = true) ∧ (R ≤ m → I R = false) := by
  rcases freeI_ex m I with ⟨r, a, b, c, d⟩ | h
  · refine ⟨r, ?_, by omega, d, fun _ => c⟩
    by_cases e : r = 1
    · subst e; rw [h1] at c; cases c
    · omega
  · exact ⟨m + 1, by omega, Nat.le_refl _, fun j a b => h j a (by omega), fun e => by omega⟩
theorem tdiv_bd (x k : Int) (hk : 1 ≤ k) (h : -9223372036854775808 ≤ x ∧ x ≤ 9223372036854775807) : -9223372036854775808 ≤ x.tdiv k ∧ x.tdiv k ≤ 9223372036854775807 := by
  rcases Int.le_total 0 x with hx | hx
  · rw [Int.tdiv_eq_ediv_of_nonneg hx]
    have h1 := Int.ediv_nonneg hx (show 0 ≤ k by omega)
    have h2 := Int.ediv_le_self k hx
    omega
  · obtain ⟨y, rfl⟩ : ∃ y, x = -y := ⟨-x, by omega⟩
    rw [Int.neg_tdiv, Int.tdiv_eq_ediv_of_nonneg (by omega)]
    have h1 := Int.ediv_nonneg (show 0 ≤ y by omega) (show 0 ≤ k by omega)
    have h2 := Int.ediv_le_self k (show 0 ≤ y by omega)
    omega
theorem pick_nat (x : Int) (N : Nat) (hN : 1 ≤ N) (hb : N ≤ 9223372036854775807) (h : -9223372036854775808 ≤ x ∧ x ≤ 9223372036854775807) (N' : Int) (hN' : N' = N) : ∃ t : Nat, t < N ∧
    Hid (∀ w, Calls Tryd.prog 22 #[.int .i64 x, .int .i64 N'] w fun e w' => e = .returned (.int .i64 t) ∧ w = w') := by
  subst hN'
  have hp := pick_bd x N (by omega)
  refine ⟨(pick x N).toNat, by omega, Lib.hid fun w => ?_⟩
  have := pick_any x N w (by omega) (by omega) h.1 h.2
  rw [show pick x N = ((pick x N).toNat : Int) by omega] at this
  exact this

theorem field40_0 (a b c : Value) (w : World) : (Sem.run Tryd.prog (Instr.field 40 (.agg #[a, b, c]) 0) w) = .ok a w := by
  simp [Instr.field, run_underlying Tryd.underlying40, part, asAgg]
theorem field40_1 (a b c : Value) (w : World) : (Sem.run Tryd.prog (Instr.field 40 (.agg #[a, b, c]) 1) w) = .ok b w := by
  simp [Instr.field, run_underlying Tryd.underlying40, part, asAgg]
theorem field40_2 (a b c : Value) (w : World) : (Sem.run Tryd.prog (Instr.field 40 (.agg #[a, b, c]) 2) w) = .ok c w := by
  simp [Instr.field, run_underlying Tryd.underlying40, part, asAgg]
@[reducible] noncomputable def inoL (ub p b bs i is q xb n m : Nat) (I : Nat → Bool) : List Res :=
  [Res.blk ub (rowOf (m + 2) (uI m I)) 4, spaceR p b bs i is q n m B0 I, Res.blk xb #[.int .i64 n, .int .i64 m] 23]
theorem B0_two : ∀ j, B0 j ≤ 2 := fun _ => Nat.zero_le _

set_option maxRecDepth 100000 in
set_option maxHeartbeats 8000000 in
theorem inodes_core (n m N cap : Nat) (x0 x1 : Int) (G : Nat → Int) (ao : Option Addr) (db doff : Nat) (w : World) (hmay : 8 ≤ n ∧ n ≤ 4096 ∧ 1 ≤ m ∧ m ≤ 512 ∧ m + 2 ≤ n)
    (hN : N ≤ 9223372036854775807) (hao : 0 < N → ao = some ⟨db, doff, none⟩) (hG : Rd w db doff N fun j => .int .i64 (G j)) (hGb : ∀ j, j < N → -9223372036854775808 ≤ G j ∧ G j ≤ 9223372036854775807)
    (HS : Hid (∀ w, Calls Tryd.prog 21 #[.int .i64 x0, .int .i64 x1] w fun e w' => e = .returned (.agg #[.int .i64 n, .int .i64 m]) ∧ Tr w [] w' [])) (hR : Rd w 0 0 64 tabV) :
    Calls Tryd.prog 4 #[.int .i64 x0, .int .i64 x1, .slice ao N cap] w fun e w' => e = .returned (.bool true) ∧ Tr w [] w' [] := by
  have hs := Tr.refl w []
  have HR := Lib.hid hR
  have HA := Lib.hid hao
  have HG := Lib.hid hG
  have HB := Lib.hid hGb
  have HMAY := Lib.hid hmay
  obtain ⟨h1, h2, h3, h4, h5⟩ := hmay
  clear hR hao hG hGb
  go_enter Tryd.func4, Tryd.ntmps4
  go_upto_region 6 with (first
    | ((with_reducible refine (at_alloc (t := 23)) rfl ?_); refine wl_allocA hs rfl rfl zero23 ?_; clear hs; intro w1 xb hs)
    | ((with_reducible refine at_store rfl ?_); refine wl_storeA hs rfl rfl rfl rfl size23 (by simp [Value.oneCell']) 0 rfl rfl ?_; clear hs; intro w1 hs)
    | ((with_reducible refine (at_load (t := 23)) rfl ?_); refine wl_loadA hs rfl rfl Tryd.underlying23 rfl rfl 0 rfl size23 ?_)
    | (go_at_call 9; refine (awake_any _ (HR.out.keep hs)).mono ?_; rintro e w2 ⟨rfl, hc⟩; replace hs := hs.call0 hc; clear hc)
    | (go_at_call 21; refine (HS.out _).mono ?_; rintro e w2 ⟨rfl, hc⟩; replace hs := hs.call0 hc; clear hc)
    | (go_at_call 11; refine (new_nil HMAY.out).mono ?_; rintro e w2 ⟨p, b, bs, ii, is, q, rfl, hc⟩; replace hs := hs.call1 hc; clear hc))
  go_upto_region 7 with (first
    | ((with_reducible refine at_load rfl ?_); refine wl_load1 hs rfl rfl Tryd.underlying3 rfl rfl 1 rfl rfl ?_)
    | ((with_reducible refine at_mk rfl ?_); refine wl_make hs rfl rfl Tryd.underlying46 info4 (m + 2) rfl rfl (by omega) (by omega) (by omega) (fun _ => .bool false) (zmakeI _) ?_; rw [Nat.mul_one]; clear hs; intro w1 ub hs))
  go_wp2_with (first
    | ((with_reducible refine at_load rfl ?_); refine wl_load1 hs rfl rfl Tryd.underlying3 rfl rfl 2 rfl rfl ?_)
    | ((with_reducible refine at_store rfl ?_); refine wl_store1R hs rfl rfl size4 rfl rfl rfl 0 rfl (by omega) (uI m I0) (uI_one h3) ?_; clear hs; intro w1 hs))
  go_loopw [12, 13] (fun l i wr => ∃ (k : Nat) (I : Nat → Bool), k ≤ N ∧ i = .int .i64 k ∧ l = .int .i64 ((cntP (rI I) (m + 1) : Nat) : Int) ∧ I 1 = true ∧ Tr w [] wr (inoL ub p b bs ii is q xb n m I)) (fun _ i _ => N - (intOf i).toNat)
  case atStart =>
    have e : cntP (rI I0) (m + 1) = m - 1 := by
      obtain ⟨m', rfl⟩ : ∃ m', m = m' + 1 := ⟨m - 1, by omega⟩
      exact left_I0 m'
    exact ⟨0, I0, Nat.zero_le _, rfl, by rw [e]; congr 1; omega, rfl, hs⟩
  case round =>
    clear hs
    obtain ⟨k, I, hk, rfl, rfl, hI1, hs⟩ := hrel
    by_cases hlt : k < N
    · have hltI : (k : Int) < N := by omega
      obtain rfl := HA.out (by omega)
      have hx := HB.out k hlt
      have HX : Hid (∀ {w1 : World} {L : List Res}, Tr w [] w1 L → w1.cell? ⟨db, doff + k, none⟩ = some (.int .i64 (G k))) := Lib.hid fun h => HG.out.keep h k hlt
      obtain ⟨t, ht, HT⟩ := pick_nat ((G k).tdiv 3) (m + 2) (by omega) (by omega) (tdiv_bd _ 3 (by omega) hx) ((m : Int) + 2) (by omega)
      obtain ⟨c, hc3, HC⟩ := pick_nat (G k) 3 (by omega) (by omega) hx 3 rfl
      have hq := tdiv_bd (G k) 3 (by omega) hx
      generalize G k = x at *
      go_upto_region 12 with fail
      refine wt_enter 10 rfl hs (by kernel_rfl) ?_
      clear hs; intro w1 hs; have hC := hs
      refine wt_take 0 rfl (by kernel_rfl) (by kernel_rfl) (by kernel_rfl) (fun _ _ _ _ h => h) rfl hC ⟨_, fun w hw => by (go_simp; try with_reducible rfl), fun a1 ha => ?_⟩
      simp only [Act.put, List.setIfInBounds_toArray, List.set_cons_succ, List.set_cons_zero] at ha; subst ha
      refine wt_take 1 rfl (by kernel_rfl) (by kernel_rfl) (by kernel_rfl) (fun _ _ _ _ h => h) rfl hC ⟨_, fun w hw => by (go_simp; try with_reducible rfl), fun a1 ha => ?_⟩
      simp only [Act.put, List.setIfInBounds_toArray, List.set_cons_succ, List.set_cons_zero] at ha; subst ha
      refine wt_take 2 rfl (by kernel_rfl) (by kernel_rfl) (by kernel_rfl) (fun _ _ _ _ h => h) rfl hC ⟨_, fun w hw => ex_indexS rfl Tryd.underlying24 size3 rfl rfl k rfl hlt rfl, fun a1 ha => ?_⟩
      simp only [Act.put, List.setIfInBounds_toArray, List.set_cons_succ, List.set_cons_zero] at ha; subst ha
      refine wt_take 3 rfl (by kernel_rfl) (by kernel_rfl) (by kernel_rfl) (fun _ _ _ _ h => h) rfl hC ⟨.int .i64 x, fun w hw => ex_load1 rfl Tryd.underlying3 rfl rfl (by rw [Nat.mul_one]; exact HX.out hw), fun a1 ha => ?_⟩
      simp only [Act.put, List.setIfInBounds_toArray, List.set_cons_succ, List.set_cons_zero] at ha; subst ha
      refine wt_take 4 rfl (by kernel_rfl) (by kernel_rfl) (by kernel_rfl) (fun _ _ _ _ h => h) rfl hC ⟨.int .i64 (x.tdiv 3), fun w hw => by (go_simp; exact wrap_in (by omega)), fun a1 ha => ?_⟩
      simp only [Act.put, List.setIfInBounds_toArray, List.set_cons_succ, List.set_cons_zero] at ha; subst ha
      refine wt_take 5 rfl (by kernel_rfl) (by kernel_rfl) (by kernel_rfl) (fun _ _ _ _ h => h) rfl hC ⟨_, fun w hw => by (go_simp; try with_reducible rfl), fun a1 ha => ?_⟩
      simp only [Act.put, List.setIfInBounds_toArray, List.set_cons_succ, List.set_cons_zero] at ha; subst ha
      refine wt_take 6 rfl (by kernel_rfl) (by kernel_rfl) (by kernel_rfl) (fun _ _ _ _ h => h) rfl hC ⟨_, fun w hw => ex_load1 rfl Tryd.underlying3 rfl rfl (by rw [cell_of_row w _ _ _ _ (0, 0) (hw.getB 2 rfl)]; rfl), fun a1 ha => ?_⟩
      simp only [Act.put, List.setIfInBounds_toArray, List.set_cons_succ, List.set_cons_zero] at ha; subst ha
      refine wt_take 7 rfl (by kernel_rfl) (by kernel_rfl) (by kernel_rfl) (fun _ _ _ _ h => h) rfl hC ⟨.int .i64 ((m : Int) + 2), fun w hw => by (go_simp; first | done | exact wrap_in (by omega) | go_num), fun a1 ha => ?_⟩
      simp only [Act.put, List.setIfInBounds_toArray, List.set_cons_succ, List.set_cons_zero] at ha; subst ha
      refine wt_one 8 (by kernel_rfl) ?_
      refine wt_callE hs rfl rfl (by go_simp) (HT.out _) (by simp only [Act.put, List.setIfInBounds_toArray, List.set_cons_succ, List.set_cons_zero]; rfl) ?_
      clear hs; intro w1 hs
      refine wt_and (hs.sub (by repeat (first | exact List.Sublist.refl _ | refine List.Sublist.cons_cons _ ?_ | refine List.Sublist.cons _ ?_))) fun hC => ?_
      refine wt_take 9 rfl (by kernel_rfl) (by kernel_rfl) (by kernel_rfl) (fun _ _ _ _ h => h) rfl hC ⟨_, fun w hw => by (go_simp; try with_reducible rfl), fun a1 ha => ?_⟩
      simp only [Act.put, List.setIfInBounds_toArray, List.set_cons_succ, List.set_cons_zero] at ha; subst ha
      refine wt_done (by kernel_rfl) ?_
      skip
      clear hC
      clear hx hq
      by_cases hc : 0 < c
      · have hcI : (0 : Int) < c := by omega
        obtain ⟨R, hR2, hRm, hRu, hR0⟩ := least_ex m h3 I hI1
        have HRU := Lib.hid hRu
        have HR0 := Lib.hid hR0
        clear hRu hR0
        go_upto_region 15 with (first
          | ((with_reducible refine (at_load (t := 3)) rfl ?_); refine wl_loadC rfl rfl Tryd.underlying3 rfl rfl (HX.out hs) ?_)
          | (go_at_call 22; refine (HC.out _).mono ?_; rintro e w2 ⟨rfl, rfl⟩))
        clear hcI
        go_loopw [15] (fun v wr => ∃ j : Nat, 2 ≤ j ∧ j ≤ R ∧ v = .int .i64 j ∧ Tr w [] wr (inoL ub p b bs ii is q xb n m I)) (fun v _ => R - (intOf v).toNat)
        case atStart => exact ⟨2, Nat.le_refl _, hR2, rfl, hs⟩
        case round =>
          clear hs
          obtain ⟨j, hj2, hjR, rfl, hs⟩ := hrel
          by_cases hjl : j < R
          · have hjm : (j : Int) ≤ m := by omega
            have HJ : Hid (usedI m I (j : Int) = true) := Lib.hid (by rw [usedI_nat, HRU.out j (by omega) hjl, decide_eq_true (by omega : 1 ≤ j), decide_eq_true (by omega : j ≤ m)]; rfl)
            go_wp2_with (first
              | ((with_reducible refine at_load rfl ?_); refine wl_load1 hs rfl rfl Tryd.underlying3 rfl rfl 2 rfl rfl ?_)
              | ((with_reducible refine (at_load (t := 4)) rfl ?_); refine wl_load1 hs rfl rfl Tryd.underlying4 rfl rfl 0 rfl (uI_at (by omega) HJ.out) ?_))
            go_roundw
            case rel => exact ⟨j + 1, by omega, by omega, by go_num, hs⟩
            case measure => simp [intOf]; omega
          · obtain rfl : j = R := by omega
            by_cases hjm : j ≤ m
            · have hjI : (j : Int) ≤ m := by omega
              have HJ : Hid (usedI m I (j : Int) = false) := Lib.hid (by rw [usedI_nat, HR0.out hjm]; simp)
              have HTK := Lib.hid (fun w hR h => takei_yes (p := p) (b := b) (bs := bs) (i := ii) (is := is) (q := q) (n := n) (m := m) (w := w) (B := B0) (I := I) j h4 (by omega) hjm (HR0.out hjm) HRU.out hR h)
              obtain ⟨l, hl⟩ : ∃ l, cntP (rI (updP I j true)) (m + 1) = l := ⟨_, rfl⟩
              have hl2 := left_take (I := I) (r := j) (m := m) (by omega) hjm (HR0.out hjm)
              have hlb := cntP_le (rI (updP I j true)) (m + 1)
              have HUP := Lib.hid (uI_upd (I := I) (N := m + 2) (by omega : 1 ≤ j) hjm true)
              rw [hl] at hl2 hlb
              rw [hl2]
              have HL := Lib.hid hl
              have hI1' : updP I j true 1 = true := by rw [updP_off (by omega)]; exact hI1
              clear hl hl2 hI1
              go_upto_region 32 with (first
                | ((with_reducible refine at_load rfl ?_); refine wl_load1 hs rfl rfl Tryd.underlying3 rfl rfl 2 rfl rfl ?_)
                | ((with_reducible refine (at_load (t := 4)) rfl ?_); refine wl_load1 hs rfl rfl Tryd.underlying4 rfl rfl 0 rfl (uI_at (by omega) HJ.out) ?_)
                | ((with_reducible refine at_store rfl ?_); refine wl_store1R hs rfl rfl size4 rfl rfl rfl 0 rfl (by omega) (uI m (updP I j true)) HUP.out ?_; clear hs; intro w1 hs)
                | (go_at_call 23; refine (HTK.out _ (HR.out.keep hs) (hs.get 1 rfl)).mono ?_; rintro e w2 ⟨rfl, hc⟩; replace hs := hs.upd 1 rfl hc; clear hc))
              generalize updP I j true = I' at *
              obtain ⟨z, hz⟩ : ∃ z, usedI m I' (t : Int) = z := ⟨_, rfl⟩
              have HU := Lib.hid (fun w h => used_any (p := p) (b := b) (bs := bs) (i := ii) (is := is) (q := q) (n := n) (m := m) (w := w) (B := B0) (I := I') (t : Int) h4 h)
              have HU1 := Lib.hid (fun w h => used_any (p := p) (b := b) (bs := bs) (i := ii) (is := is) (q := q) (n := n) (m := m) (w := w) (B := B0) (I := I') 1 h4 h)
              rw [show usedI m I' 1 = true by rw [usedI, if_pos ⟨by omega, by omega⟩]; exact hI1'] at HU1
              have HM := Lib.hid (fun w h => room_any (p := p) (b := b) (bs := bs) (i := ii) (is := is) (q := q) (n := n) (m := m) (w := w) h2 h4 B0_two (I := I') h)
              rw [roomV, HL.out] at HM
              rw [hz] at HU
              have HZ := Lib.hid hz
              clear hz
              generalize cntP (rB n m B0) n = rb at HM
              generalize cntP (fL n m B0) n = rl at HM
              refine wt_enter 20 rfl hs (by kernel_rfl) ?_
              clear hs; intro w1 hs; have hC := hs
              refine wt_take 0 rfl (by kernel_rfl) (by kernel_rfl) (by kernel_rfl) (fun _ _ _ _ h => h) rfl hC ⟨_, fun w hw => by (go_simp; try with_reducible rfl), fun a1 ha => ?_⟩
              simp only [Act.put, List.setIfInBounds_toArray, List.set_cons_succ, List.set_cons_zero] at ha; subst ha
              refine wt_take 1 rfl (by kernel_rfl) (by kernel_rfl) (by kernel_rfl) (fun _ _ _ _ h => h) rfl hC ⟨_, fun w hw => by (go_simp; try with_reducible rfl), fun a1 ha => ?_⟩
              simp only [Act.put, List.setIfInBounds_toArray, List.set_cons_succ, List.set_cons_zero] at ha; subst ha
              refine wt_take 3 rfl (by kernel_rfl) (by kernel_rfl) (by kernel_rfl) (fun _ _ _ _ h => h) rfl hC ⟨_, fun w hw => by (go_simp; try with_reducible rfl), fun a1 ha => ?_⟩
              simp only [Act.put, List.setIfInBounds_toArray, List.set_cons_succ, List.set_cons_zero] at ha; subst ha
              refine wt_take 4 rfl (by kernel_rfl) (by kernel_rfl) (by kernel_rfl) (fun _ _ _ _ h => h) rfl hC ⟨_, fun w hw => by (go_simp; try with_reducible rfl), fun a1 ha => ?_⟩
              simp only [Act.put, List.setIfInBounds_toArray, List.set_cons_succ, List.set_cons_zero] at ha; subst ha
              refine wt_take 5 rfl (by kernel_rfl) (by kernel_rfl) (by kernel_rfl) (fun _ _ _ _ h => h) rfl hC ⟨_, fun w hw => ex_index1 rfl Tryd.underlying46 size4 rfl rfl t rfl ht rfl, fun a1 ha => ?_⟩
              simp only [Act.put, List.setIfInBounds_toArray, List.set_cons_succ, List.set_cons_zero] at ha; subst ha
              refine wt_take 6 rfl (by kernel_rfl) (by kernel_rfl) (by kernel_rfl) (fun _ _ _ _ h => h) rfl hC ⟨.bool z, fun w hw => ex_load1 rfl Tryd.underlying4 rfl rfl (by rw [cell_of_row w _ _ _ _ (0, 0) (hw.getB 0 rfl)]; exact uI_at ht HZ.out), fun a1 ha => ?_⟩
              simp only [Act.put, List.setIfInBounds_toArray, List.set_cons_succ, List.set_cons_zero] at ha; subst ha
              refine wt_one 2 (by kernel_rfl) ?_
              refine wt_call0 hs rfl rfl (by go_simp) (HU.out _ (hs.get 1 rfl)) (by simp only [Act.put, List.setIfInBounds_toArray, List.set_cons_succ, List.set_cons_zero]; rfl) ?_
              clear hs; intro w1 hs
              refine wt_and (hs.sub (by repeat (first | exact List.Sublist.refl _ | refine List.Sublist.cons_cons _ ?_ | refine List.Sublist.cons _ ?_))) fun hC => ?_
              refine wt_take 7 rfl (by kernel_rfl) (by kernel_rfl) (by kernel_rfl) (fun _ _ _ _ h => h) rfl hC ⟨.bool false, fun w hw => by (go_simp; try simp), fun a1 ha => ?_⟩
              simp only [Act.put, List.setIfInBounds_toArray, List.set_cons_succ, List.set_cons_zero] at ha; subst ha
              refine wt_take 8 rfl (by kernel_rfl) (by kernel_rfl) (by kernel_rfl) (fun _ _ _ _ h => h) rfl hC ⟨_, fun w hw => by (go_simp; try with_reducible rfl), fun a1 ha => ?_⟩
              simp only [Act.put, List.setIfInBounds_toArray, List.set_cons_succ, List.set_cons_zero] at ha; subst ha
              refine wt_take 9 rfl (by kernel_rfl) (by kernel_rfl) (by kernel_rfl) (fun _ _ _ _ h => h) rfl hC ⟨_, fun w hw => by (go_simp; try with_reducible rfl), fun a1 ha => ?_⟩
              simp only [Act.put, List.setIfInBounds_toArray, List.set_cons_succ, List.set_cons_zero] at ha; subst ha
              refine wt_take 12 rfl (by kernel_rfl) (by kernel_rfl) (by kernel_rfl) (fun _ _ _ _ h => h) rfl hC ⟨_, fun w hw => by (go_simp; try with_reducible rfl), fun a1 ha => ?_⟩
              simp only [Act.put, List.setIfInBounds_toArray, List.set_cons_succ, List.set_cons_zero] at ha; subst ha
              refine wt_one 10 (by kernel_rfl) ?_
              refine wt_call0 hs rfl rfl (by go_simp) (HM.out _ (hs.get 1 rfl)) (by simp only [Act.put, List.setIfInBounds_toArray, List.set_cons_succ, List.set_cons_zero]; rfl) ?_
              clear hs; intro w1 hs
              refine wt_and (hs.sub (by repeat (first | exact List.Sublist.refl _ | refine List.Sublist.cons_cons _ ?_ | refine List.Sublist.cons _ ?_))) fun hC => ?_
              refine wt_take 11 rfl (by kernel_rfl) (by kernel_rfl) (by kernel_rfl) (fun _ _ _ _ h => h) rfl hC ⟨.int .i64 ((l : Nat) : Int), fun w hw => by (go_simp; rw [field40_2]; rfl), fun a1 ha => ?_⟩
              simp only [Act.put, List.setIfInBounds_toArray, List.set_cons_succ, List.set_cons_zero] at ha; subst ha
              refine wt_take 13 rfl (by kernel_rfl) (by kernel_rfl) (by kernel_rfl) (fun _ _ _ _ h => h) rfl hC ⟨.bool false, fun w hw => by (go_simp; try simp), fun a1 ha => ?_⟩
              simp only [Act.put, List.setIfInBounds_toArray, List.set_cons_succ, List.set_cons_zero] at ha; subst ha
              refine wt_take 14 rfl (by kernel_rfl) (by kernel_rfl) (by kernel_rfl) (fun _ _ _ _ h => h) rfl hC ⟨_, fun w hw => by (go_simp; try with_reducible rfl), fun a1 ha => ?_⟩
              simp only [Act.put, List.setIfInBounds_toArray, List.set_cons_succ, List.set_cons_zero] at ha; subst ha
              refine wt_take 15 rfl (by kernel_rfl) (by kernel_rfl) (by kernel_rfl) (fun _ _ _ _ h => h) rfl hC ⟨_, fun w hw => by (go_simp; try with_reducible rfl), fun a1 ha => ?_⟩
              simp only [Act.put, List.setIfInBounds_toArray, List.set_cons_succ, List.set_cons_zero] at ha; subst ha
              refine wt_take 16 rfl (by kernel_rfl) (by kernel_rfl) (by kernel_rfl) (fun _ _ _ _ h => h) rfl hC ⟨_, fun w hw => by (go_simp; try with_reducible rfl), fun a1 ha => ?_⟩
              simp only [Act.put, List.setIfInBounds_toArray, List.set_cons_succ, List.set_cons_zero] at ha; subst ha
              refine wt_one 17 (by kernel_rfl) ?_
              refine wt_call0 hs rfl rfl (by go_simp) (HU1.out _ (hs.get 1 rfl)) (by simp only [Act.put, List.setIfInBounds_toArray, List.set_cons_succ, List.set_cons_zero]; rfl) ?_
              clear hs; intro w1 hs
              refine wt_and (hs.sub (by repeat (first | exact List.Sublist.refl _ | refine List.Sublist.cons_cons _ ?_ | refine List.Sublist.cons _ ?_))) fun hC => ?_
              refine wt_take 18 rfl (by kernel_rfl) (by kernel_rfl) (by kernel_rfl) (fun _ _ _ _ h => h) rfl hC ⟨.bool false, fun w hw => by go_simp, fun a1 ha => ?_⟩
              simp only [Act.put, List.setIfInBounds_toArray, List.set_cons_succ, List.set_cons_zero] at ha; subst ha
              refine wt_take 19 rfl (by kernel_rfl) (by kernel_rfl) (by kernel_rfl) (fun _ _ _ _ h => h) rfl hC ⟨_, fun w hw => by (go_simp; try with_reducible rfl), fun a1 ha => ?_⟩
              simp only [Act.put, List.setIfInBounds_toArray, List.set_cons_succ, List.set_cons_zero] at ha; subst ha
              refine wt_done (by kernel_rfl) ?_
              skip
              clear hC
              go_wp2
              go_roundw
              case rel => exact ⟨k + 1, I', by omega, by go_num, by rw [HL.out], hI1', hs⟩
              case measure => simp [intOf]; omega
            · have hjI : ¬ (j : Int) ≤ m := by omega
              have hjI2 : (m : Int) < j := by omega
              have HTK := Lib.hid (fun w hR h => takei_no (p := p) (b := b) (bs := bs) (i := ii) (is := is) (q := q) (n := n) (m := m) (w := w) (B := B0) (I := I) h4 (fun q h1 h2 => HRU.out q h1 (by omega)) hR h)
              go_wp2_with (first
                | ((with_reducible refine at_load rfl ?_); refine wl_load1 hs rfl rfl Tryd.underlying3 rfl rfl 2 rfl rfl ?_)
                | (go_at_call 23; refine (HTK.out _ (HR.out.keep hs) (hs.get 1 rfl)).mono ?_; rintro e w2 ⟨rfl, hc⟩; replace hs := hs.call0 hc; clear hc))
              go_roundw
              case rel => exact ⟨k + 1, I, by omega, by go_num, rfl, hI1, hs⟩
              case measure => simp [intOf]; omega
      · obtain rfl : c = 0 := by omega
        clear hc hc3
        go_upto_region 25 with (first
          | ((with_reducible refine (at_load (t := 3)) rfl ?_); refine wl_loadC rfl rfl Tryd.underlying3 rfl rfl (HX.out hs) ?_)
          | (go_at_call 22; refine (HC.out _).mono ?_; rintro e w2 ⟨rfl, rfl⟩))
        by_cases hy : 2 ≤ t ∧ t ≤ m ∧ I t = true
        · obtain ⟨hy1, hy2, hy3⟩ := hy
          have hyI1 : (2 : Int) ≤ t := by omega
          have hyI2 : (t : Int) ≤ m := by omega
          have HJ : Hid (usedI m I (t : Int) = true) := Lib.hid (by rw [usedI_nat, hy3, decide_eq_true (by omega : 1 ≤ t), decide_eq_true hy2]; rfl)
          have HTK := Lib.hid (fun w h => freei_yes (p := p) (b := b) (bs := bs) (i := ii) (is := is) (q := q) (n := n) (m := m) (w := w) (B := B0) (I := I) t h4 hy1 hy2 hy3 h)
          obtain ⟨l, hl⟩ : ∃ l, cntP (rI (updP I t false)) (m + 1) = l := ⟨_, rfl⟩
          have hl2 := left_free (I := I) (r := t) (m := m) (by omega) hy2 hy3
          have hlb := cntP_le (rI (updP I t false)) (m + 1)
          have HUP := Lib.hid (uI_upd (I := I) (N := m + 2) (by omega : 1 ≤ t) hy2 false)
          rw [hl] at hl2 hlb
          have hl3 : ((l : Nat) : Int) = (cntP (rI I) (m + 1) : Nat) + 1 := by omega
          have HL := Lib.hid hl
          have hI1' : updP I t false 1 = true := by rw [updP_off (by omega)]; exact hI1
          obtain ⟨l0, hl0⟩ : ∃ l0, cntP (rI I) (m + 1) = l0 := ⟨_, rfl⟩
          rw [hl0] at hl2 hl3 ⊢
          have HL3 := Lib.hid hl3
          have hl0b : l0 ≤ 512 := by omega
          clear hl hl2 hl3 hl0 hI1 hy3
          go_upto_region 32 with (first
            | ((with_reducible refine at_load rfl ?_); refine wl_load1 hs rfl rfl Tryd.underlying3 rfl rfl 2 rfl rfl ?_)
            | ((with_reducible refine (at_load (t := 4)) rfl ?_); refine wl_load1 hs rfl rfl Tryd.underlying4 rfl rfl 0 rfl (uI_at (by omega) HJ.out) ?_)
            | ((with_reducible refine at_store rfl ?_); refine wl_store1R hs rfl rfl size4 rfl rfl rfl 0 rfl (by omega) (uI m (updP I t false)) HUP.out ?_; clear hs; intro w1 hs)
            | (go_at_call 24; refine (HTK.out _ (hs.get 1 rfl)).mono ?_; rintro e w2 ⟨rfl, hc⟩; replace hs := hs.upd 1 rfl hc; clear hc))
          rw [← HL3.out]
          generalize updP I t false = I' at *
          obtain ⟨z, hz⟩ : ∃ z, usedI m I' (t : Int) = z := ⟨_, rfl⟩
          have HU := Lib.hid (fun w h => used_any (p := p) (b := b) (bs := bs) (i := ii) (is := is) (q := q) (n := n) (m := m) (w := w) (B := B0) (I := I') (t : Int) h4 h)
          have HU1 := Lib.hid (fun w h => used_any (p := p) (b := b) (bs := bs) (i := ii) (is := is) (q := q) (n := n) (m := m) (w := w) (B := B0) (I := I') 1 h4 h)
          rw [show usedI m I' 1 = true by rw [usedI, if_pos ⟨by omega, by omega⟩]; exact hI1'] at HU1
          have HM := Lib.hid (fun w h => room_any (p := p) (b := b) (bs := bs) (i := ii) (is := is) (q := q) (n := n) (m := m) (w := w) h2 h4 B0_two (I := I') h)
          rw [roomV, HL.out] at HM
          rw [hz] at HU
          have HZ := Lib.hid hz
          clear hz
          generalize cntP (rB n m B0) n = rb at HM
          generalize cntP (fL n m B0) n = rl at HM
          refine wt_enter 20 rfl hs (by kernel_rfl) ?_
          clear hs; intro w1 hs; have hC := hs
          refine wt_take 0 rfl (by kernel_rfl) (by kernel_rfl) (by kernel_rfl) (fun _ _ _ _ h => h) rfl hC ⟨_, fun w hw => by (go_simp; try with_reducible rfl), fun a1 ha => ?_⟩
          simp only [Act.put, List.setIfInBounds_toArray, List.set_cons_succ, List.set_cons_zero] at ha; subst ha
          refine wt_take 1 rfl (by kernel_rfl) (by kernel_rfl) (by kernel_rfl) (fun _ _ _ _ h => h) rfl hC ⟨_, fun w hw => by (go_simp; try with_reducible rfl), fun a1 ha => ?_⟩
          simp only [Act.put, List.setIfInBounds_toArray, List.set_cons_succ, List.set_cons_zero] at ha; subst ha
          refine wt_take 3 rfl (by kernel_rfl) (by kernel_rfl) (by kernel_rfl) (fun _ _ _ _ h => h) rfl hC ⟨_, fun w hw => by (go_simp; try with_reducible rfl), fun a1 ha => ?_⟩
          simp only [Act.put, List.setIfInBounds_toArray, List.set_cons_succ, List.set_cons_zero] at ha; subst ha
          refine wt_take 4 rfl (by kernel_rfl) (by kernel_rfl) (by kernel_rfl) (fun _ _ _ _ h => h) rfl hC ⟨_, fun w hw => by (go_simp; try with_reducible rfl), fun a1 ha => ?_⟩
          simp only [Act.put, List.setIfInBounds_toArray, List.set_cons_succ, List.set_cons_zero] at ha; subst ha
          refine wt_take 5 rfl (by kernel_rfl) (by kernel_rfl) (by kernel_rfl) (fun _ _ _ _ h => h) rfl hC ⟨_, fun w hw => ex_index1 rfl Tryd.underlying46 size4 rfl rfl t rfl ht rfl, fun a1 ha => ?_⟩
          simp only [Act.put, List.setIfInBounds_toArray, List.set_cons_succ, List.set_cons_zero] at ha; subst ha
          refine wt_take 6 rfl (by kernel_rfl) (by kernel_rfl) (by kernel_rfl) (fun _ _ _ _ h => h) rfl hC ⟨.bool z, fun w hw => ex_load1 rfl Tryd.underlying4 rfl rfl (by rw [cell_of_row w _ _ _ _ (0, 0) (hw.getB 0 rfl)]; exact uI_at ht HZ.out), fun a1 ha => ?_⟩
          simp only [Act.put, List.setIfInBounds_toArray, List.set_cons_succ, List.set_cons_zero] at ha; subst ha
          refine wt_one 2 (by kernel_rfl) ?_
          refine wt_call0 hs rfl rfl (by go_simp) (HU.out _ (hs.get 1 rfl)) (by simp only [Act.put, List.setIfInBounds_toArray, List.set_cons_succ, List.set_cons_zero]; rfl) ?_
          clear hs; intro w1 hs
          refine wt_and (hs.sub (by repeat (first | exact List.Sublist.refl _ | refine List.Sublist.cons_cons _ ?_ | refine List.Sublist.cons _ ?_))) fun hC => ?_
          refine wt_take 7 rfl (by kernel_rfl) (by kernel_rfl) (by kernel_rfl) (fun _ _ _ _ h => h) rfl hC ⟨.bool false, fun w hw => by (go_simp; try simp), fun a1 ha => ?_⟩
          simp only [Act.put, List.setIfInBounds_toArray, List.set_cons_succ, List.set_cons_zero] at ha; subst ha
          refine wt_take 8 rfl (by kernel_rfl) (by kernel_rfl) (by kernel_rfl) (fun _ _ _ _ h => h) rfl hC ⟨_, fun w hw => by (go_simp; try with_reducible rfl), fun a1 ha => ?_⟩
          simp only [Act.put, List.setIfInBounds_toArray, List.set_cons_succ, List.set_cons_zero] at ha; subst ha
          refine wt_take 9 rfl (by kernel_rfl) (by kernel_rfl) (by kernel_rfl) (fun _ _ _ _ h => h) rfl hC ⟨_, fun w hw => by (go_simp; try with_reducible rfl), fun a1 ha => ?_⟩
          simp only [Act.put, List.setIfInBounds_toArray, List.set_cons_succ, List.set_cons_zero] at ha; subst ha
          refine wt_take 12 rfl (by kernel_rfl) (by kernel_rfl) (by kernel_rfl) (fun _ _ _ _ h => h) rfl hC ⟨_, fun w hw => by (go_simp; try with_reducible rfl), fun a1 ha => ?_⟩
          simp only [Act.put, List.setIfInBounds_toArray, List.set_cons_succ, List.set_cons_zero] at ha; subst ha
          refine wt_one 10 (by kernel_rfl) ?_
          refine wt_call0 hs rfl rfl (by go_simp) (HM.out _ (hs.get 1 rfl)) (by simp only [Act.put, List.setIfInBounds_toArray, List.set_cons_succ, List.set_cons_zero]; rfl) ?_
          clear hs; intro w1 hs
          refine wt_and (hs.sub (by repeat (first | exact List.Sublist.refl _ | refine List.Sublist.cons_cons _ ?_ | refine List.Sublist.cons _ ?_))) fun hC => ?_
          refine wt_take 11 rfl (by kernel_rfl) (by kernel_rfl) (by kernel_rfl) (fun _ _ _ _ h => h) rfl hC ⟨.int .i64 ((l : Nat) : Int), fun w hw => by (go_simp; rw [field40_2]; rfl), fun a1 ha => ?_⟩
          simp only [Act.put, List.setIfInBounds_toArray, List.set_cons_succ, List.set_cons_zero] at ha; subst ha
          refine wt_take 13 rfl (by kernel_rfl) (by kernel_rfl) (by kernel_rfl) (fun _ _ _ _ h => h) rfl hC ⟨.bool false, fun w hw => by (go_simp; try simp), fun a1 ha => ?_⟩
          simp only [Act.put, List.setIfInBounds_toArray, List.set_cons_succ, List.set_cons_zero] at ha; subst ha
          refine wt_take 14 rfl (by kernel_rfl) (by kernel_rfl) (by kernel_rfl) (fun _ _ _ _ h => h) rfl hC ⟨_, fun w hw => by (go_simp; try with_reducible rfl), fun a1 ha => ?_⟩
          simp only [Act.put, List.setIfInBounds_toArray, List.set_cons_succ, List.set_cons_zero] at ha; subst ha
          refine wt_take 15 rfl (by kernel_rfl) (by kernel_rfl) (by kernel_rfl) (fun _ _ _ _ h => h) rfl hC ⟨_, fun w hw => by (go_simp; try with_reducible rfl), fun a1 ha => ?_⟩
          simp only [Act.put, List.setIfInBounds_toArray, List.set_cons_succ, List.set_cons_zero] at ha; subst ha
          refine wt_take 16 rfl (by kernel_rfl) (by kernel_rfl) (by kernel_rfl) (fun _ _ _ _ h => h) rfl hC ⟨_, fun w hw => by (go_simp; try with_reducible rfl), fun a1 ha => ?_⟩
          simp only [Act.put, List.setIfInBounds_toArray, List.set_cons_succ, List.set_cons_zero] at ha; subst ha
          refine wt_one 17 (by kernel_rfl) ?_
          refine wt_call0 hs rfl rfl (by go_simp) (HU1.out _ (hs.get 1 rfl)) (by simp only [Act.put, List.setIfInBounds_toArray, List.set_cons_succ, List.set_cons_zero]; rfl) ?_
          clear hs; intro w1 hs
          refine wt_and (hs.sub (by repeat (first | exact List.Sublist.refl _ | refine List.Sublist.cons_cons _ ?_ | refine List.Sublist.cons _ ?_))) fun hC => ?_
          refine wt_take 18 rfl (by kernel_rfl) (by kernel_rfl) (by kernel_rfl) (fun _ _ _ _ h => h) rfl hC ⟨.bool false, fun w hw => by go_simp, fun a1 ha => ?_⟩
          simp only [Act.put, List.setIfInBounds_toArray, List.set_cons_succ, List.set_cons_zero] at ha; subst ha
          refine wt_take 19 rfl (by kernel_rfl) (by kernel_rfl) (by kernel_rfl) (fun _ _ _ _ h => h) rfl hC ⟨_, fun w hw => by (go_simp; try with_reducible rfl), fun a1 ha => ?_⟩
          simp only [Act.put, List.setIfInBounds_toArray, List.set_cons_succ, List.set_cons_zero] at ha; subst ha
          refine wt_done (by kernel_rfl) ?_
          skip
          clear hC
          go_wp2
          go_roundw
          case rel => exact ⟨k + 1, I', by omega, by go_num, by rw [HL.out], hI1', hs⟩
          case measure => simp [intOf]; omega
        · have hx1 : (t : Int) ≤ 1 ∨ usedI m I (t : Int) = false := by
            by_cases h : (t : Int) ≤ 1
            · exact Or.inl h
            · refine Or.inr ?_
              rw [usedI_nat]
              by_cases h2 : t ≤ m
              · have : ¬ I t = true := fun e => hy ⟨by omega, h2, e⟩
                rw [Bool.not_eq_true] at this
                rw [this]; simp
              · rw [decide_eq_false h2]; simp
          have HTK := Lib.hid (fun w h => freei_no (p := p) (b := b) (bs := bs) (i := ii) (is := is) (q := q) (n := n) (m := m) (w := w) (B := B0) (I := I) (t : Int) h4 hx1 h)
          obtain ⟨l, hl⟩ : ∃ l, cntP (rI I) (m + 1) = l := ⟨_, rfl⟩
          have hlb := cntP_le (rI I) (m + 1)
          rw [hl] at hlb ⊢
          have HL := Lib.hid hl
          have hI1' := hI1
          clear hl hI1
          by_cases hy1 : 2 ≤ t
          · have hyI1 : (2 : Int) ≤ t := by omega
            by_cases hy2 : t ≤ m
            · have hyI2 : (t : Int) ≤ m := by omega
              have HJ : Hid (usedI m I (t : Int) = false) := Lib.hid (by rcases hx1 with h | h; exact absurd h (by omega); exact h)
              clear hx1 hy
              go_upto_region 32 with (first
                | ((with_reducible refine at_load rfl ?_); refine wl_load1 hs rfl rfl Tryd.underlying3 rfl rfl 2 rfl rfl ?_)
                | ((with_reducible refine (at_load (t := 4)) rfl ?_); refine wl_load1 hs rfl rfl Tryd.underlying4 rfl rfl 0 rfl (uI_at (by omega) HJ.out) ?_)
                | (go_at_call 24; refine (HTK.out _ (hs.get 1 rfl)).mono ?_; rintro e w2 ⟨rfl, hc⟩; replace hs := hs.call0 hc; clear hc))
              generalize I = I' at *
              obtain ⟨z, hz⟩ : ∃ z, usedI m I' (t : Int) = z := ⟨_, rfl⟩
              have HU := Lib.hid (fun w h => used_any (p := p) (b := b) (bs := bs) (i := ii) (is := is) (q := q) (n := n) (m := m) (w := w) (B := B0) (I := I') (t : Int) h4 h)
              have HU1 := Lib.hid (fun w h => used_any (p := p) (b := b) (bs := bs) (i := ii) (is := is) (q := q) (n := n) (m := m) (w := w) (B := B0) (I := I') 1 h4 h)
              rw [show usedI m I' 1 = true by rw [usedI, if_pos ⟨by omega, by omega⟩]; exact hI1'] at HU1
              have HM := Lib.hid (fun w h => room_any (p := p) (b := b) (bs := bs) (i := ii) (is := is) (q := q) (n := n) (m := m) (w := w) h2 h4 B0_two (I := I') h)
              rw [roomV, HL.out] at HM
              rw [hz] at HU
              have HZ := Lib.hid hz
              clear hz
              generalize cntP (rB n m B0) n = rb at HM
              generalize cntP (fL n m B0) n = rl at HM
              refine wt_enter 20 rfl hs (by kernel_rfl) ?_
              clear hs; intro w1 hs; have hC := hs
              refine wt_take 0 rfl (by kernel_rfl) (by kernel_rfl) (by kernel_rfl) (fun _ _ _ _ h => h) rfl hC ⟨_, fun w hw => by (go_simp; try with_reducible rfl), fun a1 ha => ?_⟩
              simp only [Act.put, List.setIfInBounds_toArray, List.set_cons_succ, List.set_cons_zero] at ha; subst ha
              refine wt_take 1 rfl (by kernel_rfl) (by kernel_rfl) (by kernel_rfl) (fun _ _ _ _ h => h) rfl hC ⟨_, fun w hw => by (go_simp; try with_reducible rfl), fun a1 ha => ?_⟩
              simp only [Act.put, List.setIfInBounds_toArray, List.set_cons_succ, List.set_cons_zero] at ha; subst ha
              refine wt_take 3 rfl (by kernel_rfl) (by kernel_rfl) (by kernel_rfl) (fun _ _ _ _ h => h) rfl hC ⟨_, fun w hw => by (go_simp; try with_reducible rfl), fun a1 ha => ?_⟩
              simp only [Act.put, List.setIfInBounds_toArray, List.set_cons_succ, List.set_cons_zero] at ha; subst ha
              refine wt_take 4 rfl (by kernel_rfl) (by kernel_rfl) (by kernel_rfl) (fun _ _ _ _ h => h) rfl hC ⟨_, fun w hw => by (go_simp; try with_reducible rfl), fun a1 ha => ?_⟩
              simp only [Act.put, List.setIfInBounds_toArray, List.set_cons_succ, List.set_cons_zero] at ha; subst ha
              refine wt_take 5 rfl (by kernel_rfl) (by kernel_rfl) (by kernel_rfl) (fun _ _ _ _ h => h) rfl hC ⟨_, fun w hw => ex_index1 rfl Tryd.underlying46 size4 rfl rfl t rfl ht rfl, fun a1 ha => ?_⟩
              simp only [Act.put, List.setIfInBounds_toArray, List.set_cons_succ, List.set_cons_zero] at ha; subst ha
              refine wt_take 6 rfl (by kernel_rfl) (by kernel_rfl) (by kernel_rfl) (fun _ _ _ _ h => h) rfl hC ⟨.bool z, fun w hw => ex_load1 rfl Tryd.underlying4 rfl rfl (by rw [cell_of_row w _ _ _ _ (0, 0) (hw.getB 0 rfl)]; exact uI_at ht HZ.out), fun a1 ha => ?_⟩
              simp only [Act.put, List.setIfInBounds_toArray, List.set_cons_succ, List.set_cons_zero] at ha; subst ha
              refine wt_one 2 (by kernel_rfl) ?_
              refine wt_call0 hs rfl rfl (by go_simp) (HU.out _ (hs.get 1 rfl)) (by simp only [Act.put, List.setIfInBounds_toArray, List.set_cons_succ, List.set_cons_zero]; rfl) ?_
              clear hs; intro w1 hs
              refine wt_and (hs.sub (by repeat (first | exact List.Sublist.refl _ | refine List.Sublist.cons_cons _ ?_ | refine List.Sublist.cons _ ?_))) fun hC => ?_
              refine wt_take 7 rfl (by kernel_rfl) (by kernel_rfl) (by kernel_rfl) (fun _ _ _ _ h => h) rfl hC ⟨.bool false, fun w hw => by (go_simp; try simp), fun a1 ha => ?_⟩
              simp only [Act.put, List.setIfInBounds_toArray, List.set_cons_succ, List.set_cons_zero] at ha; subst ha
              refine wt_take 8 rfl (by kernel_rfl) (by kernel_rfl) (by kernel_rfl) (fun _ _ _ _ h => h) rfl hC ⟨_, fun w hw => by (go_simp; try with_reducible rfl), fun a1 ha => ?_⟩
              simp only [Act.put, List.setIfInBounds_toArray, List.set_cons_succ, List.set_cons_zero] at ha; subst ha
              refine wt_take 9 rfl (by kernel_rfl) (by kernel_rfl) (by kernel_rfl) (fun _ _ _ _ h => h) rfl hC ⟨_, fun w hw => by (go_simp; try with_reducible rfl), fun a1 ha => ?_⟩
              simp only [Act.put, List.setIfInBounds_toArray, List.set_cons_succ, List.set_cons_zero] at ha; subst ha
              refine wt_take 12 rfl (by kernel_rfl) (by kernel_rfl) (by kernel_rfl) (fun _ _ _ _ h => h) rfl hC ⟨_, fun w hw => by (go_simp; try with_reducible rfl), fun a1 ha => ?_⟩
              simp only [Act.put, List.setIfInBounds_toArray, List.set_cons_succ, List.set_cons_zero] at ha; subst ha
              refine wt_one 10 (by kernel_rfl) ?_
              refine wt_call0 hs rfl rfl (by go_simp) (HM.out _ (hs.get 1 rfl)) (by simp only [Act.put, List.setIfInBounds_toArray, List.set_cons_succ, List.set_cons_zero]; rfl) ?_
              clear hs; intro w1 hs
              refine wt_and (hs.sub (by repeat (first | exact List.Sublist.refl _ | refine List.Sublist.cons_cons _ ?_ | refine List.Sublist.cons _ ?_))) fun hC => ?_
              refine wt_take 11 rfl (by kernel_rfl) (by kernel_rfl) (by kernel_rfl) (fun _ _ _ _ h => h) rfl hC ⟨.int .i64 ((l : Nat) : Int), fun w hw => by (go_simp; rw [field40_2]; rfl), fun a1 ha => ?_⟩
              simp only [Act.put, List.setIfInBounds_toArray, List.set_cons_succ, List.set_cons_zero] at ha; subst ha
              refine wt_take 13 rfl (by kernel_rfl) (by kernel_rfl) (by kernel_rfl) (fun _ _ _ _ h => h) rfl hC ⟨.bool false, fun w hw => by (go_simp; try simp), fun a1 ha => ?_⟩
              simp only [Act.put, List.setIfInBounds_toArray, List.set_cons_succ, List.set_cons_zero] at ha; subst ha
              refine wt_take 14 rfl (by kernel_rfl) (by kernel_rfl) (by kernel_rfl) (fun _ _ _ _ h => h) rfl hC ⟨_, fun w hw => by (go_simp; try with_reducible rfl), fun a1 ha => ?_⟩
              simp only [Act.put, List.setIfInBounds_toArray, List.set_cons_succ, List.set_cons_zero] at ha; subst ha
              refine wt_take 15 rfl (by kernel_rfl) (by kernel_rfl) (by kernel_rfl) (fun _ _ _ _ h => h) rfl hC ⟨_, fun w hw => by (go_simp; try with_reducible rfl), fun a1 ha => ?_⟩
              simp only [Act.put, List.setIfInBounds_toArray, List.set_cons_succ, List.set_cons_zero] at ha; subst ha
              refine wt_take 16 rfl (by kernel_rfl) (by kernel_rfl) (by kernel_rfl) (fun _ _ _ _ h => h) rfl hC ⟨_, fun w hw => by (go_simp; try with_reducible rfl), fun a1 ha => ?_⟩
              simp only [Act.put, List.setIfInBounds_toArray, List.set_cons_succ, List.set_cons_zero] at ha; subst ha
              refine wt_one 17 (by kernel_rfl) ?_
              refine wt_call0 hs rfl rfl (by go_simp) (HU1.out _ (hs.get 1 rfl)) (by simp only [Act.put, List.setIfInBounds_toArray, List.set_cons_succ, List.set_cons_zero]; rfl) ?_
              clear hs; intro w1 hs
              refine wt_and (hs.sub (by repeat (first | exact List.Sublist.refl _ | refine List.Sublist.cons_cons _ ?_ | refine List.Sublist.cons _ ?_))) fun hC => ?_
              refine wt_take 18 rfl (by kernel_rfl) (by kernel_rfl) (by kernel_rfl) (fun _ _ _ _ h => h) rfl hC ⟨.bool false, fun w hw => by go_simp, fun a1 ha => ?_⟩
              simp only [Act.put, List.setIfInBounds_toArray, List.set_cons_succ, List.set_cons_zero] at ha; subst ha
              refine wt_take 19 rfl (by kernel_rfl) (by kernel_rfl) (by kernel_rfl) (fun _ _ _ _ h => h) rfl hC ⟨_, fun w hw => by (go_simp; try with_reducible rfl), fun a1 ha => ?_⟩
              simp only [Act.put, List.setIfInBounds_toArray, List.set_cons_succ, List.set_cons_zero] at ha; subst ha
              refine wt_done (by kernel_rfl) ?_
              skip
              clear hC
              go_wp2
              go_roundw
              case rel => exact ⟨k + 1, I', by omega, by go_num, by rw [HL.out], hI1', hs⟩
              case measure => simp [intOf]; omega
            · have hyI2 : (m : Int) < t := by omega
              clear hx1 hy
              go_upto_region 32 with (first
                | ((with_reducible refine at_load rfl ?_); refine wl_load1 hs rfl rfl Tryd.underlying3 rfl rfl 2 rfl rfl ?_)
                | (go_at_call 24; refine (HTK.out _ (hs.get 1 rfl)).mono ?_; rintro e w2 ⟨rfl, hc⟩; replace hs := hs.call0 hc; clear hc))
              generalize I = I' at *
              obtain ⟨z, hz⟩ : ∃ z, usedI m I' (t : Int) = z := ⟨_, rfl⟩
              have HU := Lib.hid (fun w h => used_any (p := p) (b := b) (bs := bs) (i := ii) (is := is) (q := q) (n := n) (m := m) (w := w) (B := B0) (I := I') (t : Int) h4 h)
              have HU1 := Lib.hid (fun w h => used_any (p := p) (b := b) (bs := bs) (i := ii) (is := is) (q := q) (n := n) (m := m) (w := w) (B := B0) (I := I') 1 h4 h)
              rw [show usedI m I' 1 = true by rw [usedI, if_pos ⟨by omega, by omega⟩]; exact hI1'] at HU1
              have HM := Lib.hid (fun w h => room_any (p := p) (b := b) (bs := bs) (i := ii) (is := is) (q := q) (n := n) (m := m) (w := w) h2 h4 B0_two (I := I') h)
              rw [roomV, HL.out] at HM
              rw [hz] at HU
              have HZ := Lib.hid hz
              clear hz
              generalize cntP (rB n m B0) n = rb at HM
              generalize cntP (fL n m B0) n = rl at HM
              refine wt_enter 20 rfl hs (by kernel_rfl) ?_
              clear hs; intro w1 hs; have hC := hs
              refine wt_take 0 rfl (by kernel_rfl) (by kernel_rfl) (by kernel_rfl) (fun _ _ _ _ h => h) rfl hC ⟨_, fun w hw => by (go_simp; try with_reducible rfl), fun a1 ha => ?_⟩
              simp only [Act.put, List.setIfInBounds_toArray, List.set_cons_succ, List.set_cons_zero] at ha; subst ha
              refine wt_take 1 rfl (by kernel_rfl) (by kernel_rfl) (by kernel_rfl) (fun _ _ _ _ h => h) rfl hC ⟨_, fun w hw => by (go_simp; try with_reducible rfl), fun a1 ha => ?_⟩
              simp only [Act.put, List.setIfInBounds_toArray, List.set_cons_succ, List.set_cons_zero] at ha; subst ha
              refine wt_take 3 rfl (by kernel_rfl) (by kernel_rfl) (by kernel_rfl) (fun _ _ _ _ h => h) rfl hC ⟨_, fun w hw => by (go_simp; try with_reducible rfl), fun a1 ha => ?_⟩
              simp only [Act.put, List.setIfInBounds_toArray, List.set_cons_succ, List.set_cons_zero] at ha; subst ha
              refine wt_take 4 rfl (by kernel_rfl) (by kernel_rfl) (by kernel_rfl) (fun _ _ _ _ h => h) rfl hC ⟨_, fun w hw => by (go_simp; try with_reducible rfl), fun a1 ha => ?_⟩
              simp only [Act.put, List.setIfInBounds_toArray, List.set_cons_succ, List.set_cons_zero] at ha; subst ha
              refine wt_take 5 rfl (by kernel_rfl) (by kernel_rfl) (by kernel_rfl) (fun _ _ _ _ h => h) rfl hC ⟨_, fun w hw => ex_index1 rfl Tryd.underlying46 size4 rfl rfl t rfl ht rfl, fun a1 ha => ?_⟩
              simp only [Act.put, List.setIfInBounds_toArray, List.set_cons_succ, List.set_cons_zero] at ha; subst ha
              refine wt_take 6 rfl (by kernel_rfl) (by kernel_rfl) (by kernel_rfl) (fun _ _ _ _ h => h) rfl hC ⟨.bool z, fun w hw => ex_load1 rfl Tryd.underlying4 rfl rfl (by rw [cell_of_row w _ _ _ _ (0, 0) (hw.getB 0 rfl)]; exact uI_at ht HZ.out), fun a1 ha => ?_⟩
              simp only [Act.put, List.setIfInBounds_toArray, List.set_cons_succ, List.set_cons_zero] at ha; subst ha
              refine wt_one 2 (by kernel_rfl) ?_
              refine wt_call0 hs rfl rfl (by go_simp) (HU.out _ (hs.get 1 rfl)) (by simp only [Act.put, List.setIfInBounds_toArray, List.set_cons_succ, List.set_cons_zero]; rfl) ?_
              clear hs; intro w1 hs
              refine wt_and (hs.sub (by repeat (first | exact List.Sublist.refl _ | refine List.Sublist.cons_cons _ ?_ | refine List.Sublist.cons _ ?_))) fun hC => ?_
              refine wt_take 7 rfl (by kernel_rfl) (by kernel_rfl) (by kernel_rfl) (fun _ _ _ _ h => h) rfl hC ⟨.bool false, fun w hw => by (go_simp; try simp), fun a1 ha => ?_⟩
              simp only [Act.put, List.setIfInBounds_toArray, List.set_cons_succ, List.set_cons_zero] at ha; subst ha
              refine wt_take 8 rfl (by kernel_rfl) (by kernel_rfl) (by kernel_rfl) (fun _ _ _ _ h => h) rfl hC ⟨_, fun w hw => by (go_simp; try with_reducible rfl), fun a1 ha => ?_⟩
              simp only [Act.put, List.setIfInBounds_toArray, List.set_cons_succ, List.set_cons_zero] at ha; subst ha
              refine wt_take 9 rfl (by kernel_rfl) (by kernel_rfl) (by kernel_rfl) (fun _ _ _ _ h => h) rfl hC ⟨_, fun w hw => by (go_simp; try with_reducible rfl), fun a1 ha => ?_⟩
              simp only [Act.put, List.setIfInBounds_toArray, List.set_cons_succ, List.set_cons_zero] at ha; subst ha
              refine wt_take 12 rfl (by kernel_rfl) (by kernel_rfl) (by kernel_rfl) (fun _ _ _ _ h => h) rfl hC ⟨_, fun w hw => by (go_simp; try with_reducible rfl), fun a1 ha => ?_⟩
              simp only [Act.put, List.setIfInBounds_toArray, List.set_cons_succ, List.set_cons_zero] at ha; subst ha
              refine wt_one 10 (by kernel_rfl) ?_
              refine wt_call0 hs rfl rfl (by go_simp) (HM.out _ (hs.get 1 rfl)) (by simp only [Act.put, List.setIfInBounds_toArray, List.set_cons_succ, List.set_cons_zero]; rfl) ?_
              clear hs; intro w1 hs
              refine wt_and (hs.sub (by repeat (first | exact List.Sublist.refl _ | refine List.Sublist.cons_cons _ ?_ | refine List.Sublist.cons _ ?_))) fun hC => ?_
              refine wt_take 11 rfl (by kernel_rfl) (by kernel_rfl) (by kernel_rfl) (fun _ _ _ _ h => h) rfl hC ⟨.int .i64 ((l : Nat) : Int), fun w hw => by (go_simp; rw [field40_2]; rfl), fun a1 ha => ?_⟩
              simp only [Act.put, List.setIfInBounds_toArray, List.set_cons_succ, List.set_cons_zero] at ha; subst ha
              refine wt_take 13 rfl (by kernel_rfl) (by kernel_rfl) (by kernel_rfl) (fun _ _ _ _ h => h) rfl hC ⟨.bool false, fun w hw => by (go_simp; try simp), fun a1 ha => ?_⟩
              simp only [Act.put, List.setIfInBounds_toArray, List.set_cons_succ, List.set_cons_zero] at ha; subst ha
              refine wt_take 14 rfl (by kernel_rfl) (by kernel_rfl) (by kernel_rfl) (fun _ _ _ _ h => h) rfl hC ⟨_, fun w hw => by (go_simp; try with_reducible rfl), fun a1 ha => ?_⟩
              simp only [Act.put, List.setIfInBounds_toArray, List.set_cons_succ, List.set_cons_zero] at ha; subst ha
              refine wt_take 15 rfl (by kernel_rfl) (by kernel_rfl) (by kernel_rfl) (fun _ _ _ _ h => h) rfl hC ⟨_, fun w hw => by (go_simp; try with_reducible rfl), fun a1 ha => ?_⟩
              simp only [Act.put, List.setIfInBounds_toArray, List.set_cons_succ, List.set_cons_zero] at ha; subst ha
              refine wt_take 16 rfl (by kernel_rfl) (by kernel_rfl) (by kernel_rfl) (fun _ _ _ _ h => h) rfl hC ⟨_, fun w hw => by (go_simp; try with_reducible rfl), fun a1 ha => ?_⟩
              simp only [Act.put, List.setIfInBounds_toArray, List.set_cons_succ, List.set_cons_zero] at ha; subst ha
              refine wt_one 17 (by kernel_rfl) ?_
              refine wt_call0 hs rfl rfl (by go_simp) (HU1.out _ (hs.get 1 rfl)) (by simp only [Act.put, List.setIfInBounds_toArray, List.set_cons_succ, List.set_cons_zero]; rfl) ?_
              clear hs; intro w1 hs
              refine wt_and (hs.sub (by repeat (first | exact List.Sublist.refl _ | refine List.Sublist.cons_cons _ ?_ | refine List.Sublist.cons _ ?_))) fun hC => ?_
              refine wt_take 18 rfl (by kernel_rfl) (by kernel_rfl) (by kernel_rfl) (fun _ _ _ _ h => h) rfl hC ⟨.bool false, fun w hw => by go_simp, fun a1 ha => ?_⟩
              simp only [Act.put, List.setIfInBounds_toArray, List.set_cons_succ, List.set_cons_zero] at ha; subst ha
              refine wt_take 19 rfl (by kernel_rfl) (by kernel_rfl) (by kernel_rfl) (fun _ _ _ _ h => h) rfl hC ⟨_, fun w hw => by (go_simp; try with_reducible rfl), fun a1 ha => ?_⟩
              simp only [Act.put, List.setIfInBounds_toArray, List.set_cons_succ, List.set_cons_zero] at ha; subst ha
              refine wt_done (by kernel_rfl) ?_
              skip
              clear hC
              go_wp2
              go_roundw
              case rel => exact ⟨k + 1, I', by omega, by go_num, by rw [HL.out], hI1', hs⟩
              case measure => simp [intOf]; omega
          · have hyI1 : (t : Int) < 2 := by omega
            clear hx1 hy
            go_upto_region 32 with (first
              | ((with_reducible refine at_load rfl ?_); refine wl_load1 hs rfl rfl Tryd.underlying3 rfl rfl 2 rfl rfl ?_)
              | (go_at_call 24; refine (HTK.out _ (hs.get 1 rfl)).mono ?_; rintro e w2 ⟨rfl, hc⟩; replace hs := hs.call0 hc; clear hc))
            generalize I = I' at *
            obtain ⟨z, hz⟩ : ∃ z, usedI m I' (t : Int) = z := ⟨_, rfl⟩
            have HU := Lib.hid (fun w h => used_any (p := p) (b := b) (bs := bs) (i := ii) (is := is) (q := q) (n := n) (m := m) (w := w) (B := B0) (I := I') (t : Int) h4 h)
            have HU1 := Lib.hid (fun w h => used_any (p := p) (b := b) (bs := bs) (i := ii) (is := is) (q := q) (n := n) (m := m) (w := w) (B := B0) (I := I') 1 h4 h)
            rw [show usedI m I' 1 = true by rw [usedI, if_pos ⟨by omega, by omega⟩]; exact hI1'] at HU1
            have HM := Lib.hid (fun w h => room_any (p := p) (b := b) (bs := bs) (i := ii) (is := is) (q := q) (n := n) (m := m) (w := w) h2 h4 B0_two (I := I') h)
            rw [roomV, HL.out] at HM
            rw [hz] at HU
            have HZ := Lib.hid hz
            clear hz
            generalize cntP (rB n m B0) n = rb at HM
            generalize cntP (fL n m B0) n = rl at HM
            refine wt_enter 20 rfl hs (by kernel_rfl) ?_
            clear hs; intro w1 hs; have hC := hs
            refine wt_take 0 rfl (by kernel_rfl) (by kernel_rfl) (by kernel_rfl) (fun _ _ _ _ h => h) rfl hC ⟨_, fun w hw => by (go_simp; try with_reducible rfl), fun a1 ha => ?_⟩
            simp only [Act.put, List.setIfInBounds_toArray, List.set_cons_succ, List.set_cons_zero] at ha; subst ha
            refine wt_take 1 rfl (by kernel_rfl) (by kernel_rfl) (by kernel_rfl) (fun _ _ _ _ h => h) rfl hC ⟨_, fun w hw => by (go_simp; try with_reducible rfl), fun a1 ha => ?_⟩
            simp only [Act.put, List.setIfInBounds_toArray, List.set_cons_succ, List.set_cons_zero] at ha; subst ha
            refine wt_take 3 rfl (by kernel_rfl) (by kernel_rfl) (by kernel_rfl) (fun _ _ _ _ h => h) rfl hC ⟨_, fun w hw => by (go_simp; try with_reducible rfl), fun a1 ha => ?_⟩
            simp only [Act.put, List.setIfInBounds_toArray, List.set_cons_succ, List.set_cons_zero] at ha; subst ha
            refine wt_take 4 rfl (by kernel_rfl) (by kernel_rfl) (by kernel_rfl) (fun _ _ _ _ h => h) rfl hC ⟨_, fun w hw => by (go_simp; try with_reducible rfl), fun a1 ha => ?_⟩
            simp only [Act.put, List.setIfInBounds_toArray, List.set_cons_succ, List.set_cons_zero] at ha; subst ha
            refine wt_take 5 rfl (by kernel_rfl) (by kernel_rfl) (by kernel_rfl) (fun _ _ _ _ h => h) rfl hC ⟨_, fun w hw => ex_index1 rfl Tryd.underlying46 size4 rfl rfl t rfl ht rfl, fun a1 ha => ?_⟩
            simp only [Act.put, List.setIfInBounds_toArray, List.set_cons_succ, List.set_cons_zero] at ha; subst ha
            refine wt_take 6 rfl (by kernel_rfl) (by kernel_rfl) (by kernel_rfl) (fun _ _ _ _ h => h) rfl hC ⟨.bool z, fun w hw => ex_load1 rfl Tryd.underlying4 rfl rfl (by rw [cell_of_row w _ _ _ _ (0, 0) (hw.getB 0 rfl)]; exact uI_at ht HZ.out), fun a1 ha => ?_⟩
            simp only [Act.put, List.setIfInBounds_toArray, List.set_cons_succ, List.set_cons_zero] at ha; subst ha
            refine wt_one 2 (by kernel_rfl) ?_
            refine wt_call0 hs rfl rfl (by go_simp) (HU.out _ (hs.get 1 rfl)) (by simp only [Act.put, List.setIfInBounds_toArray, List.set_cons_succ, List.set_cons_zero]; rfl) ?_
            clear hs; intro w1 hs
            refine wt_and (hs.sub (by repeat (first | exact List.Sublist.refl _ | refine List.Sublist.cons_cons _ ?_ | refine List.Sublist.cons _ ?_))) fun hC => ?_
            refine wt_take 7 rfl (by kernel_rfl) (by kernel_rfl) (by kernel_rfl) (fun _ _ _ _ h => h) rfl hC ⟨.bool false, fun w hw => by (go_simp; try simp), fun a1 ha => ?_⟩
            simp only [Act.put, List.setIfInBounds_toArray, List.set_cons_succ, List.set_cons_zero] at ha; subst ha
            refine wt_take 8 rfl (by kernel_rfl) (by kernel_rfl) (by kernel_rfl) (fun _ _ _ _ h => h) rfl hC ⟨_, fun w hw => by (go_simp; try with_reducible rfl), fun a1 ha => ?_⟩
            simp only [Act.put, List.setIfInBounds_toArray, List.set_cons_succ, List.set_cons_zero] at ha; subst ha
            refine wt_take 9 rfl (by kernel_rfl) (by kernel_rfl) (by kernel_rfl) (fun _ _ _ _ h => h) rfl hC ⟨_, fun w hw => by (go_simp; try with_reducible rfl), fun a1 ha => ?_⟩
            simp only [Act.put, List.setIfInBounds_toArray, List.set_cons_succ, List.set_cons_zero] at ha; subst ha
            refine wt_take 12 rfl (by kernel_rfl) (by kernel_rfl) (by kernel_rfl) (fun _ _ _ _ h => h) rfl hC ⟨_, fun w hw => by (go_simp; try with_reducible rfl), fun a1 ha => ?_⟩
            simp only [Act.put, List.setIfInBounds_toArray, List.set_cons_succ, List.set_cons_zero] at ha; subst ha
            refine wt_one 10 (by kernel_rfl) ?_
            refine wt_call0 hs rfl rfl (by go_simp) (HM.out _ (hs.get 1 rfl)) (by simp only [Act.put, List.setIfInBounds_toArray, List.set_cons_succ, List.set_cons_zero]; rfl) ?_
            clear hs; intro w1 hs
            refine wt_and (hs.sub (by repeat (first | exact List.Sublist.refl _ | refine List.Sublist.cons_cons _ ?_ | refine List.Sublist.cons _ ?_))) fun hC => ?_
            refine wt_take 11 rfl (by kernel_rfl) (by kernel_rfl) (by kernel_rfl) (fun _ _ _ _ h => h) rfl hC ⟨.int .i64 ((l : Nat) : Int), fun w hw => by (go_simp; rw [field40_2]; rfl), fun a1 ha => ?_⟩
            simp only [Act.put, List.setIfInBounds_toArray, List.set_cons_succ, List.set_cons_zero] at ha; subst ha
            refine wt_take 13 rfl (by kernel_rfl) (by kernel_rfl) (by kernel_rfl) (fun _ _ _ _ h => h) rfl hC ⟨.bool false, fun w hw => by (go_simp; try simp), fun a1 ha => ?_⟩
            simp only [Act.put, List.setIfInBounds_toArray, List.set_cons_succ, List.set_cons_zero] at ha; subst ha
            refine wt_take 14 rfl (by kernel_rfl) (by kernel_rfl) (by kernel_rfl) (fun _ _ _ _ h => h) rfl hC ⟨_, fun w hw => by (go_simp; try with_reducible rfl), fun a1 ha => ?_⟩
            simp only [Act.put, List.setIfInBounds_toArray, List.set_cons_succ, List.set_cons_zero] at ha; subst ha
            refine wt_take 15 rfl (by kernel_rfl) (by kernel_rfl) (by kernel_rfl) (fun _ _ _ _ h => h) rfl hC ⟨_, fun w hw => by (go_simp; try with_reducible rfl), fun a1 ha => ?_⟩
            simp only [Act.put, List.setIfInBounds_toArray, List.set_cons_succ, List.set_cons_zero] at ha; subst ha
            refine wt_take 16 rfl (by kernel_rfl) (by kernel_rfl) (by kernel_rfl) (fun _ _ _ _ h => h) rfl hC ⟨_, fun w hw => by (go_simp; try with_reducible rfl), fun a1 ha => ?_⟩
            simp only [Act.put, List.setIfInBounds_toArray, List.set_cons_succ, List.set_cons_zero] at ha; subst ha
            refine wt_one 17 (by kernel_rfl) ?_
            refine wt_call0 hs rfl rfl (by go_simp) (HU1.out _ (hs.get 1 rfl)) (by simp only [Act.put, List.setIfInBounds_toArray, List.set_cons_succ, List.set_cons_zero]; rfl) ?_
            clear hs; intro w1 hs
            refine wt_and (hs.sub (by repeat (first | exact List.Sublist.refl _ | refine List.Sublist.cons_cons _ ?_ | refine List.Sublist.cons _ ?_))) fun hC => ?_
            refine wt_take 18 rfl (by kernel_rfl) (by kernel_rfl) (by kernel_rfl) (fun _ _ _ _ h => h) rfl hC ⟨.bool false, fun w hw => by go_simp, fun a1 ha => ?_⟩
            simp only [Act.put, List.setIfInBounds_toArray, List.set_cons_succ, List.set_cons_zero] at ha; subst ha
            refine wt_take 19 rfl (by kernel_rfl) (by kernel_rfl) (by kernel_rfl) (fun _ _ _ _ h => h) rfl hC ⟨_, fun w hw => by (go_simp; try with_reducible rfl), fun a1 ha => ?_⟩
            simp only [Act.put, List.setIfInBounds_toArray, List.set_cons_succ, List.set_cons_zero] at ha; subst ha
            refine wt_done (by kernel_rfl) ?_
            skip
            clear hC
            go_wp2
            go_roundw
            case rel => exact ⟨k + 1, I', by omega, by go_num, by rw [HL.out], hI1', hs⟩
            case measure => simp [intOf]; omega
    · obtain rfl : k = N := by omega
      go_wp2
      go_ret
      exact ⟨rfl, hs.letgo⟩
theorem inodes_walk (x0 x1 : Int) (N cap : Nat) (G : Nat → Int) (ao : Option Addr) (db doff : Nat) (w : World) (hN : N ≤ 9223372036854775807)
    (hao : 0 < N → ao = some ⟨db, doff, none⟩) (hrd : Rd w db doff N fun j => .int .i64 (G j)) (hb : ∀ j, j < N → -9223372036854775808 ≤ G j ∧ G j ≤ 9223372036854775807)
    (h0 : -9223372036854775808 ≤ x0 ∧ x0 ≤ 9223372036854775807) (h1 : -9223372036854775808 ≤ x1 ∧ x1 ≤ 9223372036854775807) (hR : Rd w 0 0 64 tabV) :
    Calls Tryd.prog 4 #[.int .i64 x0, .int .i64 x1, .slice ao N cap] w fun e w' => e = .returned (.bool true) ∧ Below w.heap.size w w' := by
  obtain ⟨n, m, hmay, HS⟩ := super_any x0 x1 h0 h1
  exact (inodes_core n m N cap x0 x1 G ao db doff w hmay hN hao hrd hb (Lib.hid HS) hR).mono fun e w' ⟨he, ht⟩ => ⟨he, ht.below⟩
end Go.Proofs.YtfedfdcbhggipaaDoor
