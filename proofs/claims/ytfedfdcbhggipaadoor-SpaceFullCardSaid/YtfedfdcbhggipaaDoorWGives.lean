/- SpaceGives: the walk. -/
import Derived.Test.YtfedfdcbhggipaaDoorWInodes
namespace Go.Proofs.YtfedfdcbhggipaaDoor
set_option linter.unusedVariables false
set_option linter.unusedSimpArgs false
open Go Go.Sp Go.RowKit Go.BigFrame

/-- in use, not told to Later. -/
def f1 (n m : Nat) (B : Nat → Nat) : Nat → Bool := fun k => decide (k < n) && (decide (m < k) && decide (B k = 1))
section
variable {n m k : Nat} {B : Nat → Nat}
theorem f1_in (h : k < n) (hm : m < k) : f1 n m B k = decide (B k = 1) := by
  simp only [f1]; rw [decide_eq_true h, decide_eq_true hm]; rfl
theorem f1_set (h : k < n) (hm : m < k) : updP (f1 n m B) k true = f1 n m (setB B k 1) := by
  funext j
  simp only [updP]
  by_cases hj : j = k
  · subst hj
    rw [if_pos rfl, f1_in h hm, setB_at]; simp
  · rw [if_neg hj]; simp only [f1]; rw [setB_off hj]
theorem f1_clear : updP (f1 n m B) k false = f1 n m (setB B k 2) := by
  funext j
  simp only [updP]
  by_cases hj : j = k
  · subst hj
    rw [if_pos rfl]; simp only [f1]; rw [setB_at]; simp
  · rw [if_neg hj]; simp only [f1]; rw [setB_off hj]
theorem f1_same {v : Nat} (hB : B k ≠ 1) (hv : v ≠ 1) : f1 n m (setB B k v) = f1 n m B := by
  funext j
  simp only [f1]
  by_cases hj : j = k
  · subst hj; rw [setB_at, decide_eq_false hv, decide_eq_false hB]
  · rw [setB_off hj]
theorem used_room : ∀ j, j ≤ n → cntP (f1 n m B) j + cntP (rB n m B) j = j - (m + 1)
  | 0, _ => by simp [cntP]
  | j + 1, h => by
    have ih := used_room j (by omega)
    simp only [cntP]
    by_cases hm : m < j
    · rw [f1_in (by omega) hm]
      simp only [rB, decide_eq_true hm, Bool.true_and]
      by_cases e : B j = 1 <;> simp [e] <;> omega
    · simp only [rB, f1, decide_eq_false hm, Bool.false_and, Bool.and_false]
      simp; omega
theorem free_counts (hB : ∀ j, B j ≤ 2) (hmn : m + 1 ≤ n) : cntP (fB n m B) n = m + 1 + cntP (f1 n m B) n + cntP (fL n m B) n := by
  have h1 := room_blocks (n := n) (m := m) hB n (Nat.le_refl _)
  have h2 := used_room (n := n) (m := m) (B := B) n (Nat.le_refl _)
  omega
theorem free_some (hB : ∀ j, B j ≤ 2) (hmn : m + 1 ≤ n) (hm : m < k) (hk : k < n) (h0 : B k = 0) : cntP (f1 n m B) n + cntP (fL n m B) n < n - m - 1 := by
  have h1 := free_counts hB hmn
  have h2 := cntP_le (fB n m B) n
  have h3 : cntP (fB n m B) n ≠ n := fun e => by
    have := cntP_all e k hk
    rw [fB_in hk hm, h0] at this; simp at this
  omega
theorem free_none (hB : ∀ j, B j ≤ 2) (hmn : m + 1 ≤ n) (hall : ∀ j, m < j → j < n → B j ≠ 0) : cntP (f1 n m B) n + cntP (fL n m B) n = n - m - 1 := by
  have h1 := free_counts hB hmn
  have h2 : cntP (fB n m B) n = n := cntP_full fun j hj => by
    rcases Nat.lt_or_ge m j with h | h
    · rw [fB_in hj h]; simpa using hall j h hj
    · exact fB_low hj h
  omega
theorem one_take (hm : m < k) (hk : k < n) (h0 : B k = 0) : cntP (f1 n m (setB B k 1)) n = cntP (f1 n m B) n + 1 ∧ cntP (fL n m (setB B k 1)) n = cntP (fL n m B) n := by
  refine ⟨?_, by rw [fL_same (by omega) (by omega)]⟩
  have h := cntP_upd (f1 n m B) k true n
  rw [if_pos hk, if_pos hk, f1_set hk hm, f1_in hk hm, h0] at h
  simpa using h
theorem one_later (hm : m < k) (hk : k < n) (h0 : B k = 1) : cntP (f1 n m (setB B k 2)) n + 1 = cntP (f1 n m B) n ∧ cntP (fL n m (setB B k 2)) n = cntP (fL n m B) n + 1 := by
  have h := cntP_upd (f1 n m B) k false n
  have h2 := cntP_upd (fL n m B) k true n
  rw [if_pos hk, if_pos hk, f1_clear, f1_in hk hm, h0] at h
  rw [if_pos hk, if_pos hk, fL_set hk hm, fL_in hk hm, h0] at h2
  exact ⟨by simpa using h, by simpa using h2⟩
theorem one_landed (hm : m < k) (hk : k < n) (h0 : B k = 2) : cntP (f1 n m (setB B k 0)) n = cntP (f1 n m B) n ∧ cntP (fL n m (setB B k 0)) n + 1 = cntP (fL n m B) n := by
  have h2 := cntP_upd (fL n m B) k false n
  rw [if_pos hk, if_pos hk, fL_clear, fL_in hk hm, h0] at h2
  exact ⟨by rw [f1_same (by omega) (by omega)], by simpa using h2⟩
theorem rowB_at {j N v : Nat} (h : j < N) (hb : B j = v) : (rowOf N (rowB B))[j]? = some (.int .i64 (v : Nat)) := by
  rw [rowOf_get h, rowB, hb]
theorem rowB_put {r N : Nat} (v : Nat) : ∀ j, j < N → (if j = r then .int .i64 (v : Nat) else rowB B j) = rowB (setB B r v) j := by
  intro j _
  simp only [rowB, setB]
  split <;> rfl
theorem zmakeW (m0 i : Nat) (_ : i < m0) : (Value.int .i64 0).cells[i % (Value.int .i64 0).cells.size]! = rowB B0 i := by
  have e : i % (Value.int .i64 0).cells.size = 0 := Nat.mod_one i
  rw [e]; rfl
end
@[reducible] noncomputable def givL (ub p b bs i is q xb n m : Nat) (B : Nat → Nat) : List Res :=
  [Res.blk ub (rowOf n (rowB B)) 3, spaceR p b bs i is q n m B I0, Res.blk xb #[.int .i64 n, .int .i64 m] 23]
theorem f1_B0 (n m : Nat) : cntP (f1 n m B0) n = 0 := cntP_zero fun j hj => by simp [f1, B0]
theorem fL_B0 (n m : Nat) : cntP (fL n m B0) n = 0 := cntP_zero fun j hj => by simp [fL, B0]

set_option maxRecDepth 100000 in
set_option maxHeartbeats 8000000 in
theorem gives_core (n m N cap : Nat) (x0 x1 : Int) (G : Nat → Int) (ao : Option Addr) (db doff : Nat) (w : World) (hmay : 8 ≤ n ∧ n ≤ 4096 ∧ 1 ≤ m ∧ m ≤ 512 ∧ m + 2 ≤ n)
    (hN : N ≤ 9223372036854775807) (hao : 0 < N → ao = some ⟨db, doff, none⟩) (hG : Rd w db doff N fun j => .int .i64 (G j)) (hGb : ∀ j, j < N → -9223372036854775808 ≤ G j ∧ G j ≤ 9223372036854775807)
    (HS : Hid (∀ w, Calls Tryd.prog 21 #[.int .i64 x0, .int .i64 x1] w fun e w' => e = .returned (.agg #[.int .i64 n, .int .i64 m]) ∧ Tr w [] w' [])) (hR : Rd w 0 0 64 tabV) :
    Calls Tryd.prog 5 #[.int .i64 x0, .int .i64 x1, .slice ao N cap] w fun e w' => e = .returned (.bool true) ∧ Tr w [] w' [] := by
  have hs := Tr.refl w []
  have HR := Lib.hid hR
  have HA := Lib.hid hao
  have HG := Lib.hid hG
  have HB := Lib.hid hGb
  have HMAY := Lib.hid hmay
  obtain ⟨h1, h2, h3, h4, h5⟩ := hmay
  clear hR hao hG hGb
  go_enter Tryd.func5, Tryd.ntmps5
  go_upto_region 6 with (first
    | ((with_reducible refine (at_alloc (t := 23)) rfl ?_); refine wl_allocA hs rfl rfl zero23 ?_; clear hs; intro w1 xb hs)
    | ((with_reducible refine at_store rfl ?_); refine wl_storeA hs rfl rfl rfl rfl size23 (by simp [Value.oneCell']) 0 rfl rfl ?_; clear hs; intro w1 hs)
    | ((with_reducible refine (at_load (t := 23)) rfl ?_); refine wl_loadA hs rfl rfl Tryd.underlying23 rfl rfl 0 rfl size23 ?_)
    | (go_at_call 9; refine (awake_any _ (HR.out.keep hs)).mono ?_; rintro e w2 ⟨rfl, hc⟩; replace hs := hs.call0 hc; clear hc)
    | (go_at_call 21; refine (HS.out _).mono ?_; rintro e w2 ⟨rfl, hc⟩; replace hs := hs.call0 hc; clear hc)
    | (go_at_call 11; refine (new_nil HMAY.out).mono ?_; rintro e w2 ⟨p, b, bs, ii, is, q, rfl, hc⟩; replace hs := hs.call1 hc; clear hc))
  go_upto_region 7 with (first
    | ((with_reducible refine at_load rfl ?_); refine wl_load1 hs rfl rfl Tryd.underlying3 rfl rfl 1 rfl rfl ?_)
    | ((with_reducible refine at_mk rfl ?_); refine wl_make hs rfl rfl Tryd.underlying24 info3 n rfl rfl rfl (by omega) (by omega) (rowB B0) (zmakeW _) ?_; rw [Nat.mul_one]; clear hs; intro w1 ub hs))
  go_upto_region 8 with (first | ((with_reducible refine at_load rfl ?_); refine wl_load1 hs rfl rfl Tryd.underlying3 rfl rfl 2 rfl rfl ?_))
  obtain ⟨a, ha, haI⟩ : ∃ a : Nat, 1 ≤ a ∧ (n : Int) - m - 1 = a := ⟨n - m - 1, by omega, by omega⟩
  rw [haI]
  go_wp2_with fail
  go_loopw [13, 14, 15] (fun u l i wr => ∃ (k : Nat) (B : Nat → Nat), k ≤ N ∧ i = .int .i64 k ∧ u = .int .i64 ((cntP (f1 n m B) n : Nat) : Int) ∧ l = .int .i64 ((cntP (fL n m B) n : Nat) : Int) ∧ (∀ j, B j ≤ 2) ∧ Tr w [] wr (givL ub p b bs ii is q xb n m B)) (fun _ _ i _ => N - (intOf i).toNat)
  case atStart => exact ⟨0, B0, Nat.zero_le _, rfl, by rw [f1_B0]; rfl, by rw [fL_B0]; rfl, B0_two, hs⟩
  case round =>
    clear hs
    obtain ⟨k, B, hk, rfl, rfl, rfl, hB2, hs⟩ := hrel
    by_cases hlt : k < N
    · have hltI : (k : Int) < N := by omega
      obtain rfl := HA.out (by omega)
      have hx := HB.out k hlt
      have HX : Hid (∀ {w1 : World} {L : List Res}, Tr w [] w1 L → w1.cell? ⟨db, doff + k, none⟩ = some (.int .i64 (G k))) := Lib.hid fun h => HG.out.keep h k hlt
      obtain ⟨t, ht, HT⟩ := pick_nat ((G k).tdiv 4) a ha (by omega) (tdiv_bd _ 4 (by omega) hx) (a : Int) rfl
      obtain ⟨c, hc3, HC⟩ := pick_nat (G k) 4 (by omega) (by omega) hx 4 rfl
      have hq := tdiv_bd (G k) 4 (by omega) hx
      generalize G k = x at *
      obtain ⟨r, hr⟩ : ∃ r, m + 1 + t = r := ⟨_, rfl⟩
      have hrm : m < r := by omega
      have hrn : r < n := by omega
      obtain ⟨U, hU⟩ : ∃ U, cntP (f1 n m B) n = U := ⟨_, rfl⟩
      obtain ⟨L, hL⟩ : ∃ L, cntP (fL n m B) n = L := ⟨_, rfl⟩
      have hUb := cntP_le (f1 n m B) n
      have hLb := cntP_le (fL n m B) n
      rw [hU] at hUb
      rw [hL] at hLb
      rw [hU, hL]
      have HU0 := Lib.hid hU
      have HL0 := Lib.hid hL
      have HB2 := Lib.hid hB2
      clear hU hL hB2
      go_upto_region 13 with fail
      refine wt_enter 12 rfl hs (by kernel_rfl) ?_
      clear hs; intro w1 hs; have hC := hs
      refine wt_take 0 rfl (by kernel_rfl) (by kernel_rfl) (by kernel_rfl) (fun _ _ _ _ h => h) rfl hC ⟨_, fun w hw => by (go_simp; try with_reducible rfl), fun a1 ha => ?_⟩
      simp only [Act.put, List.setIfInBounds_toArray, List.set_cons_succ, List.set_cons_zero] at ha; subst ha
      refine wt_take 1 rfl (by kernel_rfl) (by kernel_rfl) (by kernel_rfl) (fun _ _ _ _ h => h) rfl hC ⟨_, fun w hw => ex_load1 rfl Tryd.underlying3 rfl rfl (by rw [cell_of_row w _ _ _ _ (0, 0) (hw.getB 2 rfl)]; rfl), fun a1 ha => ?_⟩
      simp only [Act.put, List.setIfInBounds_toArray, List.set_cons_succ, List.set_cons_zero] at ha; subst ha
      refine wt_take 2 rfl (by kernel_rfl) (by kernel_rfl) (by kernel_rfl) (fun _ _ _ _ h => h) rfl hC ⟨.int .i64 ((m : Int) + 1), fun w hw => by (go_simp; first | done | exact wrap_in (by omega) | go_num), fun a1 ha => ?_⟩
      simp only [Act.put, List.setIfInBounds_toArray, List.set_cons_succ, List.set_cons_zero] at ha; subst ha
      refine wt_take 3 rfl (by kernel_rfl) (by kernel_rfl) (by kernel_rfl) (fun _ _ _ _ h => h) rfl hC ⟨_, fun w hw => by (go_simp; try with_reducible rfl), fun a1 ha => ?_⟩
      simp only [Act.put, List.setIfInBounds_toArray, List.set_cons_succ, List.set_cons_zero] at ha; subst ha
      refine wt_take 4 rfl (by kernel_rfl) (by kernel_rfl) (by kernel_rfl) (fun _ _ _ _ h => h) rfl hC ⟨_, fun w hw => by (go_simp; try with_reducible rfl), fun a1 ha => ?_⟩
      simp only [Act.put, List.setIfInBounds_toArray, List.set_cons_succ, List.set_cons_zero] at ha; subst ha
      refine wt_take 5 rfl (by kernel_rfl) (by kernel_rfl) (by kernel_rfl) (fun _ _ _ _ h => h) rfl hC ⟨_, fun w hw => ex_indexS rfl Tryd.underlying24 size3 rfl rfl k rfl hlt rfl, fun a1 ha => ?_⟩
      simp only [Act.put, List.setIfInBounds_toArray, List.set_cons_succ, List.set_cons_zero] at ha; subst ha
      refine wt_take 6 rfl (by kernel_rfl) (by kernel_rfl) (by kernel_rfl) (fun _ _ _ _ h => h) rfl hC ⟨.int .i64 x, fun w hw => ex_load1 rfl Tryd.underlying3 rfl rfl (by rw [Nat.mul_one]; exact HX.out hw), fun a1 ha => ?_⟩
      simp only [Act.put, List.setIfInBounds_toArray, List.set_cons_succ, List.set_cons_zero] at ha; subst ha
      refine wt_take 7 rfl (by kernel_rfl) (by kernel_rfl) (by kernel_rfl) (fun _ _ _ _ h => h) rfl hC ⟨.int .i64 (x.tdiv 4), fun w hw => by (go_simp; exact wrap_in (by omega)), fun a1 ha => ?_⟩
      simp only [Act.put, List.setIfInBounds_toArray, List.set_cons_succ, List.set_cons_zero] at ha; subst ha
      refine wt_take 8 rfl (by kernel_rfl) (by kernel_rfl) (by kernel_rfl) (fun _ _ _ _ h => h) rfl hC ⟨_, fun w hw => by (go_simp; try with_reducible rfl), fun a1 ha => ?_⟩
      simp only [Act.put, List.setIfInBounds_toArray, List.set_cons_succ, List.set_cons_zero] at ha; subst ha
      refine wt_one 9 (by kernel_rfl) ?_
      refine wt_callE hs rfl rfl (by go_simp) (HT.out _) (by simp only [Act.put, List.setIfInBounds_toArray, List.set_cons_succ, List.set_cons_zero]; rfl) ?_
      clear hs; intro w1 hs
      refine wt_and (hs.sub (by repeat (first | exact List.Sublist.refl _ | refine List.Sublist.cons_cons _ ?_ | refine List.Sublist.cons _ ?_))) fun hC => ?_
      refine wt_take 10 rfl (by kernel_rfl) (by kernel_rfl) (by kernel_rfl) (fun _ _ _ _ h => h) rfl hC ⟨.int .i64 ((r : Nat) : Int), fun w hw => by (go_simp; exact (wrap_in (by omega)).trans (by omega)), fun a1 ha => ?_⟩
      simp only [Act.put, List.setIfInBounds_toArray, List.set_cons_succ, List.set_cons_zero] at ha; subst ha
      refine wt_take 11 rfl (by kernel_rfl) (by kernel_rfl) (by kernel_rfl) (fun _ _ _ _ h => h) rfl hC ⟨_, fun w hw => by (go_simp; try with_reducible rfl), fun a1 ha => ?_⟩
      simp only [Act.put, List.setIfInBounds_toArray, List.set_cons_succ, List.set_cons_zero] at ha; subst ha
      refine wt_done (by kernel_rfl) ?_
      skip
      clear hC hq hx
      obtain ⟨ri, hri, hriI⟩ : ∃ ri : Nat, cntP (rI I0) (m + 1) = ri ∧ (m : Int) - 1 = ri := by
        obtain ⟨m', rfl⟩ : ∃ m', m = m' + 1 := ⟨m - 1, by omega⟩
        exact ⟨m', left_I0 m', by omega⟩
      have HRI := Lib.hid hri
      clear hri
      rcases (by omega : c = 0 ∨ c = 1 ∨ c = 2 ∨ c = 3) with rfl | rfl | rfl | rfl
      · go_upto_region 23 with (first
          | ((with_reducible refine (at_load (t := 3)) rfl ?_); refine wl_loadC rfl rfl Tryd.underlying3 rfl rfl (HX.out hs) ?_)
          | (go_at_call 22; refine (HC.out _).mono ?_; rintro e w2 ⟨rfl, rfl⟩))
        as_aux_lemma =>
          rcases free_ex n m B with ⟨f, hf1, hf2, hf0, hfu⟩ | hall
          · have hULf : (U : Int) + L < a := by have := free_some HB2.out (by omega) hf1 hf2 hf0; rw [HU0.out, HL0.out] at this; omega
            have HTK := Lib.hid (fun w hR h => take_yes (p := p) (b := b) (bs := bs) (i := ii) (is := is) (q := q) (n := n) (m := m) (w := w) (B := B) (I := I0) f h2 hf1 hf2 hf0 hfu hR h)
            have HFU := Lib.hid hfu
            have hone := one_take hf1 hf2 hf0
            have HE := Lib.hid (rowB_at hf2 hf0)
            have HPUT := Lib.hid (rowB_put (B := B) (r := f) (N := n) 1)
            have HT2 := Lib.hid (setB_two (k := f) (v := 1) HB2.out (by omega))
            have hfm : (m : Int) < f := by omega
            have hfn : (f : Int) < n := by omega
            have hfm3 : decide (f ≤ m) = false := decide_eq_false (by omega)
            have hfn3 : decide (n ≤ f) = false := decide_eq_false (by omega)
            have hfm2 : decide ((f : Int) ≤ m) = false := decide_eq_false (by omega)
            have hfn2 : decide ((n : Int) ≤ f) = false := decide_eq_false (by omega)
            generalize setB B f 1 = B' at *
            rw [HU0.out, HL0.out] at hone
            obtain ⟨U', hU'⟩ : ∃ U', cntP (f1 n m B') n = U' := ⟨_, rfl⟩
            have hL' := hone.2
            have hone := hone.1
            rw [hU'] at hone
            have q1 : (U : Int) + 1 = U' := by omega
            have Q1 := Lib.hid q1
            have hUL := used_room (n := n) (m := m) (B := B') n (Nat.le_refl _)
            rw [hU'] at hUL
            have HU1 := Lib.hid hU'
            have HL1 := Lib.hid hL'
            clear q1 hone hU' hL' hf0 hfu
            go_upto_region 30 with (first
              | ((with_reducible refine at_load rfl ?_); refine wl_load1 hs rfl rfl Tryd.underlying3 rfl rfl 2 rfl rfl ?_)
              | ((with_reducible refine (at_load (t := 3)) rfl ?_); refine wl_load1 hs rfl rfl Tryd.underlying3 rfl rfl 0 rfl HE.out ?_)
              | (go_at_call 19; refine (HTK.out _ (HR.out.keep hs) (hs.get 1 rfl)).mono ?_; rintro e w2 ⟨rfl, hc⟩; replace hs := hs.upd 1 rfl hc; clear hc))
            go_loopw [19] (fun v wr => ∃ j : Nat, m + 1 ≤ j ∧ j ≤ f ∧ v = .int .i64 j ∧ Tr w [] wr [Res.blk ub (rowOf n (rowB B)) 3, spaceR p b bs ii is q n m B' I0, Res.blk xb #[.int .i64 n, .int .i64 m] 23]) (fun v _ => f - (intOf v).toNat)
            case atStart => exact ⟨m + 1, Nat.le_refl _, hf1, by go_num, hs⟩
            case round =>
              clear hs
              obtain ⟨j, hj1, hj2, rfl, hs⟩ := hrel
              by_cases hjf : j < f
              · have hjfI : (j : Int) < f := by omega
                have hv := HFU.out j (by omega) hjf
                have hv2 := HB2.out j
                rcases (by omega : B j = 1 ∨ B j = 2) with e | e
                all_goals
                  have HJ := Lib.hid (rowB_at (show j < n by omega) e)
                  clear hv hv2 e
                  go_wp2_with (first
                    | ((with_reducible refine (at_load (t := 3)) rfl ?_); refine wl_load1 hs rfl rfl Tryd.underlying3 rfl rfl 0 rfl HJ.out ?_))
                  go_roundw
                  case rel => exact ⟨j + 1, by omega, by omega, by go_num, hs⟩
                  case measure => simp [intOf]; omega
              · obtain rfl : j = f := by omega
                clear hjf
                go_upto_region 44 with (first
                  | ((with_reducible refine at_store rfl ?_); refine wl_store1R hs rfl rfl size3 rfl rfl rfl 0 rfl (by omega) (rowB B') HPUT.out ?_; clear hs; intro w1 hs))
                rw [Q1.out]
                obtain ⟨L', hLL⟩ : ∃ L', L = L' := ⟨_, rfl⟩
                subst hLL
                generalize L = L' at *
                have HM := Lib.hid (fun w h => room_any (p := p) (b := b) (bs := bs) (i := ii) (is := is) (q := q) (n := n) (m := m) (w := w) h2 h4 HT2.out (I := I0) h)
                rw [roomV, HL1.out, HRI.out] at HM
                generalize cntP (rB n m B') n = rb at HM hUL
                refine wt_enter 11 rfl hs (by kernel_rfl) ?_
                clear hs; intro w1 hs; have hC := hs
                refine wt_take 0 rfl (by kernel_rfl) (by kernel_rfl) (by kernel_rfl) (fun _ _ _ _ h => h) rfl hC ⟨_, fun w hw => by (go_simp; try with_reducible rfl), fun a1 ha => ?_⟩
                simp only [Act.put, List.setIfInBounds_toArray, List.set_cons_succ, List.set_cons_zero] at ha; subst ha
                refine wt_take 2 rfl (by kernel_rfl) (by kernel_rfl) (by kernel_rfl) (fun _ _ _ _ h => h) rfl hC ⟨_, fun w hw => by (go_simp; try with_reducible rfl), fun a1 ha => ?_⟩
                simp only [Act.put, List.setIfInBounds_toArray, List.set_cons_succ, List.set_cons_zero] at ha; subst ha
                refine wt_take 3 rfl (by kernel_rfl) (by kernel_rfl) (by kernel_rfl) (fun _ _ _ _ h => h) rfl hC ⟨_, fun w hw => by (go_simp; try with_reducible rfl), fun a1 ha => ?_⟩
                simp only [Act.put, List.setIfInBounds_toArray, List.set_cons_succ, List.set_cons_zero] at ha; subst ha
                refine wt_take 4 rfl (by kernel_rfl) (by kernel_rfl) (by kernel_rfl) (fun _ _ _ _ h => h) rfl hC ⟨.int .i64 ((rb : Nat) : Int), fun w hw => by (go_simp; exact (wrap_in (by omega)).trans (by omega)), fun a1 ha => ?_⟩
                simp only [Act.put, List.setIfInBounds_toArray, List.set_cons_succ, List.set_cons_zero] at ha; subst ha
                refine wt_take 5 rfl (by kernel_rfl) (by kernel_rfl) (by kernel_rfl) (fun _ _ _ _ h => h) rfl hC ⟨_, fun w hw => by (go_simp; try with_reducible rfl), fun a1 ha => ?_⟩
                simp only [Act.put, List.setIfInBounds_toArray, List.set_cons_succ, List.set_cons_zero] at ha; subst ha
                refine wt_take 6 rfl (by kernel_rfl) (by kernel_rfl) (by kernel_rfl) (fun _ _ _ _ h => h) rfl hC ⟨_, fun w hw => by (go_simp; try with_reducible rfl), fun a1 ha => ?_⟩
                simp only [Act.put, List.setIfInBounds_toArray, List.set_cons_succ, List.set_cons_zero] at ha; subst ha
                refine wt_take 7 rfl (by kernel_rfl) (by kernel_rfl) (by kernel_rfl) (fun _ _ _ _ h => h) rfl hC ⟨_, fun w hw => ex_load1 rfl Tryd.underlying3 rfl rfl (by rw [cell_of_row w _ _ _ _ (0, 0) (hw.getB 2 rfl)]; rfl), fun a1 ha => ?_⟩
                simp only [Act.put, List.setIfInBounds_toArray, List.set_cons_succ, List.set_cons_zero] at ha; subst ha
                refine wt_take 8 rfl (by kernel_rfl) (by kernel_rfl) (by kernel_rfl) (fun _ _ _ _ h => h) rfl hC ⟨.int .i64 ((ri : Nat) : Int), fun w hw => by (go_simp; exact (wrap_in (by omega)).trans (by omega)), fun a1 ha => ?_⟩
                simp only [Act.put, List.setIfInBounds_toArray, List.set_cons_succ, List.set_cons_zero] at ha; subst ha
                refine wt_take 9 rfl (by kernel_rfl) (by kernel_rfl) (by kernel_rfl) (fun _ _ _ _ h => h) rfl hC ⟨.agg #[.int .i64 ((rb : Nat) : Int), .int .i64 ((L' : Nat) : Int), .int .i64 ((ri : Nat) : Int)], fun w hw => by (go_simp; try rfl), fun a1 ha => ?_⟩
                simp only [Act.put, List.setIfInBounds_toArray, List.set_cons_succ, List.set_cons_zero] at ha; subst ha
                refine wt_one 1 (by kernel_rfl) ?_
                refine wt_call0 hs rfl rfl (by go_simp) (HM.out _ (hs.get 1 rfl)) (by simp only [Act.put, List.setIfInBounds_toArray, List.set_cons_succ, List.set_cons_zero]; rfl) ?_
                clear hs; intro w1 hs
                refine wt_and (hs.sub (by repeat (first | exact List.Sublist.refl _ | refine List.Sublist.cons_cons _ ?_ | refine List.Sublist.cons _ ?_))) fun hC => ?_
                refine wt_take 10 rfl (by kernel_rfl) (by kernel_rfl) (by kernel_rfl) (fun _ _ _ _ h => h) rfl hC ⟨.bool false, fun w hw => by (go_simp; try simp), fun a1 ha => ?_⟩
                simp only [Act.put, List.setIfInBounds_toArray, List.set_cons_succ, List.set_cons_zero] at ha; subst ha
                refine wt_done (by kernel_rfl) ?_
                skip
                clear hC
                go_wp2
                go_roundw
                case rel => exact ⟨k + 1, B', by omega, by go_num, by rw [HU1.out], by rw [HL1.out], HT2.out, hs⟩
                case measure => simp [intOf]; omega
          · have hULf : (a : Int) ≤ (U : Int) + L := by have := free_none HB2.out (by omega) hall; rw [HU0.out, HL0.out] at this; omega
            have HTK := Lib.hid (fun w hR h => take_no (p := p) (b := b) (bs := bs) (i := ii) (is := is) (q := q) (n := n) (m := m) (w := w) (B := B) (I := I0) h2 hall hR h)
            clear hall
            have hUL := used_room (n := n) (m := m) (B := B) n (Nat.le_refl _)
            rw [HU0.out] at hUL
            have HT2 := HB2
            have HU1 := HU0
            have HL1 := HL0
            clear HU0 HL0 HB2
            generalize B = B' at *
            generalize U = U' at *
            generalize L = L' at *
            go_upto_region 44 with (first
              | ((with_reducible refine at_load rfl ?_); refine wl_load1 hs rfl rfl Tryd.underlying3 rfl rfl 2 rfl rfl ?_)
              | (go_at_call 19; refine (HTK.out _ (HR.out.keep hs) (hs.get 1 rfl)).mono ?_; rintro e w2 ⟨rfl, hc⟩; replace hs := hs.call0 hc; clear hc))
            have HM := Lib.hid (fun w h => room_any (p := p) (b := b) (bs := bs) (i := ii) (is := is) (q := q) (n := n) (m := m) (w := w) h2 h4 HT2.out (I := I0) h)
            rw [roomV, HL1.out, HRI.out] at HM
            generalize cntP (rB n m B') n = rb at HM hUL
            refine wt_enter 11 rfl hs (by kernel_rfl) ?_
            clear hs; intro w1 hs; have hC := hs
            refine wt_take 0 rfl (by kernel_rfl) (by kernel_rfl) (by kernel_rfl) (fun _ _ _ _ h => h) rfl hC ⟨_, fun w hw => by (go_simp; try with_reducible rfl), fun a1 ha => ?_⟩
            simp only [Act.put, List.setIfInBounds_toArray, List.set_cons_succ, List.set_cons_zero] at ha; subst ha
            refine wt_take 2 rfl (by kernel_rfl) (by kernel_rfl) (by kernel_rfl) (fun _ _ _ _ h => h) rfl hC ⟨_, fun w hw => by (go_simp; try with_reducible rfl), fun a1 ha => ?_⟩
            simp only [Act.put, List.setIfInBounds_toArray, List.set_cons_succ, List.set_cons_zero] at ha; subst ha
            refine wt_take 3 rfl (by kernel_rfl) (by kernel_rfl) (by kernel_rfl) (fun _ _ _ _ h => h) rfl hC ⟨_, fun w hw => by (go_simp; try with_reducible rfl), fun a1 ha => ?_⟩
            simp only [Act.put, List.setIfInBounds_toArray, List.set_cons_succ, List.set_cons_zero] at ha; subst ha
            refine wt_take 4 rfl (by kernel_rfl) (by kernel_rfl) (by kernel_rfl) (fun _ _ _ _ h => h) rfl hC ⟨.int .i64 ((rb : Nat) : Int), fun w hw => by (go_simp; exact (wrap_in (by omega)).trans (by omega)), fun a1 ha => ?_⟩
            simp only [Act.put, List.setIfInBounds_toArray, List.set_cons_succ, List.set_cons_zero] at ha; subst ha
            refine wt_take 5 rfl (by kernel_rfl) (by kernel_rfl) (by kernel_rfl) (fun _ _ _ _ h => h) rfl hC ⟨_, fun w hw => by (go_simp; try with_reducible rfl), fun a1 ha => ?_⟩
            simp only [Act.put, List.setIfInBounds_toArray, List.set_cons_succ, List.set_cons_zero] at ha; subst ha
            refine wt_take 6 rfl (by kernel_rfl) (by kernel_rfl) (by kernel_rfl) (fun _ _ _ _ h => h) rfl hC ⟨_, fun w hw => by (go_simp; try with_reducible rfl), fun a1 ha => ?_⟩
            simp only [Act.put, List.setIfInBounds_toArray, List.set_cons_succ, List.set_cons_zero] at ha; subst ha
            refine wt_take 7 rfl (by kernel_rfl) (by kernel_rfl) (by kernel_rfl) (fun _ _ _ _ h => h) rfl hC ⟨_, fun w hw => ex_load1 rfl Tryd.underlying3 rfl rfl (by rw [cell_of_row w _ _ _ _ (0, 0) (hw.getB 2 rfl)]; rfl), fun a1 ha => ?_⟩
            simp only [Act.put, List.setIfInBounds_toArray, List.set_cons_succ, List.set_cons_zero] at ha; subst ha
            refine wt_take 8 rfl (by kernel_rfl) (by kernel_rfl) (by kernel_rfl) (fun _ _ _ _ h => h) rfl hC ⟨.int .i64 ((ri : Nat) : Int), fun w hw => by (go_simp; exact (wrap_in (by omega)).trans (by omega)), fun a1 ha => ?_⟩
            simp only [Act.put, List.setIfInBounds_toArray, List.set_cons_succ, List.set_cons_zero] at ha; subst ha
            refine wt_take 9 rfl (by kernel_rfl) (by kernel_rfl) (by kernel_rfl) (fun _ _ _ _ h => h) rfl hC ⟨.agg #[.int .i64 ((rb : Nat) : Int), .int .i64 ((L' : Nat) : Int), .int .i64 ((ri : Nat) : Int)], fun w hw => by (go_simp; try rfl), fun a1 ha => ?_⟩
            simp only [Act.put, List.setIfInBounds_toArray, List.set_cons_succ, List.set_cons_zero] at ha; subst ha
            refine wt_one 1 (by kernel_rfl) ?_
            refine wt_call0 hs rfl rfl (by go_simp) (HM.out _ (hs.get 1 rfl)) (by simp only [Act.put, List.setIfInBounds_toArray, List.set_cons_succ, List.set_cons_zero]; rfl) ?_
            clear hs; intro w1 hs
            refine wt_and (hs.sub (by repeat (first | exact List.Sublist.refl _ | refine List.Sublist.cons_cons _ ?_ | refine List.Sublist.cons _ ?_))) fun hC => ?_
            refine wt_take 10 rfl (by kernel_rfl) (by kernel_rfl) (by kernel_rfl) (fun _ _ _ _ h => h) rfl hC ⟨.bool false, fun w hw => by (go_simp; try simp), fun a1 ha => ?_⟩
            simp only [Act.put, List.setIfInBounds_toArray, List.set_cons_succ, List.set_cons_zero] at ha; subst ha
            refine wt_done (by kernel_rfl) ?_
            skip
            clear hC
            go_wp2
            go_roundw
            case rel => exact ⟨k + 1, B', by omega, by go_num, by rw [HU1.out], by rw [HL1.out], HT2.out, hs⟩
            case measure => simp [intOf]; omega
      · go_upto_region 23 with (first
          | ((with_reducible refine (at_load (t := 3)) rfl ?_); refine wl_loadC rfl rfl Tryd.underlying3 rfl rfl (HX.out hs) ?_)
          | (go_at_call 22; refine (HC.out _).mono ?_; rintro e w2 ⟨rfl, rfl⟩))
        as_aux_lemma =>
          rcases free_ex n m B with ⟨f, hf1, hf2, hf0, hfu⟩ | hall
          · have hULf : (U : Int) + L < a := by have := free_some HB2.out (by omega) hf1 hf2 hf0; rw [HU0.out, HL0.out] at this; omega
            have HTK := Lib.hid (fun w hR h => take_yes (p := p) (b := b) (bs := bs) (i := ii) (is := is) (q := q) (n := n) (m := m) (w := w) (B := B) (I := I0) f h2 hf1 hf2 hf0 hfu hR h)
            have HFU := Lib.hid hfu
            have hone := one_take hf1 hf2 hf0
            have HE := Lib.hid (rowB_at hf2 hf0)
            have HPUT := Lib.hid (rowB_put (B := B) (r := f) (N := n) 1)
            have HT2 := Lib.hid (setB_two (k := f) (v := 1) HB2.out (by omega))
            have hfm : (m : Int) < f := by omega
            have hfn : (f : Int) < n := by omega
            have hfm3 : decide (f ≤ m) = false := decide_eq_false (by omega)
            have hfn3 : decide (n ≤ f) = false := decide_eq_false (by omega)
            have hfm2 : decide ((f : Int) ≤ m) = false := decide_eq_false (by omega)
            have hfn2 : decide ((n : Int) ≤ f) = false := decide_eq_false (by omega)
            generalize setB B f 1 = B' at *
            rw [HU0.out, HL0.out] at hone
            obtain ⟨U', hU'⟩ : ∃ U', cntP (f1 n m B') n = U' := ⟨_, rfl⟩
            have hL' := hone.2
            have hone := hone.1
            rw [hU'] at hone
            have q1 : (U : Int) + 1 = U' := by omega
            have Q1 := Lib.hid q1
            have hUL := used_room (n := n) (m := m) (B := B') n (Nat.le_refl _)
            rw [hU'] at hUL
            have HU1 := Lib.hid hU'
            have HL1 := Lib.hid hL'
            clear q1 hone hU' hL' hf0 hfu
            go_upto_region 30 with (first
              | ((with_reducible refine at_load rfl ?_); refine wl_load1 hs rfl rfl Tryd.underlying3 rfl rfl 2 rfl rfl ?_)
              | ((with_reducible refine (at_load (t := 3)) rfl ?_); refine wl_load1 hs rfl rfl Tryd.underlying3 rfl rfl 0 rfl HE.out ?_)
              | (go_at_call 19; refine (HTK.out _ (HR.out.keep hs) (hs.get 1 rfl)).mono ?_; rintro e w2 ⟨rfl, hc⟩; replace hs := hs.upd 1 rfl hc; clear hc))
            go_loopw [19] (fun v wr => ∃ j : Nat, m + 1 ≤ j ∧ j ≤ f ∧ v = .int .i64 j ∧ Tr w [] wr [Res.blk ub (rowOf n (rowB B)) 3, spaceR p b bs ii is q n m B' I0, Res.blk xb #[.int .i64 n, .int .i64 m] 23]) (fun v _ => f - (intOf v).toNat)
            case atStart => exact ⟨m + 1, Nat.le_refl _, hf1, by go_num, hs⟩
            case round =>
              clear hs
              obtain ⟨j, hj1, hj2, rfl, hs⟩ := hrel
              by_cases hjf : j < f
              · have hjfI : (j : Int) < f := by omega
                have hv := HFU.out j (by omega) hjf
                have hv2 := HB2.out j
                rcases (by omega : B j = 1 ∨ B j = 2) with e | e
                all_goals
                  have HJ := Lib.hid (rowB_at (show j < n by omega) e)
                  clear hv hv2 e
                  go_wp2_with (first
                    | ((with_reducible refine (at_load (t := 3)) rfl ?_); refine wl_load1 hs rfl rfl Tryd.underlying3 rfl rfl 0 rfl HJ.out ?_))
                  go_roundw
                  case rel => exact ⟨j + 1, by omega, by omega, by go_num, hs⟩
                  case measure => simp [intOf]; omega
              · obtain rfl : j = f := by omega
                clear hjf
                go_upto_region 44 with (first
                  | ((with_reducible refine at_store rfl ?_); refine wl_store1R hs rfl rfl size3 rfl rfl rfl 0 rfl (by omega) (rowB B') HPUT.out ?_; clear hs; intro w1 hs))
                rw [Q1.out]
                obtain ⟨L', hLL⟩ : ∃ L', L = L' := ⟨_, rfl⟩
                subst hLL
                generalize L = L' at *
                have HM := Lib.hid (fun w h => room_any (p := p) (b := b) (bs := bs) (i := ii) (is := is) (q := q) (n := n) (m := m) (w := w) h2 h4 HT2.out (I := I0) h)
                rw [roomV, HL1.out, HRI.out] at HM
                generalize cntP (rB n m B') n = rb at HM hUL
                refine wt_enter 11 rfl hs (by kernel_rfl) ?_
                clear hs; intro w1 hs; have hC := hs
                refine wt_take 0 rfl (by kernel_rfl) (by kernel_rfl) (by kernel_rfl) (fun _ _ _ _ h => h) rfl hC ⟨_, fun w hw => by (go_simp; try with_reducible rfl), fun a1 ha => ?_⟩
                simp only [Act.put, List.setIfInBounds_toArray, List.set_cons_succ, List.set_cons_zero] at ha; subst ha
                refine wt_take 2 rfl (by kernel_rfl) (by kernel_rfl) (by kernel_rfl) (fun _ _ _ _ h => h) rfl hC ⟨_, fun w hw => by (go_simp; try with_reducible rfl), fun a1 ha => ?_⟩
                simp only [Act.put, List.setIfInBounds_toArray, List.set_cons_succ, List.set_cons_zero] at ha; subst ha
                refine wt_take 3 rfl (by kernel_rfl) (by kernel_rfl) (by kernel_rfl) (fun _ _ _ _ h => h) rfl hC ⟨_, fun w hw => by (go_simp; try with_reducible rfl), fun a1 ha => ?_⟩
                simp only [Act.put, List.setIfInBounds_toArray, List.set_cons_succ, List.set_cons_zero] at ha; subst ha
                refine wt_take 4 rfl (by kernel_rfl) (by kernel_rfl) (by kernel_rfl) (fun _ _ _ _ h => h) rfl hC ⟨.int .i64 ((rb : Nat) : Int), fun w hw => by (go_simp; exact (wrap_in (by omega)).trans (by omega)), fun a1 ha => ?_⟩
                simp only [Act.put, List.setIfInBounds_toArray, List.set_cons_succ, List.set_cons_zero] at ha; subst ha
                refine wt_take 5 rfl (by kernel_rfl) (by kernel_rfl) (by kernel_rfl) (fun _ _ _ _ h => h) rfl hC ⟨_, fun w hw => by (go_simp; try with_reducible rfl), fun a1 ha => ?_⟩
                simp only [Act.put, List.setIfInBounds_toArray, List.set_cons_succ, List.set_cons_zero] at ha; subst ha
                refine wt_take 6 rfl (by kernel_rfl) (by kernel_rfl) (by kernel_rfl) (fun _ _ _ _ h => h) rfl hC ⟨_, fun w hw => by (go_simp; try with_reducible rfl), fun a1 ha => ?_⟩
                simp only [Act.put, List.setIfInBounds_toArray, List.set_cons_succ, List.set_cons_zero] at ha; subst ha
                refine wt_take 7 rfl (by kernel_rfl) (by kernel_rfl) (by kernel_rfl) (fun _ _ _ _ h => h) rfl hC ⟨_, fun w hw => ex_load1 rfl Tryd.underlying3 rfl rfl (by rw [cell_of_row w _ _ _ _ (0, 0) (hw.getB 2 rfl)]; rfl), fun a1 ha => ?_⟩
                simp only [Act.put, List.setIfInBounds_toArray, List.set_cons_succ, List.set_cons_zero] at ha; subst ha
                refine wt_take 8 rfl (by kernel_rfl) (by kernel_rfl) (by kernel_rfl) (fun _ _ _ _ h => h) rfl hC ⟨.int .i64 ((ri : Nat) : Int), fun w hw => by (go_simp; exact (wrap_in (by omega)).trans (by omega)), fun a1 ha => ?_⟩
                simp only [Act.put, List.setIfInBounds_toArray, List.set_cons_succ, List.set_cons_zero] at ha; subst ha
                refine wt_take 9 rfl (by kernel_rfl) (by kernel_rfl) (by kernel_rfl) (fun _ _ _ _ h => h) rfl hC ⟨.agg #[.int .i64 ((rb : Nat) : Int), .int .i64 ((L' : Nat) : Int), .int .i64 ((ri : Nat) : Int)], fun w hw => by (go_simp; try rfl), fun a1 ha => ?_⟩
                simp only [Act.put, List.setIfInBounds_toArray, List.set_cons_succ, List.set_cons_zero] at ha; subst ha
                refine wt_one 1 (by kernel_rfl) ?_
                refine wt_call0 hs rfl rfl (by go_simp) (HM.out _ (hs.get 1 rfl)) (by simp only [Act.put, List.setIfInBounds_toArray, List.set_cons_succ, List.set_cons_zero]; rfl) ?_
                clear hs; intro w1 hs
                refine wt_and (hs.sub (by repeat (first | exact List.Sublist.refl _ | refine List.Sublist.cons_cons _ ?_ | refine List.Sublist.cons _ ?_))) fun hC => ?_
                refine wt_take 10 rfl (by kernel_rfl) (by kernel_rfl) (by kernel_rfl) (fun _ _ _ _ h => h) rfl hC ⟨.bool false, fun w hw => by (go_simp; try simp), fun a1 ha => ?_⟩
                simp only [Act.put, List.setIfInBounds_toArray, List.set_cons_succ, List.set_cons_zero] at ha; subst ha
                refine wt_done (by kernel_rfl) ?_
                skip
                clear hC
                go_wp2
                go_roundw
                case rel => exact ⟨k + 1, B', by omega, by go_num, by rw [HU1.out], by rw [HL1.out], HT2.out, hs⟩
                case measure => simp [intOf]; omega
          · have hULf : (a : Int) ≤ (U : Int) + L := by have := free_none HB2.out (by omega) hall; rw [HU0.out, HL0.out] at this; omega
            have HTK := Lib.hid (fun w hR h => take_no (p := p) (b := b) (bs := bs) (i := ii) (is := is) (q := q) (n := n) (m := m) (w := w) (B := B) (I := I0) h2 hall hR h)
            clear hall
            have hUL := used_room (n := n) (m := m) (B := B) n (Nat.le_refl _)
            rw [HU0.out] at hUL
            have HT2 := HB2
            have HU1 := HU0
            have HL1 := HL0
            clear HU0 HL0 HB2
            generalize B = B' at *
            generalize U = U' at *
            generalize L = L' at *
            go_upto_region 44 with (first
              | ((with_reducible refine at_load rfl ?_); refine wl_load1 hs rfl rfl Tryd.underlying3 rfl rfl 2 rfl rfl ?_)
              | (go_at_call 19; refine (HTK.out _ (HR.out.keep hs) (hs.get 1 rfl)).mono ?_; rintro e w2 ⟨rfl, hc⟩; replace hs := hs.call0 hc; clear hc))
            have HM := Lib.hid (fun w h => room_any (p := p) (b := b) (bs := bs) (i := ii) (is := is) (q := q) (n := n) (m := m) (w := w) h2 h4 HT2.out (I := I0) h)
            rw [roomV, HL1.out, HRI.out] at HM
            generalize cntP (rB n m B') n = rb at HM hUL
            refine wt_enter 11 rfl hs (by kernel_rfl) ?_
            clear hs; intro w1 hs; have hC := hs
            refine wt_take 0 rfl (by kernel_rfl) (by kernel_rfl) (by kernel_rfl) (fun _ _ _ _ h => h) rfl hC ⟨_, fun w hw => by (go_simp; try with_reducible rfl), fun a1 ha => ?_⟩
            simp only [Act.put, List.setIfInBounds_toArray, List.set_cons_succ, List.set_cons_zero] at ha; subst ha
            refine wt_take 2 rfl (by kernel_rfl) (by kernel_rfl) (by kernel_rfl) (fun _ _ _ _ h => h) rfl hC ⟨_, fun w hw => by (go_simp; try with_reducible rfl), fun a1 ha => ?_⟩
            simp only [Act.put, List.setIfInBounds_toArray, List.set_cons_succ, List.set_cons_zero] at ha; subst ha
            refine wt_take 3 rfl (by kernel_rfl) (by kernel_rfl) (by kernel_rfl) (fun _ _ _ _ h => h) rfl hC ⟨_, fun w hw => by (go_simp; try with_reducible rfl), fun a1 ha => ?_⟩
            simp only [Act.put, List.setIfInBounds_toArray, List.set_cons_succ, List.set_cons_zero] at ha; subst ha
            refine wt_take 4 rfl (by kernel_rfl) (by kernel_rfl) (by kernel_rfl) (fun _ _ _ _ h => h) rfl hC ⟨.int .i64 ((rb : Nat) : Int), fun w hw => by (go_simp; exact (wrap_in (by omega)).trans (by omega)), fun a1 ha => ?_⟩
            simp only [Act.put, List.setIfInBounds_toArray, List.set_cons_succ, List.set_cons_zero] at ha; subst ha
            refine wt_take 5 rfl (by kernel_rfl) (by kernel_rfl) (by kernel_rfl) (fun _ _ _ _ h => h) rfl hC ⟨_, fun w hw => by (go_simp; try with_reducible rfl), fun a1 ha => ?_⟩
            simp only [Act.put, List.setIfInBounds_toArray, List.set_cons_succ, List.set_cons_zero] at ha; subst ha
            refine wt_take 6 rfl (by kernel_rfl) (by kernel_rfl) (by kernel_rfl) (fun _ _ _ _ h => h) rfl hC ⟨_, fun w hw => by (go_simp; try with_reducible rfl), fun a1 ha => ?_⟩
            simp only [Act.put, List.setIfInBounds_toArray, List.set_cons_succ, List.set_cons_zero] at ha; subst ha
            refine wt_take 7 rfl (by kernel_rfl) (by kernel_rfl) (by kernel_rfl) (fun _ _ _ _ h => h) rfl hC ⟨_, fun w hw => ex_load1 rfl Tryd.underlying3 rfl rfl (by rw [cell_of_row w _ _ _ _ (0, 0) (hw.getB 2 rfl)]; rfl), fun a1 ha => ?_⟩
            simp only [Act.put, List.setIfInBounds_toArray, List.set_cons_succ, List.set_cons_zero] at ha; subst ha
            refine wt_take 8 rfl (by kernel_rfl) (by kernel_rfl) (by kernel_rfl) (fun _ _ _ _ h => h) rfl hC ⟨.int .i64 ((ri : Nat) : Int), fun w hw => by (go_simp; exact (wrap_in (by omega)).trans (by omega)), fun a1 ha => ?_⟩
            simp only [Act.put, List.setIfInBounds_toArray, List.set_cons_succ, List.set_cons_zero] at ha; subst ha
            refine wt_take 9 rfl (by kernel_rfl) (by kernel_rfl) (by kernel_rfl) (fun _ _ _ _ h => h) rfl hC ⟨.agg #[.int .i64 ((rb : Nat) : Int), .int .i64 ((L' : Nat) : Int), .int .i64 ((ri : Nat) : Int)], fun w hw => by (go_simp; try rfl), fun a1 ha => ?_⟩
            simp only [Act.put, List.setIfInBounds_toArray, List.set_cons_succ, List.set_cons_zero] at ha; subst ha
            refine wt_one 1 (by kernel_rfl) ?_
            refine wt_call0 hs rfl rfl (by go_simp) (HM.out _ (hs.get 1 rfl)) (by simp only [Act.put, List.setIfInBounds_toArray, List.set_cons_succ, List.set_cons_zero]; rfl) ?_
            clear hs; intro w1 hs
            refine wt_and (hs.sub (by repeat (first | exact List.Sublist.refl _ | refine List.Sublist.cons_cons _ ?_ | refine List.Sublist.cons _ ?_))) fun hC => ?_
            refine wt_take 10 rfl (by kernel_rfl) (by kernel_rfl) (by kernel_rfl) (fun _ _ _ _ h => h) rfl hC ⟨.bool false, fun w hw => by (go_simp; try simp), fun a1 ha => ?_⟩
            simp only [Act.put, List.setIfInBounds_toArray, List.set_cons_succ, List.set_cons_zero] at ha; subst ha
            refine wt_done (by kernel_rfl) ?_
            skip
            clear hC
            go_wp2
            go_roundw
            case rel => exact ⟨k + 1, B', by omega, by go_num, by rw [HU1.out], by rw [HL1.out], HT2.out, hs⟩
            case measure => simp [intOf]; omega
      · go_upto_region 37 with (first
          | ((with_reducible refine (at_load (t := 3)) rfl ?_); refine wl_loadC rfl rfl Tryd.underlying3 rfl rfl (HX.out hs) ?_)
          | (go_at_call 22; refine (HC.out _).mono ?_; rintro e w2 ⟨rfl, rfl⟩))
        by_cases e1 : B r = 1
        · have HTK := Lib.hid (fun w h => later_yes (p := p) (b := b) (bs := bs) (i := ii) (is := is) (q := q) (n := n) (m := m) (w := w) (B := B) (I := I0) r h2 hrm hrn e1 h)
          have hone := one_later hrm hrn e1
          have HE := Lib.hid (rowB_at hrn e1)
          have HPUT := Lib.hid (rowB_put (B := B) (r := r) (N := n) 2)
          have HT2 := Lib.hid (setB_two (k := r) (v := 2) HB2.out (by omega))
          generalize setB B r 2 = B' at *
          rw [HU0.out, HL0.out] at hone
          obtain ⟨U', hU'⟩ : ∃ U', cntP (f1 n m B') n = U' := ⟨_, rfl⟩
          obtain ⟨L', hL'⟩ : ∃ L', cntP (fL n m B') n = L' := ⟨_, rfl⟩
          rw [hU', hL'] at hone
          have q1 : (U : Int) - 1 = U' := by omega
          have q2 : (L : Int) + 1 = L' := by omega
          have Q1 := Lib.hid q1
          have Q2 := Lib.hid q2
          have hb1 : 1 ≤ U := by omega
          have hUL := used_room (n := n) (m := m) (B := B') n (Nat.le_refl _)
          rw [hU'] at hUL
          have HU1 := Lib.hid hU'
          have HL1 := Lib.hid hL'
          clear q1 q2 hone hU' hL' e1
          go_upto_region 44 with (first
            | ((with_reducible refine at_load rfl ?_); refine wl_load1 hs rfl rfl Tryd.underlying3 rfl rfl 2 rfl rfl ?_)
            | ((with_reducible refine (at_load (t := 3)) rfl ?_); refine wl_load1 hs rfl rfl Tryd.underlying3 rfl rfl 0 rfl HE.out ?_)
            | ((with_reducible refine at_store rfl ?_); refine wl_store1R hs rfl rfl size3 rfl rfl rfl 0 rfl hrn (rowB B') HPUT.out ?_; clear hs; intro w1 hs)
            | (go_at_call 25; refine (HTK.out _ (hs.get 1 rfl)).mono ?_; rintro e w2 ⟨rfl, hc⟩; replace hs := hs.upd 1 rfl hc; clear hc))
          rw [Q1.out, Q2.out]
          have HM := Lib.hid (fun w h => room_any (p := p) (b := b) (bs := bs) (i := ii) (is := is) (q := q) (n := n) (m := m) (w := w) h2 h4 HT2.out (I := I0) h)
          rw [roomV, HL1.out, HRI.out] at HM
          generalize cntP (rB n m B') n = rb at HM hUL
          refine wt_enter 11 rfl hs (by kernel_rfl) ?_
          clear hs; intro w1 hs; have hC := hs
          refine wt_take 0 rfl (by kernel_rfl) (by kernel_rfl) (by kernel_rfl) (fun _ _ _ _ h => h) rfl hC ⟨_, fun w hw => by (go_simp; try with_reducible rfl), fun a1 ha => ?_⟩
          simp only [Act.put, List.setIfInBounds_toArray, List.set_cons_succ, List.set_cons_zero] at ha; subst ha
          refine wt_take 2 rfl (by kernel_rfl) (by kernel_rfl) (by kernel_rfl) (fun _ _ _ _ h => h) rfl hC ⟨_, fun w hw => by (go_simp; try with_reducible rfl), fun a1 ha => ?_⟩
          simp only [Act.put, List.setIfInBounds_toArray, List.set_cons_succ, List.set_cons_zero] at ha; subst ha
          refine wt_take 3 rfl (by kernel_rfl) (by kernel_rfl) (by kernel_rfl) (fun _ _ _ _ h => h) rfl hC ⟨_, fun w hw => by (go_simp; try with_reducible rfl), fun a1 ha => ?_⟩
          simp only [Act.put, List.setIfInBounds_toArray, List.set_cons_succ, List.set_cons_zero] at ha; subst ha
          refine wt_take 4 rfl (by kernel_rfl) (by kernel_rfl) (by kernel_rfl) (fun _ _ _ _ h => h) rfl hC ⟨.int .i64 ((rb : Nat) : Int), fun w hw => by (go_simp; exact (wrap_in (by omega)).trans (by omega)), fun a1 ha => ?_⟩
          simp only [Act.put, List.setIfInBounds_toArray, List.set_cons_succ, List.set_cons_zero] at ha; subst ha
          refine wt_take 5 rfl (by kernel_rfl) (by kernel_rfl) (by kernel_rfl) (fun _ _ _ _ h => h) rfl hC ⟨_, fun w hw => by (go_simp; try with_reducible rfl), fun a1 ha => ?_⟩
          simp only [Act.put, List.setIfInBounds_toArray, List.set_cons_succ, List.set_cons_zero] at ha; subst ha
          refine wt_take 6 rfl (by kernel_rfl) (by kernel_rfl) (by kernel_rfl) (fun _ _ _ _ h => h) rfl hC ⟨_, fun w hw => by (go_simp; try with_reducible rfl), fun a1 ha => ?_⟩
          simp only [Act.put, List.setIfInBounds_toArray, List.set_cons_succ, List.set_cons_zero] at ha; subst ha
          refine wt_take 7 rfl (by kernel_rfl) (by kernel_rfl) (by kernel_rfl) (fun _ _ _ _ h => h) rfl hC ⟨_, fun w hw => ex_load1 rfl Tryd.underlying3 rfl rfl (by rw [cell_of_row w _ _ _ _ (0, 0) (hw.getB 2 rfl)]; rfl), fun a1 ha => ?_⟩
          simp only [Act.put, List.setIfInBounds_toArray, List.set_cons_succ, List.set_cons_zero] at ha; subst ha
          refine wt_take 8 rfl (by kernel_rfl) (by kernel_rfl) (by kernel_rfl) (fun _ _ _ _ h => h) rfl hC ⟨.int .i64 ((ri : Nat) : Int), fun w hw => by (go_simp; exact (wrap_in (by omega)).trans (by omega)), fun a1 ha => ?_⟩
          simp only [Act.put, List.setIfInBounds_toArray, List.set_cons_succ, List.set_cons_zero] at ha; subst ha
          refine wt_take 9 rfl (by kernel_rfl) (by kernel_rfl) (by kernel_rfl) (fun _ _ _ _ h => h) rfl hC ⟨.agg #[.int .i64 ((rb : Nat) : Int), .int .i64 ((L' : Nat) : Int), .int .i64 ((ri : Nat) : Int)], fun w hw => by (go_simp; try rfl), fun a1 ha => ?_⟩
          simp only [Act.put, List.setIfInBounds_toArray, List.set_cons_succ, List.set_cons_zero] at ha; subst ha
          refine wt_one 1 (by kernel_rfl) ?_
          refine wt_call0 hs rfl rfl (by go_simp) (HM.out _ (hs.get 1 rfl)) (by simp only [Act.put, List.setIfInBounds_toArray, List.set_cons_succ, List.set_cons_zero]; rfl) ?_
          clear hs; intro w1 hs
          refine wt_and (hs.sub (by repeat (first | exact List.Sublist.refl _ | refine List.Sublist.cons_cons _ ?_ | refine List.Sublist.cons _ ?_))) fun hC => ?_
          refine wt_take 10 rfl (by kernel_rfl) (by kernel_rfl) (by kernel_rfl) (fun _ _ _ _ h => h) rfl hC ⟨.bool false, fun w hw => by (go_simp; try simp), fun a1 ha => ?_⟩
          simp only [Act.put, List.setIfInBounds_toArray, List.set_cons_succ, List.set_cons_zero] at ha; subst ha
          refine wt_done (by kernel_rfl) ?_
          skip
          clear hC
          go_wp2
          go_roundw
          case rel => exact ⟨k + 1, B', by omega, by go_num, by rw [HU1.out], by rw [HL1.out], HT2.out, hs⟩
          case measure => simp [intOf]; omega
        · have HTK := Lib.hid (fun w h => later_no (p := p) (b := b) (bs := bs) (i := ii) (is := is) (q := q) (n := n) (m := m) (w := w) (B := B) (I := I0) (r : Int) h2 HB2.out (Or.inr (by rw [Int.toNat_natCast]; exact e1)) (by omega) h)
          have e3 := HB2.out r
          have hUL := used_room (n := n) (m := m) (B := B) n (Nat.le_refl _)
          rw [HU0.out] at hUL
          have HT2 := HB2
          have HU1 := HU0
          have HL1 := HL0
          clear HU0 HL0 HB2
          generalize B = B' at *
          generalize U = U' at *
          generalize L = L' at *
          rcases (by omega : B' r = 0 ∨ B' r = 2) with e2 | e2
          · have HE := Lib.hid (rowB_at hrn e2)
            clear e1 e2 e3
            go_upto_region 44 with (first
              | ((with_reducible refine at_load rfl ?_); refine wl_load1 hs rfl rfl Tryd.underlying3 rfl rfl 2 rfl rfl ?_)
              | ((with_reducible refine (at_load (t := 3)) rfl ?_); refine wl_load1 hs rfl rfl Tryd.underlying3 rfl rfl 0 rfl HE.out ?_)
              | (go_at_call 25; refine (HTK.out _ (hs.get 1 rfl)).mono ?_; rintro e w2 ⟨rfl, hc⟩; replace hs := hs.call0 hc; clear hc))
            have HM := Lib.hid (fun w h => room_any (p := p) (b := b) (bs := bs) (i := ii) (is := is) (q := q) (n := n) (m := m) (w := w) h2 h4 HT2.out (I := I0) h)
            rw [roomV, HL1.out, HRI.out] at HM
            generalize cntP (rB n m B') n = rb at HM hUL
            refine wt_enter 11 rfl hs (by kernel_rfl) ?_
            clear hs; intro w1 hs; have hC := hs
            refine wt_take 0 rfl (by kernel_rfl) (by kernel_rfl) (by kernel_rfl) (fun _ _ _ _ h => h) rfl hC ⟨_, fun w hw => by (go_simp; try with_reducible rfl), fun a1 ha => ?_⟩
            simp only [Act.put, List.setIfInBounds_toArray, List.set_cons_succ, List.set_cons_zero] at ha; subst ha
            refine wt_take 2 rfl (by kernel_rfl) (by kernel_rfl) (by kernel_rfl) (fun _ _ _ _ h => h) rfl hC ⟨_, fun w hw => by (go_simp; try with_reducible rfl), fun a1 ha => ?_⟩
            simp only [Act.put, List.setIfInBounds_toArray, List.set_cons_succ, List.set_cons_zero] at ha; subst ha
            refine wt_take 3 rfl (by kernel_rfl) (by kernel_rfl) (by kernel_rfl) (fun _ _ _ _ h => h) rfl hC ⟨_, fun w hw => by (go_simp; try with_reducible rfl), fun a1 ha => ?_⟩
            simp only [Act.put, List.setIfInBounds_toArray, List.set_cons_succ, List.set_cons_zero] at ha; subst ha
            refine wt_take 4 rfl (by kernel_rfl) (by kernel_rfl) (by kernel_rfl) (fun _ _ _ _ h => h) rfl hC ⟨.int .i64 ((rb : Nat) : Int), fun w hw => by (go_simp; exact (wrap_in (by omega)).trans (by omega)), fun a1 ha => ?_⟩
            simp only [Act.put, List.setIfInBounds_toArray, List.set_cons_succ, List.set_cons_zero] at ha; subst ha
            refine wt_take 5 rfl (by kernel_rfl) (by kernel_rfl) (by kernel_rfl) (fun _ _ _ _ h => h) rfl hC ⟨_, fun w hw => by (go_simp; try with_reducible rfl), fun a1 ha => ?_⟩
            simp only [Act.put, List.setIfInBounds_toArray, List.set_cons_succ, List.set_cons_zero] at ha; subst ha
            refine wt_take 6 rfl (by kernel_rfl) (by kernel_rfl) (by kernel_rfl) (fun _ _ _ _ h => h) rfl hC ⟨_, fun w hw => by (go_simp; try with_reducible rfl), fun a1 ha => ?_⟩
            simp only [Act.put, List.setIfInBounds_toArray, List.set_cons_succ, List.set_cons_zero] at ha; subst ha
            refine wt_take 7 rfl (by kernel_rfl) (by kernel_rfl) (by kernel_rfl) (fun _ _ _ _ h => h) rfl hC ⟨_, fun w hw => ex_load1 rfl Tryd.underlying3 rfl rfl (by rw [cell_of_row w _ _ _ _ (0, 0) (hw.getB 2 rfl)]; rfl), fun a1 ha => ?_⟩
            simp only [Act.put, List.setIfInBounds_toArray, List.set_cons_succ, List.set_cons_zero] at ha; subst ha
            refine wt_take 8 rfl (by kernel_rfl) (by kernel_rfl) (by kernel_rfl) (fun _ _ _ _ h => h) rfl hC ⟨.int .i64 ((ri : Nat) : Int), fun w hw => by (go_simp; exact (wrap_in (by omega)).trans (by omega)), fun a1 ha => ?_⟩
            simp only [Act.put, List.setIfInBounds_toArray, List.set_cons_succ, List.set_cons_zero] at ha; subst ha
            refine wt_take 9 rfl (by kernel_rfl) (by kernel_rfl) (by kernel_rfl) (fun _ _ _ _ h => h) rfl hC ⟨.agg #[.int .i64 ((rb : Nat) : Int), .int .i64 ((L' : Nat) : Int), .int .i64 ((ri : Nat) : Int)], fun w hw => by (go_simp; try rfl), fun a1 ha => ?_⟩
            simp only [Act.put, List.setIfInBounds_toArray, List.set_cons_succ, List.set_cons_zero] at ha; subst ha
            refine wt_one 1 (by kernel_rfl) ?_
            refine wt_call0 hs rfl rfl (by go_simp) (HM.out _ (hs.get 1 rfl)) (by simp only [Act.put, List.setIfInBounds_toArray, List.set_cons_succ, List.set_cons_zero]; rfl) ?_
            clear hs; intro w1 hs
            refine wt_and (hs.sub (by repeat (first | exact List.Sublist.refl _ | refine List.Sublist.cons_cons _ ?_ | refine List.Sublist.cons _ ?_))) fun hC => ?_
            refine wt_take 10 rfl (by kernel_rfl) (by kernel_rfl) (by kernel_rfl) (fun _ _ _ _ h => h) rfl hC ⟨.bool false, fun w hw => by (go_simp; try simp), fun a1 ha => ?_⟩
            simp only [Act.put, List.setIfInBounds_toArray, List.set_cons_succ, List.set_cons_zero] at ha; subst ha
            refine wt_done (by kernel_rfl) ?_
            skip
            clear hC
            go_wp2
            go_roundw
            case rel => exact ⟨k + 1, B', by omega, by go_num, by rw [HU1.out], by rw [HL1.out], HT2.out, hs⟩
            case measure => simp [intOf]; omega
          · have HE := Lib.hid (rowB_at hrn e2)
            clear e1 e2 e3
            go_upto_region 44 with (first
              | ((with_reducible refine at_load rfl ?_); refine wl_load1 hs rfl rfl Tryd.underlying3 rfl rfl 2 rfl rfl ?_)
              | ((with_reducible refine (at_load (t := 3)) rfl ?_); refine wl_load1 hs rfl rfl Tryd.underlying3 rfl rfl 0 rfl HE.out ?_)
              | (go_at_call 25; refine (HTK.out _ (hs.get 1 rfl)).mono ?_; rintro e w2 ⟨rfl, hc⟩; replace hs := hs.call0 hc; clear hc))
            have HM := Lib.hid (fun w h => room_any (p := p) (b := b) (bs := bs) (i := ii) (is := is) (q := q) (n := n) (m := m) (w := w) h2 h4 HT2.out (I := I0) h)
            rw [roomV, HL1.out, HRI.out] at HM
            generalize cntP (rB n m B') n = rb at HM hUL
            refine wt_enter 11 rfl hs (by kernel_rfl) ?_
            clear hs; intro w1 hs; have hC := hs
            refine wt_take 0 rfl (by kernel_rfl) (by kernel_rfl) (by kernel_rfl) (fun _ _ _ _ h => h) rfl hC ⟨_, fun w hw => by (go_simp; try with_reducible rfl), fun a1 ha => ?_⟩
            simp only [Act.put, List.setIfInBounds_toArray, List.set_cons_succ, List.set_cons_zero] at ha; subst ha
            refine wt_take 2 rfl (by kernel_rfl) (by kernel_rfl) (by kernel_rfl) (fun _ _ _ _ h => h) rfl hC ⟨_, fun w hw => by (go_simp; try with_reducible rfl), fun a1 ha => ?_⟩
            simp only [Act.put, List.setIfInBounds_toArray, List.set_cons_succ, List.set_cons_zero] at ha; subst ha
            refine wt_take 3 rfl (by kernel_rfl) (by kernel_rfl) (by kernel_rfl) (fun _ _ _ _ h => h) rfl hC ⟨_, fun w hw => by (go_simp; try with_reducible rfl), fun a1 ha => ?_⟩
            simp only [Act.put, List.setIfInBounds_toArray, List.set_cons_succ, List.set_cons_zero] at ha; subst ha
            refine wt_take 4 rfl (by kernel_rfl) (by kernel_rfl) (by kernel_rfl) (fun _ _ _ _ h => h) rfl hC ⟨.int .i64 ((rb : Nat) : Int), fun w hw => by (go_simp; exact (wrap_in (by omega)).trans (by omega)), fun a1 ha => ?_⟩
            simp only [Act.put, List.setIfInBounds_toArray, List.set_cons_succ, List.set_cons_zero] at ha; subst ha
            refine wt_take 5 rfl (by kernel_rfl) (by kernel_rfl) (by kernel_rfl) (fun _ _ _ _ h => h) rfl hC ⟨_, fun w hw => by (go_simp; try with_reducible rfl), fun a1 ha => ?_⟩
            simp only [Act.put, List.setIfInBounds_toArray, List.set_cons_succ, List.set_cons_zero] at ha; subst ha
            refine wt_take 6 rfl (by kernel_rfl) (by kernel_rfl) (by kernel_rfl) (fun _ _ _ _ h => h) rfl hC ⟨_, fun w hw => by (go_simp; try with_reducible rfl), fun a1 ha => ?_⟩
            simp only [Act.put, List.setIfInBounds_toArray, List.set_cons_succ, List.set_cons_zero] at ha; subst ha
            refine wt_take 7 rfl (by kernel_rfl) (by kernel_rfl) (by kernel_rfl) (fun _ _ _ _ h => h) rfl hC ⟨_, fun w hw => ex_load1 rfl Tryd.underlying3 rfl rfl (by rw [cell_of_row w _ _ _ _ (0, 0) (hw.getB 2 rfl)]; rfl), fun a1 ha => ?_⟩
            simp only [Act.put, List.setIfInBounds_toArray, List.set_cons_succ, List.set_cons_zero] at ha; subst ha
            refine wt_take 8 rfl (by kernel_rfl) (by kernel_rfl) (by kernel_rfl) (fun _ _ _ _ h => h) rfl hC ⟨.int .i64 ((ri : Nat) : Int), fun w hw => by (go_simp; exact (wrap_in (by omega)).trans (by omega)), fun a1 ha => ?_⟩
            simp only [Act.put, List.setIfInBounds_toArray, List.set_cons_succ, List.set_cons_zero] at ha; subst ha
            refine wt_take 9 rfl (by kernel_rfl) (by kernel_rfl) (by kernel_rfl) (fun _ _ _ _ h => h) rfl hC ⟨.agg #[.int .i64 ((rb : Nat) : Int), .int .i64 ((L' : Nat) : Int), .int .i64 ((ri : Nat) : Int)], fun w hw => by (go_simp; try rfl), fun a1 ha => ?_⟩
            simp only [Act.put, List.setIfInBounds_toArray, List.set_cons_succ, List.set_cons_zero] at ha; subst ha
            refine wt_one 1 (by kernel_rfl) ?_
            refine wt_call0 hs rfl rfl (by go_simp) (HM.out _ (hs.get 1 rfl)) (by simp only [Act.put, List.setIfInBounds_toArray, List.set_cons_succ, List.set_cons_zero]; rfl) ?_
            clear hs; intro w1 hs
            refine wt_and (hs.sub (by repeat (first | exact List.Sublist.refl _ | refine List.Sublist.cons_cons _ ?_ | refine List.Sublist.cons _ ?_))) fun hC => ?_
            refine wt_take 10 rfl (by kernel_rfl) (by kernel_rfl) (by kernel_rfl) (fun _ _ _ _ h => h) rfl hC ⟨.bool false, fun w hw => by (go_simp; try simp), fun a1 ha => ?_⟩
            simp only [Act.put, List.setIfInBounds_toArray, List.set_cons_succ, List.set_cons_zero] at ha; subst ha
            refine wt_done (by kernel_rfl) ?_
            skip
            clear hC
            go_wp2
            go_roundw
            case rel => exact ⟨k + 1, B', by omega, by go_num, by rw [HU1.out], by rw [HL1.out], HT2.out, hs⟩
            case measure => simp [intOf]; omega
      · go_upto_region 15 with (first
          | ((with_reducible refine (at_load (t := 3)) rfl ?_); refine wl_loadC rfl rfl Tryd.underlying3 rfl rfl (HX.out hs) ?_)
          | (go_at_call 22; refine (HC.out _).mono ?_; rintro e w2 ⟨rfl, rfl⟩))
        by_cases e1 : B r = 2
        · have HLB : Hid (landB B (fun _ => (r : Int)) 1 = setB B r 0) := Lib.hid (by show landS B (Int.toNat (r : Int)) = _; rw [Int.toNat_natCast, landS, if_pos e1])
          have hone := one_landed hrm hrn e1
          have HE := Lib.hid (rowB_at hrn e1)
          have HPUT := Lib.hid (rowB_put (B := B) (r := r) (N := n) 0)
          have HT2 := Lib.hid (setB_two (k := r) (v := 0) HB2.out (by omega))
          generalize setB B r 0 = B' at *
          rw [HU0.out, HL0.out] at hone
          obtain ⟨L', hL'⟩ : ∃ L', cntP (fL n m B') n = L' := ⟨_, rfl⟩
          rw [hL'] at hone
          have q2 : (L : Int) - 1 = L' := by omega
          have Q2 := Lib.hid q2
          have hb1 : 1 ≤ L := by omega
          obtain ⟨U', hUU⟩ : ∃ U', U = U' := ⟨_, rfl⟩
          have hU' := hone.1
          rw [hUU] at hU'
          have hUL := used_room (n := n) (m := m) (B := B') n (Nat.le_refl _)
          rw [hU'] at hUL
          have HU1 := Lib.hid hU'
          have HL1 := Lib.hid hL'
          subst hUU
          clear q2 hone hL' hU' e1
          go_upto_region 16 with (first
            | ((with_reducible refine at_buildSlice rfl ?_); refine wl_buildSliceV hs rfl rfl Tryd.underlying24 info3 (by omega) (by omega) [.int .i64 (r : Int)] rfl rfl (by simp [Value.oneCell']) ?_; clear hs; intro w1 lb hs) | (go_at_call 26; refine (landed_yes 1 1 lb 0 _ (fun _ => (r : Int)) h2 (by omega) (fun _ => rfl) (by have h0 := hs.getB 0 rfl; intro j hj; (obtain rfl : j = 0 := by omega); rw [Nat.zero_add, cell_of_row _ lb 0 _ _ (0, 0) h0]; rfl) (fun _ => blk_apart hs 0 2 (by decide) rfl rfl) (fun j _ => inD_in hrm hrn) (hs.get 2 rfl)).mono ?_; rintro e w2 ⟨rfl, hc⟩; rw [HLB.out] at hc; replace hs := hs.upd 2 rfl hc; clear hc))
          replace hs := hs.sub (List.Sublist.cons _ (List.Sublist.refl _))
          go_upto_region 44 with (first
            | ((with_reducible refine at_load rfl ?_); refine wl_load1 hs rfl rfl Tryd.underlying3 rfl rfl 2 rfl rfl ?_)
            | ((with_reducible refine (at_load (t := 3)) rfl ?_); refine wl_load1 hs rfl rfl Tryd.underlying3 rfl rfl 0 rfl HE.out ?_)
            | ((with_reducible refine at_store rfl ?_); refine wl_store1R hs rfl rfl size3 rfl rfl rfl 0 rfl hrn (rowB B') HPUT.out ?_; clear hs; intro w1 hs))
          rw [Q2.out]
          generalize U = U' at *
          have HM := Lib.hid (fun w h => room_any (p := p) (b := b) (bs := bs) (i := ii) (is := is) (q := q) (n := n) (m := m) (w := w) h2 h4 HT2.out (I := I0) h)
          rw [roomV, HL1.out, HRI.out] at HM
          generalize cntP (rB n m B') n = rb at HM hUL
          refine wt_enter 11 rfl hs (by kernel_rfl) ?_
          clear hs; intro w1 hs; have hC := hs
          refine wt_take 0 rfl (by kernel_rfl) (by kernel_rfl) (by kernel_rfl) (fun _ _ _ _ h => h) rfl hC ⟨_, fun w hw => by (go_simp; try with_reducible rfl), fun a1 ha => ?_⟩
          simp only [Act.put, List.setIfInBounds_toArray, List.set_cons_succ, List.set_cons_zero] at ha; subst ha
          refine wt_take 2 rfl (by kernel_rfl) (by kernel_rfl) (by kernel_rfl) (fun _ _ _ _ h => h) rfl hC ⟨_, fun w hw => by (go_simp; try with_reducible rfl), fun a1 ha => ?_⟩
          simp only [Act.put, List.setIfInBounds_toArray, List.set_cons_succ, List.set_cons_zero] at ha; subst ha
          refine wt_take 3 rfl (by kernel_rfl) (by kernel_rfl) (by kernel_rfl) (fun _ _ _ _ h => h) rfl hC ⟨_, fun w hw => by (go_simp; try with_reducible rfl), fun a1 ha => ?_⟩
          simp only [Act.put, List.setIfInBounds_toArray, List.set_cons_succ, List.set_cons_zero] at ha; subst ha
          refine wt_take 4 rfl (by kernel_rfl) (by kernel_rfl) (by kernel_rfl) (fun _ _ _ _ h => h) rfl hC ⟨.int .i64 ((rb : Nat) : Int), fun w hw => by (go_simp; exact (wrap_in (by omega)).trans (by omega)), fun a1 ha => ?_⟩
          simp only [Act.put, List.setIfInBounds_toArray, List.set_cons_succ, List.set_cons_zero] at ha; subst ha
          refine wt_take 5 rfl (by kernel_rfl) (by kernel_rfl) (by kernel_rfl) (fun _ _ _ _ h => h) rfl hC ⟨_, fun w hw => by (go_simp; try with_reducible rfl), fun a1 ha => ?_⟩
          simp only [Act.put, List.setIfInBounds_toArray, List.set_cons_succ, List.set_cons_zero] at ha; subst ha
          refine wt_take 6 rfl (by kernel_rfl) (by kernel_rfl) (by kernel_rfl) (fun _ _ _ _ h => h) rfl hC ⟨_, fun w hw => by (go_simp; try with_reducible rfl), fun a1 ha => ?_⟩
          simp only [Act.put, List.setIfInBounds_toArray, List.set_cons_succ, List.set_cons_zero] at ha; subst ha
          refine wt_take 7 rfl (by kernel_rfl) (by kernel_rfl) (by kernel_rfl) (fun _ _ _ _ h => h) rfl hC ⟨_, fun w hw => ex_load1 rfl Tryd.underlying3 rfl rfl (by rw [cell_of_row w _ _ _ _ (0, 0) (hw.getB 2 rfl)]; rfl), fun a1 ha => ?_⟩
          simp only [Act.put, List.setIfInBounds_toArray, List.set_cons_succ, List.set_cons_zero] at ha; subst ha
          refine wt_take 8 rfl (by kernel_rfl) (by kernel_rfl) (by kernel_rfl) (fun _ _ _ _ h => h) rfl hC ⟨.int .i64 ((ri : Nat) : Int), fun w hw => by (go_simp; exact (wrap_in (by omega)).trans (by omega)), fun a1 ha => ?_⟩
          simp only [Act.put, List.setIfInBounds_toArray, List.set_cons_succ, List.set_cons_zero] at ha; subst ha
          refine wt_take 9 rfl (by kernel_rfl) (by kernel_rfl) (by kernel_rfl) (fun _ _ _ _ h => h) rfl hC ⟨.agg #[.int .i64 ((rb : Nat) : Int), .int .i64 ((L' : Nat) : Int), .int .i64 ((ri : Nat) : Int)], fun w hw => by (go_simp; try rfl), fun a1 ha => ?_⟩
          simp only [Act.put, List.setIfInBounds_toArray, List.set_cons_succ, List.set_cons_zero] at ha; subst ha
          refine wt_one 1 (by kernel_rfl) ?_
          refine wt_call0 hs rfl rfl (by go_simp) (HM.out _ (hs.get 1 rfl)) (by simp only [Act.put, List.setIfInBounds_toArray, List.set_cons_succ, List.set_cons_zero]; rfl) ?_
          clear hs; intro w1 hs
          refine wt_and (hs.sub (by repeat (first | exact List.Sublist.refl _ | refine List.Sublist.cons_cons _ ?_ | refine List.Sublist.cons _ ?_))) fun hC => ?_
          refine wt_take 10 rfl (by kernel_rfl) (by kernel_rfl) (by kernel_rfl) (fun _ _ _ _ h => h) rfl hC ⟨.bool false, fun w hw => by (go_simp; try simp), fun a1 ha => ?_⟩
          simp only [Act.put, List.setIfInBounds_toArray, List.set_cons_succ, List.set_cons_zero] at ha; subst ha
          refine wt_done (by kernel_rfl) ?_
          skip
          clear hC
          go_wp2
          go_roundw
          case rel => exact ⟨k + 1, B', by omega, by go_num, by rw [HU1.out], by rw [HL1.out], HT2.out, hs⟩
          case measure => simp [intOf]; omega
        · have HLB : Hid (landB B (fun _ => (r : Int)) 1 = B) := Lib.hid (by show landS B (Int.toNat (r : Int)) = _; rw [Int.toNat_natCast, landS, if_neg e1])
          have e3 := HB2.out r
          have hUL := used_room (n := n) (m := m) (B := B) n (Nat.le_refl _)
          rw [HU0.out] at hUL
          have HT2 := HB2
          have HU1 := HU0
          have HL1 := HL0
          clear HU0 HL0 HB2
          generalize B = B' at *
          generalize U = U' at *
          generalize L = L' at *
          rcases (by omega : B' r = 0 ∨ B' r = 1) with e2 | e2
          · have HE := Lib.hid (rowB_at hrn e2)
            clear e1 e2 e3
            go_upto_region 16 with (first
              | ((with_reducible refine at_buildSlice rfl ?_); refine wl_buildSliceV hs rfl rfl Tryd.underlying24 info3 (by omega) (by omega) [.int .i64 (r : Int)] rfl rfl (by simp [Value.oneCell']) ?_; clear hs; intro w1 lb hs) | (go_at_call 26; refine (landed_yes 1 1 lb 0 _ (fun _ => (r : Int)) h2 (by omega) (fun _ => rfl) (by have h0 := hs.getB 0 rfl; intro j hj; (obtain rfl : j = 0 := by omega); rw [Nat.zero_add, cell_of_row _ lb 0 _ _ (0, 0) h0]; rfl) (fun _ => blk_apart hs 0 2 (by decide) rfl rfl) (fun j _ => inD_in hrm hrn) (hs.get 2 rfl)).mono ?_; rintro e w2 ⟨rfl, hc⟩; rw [HLB.out] at hc; replace hs := hs.upd 2 rfl hc; clear hc))
            replace hs := hs.sub (List.Sublist.cons _ (List.Sublist.refl _))
            go_upto_region 44 with (first
              | ((with_reducible refine at_load rfl ?_); refine wl_load1 hs rfl rfl Tryd.underlying3 rfl rfl 2 rfl rfl ?_)
              | ((with_reducible refine (at_load (t := 3)) rfl ?_); refine wl_load1 hs rfl rfl Tryd.underlying3 rfl rfl 0 rfl HE.out ?_))
            have HM := Lib.hid (fun w h => room_any (p := p) (b := b) (bs := bs) (i := ii) (is := is) (q := q) (n := n) (m := m) (w := w) h2 h4 HT2.out (I := I0) h)
            rw [roomV, HL1.out, HRI.out] at HM
            generalize cntP (rB n m B') n = rb at HM hUL
            refine wt_enter 11 rfl hs (by kernel_rfl) ?_
            clear hs; intro w1 hs; have hC := hs
            refine wt_take 0 rfl (by kernel_rfl) (by kernel_rfl) (by kernel_rfl) (fun _ _ _ _ h => h) rfl hC ⟨_, fun w hw => by (go_simp; try with_reducible rfl), fun a1 ha => ?_⟩
            simp only [Act.put, List.setIfInBounds_toArray, List.set_cons_succ, List.set_cons_zero] at ha; subst ha
            refine wt_take 2 rfl (by kernel_rfl) (by kernel_rfl) (by kernel_rfl) (fun _ _ _ _ h => h) rfl hC ⟨_, fun w hw => by (go_simp; try with_reducible rfl), fun a1 ha => ?_⟩
            simp only [Act.put, List.setIfInBounds_toArray, List.set_cons_succ, List.set_cons_zero] at ha; subst ha
            refine wt_take 3 rfl (by kernel_rfl) (by kernel_rfl) (by kernel_rfl) (fun _ _ _ _ h => h) rfl hC ⟨_, fun w hw => by (go_simp; try with_reducible rfl), fun a1 ha => ?_⟩
            simp only [Act.put, List.setIfInBounds_toArray, List.set_cons_succ, List.set_cons_zero] at ha; subst ha
            refine wt_take 4 rfl (by kernel_rfl) (by kernel_rfl) (by kernel_rfl) (fun _ _ _ _ h => h) rfl hC ⟨.int .i64 ((rb : Nat) : Int), fun w hw => by (go_simp; exact (wrap_in (by omega)).trans (by omega)), fun a1 ha => ?_⟩
            simp only [Act.put, List.setIfInBounds_toArray, List.set_cons_succ, List.set_cons_zero] at ha; subst ha
            refine wt_take 5 rfl (by kernel_rfl) (by kernel_rfl) (by kernel_rfl) (fun _ _ _ _ h => h) rfl hC ⟨_, fun w hw => by (go_simp; try with_reducible rfl), fun a1 ha => ?_⟩
            simp only [Act.put, List.setIfInBounds_toArray, List.set_cons_succ, List.set_cons_zero] at ha; subst ha
            refine wt_take 6 rfl (by kernel_rfl) (by kernel_rfl) (by kernel_rfl) (fun _ _ _ _ h => h) rfl hC ⟨_, fun w hw => by (go_simp; try with_reducible rfl), fun a1 ha => ?_⟩
            simp only [Act.put, List.setIfInBounds_toArray, List.set_cons_succ, List.set_cons_zero] at ha; subst ha
            refine wt_take 7 rfl (by kernel_rfl) (by kernel_rfl) (by kernel_rfl) (fun _ _ _ _ h => h) rfl hC ⟨_, fun w hw => ex_load1 rfl Tryd.underlying3 rfl rfl (by rw [cell_of_row w _ _ _ _ (0, 0) (hw.getB 2 rfl)]; rfl), fun a1 ha => ?_⟩
            simp only [Act.put, List.setIfInBounds_toArray, List.set_cons_succ, List.set_cons_zero] at ha; subst ha
            refine wt_take 8 rfl (by kernel_rfl) (by kernel_rfl) (by kernel_rfl) (fun _ _ _ _ h => h) rfl hC ⟨.int .i64 ((ri : Nat) : Int), fun w hw => by (go_simp; exact (wrap_in (by omega)).trans (by omega)), fun a1 ha => ?_⟩
            simp only [Act.put, List.setIfInBounds_toArray, List.set_cons_succ, List.set_cons_zero] at ha; subst ha
            refine wt_take 9 rfl (by kernel_rfl) (by kernel_rfl) (by kernel_rfl) (fun _ _ _ _ h => h) rfl hC ⟨.agg #[.int .i64 ((rb : Nat) : Int), .int .i64 ((L' : Nat) : Int), .int .i64 ((ri : Nat) : Int)], fun w hw => by (go_simp; try rfl), fun a1 ha => ?_⟩
            simp only [Act.put, List.setIfInBounds_toArray, List.set_cons_succ, List.set_cons_zero] at ha; subst ha
            refine wt_one 1 (by kernel_rfl) ?_
            refine wt_call0 hs rfl rfl (by go_simp) (HM.out _ (hs.get 1 rfl)) (by simp only [Act.put, List.setIfInBounds_toArray, List.set_cons_succ, List.set_cons_zero]; rfl) ?_
            clear hs; intro w1 hs
            refine wt_and (hs.sub (by repeat (first | exact List.Sublist.refl _ | refine List.Sublist.cons_cons _ ?_ | refine List.Sublist.cons _ ?_))) fun hC => ?_
            refine wt_take 10 rfl (by kernel_rfl) (by kernel_rfl) (by kernel_rfl) (fun _ _ _ _ h => h) rfl hC ⟨.bool false, fun w hw => by (go_simp; try simp), fun a1 ha => ?_⟩
            simp only [Act.put, List.setIfInBounds_toArray, List.set_cons_succ, List.set_cons_zero] at ha; subst ha
            refine wt_done (by kernel_rfl) ?_
            skip
            clear hC
            go_wp2
            go_roundw
            case rel => exact ⟨k + 1, B', by omega, by go_num, by rw [HU1.out], by rw [HL1.out], HT2.out, hs⟩
            case measure => simp [intOf]; omega
          · have HE := Lib.hid (rowB_at hrn e2)
            clear e1 e2 e3
            go_upto_region 16 with (first
              | ((with_reducible refine at_buildSlice rfl ?_); refine wl_buildSliceV hs rfl rfl Tryd.underlying24 info3 (by omega) (by omega) [.int .i64 (r : Int)] rfl rfl (by simp [Value.oneCell']) ?_; clear hs; intro w1 lb hs) | (go_at_call 26; refine (landed_yes 1 1 lb 0 _ (fun _ => (r : Int)) h2 (by omega) (fun _ => rfl) (by have h0 := hs.getB 0 rfl; intro j hj; (obtain rfl : j = 0 := by omega); rw [Nat.zero_add, cell_of_row _ lb 0 _ _ (0, 0) h0]; rfl) (fun _ => blk_apart hs 0 2 (by decide) rfl rfl) (fun j _ => inD_in hrm hrn) (hs.get 2 rfl)).mono ?_; rintro e w2 ⟨rfl, hc⟩; rw [HLB.out] at hc; replace hs := hs.upd 2 rfl hc; clear hc))
            replace hs := hs.sub (List.Sublist.cons _ (List.Sublist.refl _))
            go_upto_region 44 with (first
              | ((with_reducible refine at_load rfl ?_); refine wl_load1 hs rfl rfl Tryd.underlying3 rfl rfl 2 rfl rfl ?_)
              | ((with_reducible refine (at_load (t := 3)) rfl ?_); refine wl_load1 hs rfl rfl Tryd.underlying3 rfl rfl 0 rfl HE.out ?_))
            have HM := Lib.hid (fun w h => room_any (p := p) (b := b) (bs := bs) (i := ii) (is := is) (q := q) (n := n) (m := m) (w := w) h2 h4 HT2.out (I := I0) h)
            rw [roomV, HL1.out, HRI.out] at HM
            generalize cntP (rB n m B') n = rb at HM hUL
            refine wt_enter 11 rfl hs (by kernel_rfl) ?_
            clear hs; intro w1 hs; have hC := hs
            refine wt_take 0 rfl (by kernel_rfl) (by kernel_rfl) (by kernel_rfl) (fun _ _ _ _ h => h) rfl hC ⟨_, fun w hw => by (go_simp; try with_reducible rfl), fun a1 ha => ?_⟩
            simp only [Act.put, List.setIfInBounds_toArray, List.set_cons_succ, List.set_cons_zero] at ha; subst ha
            refine wt_take 2 rfl (by kernel_rfl) (by kernel_rfl) (by kernel_rfl) (fun _ _ _ _ h => h) rfl hC ⟨_, fun w hw => by (go_simp; try with_reducible rfl), fun a1 ha => ?_⟩
            simp only [Act.put, List.setIfInBounds_toArray, List.set_cons_succ, List.set_cons_zero] at ha; subst ha
            refine wt_take 3 rfl (by kernel_rfl) (by kernel_rfl) (by kernel_rfl) (fun _ _ _ _ h => h) rfl hC ⟨_, fun w hw => by (go_simp; try with_reducible rfl), fun a1 ha => ?_⟩
            simp only [Act.put, List.setIfInBounds_toArray, List.set_cons_succ, List.set_cons_zero] at ha; subst ha
            refine wt_take 4 rfl (by kernel_rfl) (by kernel_rfl) (by kernel_rfl) (fun _ _ _ _ h => h) rfl hC ⟨.int .i64 ((rb : Nat) : Int), fun w hw => by (go_simp; exact (wrap_in (by omega)).trans (by omega)), fun a1 ha => ?_⟩
            simp only [Act.put, List.setIfInBounds_toArray, List.set_cons_succ, List.set_cons_zero] at ha; subst ha
            refine wt_take 5 rfl (by kernel_rfl) (by kernel_rfl) (by kernel_rfl) (fun _ _ _ _ h => h) rfl hC ⟨_, fun w hw => by (go_simp; try with_reducible rfl), fun a1 ha => ?_⟩
            simp only [Act.put, List.setIfInBounds_toArray, List.set_cons_succ, List.set_cons_zero] at ha; subst ha
            refine wt_take 6 rfl (by kernel_rfl) (by kernel_rfl) (by kernel_rfl) (fun _ _ _ _ h => h) rfl hC ⟨_, fun w hw => by (go_simp; try with_reducible rfl), fun a1 ha => ?_⟩
            simp only [Act.put, List.setIfInBounds_toArray, List.set_cons_succ, List.set_cons_zero] at ha; subst ha
            refine wt_take 7 rfl (by kernel_rfl) (by kernel_rfl) (by kernel_rfl) (fun _ _ _ _ h => h) rfl hC ⟨_, fun w hw => ex_load1 rfl Tryd.underlying3 rfl rfl (by rw [cell_of_row w _ _ _ _ (0, 0) (hw.getB 2 rfl)]; rfl), fun a1 ha => ?_⟩
            simp only [Act.put, List.setIfInBounds_toArray, List.set_cons_succ, List.set_cons_zero] at ha; subst ha
            refine wt_take 8 rfl (by kernel_rfl) (by kernel_rfl) (by kernel_rfl) (fun _ _ _ _ h => h) rfl hC ⟨.int .i64 ((ri : Nat) : Int), fun w hw => by (go_simp; exact (wrap_in (by omega)).trans (by omega)), fun a1 ha => ?_⟩
            simp only [Act.put, List.setIfInBounds_toArray, List.set_cons_succ, List.set_cons_zero] at ha; subst ha
            refine wt_take 9 rfl (by kernel_rfl) (by kernel_rfl) (by kernel_rfl) (fun _ _ _ _ h => h) rfl hC ⟨.agg #[.int .i64 ((rb : Nat) : Int), .int .i64 ((L' : Nat) : Int), .int .i64 ((ri : Nat) : Int)], fun w hw => by (go_simp; try rfl), fun a1 ha => ?_⟩
            simp only [Act.put, List.setIfInBounds_toArray, List.set_cons_succ, List.set_cons_zero] at ha; subst ha
            refine wt_one 1 (by kernel_rfl) ?_
            refine wt_call0 hs rfl rfl (by go_simp) (HM.out _ (hs.get 1 rfl)) (by simp only [Act.put, List.setIfInBounds_toArray, List.set_cons_succ, List.set_cons_zero]; rfl) ?_
            clear hs; intro w1 hs
            refine wt_and (hs.sub (by repeat (first | exact List.Sublist.refl _ | refine List.Sublist.cons_cons _ ?_ | refine List.Sublist.cons _ ?_))) fun hC => ?_
            refine wt_take 10 rfl (by kernel_rfl) (by kernel_rfl) (by kernel_rfl) (fun _ _ _ _ h => h) rfl hC ⟨.bool false, fun w hw => by (go_simp; try simp), fun a1 ha => ?_⟩
            simp only [Act.put, List.setIfInBounds_toArray, List.set_cons_succ, List.set_cons_zero] at ha; subst ha
            refine wt_done (by kernel_rfl) ?_
            skip
            clear hC
            go_wp2
            go_roundw
            case rel => exact ⟨k + 1, B', by omega, by go_num, by rw [HU1.out], by rw [HL1.out], HT2.out, hs⟩
            case measure => simp [intOf]; omega
    · obtain rfl : k = N := by omega
      go_wp2
      go_ret
      exact ⟨rfl, hs.letgo⟩
theorem gives_walk (x0 x1 : Int) (N cap : Nat) (G : Nat → Int) (ao : Option Addr) (db doff : Nat) (w : World) (hN : N ≤ 9223372036854775807)
    (hao : 0 < N → ao = some ⟨db, doff, none⟩) (hrd : Rd w db doff N fun j => .int .i64 (G j)) (hb : ∀ j, j < N → -9223372036854775808 ≤ G j ∧ G j ≤ 9223372036854775807)
    (h0 : -9223372036854775808 ≤ x0 ∧ x0 ≤ 9223372036854775807) (h1 : -9223372036854775808 ≤ x1 ∧ x1 ≤ 9223372036854775807) (hR : Rd w 0 0 64 tabV) :
    Calls Tryd.prog 5 #[.int .i64 x0, .int .i64 x1, .slice ao N cap] w fun e w' => e = .returned (.bool true) ∧ Below w.heap.size w w' := by
  obtain ⟨n, m, hmay, HS⟩ := super_any x0 x1 h0 h1
  exact (gives_core n m N cap x0 x1 G ao db doff w hmay hN hao hrd hb (Lib.hid HS) hR).mono fun e w' ⟨he, ht⟩ => ⟨he, ht.below⟩
end Go.Proofs.YtfedfdcbhggipaaDoor
