/- The document's Get and Set; what both say alike. -/
import Derived.Test.YtlekfbcmjcgabaaRows
import Derived.Test.YtlekfbcmjcgabaaWl
import Derived.Test.YtlekfbcmjcgabaaWq
import Derived.Test.YtlekfbcmjcgabaaPlain
import Derived.BigQuiet
import Derived.WalkSpells
import Derived.WalkLawsBesides
import Derived.Test.YtlekfbcmjcgabaaG
import Derived.Test.YtlekfbcmjcgabaaK
namespace Go.Proofs.Ytlekfbcmjcgabaa
set_option linter.unusedVariables false
set_option linter.unusedSimpArgs false
open Go Go.Sp Go.RowKit Go.BigFrame

theorem rget_bad (F : Nat → UInt8) (A W : Int) (w : World) (hW : -9223372036854775808 ≤ W ∧ W ≤ 9223372036854775807) (h : W < 1 ∨ 8 < W ∨ within A W = false) :
    Calls Try.prog 32 #[bytesV 128 F, .int .i64 A, .int .i64 W] w fun e w' => e = .returned (.tuple #[.int .i64 0, .int .i64 10]) ∧ Tr w [] w' [] := by
  have hs := Tr.refl w []
  by_cases h1 : W < 1
  · go_enter Try.func32, Try.ntmps32
    go_wp2_with (first | ((with_reducible refine at_box rfl ?_); refine wl_boxA hs rfl rfl rfl ?_; clear hs; intro w1 b hs) | (go_at_call 37; refine (fits_any _ _ _ (by omega) (by omega)).mono ?_; rintro e w2 ⟨rfl, rfl⟩))
    go_ret2
    exact ⟨rfl, hs.letgo⟩
  · by_cases h2 : 8 < W
    · go_enter Try.func32, Try.ntmps32
      go_wp2_with (first | ((with_reducible refine at_box rfl ?_); refine wl_boxA hs rfl rfl rfl ?_; clear hs; intro w1 b hs) | (go_at_call 37; refine (fits_any _ _ _ (by omega) (by omega)).mono ?_; rintro e w2 ⟨rfl, rfl⟩))
      go_ret2
      exact ⟨rfl, hs.letgo⟩
    · have h3 : within A W = false := by
        rcases h with h | h | h
        · omega
        · omega
        · exact h
      clear h
      go_enter Try.func32, Try.ntmps32
      go_wp2_with (first | ((with_reducible refine at_box rfl ?_); refine wl_boxA hs rfl rfl rfl ?_; clear hs; intro w1 b hs) | (go_at_call 37; refine (fits_any _ _ _ (by omega) (by omega)).mono ?_; rintro e w2 ⟨rfl, rfl⟩))
      go_ret2
      exact ⟨rfl, hs.letgo⟩
/-- From the highest byte down. -/
theorem num_top (F : Nat → UInt8) (A q W : Nat) (h : q < W) : num F (A + q) (W - q) = (F (A + q)).toNat + 256 * num F (A + (q + 1)) (W - (q + 1)) := by
  rw [show W - q = W - (q + 1) + 1 by omega]
  simp only [num]
  rw [show A + q + 1 = A + (q + 1) by omega]
theorem num_part (F : Nat → UInt8) (A q W : Nat) (h : q ≤ W) : num F (A + q) (W - q) ≤ num F A W := by
  have := num_add F (W - q) q A
  rw [show q + (W - q) = W by omega] at this
  rw [this]
  have h1 : 1 ≤ 256 ^ q := Nat.one_le_pow _ _ (by decide)
  have h2 := Nat.mul_le_mul_right (num F (A + q) (W - q)) h1
  omega
/-- What Get answers. -/
def getC (F : Nat → UInt8) (A W : Nat) : Value := if num F A W ≤ 4611686018427387904 then .tuple #[.int .i64 (num F A W : Nat), .int .i64 0] else .tuple #[.int .i64 0, .int .i64 11]
theorem getC_ok {F : Nat → UInt8} {A W : Nat} (h : num F A W ≤ 4611686018427387904) : getC F A W = .tuple #[.int .i64 (num F A W : Nat), .int .i64 0] := if_pos h
theorem getC_big {F : Nat → UInt8} {A W : Nat} (h : ¬ num F A W ≤ 4611686018427387904) : getC F A W = .tuple #[.int .i64 0, .int .i64 11] := if_neg h
theorem get_all (F : Nat → UInt8) (A W : Nat) (w : World) (h1 : 1 ≤ W) (h8 : W ≤ 8) (h : A + W ≤ 128) :
    Calls Try.prog 25 #[bytesV 128 F, .int .i64 (A : Int), .int .i64 (W : Int)] w fun e w' => e = .returned (getC F A W) ∧ Tr w [] w' [] := by
  by_cases hn : num F A W ≤ 4611686018427387904
  · rw [getC_ok hn]; exact get_ok F A W w h1 h8 h hn
  · rw [getC_big hn]; exact get_big F A W w h1 h8 h (by omega)
set_option maxHeartbeats 1000000 in
theorem rget_loop (F : Nat → UInt8) (A W : Nat) (w : World) (h1 : 1 ≤ W) (h8 : W ≤ 8) (h : A + W ≤ 128) :
    Calls Try.prog 32 #[bytesV 128 F, .int .i64 (A : Int), .int .i64 (W : Int)] w fun e w' => e = .returned (getC F A W) ∧ Tr w [] w' [] := by
  have hs := Tr.refl w []
  have hw : within (A : Int) (W : Int) = true := within_true (by omega) (by omega) (by omega)
  have d1 : decide ((W : Int) < 1) = false := by simp; omega
  have d2 : decide (8 < (W : Int)) = false := by simp; omega
  go_enter Try.func32, Try.ntmps32
  go_wp2_with (first | ((with_reducible refine at_box rfl ?_); refine wl_boxA hs rfl rfl rfl ?_; clear hs; intro w1 b hs) | (go_at_call 37; refine (fits_any _ _ _ (by omega) (by omega)).mono ?_; rintro e w2 ⟨rfl, rfl⟩))
  clear hw d1 d2
  go_loop [8, 9] (fun v i => ∃ k : Nat, k ≤ W ∧ i = .int .i64 ((k : Int) - 1) ∧ v = .int .i64 (num F (A + k) (W - k) : Nat) ∧ num F (A + k) (W - k) ≤ 4611686018427387904) (fun _ i => (intOf i + 1).toNat)
  case atStart => exact ⟨W, Nat.le_refl _, rfl, by rw [Nat.sub_self]; rfl, by rw [Nat.sub_self]; simp [num]⟩
  case round =>
    obtain ⟨k, hk, rfl, rfl, hle⟩ := hrel
    rcases Nat.eq_zero_or_pos k with h0 | h0
    · subst h0
      have HC := Lib.hid (getC_ok (F := F) (A := A) (W := W) hle)
      rw [Nat.add_zero, Nat.sub_zero] at hle ⊢
      generalize num F A W = v at *
      go_wp2
      go_ret2
      exact ⟨by rw [HC.out]; rfl, hs.letgo⟩
    · obtain ⟨q, rfl⟩ : ∃ q, k = q + 1 := ⟨k - 1, by omega⟩
      rw [show (((q + 1 : Nat) : Int) - 1) = (q : Int) by omega]
      have HT := Lib.hid (num_top F A q W (by omega))
      have HP := Lib.hid (num_part F A q W (by omega))
      have hby := (F (A + q)).toNat_lt
      have HF : Hid ((rowOf 128 (u8v F))[A + q]? = some (.int .u8 ((F (A + q)).toNat : Int))) := Lib.hid (rowOf_u8 (by omega))
      have HC := Lib.hid (getC_big (F := F) (A := A) (W := W))
      generalize num F (A + (q + 1)) (W - (q + 1)) = v at *
      generalize (F (A + q)).toNat = y at *
      by_cases hfit : 256 * v + y ≤ 4611686018427387904
      · by_cases hv : v = 18014398509481984
        · obtain rfl : y = 0 := by omega
          have t1 : decide (18014398509481984 < (v : Int)) = false := decide_eq_false (by omega)
          have t2 : ((v : Int) == 18014398509481984) = true := by rw [beq_iff_eq]; omega
          have HV := Lib.hid hv
          clear hv
          go_wp2_with (first | ((with_reducible refine at_load rfl ?_); refine wl_load1 hs rfl rfl Try.underlying5 rfl rfl 0 rfl HF.out ?_))
          go_round
          case rel => exact ⟨q, by omega, by go_num, by rw [HT.out]; go_num, by rw [HT.out]; omega⟩
          case measure => simp [intOf] <;> omega
        · have t1 : decide (18014398509481984 < (v : Int)) = false := decide_eq_false (by omega)
          have t2 : ((v : Int) == 18014398509481984) = false := by rw [beq_eq_false_iff_ne]; omega
          have HV := Lib.hid hv
          clear hv
          go_wp2_with (first | ((with_reducible refine at_load rfl ?_); refine wl_load1 hs rfl rfl Try.underlying5 rfl rfl 0 rfl HF.out ?_))
          go_round
          case rel => exact ⟨q, by omega, by go_num, by rw [HT.out]; go_num, by rw [HT.out]; omega⟩
          case measure => simp [intOf] <;> omega
      · have HB : Hid (getC F A W = .tuple #[.int .i64 0, .int .i64 11]) := Lib.hid (HC.out (by have := HP.out; have := HT.out; omega))
        clear HC
        by_cases hv : v = 18014398509481984
        · have t1 : decide (18014398509481984 < (v : Int)) = false := decide_eq_false (by omega)
          have t2 : ((v : Int) == 18014398509481984) = true := by rw [beq_iff_eq]; omega
          have t3 : 0 < y := by omega
          have t4 : (0 : Int) < (y : Int) := by omega
          have HV := Lib.hid hv
          clear hv
          go_wp2_with (first | ((with_reducible refine at_load rfl ?_); refine wl_load1 hs rfl rfl Try.underlying5 rfl rfl 0 rfl HF.out ?_))
          go_ret2
          exact ⟨by rw [HB.out]; rfl, hs.letgo⟩
        · have t1 : decide (18014398509481984 < (v : Int)) = true := decide_eq_true (by omega)
          have HV := Lib.hid hv
          clear hv
          go_wp2_with (first | ((with_reducible refine at_load rfl ?_); refine wl_load1 hs rfl rfl Try.underlying5 rfl rfl 0 rfl HF.out ?_))
          go_ret2
          exact ⟨by rw [HB.out]; rfl, hs.letgo⟩
theorem get_same (F : Nat → UInt8) (A W : Int) (hA : -9223372036854775808 ≤ A ∧ A ≤ 9223372036854775807) (hW : -9223372036854775808 ≤ W ∧ W ≤ 9223372036854775807) : ∃ n e : Int,
    (∀ w, Calls Try.prog 25 #[bytesV 128 F, .int .i64 A, .int .i64 W] w fun r w' => r = .returned (.tuple #[.int .i64 n, .int .i64 e]) ∧ Tr w [] w' []) ∧
    (∀ w, Calls Try.prog 32 #[bytesV 128 F, .int .i64 A, .int .i64 W] w fun r w' => r = .returned (.tuple #[.int .i64 n, .int .i64 e]) ∧ Tr w [] w' []) := by
  by_cases h : W < 1 ∨ 8 < W ∨ within A W = false
  · exact ⟨0, 10, fun w => get_bad F A W w h, fun w => rget_bad F A W w hW h⟩
  · have h3 : within A W = true := by
      cases hb : within A W
      · exact absurd (Or.inr (Or.inr hb)) h
      · rfl
    obtain ⟨g1, g2, g3⟩ := within_iff.1 h3
    obtain ⟨a, rfl⟩ : ∃ a : Nat, A = (a : Int) := ⟨A.toNat, by omega⟩
    obtain ⟨k, rfl⟩ : ∃ k : Nat, W = (k : Int) := ⟨W.toNat, by omega⟩
    have h1 := fun w => get_all F a k w (by omega) (by omega) (by omega)
    have h2 := fun w => rget_loop F a k w (by omega) (by omega) (by omega)
    by_cases hn : num F a k ≤ 4611686018427387904
    · rw [getC_ok hn] at h1 h2; exact ⟨_, _, h1, h2⟩
    · rw [getC_big hn] at h1 h2; exact ⟨_, _, h1, h2⟩

/-! Set -/
theorem rset_place (F : Nat → UInt8) (A W v : Int) (w : World) (hW : -9223372036854775808 ≤ W ∧ W ≤ 9223372036854775807) (h : W < 1 ∨ 8 < W ∨ within A W = false) :
    Calls Try.prog 33 #[bytesV 128 F, .int .i64 A, .int .i64 W, .int .i64 v] w fun e w' => e = .returned (.tuple #[bytesV 128 (fun _ => 0), .int .i64 10]) ∧ Tr w [] w' [] := by
  have hs := Tr.refl w []
  by_cases h1 : W < 1
  · go_enter Try.func33, Try.ntmps33
    go_wp2_with (first | ((with_reducible refine at_box rfl ?_); refine wl_boxA hs rfl rfl rfl ?_; clear hs; intro w1 b hs) | ((with_reducible refine at_alloc rfl ?_); refine wl_allocA hs rfl rfl zero30 ?_; clear hs; intro w1 b2 hs) | ((with_reducible refine at_build rfl ?_); refine wl_build0B rfl rfl Try.underlying30 (F := fun _ => 0) zero30 isz5 ?_) | ((with_reducible refine at_store rfl ?_); refine wl_storeA hs rfl rfl rfl rfl (size30r _) (one30 _) 0 rfl (by simp only [rowOf_size]) ?_; clear hs; intro w1 hs) | (go_at_call 37; refine (fits_any _ _ _ (by omega) (by omega)).mono ?_; rintro e w2 ⟨rfl, rfl⟩))
    exact ret_cell2 hs rfl rfl Try.underlying30 rfl rfl rfl 0 rfl (size30r _) ⟨rfl, hs.letgo⟩
  · by_cases h2 : 8 < W
    · go_enter Try.func33, Try.ntmps33
      go_wp2_with (first | ((with_reducible refine at_box rfl ?_); refine wl_boxA hs rfl rfl rfl ?_; clear hs; intro w1 b hs) | ((with_reducible refine at_alloc rfl ?_); refine wl_allocA hs rfl rfl zero30 ?_; clear hs; intro w1 b2 hs) | ((with_reducible refine at_build rfl ?_); refine wl_build0B rfl rfl Try.underlying30 (F := fun _ => 0) zero30 isz5 ?_) | ((with_reducible refine at_store rfl ?_); refine wl_storeA hs rfl rfl rfl rfl (size30r _) (one30 _) 0 rfl (by simp only [rowOf_size]) ?_; clear hs; intro w1 hs) | (go_at_call 37; refine (fits_any _ _ _ (by omega) (by omega)).mono ?_; rintro e w2 ⟨rfl, rfl⟩))
      exact ret_cell2 hs rfl rfl Try.underlying30 rfl rfl rfl 0 rfl (size30r _) ⟨rfl, hs.letgo⟩
    · have h3 : within A W = false := by
        rcases h with h | h | h
        · omega
        · omega
        · exact h
      clear h
      go_enter Try.func33, Try.ntmps33
      go_wp2_with (first | ((with_reducible refine at_box rfl ?_); refine wl_boxA hs rfl rfl rfl ?_; clear hs; intro w1 b hs) | ((with_reducible refine at_alloc rfl ?_); refine wl_allocA hs rfl rfl zero30 ?_; clear hs; intro w1 b2 hs) | ((with_reducible refine at_build rfl ?_); refine wl_build0B rfl rfl Try.underlying30 (F := fun _ => 0) zero30 isz5 ?_) | ((with_reducible refine at_store rfl ?_); refine wl_storeA hs rfl rfl rfl rfl (size30r _) (one30 _) 0 rfl (by simp only [rowOf_size]) ?_; clear hs; intro w1 hs) | (go_at_call 37; refine (fits_any _ _ _ (by omega) (by omega)).mono ?_; rintro e w2 ⟨rfl, rfl⟩))
      exact ret_cell2 hs rfl rfl Try.underlying30 rfl rfl rfl 0 rfl (size30r _) ⟨rfl, hs.letgo⟩

theorem rset_neg (F : Nat → UInt8) (A W : Nat) (v : Int) (w : World) (h1 : 1 ≤ W) (h8 : W ≤ 8) (h : A + W ≤ 128) (hv : v < 0 ∨ 4611686018427387904 < v) :
    Calls Try.prog 33 #[bytesV 128 F, .int .i64 A, .int .i64 W, .int .i64 v] w fun e w' => e = .returned (.tuple #[bytesV 128 (fun _ => 0), .int .i64 11]) ∧ Tr w [] w' [] := by
  have hs := Tr.refl w []
  have hw : within (A : Int) (W : Int) = true := within_true (by omega) (by omega) (by omega)
  have d1 : decide ((W : Int) < 1) = false := by simp; omega
  have d2 : decide (8 < (W : Int)) = false := by simp; omega
  by_cases hn : v < 0
  · go_enter Try.func33, Try.ntmps33
    go_wp2_with (first | ((with_reducible refine at_box rfl ?_); refine wl_boxA hs rfl rfl rfl ?_; clear hs; intro w1 b hs) | ((with_reducible refine at_alloc rfl ?_); refine wl_allocA hs rfl rfl zero30 ?_; clear hs; intro w1 b2 hs) | ((with_reducible refine at_build rfl ?_); refine wl_build0B rfl rfl Try.underlying30 (F := fun _ => 0) zero30 isz5 ?_) | ((with_reducible refine at_store rfl ?_); refine wl_storeA hs rfl rfl rfl rfl (size30r _) (one30 _) 0 rfl (by simp only [rowOf_size]) ?_; clear hs; intro w1 hs) | (go_at_call 37; refine (fits_any _ _ _ (by omega) (by omega)).mono ?_; rintro e w2 ⟨rfl, rfl⟩))
    exact ret_cell2 hs rfl rfl Try.underlying30 rfl rfl rfl 0 rfl (size30r _) ⟨rfl, hs.letgo⟩
  · have hb : 4611686018427387904 < v := by omega
    go_enter Try.func33, Try.ntmps33
    go_wp2_with (first | ((with_reducible refine at_box rfl ?_); refine wl_boxA hs rfl rfl rfl ?_; clear hs; intro w1 b hs) | ((with_reducible refine at_alloc rfl ?_); refine wl_allocA hs rfl rfl zero30 ?_; clear hs; intro w1 b2 hs) | ((with_reducible refine at_build rfl ?_); refine wl_build0B rfl rfl Try.underlying30 (F := fun _ => 0) zero30 isz5 ?_) | ((with_reducible refine at_store rfl ?_); refine wl_storeA hs rfl rfl rfl rfl (size30r _) (one30 _) 0 rfl (by simp only [rowOf_size]) ?_; clear hs; intro w1 hs) | (go_at_call 37; refine (fits_any _ _ _ (by omega) (by omega)).mono ?_; rintro e w2 ⟨rfl, rfl⟩))
    exact ret_cell2 hs rfl rfl Try.underlying30 rfl rfl rfl 0 rfl (size30r _) ⟨rfl, hs.letgo⟩
theorem rset_big (F : Nat → UInt8) (A W v : Nat) (w : World) (h1 : 1 ≤ W) (h8 : W < 8) (h : A + W ≤ 128) (hv0 : v ≤ 4611686018427387904) (hv : 256 ^ W ≤ v) :
    Calls Try.prog 33 #[bytesV 128 F, .int .i64 A, .int .i64 W, .int .i64 v] w fun e w' => e = .returned (.tuple #[bytesV 128 (fun _ => 0), .int .i64 11]) ∧ Tr w [] w' [] := by
  have hs := Tr.refl w []
  have hw : within (A : Int) (W : Int) = true := within_true (by omega) (by omega) (by omega)
  have d1 : decide ((W : Int) < 1) = false := by simp; omega
  have d2 : decide (8 < (W : Int)) = false := by simp; omega
  have d4 : decide (4611686018427387904 < (v : Int)) = false := by simp; omega
  have HP := Lib.hid (fun w => power_any W w (by omega))
  generalize (256 ^ W : Nat) = p at *
  have d5 : decide ((v : Int) < (p : Int)) = false := by simp; omega
  go_enter Try.func33, Try.ntmps33
  go_wp2_with (first | ((with_reducible refine at_box rfl ?_); refine wl_boxA hs rfl rfl rfl ?_; clear hs; intro w1 b hs) | ((with_reducible refine at_alloc rfl ?_); refine wl_allocA hs rfl rfl zero30 ?_; clear hs; intro w1 b2 hs) | ((with_reducible refine at_build rfl ?_); refine wl_build0B rfl rfl Try.underlying30 (F := fun _ => 0) zero30 isz5 ?_) | ((with_reducible refine at_store rfl ?_); refine wl_storeA hs rfl rfl rfl rfl (size30r _) (one30 _) 0 rfl (by simp only [rowOf_size]) ?_; clear hs; intro w1 hs) | (go_at_call 37; refine (fits_any _ _ _ (by omega) (by omega)).mono ?_; rintro e w2 ⟨rfl, rfl⟩) | (go_at_call 38; refine (HP.out _).mono ?_; rintro e w2 ⟨rfl, rfl⟩))
  exact ret_cell2 hs rfl rfl Try.underlying30 rfl rfl rfl 0 rfl (size30r _) ⟨rfl, hs.letgo⟩
theorem div_step (v k : Nat) : v / 256 ^ k / 256 = v / 256 ^ (k + 1) := by rw [Nat.pow_succ, Nat.div_div_eq_div_mul]
theorem rset_cells (F : Nat → UInt8) (A v k q : Nat) (hq : q = v / 256 ^ k) (x : Int) (hx : x = (q : Int) % 256) : ∀ j, j < 128 →
    (if j = A + k then Value.int .u8 x else Sp.u8v (setF F A k v) j) = Sp.u8v (setF F A (k + 1) v) j := by
  intro j hj
  subst hx hq
  simp only [Sp.u8v, setF]
  by_cases h : j = A + k
  · subst h
    rw [if_pos rfl, if_pos (by omega), show A + k - A = k from by omega]
    generalize v / 256 ^ k = q
    rw [UInt8.toNat_ofNat']
    congr 1
  · rw [if_neg h]
    by_cases h2 : A ≤ j ∧ j < A + k
    · rw [if_pos h2, if_pos (by omega)]
    · rw [if_neg h2, if_neg (by omega)]
set_option maxHeartbeats 1000000 in
theorem rset_ok (F : Nat → UInt8) (A W v : Nat) (w : World) (h1 : 1 ≤ W) (h8 : W ≤ 8) (h : A + W ≤ 128) (hv0 : v ≤ 4611686018427387904) (hv : v < 256 ^ W) :
    Calls Try.prog 33 #[bytesV 128 F, .int .i64 A, .int .i64 W, .int .i64 v] w fun e w' => e = .returned (.tuple #[bytesV 128 (setF F A W v), .int .i64 0]) ∧ Tr w [] w' [] := by
  have hs := Tr.refl w []
  have hw : within (A : Int) (W : Int) = true := within_true (by omega) (by omega) (by omega)
  have d1 : decide ((W : Int) < 1) = false := by simp; omega
  have d2 : decide (8 < (W : Int)) = false := by simp; omega
  have d4 : decide (4611686018427387904 < (v : Int)) = false := by simp; omega
  have H0 : Hid (v = v / 256 ^ 0) := Lib.hid (by simp)
  have HS := Lib.hid (div_step v)
  have HC := Lib.hid (rset_cells F A v)
  obtain ⟨p, hp⟩ : ∃ p, p = 256 ^ W := ⟨_, rfl⟩
  have HP := Lib.hid (fun (hh : W ≤ 7) w => power_any W w hh)
  rw [← hp] at HP hv
  clear hp
  have d5 : decide ((p : Int) ≤ (v : Int)) = false := by simp; omega
  have d6 : decide (p ≤ v) = false := by simp; omega
  by_cases h7 : W ≤ 7
  · have d7 : decide ((W : Int) < 8) = true := by simp; omega
    go_enter Try.func33, Try.ntmps33
    go_upto_region 5 with (first | ((with_reducible refine at_box rfl ?_); refine wl_boxA hs rfl rfl rfl ?_; clear hs; intro w1 b hs) | ((with_reducible refine at_alloc rfl ?_); refine wl_allocA hs rfl rfl zero30 ?_; clear hs; intro w1 b2 hs) | (go_at_call 37; refine (fits_any _ _ _ (by omega) (by omega)).mono ?_; rintro e w2 ⟨rfl, rfl⟩) | (go_at_call 38; refine (HP.out h7 _).mono ?_; rintro e w2 ⟨rfl, rfl⟩))
    go_wp2_with (first | ((with_reducible refine at_load rfl ?_); refine wl_loadB hs rfl rfl Try.underlying30 rfl 1 rfl size30 ?_) | ((with_reducible refine at_alloc rfl ?_); refine wl_allocA hs rfl rfl zero30 ?_; clear hs; intro w1 b3 hs) | ((with_reducible refine at_store rfl ?_); refine wl_storeA hs rfl rfl rfl rfl (size30r _) (one30 _) 0 rfl (by simp only [rowOf_size]) ?_; clear hs; intro w1 hs))
    clear HP hw d1 d2 d4 d5 d6 d7
    go_loopw [11, 12] (fun x i wr => ∃ k : Nat, k ≤ W ∧ i = .int .i64 k ∧ x = .int .i64 (v / 256 ^ k : Nat) ∧ Tr w [] wr [Res.blk b3 (rowOf 128 (u8v (setF F A k v))) 30, Res.blk b2 (rowOf 128 (u8v fun _ => 0)) 30, Res.blk b (rowOf 128 (u8v F)) 30]) (fun _ i _ => W - (intOf i).toNat)
    case atStart => exact ⟨0, Nat.zero_le _, rfl, by rw [Nat.pow_zero, Nat.div_one], by rw [setF_zero]; exact hs⟩
    case round =>
      clear hs
      obtain ⟨k, hk, rfl, rfl, hs⟩ := hrel
      have HQ := Lib.hid (HS.out k)
      have hbd : v / 256 ^ k ≤ v := Nat.div_le_self _ _
      have HR := Lib.hid (HC.out k (v / 256 ^ k) rfl)
      generalize v / 256 ^ k = q at *
      by_cases hlt : k < W
      · go_wp2_with (first | ((with_reducible refine at_store rfl ?_); refine wl_store1R hs rfl rfl size5 rfl rfl rfl 0 rfl (by omega) (u8v (setF F A (k + 1) v)) (HR.out _ rfl) ?_; clear hs; intro w1 hs))
        go_roundw
        case rel => exact ⟨k + 1, by omega, by go_num, by rw [← HQ.out]; go_num, hs⟩
        case measure => simp [intOf]; omega
      · obtain rfl : k = W := by omega
        go_wp2_with (first | ((with_reducible refine at_load rfl ?_); refine wl_loadB hs rfl rfl Try.underlying30 rfl 0 rfl size30 ?_) | ((with_reducible refine at_store rfl ?_); refine wl_storeA hs rfl rfl rfl rfl (size30r _) (one30 _) 1 rfl (by simp only [rowOf_size]) ?_; clear hs; intro w1 hs))
        exact ret_cell2 hs rfl rfl Try.underlying30 rfl rfl rfl 1 rfl (size30r _) ⟨rfl, hs.letgo⟩
  · have d7 : decide ((W : Int) < 8) = false := by simp; omega
    go_enter Try.func33, Try.ntmps33
    go_upto_region 5 with (first | ((with_reducible refine at_box rfl ?_); refine wl_boxA hs rfl rfl rfl ?_; clear hs; intro w1 b hs) | ((with_reducible refine at_alloc rfl ?_); refine wl_allocA hs rfl rfl zero30 ?_; clear hs; intro w1 b2 hs) | (go_at_call 37; refine (fits_any _ _ _ (by omega) (by omega)).mono ?_; rintro e w2 ⟨rfl, rfl⟩) | (go_at_call 38; refine (HP.out h7 _).mono ?_; rintro e w2 ⟨rfl, rfl⟩))
    go_wp2_with (first | ((with_reducible refine at_load rfl ?_); refine wl_loadB hs rfl rfl Try.underlying30 rfl 1 rfl size30 ?_) | ((with_reducible refine at_alloc rfl ?_); refine wl_allocA hs rfl rfl zero30 ?_; clear hs; intro w1 b3 hs) | ((with_reducible refine at_store rfl ?_); refine wl_storeA hs rfl rfl rfl rfl (size30r _) (one30 _) 0 rfl (by simp only [rowOf_size]) ?_; clear hs; intro w1 hs))
    clear HP hw d1 d2 d4 d5 d6 d7
    go_loopw [11, 12] (fun x i wr => ∃ k : Nat, k ≤ W ∧ i = .int .i64 k ∧ x = .int .i64 (v / 256 ^ k : Nat) ∧ Tr w [] wr [Res.blk b3 (rowOf 128 (u8v (setF F A k v))) 30, Res.blk b2 (rowOf 128 (u8v fun _ => 0)) 30, Res.blk b (rowOf 128 (u8v F)) 30]) (fun _ i _ => W - (intOf i).toNat)
    case atStart => exact ⟨0, Nat.zero_le _, rfl, by rw [Nat.pow_zero, Nat.div_one], by rw [setF_zero]; exact hs⟩
    case round =>
      clear hs
      obtain ⟨k, hk, rfl, rfl, hs⟩ := hrel
      have HQ := Lib.hid (HS.out k)
      have hbd : v / 256 ^ k ≤ v := Nat.div_le_self _ _
      have HR := Lib.hid (HC.out k (v / 256 ^ k) rfl)
      generalize v / 256 ^ k = q at *
      by_cases hlt : k < W
      · go_wp2_with (first | ((with_reducible refine at_store rfl ?_); refine wl_store1R hs rfl rfl size5 rfl rfl rfl 0 rfl (by omega) (u8v (setF F A (k + 1) v)) (HR.out _ rfl) ?_; clear hs; intro w1 hs))
        go_roundw
        case rel => exact ⟨k + 1, by omega, by go_num, by rw [← HQ.out]; go_num, hs⟩
        case measure => simp [intOf]; omega
      · obtain rfl : k = W := by omega
        go_wp2_with (first | ((with_reducible refine at_load rfl ?_); refine wl_loadB hs rfl rfl Try.underlying30 rfl 0 rfl size30 ?_) | ((with_reducible refine at_store rfl ?_); refine wl_storeA hs rfl rfl rfl rfl (size30r _) (one30 _) 1 rfl (by simp only [rowOf_size]) ?_; clear hs; intro w1 hs))
        exact ret_cell2 hs rfl rfl Try.underlying30 rfl rfl rfl 1 rfl (size30r _) ⟨rfl, hs.letgo⟩
theorem set_same (F : Nat → UInt8) (A W v : Int) (hA : -9223372036854775808 ≤ A ∧ A ≤ 9223372036854775807) (hW : -9223372036854775808 ≤ W ∧ W ≤ 9223372036854775807) (hv : -9223372036854775808 ≤ v ∧ v ≤ 9223372036854775807) : ∃ (D : Nat → UInt8) (e : Int),
    (∀ w, Calls Try.prog 24 #[bytesV 128 F, .int .i64 A, .int .i64 W, .int .i64 v] w fun r w' => r = .returned (.tuple #[bytesV 128 D, .int .i64 e]) ∧ Tr w [] w' []) ∧
    (∀ w, Calls Try.prog 33 #[bytesV 128 F, .int .i64 A, .int .i64 W, .int .i64 v] w fun r w' => r = .returned (.tuple #[bytesV 128 D, .int .i64 e]) ∧ Tr w [] w' []) := by
  by_cases h : W < 1 ∨ 8 < W ∨ within A W = false
  · exact ⟨_, _, fun w => set_place F A W v w h, fun w => rset_place F A W v w hW h⟩
  · have h3 : within A W = true := by
      cases hb : within A W
      · exact absurd (Or.inr (Or.inr hb)) h
      · rfl
    obtain ⟨g1, g2, g3⟩ := within_iff.1 h3
    obtain ⟨a, rfl⟩ : ∃ a : Nat, A = (a : Int) := ⟨A.toNat, by omega⟩
    obtain ⟨k, rfl⟩ : ∃ k : Nat, W = (k : Int) := ⟨W.toNat, by omega⟩
    by_cases hn : v < 0 ∨ 4611686018427387904 < v
    · exact ⟨_, _, fun w => set_neg F a k v w (by omega) (by omega) (by omega) hn, fun w => rset_neg F a k v w (by omega) (by omega) (by omega) hn⟩
    · obtain ⟨n, rfl⟩ : ∃ n : Nat, v = (n : Int) := ⟨v.toNat, by omega⟩
      by_cases hp : n < 256 ^ k
      · exact ⟨_, _, fun w => set_ok F a k n w (by omega) (by omega) (by omega) (by omega) hp, fun w => rset_ok F a k n w (by omega) (by omega) (by omega) (by omega) hp⟩
      · have h8 : k < 8 := by
          rcases Nat.lt_or_ge k 8 with h8 | h8
          · exact h8
          · have : k = 8 := by omega
            subst this
            have : (256 : Nat) ^ 8 = 18446744073709551616 := by simp
            omega
        exact ⟨_, _, fun w => set_big F a k n w (by omega) h8 (by omega) (by omega) (by omega), fun w => rset_big F a k n w (by omega) h8 (by omega) (by omega) (by omega)⟩
theorem splice_same (F G : Nat → UInt8) (A : Int) (n : Nat) (hA : -9223372036854775808 ≤ A ∧ A ≤ 9223372036854775807) (hn : n ≤ 9223372036854775807) : ∃ (D : Nat → UInt8) (e : Int),
    (∀ ao cap db doff w, (0 < n → ao = some ⟨db, doff, none⟩) → Rd w db doff n (u8v G) → Calls Try.prog 29 #[bytesV 128 F, .int .i64 A, .slice ao n cap] w fun r w' => r = .returned (.tuple #[bytesV 128 D, .int .i64 e]) ∧ Tr w [] w' []) ∧
    (∀ ao cap db doff w, (0 < n → ao = some ⟨db, doff, none⟩) → Rd w db doff n (u8v G) → Calls Try.prog 34 #[bytesV 128 F, .int .i64 A, .slice ao n cap] w fun r w' => r = .returned (.tuple #[bytesV 128 D, .int .i64 e]) ∧ Tr w [] w' []) := by
  cases h : within A n
  · exact ⟨_, _, fun ao cap db doff w _ _ => splice_no F A n ao cap w hn h, fun ao cap db doff w _ _ => rsplice_no F A n ao cap w hn h⟩
  · obtain ⟨g1, g2, g3⟩ := within_iff.1 h
    obtain ⟨a, rfl⟩ : ∃ a : Nat, A = (a : Int) := ⟨A.toNat, by omega⟩
    exact ⟨_, _, fun ao cap db doff w h1 h2 => splice_yes F G a n ao cap db doff w (by omega) h1 h2, fun ao cap db doff w h1 h2 => rsplice_yes F G a n ao cap db doff w (by omega) h1 h2⟩
end Go.Proofs.Ytlekfbcmjcgabaa
