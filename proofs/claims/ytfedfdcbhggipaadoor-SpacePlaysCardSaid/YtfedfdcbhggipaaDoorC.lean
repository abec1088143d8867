/- First and Count. -/
import Derived.Test.YtfedfdcbhggipaaDoorB
import Derived.Laws.Small
import Derived.Deep.LoopGhost
namespace Go.Proofs.YtfedfdcbhggipaaDoor
set_option linter.unusedVariables false
set_option linter.unusedSimpArgs false
open Go Go.Sp Go.RowKit Go.BigFrame

/-- r is the first place from a on that is not set; n: there is none. -/
def IsFirst (f : Nat → Bool) (n a r : Nat) : Prop := (∀ j, a ≤ j → j < r → f j = true) ∧ (r = n ∨ (a ≤ r ∧ r < n ∧ f r = false))
theorem first_ex (f : Nat → Bool) (n a : Nat) : ∃ r, IsFirst f n a r := by
  have h : ∀ k, (∃ r, IsFirst f n a r) ∨ ∀ j, a ≤ j → j < k → j < n → f j = true := by
    intro k
    induction k with
    | zero => exact Or.inr fun j _ h => by omega
    | succ k ih =>
      rcases ih with ih | ih
      · exact Or.inl ih
      · by_cases hk : a ≤ k ∧ k < n
        · cases hf : f k
          · exact Or.inl ⟨k, fun j h1 h2 => ih j h1 h2 (by omega), Or.inr ⟨hk.1, hk.2, hf⟩⟩
          · refine Or.inr fun j h1 h2 h3 => ?_
            by_cases hj : j = k
            · subst hj; exact hf
            · exact ih j h1 (by omega) h3
        · exact Or.inr fun j h1 h2 h3 => ih j h1 (by omega) h3
  rcases h n with h | h
  · exact h
  · exact ⟨n, fun j h1 h2 => h j h1 h2 h2, Or.inl rfl⟩
noncomputable def firstP (f : Nat → Bool) (n a : Nat) : Nat := Classical.choose (first_ex f n a)
theorem firstP_is (f : Nat → Bool) (n a : Nat) : IsFirst f n a (firstP f n a) := Classical.choose_spec (first_ex f n a)
theorem firstP_le (f : Nat → Bool) (n a : Nat) : firstP f n a ≤ n := by
  rcases (firstP_is f n a).2 with h | h <;> omega
theorem firstP_eq {f : Nat → Bool} {n a r : Nat} (h : IsFirst f n a r) : firstP f n a = r := by
  obtain ⟨h1, h2⟩ := h
  obtain ⟨g1, g2⟩ := firstP_is f n a
  generalize firstP f n a = q at *
  rcases h2 with h2 | ⟨h2, h3, h4⟩ <;> rcases g2 with g2 | ⟨g2, g3, g4⟩
  · omega
  · have := h1 q g2 (by omega); rw [this] at g4; cases g4
  · have := g1 r h2 (by omega); rw [this] at h4; cases h4
  · rcases Nat.lt_trichotomy q r with h | h | h
    · have := h1 q g2 h; rw [this] at g4; cases g4
    · exact h
    · have := g1 r h2 h; rw [this] at h4; cases h4
/-- What First answers. -/
noncomputable def firstV (f : Nat → Bool) (n a : Nat) : Value := .tuple #[.int .i64 ((if firstP f n a < n then firstP f n a else 0 : Nat) : Int), .bool (decide (firstP f n a < n))]
theorem firstV_some {f : Nat → Bool} {n a r : Nat} (h1 : a ≤ r) (h2 : r < n) (h3 : f r = false) (h : ∀ j, a ≤ j → j < r → f j = true) : Value.tuple #[.int .i64 (r : Int), .bool true] = firstV f n a := by
  rw [firstV, firstP_eq ⟨h, Or.inr ⟨h1, h2, h3⟩⟩, if_pos h2, decide_eq_true h2]
theorem firstV_none {f : Nat → Bool} {n a : Nat} (h : ∀ j, a ≤ j → j < n → f j = true) : Value.tuple #[.int .i64 0, .bool false] = firstV f n a := by
  rw [firstV, firstP_eq ⟨h, Or.inl rfl⟩, if_neg (by omega), decide_eq_false (by omega)]
  rfl

/-- set, or ahead of a -/
def ahead (f : Nat → Bool) (a : Nat) : Nat → Bool := fun i => f i || decide (i < a)
theorem first_full {f : Nat → Bool} {a k : Nat} (hall : ∀ j, a ≤ j → j < 64 * k → f j = true) (h : word (ahead f a) k = 18446744073709551615) : ∀ j, a ≤ j → j < 64 * (k + 1) → f j = true := by
  intro j h1 h2
  rcases Nat.lt_or_ge j (64 * k) with h3 | h3
  · exact hall j h1 h3
  · have h4 := word_full.1 h (j - 64 * k) (by omega)
    rw [show 64 * k + (j - 64 * k) = j by omega, ahead] at h4
    have h5 : decide (j < a) = false := decide_eq_false (by omega)
    rw [h5, Bool.or_false] at h4
    exact h4
theorem first_hit {f : Nat → Bool} {a k c : Nat} (hall : ∀ j, a ≤ j → j < 64 * k → f j = true) (h1 : ahead f a (64 * k + c) = false) (h2 : ∀ j, j < c → ahead f a (64 * k + j) = true) :
    a ≤ 64 * k + c ∧ f (64 * k + c) = false ∧ ∀ j, a ≤ j → j < 64 * k + c → f j = true := by
  rw [ahead, Bool.or_eq_false_iff] at h1
  have h3 : ¬ 64 * k + c < a := of_decide_eq_false h1.2
  refine ⟨by omega, h1.1, fun j h4 h5 => ?_⟩
  rcases Nat.lt_or_ge j (64 * k) with h6 | h6
  · exact hall j h4 h6
  · have h7 := h2 (j - 64 * k) (by omega)
    rw [show 64 * k + (j - 64 * k) = j by omega, ahead] at h7
    have h8 : decide (j < a) = false := decide_eq_false (by omega)
    rw [h8, Bool.or_false] at h7
    exact h7
theorem mask_key (f : Nat → Bool) (a : Nat) : bits .or .u64 ((word f (a / 64) : Nat) : Int) (IntKind.u64.wrap (IntKind.u64.wrap (2 ^ (a % 64)) - 1)) = ((word (ahead f a) (a / 64) : Nat) : Int) := by
  have h := two64 a
  have h1 := Nat.one_le_two_pow (n := a % 64)
  have e2 : (2 : Int) ^ (a % 64) = ((2 ^ (a % 64) : Nat) : Int) := by push_cast; rfl
  have e3 : IntKind.u64.wrap (IntKind.u64.wrap (2 ^ (a % 64)) - 1) = ((2 ^ (a % 64) - 1 : Nat) : Int) := by
    rw [e2]
    generalize (2 ^ (a % 64) : Nat) = x at *
    rw [IntKind.wrap_u64, IntKind.wrap_u64]
    omega
  rw [e3, bits_or_u64_nat _ _ (word_lt f _) (Nat.lt_of_le_of_lt (Nat.sub_le _ _) h), word_mask]
  rfl
theorem xor_key (x : Nat) (hx : x < 18446744073709551616) : bits .xor .u64 IntKind.u64.max (x : Int) = ((18446744073709551615 - x : Nat) : Int) := by
  show IntKind.u64.wrap ((BitVec.ofInt 64 IntKind.u64.max ^^^ BitVec.ofInt 64 (x : Int)).toNat : Int) = _
  have h1 : BitVec.ofInt 64 IntKind.u64.max = BitVec.allOnes 64 := by decide
  have h2 : (BitVec.ofInt 64 (x : Int)).toNat = x := by
    rw [BitVec.ofInt_natCast, BitVec.toNat_ofNat]; exact Nat.mod_eq_of_lt (by omega)
  rw [h1, BitVec.allOnes_xor, BitVec.toNat_not, h2, IntKind.wrap_u64]
  omega

section
variable {d s n : Nat} {f : Nat → Bool} {w : World}
set_option maxHeartbeats 1000000 in
theorem first_any (frm : Int) (a : Nat) (hm : (if frm < 0 then (0 : Int) else frm) = (a : Int)) (hn : n ≤ 4096) (ha : a ≤ 9223372036854775807) (hz : ∀ i, n ≤ i → f i = false) (hR : Rd w 0 0 64 tabV) (h : (bitsR d s n f).holds w) :
    Calls Tryd.prog 41 #[.pointer (some ⟨d, 0, none⟩), .int .i64 frm] w fun e w' => e = .returned (firstV f n a) ∧ Tr w [] w' [] := by
  have hs := Tr.open2 h
  have HZ := Lib.hid hz
  have HR := Lib.hid hR
  have HH := Lib.hid h
  clear hz hR h
  go_enter Tryd.func41, Tryd.ntmps41
  go_wp2_with (first | ((with_reducible refine at_load rfl ?_); refine wl_load1 hs rfl rfl Tryd.underlying78 rfl rfl 0 rfl rfl ?_))
  go_step3
  go_wp2_with (first | ((with_reducible refine at_load rfl ?_); refine wl_load1 hs rfl rfl Tryd.underlying78 rfl rfl 0 rfl rfl ?_))
  go_step3
  go_wp2_with (first | ((with_reducible refine at_load rfl ?_); refine wl_load1 hs rfl rfl Tryd.underlying78 rfl rfl 0 rfl rfl ?_))
  go_loop [6] (fun i => ∃ k : Nat, a / 64 ≤ k ∧ i = .int .i64 k ∧ (∀ j, a ≤ j → j < 64 * k → f j = true)) (fun i => 70 - (intOf i).toNat)
  case atStart => exact ⟨a / 64, Nat.le_refl _, by go_num, fun j h1 h2 => by omega⟩
  case round =>
    obtain ⟨k, hk, rfl, hall⟩ := hrel
    have HA := Lib.hid hall
    clear hall
    by_cases hlt : k < (n + 63) / 64
    · have hltI : (k : Int) < ((n + 63) / 64 : Nat) := by omega
      have hX := xor_key (word (ahead f a) k) (word_lt _ _)
      have hwl := word_lt (ahead f a) k
      have HW : Hid (wrd f k = .int .u64 ((word f k : Nat) : Int)) := Lib.hid rfl
      have hM1 : k = a / 64 → bits .or .u64 ((word f k : Nat) : Int) (IntKind.u64.wrap (IntKind.u64.wrap (2 ^ (a % 64)) - 1)) = ((word (ahead f a) k : Nat) : Int) := fun h => by subst h; exact mask_key f a
      have hM2 : k ≠ a / 64 → word f k = word (ahead f a) k := fun h => word_mask_up (by omega)
      generalize word f k = x0 at *
      by_cases hfull : word (ahead f a) k = 18446744073709551615
      · have HF := Lib.hid (first_full HA.out hfull)
        generalize word (ahead f a) k = x at *
        have hE : ((x : Int) == 18446744073709551615) = true := by rw [hfull]; rfl
        clear hfull
        by_cases hka : k = a / 64
        · have hM := hM1 hka
          clear hM1 hM2
          subst hka
          go_wp2_with (first | ((with_reducible refine at_load rfl ?_); refine wl_load1 hs rfl rfl Tryd.underlying3 rfl rfl 0 rfl rfl ?_) | ((with_reducible refine at_load rfl ?_); refine wl_load1 hs rfl rfl Tryd.underlying78 rfl rfl 0 rfl rfl ?_) | ((with_reducible refine at_load rfl ?_); refine wl_load1 (v := .int .u64 (x0 : Int)) hs rfl rfl Tryd.underlying81 rfl rfl 1 rfl ((rowOf_get (f := wrd f) (by omega)).trans (congrArg some HW.out)) ?_))
          go_round
          case rel => exact ⟨a / 64 + 1, by omega, by go_num, HF.out⟩
          case measure => simp [intOf]; omega
        · have hka2 : ((k : Int) == (a : Int) / 64) = false := by rw [beq_eq_false_iff_ne]; omega
          obtain rfl := hM2 hka
          clear hM1 hM2 hka
          go_wp2_with (first | ((with_reducible refine at_load rfl ?_); refine wl_load1 hs rfl rfl Tryd.underlying3 rfl rfl 0 rfl rfl ?_) | ((with_reducible refine at_load rfl ?_); refine wl_load1 hs rfl rfl Tryd.underlying78 rfl rfl 0 rfl rfl ?_) | ((with_reducible refine at_load rfl ?_); refine wl_load1 (v := .int .u64 (x0 : Int)) hs rfl rfl Tryd.underlying81 rfl rfl 1 rfl ((rowOf_get (f := wrd f) (by omega)).trans (congrArg some HW.out)) ?_))
          go_round
          case rel => exact ⟨k + 1, by omega, by go_num, HF.out⟩
          case measure => simp [intOf]; omega
      · obtain ⟨hc, hc1, hc2⟩ := word_ctz (ahead f a) k hfull
        have hit := first_hit HA.out hc1 hc2
        clear hc1 hc2
        generalize word (ahead f a) k = x at *
        have hE : ((x : Int) == 18446744073709551615) = false := by rw [beq_eq_false_iff_ne]; omega
        have hne : 18446744073709551615 - x ≠ 0 := by omega
        have hy : 18446744073709551615 - x < 18446744073709551616 := by omega
        generalize 18446744073709551615 - x = y at *
        have HC := Lib.hid (fun w hR => ctz_any y hy w hR hne)
        generalize Go.Lib.ctz 64 y = c at *
        clear hfull
        by_cases hin : 64 * k + c < n
        · have HV := Lib.hid (firstV_some hit.1 hin hit.2.1 hit.2.2)
          have hin2 : (k : Int) * 64 + (c : Int) < n := by omega
          clear hit
          by_cases hka : k = a / 64
          · have hM := hM1 hka
            clear hM1 hM2
            subst hka
            go_wp2_with (first | ((with_reducible refine at_load rfl ?_); refine wl_load1 hs rfl rfl Tryd.underlying3 rfl rfl 0 rfl rfl ?_) | ((with_reducible refine at_load rfl ?_); refine wl_load1 hs rfl rfl Tryd.underlying78 rfl rfl 0 rfl rfl ?_) | ((with_reducible refine at_load rfl ?_); refine wl_load1 (v := .int .u64 (x0 : Int)) hs rfl rfl Tryd.underlying81 rfl rfl 1 rfl ((rowOf_get (f := wrd f) (by omega)).trans (congrArg some HW.out)) ?_))
            refine (HC.out w HR.out).mono ?_
            rintro e w2 ⟨rfl, rfl⟩
            go_wp2_with (first | ((with_reducible refine at_load rfl ?_); refine wl_load1 hs rfl rfl Tryd.underlying3 rfl rfl 0 rfl rfl ?_))
            try rw [Exit.noGoto_ret]
            go_ret2
            exact ⟨by rw [← HV.out]; go_num, Tr.same2 HH.out hs⟩
          · have hka2 : ((k : Int) == (a : Int) / 64) = false := by rw [beq_eq_false_iff_ne]; omega
            obtain rfl := hM2 hka
            clear hM1 hM2 hka
            go_wp2_with (first | ((with_reducible refine at_load rfl ?_); refine wl_load1 hs rfl rfl Tryd.underlying3 rfl rfl 0 rfl rfl ?_) | ((with_reducible refine at_load rfl ?_); refine wl_load1 hs rfl rfl Tryd.underlying78 rfl rfl 0 rfl rfl ?_) | ((with_reducible refine at_load rfl ?_); refine wl_load1 (v := .int .u64 (x0 : Int)) hs rfl rfl Tryd.underlying81 rfl rfl 1 rfl ((rowOf_get (f := wrd f) (by omega)).trans (congrArg some HW.out)) ?_))
            refine (HC.out w HR.out).mono ?_
            rintro e w2 ⟨rfl, rfl⟩
            go_wp2_with (first | ((with_reducible refine at_load rfl ?_); refine wl_load1 hs rfl rfl Tryd.underlying3 rfl rfl 0 rfl rfl ?_))
            try rw [Exit.noGoto_ret]
            go_ret2
            exact ⟨by rw [← HV.out]; go_num, Tr.same2 HH.out hs⟩
        · have HV := Lib.hid (firstV_none (f := f) (n := n) (a := a) fun j h1 h2 => hit.2.2 j h1 (by omega))
          have hin2 : ¬ (k : Int) * 64 + (c : Int) < n := by omega
          clear hit
          by_cases hka : k = a / 64
          · have hM := hM1 hka
            clear hM1 hM2
            subst hka
            go_wp2_with (first | ((with_reducible refine at_load rfl ?_); refine wl_load1 hs rfl rfl Tryd.underlying3 rfl rfl 0 rfl rfl ?_) | ((with_reducible refine at_load rfl ?_); refine wl_load1 hs rfl rfl Tryd.underlying78 rfl rfl 0 rfl rfl ?_) | ((with_reducible refine at_load rfl ?_); refine wl_load1 (v := .int .u64 (x0 : Int)) hs rfl rfl Tryd.underlying81 rfl rfl 1 rfl ((rowOf_get (f := wrd f) (by omega)).trans (congrArg some HW.out)) ?_))
            refine (HC.out w HR.out).mono ?_
            rintro e w2 ⟨rfl, rfl⟩
            go_wp2_with (first | ((with_reducible refine at_load rfl ?_); refine wl_load1 hs rfl rfl Tryd.underlying3 rfl rfl 0 rfl rfl ?_))
            try rw [Exit.noGoto_ret]
            go_ret2
            exact ⟨by rw [← HV.out]; rfl, Tr.same2 HH.out hs⟩
          · have hka2 : ((k : Int) == (a : Int) / 64) = false := by rw [beq_eq_false_iff_ne]; omega
            obtain rfl := hM2 hka
            clear hM1 hM2 hka
            go_wp2_with (first | ((with_reducible refine at_load rfl ?_); refine wl_load1 hs rfl rfl Tryd.underlying3 rfl rfl 0 rfl rfl ?_) | ((with_reducible refine at_load rfl ?_); refine wl_load1 hs rfl rfl Tryd.underlying78 rfl rfl 0 rfl rfl ?_) | ((with_reducible refine at_load rfl ?_); refine wl_load1 (v := .int .u64 (x0 : Int)) hs rfl rfl Tryd.underlying81 rfl rfl 1 rfl ((rowOf_get (f := wrd f) (by omega)).trans (congrArg some HW.out)) ?_))
            refine (HC.out w HR.out).mono ?_
            rintro e w2 ⟨rfl, rfl⟩
            go_wp2_with (first | ((with_reducible refine at_load rfl ?_); refine wl_load1 hs rfl rfl Tryd.underlying3 rfl rfl 0 rfl rfl ?_))
            try rw [Exit.noGoto_ret]
            go_ret2
            exact ⟨by rw [← HV.out]; rfl, Tr.same2 HH.out hs⟩
    · have hltI : ¬ (k : Int) < ((n + 63) / 64 : Nat) := by omega
      have HV := Lib.hid (firstV_none (f := f) (n := n) (a := a) fun j h1 h2 => HA.out j h1 (by omega))
      go_wp2_with (first | ((with_reducible refine at_load rfl ?_); refine wl_load1 hs rfl rfl Tryd.underlying78 rfl rfl 0 rfl rfl ?_))
      try rw [Exit.noGoto_ret]
      go_ret2
      exact ⟨by rw [← HV.out]; rfl, Tr.same2 HH.out hs⟩
theorem cntP_beyond {f : Nat → Bool} {n : Nat} (hz : ∀ i, n ≤ i → f i = false) (t : Nat) : cntP f (n + t) = cntP f n := by
  have := cntP_zero (f := fun j => f (n + j)) (n := t) fun i _ => hz _ (by omega)
  rw [cntP_add, this]; rfl
theorem count_any (hn : n ≤ 4096) (hz : ∀ i, n ≤ i → f i = false) (h : (bitsR d s n f).holds w) :
    Calls Tryd.prog 40 #[.pointer (some ⟨d, 0, none⟩)] w fun e w' => e = .returned (.int .i64 ((cntP f n : Nat) : Int)) ∧ Tr w [] w' [] := by
  have hs := Tr.open2 h
  have HH := Lib.hid h
  have HE : Hid (cntP f (64 * ((n + 63) / 64)) = cntP f n) := Lib.hid (by
    have := cntP_beyond hz (64 * ((n + 63) / 64) - n)
    rwa [show n + (64 * ((n + 63) / 64) - n) = 64 * ((n + 63) / 64) by omega] at this)
  clear hz h
  go_enter Tryd.func40, Tryd.ntmps40
  go_wp2_with (first | ((with_reducible refine at_load rfl ?_); refine wl_load1 hs rfl rfl Tryd.underlying78 rfl rfl 0 rfl rfl ?_))
  go_loop [3, 10] (fun p i => ∃ k : Nat, k ≤ (n + 63) / 64 ∧ i = .int .i64 k ∧ p = .int .i64 ((cntP f (64 * k) : Nat) : Int)) (fun _ i => 70 - (intOf i).toNat)
  case atStart => exact ⟨0, by omega, rfl, rfl⟩
  case round =>
    obtain ⟨k, hk, rfl, rfl⟩ := hrel
    by_cases hlt : k < (n + 63) / 64
    · have hltI : (k : Int) < ((n + 63) / 64 : Nat) := by omega
      have HS : Hid (cntP f (64 * (k + 1)) = cntP f (64 * k) + cntP (fun j => f (64 * k + j)) 64) := Lib.hid (by rw [show 64 * (k + 1) = 64 * k + 64 by omega, cntP_add])
      have HO := Lib.hid (ones_any f k w)
      have hb1 := cntP_le f (64 * k)
      have hb2 := cntP_le (fun j => f (64 * k + j)) 64
      generalize cntP (fun j => f (64 * k + j)) 64 = c at *
      generalize cntP f (64 * k) = p at *
      go_wp2_with (first | ((with_reducible refine at_load rfl ?_); refine wl_load1 hs rfl rfl Tryd.underlying78 rfl rfl 0 rfl rfl ?_) | ((with_reducible refine at_load rfl ?_); refine wl_load1 (v := .int .u64 ((word f k : Nat) : Int)) hs rfl rfl Tryd.underlying81 rfl rfl 1 rfl (rowOf_get (f := wrd f) (by omega)) ?_) | (go_at_call 44; refine HO.out.mono ?_; rintro e w2 ⟨rfl, rfl⟩))
      go_round
      case rel => exact ⟨k + 1, by omega, by go_num, by rw [HS.out]; go_num⟩
      case measure => simp [intOf]; omega
    · obtain rfl : k = (n + 63) / 64 := by omega
      rw [HE.out]
      go_wp2
      go_ret
      exact ⟨rfl, Tr.same2 HH.out hs⟩
end
end Go.Proofs.YtfedfdcbhggipaaDoor
