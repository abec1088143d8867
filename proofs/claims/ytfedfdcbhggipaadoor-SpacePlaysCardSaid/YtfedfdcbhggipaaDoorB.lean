/- The library's counts: OnesCount64, TrailingZeros64. -/
import Derived.Test.YtfedfdcbhggipaaDoorA
import Derived.Shelf.Spec.TrailingZeros
namespace Go.Proofs.YtfedfdcbhggipaaDoor
set_option linter.unusedVariables false
set_option linter.unusedSimpArgs false
open Go Go.Sp Go.RowKit Go.BigFrame

theorem wrap_u (x : Nat) : IntKind.u64.wrap (x : Int) = ((x % 18446744073709551616 : Nat) : Int) := by rw [IntKind.wrap_u64]; omega
theorem and_le (a b : Nat) : a &&& b ≤ b := Nat.and_le_right
theorem ones_step (x d m : Nat) (hx : x < 18446744073709551616) (hd : 1 ≤ d) (hm : m < 9223372036854775808) :
    IntKind.u64.wrap (bits .and .u64 ((x : Int) / (d : Nat)) (m : Nat) + bits .and .u64 (x : Int) (m : Nat)) = (((x / d &&& m) + (x &&& m) : Nat) : Int) := by
  have h1 : x / d ≤ x := Nat.div_le_self _ _
  have e : (x : Int) / (d : Nat) = ((x / d : Nat) : Int) := by push_cast; rfl
  have h2 := and_le (x / d) m
  have h3 := and_le x m
  rw [e, bits_and_u64_nat _ _ (by omega) (by omega), bits_and_u64_nat _ _ hx (by omega), ← Int.natCast_add, wrap_u, Nat.mod_eq_of_lt (by omega)]
theorem ones_add (x d : Nat) : IntKind.u64.wrap ((x : Int) + (x : Int) / (d : Nat)) = (((x + x / d) % 18446744073709551616 : Nat) : Int) := by
  have e : (x : Int) / (d : Nat) = ((x / d : Nat) : Int) := by push_cast; rfl
  rw [e, ← Int.natCast_add, wrap_u]
theorem and_i64_127 (x : Nat) (hx : x < 9223372036854775808) : bits .and .i64 (x : Int) 127 = ((x % 128 : Nat) : Int) := by
  have h1 : (BitVec.ofInt 64 (x : Int)).toNat = x := by
    rw [BitVec.ofInt_natCast, BitVec.toNat_ofNat]; exact Nat.mod_eq_of_lt (by omega)
  show IntKind.i64.wrap ((BitVec.ofInt 64 (x : Int) &&& BitVec.ofInt 64 127).toNat : Int) = _
  have h2 : (BitVec.ofInt 64 127).toNat = 2 ^ 7 - 1 := by decide
  rw [BitVec.toNat_and, h1, h2, Nat.and_two_pow_sub_one_eq_mod, IntKind.wrap_i64]
  omega
theorem ones_and (x m : Nat) (hx : x < 18446744073709551616) (hm : m < 18446744073709551616) : bits .and .u64 (x : Int) (m : Nat) = ((x &&& m : Nat) : Int) := bits_and_u64_nat _ _ hx hm

/-- Each step's number. -/
theorem ones_keys0 (b : Nat → Nat) (hb : ∀ j, j < 8 → b j < 256) (x : Nat) (hx : x = hor b) : ∃ x1 x2 y2 x3 x4 x5 x6 : Nat,
    IntKind.u64.wrap (bits .and .u64 ((x : Int) / 2) 6148914691236517205 + bits .and .u64 (x : Int) 6148914691236517205) = (x1 : Int) ∧
    IntKind.u64.wrap (bits .and .u64 ((x1 : Int) / 4) 3689348814741910323 + bits .and .u64 (x1 : Int) 3689348814741910323) = (x2 : Int) ∧
    IntKind.u64.wrap ((x2 : Int) / 16 + (x2 : Int)) = (y2 : Int) ∧ bits .and .u64 (y2 : Int) 1085102592571150095 = (x3 : Int) ∧
    IntKind.u64.wrap ((x3 : Int) + (x3 : Int) / 256) = (x4 : Int) ∧ IntKind.u64.wrap ((x4 : Int) + (x4 : Int) / 65536) = (x5 : Int) ∧ IntKind.u64.wrap ((x5 : Int) + (x5 : Int) / 4294967296) = (x6 : Int) ∧
    x6 < 9223372036854775808 ∧ x6 % 128 = (fun c : Nat → Nat => c 0 + c 1 + c 2 + c 3 + c 4 + c 5 + c 6 + c 7) fun j => p3 (b j) := by
  have h0 : x < 18446744073709551616 := by rw [hx]; exact hor_lt b hb
  have e1 : (x / 2 &&& 6148914691236517205) + (x &&& 6148914691236517205) = hor fun j => p1 (b j) := by rw [hx]; exact pop1 _ hb
  have e2 := pop2 b hb
  have e3 := pop3 b hb
  have b1 : ∀ j, j < 8 → p1 (b j) < 256 := fun j hj => (byte1 _ (hb j hj)).1
  have b2 : ∀ j, j < 8 → p2 (b j) ≤ 68 := fun j hj => by
    have := byte1 _ (hb j hj)
    generalize p2 (b j) = z at *
    omega
  have b3 : ∀ j, j < 8 → p3 (b j) ≤ 8 := fun j hj => (byte1 _ (hb j hj)).2.2.2.1
  have l1 := hor_lt _ b1
  have hall := pop4 _ b3 _ _ _ rfl rfl rfl
  have t1 := ones_step x 2 6148914691236517205 h0 (by decide) (by decide)
  rw [e1] at t1
  have t2 := ones_step _ 4 3689348814741910323 l1 (by decide) (by decide)
  rw [e2] at t2
  have hs : (hor fun j => p2 (b j)) < 4921387151450982470 := by
    have q0 := b2 0 (by decide); have q1 := b2 1 (by decide); have q2 := b2 2 (by decide); have q3 := b2 3 (by decide)
    have q4 := b2 4 (by decide); have q5 := b2 5 (by decide); have q6 := b2 6 (by decide); have q7 := b2 7 (by decide)
    generalize p2 = pp at *
    simp only [hor]; omega
  refine ⟨_, _, (hor fun j => p2 (b j)) / 16 + hor fun j => p2 (b j), _, _, _, _, t1, t2, ?_, ?_, ones_add _ 256, ones_add _ 65536, ones_add _ 4294967296, hall⟩
  · generalize (hor fun j => p2 (b j)) = y at *
    rw [IntKind.wrap_u64]
    omega
  · rw [← e3]
    generalize (hor fun j => p2 (b j)) = y at *
    exact ones_and _ 1085102592571150095 (by omega) (by decide)
theorem ones_keys (x : Nat) (g : Nat → Bool) (hx : x = wd g 64) : ∃ x1 x2 y2 x3 x4 x5 x6 : Nat,
    IntKind.u64.wrap (bits .and .u64 ((x : Int) / 2) 6148914691236517205 + bits .and .u64 (x : Int) 6148914691236517205) = (x1 : Int) ∧
    IntKind.u64.wrap (bits .and .u64 ((x1 : Int) / 4) 3689348814741910323 + bits .and .u64 (x1 : Int) 3689348814741910323) = (x2 : Int) ∧
    IntKind.u64.wrap ((x2 : Int) / 16 + (x2 : Int)) = (y2 : Int) ∧ bits .and .u64 (y2 : Int) 1085102592571150095 = (x3 : Int) ∧
    IntKind.u64.wrap ((x3 : Int) + (x3 : Int) / 256) = (x4 : Int) ∧ IntKind.u64.wrap ((x4 : Int) + (x4 : Int) / 65536) = (x5 : Int) ∧ IntKind.u64.wrap ((x5 : Int) + (x5 : Int) / 4294967296) = (x6 : Int) ∧
    x6 < 9223372036854775808 ∧ x6 % 128 = cntP g 64 := by
  rw [pop_word]
  rw [wd_hor] at hx
  exact ones_keys0 (fun j => wd (fun i => g (8 * j + i)) 8) (fun j _ => wd_lt _ 8) x hx
theorem ones_any (f : Nat → Bool) (k : Nat) (w : World) : Calls Tryd.prog 44 #[.int .u64 ((word f k : Nat) : Int)] w fun e w' => e = .returned (.int .i64 ((cntP (fun j => f (64 * k + j)) 64 : Nat) : Int)) ∧ w = w' := by
  obtain ⟨x1, x2, y2, x3, x4, x5, x6, k1, k2, k3, k4, k5, k6, k7, hlt, hm⟩ := ones_keys _ _ (word_wd f k)
  generalize word f k = x at *
  generalize cntP (fun j => f (64 * k + j)) 64 = c at *
  have k8 : IntKind.i64.wrap (x6 : Int) = (x6 : Int) := wrap_in (by omega)
  have k9 := and_i64_127 x6 hlt
  rw [hm] at k9
  clear hm
  go_enter Tryd.func44, Tryd.ntmps44
  go_wp2
  go_ret
  exact ⟨rfl, rfl⟩
theorem ctz_core (x k idx : Nat) (w : World) (hx0 : ((x : Int) == 0) = false)
    (key : IntKind.u64.wrap (bits BinOp.and IntKind.u64 (x : Int) (IntKind.u64.wrap (-(x : Int))) * 285870213051353865) / 288230376151711744 = (idx : Int))
    (hi : idx < 64) (hk : k < 64) (hcell : w.cell? ⟨0, idx, none⟩ = some (.int .u8 k)) :
    Calls Tryd.prog 45 #[.int .u64 x] w fun e w' => e = .returned (.int .i64 k) ∧ w = w' := by
  go_enter Tryd.func45, Tryd.ntmps45
  go_wp2_with (simp only [key])
  go_ret
  exact ⟨rfl, rfl⟩
/-- The library's table, where it lies. -/
def tabV : Nat → Value := fun j => .int .u8 ((Go.Lib.deBruijn64tab.getD j 0 : Nat) : Int)
theorem ctz_any (x : Nat) (hx : x < 18446744073709551616) (w : World) (hR : Rd w 0 0 64 tabV) (hx0 : x ≠ 0) :
   Calls Tryd.prog 45 #[.int .u64 (x : Int)] w fun e w' => e = .returned (.int .i64 ((Go.Lib.ctz 64 x : Nat) : Int)) ∧ w = w' := by
  obtain ⟨hlow, hk⟩ := Lib.lowest_bit 64 x hx0 hx
  obtain ⟨hi, htab⟩ := Lib.deBruijn64_at _ hk
  have hcell := hR _ hi
  rw [Nat.zero_add, tabV, htab] at hcell
  exact ctz_core x _ _ w (by simp; omega) (tz64_key x _ hx hx0 hlow) hi hk hcell
end Go.Proofs.YtfedfdcbhggipaaDoor
