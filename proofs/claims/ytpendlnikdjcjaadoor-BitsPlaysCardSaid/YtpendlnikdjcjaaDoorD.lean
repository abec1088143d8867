/- awake: a row of seventy places; row: a row whose places are set, some cleared again. -/
import Derived.Test.YtpendlnikdjcjaaDoorC
namespace Go.Proofs.YtpendlnikdjcjaaDoor
set_option linter.unusedVariables false
set_option linter.unusedSimpArgs false
open Go Go.Sp Go.RowKit Go.BigFrame

def aw1 : Nat → Bool := updP (fun _ => false) 0 true
def aw2 : Nat → Bool := updP aw1 1 true
def aw3 : Nat → Bool := updP aw2 64 true
theorem aw_first : firstV aw3 70 64 = .tuple #[.int .i64 65, .bool true] :=
  (firstV_some (r := 65) (by omega) (by omega) (by decide) fun j h1 h2 => by
    obtain rfl : j = 64 := by omega
    decide).symm
theorem aw_count : cntP aw3 70 = 3 := by decide
theorem aw_far : ∀ i, 70 ≤ i → aw3 i = false := fun i hi => by
  simp only [aw3, aw2, aw1, updP]
  rw [if_neg (by omega), if_neg (by omega), if_neg (by omega)]
theorem awake_any (w : World) (hR : Rd w 0 0 64 tabV) : Calls Tryd.prog 9 #[] w fun e w' => e = .returned (.bool true) ∧ Tr w [] w' [] := by
  have hs := Tr.refl w []
  have HR := Lib.hid hR
  clear hR
  go_enter Tryd.func9, Tryd.ntmps9
  go_upto_region 5 with (first
    | (go_at_call 10; refine (new_ok 70 _ (by omega)).mono ?_; rintro e w2 ⟨d, s, rfl, hc⟩; replace hs := hs.call1 hc; clear hc)
    | (go_at_call 18; refine (set_yes 0 (by omega) (by omega) (hs.get 0 rfl)).mono ?_; rintro e w2 ⟨rfl, hc⟩; replace hs := hs.upd 0 rfl hc; clear hc))
  have hs1 : Tr w [] w2 [bitsR d s 70 aw1] := hs
  clear hs; have hs := hs1; clear hs1
  go_upto_region 6 with (first
    | (go_at_call 18; refine (set_yes 1 (by omega) (by omega) (hs.get 0 rfl)).mono ?_; rintro e w2 ⟨rfl, hc⟩; replace hs := hs.upd 0 rfl hc; clear hc))
  have hs1 : Tr w [] w2 [bitsR d s 70 aw2] := hs
  clear hs; have hs := hs1; clear hs1
  go_upto_region 7 with (first
    | (go_at_call 18; refine (set_yes 64 (by omega) (by omega) (hs.get 0 rfl)).mono ?_; rintro e w2 ⟨rfl, hc⟩; replace hs := hs.upd 0 rfl hc; clear hc))
  have hs1 : Tr w [] w2 [bitsR d s 70 aw3] := hs
  clear hs; have hs := hs1; clear hs1
  have HF := Lib.hid (fun w hR h => first_any (d := d) (s := s) (w := w) 64 64 rfl (by omega) (by omega) aw_far hR h)
  rw [aw_first] at HF
  have HC := Lib.hid (fun w h => count_any (d := d) (s := s) (w := w) (by omega) aw_far h)
  rw [aw_count] at HC
  have H64 := Lib.hid (fun w h => has_yes (d := d) (s := s) (w := w) (n := 70) (f := aw3) 64 (by omega) (by omega) h)
  rw [show aw3 64 = true by decide] at H64
  have H2 := Lib.hid (fun w h => has_yes (d := d) (s := s) (w := w) (n := 70) (f := aw3) 2 (by omega) (by omega) h)
  rw [show aw3 2 = false by decide] at H2
  go_wp2_with (first
    | (go_at_call 12; refine (HF.out _ (HR.out.keep hs) (hs.get 0 rfl)).mono ?_; rintro e w2 ⟨rfl, hc⟩; replace hs := hs.call0 hc; clear hc)
    | (go_at_call 14; refine (HC.out _ (hs.get 0 rfl)).mono ?_; rintro e w2 ⟨rfl, hc⟩; replace hs := hs.call0 hc; clear hc)
    | (go_at_call_of 15 (Value.int .i64 64); refine (H64.out _ (hs.get 0 rfl)).mono ?_; rintro e w2 ⟨rfl, hc⟩; replace hs := hs.call0 hc; clear hc)
    | (go_at_call 15; refine (H2.out _ (hs.get 0 rfl)).mono ?_; rintro e w2 ⟨rfl, hc⟩; replace hs := hs.call0 hc; clear hc))
  go_ret
  exact ⟨rfl, hs.letgo⟩

/-- The row that the raw numbers ask for: which places are set is not told, only that none lies behind the last. -/
theorem row_any (n N1 N2 : Nat) (G1 G2 : Nat → Int) (ao1 ao2 : Option Addr) (c1 c2 db1 do1 db2 do2 : Nat) (w : World) (hn : n ≤ 4096) (hN1 : N1 ≤ 9223372036854775807) (hN2 : N2 ≤ 9223372036854775807)
    (hao1 : 0 < N1 → ao1 = some ⟨db1, do1, none⟩) (hao2 : 0 < N2 → ao2 = some ⟨db2, do2, none⟩) (hR1 : Rd w db1 do1 N1 fun i => .int .i64 (G1 i)) (hR2 : Rd w db2 do2 N2 fun i => .int .i64 (G2 i))
    (hW1 : ∀ i, i < N1 → -9223372036854775808 ≤ G1 i ∧ G1 i ≤ 9223372036854775807) (hW2 : ∀ i, i < N2 → -9223372036854775808 ≤ G2 i ∧ G2 i ≤ 9223372036854775807) :
    Calls Tryd.prog 17 #[.int .i64 n, .slice ao1 N1 c1, .slice ao2 N2 c2] w fun e w' => ∃ d s f, e = .returned (.pointer (some ⟨d, 0, none⟩)) ∧ (∀ i, n ≤ i → f i = false) ∧ Tr w [] w' [bitsR d s n f] := by
  have hs := Tr.refl w []
  have A1 := Lib.hid hao1
  have A2 := Lib.hid hao2
  have R1 := Lib.hid hR1
  have R2 := Lib.hid hR2
  have W1 := Lib.hid hW1
  have W2 := Lib.hid hW2
  clear hao1 hao2 hR1 hR2 hW1 hW2
  rcases Nat.eq_zero_or_pos n with hn0 | hn0
  ·
    subst hn0
    go_enter Tryd.func17, Tryd.ntmps17
    go_wp2_with (first
      | (go_at_call 10; refine (new_ok 0 _ hn).mono ?_; rintro e w2 ⟨d, s, rfl, hc⟩; replace hs := hs.call1 hc; clear hc))
    go_loopw [9] (fun i wr => i = .int .i64 0 ∧ Tr w [] wr [bitsR d s 0 fun _ => false]) (fun i _ => 0)
    case atStart => exact ⟨rfl, hs⟩
    case round =>
      clear hs
      obtain ⟨rfl, hs⟩ := hrel
      go_wp2
      all_goals
        go_loopw [10] (fun i wr => i = .int .i64 0 ∧ Tr w [] wr [bitsR d s 0 fun _ => false]) (fun i _ => 0)
        case atStart => exact ⟨rfl, hs⟩
        case round =>
          clear hs
          obtain ⟨rfl, hs⟩ := hrel
          go_wp2
          all_goals
            go_ret
            exact ⟨_, _, _, rfl, fun _ _ => rfl, hs⟩
  · have hn0I : (0 : Int) < n := by omega
    go_enter Tryd.func17, Tryd.ntmps17
    go_wp2_with (first
      | (go_at_call 10; refine (new_ok n _ hn).mono ?_; rintro e w2 ⟨d, s, rfl, hc⟩; replace hs := hs.call1 hc; clear hc))
    go_loopw [9] (fun i wr => ∃ (k : Nat) (f : Nat → Bool), k ≤ N1 ∧ i = .int .i64 k ∧ (∀ i, n ≤ i → f i = false) ∧ Tr w [] wr [bitsR d s n f]) (fun i _ => N1 - (intOf i).toNat)
    case atStart => exact ⟨0, fun _ => false, by omega, rfl, fun _ _ => rfl, hs⟩
    case round =>
      clear hs
      obtain ⟨k, f, hk, rfl, hz, hs⟩ := hrel
      have HZ := Lib.hid hz
      clear hz
      by_cases hlt : k < N1
      · have hltI : (k : Int) < N1 := by omega
        obtain rfl := A1.out (by omega)
        obtain ⟨p, hp, hpn⟩ : ∃ p : Nat, pick (G1 k) n = (p : Int) ∧ p < n := ⟨(pick (G1 k) n).toNat, by have := pick_bd (G1 k) n (by omega); omega, by have := pick_bd (G1 k) n (by omega); omega⟩
        have HP := Lib.hid (fun w => pick_any (G1 k) n w (by omega) (by omega) (W1.out k hlt).1 (W1.out k hlt).2)
        rw [hp] at HP
        clear hp
        go_wp2_with (first
            | ((with_reducible refine at_load rfl ?_); refine wl_loadC (v := .int .i64 (G1 k)) rfl rfl Tryd.underlying3 rfl rfl (R1.out.keep hs k hlt) ?_)
            | (go_at_call 16; refine (HP.out _).mono ?_; rintro e w2 ⟨rfl, rfl⟩)
            | (go_at_call 18; refine (set_yes p hpn hn (hs.get 0 rfl)).mono ?_; rintro e w2 ⟨rfl, hc⟩; replace hs := hs.upd 0 rfl hc; clear hc))
        go_roundw
        case rel => exact ⟨k + 1, updP f p true, by omega, by go_num, fun i hi => by rw [updP_off (by omega)]; exact HZ.out i hi, hs⟩
        case measure => simp [intOf]; omega
      · have HZ1 := Lib.hid HZ.out
        go_wp2
        go_loopw [10] (fun i wr => ∃ (k : Nat) (f : Nat → Bool), k ≤ N2 ∧ i = .int .i64 k ∧ (∀ i, n ≤ i → f i = false) ∧ Tr w [] wr [bitsR d s n f]) (fun i _ => N2 - (intOf i).toNat)
        case atStart => exact ⟨0, f, by omega, rfl, HZ1.out, hs⟩
        case round =>
          clear hs HZ HZ1 hlt
          obtain ⟨k, f, hk, rfl, hz, hs⟩ := hrel
          have HZ := Lib.hid hz
          clear hz
          by_cases hlt : k < N2
          · have hltI : (k : Int) < N2 := by omega
            obtain rfl := A2.out (by omega)
            obtain ⟨p, hp, hpn⟩ : ∃ p : Nat, pick (G2 k) n = (p : Int) ∧ p < n := ⟨(pick (G2 k) n).toNat, by have := pick_bd (G2 k) n (by omega); omega, by have := pick_bd (G2 k) n (by omega); omega⟩
            have HP := Lib.hid (fun w => pick_any (G2 k) n w (by omega) (by omega) (W2.out k hlt).1 (W2.out k hlt).2)
            rw [hp] at HP
            clear hp
            go_wp2_with (first
                    | ((with_reducible refine at_load rfl ?_); refine wl_loadC (v := .int .i64 (G2 k)) rfl rfl Tryd.underlying3 rfl rfl (R2.out.keep hs k hlt) ?_)
                    | (go_at_call 16; refine (HP.out _).mono ?_; rintro e w2 ⟨rfl, rfl⟩)
                    | (go_at_call 19; refine (clear_yes p hpn hn (hs.get 0 rfl)).mono ?_; rintro e w2 ⟨rfl, hc⟩; replace hs := hs.upd 0 rfl hc; clear hc))
            go_roundw
            case rel => exact ⟨k + 1, updP f p false, by omega, by go_num, fun i hi => by rw [updP_off (by omega)]; exact HZ.out i hi, hs⟩
            case measure => simp [intOf]; omega
          · go_wp2
            go_ret
            exact ⟨_, _, _, rfl, HZ.out, hs⟩
end Go.Proofs.YtpendlnikdjcjaaDoor
