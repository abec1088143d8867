/- BitsFills: the walk. -/
import Derived.Test.YtpendlnikdjcjaaDoorWRefused
namespace Go.Proofs.YtpendlnikdjcjaaDoor
set_option linter.unusedVariables false
set_option linter.unusedSimpArgs false
open Go Go.Sp Go.RowKit Go.BigFrame

theorem next_free {g : Nat → Bool} {n : Nat} (h : cntP g n < n) {last : Int} (hall : ∀ j : Nat, (j : Int) ≤ last → g j = true) :
    ∃ r : Nat, r < n ∧ last < r ∧ g r = false ∧ (∀ j, j < r → g j = true) ∧ firstV g n 0 = .tuple #[.int .i64 (r : Int), .bool true] := by
  have hi := firstP_is g n 0
  generalize firstP g n 0 = r at hi
  obtain ⟨h1, h2 | ⟨_, h2, h3⟩⟩ := hi
  · have := cntP_full (f := g) (n := n) fun i hi => h1 i (Nat.zero_le _) (by omega)
    omega
  · have h4 : last < r := by
      rcases Int.lt_or_le last r with h4 | h4
      · exact h4
      · rw [hall r h4] at h3; cases h3
    exact ⟨r, h2, h4, h3, fun j hj => h1 j (Nat.zero_le _) hj, (firstV_some (Nat.zero_le _) h2 h3 h1).symm⟩
theorem count_set {g : Nat → Bool} {n r : Nat} (hr : r < n) (h : g r = false) : cntP (updP g r true) n = cntP g n + 1 := by
  have := cntP_upd g r true n
  rw [if_pos hr, if_pos hr, h] at this
  simpa using this
/-- A full row of which one is cleared. -/
theorem one_first {g : Nat → Bool} {n a : Nat} (ha : a < n) (hall : ∀ i, i < n → g i = true) : firstV (updP g a false) n 0 = .tuple #[.int .i64 (a : Int), .bool true] :=
  (firstV_some (Nat.zero_le _) ha (updP_at _ _ _) fun j _ h => by rw [updP_off (by omega)]; exact hall j (by omega)).symm
theorem one_at {g : Nat → Bool} {n a : Nat} (ha : a < n) (hall : ∀ i, i < n → g i = true) : firstV (updP g a false) n a = .tuple #[.int .i64 (a : Int), .bool true] :=
  (firstV_some (Nat.le_refl _) ha (updP_at _ _ _) fun j h1 h => by omega).symm
theorem one_past {g : Nat → Bool} {n a : Nat} (ha : a < n) (hall : ∀ i, i < n → g i = true) : firstV (updP g a false) n (a + 1) = .tuple #[.int .i64 0, .bool false] :=
  (firstV_none fun j h1 h => by rw [updP_off (by omega)]; exact hall j h).symm

set_option maxHeartbeats 2000000 in
theorem fills_core (x0 x2 : Int) (n N1 c1 : Nat) (G1 : Nat → Int) (ao1 : Option Addr) (db1 do1 : Nat) (w : World) (hn : n ≤ 4096) (hN1 : N1 ≤ 9223372036854775807)
    (hao1 : 0 < N1 → ao1 = some ⟨db1, do1, none⟩) (hR1 : Rd w db1 do1 N1 fun i => .int .i64 (G1 i)) (hW1 : ∀ i, i < N1 → -9223372036854775808 ≤ G1 i ∧ G1 i ≤ 9223372036854775807)
    (P0 : Hid (∀ w, Calls Tryd.prog 16 #[.int .i64 x0, .int .i64 4097] w fun e w' => e = .returned (.int .i64 n) ∧ w = w'))
    (h2 : -9223372036854775808 ≤ x2 ∧ x2 ≤ 9223372036854775807) (hR : Rd w 0 0 64 tabV) :
    Calls Tryd.prog 6 #[.int .i64 x0, .slice ao1 N1 c1, .int .i64 x2] w fun e w' => e = .returned (.bool true) ∧ Tr w [] w' [] := by
  have hs := Tr.refl w []
  have HR := Lib.hid hR
  have A1 := Lib.hid hao1
  have R1 := Lib.hid hR1
  have W1 := Lib.hid hW1
  clear hR hao1 hR1 hW1
  go_enter Tryd.func6, Tryd.ntmps6
  go_upto_region 6 with (first
    | (go_at_call 9; refine (awake_any _ (HR.out.keep hs)).mono ?_; rintro e w2 ⟨rfl, hc⟩; replace hs := hs.call0 hc; clear hc)
    | (go_at_call 16; refine (P0.out _).mono ?_; rintro e w2 ⟨rfl, rfl⟩)
    | (go_at_call 17; refine (row_any n N1 0 G1 (fun _ => 0) ao1 none c1 0 db1 do1 0 0 _ hn hN1 (by omega) A1.out (fun h => by omega) (R1.out.keep hs) (rd_nil _ _) W1.out (fun i h => by omega)).mono ?_; rintro e w2 ⟨d, s, f, rfl, hz, hc⟩; replace hs := hs.call1 hc; clear hc))
  have HZ := Lib.hid hz
  have HC := Lib.hid (fun w h => count_any (d := d) (s := s) (n := n) (f := f) (w := w) hn hz h)
  clear hz
  have hle := cntP_le f n
  obtain ⟨left, hleft⟩ : ∃ left, n = cntP f n + left := ⟨n - cntP f n, by omega⟩
  have hl4 : left ≤ 4096 := by omega
  have HL := Lib.hid hleft
  clear hleft
  have hwr : IntKind.i64.wrap ((n : Int) - ((cntP f n : Nat) : Int)) = (left : Int) := by
    have := HL.out
    rw [wrap_in (by omega)]
    omega
  go_wp2_with (first
    | (go_at_call 14; refine (HC.out _ (hs.get 0 rfl)).mono ?_; rintro e w2 ⟨rfl, hc⟩; replace hs := hs.call0 hc; clear hc))
  go_loopw [10, 11] (fun l i wr => ∃ (k : Nat) (g : Nat → Bool) (last : Int), k ≤ left ∧ i = .int .i64 k ∧ l = .int .i64 last ∧ -1 ≤ last ∧ last < n ∧ (∀ j : Nat, (j : Int) ≤ last → g j = true) ∧ (∀ i, n ≤ i → g i = false) ∧ cntP g n = cntP f n + k ∧ Tr w [] wr [bitsR d s n g]) (fun _ i _ => left - (intOf i).toNat)
  case atStart => exact ⟨0, f, -1, Nat.zero_le _, rfl, rfl, Int.le_refl _, by omega, fun j hj => by omega, HZ.out, rfl, hs⟩
  case round =>
    clear hs HC hwr
    obtain ⟨k, g, last, hk, rfl, rfl, hl1, hl2, hall, hz, hcnt, hs⟩ := hrel
    have HZ2 := Lib.hid hz
    have HN := Lib.hid hcnt
    have HA := Lib.hid hall
    clear hz hcnt hall
    by_cases hlt : k < left
    · have hltI : (k : Int) < left := by omega
      obtain ⟨r, hr, hlr, hg, hbef, hV⟩ := next_free (g := g) (n := n) (by have := HN.out; have := HL.out; omega) HA.out
      have HF := Lib.hid (fun w hR h => first_any (d := d) (s := s) (n := n) (f := g) (w := w) 0 0 rfl hn (by omega) HZ2.out hR h)
      rw [hV] at HF
      have HG := Lib.hid hg
      have HB := Lib.hid hbef
      clear hV hg hbef
      have hrI : (r : Int) < n := by omega
      go_wp2_with (first
          | (go_at_call 12; refine (HF.out _ (HR.out.keep hs) (hs.get 0 rfl)).mono ?_; rintro e w2 ⟨rfl, hc⟩; replace hs := hs.call0 hc; clear hc)
          | (go_at_call 18; refine (set_yes r hr hn (hs.get 0 rfl)).mono ?_; rintro e w2 ⟨rfl, hc⟩; replace hs := hs.upd 0 rfl hc; clear hc))
      go_roundw
      case rel =>
        refine ⟨k + 1, updP g r true, r, by omega, by go_num, rfl, by omega, by omega, fun j hj => ?_, fun i hi => by rw [updP_off (by omega)]; exact HZ2.out i hi, by rw [count_set hr HG.out, HN.out]; omega, hs⟩
        by_cases hjr : j = r
        · subst hjr; exact updP_at _ _ _
        · rw [updP_off hjr]; exact HB.out j (by omega)
      case measure => simp [intOf]; omega
    · have hfull : cntP g n = n := by have := HN.out; have := HL.out; omega
      have HAll := Lib.hid (cntP_all hfull)
      have HF := Lib.hid (fun w hR h => first_any (d := d) (s := s) (n := n) (f := g) (w := w) 0 0 rfl hn (by omega) HZ2.out hR h)
      rw [← firstV_none fun j h1 h2 => HAll.out j h2] at HF
      have HC := Lib.hid (fun w h => count_any (d := d) (s := s) (n := n) (f := g) (w := w) hn HZ2.out h)
      rw [hfull] at HC
      clear hfull
      rcases Nat.eq_zero_or_pos n with hn0 | hn0
      · have hn1 : ((n : Int) == 0) = true := by rw [beq_iff_eq]; omega
        go_wp2_with (first
          | (go_at_call 12; refine (HF.out _ (HR.out.keep hs) (hs.get 0 rfl)).mono ?_; rintro e w2 ⟨rfl, hc⟩; replace hs := hs.call0 hc; clear hc)
          | (go_at_call 14; refine (HC.out _ (hs.get 0 rfl)).mono ?_; rintro e w2 ⟨rfl, hc⟩; replace hs := hs.call0 hc; clear hc))
        go_ret
        exact ⟨rfl, hs.letgo⟩
      · have hn1 : ((n : Int) == 0) = false := by rw [beq_eq_false_iff_ne]; omega
        obtain ⟨a, hp, han⟩ : ∃ a : Nat, pick x2 n = (a : Int) ∧ a < n := ⟨(pick x2 n).toNat, by have := pick_bd x2 n (by omega); omega, by have := pick_bd x2 n (by omega); omega⟩
        have HP := Lib.hid (fun w => pick_any x2 n w (by omega) (by omega) h2.1 h2.2)
        rw [hp] at HP
        clear hp
        have hz3 : ∀ i, n ≤ i → updP g a false i = false := fun i hi => by rw [updP_off (by omega)]; exact HZ2.out i hi
        have F1 := Lib.hid (fun w hR h => first_any (d := d) (s := s) (n := n) (f := updP g a false) (w := w) 0 0 rfl hn (by omega) hz3 hR h)
        rw [one_first han HAll.out] at F1
        have F2 := Lib.hid (fun w hR h => first_any (d := d) (s := s) (n := n) (f := updP g a false) (w := w) a a (if_neg (by omega)) hn (by omega) hz3 hR h)
        rw [one_at han HAll.out] at F2
        have F3 := Lib.hid (fun w hR h => first_any (d := d) (s := s) (n := n) (f := updP g a false) (w := w) ((a : Int) + 1) (a + 1) (if_neg (by omega)) hn (by omega) hz3 hR h)
        rw [one_past han HAll.out] at F3
        have hwa : IntKind.i64.wrap ((a : Int) + 1) = (a : Int) + 1 := wrap_in (by omega)
        clear hz3
        go_upto_region 20 with (first
          | (go_at_call 12; refine (HF.out _ (HR.out.keep hs) (hs.get 0 rfl)).mono ?_; rintro e w2 ⟨rfl, hc⟩; replace hs := hs.call0 hc; clear hc)
          | (go_at_call 14; refine (HC.out _ (hs.get 0 rfl)).mono ?_; rintro e w2 ⟨rfl, hc⟩; replace hs := hs.call0 hc; clear hc)
          | (go_at_call 16; refine (HP.out _).mono ?_; rintro e w2 ⟨rfl, rfl⟩))
        go_upto_region 22 with (first
          | (go_at_call 19; refine (clear_yes a han hn (hs.get 0 rfl)).mono ?_; rintro e w2 ⟨rfl, hc⟩; replace hs := hs.upd 0 rfl hc; clear hc)
          | (go_at_call 12; refine (F1.out _ (HR.out.keep hs) (hs.get 0 rfl)).mono ?_; rintro e w2 ⟨rfl, hc⟩; replace hs := hs.call0 hc; clear hc))
        go_upto_region 23 with (first
          | (go_at_call 12; refine (F2.out _ (HR.out.keep hs) (hs.get 0 rfl)).mono ?_; rintro e w2 ⟨rfl, hc⟩; replace hs := hs.call0 hc; clear hc))
        go_wp2_with (first
          | (go_at_call 12; refine (F3.out _ (HR.out.keep hs) (hs.get 0 rfl)).mono ?_; rintro e w2 ⟨rfl, hc⟩; replace hs := hs.call0 hc; clear hc))
        go_ret
        exact ⟨rfl, hs.letgo⟩
theorem fills_walk (x0 x2 : Int) (N1 c1 : Nat) (G1 : Nat → Int) (ao1 : Option Addr) (db1 do1 : Nat) (w : World) (hN1 : N1 ≤ 9223372036854775807)
    (hao1 : 0 < N1 → ao1 = some ⟨db1, do1, none⟩) (hR1 : Rd w db1 do1 N1 fun i => .int .i64 (G1 i)) (hW1 : ∀ i, i < N1 → -9223372036854775808 ≤ G1 i ∧ G1 i ≤ 9223372036854775807)
    (h0 : -9223372036854775808 ≤ x0 ∧ x0 ≤ 9223372036854775807) (h2 : -9223372036854775808 ≤ x2 ∧ x2 ≤ 9223372036854775807) (hR : Rd w 0 0 64 tabV) :
    Calls Tryd.prog 6 #[.int .i64 x0, .slice ao1 N1 c1, .int .i64 x2] w fun e w' => e = .returned (.bool true) ∧ Below w.heap.size w w' := by
  obtain ⟨n, hp, hn⟩ : ∃ n : Nat, pick x0 4097 = (n : Int) ∧ n ≤ 4096 := ⟨(pick x0 4097).toNat, by have := pick_bd x0 4097 (by omega); omega, by have := pick_bd x0 4097 (by omega); omega⟩
  have P0 := Lib.hid (fun w => pick_any x0 4097 w (by omega) (by omega) h0.1 h0.2)
  rw [hp] at P0
  exact (fills_core x0 x2 n N1 c1 G1 ao1 db1 do1 w hn hN1 hao1 hR1 hW1 P0 h2 hR).mono fun e w' ⟨he, ht⟩ => ⟨he, ht.below⟩
end Go.Proofs.YtpendlnikdjcjaaDoor
