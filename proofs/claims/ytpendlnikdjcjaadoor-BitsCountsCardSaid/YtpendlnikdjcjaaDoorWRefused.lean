/- BitsRefused: the walk. -/
import Derived.Test.YtpendlnikdjcjaaDoorD
namespace Go.Proofs.YtpendlnikdjcjaaDoor
set_option linter.unusedVariables false
set_option linter.unusedSimpArgs false
open Go Go.Sp Go.RowKit Go.BigFrame

theorem rd_nil (w : World) (f : Nat → Value) : Rd w 0 0 0 f := fun j hj => by omega
set_option maxHeartbeats 2000000 in
theorem refused_core (x0 x2 : Int) (n N1 c1 : Nat) (G1 : Nat → Int) (ao1 : Option Addr) (db1 do1 : Nat) (w : World) (hn : n ≤ 4096) (hN1 : N1 ≤ 9223372036854775807)
    (hao1 : 0 < N1 → ao1 = some ⟨db1, do1, none⟩) (hR1 : Rd w db1 do1 N1 fun i => .int .i64 (G1 i)) (hW1 : ∀ i, i < N1 → -9223372036854775808 ≤ G1 i ∧ G1 i ≤ 9223372036854775807)
    (P0 : Hid (∀ w, Calls Tryd.prog 16 #[.int .i64 x0, .int .i64 4097] w fun e w' => e = .returned (.int .i64 n) ∧ w = w'))
    (h2 : -9223372036854775808 ≤ x2 ∧ x2 ≤ 9223372036854775807) (hR : Rd w 0 0 64 tabV) :
    Calls Tryd.prog 8 #[.int .i64 x0, .slice ao1 N1 c1, .int .i64 x2] w fun e w' => e = .returned (.bool true) ∧ Tr w [] w' [] := by
  have hs := Tr.refl w []
  have HR := Lib.hid hR
  have A1 := Lib.hid hao1
  have R1 := Lib.hid hR1
  have W1 := Lib.hid hW1
  clear hR hao1 hR1 hW1
  go_enter Tryd.func8, Tryd.ntmps8
  go_upto_region 6 with (first
    | (go_at_call 9; refine (awake_any _ (HR.out.keep hs)).mono ?_; rintro e w2 ⟨rfl, hc⟩; replace hs := hs.call0 hc; clear hc)
    | (go_at_call 16; refine (P0.out _).mono ?_; rintro e w2 ⟨rfl, rfl⟩)
    | (go_at_call 17; refine (row_any n N1 0 G1 (fun _ => 0) ao1 none c1 0 db1 do1 0 0 _ hn hN1 (by omega) A1.out (fun h => by omega) (R1.out.keep hs) (rd_nil _ _) W1.out (fun i h => by omega)).mono ?_; rintro e w2 ⟨d, s, f, rfl, hz, hc⟩; replace hs := hs.call1 hc; clear hc))
  have HZ := Lib.hid hz
  clear hz
  have HF := Lib.hid (fun w hR h => first_any (d := d) (s := s) (n := n) (f := f) (w := w) 0 0 rfl hn (by omega) HZ.out hR h)
  obtain ⟨r, b, hV⟩ : ∃ r b, firstV f n 0 = .tuple #[.int .i64 r, .bool b] := ⟨_, _, rfl⟩
  rw [hV] at HF
  clear hV
  have HC := Lib.hid (fun w h => count_any (d := d) (s := s) (n := n) (f := f) (w := w) hn HZ.out h)
  generalize ((cntP f n : Nat) : Int) = c at *
  by_cases h0 : x2 < 0
  · have HB := Lib.hid (show x2 < 0 ∨ (n : Int) ≤ x2 from Or.inl h0)
    have hlt : x2 < (n : Int) := by omega
    have HL := Lib.hid (fun w hR h => first_any (d := d) (s := s) (n := n) (f := f) (w := w) (n : Int) n (if_neg (by omega)) hn (by omega) HZ.out hR h)
    rw [← firstV_none fun j h1 h2 => by omega] at HL
    go_upto_region 14 with (first
              | (go_at_call 14; refine (HC.out _ (hs.get 0 rfl)).mono ?_; rintro e w2 ⟨rfl, hc⟩; replace hs := hs.call0 hc; clear hc)
              | (go_at_call 12; refine (HF.out _ (HR.out.keep hs) (hs.get 0 rfl)).mono ?_; rintro e w2 ⟨rfl, hc⟩; replace hs := hs.call0 hc; clear hc)
              | (go_at_call 18; refine (set_no _ HB.out (hs.get 0 rfl)).mono ?_; rintro e w2 ⟨rfl, hc⟩; replace hs := hs.call0 hc; clear hc)
              | (go_at_call 19; refine (clear_no _ HB.out (hs.get 0 rfl)).mono ?_; rintro e w2 ⟨rfl, hc⟩; replace hs := hs.call0 hc; clear hc)
              | (go_at_call 15; refine (has_no _ HB.out (hs.get 0 rfl)).mono ?_; rintro e w2 ⟨rfl, hc⟩; replace hs := hs.call0 hc; clear hc))
    go_wp2_with (first
              | (go_at_call 12; refine (HL.out _ (HR.out.keep hs) (hs.get 0 rfl)).mono ?_; rintro e w2 ⟨rfl, hc⟩; replace hs := hs.call0 hc; clear hc)
              | (go_at_call 14; refine (HC.out _ (hs.get 0 rfl)).mono ?_; rintro e w2 ⟨rfl, hc⟩; replace hs := hs.call0 hc; clear hc)
              | (go_at_call 13; refine (len_any (hs.get 0 rfl)).mono ?_; rintro e w2 ⟨rfl, hc⟩; replace hs := hs.call0 hc; clear hc))
    go_ret
    exact ⟨rfl, hs.letgo⟩
  · by_cases h1 : x2 < (n : Int)
    · have h3 : 0 ≤ x2 := by omega
      have hwr : IntKind.i64.wrap (x2 + n) = x2 + n := wrap_in (by omega)
      go_upto_region 8 with fail
      obtain ⟨y, hy⟩ : ∃ y, y = x2 + (n : Int) := ⟨_, rfl⟩
      rw [← hy]
      have HB := Lib.hid (show y < 0 ∨ (n : Int) ≤ y by omega)
      have hlt : ¬ y < (n : Int) := by omega
      have HL := Lib.hid (fun w hR h => first_any (d := d) (s := s) (n := n) (f := f) (w := w) y y.toNat (by rw [if_neg (by omega)]; omega) hn (by omega) HZ.out hR h)
      rw [← firstV_none fun j h1 h2 => by omega] at HL
      clear hy hwr h1 h3 h0
      go_upto_region 14 with (first
                | (go_at_call 14; refine (HC.out _ (hs.get 0 rfl)).mono ?_; rintro e w2 ⟨rfl, hc⟩; replace hs := hs.call0 hc; clear hc)
                | (go_at_call 12; refine (HF.out _ (HR.out.keep hs) (hs.get 0 rfl)).mono ?_; rintro e w2 ⟨rfl, hc⟩; replace hs := hs.call0 hc; clear hc)
                | (go_at_call 18; refine (set_no _ HB.out (hs.get 0 rfl)).mono ?_; rintro e w2 ⟨rfl, hc⟩; replace hs := hs.call0 hc; clear hc)
                | (go_at_call 19; refine (clear_no _ HB.out (hs.get 0 rfl)).mono ?_; rintro e w2 ⟨rfl, hc⟩; replace hs := hs.call0 hc; clear hc)
                | (go_at_call 15; refine (has_no _ HB.out (hs.get 0 rfl)).mono ?_; rintro e w2 ⟨rfl, hc⟩; replace hs := hs.call0 hc; clear hc))
      go_wp2_with (first
                | (go_at_call 12; refine (HL.out _ (HR.out.keep hs) (hs.get 0 rfl)).mono ?_; rintro e w2 ⟨rfl, hc⟩; replace hs := hs.call0 hc; clear hc)
                | (go_at_call 14; refine (HC.out _ (hs.get 0 rfl)).mono ?_; rintro e w2 ⟨rfl, hc⟩; replace hs := hs.call0 hc; clear hc)
                | (go_at_call 13; refine (len_any (hs.get 0 rfl)).mono ?_; rintro e w2 ⟨rfl, hc⟩; replace hs := hs.call0 hc; clear hc))
      go_ret
      exact ⟨rfl, hs.letgo⟩
    · have HB := Lib.hid (show x2 < 0 ∨ (n : Int) ≤ x2 by omega)
      have HL := Lib.hid (fun w hR h => first_any (d := d) (s := s) (n := n) (f := f) (w := w) x2 x2.toNat (by rw [if_neg (by omega)]; omega) hn (by omega) HZ.out hR h)
      rw [← firstV_none fun j h1 h2 => by omega] at HL
      have h3 : 0 ≤ x2 := by omega
      go_upto_region 14 with (first
                | (go_at_call 14; refine (HC.out _ (hs.get 0 rfl)).mono ?_; rintro e w2 ⟨rfl, hc⟩; replace hs := hs.call0 hc; clear hc)
                | (go_at_call 12; refine (HF.out _ (HR.out.keep hs) (hs.get 0 rfl)).mono ?_; rintro e w2 ⟨rfl, hc⟩; replace hs := hs.call0 hc; clear hc)
                | (go_at_call 18; refine (set_no _ HB.out (hs.get 0 rfl)).mono ?_; rintro e w2 ⟨rfl, hc⟩; replace hs := hs.call0 hc; clear hc)
                | (go_at_call 19; refine (clear_no _ HB.out (hs.get 0 rfl)).mono ?_; rintro e w2 ⟨rfl, hc⟩; replace hs := hs.call0 hc; clear hc)
                | (go_at_call 15; refine (has_no _ HB.out (hs.get 0 rfl)).mono ?_; rintro e w2 ⟨rfl, hc⟩; replace hs := hs.call0 hc; clear hc))
      go_wp2_with (first
                | (go_at_call 12; refine (HL.out _ (HR.out.keep hs) (hs.get 0 rfl)).mono ?_; rintro e w2 ⟨rfl, hc⟩; replace hs := hs.call0 hc; clear hc)
                | (go_at_call 14; refine (HC.out _ (hs.get 0 rfl)).mono ?_; rintro e w2 ⟨rfl, hc⟩; replace hs := hs.call0 hc; clear hc)
                | (go_at_call 13; refine (len_any (hs.get 0 rfl)).mono ?_; rintro e w2 ⟨rfl, hc⟩; replace hs := hs.call0 hc; clear hc))
      go_ret
      exact ⟨rfl, hs.letgo⟩
theorem refused_walk (x0 x2 : Int) (N1 c1 : Nat) (G1 : Nat → Int) (ao1 : Option Addr) (db1 do1 : Nat) (w : World) (hN1 : N1 ≤ 9223372036854775807)
    (hao1 : 0 < N1 → ao1 = some ⟨db1, do1, none⟩) (hR1 : Rd w db1 do1 N1 fun i => .int .i64 (G1 i)) (hW1 : ∀ i, i < N1 → -9223372036854775808 ≤ G1 i ∧ G1 i ≤ 9223372036854775807)
    (h0 : -9223372036854775808 ≤ x0 ∧ x0 ≤ 9223372036854775807) (h2 : -9223372036854775808 ≤ x2 ∧ x2 ≤ 9223372036854775807) (hR : Rd w 0 0 64 tabV) :
    Calls Tryd.prog 8 #[.int .i64 x0, .slice ao1 N1 c1, .int .i64 x2] w fun e w' => e = .returned (.bool true) ∧ Below w.heap.size w w' := by
  obtain ⟨n, hp, hn⟩ : ∃ n : Nat, pick x0 4097 = (n : Int) ∧ n ≤ 4096 := ⟨(pick x0 4097).toNat, by have := pick_bd x0 4097 (by omega); omega, by have := pick_bd x0 4097 (by omega); omega⟩
  have P0 := Lib.hid (fun w => pick_any x0 4097 w (by omega) (by omega) h0.1 h0.2)
  rw [hp] at P0
  exact (refused_core x0 x2 n N1 c1 G1 ao1 db1 do1 w hn hN1 hao1 hR1 hW1 P0 h2 hR).mono fun e w' ⟨he, ht⟩ => ⟨he, ht.below⟩
end Go.Proofs.YtpendlnikdjcjaaDoor
