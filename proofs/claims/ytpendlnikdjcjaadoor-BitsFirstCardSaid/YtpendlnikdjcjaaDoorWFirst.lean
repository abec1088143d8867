/- BitsFirst: the walk. -/
import Derived.Test.YtpendlnikdjcjaaDoorWFills
import Derived.Test.YtpendlnikdjcjaaDoorOpen4
namespace Go.Proofs.YtpendlnikdjcjaaDoor
set_option linter.unusedVariables false
set_option linter.unusedSimpArgs false
open Go Go.Sp Go.RowKit Go.BigFrame

set_option maxHeartbeats 2000000 in
theorem firsts_core (x0 frm : Int) (n N1 c1 N2 c2 a : Nat) (G1 G2 : Nat → Int) (ao1 ao2 : Option Addr) (db1 do1 db2 do2 : Nat) (w : World) (hn : n ≤ 4096) (hN1 : N1 ≤ 9223372036854775807) (hN2 : N2 ≤ 9223372036854775807)
    (hao1 : 0 < N1 → ao1 = some ⟨db1, do1, none⟩) (hao2 : 0 < N2 → ao2 = some ⟨db2, do2, none⟩) (hR1 : Rd w db1 do1 N1 fun i => .int .i64 (G1 i)) (hR2 : Rd w db2 do2 N2 fun i => .int .i64 (G2 i))
    (hW1 : ∀ i, i < N1 → -9223372036854775808 ≤ G1 i ∧ G1 i ≤ 9223372036854775807) (hW2 : ∀ i, i < N2 → -9223372036854775808 ≤ G2 i ∧ G2 i ≤ 9223372036854775807)
    (P0 : Hid (∀ w, Calls Tryd.prog 16 #[.int .i64 x0, .int .i64 4097] w fun e w' => e = .returned (.int .i64 n) ∧ w = w'))
    (hm : (if frm < 0 then (0 : Int) else frm) = (a : Int)) (ha : a ≤ 9223372036854775807) (hR : Rd w 0 0 64 tabV) :
    Calls Tryd.prog 4 #[.agg #[.int .i64 x0, .slice ao1 N1 c1, .slice ao2 N2 c2, .int .i64 frm]] w fun e w' => e = .returned (.bool true) ∧ Tr w [] w' [] := by
  have hs := Tr.refl w []
  have HR := Lib.hid hR
  have A1 := Lib.hid hao1
  have A2 := Lib.hid hao2
  have R1 := Lib.hid hR1
  have R2 := Lib.hid hR2
  have W1 := Lib.hid hW1
  have W2 := Lib.hid hW2
  have HM := Lib.hid hm
  clear hao1 hao2 hR1 hR2 hW1 hW2 hR hm
  go_enter Tryd.func4, Tryd.ntmps4
  go_upto_region 7 with (first
    | ((with_reducible refine at_box (t := 36) rfl ?_); refine wl_boxA hs rfl rfl rfl ?_; clear hs; intro w1 y hs)
    | ((with_reducible refine at_load rfl ?_); refine wl_load1 hs rfl rfl Tryd.underlying3 rfl rfl 0 rfl rfl ?_)
    | ((with_reducible refine at_load rfl ?_); refine wl_load1 hs rfl rfl Tryd.underlying34 rfl rfl 0 rfl rfl ?_)
    | (go_at_call 9; refine (awake_any _ (HR.out.keep hs)).mono ?_; rintro e w2 ⟨rfl, hc⟩; replace hs := hs.call0 hc; clear hc)
    | (go_at_call 16; refine (P0.out _).mono ?_; rintro e w2 ⟨rfl, rfl⟩)
    | (go_at_call 17; refine (row_any n N1 N2 G1 G2 ao1 ao2 c1 c2 db1 do1 db2 do2 _ hn hN1 hN2 A1.out A2.out (R1.out.keep hs) (R2.out.keep hs) W1.out W2.out).mono ?_; rintro e w2 ⟨d, s, f, rfl, hz, hc⟩; replace hs := hs.call1 hc; clear hc))
  have HZ := Lib.hid hz
  clear hz
  have HF := Lib.hid (fun w hR h => first_any (d := d) (s := s) (n := n) (f := f) (w := w) frm a HM.out hn ha HZ.out hR h)
  obtain ⟨r, hr⟩ : ∃ r, IsFirst f n a r := first_ex f n a
  obtain ⟨hall, hr⟩ := hr
  have HA := Lib.hid hall
  clear hall
  rcases hr with hr | ⟨hr1, hr2, hr3⟩
  · rw [← firstV_none fun j h1 h2 => HA.out j h1 (by omega)] at HF
    subst hr
    have hm := HM.out
    go_wp2_with (first
      | (go_at_call 12; refine (HF.out _ (HR.out.keep hs) (hs.get 0 rfl)).mono ?_; rintro e w2 ⟨rfl, hc⟩; replace hs := hs.call0 hc; clear hc))
    clear hm
    go_loopw [10] (fun i wr => ∃ k : Nat, a ≤ k ∧ i = .int .i64 k ∧ k ≤ max a r ∧ Tr w [] wr [bitsR d s r f, Res.blk y #[.int .i64 x0, .slice ao1 N1 c1, .slice ao2 N2 c2, .int .i64 frm] 36]) (fun i _ => r - (intOf i).toNat)
    case atStart => exact ⟨a, Nat.le_refl _, rfl, by omega, hs⟩
    case round =>
      clear hs
      obtain ⟨k, hk, rfl, hk2, hs⟩ := hrel
      by_cases hlt : k < r
      · have hltI : (k : Int) < r := by omega
        have HH := Lib.hid (fun w h => has_yes (d := d) (s := s) (w := w) (n := r) (f := f) k hlt hn h)
        rw [HA.out k hk hlt] at HH
        go_wp2_with (first
          | (go_at_call 15; refine (HH.out _ (hs.get 0 rfl)).mono ?_; rintro e w2 ⟨rfl, hc⟩; replace hs := hs.call0 hc; clear hc))
        go_roundw
        case rel => exact ⟨k + 1, by omega, by go_num, by omega, hs⟩
        case measure => simp [intOf]; omega
      · have hltI : ¬ (k : Int) < r := by omega
        go_wp2
        go_ret
        exact ⟨rfl, hs.letgo⟩
  · rw [← firstV_some hr1 hr2 hr3 HA.out] at HF
    have HH := Lib.hid (fun w h => has_yes (d := d) (s := s) (w := w) (n := n) (f := f) r hr2 hn h)
    rw [hr3] at HH
    clear hr3
    have hm := HM.out
    have t1 : decide (r < a) = false := decide_eq_false (by omega)
    have t2 : decide (n ≤ r) = false := decide_eq_false (by omega)
    have t3 : decide ((r : Int) < (a : Int)) = false := decide_eq_false (by omega)
    have t4 : decide ((n : Int) ≤ (r : Int)) = false := decide_eq_false (by omega)
    go_wp2_with (first
      | (go_at_call 12; refine (HF.out _ (HR.out.keep hs) (hs.get 0 rfl)).mono ?_; rintro e w2 ⟨rfl, hc⟩; replace hs := hs.call0 hc; clear hc)
      | (go_at_call 15; refine (HH.out _ (hs.get 0 rfl)).mono ?_; rintro e w2 ⟨rfl, hc⟩; replace hs := hs.call0 hc; clear hc))
    clear hm t1 t2 t3 t4 HH
    go_loopw [10] (fun i wr => ∃ k : Nat, a ≤ k ∧ i = .int .i64 k ∧ k ≤ r ∧ Tr w [] wr [bitsR d s n f, Res.blk y #[.int .i64 x0, .slice ao1 N1 c1, .slice ao2 N2 c2, .int .i64 frm] 36]) (fun i _ => r - (intOf i).toNat)
    case atStart => exact ⟨a, Nat.le_refl _, rfl, by omega, hs⟩
    case round =>
      clear hs
      obtain ⟨k, hk, rfl, hk2, hs⟩ := hrel
      by_cases hlt : k < r
      · have hltI : (k : Int) < r := by omega
        have HH := Lib.hid (fun w h => has_yes (d := d) (s := s) (w := w) (n := n) (f := f) k (by omega) hn h)
        rw [HA.out k hk hlt] at HH
        go_wp2_with (first
          | (go_at_call 15; refine (HH.out _ (hs.get 0 rfl)).mono ?_; rintro e w2 ⟨rfl, hc⟩; replace hs := hs.call0 hc; clear hc))
        go_roundw
        case rel => exact ⟨k + 1, by omega, by go_num, by omega, hs⟩
        case measure => simp [intOf]; omega
      · have hltI : ¬ (k : Int) < r := by omega
        go_wp2
        go_ret
        exact ⟨rfl, hs.letgo⟩
theorem firsts_walk (x0 frm : Int) (N1 c1 N2 c2 : Nat) (G1 G2 : Nat → Int) (ao1 ao2 : Option Addr) (db1 do1 db2 do2 : Nat) (w : World) (hR : Rd w 0 0 64 tabV)
    (h0 : -9223372036854775808 ≤ x0 ∧ x0 ≤ 9223372036854775807) (hf : -9223372036854775808 ≤ frm ∧ frm ≤ 9223372036854775807)
    (g1 : Ints w (.slice ao1 N1 c1) ao1 N1 c1 db1 do1 G1) (g2 : Ints w (.slice ao2 N2 c2) ao2 N2 c2 db2 do2 G2) :
    Calls Tryd.prog 4 #[.agg #[.int .i64 x0, .slice ao1 N1 c1, .slice ao2 N2 c2, .int .i64 frm]] w fun e w' => e = .returned (.bool true) ∧ Below w.heap.size w w' := by
  obtain ⟨n, hp, hn⟩ : ∃ n : Nat, pick x0 4097 = (n : Int) ∧ n ≤ 4096 := ⟨(pick x0 4097).toNat, by have := pick_bd x0 4097 (by omega); omega, by have := pick_bd x0 4097 (by omega); omega⟩
  have P0 := Lib.hid (fun w => pick_any x0 4097 w (by omega) (by omega) h0.1 h0.2)
  rw [hp] at P0
  obtain ⟨a, hm, ha⟩ : ∃ a : Nat, (if frm < 0 then (0 : Int) else frm) = (a : Int) ∧ a ≤ 9223372036854775807 := ⟨frm.toNat, by split <;> omega, by omega⟩
  have l1 := g1.le
  have m1 := g1.max
  have l2 := g2.le
  have m2 := g2.max
  unfold maxLen at m1 m2
  exact (firsts_core x0 frm n N1 c1 N2 c2 a G1 G2 ao1 ao2 db1 do1 db2 do2 w hn (by omega) (by omega) g1.ao g2.ao g1.rd g2.rd g1.wf g2.wf P0 hm ha hR).mono fun e w' ⟨he, ht⟩ => ⟨he, ht.below⟩
end Go.Proofs.YtpendlnikdjcjaaDoor
