/- BitsSizes: the walk. -/
import Derived.Test.YtpendlnikdjcjaaDoorD
namespace Go.Proofs.YtpendlnikdjcjaaDoor
set_option linter.unusedVariables false
set_option linter.unusedSimpArgs false
open Go Go.Sp Go.RowKit Go.BigFrame

theorem has_nil {d s n : Nat} {w : World} (i : Int) (hn : n ≤ 4096) (h : (bitsR d s n fun _ => false).holds w) :
    Calls Tryd.prog 15 #[.pointer (some ⟨d, 0, none⟩), .int .i64 i] w fun e w' => e = .returned (.bool false) ∧ Tr w [] w' [] := by
  by_cases hi : i < 0 ∨ n ≤ i
  · exact has_no i hi h
  · obtain ⟨k, rfl⟩ : ∃ k : Nat, i = (k : Int) := ⟨i.toNat, by omega⟩
    exact has_yes k (by omega) hn h
theorem first_nil (n : Nat) : firstV (fun _ => false) n 0 = .tuple #[.int .i64 0, .bool (decide ((0 : Int) < n))] := by
  rcases Nat.eq_zero_or_pos n with rfl | h
  · rw [← firstV_none fun j h1 h2 => by omega]; rfl
  · rw [← firstV_some (r := 0) (Nat.le_refl 0) h rfl fun j h1 h2 => by omega]
    have : decide ((0 : Int) < n) = true := decide_eq_true (by omega)
    rw [this]; rfl
theorem sizes_yes (n : Nat) (w : World) (h2 : n ≤ 4096) (hR : Rd w 0 0 64 tabV) : Calls Tryd.prog 3 #[.int .i64 n] w fun e w' => e = .returned (.bool true) ∧ Tr w [] w' [] := by
  have hs := Tr.refl w []
  have HR := Lib.hid hR
  clear hR
  have HF := Lib.hid (fun d s w hR h => first_any (d := d) (s := s) (n := n) (f := fun _ => false) (w := w) 0 0 rfl h2 (by omega) (fun _ _ => rfl) hR h)
  rw [first_nil] at HF
  have HC := Lib.hid (fun d s w h => count_any (d := d) (s := s) (n := n) (f := fun _ => false) (w := w) h2 (fun _ _ => rfl) h)
  rw [cntP_zero fun _ _ => rfl] at HC
  have hwr : IntKind.i64.wrap ((n : Int) - 1) = (n : Int) - 1 := wrap_in (by omega)
  go_enter Tryd.func3, Tryd.ntmps3
  go_wp2_with (first
    | (go_at_call 9; refine (awake_any _ (HR.out.keep hs)).mono ?_; rintro e w2 ⟨rfl, hc⟩; replace hs := hs.call0 hc; clear hc)
    | (go_at_call 10; refine (new_ok n _ h2).mono ?_; rintro e w2 ⟨d, s, rfl, hc⟩; replace hs := hs.call1 hc; clear hc)
    | (go_at_call 11; refine (rnew_ok n _ h2).mono ?_; rintro e w2 ⟨r, t, rfl, hc⟩; replace hs := hs.call1 hc; clear hc)
    | (go_at_call 12; refine (HF.out _ _ _ (HR.out.keep hs) (hs.get 1 rfl)).mono ?_; rintro e w2 ⟨rfl, hc⟩; replace hs := hs.call0 hc; clear hc)
    | (go_at_call 13; refine (len_any (hs.get 1 rfl)).mono ?_; rintro e w2 ⟨rfl, hc⟩; replace hs := hs.call0 hc; clear hc)
    | (go_at_call 14; refine (HC.out _ _ _ (hs.get 1 rfl)).mono ?_; rintro e w2 ⟨rfl, hc⟩; replace hs := hs.call0 hc; clear hc)
    | (go_at_call 15; refine (has_nil _ h2 (hs.get 1 rfl)).mono ?_; rintro e w2 ⟨rfl, hc⟩; replace hs := hs.call0 hc; clear hc))
  go_ret
  exact ⟨rfl, hs.letgo⟩
theorem sizes_no (n : Int) (w : World) (h : n < 0 ∨ 4096 < n) (hR : Rd w 0 0 64 tabV) : Calls Tryd.prog 3 #[.int .i64 n] w fun e w' => e = .returned (.bool true) ∧ Tr w [] w' [] := by
  have hs := Tr.refl w []
  have HR := Lib.hid hR
  have h := Lib.hid h
  clear hR
  go_enter Tryd.func3, Tryd.ntmps3
  go_wp2_with (first
    | (go_at_call 9; refine (awake_any _ (HR.out.keep hs)).mono ?_; rintro e w2 ⟨rfl, hc⟩; replace hs := hs.call0 hc; clear hc)
    | (go_at_call 10; refine (new_no n _ h.out).mono ?_; rintro e w2 ⟨rfl, hc⟩; replace hs := hs.call0 hc; clear hc)
    | (go_at_call 11; refine (rnew_no n _ h.out).mono ?_; rintro e w2 ⟨rfl, hc⟩; replace hs := hs.call0 hc; clear hc))
  go_ret
  exact ⟨rfl, hs.letgo⟩
theorem sizes_walk (x : Int) (w : World) (hR : Rd w 0 0 64 tabV) : Calls Tryd.prog 3 #[.int .i64 x] w fun e w' => e = .returned (.bool true) ∧ Below w.heap.size w w' := by
  suffices hh : Calls Tryd.prog 3 #[.int .i64 x] w fun e w' => e = .returned (.bool true) ∧ Tr w [] w' [] from hh.mono fun e w' ⟨he, ht⟩ => ⟨he, ht.below⟩
  by_cases h : x < 0 ∨ 4096 < x
  · exact sizes_no x w h hR
  · obtain ⟨n, rfl⟩ : ∃ n : Nat, x = (n : Int) := ⟨x.toNat, by omega⟩
    exact sizes_yes n w (by omega) hR
end Go.Proofs.YtpendlnikdjcjaaDoor
