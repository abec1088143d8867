/- DiskSizes: the walk. -/
import Derived.Test.YtcflolcaiedmfaaC
namespace Go.Proofs.Ytcflolcaiedmfaa
set_option linter.unusedVariables false
set_option linter.unusedSimpArgs false
open Go Go.Sp Go.RowKit Go.BigFrame

theorem sizes_yes (n : Nat) (w : World) (h1 : 1 ≤ n) (h2 : n ≤ 4096) : Calls Try.prog 3 #[.int .i64 n] w fun e w' => e = .returned (.bool true) ∧ Tr w [] w' [] := by
  have hs := Tr.refl w []
  go_enter Try.func3, Try.ntmps3
  go_wp2_with (first
    | (go_at_call 10; refine (awake_any _).mono ?_; rintro e w2 ⟨rfl, hc⟩; replace hs := hs.call0 hc; clear hc)
    | (go_at_call 11; refine (new_ok n _ h1 h2).mono ?_; rintro e w2 ⟨d, s, rfl, hc⟩; replace hs := hs.call1 hc; clear hc)
    | (go_at_call 12; refine (rnew_ok n _ h1 h2).mono ?_; rintro e w2 ⟨r, t, rfl, hc⟩; replace hs := hs.call1 hc; clear hc)
    | (go_at_call 13; refine (image_any h2 (hs.get 1 rfl)).mono ?_; rintro e w2 ⟨b, rfl, hc⟩; replace hs := hs.call1 hc; clear hc)
    | (go_at_call 15; refine (rimage_any h2 (hs.get 1 rfl)).mono ?_; rintro e w2 ⟨v, rfl, hc⟩; replace hs := hs.call1 hc; clear hc; obtain ⟨aoV, cV, gV, rfl, hcV, hcVm, haoV, hcV0⟩ := hs.own_open 0 rfl; replace haoV := Lib.hid haoV; clear hcV0)
    | (go_at_call 14; refine (same_yes (fun _ => 0) (fun _ => 0) n _ _ _ _ b 0 gV 0 _ (by omega) (fun _ => rfl) haoV.out (hs.rd0 1 rfl (Nat.le_refl _)) (hs.own_rdx 0 rfl haoV.out) (fun _ _ => rfl)).mono ?_; rintro e w2 ⟨rfl, hc⟩; replace hs := hs.call0 hc; clear hc)
    | (go_at_call 16; refine (len_any (hs.get 3 rfl)).mono ?_; rintro e w2 ⟨rfl, hc⟩; replace hs := hs.call0 hc; clear hc)
    | (go_at_call 17; refine (writes_any (hs.get 3 rfl)).mono ?_; rintro e w2 ⟨rfl, hc⟩; replace hs := hs.call0 hc; clear hc)
    | (go_at_call 18; refine (down_any (hs.get 3 rfl)).mono ?_; rintro e w2 ⟨rfl, hc⟩; replace hs := hs.call0 hc; clear hc))
  go_ret
  exact ⟨rfl, hs.letgo⟩

theorem sizes_no (n : Int) (w : World) (h : n < 1 ∨ 4096 < n) : Calls Try.prog 3 #[.int .i64 n] w fun e w' => e = .returned (.bool true) ∧ Tr w [] w' [] := by
  have hs := Tr.refl w []
  have h := Lib.hid h
  go_enter Try.func3, Try.ntmps3
  go_wp2_with (first
    | (go_at_call 10; refine (awake_any _).mono ?_; rintro e w2 ⟨rfl, hc⟩; replace hs := hs.call0 hc; clear hc)
    | (go_at_call 11; refine (new_no n _ h.out).mono ?_; rintro e w2 ⟨rfl, hc⟩; replace hs := hs.call0 hc; clear hc)
    | (go_at_call 12; refine (rnew_no n _ h.out).mono ?_; rintro e w2 ⟨rfl, hc⟩; replace hs := hs.call0 hc; clear hc))
  go_ret
  exact ⟨rfl, hs.letgo⟩

theorem sizes_walk (x : Int) (w : World) : Calls Try.prog 3 #[.int .i64 x] w fun e w' => e = .returned (.bool true) ∧ Below w.heap.size w w' := by
  suffices hh : Calls Try.prog 3 #[.int .i64 x] w fun e w' => e = .returned (.bool true) ∧ Tr w [] w' [] from hh.mono fun e w' ⟨he, ht⟩ => ⟨he, ht.below⟩
  by_cases h : x < 1 ∨ 4096 < x
  · exact sizes_no x w h
  · obtain ⟨n, rfl⟩ : ∃ n : Nat, x = (n : Int) := ⟨x.toNat, by omega⟩
    exact sizes_yes n w (by omega) (by omega)
end Go.Proofs.Ytcflolcaiedmfaa
