/- Ways. -/
import Derived.Test.YtdlnfdlgnbkppaaK1
namespace Go.Proofs.Ytdlnfdlgnbkppaa
set_option linter.unusedVariables false
set_option linter.unusedSimpArgs false
open Go Go.Sp Go.RowKit

theorem way_same (x : Int) (hb : -9223372036854775808 ≤ x ∧ x ≤ 9223372036854775807) : ∃ a b c d : Int, (∀ w, Calls Try.prog 13 #[.int .i64 x] w fun e w' => e = .returned (.tuple #[.int .i64 a, .int .i64 b, .int .i64 c, .int .i64 d]) ∧ w = w') ∧
    (∀ w, Calls Try.prog 14 #[.int .i64 x] w fun e w' => e = .returned (.tuple #[.int .i64 a, .int .i64 b, .int .i64 c, .int .i64 d]) ∧ w = w') ∧ ((x < 0 ∨ 1068 ≤ x) ∧ d = 90 ∨ ∃ k : Nat, x = k ∧ k < 1068 ∧ d = 0 ∧ wayV k = .tuple #[.int .i64 a, .int .i64 b, .int .i64 c, .int .i64 d]) := by
  by_cases h : x < 0 ∨ 1068 ≤ x
  · exact ⟨0, 0, 0, 90, fun w => way_no x w h hb, fun w => rway_no x w h hb, Or.inl ⟨h, rfl⟩⟩
  · obtain ⟨k, rfl⟩ : ∃ k : Nat, x = k := ⟨x.toNat, by omega⟩
    have hk : k < 1068 := by omega
    obtain ⟨a, b, c, hw⟩ := way_tuple k
    have h1 := fun w => way_yes k w hk
    have h2 := fun w => rway_yes k w hk
    rw [hw] at h1 h2
    exact ⟨a, b, c, 0, h1, h2, Or.inr ⟨k, rfl, hk, rfl, hw⟩⟩
theorem wayV_inj {k m : Nat} (hk : k < 1068) (hm : m < 1068) {a b c : Int} (h1 : wayV k = .tuple #[.int .i64 a, .int .i64 b, .int .i64 c, .int .i64 0]) (h2 : wayV m = .tuple #[.int .i64 a, .int .i64 b, .int .i64 c, .int .i64 0]) : k = m := by
  have h : wayV k = wayV m := h1.trans h2.symm
  clear h1 h2
  unfold wayV at h
  split at h <;> split at h <;> (try split at h) <;> (try split at h) <;> simp at h <;> omega
set_option maxRecDepth 20000 in
theorem ways_walk (x y : Int) (w : World) (wx : -9223372036854775808 ≤ x ∧ x ≤ 9223372036854775807) (wy : -9223372036854775808 ≤ y ∧ y ≤ 9223372036854775807) :
    Calls Try.prog 3 #[.int .i64 x, .int .i64 y] w fun e w' => e = .returned (.bool true) ∧ Below w.heap.size w w' := by
  have hs := Tr.refl w []
  obtain ⟨a, b, c, d, h1, h2, h3⟩ := way_same x wx
  obtain ⟨a', b', c', d', g1, _, g3⟩ := way_same y wy
  have H1 := Lib.hid h1
  have H2 := Lib.hid h2
  have H3 := Lib.hid g1
  have HF : Hid (x = y ∨ d ≠ 0 ∨ d' ≠ 0 ∨ a ≠ a' ∨ b ≠ b' ∨ c ≠ c') := Lib.hid (by
    rcases h3 with ⟨_, h3⟩ | ⟨k, rfl, hk, rfl, h3⟩
    · right; left; omega
    · rcases g3 with ⟨_, g3⟩ | ⟨m, rfl, hm, rfl, g3⟩
      · right; right; left; omega
      · by_cases e1 : a = a'
        · by_cases e2 : b = b'
          · by_cases e3 : c = c'
            · left; subst e1; subst e2; subst e3; rw [wayV_inj hk hm h3 g3]
            · simp [e3]
          · simp [e2]
        · simp [e1])
  clear h1 h2 g1 h3 g3
  go_enter Try.func3, Try.ntmps3
  go_upto_region 5 with (first | (go_at_call 12; refine (known_any _).mono ?_; rintro e w2 ⟨rfl, hc⟩; replace hs := hs.call0 hc; clear hc) | (go_at_call 13; refine (H1.out _).mono ?_; rintro e w2 ⟨rfl, rfl⟩))
  go_upto_region 6 with (first | (go_at_call 14; refine (H2.out _).mono ?_; rintro e w2 ⟨rfl, rfl⟩))
  go_upto_region 7 with (first | (go_at_call 13; refine (H3.out _).mono ?_; rintro e w2 ⟨rfl, rfl⟩))
  go_upto_region 9 with fail
  cases t1 : (x == y)
  · cases t2 : (d != 0)
    · cases t3 : (d' != 0)
      · cases t4 : (a != a')
        · cases t5 : (b != b')
          · have t6 : (c != c') = true := by simp at t1 t2 t3 t4 t5 ⊢; have := HF.out; omega
            go_wp2
            go_ret
            exact ⟨rfl, hs.below⟩
          · go_wp2
            go_ret
            exact ⟨rfl, hs.below⟩
        · go_wp2
          go_ret
          exact ⟨rfl, hs.below⟩
      · go_wp2
        go_ret
        exact ⟨rfl, hs.below⟩
    · go_wp2
      go_ret
      exact ⟨rfl, hs.below⟩
  · go_wp2
    go_ret
    exact ⟨rfl, hs.below⟩
end Go.Proofs.Ytdlnfdlgnbkppaa
