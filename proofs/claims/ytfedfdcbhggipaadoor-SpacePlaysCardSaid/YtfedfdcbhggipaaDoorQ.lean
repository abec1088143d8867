/- Spaces: New. -/
import Derived.Test.YtfedfdcbhggipaaDoorP2
namespace Go.Proofs.YtfedfdcbhggipaaDoor
set_option linter.unusedVariables false
set_option linter.unusedSimpArgs false
open Go Go.Sp Go.RowKit Go.BigFrame

theorem may_yes (n m : Nat) (w : World) (h : 8 ≤ n ∧ n ≤ 4096 ∧ 1 ≤ m ∧ m ≤ 512 ∧ m + 2 ≤ n) : Calls Tryd.prog 31 #[.agg #[.int .i64 n, .int .i64 m]] w fun e w' => e = .returned (.bool true) ∧ Tr w [] w' [] := by
  have hs := Tr.refl w []
  obtain ⟨h1, h2, h3, h4, h5⟩ := h
  have d1 : (8 : Int) ≤ (n : Int) := by omega
  have d2 : (n : Int) ≤ 4096 := by omega
  have d3 : (1 : Int) ≤ (m : Int) := by omega
  have d4 : (m : Int) ≤ 512 := by omega
  have d5 : (m : Int) + 2 ≤ (n : Int) := by omega
  go_enter Tryd.func31, Tryd.ntmps31
  go_wp2_with (first | ((with_reducible refine at_box (t := 23) rfl ?_); refine wl_boxA hs rfl rfl rfl ?_; clear hs; intro w1 xb hs) | ((with_reducible refine at_load rfl ?_); refine wl_load1 hs rfl rfl Tryd.underlying3 rfl rfl 0 rfl rfl ?_))
  go_ret
  exact ⟨rfl, hs.letgo⟩
theorem may_no (n m : Int) (w : World) (h : ¬ (8 ≤ n ∧ n ≤ 4096 ∧ 1 ≤ m ∧ m ≤ 512 ∧ m + 2 ≤ n)) : Calls Tryd.prog 31 #[.agg #[.int .i64 n, .int .i64 m]] w fun e w' => e = .returned (.bool false) ∧ Tr w [] w' [] := by
  have hs := Tr.refl w []
  have H := Lib.hid h
  clear h
  by_cases h1 : 8 ≤ n
  · by_cases h2 : n ≤ 4096
    · by_cases h3 : 1 ≤ m
      · by_cases h4 : m ≤ 512
        · have h6 : n < m + 2 := by have := H.out; omega
          have h5 : decide (m + 2 ≤ n) = false := decide_eq_false (by omega)
          clear h6
          go_enter Tryd.func31, Tryd.ntmps31
          go_wp2_with (first | ((with_reducible refine at_box (t := 23) rfl ?_); refine wl_boxA hs rfl rfl rfl ?_; clear hs; intro w1 xb hs) | ((with_reducible refine at_load rfl ?_); refine wl_load1 hs rfl rfl Tryd.underlying3 rfl rfl 0 rfl rfl ?_))
          go_ret
          exact ⟨rfl, hs.letgo⟩
        · have h5 : 512 < m := by omega
          go_enter Tryd.func31, Tryd.ntmps31
          go_wp2_with (first | ((with_reducible refine at_box (t := 23) rfl ?_); refine wl_boxA hs rfl rfl rfl ?_; clear hs; intro w1 xb hs) | ((with_reducible refine at_load rfl ?_); refine wl_load1 hs rfl rfl Tryd.underlying3 rfl rfl 0 rfl rfl ?_))
          go_ret
          exact ⟨rfl, hs.letgo⟩
      · have h5 : m < 1 := by omega
        go_enter Tryd.func31, Tryd.ntmps31
        go_wp2_with (first | ((with_reducible refine at_box (t := 23) rfl ?_); refine wl_boxA hs rfl rfl rfl ?_; clear hs; intro w1 xb hs) | ((with_reducible refine at_load rfl ?_); refine wl_load1 hs rfl rfl Tryd.underlying3 rfl rfl 0 rfl rfl ?_))
        go_ret
        exact ⟨rfl, hs.letgo⟩
    · have h5 : 4096 < n := by omega
      go_enter Tryd.func31, Tryd.ntmps31
      go_wp2_with (first | ((with_reducible refine at_box (t := 23) rfl ?_); refine wl_boxA hs rfl rfl rfl ?_; clear hs; intro w1 xb hs) | ((with_reducible refine at_load rfl ?_); refine wl_load1 hs rfl rfl Tryd.underlying3 rfl rfl 0 rfl rfl ?_))
      go_ret
      exact ⟨rfl, hs.letgo⟩
  · have h5 : n < 8 := by omega
    go_enter Tryd.func31, Tryd.ntmps31
    go_wp2_with (first | ((with_reducible refine at_box (t := 23) rfl ?_); refine wl_boxA hs rfl rfl rfl ?_; clear hs; intro w1 xb hs) | ((with_reducible refine at_load rfl ?_); refine wl_load1 hs rfl rfl Tryd.underlying3 rfl rfl 0 rfl rfl ?_))
    go_ret
    exact ⟨rfl, hs.letgo⟩

theorem rmay_yes (n m : Nat) (w : World) (h : 8 ≤ n ∧ n ≤ 4096 ∧ 1 ≤ m ∧ m ≤ 512 ∧ m + 2 ≤ n) : Calls Tryd.prog 35 #[.agg #[.int .i64 n, .int .i64 m]] w fun e w' => e = .returned (.bool true) ∧ Tr w [] w' [] := by
  have hs := Tr.refl w []
  obtain ⟨h1, h2, h3, h4, h5⟩ := h
  have d1 : (8 : Int) ≤ (n : Int) := by omega
  have d2 : (n : Int) ≤ 4096 := by omega
  have d3 : (1 : Int) ≤ (m : Int) := by omega
  have d4 : (m : Int) ≤ 512 := by omega
  have d5 : (m : Int) + 2 ≤ (n : Int) := by omega
  go_enter Tryd.func35, Tryd.ntmps35
  go_wp2_with (first | ((with_reducible refine at_box (t := 23) rfl ?_); refine wl_boxA hs rfl rfl rfl ?_; clear hs; intro w1 xb hs) | ((with_reducible refine at_load rfl ?_); refine wl_load1 hs rfl rfl Tryd.underlying3 rfl rfl 0 rfl rfl ?_))
  go_ret
  exact ⟨rfl, hs.letgo⟩
theorem rmay_no (n m : Int) (w : World) (h : ¬ (8 ≤ n ∧ n ≤ 4096 ∧ 1 ≤ m ∧ m ≤ 512 ∧ m + 2 ≤ n)) : Calls Tryd.prog 35 #[.agg #[.int .i64 n, .int .i64 m]] w fun e w' => e = .returned (.bool false) ∧ Tr w [] w' [] := by
  have hs := Tr.refl w []
  have H := Lib.hid h
  clear h
  by_cases h1 : 8 ≤ n
  · by_cases h2 : n ≤ 4096
    · by_cases h3 : 1 ≤ m
      · by_cases h4 : m ≤ 512
        · have h6 : n < m + 2 := by have := H.out; omega
          have h5 : decide (m + 2 ≤ n) = false := decide_eq_false (by omega)
          clear h6
          go_enter Tryd.func35, Tryd.ntmps35
          go_wp2_with (first | ((with_reducible refine at_box (t := 23) rfl ?_); refine wl_boxA hs rfl rfl rfl ?_; clear hs; intro w1 xb hs) | ((with_reducible refine at_load rfl ?_); refine wl_load1 hs rfl rfl Tryd.underlying3 rfl rfl 0 rfl rfl ?_))
          go_ret
          exact ⟨rfl, hs.letgo⟩
        · have h5 : 512 < m := by omega
          go_enter Tryd.func35, Tryd.ntmps35
          go_wp2_with (first | ((with_reducible refine at_box (t := 23) rfl ?_); refine wl_boxA hs rfl rfl rfl ?_; clear hs; intro w1 xb hs) | ((with_reducible refine at_load rfl ?_); refine wl_load1 hs rfl rfl Tryd.underlying3 rfl rfl 0 rfl rfl ?_))
          go_ret
          exact ⟨rfl, hs.letgo⟩
      · have h5 : m < 1 := by omega
        go_enter Tryd.func35, Tryd.ntmps35
        go_wp2_with (first | ((with_reducible refine at_box (t := 23) rfl ?_); refine wl_boxA hs rfl rfl rfl ?_; clear hs; intro w1 xb hs) | ((with_reducible refine at_load rfl ?_); refine wl_load1 hs rfl rfl Tryd.underlying3 rfl rfl 0 rfl rfl ?_))
        go_ret
        exact ⟨rfl, hs.letgo⟩
    · have h5 : 4096 < n := by omega
      go_enter Tryd.func35, Tryd.ntmps35
      go_wp2_with (first | ((with_reducible refine at_box (t := 23) rfl ?_); refine wl_boxA hs rfl rfl rfl ?_; clear hs; intro w1 xb hs) | ((with_reducible refine at_load rfl ?_); refine wl_load1 hs rfl rfl Tryd.underlying3 rfl rfl 0 rfl rfl ?_))
      go_ret
      exact ⟨rfl, hs.letgo⟩
  · have h5 : n < 8 := by omega
    go_enter Tryd.func35, Tryd.ntmps35
    go_wp2_with (first | ((with_reducible refine at_box (t := 23) rfl ?_); refine wl_boxA hs rfl rfl rfl ?_; clear hs; intro w1 xb hs) | ((with_reducible refine at_load rfl ?_); refine wl_load1 hs rfl rfl Tryd.underlying3 rfl rfl 0 rfl rfl ?_))
    go_ret
    exact ⟨rfl, hs.letgo⟩


/-- Places are set, one behind the other. -/
def stF (f : Nat → Bool) (G : Nat → Int) : Nat → (Nat → Bool)
  | 0 => f
  | k + 1 => updP (stF f G k) (G k).toNat true
def okF (N frm : Nat) (f : Nat → Bool) (g : Int) : Prop := (frm : Int) ≤ g ∧ g < N ∧ f g.toNat = false
theorem fill_ex (f : Nat → Bool) (N frm : Nat) (G : Nat → Int) (cnt : Nat) : (∀ k, k < cnt → okF N frm (stF f G k) (G k)) ∨ ∃ j, j < cnt ∧ (∀ k, k < j → okF N frm (stF f G k) (G k)) ∧ ¬ okF N frm (stF f G j) (G j) := by
  induction cnt with
  | zero => exact Or.inl fun k hk => by omega
  | succ c ih =>
    rcases ih with ih | ⟨j, hj, h1, h2⟩
    · by_cases h : okF N frm (stF f G c) (G c)
      · refine Or.inl fun k hk => ?_
        rcases Nat.lt_or_ge k c with h3 | h3
        · exact ih k h3
        · obtain rfl : k = c := by omega
          exact h
      · exact Or.inr ⟨c, by omega, ih, h⟩
    · exact Or.inr ⟨j, by omega, h1, h2⟩
theorem stF_far {f : Nat → Bool} {N frm : Nat} {G : Nat → Int} : ∀ {cnt : Nat}, (∀ k, k < cnt → okF N frm (stF f G k) (G k)) → (∀ j, f j = true → frm ≤ j ∧ j < N) → ∀ j, stF f G cnt j = true → frm ≤ j ∧ j < N
  | 0, _, h, j, hj => h j hj
  | c + 1, hok, h, j, hj => by
    simp only [stF, updP] at hj
    by_cases hjg : j = (G c).toNat
    · have := hok c (by omega)
      obtain ⟨h1, h2, _⟩ := this
      omega
    · rw [if_neg hjg] at hj
      exact stF_far (cnt := c) (fun k hk => hok k (by omega)) h j hj
section
variable {d s N : Nat} {f : Nat → Bool} {w : World}
theorem fill_yes (frm cnt cap db doff : Nat) (ao : Option Addr) (G : Nat → Int) (hN : N ≤ 4096) (hc : cnt ≤ 9223372036854775807) (hao : 0 < cnt → ao = some ⟨db, doff, none⟩) (hR : Rd w db doff cnt fun j => .int .i64 (G j)) (hne : 0 < cnt → db ∉ (bitsR d s N f).foot)
    (hok : ∀ k, k < cnt → okF N frm (stF f G k) (G k)) (h : (bitsR d s N f).holds w) :
    Calls Tryd.prog 33 #[.pointer (some ⟨d, 0, none⟩), .int .i64 (frm : Int), .slice ao cnt cap] w fun e w' => e = .returned (.bool true) ∧ Tr w (bitsR d s N f).foot w' [bitsR d s N (stF f G cnt)] := by
  have hs : Tr w (bitsR d s N f).foot w [bitsR d s N f] := (Tr.open2 h).join2
  have HA := Lib.hid hao
  have HR := Lib.hid hR
  have HNE := Lib.hid hne
  have HX := Lib.hid hok
  clear hao hR h hok hne
  go_enter Tryd.func33, Tryd.ntmps33
  go_wp2
  go_loopw [8, 11] (fun _ iv wr => ∃ k : Nat, k ≤ cnt ∧ iv = .int .i64 k ∧ Tr w (bitsR d s N f).foot wr [bitsR d s N (stF f G k)]) (fun _ i _ => cnt - (intOf i).toNat)
  case atStart => exact ⟨0, by omega, rfl, hs⟩
  case round =>
    clear hs
    obtain ⟨k, hk, rfl, hs⟩ := hrel
    by_cases hlt : k < cnt
    · have hltI : (k : Int) < cnt := by omega
      obtain rfl := HA.out (by omega)
      obtain ⟨o1, o2, o3⟩ := HX.out k hlt
      obtain ⟨g, hg⟩ : ∃ g : Nat, G k = (g : Int) := ⟨(G k).toNat, by omega⟩
      have HS : Hid (stF f G (k + 1) = updP (stF f G k) g true) := Lib.hid (by rw [stF, hg, Int.toNat_natCast])
      have HV : Hid (wr.cell? ⟨db, doff + k, none⟩ = some (.int .i64 (g : Int))) := Lib.hid (((HR.out.keepS hs (HNE.out (by omega))) k hlt).trans (by show some (Value.int .i64 (G k)) = _; rw [hg]))
      rw [hg] at o1 o2 o3
      rw [Int.toNat_natCast] at o3
      clear hg
      generalize stF f G k = C at *
      have hgN : g < N := by omega
      have HH := Lib.hid (fun w h => has_yes (d := d) (s := s) (n := N) (f := C) (w := w) g hgN hN h)
      rw [o3] at HH
      clear o3
      have t1 : ¬ (g : Int) < (frm : Int) := by omega
      have t2 : decide (g < frm) = false := decide_eq_false (by omega)
      have t3 : decide ((g : Int) < (frm : Int)) = false := decide_eq_false (by omega)
      go_wp2_with (first
        | ((with_reducible refine (at_load (t := 3)) rfl ?_); refine wl_loadC rfl rfl Tryd.underlying3 rfl rfl (HV.out) ?_)
        | (go_at_call 38; refine (HH.out _ (hs.get 0 rfl)).mono ?_; rintro e w2 ⟨rfl, hc⟩; replace hs := hs.call0 hc; clear hc)
        | (go_at_call 34; refine (set_yes g hgN hN (hs.get 0 rfl)).mono ?_; rintro e w2 ⟨rfl, hc⟩; replace hs := hs.upd 0 rfl hc; clear hc))
      go_roundw
      case rel => exact ⟨k + 1, by omega, by go_num, by rw [HS.out]; exact hs⟩
      case measure => simp [intOf]; omega
    · obtain rfl : k = cnt := by omega
      go_wp2
      go_ret
      exact ⟨rfl, hs⟩
theorem fill_no (frm cnt cap db doff j : Nat) (ao : Option Addr) (G : Nat → Int) (hN : N ≤ 4096) (hc : cnt ≤ 9223372036854775807) (hao : ao = some ⟨db, doff, none⟩) (hR : Rd w db doff cnt fun j => .int .i64 (G j)) (hne : db ∉ (bitsR d s N f).foot)
    (hj : j < cnt) (hok : ∀ k, k < j → okF N frm (stF f G k) (G k)) (hbad : ¬ okF N frm (stF f G j) (G j)) (hG : ∀ k, k < cnt → -9223372036854775808 ≤ G k ∧ G k ≤ 9223372036854775807) (h : (bitsR d s N f).holds w) :
    Calls Tryd.prog 33 #[.pointer (some ⟨d, 0, none⟩), .int .i64 (frm : Int), .slice ao cnt cap] w fun e w' => e = .returned (.bool false) ∧ ∃ f', Tr w (bitsR d s N f).foot w' [bitsR d s N f'] := by
  have hs : Tr w (bitsR d s N f).foot w [bitsR d s N f] := (Tr.open2 h).join2
  subst hao
  have HR := Lib.hid hR
  have HNE := Lib.hid hne
  have HX := Lib.hid hok
  have HBAD := Lib.hid hbad
  have HGG := Lib.hid hG
  clear hR h hok hne hbad hG
  go_enter Tryd.func33, Tryd.ntmps33
  go_wp2
  go_loopw [8, 11] (fun _ iv wr => ∃ k : Nat, k ≤ j ∧ iv = .int .i64 k ∧ Tr w (bitsR d s N f).foot wr [bitsR d s N (stF f G k)]) (fun _ i _ => cnt - (intOf i).toNat)
  case atStart => exact ⟨0, by omega, rfl, hs⟩
  case round =>
    clear hs
    obtain ⟨k, hk, rfl, hs⟩ := hrel
    have hltI : (k : Int) < cnt := by omega
    by_cases hlt : k < j
    · obtain ⟨o1, o2, o3⟩ := HX.out k hlt
      obtain ⟨g, hg⟩ : ∃ g : Nat, G k = (g : Int) := ⟨(G k).toNat, by omega⟩
      have HS : Hid (stF f G (k + 1) = updP (stF f G k) g true) := Lib.hid (by rw [stF, hg, Int.toNat_natCast])
      have HV : Hid (wr.cell? ⟨db, doff + k, none⟩ = some (.int .i64 (g : Int))) := Lib.hid (((HR.out.keepS hs HNE.out) k (by omega)).trans (by show some (Value.int .i64 (G k)) = _; rw [hg]))
      rw [hg] at o1 o2 o3
      rw [Int.toNat_natCast] at o3
      clear hg
      generalize stF f G k = C at *
      have hgN : g < N := by omega
      have HH := Lib.hid (fun w h => has_yes (d := d) (s := s) (n := N) (f := C) (w := w) g hgN hN h)
      rw [o3] at HH
      clear o3
      have t1 : ¬ (g : Int) < (frm : Int) := by omega
      have t2 : decide (g < frm) = false := decide_eq_false (by omega)
      have t3 : decide ((g : Int) < (frm : Int)) = false := decide_eq_false (by omega)
      go_wp2_with (first
        | ((with_reducible refine (at_load (t := 3)) rfl ?_); refine wl_loadC rfl rfl Tryd.underlying3 rfl rfl (HV.out) ?_)
        | (go_at_call 38; refine (HH.out _ (hs.get 0 rfl)).mono ?_; rintro e w2 ⟨rfl, hc⟩; replace hs := hs.call0 hc; clear hc)
        | (go_at_call 34; refine (set_yes g hgN hN (hs.get 0 rfl)).mono ?_; rintro e w2 ⟨rfl, hc⟩; replace hs := hs.upd 0 rfl hc; clear hc))
      go_roundw
      case rel => exact ⟨k + 1, by omega, by go_num, by rw [HS.out]; exact hs⟩
      case measure => simp [intOf]; omega
    · obtain rfl : k = j := by omega
      have HV : Hid (wr.cell? ⟨db, doff + k, none⟩ = some (.int .i64 (G k))) := Lib.hid ((HR.out.keepS hs HNE.out) k hj)
      have hgb := HGG.out k hj
      by_cases g1 : (frm : Int) ≤ G k
      · have t1 : ¬ G k < (frm : Int) := by omega
        by_cases g2 : G k < N
        · obtain ⟨g, hg⟩ : ∃ g : Nat, G k = (g : Int) := ⟨(G k).toNat, by omega⟩
          have hC : stF f G k g = true := by
            cases hb : stF f G k g
            · exact absurd ⟨g1, g2, by rw [hg, Int.toNat_natCast]; exact hb⟩ HBAD.out
            · rfl
          have HH := Lib.hid (fun w h => has_yes (d := d) (s := s) (n := N) (f := stF f G k) (w := w) g (by omega) hN h)
          rw [hC] at HH
          rw [← hg] at HH
          clear hg hC
          generalize G k = x at *
          go_wp2_with (first
            | ((with_reducible refine (at_load (t := 3)) rfl ?_); refine wl_loadC rfl rfl Tryd.underlying3 rfl rfl (HV.out) ?_)
            | (go_at_call 38; refine (HH.out _ (hs.get 0 rfl)).mono ?_; rintro e w2 ⟨rfl, hc⟩; replace hs := hs.call0 hc; clear hc))
          go_ret
          exact ⟨rfl, _, hs⟩
        · have HH := Lib.hid (fun w h => has_no (d := d) (s := s) (n := N) (f := stF f G k) (w := w) (G k) (Or.inr (by omega)) h)
          have HT := Lib.hid (fun w h => set_no (d := d) (s := s) (n := N) (f := stF f G k) (w := w) (G k) (Or.inr (by omega)) h)
          generalize G k = x at *
          go_wp2_with (first
            | ((with_reducible refine (at_load (t := 3)) rfl ?_); refine wl_loadC rfl rfl Tryd.underlying3 rfl rfl (HV.out) ?_)
            | (go_at_call 38; refine (HH.out _ (hs.get 0 rfl)).mono ?_; rintro e w2 ⟨rfl, hc⟩; replace hs := hs.call0 hc; clear hc)
            | (go_at_call 34; refine (HT.out _ (hs.get 0 rfl)).mono ?_; rintro e w2 ⟨rfl, hc⟩; replace hs := hs.call0 hc; clear hc))
          go_ret
          exact ⟨rfl, _, hs⟩
      · have t1 : G k < (frm : Int) := by omega
        generalize G k = x at *
        go_wp2_with (first
          | ((with_reducible refine (at_load (t := 3)) rfl ?_); refine wl_loadC rfl rfl Tryd.underlying3 rfl rfl (HV.out) ?_))
        go_ret
        exact ⟨rfl, _, hs⟩
end
end Go.Proofs.YtfedfdcbhggipaaDoor
