/- The document's rows; contracts for whatever place. -/
import Derived.Test.YtpendlnikdjcjaaDoorD
namespace Go.Proofs.YtpendlnikdjcjaaDoor
set_option linter.unusedVariables false
set_option linter.unusedSimpArgs false
open Go Go.Sp Go.RowKit Go.BigFrame

def errC (n : Nat) (i : Int) : Int := if 0 ≤ i ∧ i < n then 0 else 51
def updI (f : Nat → Bool) (n : Nat) (i : Int) (b : Bool) : Nat → Bool := if 0 ≤ i ∧ i < n then updP f i.toNat b else f
def hasI (f : Nat → Bool) (n : Nat) (i : Int) : Bool := if 0 ≤ i ∧ i < n then f i.toNat else false
theorem errC_in {n : Nat} {k : Nat} (h : k < n) : errC n (k : Int) = 0 := if_pos ⟨by omega, by omega⟩
theorem errC_out {n : Nat} {i : Int} (h : i < 0 ∨ n ≤ i) : errC n i = 51 := if_neg (by omega)
theorem updI_in {f : Nat → Bool} {n : Nat} {k : Nat} {b : Bool} (h : k < n) : updI f n (k : Int) b = updP f k b := if_pos ⟨by omega, by omega⟩
theorem updI_out {f : Nat → Bool} {n : Nat} {i : Int} {b : Bool} (h : i < 0 ∨ n ≤ i) : updI f n i b = f := if_neg (by omega)
theorem hasI_in {f : Nat → Bool} {n : Nat} {k : Nat} (h : k < n) : hasI f n (k : Int) = f k := if_pos ⟨by omega, by omega⟩
theorem hasI_out {f : Nat → Bool} {n : Nat} {i : Int} (h : i < 0 ∨ n ≤ i) : hasI f n i = false := if_neg (by omega)
theorem updI_far {f : Nat → Bool} {n : Nat} {i : Int} {b : Bool} (hz : ∀ j, n ≤ j → f j = false) : ∀ j, n ≤ j → updI f n i b j = false := by
  intro j hj
  by_cases h : 0 ≤ i ∧ i < n
  · rw [updI, if_pos h, updP_off (by omega)]; exact hz j hj
  · rw [updI, if_neg h]; exact hz j hj
theorem in_or_out (n : Nat) (i : Int) : (∃ k : Nat, i = (k : Int) ∧ k < n) ∨ (i < 0 ∨ n ≤ i) := by
  by_cases h : 0 ≤ i ∧ i < n
  · exact Or.inl ⟨i.toNat, by omega, by omega⟩
  · exact Or.inr (by omega)

section
variable {d s n : Nat} {f : Nat → Bool} {w : World}
theorem set_any (i : Int) (hn : n ≤ 4096) (h : (bitsR d s n f).holds w) :
    Calls Tryd.prog 18 #[.pointer (some ⟨d, 0, none⟩), .int .i64 i] w fun e w' => e = .returned (.int .i64 (errC n i)) ∧ Tr w (bitsR d s n f).foot w' [bitsR d s n (updI f n i true)] := by
  rcases in_or_out n i with ⟨k, rfl, hk⟩ | hi
  · rw [errC_in hk, updI_in hk]; exact set_yes k hk hn h
  · rw [errC_out hi, updI_out hi]
    exact (set_no i hi h).mono fun e w' ⟨he, ht⟩ => ⟨he, Tr.idle2 h ht⟩
theorem clear_any (i : Int) (hn : n ≤ 4096) (h : (bitsR d s n f).holds w) :
    Calls Tryd.prog 19 #[.pointer (some ⟨d, 0, none⟩), .int .i64 i] w fun e w' => e = .returned (.int .i64 (errC n i)) ∧ Tr w (bitsR d s n f).foot w' [bitsR d s n (updI f n i false)] := by
  rcases in_or_out n i with ⟨k, rfl, hk⟩ | hi
  · rw [errC_in hk, updI_in hk]; exact clear_yes k hk hn h
  · rw [errC_out hi, updI_out hi]
    exact (clear_no i hi h).mono fun e w' ⟨he, ht⟩ => ⟨he, Tr.idle2 h ht⟩
theorem has_any (i : Int) (hn : n ≤ 4096) (h : (bitsR d s n f).holds w) :
    Calls Tryd.prog 15 #[.pointer (some ⟨d, 0, none⟩), .int .i64 i] w fun e w' => e = .returned (.bool (hasI f n i)) ∧ Tr w [] w' [] := by
  rcases in_or_out n i with ⟨k, rfl, hk⟩ | hi
  · rw [hasI_in hk]; exact has_yes k hk hn h
  · rw [hasI_out hi]; exact has_no i hi h
/-- First's two answers. -/
noncomputable def firstN (f : Nat → Bool) (n : Nat) (frm : Int) : Int := ((if firstP f n frm.toNat < n then firstP f n frm.toNat else 0 : Nat) : Int)
noncomputable def firstB (f : Nat → Bool) (n : Nat) (frm : Int) : Bool := decide (firstP f n frm.toNat < n)
theorem firstV_eq (f : Nat → Bool) (n : Nat) (frm : Int) : firstV f n frm.toNat = .tuple #[.int .i64 (firstN f n frm), .bool (firstB f n frm)] := rfl
theorem first_all (frm : Int) (hf : frm ≤ 9223372036854775807) (hn : n ≤ 4096) (hz : ∀ i, n ≤ i → f i = false) (hR : Rd w 0 0 64 tabV) (h : (bitsR d s n f).holds w) :
    Calls Tryd.prog 12 #[.pointer (some ⟨d, 0, none⟩), .int .i64 frm] w fun e w' => e = .returned (.tuple #[.int .i64 (firstN f n frm), .bool (firstB f n frm)]) ∧ Tr w [] w' [] := by
  rw [← firstV_eq]
  exact first_any frm frm.toNat (by split <;> omega) hn (by omega) hz hR h

theorem rput_yes (i : Nat) (b : Bool) (hi : i < n) (hn : n ≤ 4096) (h : (refR d s n f).holds w) :
    Calls Tryd.prog 27 #[.pointer (some ⟨d, 0, none⟩), .int .i64 (i : Int), .bool b] w fun e w' => e = .returned (.int .i64 0) ∧ Tr w (refR d s n f).foot w' [refR d s n (updP f i b)] := by
  have hs := Tr.open2 h
  have hi2 : (i : Int) < n := by omega
  have HU : Hid (∀ j, j < n → (if j = i then Value.bool b else .bool (f j)) = .bool (updP f i b j)) := Lib.hid fun j _ => by
    simp only [updP]; split <;> rfl
  go_enter Tryd.func27, Tryd.ntmps27
  go_wp2_with (first
    | ((with_reducible refine at_load rfl ?_); refine wl_load1 hs rfl rfl Tryd.underlying40 rfl rfl 0 rfl rfl ?_)
    | ((with_reducible refine at_store rfl ?_); refine wl_store1R hs rfl rfl size4 rfl rfl rfl 1 rfl hi (fun j => .bool (updP f i b j)) HU.out ?_; clear hs; intro w1 hs))
  go_ret
  exact ⟨rfl, hs.join2⟩
theorem rput_no (i : Int) (b : Bool) (hi : i < 0 ∨ n ≤ i) (h : (refR d s n f).holds w) :
    Calls Tryd.prog 27 #[.pointer (some ⟨d, 0, none⟩), .int .i64 i, .bool b] w fun e w' => e = .returned (.int .i64 51) ∧ Tr w [] w' [] := by
  have hs := Tr.open2 h
  by_cases h1 : i < 0
  · go_enter Tryd.func27, Tryd.ntmps27
    go_wp2_with (first | ((with_reducible refine at_load rfl ?_); refine wl_load1 hs rfl rfl Tryd.underlying40 rfl rfl 0 rfl rfl ?_))
    go_ret
    exact ⟨rfl, Tr.same2 h hs⟩
  · have h2 : (n : Int) ≤ i := by omega
    have h3 : 0 ≤ i := by omega
    go_enter Tryd.func27, Tryd.ntmps27
    go_wp2_with (first | ((with_reducible refine at_load rfl ?_); refine wl_load1 hs rfl rfl Tryd.underlying40 rfl rfl 0 rfl rfl ?_))
    go_ret
    exact ⟨rfl, Tr.same2 h hs⟩
theorem rput_any (i : Int) (b : Bool) (hn : n ≤ 4096) (h : (refR d s n f).holds w) :
    Calls Tryd.prog 27 #[.pointer (some ⟨d, 0, none⟩), .int .i64 i, .bool b] w fun e w' => e = .returned (.int .i64 (errC n i)) ∧ Tr w (refR d s n f).foot w' [refR d s n (updI f n i b)] := by
  rcases in_or_out n i with ⟨k, rfl, hk⟩ | hi
  · rw [errC_in hk, updI_in hk]; exact rput_yes k b hk hn h
  · rw [errC_out hi, updI_out hi]
    exact (rput_no i b hi h).mono fun e w' ⟨he, ht⟩ => ⟨he, Tr.idle2 h ht⟩
theorem rset_any (i : Int) (hn : n ≤ 4096) (h : (refR d s n f).holds w) :
    Calls Tryd.prog 20 #[.pointer (some ⟨d, 0, none⟩), .int .i64 i] w fun e w' => e = .returned (.int .i64 (errC n i)) ∧ Tr w (refR d s n f).foot w' [refR d s n (updI f n i true)] := by
  have h0 := Lib.hid h
  clear h
  go_enter Tryd.func20, Tryd.ntmps20
  go_wp2_with (first | (go_at_call 27; refine (rput_any i true hn h0.out).mono ?_; rintro e w2 ⟨rfl, hc⟩))
  go_ret
  exact ⟨rfl, hc⟩
theorem rclear_any (i : Int) (hn : n ≤ 4096) (h : (refR d s n f).holds w) :
    Calls Tryd.prog 21 #[.pointer (some ⟨d, 0, none⟩), .int .i64 i] w fun e w' => e = .returned (.int .i64 (errC n i)) ∧ Tr w (refR d s n f).foot w' [refR d s n (updI f n i false)] := by
  have h0 := Lib.hid h
  clear h
  go_enter Tryd.func21, Tryd.ntmps21
  go_wp2_with (first | (go_at_call 27; refine (rput_any i false hn h0.out).mono ?_; rintro e w2 ⟨rfl, hc⟩))
  go_ret
  exact ⟨rfl, hc⟩
theorem rhas_any (i : Int) (hn : n ≤ 4096) (h : (refR d s n f).holds w) :
    Calls Tryd.prog 22 #[.pointer (some ⟨d, 0, none⟩), .int .i64 i] w fun e w' => e = .returned (.bool (hasI f n i)) ∧ Tr w [] w' [] := by
  have hs := Tr.open2 h
  rcases in_or_out n i with ⟨k, rfl, hk⟩ | hi
  · rw [hasI_in hk]
    have hk2 : (k : Int) < n := by omega
    have HG : Hid ((rowOf n fun i => Value.bool (f i))[k]? = some (.bool (f k))) := Lib.hid (rowOf_get hk)
    go_enter Tryd.func22, Tryd.ntmps22
    go_wp2_with (first | ((with_reducible refine at_load rfl ?_); refine wl_load1 hs rfl rfl Tryd.underlying40 rfl rfl 0 rfl rfl ?_) | ((with_reducible refine at_load rfl ?_); refine wl_load1 hs rfl rfl Tryd.underlying4 rfl rfl 1 rfl HG.out ?_))
    go_ret
    exact ⟨rfl, Tr.same2 h hs⟩
  · rw [hasI_out hi]
    by_cases h1 : i < 0
    · go_enter Tryd.func22, Tryd.ntmps22
      go_wp2_with (first | ((with_reducible refine at_load rfl ?_); refine wl_load1 hs rfl rfl Tryd.underlying40 rfl rfl 0 rfl rfl ?_))
      go_ret
      exact ⟨rfl, Tr.same2 h hs⟩
    · have h2 : (n : Int) ≤ i := by omega
      have h3 : 0 ≤ i := by omega
      go_enter Tryd.func22, Tryd.ntmps22
      go_wp2_with (first | ((with_reducible refine at_load rfl ?_); refine wl_load1 hs rfl rfl Tryd.underlying40 rfl rfl 0 rfl rfl ?_))
      go_ret
      exact ⟨rfl, Tr.same2 h hs⟩
theorem rcount_any (hn : n ≤ 4096) (h : (refR d s n f).holds w) :
    Calls Tryd.prog 24 #[.pointer (some ⟨d, 0, none⟩)] w fun e w' => e = .returned (.int .i64 ((cntP f n : Nat) : Int)) ∧ Tr w [] w' [] := by
  have hs := Tr.open2 h
  have h0 := Lib.hid h
  clear h
  go_enter Tryd.func24, Tryd.ntmps24
  go_wp2
  go_loop [3, 4] (fun c i => ∃ k : Nat, k ≤ n ∧ i = .int .i64 k ∧ c = .int .i64 ((cntP f k : Nat) : Int)) (fun _ i => n - (intOf i).toNat)
  case atStart => exact ⟨0, by omega, rfl, rfl⟩
  case round =>
    obtain ⟨k, hk, rfl, rfl⟩ := hrel
    by_cases hlt : k < n
    · have hltI : (k : Int) < n := by omega
      have hcl := cntP_le f k
      have HC1 : Hid (cntP f (k + 1) = cntP f k + (f k).toNat) := Lib.hid rfl
      obtain ⟨b, hb⟩ : ∃ b, f k = b := ⟨_, rfl⟩
      have HG : Hid ((rowOf n fun i => Value.bool (f i))[k]? = some (.bool b)) := Lib.hid (by rw [rowOf_get hlt, hb])
      rw [hb] at HC1
      clear hb
      cases b
      all_goals
        go_wp2_with (first | ((with_reducible refine at_load rfl ?_); refine wl_load1 hs rfl rfl Tryd.underlying40 rfl rfl 0 rfl rfl ?_) | ((with_reducible refine at_load rfl ?_); refine wl_load1 hs rfl rfl Tryd.underlying4 rfl rfl 1 rfl HG.out ?_))
        go_round
        case rel => exact ⟨k + 1, by omega, by go_num, by rw [HC1.out]; go_num⟩
        case measure => simp [intOf]; omega
    · obtain rfl : k = n := by omega
      go_wp2_with (first | ((with_reducible refine at_load rfl ?_); refine wl_load1 hs rfl rfl Tryd.underlying40 rfl rfl 0 rfl rfl ?_))
      go_ret
      exact ⟨rfl, Tr.same2 h0.out hs⟩
theorem rfirst_all (frm : Int) (hf : frm ≤ 9223372036854775807) (hn : n ≤ 4096) (h : (refR d s n f).holds w) :
    Calls Tryd.prog 23 #[.pointer (some ⟨d, 0, none⟩), .int .i64 frm] w fun e w' => e = .returned (.tuple #[.int .i64 (firstN f n frm), .bool (firstB f n frm)]) ∧ Tr w [] w' [] := by
  have hs := Tr.open2 h
  have h0 := Lib.hid h
  clear h
  have HV := Lib.hid (firstV_eq f n frm)
  obtain ⟨a, ha⟩ : ∃ a, a = frm.toNat := ⟨_, rfl⟩
  have hm : (if frm < 0 then (0 : Int) else frm) = (a : Int) := by rw [ha]; split <;> omega
  rw [← ha] at HV
  have ha2 : a ≤ 9223372036854775807 := by omega
  clear ha
  generalize firstN f n frm = r1 at *
  generalize firstB f n frm = r2 at *
  go_enter Tryd.func23, Tryd.ntmps23
  go_wp2
  clear hm
  go_loop [6] (fun i => ∃ k : Nat, a ≤ k ∧ i = .int .i64 k ∧ ∀ j, a ≤ j → j < k → f j = true) (fun i => n - (intOf i).toNat)
  case atStart => exact ⟨a, Nat.le_refl _, rfl, fun j h1 h2 => by omega⟩
  case round =>
    obtain ⟨k, hk, rfl, hall⟩ := hrel
    have HA := Lib.hid hall
    clear hall
    by_cases hlt : k < n
    · have hltI : (k : Int) < n := by omega
      obtain ⟨b, hb⟩ : ∃ b, f k = b := ⟨_, rfl⟩
      have HG : Hid ((rowOf n fun i => Value.bool (f i))[k]? = some (.bool b)) := Lib.hid (by rw [rowOf_get hlt, hb])
      have HB := Lib.hid hb
      clear hb
      cases b
      · have HW := Lib.hid (firstV_some hk hlt HB.out HA.out)
        go_wp2_with (first | ((with_reducible refine at_load rfl ?_); refine wl_load1 hs rfl rfl Tryd.underlying40 rfl rfl 0 rfl rfl ?_) | ((with_reducible refine at_load rfl ?_); refine wl_load1 hs rfl rfl Tryd.underlying4 rfl rfl 1 rfl HG.out ?_))
        go_ret2
        exact ⟨by rw [← HV.out, ← HW.out]; first | done | go_num | rfl, Tr.same2 h0.out hs⟩
      · go_wp2_with (first | ((with_reducible refine at_load rfl ?_); refine wl_load1 hs rfl rfl Tryd.underlying40 rfl rfl 0 rfl rfl ?_) | ((with_reducible refine at_load rfl ?_); refine wl_load1 hs rfl rfl Tryd.underlying4 rfl rfl 1 rfl HG.out ?_))
        go_round
        case rel => exact ⟨k + 1, by omega, by go_num, fun j h1 h2 => by
          rcases Nat.lt_or_ge j k with h3 | h3
          · exact HA.out j h1 h3
          · obtain rfl : j = k := by omega
            exact HB.out⟩
        case measure => simp [intOf]; omega
    · have hltI : ¬ (k : Int) < n := by omega
      have HW := Lib.hid (firstV_none (f := f) (n := n) (a := a) fun j h1 h2 => HA.out j h1 (by omega))
      go_wp2_with (first | ((with_reducible refine at_load rfl ?_); refine wl_load1 hs rfl rfl Tryd.underlying40 rfl rfl 0 rfl rfl ?_))
      go_ret2
      exact ⟨by rw [← HV.out, ← HW.out]; first | done | go_num | rfl, Tr.same2 h0.out hs⟩
end
end Go.Proofs.YtpendlnikdjcjaaDoor
