/- Spaces: contracts of the program's methods. -/
import Derived.Test.YtfedfdcbhggipaaDoorN
namespace Go.Proofs.YtfedfdcbhggipaaDoor
set_option linter.unusedVariables false
set_option linter.unusedSimpArgs false
open Go Go.Sp Go.RowKit Go.BigFrame

def inD (n m : Nat) (b : Int) : Bool := if (m : Int) < b ∧ b < n then true else false
theorem inD_in {n m k : Nat} (h : m < k) (h2 : k < n) : inD n m (k : Int) = true := if_pos ⟨by omega, by omega⟩
theorem inD_out {n m : Nat} {b : Int} (h : b ≤ m ∨ n ≤ b) : inD n m b = false := if_neg (by omega)
theorem inD_or (n m : Nat) (b : Int) : (∃ k : Nat, b = (k : Int) ∧ m < k ∧ k < n) ∨ (b ≤ m ∨ n ≤ b) := by
  by_cases h : (m : Int) < b ∧ b < n
  · exact Or.inl ⟨b.toNat, by omega, by omega, by omega⟩
  · exact Or.inr (by omega)
theorem inS_nat {N k : Nat} {f : Nat → Bool} (hk : k < N) : inS N f (k : Int) = f k := by
  simp only [inS]; rw [if_pos ⟨by omega, by omega⟩, Int.toNat_natCast]
theorem oneS_one {N k : Nat} {f : Nat → Bool} (hk : k < N) (hf : f k = true) : oneS N f (k : Int) = 1 := by simp [oneS, inS_nat hk, hf]
theorem oneS_zero {N k : Nat} {f : Nat → Bool} (hk : k < N) (hf : f k = false) : oneS N f (k : Int) = 0 := by simp [oneS, inS_nat hk, hf]
def usedI (m : Nat) (I : Nat → Bool) (i : Int) : Bool := if 1 ≤ i ∧ i ≤ m then I i.toNat else false
theorem free_ex (n m : Nat) (B : Nat → Nat) : (∃ r, m < r ∧ r < n ∧ B r = 0 ∧ ∀ j, m < j → j < r → B j ≠ 0) ∨ ∀ j, m < j → j < n → B j ≠ 0 := by
  obtain ⟨r, h1, h2⟩ := first_ex (fB n m B) n 0
  have hall : ∀ j, m < j → j < r → j < n → B j ≠ 0 := fun j hm hj hn => by
    have := h1 j (Nat.zero_le _) hj
    rw [fB_in hn hm] at this
    exact of_decide_eq_true this
  rcases h2 with h2 | ⟨_, h3, h4⟩
  · exact Or.inr fun j hm hj => hall j hm (by omega) hj
  · have hm : m < r := by
      rcases Nat.lt_or_ge m r with h | h
      · exact h
      · rw [fB_low h3 h] at h4; cases h4
    rw [fB_in h3 hm] at h4
    exact Or.inl ⟨r, hm, h3, by simpa using h4, fun j hm hj => hall j hm hj (by omega)⟩
theorem freeI_ex (m : Nat) (I : Nat → Bool) : (∃ r, 1 ≤ r ∧ r ≤ m ∧ I r = false ∧ ∀ j, 1 ≤ j → j < r → I j = true) ∨ ∀ j, 1 ≤ j → j ≤ m → I j = true := by
  obtain ⟨r, h1, h2⟩ := first_ex (fI m I) (m + 1) 0
  have hall : ∀ j, 1 ≤ j → j < r → j ≤ m → I j = true := fun j h0 hj hm => by
    have := h1 j (Nat.zero_le _) hj
    rw [fI_in hm (by omega)] at this
    exact this
  rcases h2 with h2 | ⟨_, h3, h4⟩
  · exact Or.inr fun j h0 hj => hall j h0 (by omega) hj
  · have h0 : r ≠ 0 := fun h => by subst h; rw [fI_zero] at h4; cases h4
    rw [fI_in (by omega) h0] at h4
    exact Or.inl ⟨r, by omega, by omega, h4, fun j h hj => hall j h hj (by omega)⟩

section
variable {p b bs i is q n m : Nat} {B : Nat → Nat} {I : Nat → Bool} {w : World}
theorem sp_p (h : (spaceR p b bs i is q n m B I).holds w) : (Res.blk p #[.int .i64 n, .int .i64 m, .pointer (some ⟨b, 0, none⟩), .map (some q), .pointer (some ⟨i, 0, none⟩)] 71).holds w := (holds_both h).1
theorem sp_b (h : (spaceR p b bs i is q n m B I).holds w) : (bitsR b bs n (fB n m B)).holds w := (holds_both (holds_both h).2).1
theorem sp_i (h : (spaceR p b bs i is q n m B I).holds w) : (bitsR i is (m + 1) (fI m I)).holds w := (holds_both (holds_both (holds_both h).2).2).1
theorem sp_q (h : (spaceR p b bs i is q n m B I).holds w) : (Res.iset q n (fL n m B)).holds w := (holds_both (holds_both (holds_both h).2).2).2

theorem data_any (x : Int) (h : (spaceR p b bs i is q n m B I).holds w) :
    Calls Tryd.prog 43 #[.pointer (some ⟨p, 0, none⟩), .int .i64 x] w fun e w' => e = .returned (.bool (inD n m x)) ∧ Tr w [] w' [] := by
  have hs := Tr.refl w []
  have HP := Lib.hid (sp_p h)
  clear h
  by_cases h1 : (m : Int) < x
  · by_cases h2 : x < n
    · rw [inD, if_pos ⟨h1, h2⟩]
      go_enter Tryd.func43, Tryd.ntmps43
      go_wp2_with (first | ((with_reducible refine (at_load (t := 3)) rfl ?_); refine wl_loadC rfl rfl Tryd.underlying3 rfl rfl (Res.cellAt HP.out hs rfl) ?_))
      go_ret
      exact ⟨rfl, hs⟩
    · rw [inD, if_neg (by omega)]
      go_enter Tryd.func43, Tryd.ntmps43
      go_wp2_with (first | ((with_reducible refine (at_load (t := 3)) rfl ?_); refine wl_loadC rfl rfl Tryd.underlying3 rfl rfl (Res.cellAt HP.out hs rfl) ?_))
      go_ret
      exact ⟨rfl, hs⟩
  · rw [inD, if_neg (by omega)]
    have h3 : x ≤ m := by omega
    go_enter Tryd.func43, Tryd.ntmps43
    go_wp2_with (first | ((with_reducible refine (at_load (t := 3)) rfl ?_); refine wl_loadC rfl rfl Tryd.underlying3 rfl rfl (Res.cellAt HP.out hs rfl) ?_))
    go_ret
    exact ⟨rfl, hs⟩
theorem used_any (x : Int) (hm : m ≤ 512) (h : (spaceR p b bs i is q n m B I).holds w) :
    Calls Tryd.prog 15 #[.pointer (some ⟨p, 0, none⟩), .int .i64 x] w fun e w' => e = .returned (.bool (usedI m I x)) ∧ Tr w [] w' [] := by
  have hs := Tr.refl w []
  have HP := Lib.hid (sp_p h)
  have HI := Lib.hid (sp_i h)
  clear h
  by_cases h1 : 0 < x
  · have e : usedI m I x = hasI (fI m I) (m + 1) x := by
      simp only [usedI, hasI]
      by_cases h2 : x ≤ m
      · rw [if_pos ⟨by omega, h2⟩, if_pos ⟨by omega, by omega⟩, fI_in (by omega) (by omega)]
      · rw [if_neg (by omega), if_neg (by omega)]
    rw [e]
    clear e
    have HH := Lib.hid (fun w h => has_any (d := i) (s := is) (n := m + 1) (f := fI m I) (w := w) x (by omega) h)
    generalize hasI (fI m I) (m + 1) x = z at *
    go_enter Tryd.func15, Tryd.ntmps15
    go_wp2_with (first | ((with_reducible refine (at_load (t := 61)) rfl ?_); refine wl_loadC rfl rfl Tryd.underlying61 rfl rfl (Res.cellAt HP.out hs rfl) ?_) | (go_at_call 38; refine (HH.out _ (Res.keep HI.out hs)).mono ?_; rintro e w2 ⟨rfl, hc⟩; replace hs := hs.call0 hc; clear hc))
    go_ret
    exact ⟨rfl, hs⟩
  · rw [usedI, if_neg (by omega)]
    have h3 : x ≤ 0 := by omega
    go_enter Tryd.func15, Tryd.ntmps15
    go_wp2_with (first | ((with_reducible refine (at_load (t := 61)) rfl ?_); refine wl_loadC rfl rfl Tryd.underlying61 rfl rfl (Res.cellAt HP.out hs rfl) ?_))
    go_ret
    exact ⟨rfl, hs⟩
theorem take_no (hn : n ≤ 4096) (hall : ∀ j, m < j → j < n → B j ≠ 0) (hR : Rd w 0 0 64 tabV) (h : (spaceR p b bs i is q n m B I).holds w) :
    Calls Tryd.prog 19 #[.pointer (some ⟨p, 0, none⟩)] w fun e w' => e = .returned (.tuple #[.int .i64 0, .int .i64 80]) ∧ Tr w [] w' [] := by
  have hs := Tr.refl w []
  have HP := Lib.hid (sp_p h)
  have HB := Lib.hid (sp_b h)
  have HR := Lib.hid hR
  have HF := Lib.hid (fun w hR h => first_any (d := b) (s := bs) (n := n) (f := fB n m B) (w := w) 0 0 rfl hn (by omega) fB_far hR h)
  rw [← firstV_none fun j _ hj => by
    rcases Nat.lt_or_ge m j with hm | hm
    · rw [fB_in hj hm]; simpa using hall j hm hj
    · exact fB_low hj hm] at HF
  clear h hall hR
  go_enter Tryd.func19, Tryd.ntmps19
  go_wp2_with (first | ((with_reducible refine (at_load (t := 61)) rfl ?_); refine wl_loadC rfl rfl Tryd.underlying61 rfl rfl (Res.cellAt HP.out hs rfl) ?_) | (go_at_call 41; refine (HF.out _ (HR.out.keep hs) (Res.keep HB.out hs)).mono ?_; rintro e w2 ⟨rfl, hc⟩; replace hs := hs.call0 hc; clear hc))
  go_ret2
  exact ⟨rfl, hs⟩
theorem take_yes (r : Nat) (hn : n ≤ 4096) (hm : m < r) (hr : r < n) (h0 : B r = 0) (hall : ∀ j, m < j → j < r → B j ≠ 0) (hR : Rd w 0 0 64 tabV) (h : (spaceR p b bs i is q n m B I).holds w) :
    Calls Tryd.prog 19 #[.pointer (some ⟨p, 0, none⟩)] w fun e w' => e = .returned (.tuple #[.int .i64 (r : Int), .int .i64 0]) ∧ Tr w (spaceR p b bs i is q n m B I).foot w' [spaceR p b bs i is q n m (setB B r 1) I] := by
  have hs := Tr.open4 h
  have HR := Lib.hid hR
  have HF := Lib.hid (fun w hR h => first_any (d := b) (s := bs) (n := n) (f := fB n m B) (w := w) 0 0 rfl hn (by omega) fB_far hR h)
  rw [← firstV_some (Nat.zero_le _) hr (by rw [fB_in hr hm]; simpa using h0) fun j _ hj => by
    rcases Nat.lt_or_ge m j with hm | hm
    · rw [fB_in (by omega) hm]; simpa using hall j hm hj
    · exact fB_low (by omega) hm] at HF
  have e1 := fB_set (n := n) (m := m) (B := B) hr (v := 1) (by omega)
  have e2 : fL n m (setB B r 1) = fL n m B := fL_same (by omega) (by omega)
  have HE1 := Lib.hid e1
  have HE2 := Lib.hid e2
  clear h hall hR e1 e2 h0
  go_enter Tryd.func19, Tryd.ntmps19
  go_wp2_with (first | ((with_reducible refine at_load rfl ?_); refine wl_load1 hs rfl rfl Tryd.underlying61 rfl rfl 0 rfl rfl ?_) | (go_at_call 41; refine (HF.out _ HR.out (hs.get 1 rfl)).mono ?_; rintro e w2 ⟨rfl, hc⟩; replace hs := hs.call0 hc; clear hc) | (go_at_call 34; refine (set_yes r hr hn (hs.get 1 rfl)).mono ?_; rintro e w2 ⟨rfl, hc⟩; replace hs := hs.upd 1 rfl hc; clear hc))
  go_ret2
  refine ⟨rfl, ?_⟩
  have hs2 : Tr w _ _ [_, bitsR b bs n (updP (fB n m B) r true), _, _] := hs
  rw [HE1.out] at hs2
  show Tr w _ _ [Res.both _ (Res.both (bitsR b bs n (fB n m (setB B r 1))) (Res.both _ (Res.iset q n (fL n m (setB B r 1)))))]
  rw [HE2.out]
  exact Tr.join4 hs2
theorem takei_no (hm : m ≤ 512) (hall : ∀ j, 1 ≤ j → j ≤ m → I j = true) (hR : Rd w 0 0 64 tabV) (h : (spaceR p b bs i is q n m B I).holds w) :
    Calls Tryd.prog 23 #[.pointer (some ⟨p, 0, none⟩)] w fun e w' => e = .returned (.tuple #[.int .i64 0, .int .i64 81]) ∧ Tr w [] w' [] := by
  have hs := Tr.refl w []
  have HP := Lib.hid (sp_p h)
  have HI := Lib.hid (sp_i h)
  have HR := Lib.hid hR
  have HF := Lib.hid (fun w hR h => first_any (d := i) (s := is) (n := m + 1) (f := fI m I) (w := w) 0 0 rfl (by omega) (by omega) fI_far hR h)
  rw [← firstV_none fun j _ hj => by
    rcases Nat.eq_zero_or_pos j with h0 | h0
    · subst h0; exact fI_zero
    · rw [fI_in (by omega) (by omega)]; exact hall j h0 (by omega)] at HF
  clear h hall hR
  go_enter Tryd.func23, Tryd.ntmps23
  go_wp2_with (first | ((with_reducible refine (at_load (t := 61)) rfl ?_); refine wl_loadC rfl rfl Tryd.underlying61 rfl rfl (Res.cellAt HP.out hs rfl) ?_) | (go_at_call 41; refine (HF.out _ (HR.out.keep hs) (Res.keep HI.out hs)).mono ?_; rintro e w2 ⟨rfl, hc⟩; replace hs := hs.call0 hc; clear hc))
  go_ret2
  exact ⟨rfl, hs⟩
theorem takei_yes (r : Nat) (hm : m ≤ 512) (h1 : 1 ≤ r) (hr : r ≤ m) (h0 : I r = false) (hall : ∀ j, 1 ≤ j → j < r → I j = true) (hR : Rd w 0 0 64 tabV) (h : (spaceR p b bs i is q n m B I).holds w) :
    Calls Tryd.prog 23 #[.pointer (some ⟨p, 0, none⟩)] w fun e w' => e = .returned (.tuple #[.int .i64 (r : Int), .int .i64 0]) ∧ Tr w (spaceR p b bs i is q n m B I).foot w' [spaceR p b bs i is q n m B (updP I r true)] := by
  have hs := Tr.open4 h
  have HR := Lib.hid hR
  have HF := Lib.hid (fun w hR h => first_any (d := i) (s := is) (n := m + 1) (f := fI m I) (w := w) 0 0 rfl (by omega) (by omega) fI_far hR h)
  rw [← firstV_some (Nat.zero_le _) (show r < m + 1 by omega) (by rw [fI_in hr (by omega)]; exact h0) fun j _ hj => by
    rcases Nat.eq_zero_or_pos j with h0 | h0
    · subst h0; exact fI_zero
    · rw [fI_in (by omega) (by omega)]; exact hall j h0 hj] at HF
  have HE := Lib.hid (fI_upd (I := I) hr (by omega) true)
  clear h hall hR h0
  go_enter Tryd.func23, Tryd.ntmps23
  go_wp2_with (first | ((with_reducible refine at_load rfl ?_); refine wl_load1 hs rfl rfl Tryd.underlying61 rfl rfl 0 rfl rfl ?_) | (go_at_call 41; refine (HF.out _ HR.out (hs.get 2 rfl)).mono ?_; rintro e w2 ⟨rfl, hc⟩; replace hs := hs.call0 hc; clear hc) | (go_at_call 34; refine (set_yes r (by omega) (by omega) (hs.get 2 rfl)).mono ?_; rintro e w2 ⟨rfl, hc⟩; replace hs := hs.upd 2 rfl hc; clear hc))
  go_ret2
  refine ⟨rfl, ?_⟩
  have hs2 : Tr w _ _ [_, _, bitsR i is (m + 1) (updP (fI m I) r true), _] := hs
  rw [HE.out] at hs2
  exact Tr.join4 hs2
theorem freei_yes (k : Nat) (hm : m ≤ 512) (h2 : 2 ≤ k) (hk : k ≤ m) (hI : I k = true) (h : (spaceR p b bs i is q n m B I).holds w) :
    Calls Tryd.prog 24 #[.pointer (some ⟨p, 0, none⟩), .int .i64 (k : Int)] w fun e w' => e = .returned (.int .i64 0) ∧ Tr w (spaceR p b bs i is q n m B I).foot w' [spaceR p b bs i is q n m B (updP I k false)] := by
  have hs := Tr.open4 h
  have HH := Lib.hid (fun w h => has_yes (d := i) (s := is) (n := m + 1) (f := fI m I) (w := w) k (by omega) (by omega) h)
  rw [fI_in hk (by omega), hI] at HH
  have HE := Lib.hid (fI_upd (I := I) hk (by omega) false)
  have h3 : ¬ (k : Int) ≤ 1 := by omega
  clear h hI
  go_enter Tryd.func24, Tryd.ntmps24
  go_wp2_with (first | ((with_reducible refine at_load rfl ?_); refine wl_load1 hs rfl rfl Tryd.underlying61 rfl rfl 0 rfl rfl ?_) | (go_at_call 38; refine (HH.out _ (hs.get 2 rfl)).mono ?_; rintro e w2 ⟨rfl, hc⟩; replace hs := hs.call0 hc; clear hc) | (go_at_call 42; refine (clear_yes k (by omega) (by omega) (hs.get 2 rfl)).mono ?_; rintro e w2 ⟨rfl, hc⟩; replace hs := hs.upd 2 rfl hc; clear hc))
  go_ret
  refine ⟨rfl, ?_⟩
  have hs2 : Tr w _ _ [_, _, bitsR i is (m + 1) (updP (fI m I) k false), _] := hs
  rw [HE.out] at hs2
  exact Tr.join4 hs2
theorem freei_no (x : Int) (hm : m ≤ 512) (hx : x ≤ 1 ∨ usedI m I x = false) (h : (spaceR p b bs i is q n m B I).holds w) :
    Calls Tryd.prog 24 #[.pointer (some ⟨p, 0, none⟩), .int .i64 x] w fun e w' => e = .returned (.int .i64 82) ∧ Tr w [] w' [] := by
  have hs := Tr.refl w []
  have HP := Lib.hid (sp_p h)
  have HI := Lib.hid (sp_i h)
  clear h
  by_cases h1 : x ≤ 1
  · clear hx
    go_enter Tryd.func24, Tryd.ntmps24
    go_wp2
    go_ret
    exact ⟨rfl, hs⟩
  · have HH := Lib.hid (fun w h => has_any (d := i) (s := is) (n := m + 1) (f := fI m I) (w := w) x (by omega) h)
    rw [show hasI (fI m I) (m + 1) x = false by
      rcases hx with hx | hx
      · omega
      · simp only [usedI] at hx
        simp only [hasI]
        by_cases h2 : x ≤ m
        · rw [if_pos ⟨by omega, h2⟩] at hx
          rw [if_pos ⟨by omega, by omega⟩, fI_in (by omega) (by omega)]; exact hx
        · rw [if_neg (by omega)]] at HH
    clear hx
    go_enter Tryd.func24, Tryd.ntmps24
    go_wp2_with (first | ((with_reducible refine (at_load (t := 61)) rfl ?_); refine wl_loadC rfl rfl Tryd.underlying61 rfl rfl (Res.cellAt HP.out hs rfl) ?_) | (go_at_call 38; refine (HH.out _ (Res.keep HI.out hs)).mono ?_; rintro e w2 ⟨rfl, hc⟩; replace hs := hs.call0 hc; clear hc))
    go_ret
    exact ⟨rfl, hs⟩
theorem later_yes (k : Nat) (hn : n ≤ 4096) (hm : m < k) (hk : k < n) (hB : B k = 1) (h : (spaceR p b bs i is q n m B I).holds w) :
    Calls Tryd.prog 25 #[.pointer (some ⟨p, 0, none⟩), .int .i64 (k : Int)] w fun e w' => e = .returned (.int .i64 0) ∧ Tr w (spaceR p b bs i is q n m B I).foot w' [spaceR p b bs i is q n m (setB B k 2) I] := by
  have hs := Tr.open4 h
  have HD := Lib.hid (fun w h => data_any (p := p) (b := b) (bs := bs) (i := i) (is := is) (q := q) (n := n) (m := m) (B := B) (I := I) (w := w) (k : Int) h)
  rw [inD_in hm hk] at HD
  have HH := Lib.hid (fun w h => has_yes (d := b) (s := bs) (n := n) (f := fB n m B) (w := w) k hk hn h)
  rw [show fB n m B k = true by rw [fB_in hk hm, hB]; rfl] at HH
  have HO : Hid (oneS n (fL n m B) (k : Int) = 0) := Lib.hid (oneS_zero hk (by rw [fL_in hk hm, hB]; rfl))
  have HF : Hid (fL n m B k = false) := Lib.hid (by rw [fL_in hk hm, hB]; rfl)
  have HE1 := Lib.hid (fL_set (B := B) hk hm)
  have HE2 := Lib.hid (fB_same (n := n) (m := m) (B := B) (k := k) (v := 2) (by omega) (by omega))
  have H0 := Lib.hid h
  clear h hB
  go_enter Tryd.func25, Tryd.ntmps25
  go_wp2_with (first
    | (go_at_call 43; refine (HD.out _ H0.out).mono ?_; rintro e w2 ⟨rfl, hc⟩; replace hs := hs.call0 hc; clear hc)
    | ((with_reducible refine at_load rfl ?_); refine wl_load1 hs rfl rfl Tryd.underlying61 rfl rfl 0 rfl rfl ?_)
    | ((with_reducible refine at_load rfl ?_); refine wl_load1 hs rfl rfl Tryd.underlying65 rfl rfl 0 rfl rfl ?_)
    | (go_at_call 38; refine (HH.out _ (hs.get 1 rfl)).mono ?_; rintro e w2 ⟨rfl, hc⟩; replace hs := hs.call0 hc; clear hc)
    | ((with_reducible refine at_lookupM rfl ?_); refine wl_lookupM hs rfl rfl rfl rfl (by omega) 3 rfl 0 HO.out ?_)
    | ((with_reducible refine at_updateM rfl ?_); refine wl_updateM hs rfl rfl rfl rfl rfl 3 rfl hn hk HF.out ?_; clear hs; intro w1 hs))
  go_ret
  refine ⟨rfl, ?_⟩
  have hs2 : Tr w _ _ [_, _, _, Res.iset q n (updP (fL n m B) k true)] := hs
  rw [HE1.out] at hs2
  show Tr w _ _ [Res.both _ (Res.both (bitsR b bs n (fB n m (setB B k 2))) (Res.both _ (Res.iset q n (fL n m (setB B k 2)))))]
  rw [HE2.out]
  exact Tr.join4 hs2
theorem later_no (x : Int) (hn : n ≤ 4096) (hB : ∀ j, B j ≤ 2) (hx : inD n m x = false ∨ B x.toNat ≠ 1) (hx2 : -9223372036854775808 ≤ x ∧ x ≤ 9223372036854775807) (h : (spaceR p b bs i is q n m B I).holds w) :
    Calls Tryd.prog 25 #[.pointer (some ⟨p, 0, none⟩), .int .i64 x] w fun e w' => e = .returned (.int .i64 82) ∧ Tr w [] w' [] := by
  have hs := Tr.refl w []
  have HP := Lib.hid (sp_p h)
  have HB := Lib.hid (sp_b h)
  have HQ := Lib.hid (sp_q h)
  have HD := Lib.hid (fun w h => data_any (p := p) (b := b) (bs := bs) (i := i) (is := is) (q := q) (n := n) (m := m) (B := B) (I := I) (w := w) x h)
  have H0 := Lib.hid h
  clear h
  rcases inD_or n m x with ⟨k, rfl, hm, hk⟩ | ho
  · rw [inD_in hm hk] at HD hx
    have hx1 : B k ≠ 1 := by
      rcases hx with hx | hx
      · cases hx
      · simpa using hx
    have hb2 := hB k
    have HH := Lib.hid (fun w h => has_yes (d := b) (s := bs) (n := n) (f := fB n m B) (w := w) k hk hn h)
    clear hx hB
    rcases (by omega : B k = 0 ∨ B k = 2) with e | e
    · rw [show fB n m B k = false by rw [fB_in hk hm, e]; rfl] at HH
      clear e hx1 hb2
      go_enter Tryd.func25, Tryd.ntmps25
      go_wp2_with (first
        | (go_at_call 43; refine (HD.out _ (Res.keep H0.out hs)).mono ?_; rintro e w2 ⟨rfl, hc⟩; replace hs := hs.call0 hc; clear hc)
        | ((with_reducible refine (at_load (t := 61)) rfl ?_); refine wl_loadC rfl rfl Tryd.underlying61 rfl rfl (Res.cellAt HP.out hs rfl) ?_)
        | (go_at_call 38; refine (HH.out _ (Res.keep HB.out hs)).mono ?_; rintro e w2 ⟨rfl, hc⟩; replace hs := hs.call0 hc; clear hc))
      go_ret
      exact ⟨rfl, hs⟩
    · rw [show fB n m B k = true by rw [fB_in hk hm, e]; rfl] at HH
      have HO : Hid (oneS n (fL n m B) (k : Int) = 1) := Lib.hid (oneS_one hk (by rw [fL_in hk hm, e]; rfl))
      clear e hx1 hb2
      go_enter Tryd.func25, Tryd.ntmps25
      go_wp2_with (first
        | (go_at_call 43; refine (HD.out _ (Res.keep H0.out hs)).mono ?_; rintro e w2 ⟨rfl, hc⟩; replace hs := hs.call0 hc; clear hc)
        | ((with_reducible refine (at_load (t := 61)) rfl ?_); refine wl_loadC rfl rfl Tryd.underlying61 rfl rfl (Res.cellAt HP.out hs rfl) ?_)
        | ((with_reducible refine (at_load (t := 65)) rfl ?_); refine wl_loadC rfl rfl Tryd.underlying65 rfl rfl (Res.cellAt HP.out hs rfl) ?_)
        | (go_at_call 38; refine (HH.out _ (Res.keep HB.out hs)).mono ?_; rintro e w2 ⟨rfl, hc⟩; replace hs := hs.call0 hc; clear hc)
        | ((with_reducible refine at_lookupM rfl ?_); refine wl_lookupH (Res.keep HQ.out hs) rfl rfl rfl rfl (by omega) 1 HO.out ?_))
      go_ret
      exact ⟨rfl, hs⟩
  · rw [inD_out ho] at HD
    clear hx hB
    go_enter Tryd.func25, Tryd.ntmps25
    go_wp2_with (first
      | (go_at_call 43; refine (HD.out _ (Res.keep H0.out hs)).mono ?_; rintro e w2 ⟨rfl, hc⟩; replace hs := hs.call0 hc; clear hc))
    go_ret
    exact ⟨rfl, hs⟩
end
end Go.Proofs.YtfedfdcbhggipaaDoor
