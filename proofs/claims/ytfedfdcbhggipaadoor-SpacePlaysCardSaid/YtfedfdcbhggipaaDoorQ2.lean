/- Spaces: New. -/
import Derived.Test.YtfedfdcbhggipaaDoorQ
import Derived.Test.YtfedfdcbhggipaaDoorOpen4
namespace Go.Proofs.YtfedfdcbhggipaaDoor
set_option linter.unusedVariables false
set_option linter.unusedSimpArgs false
open Go Go.Sp Go.RowKit Go.BigFrame

theorem fresh_foot {w w' : World} {L : List Res} {r : Res} (hs : Tr w [] w' L) (i : Nat) (hi : L[i]? = some r) {b : Nat} (hb : b < w.heap.size) : b ∉ r.foot := fun h => by
  have := hs.mine b (List.mem_flatMap.2 ⟨r, List.mem_of_getElem? hi, h⟩)
  rcases this with h1 | h1
  · cases h1
  · omega
theorem Ints.lt {w : World} {c : Value} {ao : Option Addr} {n cap db doff : Nat} {G : Nat → Int} (h : Ints w c ao n cap db doff G) (hn : 0 < n) : db < w.heap.size := World.block_lt_of_cell? w ⟨db, doff + 0, none⟩ (h.rd 0 hn)
/-- What New makes of two lists. -/
def sI (G : Nat → Int) (N : Nat) : Nat → Bool := stF (fun _ => false) G N
def newB (G : Nat → Int) (N : Nat) : Nat → Nat := fun k => (stF (fun _ => false) G N k).toNat
def newI (G : Nat → Int) (N : Nat) : Nat → Bool := updP (stF (fun _ => false) G N) 1 true
theorem newB_two (G : Nat → Int) (N : Nat) : ∀ j, newB G N j ≤ 2 := fun j => by
  have := Bool.toNat_le (stF (fun _ => false) G N j)
  simp only [newB]; omega
theorem new_key {n m j : Nat} (hm : m < n) (z : Bool) (hf : z = true → m + 1 ≤ j ∧ j < n) : (z || decide (j < m + 1)) = (decide (j < n) && (decide (j ≤ m) || decide (z.toNat ≠ 0))) := by
  by_cases h1 : j < n
  · rw [decide_eq_true h1, Bool.true_and]
    by_cases h2 : j ≤ m
    · rw [decide_eq_true h2, decide_eq_true (show j < m + 1 by omega)]; simp
    · rw [decide_eq_false h2, decide_eq_false (show ¬ j < m + 1 by omega)]
      cases z <;> simp
  · rw [decide_eq_false h1, Bool.false_and, decide_eq_false (show ¬ j < m + 1 by omega)]
    cases z
    · rfl
    · have := hf rfl; omega
theorem new_fB {n m N : Nat} {G : Nat → Int} (hm : m < n) (hok : ∀ k, k < N → okF n (m + 1) (stF (fun _ => false) G k) (G k)) :
    (fun j => stF (fun _ => false) G N j || decide (j < m + 1)) = fB n m (newB G N) := by
  funext j
  exact new_key hm _ (stF_far (N := n) (frm := m + 1) (cnt := N) hok (fun j hj => by cases hj) j)
theorem new_fL (n m N : Nat) (G : Nat → Int) : fL n m (newB G N) = fun _ => false := by
  funext j
  have h : newB G N j ≤ 1 := Bool.toNat_le _
  simp only [fL]
  rw [decide_eq_false (p := newB G N j = 2) (by omega)]
  simp
theorem new_fI {m N : Nat} {G : Nat → Int} (hm : 1 ≤ m) (hok : ∀ k, k < N → okF (m + 1) 1 (stF (fun _ => false) G k) (G k)) :
    updP (updP (stF (fun _ => false) G N) 0 true) 1 true = fI m (newI G N) := by
  funext j
  have hf := stF_far (N := m + 1) (frm := 1) (cnt := N) hok (fun j hj => by cases hj) j
  simp only [newI, fI, updP]
  generalize stF (fun _ => false) G N j = z at *
  by_cases h1 : j = 1
  · subst h1; simp; omega
  · rw [if_neg h1, if_neg h1]
    by_cases h0 : j = 0
    · subst h0; simp
    · rw [if_neg h0, decide_eq_false h0, Bool.false_or]
      by_cases h2 : j ≤ m
      · rw [decide_eq_true h2, Bool.true_and]
      · rw [decide_eq_false h2, Bool.false_and]
        cases z
        · rfl
        · have := hf rfl; omega
theorem upto_step (g : Nat → Bool) (k : Nat) : updP (fun j => g j || decide (j < k)) k true = fun j => g j || decide (j < k + 1) := by
  funext j
  simp only [updP]
  by_cases h : j = k
  · subst h; simp
  · rw [if_neg h]
    congr 1
    by_cases h2 : j < k
    · rw [decide_eq_true h2, decide_eq_true (show j < k + 1 by omega)]
    · rw [decide_eq_false h2, decide_eq_false (show ¬ j < k + 1 by omega)]
theorem upto_none (g : Nat → Bool) : (fun j => g j || decide (j < 0)) = g := by funext j; simp

section
variable {n m N1 N2 c1 c2 db1 do1 db2 do2 : Nat} {ao1 ao2 : Option Addr} {G1 G2 : Nat → Int} {w : World}
theorem snew_bad (n m : Int) (v1 v2 : Value) (h : ¬ (8 ≤ n ∧ n ≤ 4096 ∧ 1 ≤ m ∧ m ≤ 512 ∧ m + 2 ≤ n)) :
    Calls Tryd.prog 11 #[.agg #[.int .i64 n, .int .i64 m], v1, v2] w fun e w' => e = .returned (.tuple #[.pointer none, .int .i64 1]) ∧ Tr w [] w' [] := by
  have hs := Tr.refl w []
  have HM := Lib.hid (fun w => may_no n m w h)
  clear h
  go_enter Tryd.func11, Tryd.ntmps11
  go_wp2_with (first
    | ((with_reducible refine at_box (t := 23) rfl ?_); refine wl_boxA hs rfl rfl rfl ?_; clear hs; intro w1 xb hs)
    | ((with_reducible refine (at_load (t := 23)) rfl ?_); refine wl_loadA hs rfl rfl Tryd.underlying23 rfl rfl 0 rfl size23 ?_)
    | (go_at_call 31; refine (HM.out _).mono ?_; rintro e w2 ⟨rfl, hc⟩; replace hs := hs.call0 hc; clear hc))
  go_ret2
  exact ⟨rfl, hs.letgo⟩
set_option maxHeartbeats 2000000 in
theorem snew_no (hmay : 8 ≤ n ∧ n ≤ 4096 ∧ 1 ≤ m ∧ m ≤ 512 ∧ m + 2 ≤ n) (g1 : Ints w (.slice ao1 N1 c1) ao1 N1 c1 db1 do1 G1) (g2 : Ints w (.slice ao2 N2 c2) ao2 N2 c2 db2 do2 G2)
    (hbad : (∃ j, j < N1 ∧ (∀ k, k < j → okF (m + 1) 1 (stF (fun _ => false) G1 k) (G1 k)) ∧ ¬ okF (m + 1) 1 (stF (fun _ => false) G1 j) (G1 j)) ∨
      ((∀ k, k < N1 → okF (m + 1) 1 (stF (fun _ => false) G1 k) (G1 k)) ∧ ∃ j, j < N2 ∧ (∀ k, k < j → okF n (m + 1) (stF (fun _ => false) G2 k) (G2 k)) ∧ ¬ okF n (m + 1) (stF (fun _ => false) G2 j) (G2 j))) :
    Calls Tryd.prog 11 #[.agg #[.int .i64 n, .int .i64 m], .slice ao1 N1 c1, .slice ao2 N2 c2] w fun e w' => e = .returned (.tuple #[.pointer none, .int .i64 82]) ∧ Tr w [] w' [] := by
  have hs := Tr.refl w []
  have HM := Lib.hid (fun w => may_yes n m w hmay)
  have I1 := Lib.hid g1
  have I2 := Lib.hid g2
  have hl1 := g1.le
  have hm1 := g1.max
  have hl2 := g2.le
  have hm2 := g2.max
  unfold maxLen at hm1 hm2
  have HBAD := Lib.hid hbad
  obtain ⟨h1, h2, h3, h4, h5⟩ := hmay
  clear g1 g2 hbad
  go_enter Tryd.func11, Tryd.ntmps11
  go_upto_region 5 with (first
    | ((with_reducible refine at_box (t := 23) rfl ?_); refine wl_boxA hs rfl rfl rfl ?_; clear hs; intro w1 xb hs)
    | ((with_reducible refine (at_load (t := 23)) rfl ?_); refine wl_loadA hs rfl rfl Tryd.underlying23 rfl rfl 0 rfl size23 ?_)
    | (go_at_call 31; refine (HM.out _).mono ?_; rintro e w2 ⟨rfl, hc⟩; replace hs := hs.call0 hc; clear hc)
    | ((with_reducible refine at_load rfl ?_); refine wl_load1 hs rfl rfl Tryd.underlying3 rfl rfl 0 rfl rfl ?_)
    | ((with_reducible refine at_load rfl ?_); refine wl_load1 hs rfl rfl Tryd.underlying3 rfl rfl 1 rfl rfl ?_)
    | (go_at_call_of 32 (Value.int .i64 (n : Int)); refine (new_ok n _ h2).mono ?_; rintro e w2 ⟨b, bs, rfl, hc⟩; replace hs := hs.call1 hc; clear hc)
    | (go_at_call 32; refine (new_ok (m + 1) _ (by omega)).mono ?_; rintro e w2 ⟨i, is, rfl, hc⟩; replace hs := hs.call1 hc; clear hc))
  have hN : (((m + 1 : Nat)) : Int) = (m : Int) + 1 := by omega
  rcases HBAD.out with ⟨j, hj, hok, hb⟩ | ⟨hok1, j, hj, hok, hb⟩
  · have HF := Lib.hid (fun (w' : World) (ht : Tr w [] w' []) h => fill_no (d := i) (s := is) (N := m + 1) (f := fun _ => false) (w := w') 1 N1 c1 db1 do1 j ao1 G1 (by omega) (by omega) (I1.out.ao (by omega)) (I1.out.rd.keep ht) (fresh_foot hs 1 rfl (Ints.lt I1.out (by omega))) hj hok hb I1.out.wf h)
    clear hok hb hN
    go_wp2_with (first
      | (go_at_call 33; refine (HF.out _ hs.letgo (hs.get 1 rfl)).mono ?_; rintro e w2 ⟨rfl, f', hc⟩; replace hs := hs.upd 1 rfl hc; clear hc))
    go_ret2
    exact ⟨rfl, hs.letgo⟩
  · have HF1 := Lib.hid (fun (w' : World) (ht : Tr w [] w' []) h => fill_yes (d := i) (s := is) (N := m + 1) (f := fun _ => false) (w := w') 1 N1 c1 db1 do1 ao1 G1 (by omega) (by omega) I1.out.ao (I1.out.rd.keep ht) (fun h0 => fresh_foot hs 1 rfl (Ints.lt I1.out h0)) hok1 h)
    have HF2 := Lib.hid (fun (w' : World) (ht : Tr w [] w' []) h => fill_no (d := b) (s := bs) (N := n) (f := fun _ => false) (w := w') (m + 1) N2 c2 db2 do2 j ao2 G2 h2 (by omega) (I2.out.ao (by omega)) (I2.out.rd.keep ht) (fresh_foot hs 0 rfl (Ints.lt I2.out (by omega))) hj hok hb I2.out.wf h)
    rw [hN] at HF2
    clear hok hb hok1 hN
    go_wp2_with (first
      | ((with_reducible refine at_load rfl ?_); refine wl_load1 hs rfl rfl Tryd.underlying3 rfl rfl 2 rfl rfl ?_)
      | (go_at_call_of 33 (Value.pointer (some ⟨i, 0, none⟩)); refine (HF1.out _ hs.letgo (hs.get 1 rfl)).mono ?_; rintro e w2 ⟨rfl, hc⟩; replace hs := hs.upd 1 rfl hc; clear hc)
      | (go_at_call 33; refine (HF2.out _ hs.letgo (hs.get 0 rfl)).mono ?_; rintro e w2 ⟨rfl, f', hc⟩; replace hs := hs.upd 0 rfl hc; clear hc))
    go_ret2
    exact ⟨rfl, hs.letgo⟩
set_option maxHeartbeats 2000000 in
theorem snew_yes (hmay : 8 ≤ n ∧ n ≤ 4096 ∧ 1 ≤ m ∧ m ≤ 512 ∧ m + 2 ≤ n) (g1 : Ints w (.slice ao1 N1 c1) ao1 N1 c1 db1 do1 G1) (g2 : Ints w (.slice ao2 N2 c2) ao2 N2 c2 db2 do2 G2)
    (hok1 : ∀ k, k < N1 → okF (m + 1) 1 (stF (fun _ => false) G1 k) (G1 k)) (hok2 : ∀ k, k < N2 → okF n (m + 1) (stF (fun _ => false) G2 k) (G2 k)) :
    Calls Tryd.prog 11 #[.agg #[.int .i64 n, .int .i64 m], .slice ao1 N1 c1, .slice ao2 N2 c2] w fun e w' => ∃ p b bs i is q, e = .returned (.tuple #[.pointer (some ⟨p, 0, none⟩), .int .i64 0]) ∧ Tr w [] w' [spaceR p b bs i is q n m (newB G2 N2) (newI G1 N1)] := by
  have hs := Tr.refl w []
  have HM := Lib.hid (fun w => may_yes n m w hmay)
  have I1 := Lib.hid g1
  have I2 := Lib.hid g2
  have hl1 := g1.le
  have hm1 := g1.max
  have hl2 := g2.le
  have hm2 := g2.max
  unfold maxLen at hm1 hm2
  obtain ⟨h1, h2, h3, h4, h5⟩ := hmay
  have HE1 := Lib.hid (new_fB (n := n) (m := m) (by omega) hok2)
  have HE2 := Lib.hid (new_fI h3 hok1)
  have HO1 := Lib.hid hok1
  have HO2 := Lib.hid hok2
  clear g1 g2 hok1 hok2
  go_enter Tryd.func11, Tryd.ntmps11
  go_upto_region 5 with (first
    | ((with_reducible refine at_box (t := 23) rfl ?_); refine wl_boxA hs rfl rfl rfl ?_; clear hs; intro w1 xb hs)
    | ((with_reducible refine (at_load (t := 23)) rfl ?_); refine wl_loadA hs rfl rfl Tryd.underlying23 rfl rfl 0 rfl size23 ?_)
    | (go_at_call 31; refine (HM.out _).mono ?_; rintro e w2 ⟨rfl, hc⟩; replace hs := hs.call0 hc; clear hc)
    | ((with_reducible refine at_load rfl ?_); refine wl_load1 hs rfl rfl Tryd.underlying3 rfl rfl 0 rfl rfl ?_)
    | ((with_reducible refine at_load rfl ?_); refine wl_load1 hs rfl rfl Tryd.underlying3 rfl rfl 1 rfl rfl ?_)
    | (go_at_call_of 32 (Value.int .i64 (n : Int)); refine (new_ok n _ h2).mono ?_; rintro e w2 ⟨b, bs, rfl, hc⟩; replace hs := hs.call1 hc; clear hc)
    | (go_at_call 32; refine (new_ok (m + 1) _ (by omega)).mono ?_; rintro e w2 ⟨i, is, rfl, hc⟩; replace hs := hs.call1 hc; clear hc))
  have hN : (((m + 1 : Nat)) : Int) = (m : Int) + 1 := by omega
  have HF1 := Lib.hid (fun (w' : World) (ht : Tr w [] w' []) h => fill_yes (d := i) (s := is) (N := m + 1) (f := fun _ => false) (w := w') 1 N1 c1 db1 do1 ao1 G1 (by omega) (by omega) I1.out.ao (I1.out.rd.keep ht) (fun h0 => fresh_foot hs 1 rfl (Ints.lt I1.out h0)) HO1.out h)
  have HF2 := Lib.hid (fun (w' : World) (ht : Tr w [] w' []) h => fill_yes (d := b) (s := bs) (N := n) (f := fun _ => false) (w := w') (m + 1) N2 c2 db2 do2 ao2 G2 h2 (by omega) I2.out.ao (I2.out.rd.keep ht) (fun h0 => fresh_foot hs 0 rfl (Ints.lt I2.out h0)) HO2.out h)
  rw [hN] at HF2
  clear hN HO1 HO2
  go_wp2_with (first
    | ((with_reducible refine at_load rfl ?_); refine wl_load1 hs rfl rfl Tryd.underlying3 rfl rfl 2 rfl rfl ?_)
    | (go_at_call_of 33 (Value.pointer (some ⟨i, 0, none⟩)); refine (HF1.out _ hs.letgo (hs.get 1 rfl)).mono ?_; rintro e w2 ⟨rfl, hc⟩; replace hs := hs.upd 1 rfl hc; clear hc)
    | (go_at_call 33; refine (HF2.out _ hs.letgo (hs.get 0 rfl)).mono ?_; rintro e w2 ⟨rfl, hc⟩; replace hs := hs.upd 0 rfl hc; clear hc))
  clear HF1 HF2
  have HU := Lib.hid (upto_step (stF (fun _ => false) G2 N2))
  have HU0 := Lib.hid (upto_none (stF (fun _ => false) G2 N2))
  go_loopw [12, 45] (fun _ iv wr => ∃ k : Nat, k ≤ m + 1 ∧ iv = .int .i64 k ∧ Tr w [] wr [bitsR b bs n (fun j => stF (fun _ => false) G2 N2 j || decide (j < k)), bitsR i is (m + 1) (stF (fun _ => false) G1 N1), Res.blk xb #[.int .i64 n, .int .i64 m] 23]) (fun _ i _ => m + 1 - (intOf i).toNat)
  case atStart => exact ⟨0, by omega, rfl, by rw [HU0.out]; exact hs⟩
  case round =>
    clear hs
    obtain ⟨k, hk, rfl, hs⟩ := hrel
    by_cases hlt : k < m + 1
    · have hltI : (k : Int) < (m : Int) + 1 := by omega
      have HUk := Lib.hid (HU.out k)
      go_wp2_with (first | (go_at_call 34; refine (set_yes k (by omega) h2 (hs.get 0 rfl)).mono ?_; rintro e w2 ⟨rfl, hc⟩; replace hs := hs.upd 0 rfl hc; clear hc))
      go_roundw
      case rel => exact ⟨k + 1, by omega, by go_num, by rw [← HUk.out]; exact hs⟩
      case measure => simp [intOf]; omega
    · obtain rfl : k = m + 1 := by omega
      have hltI : ¬ ((m + 1 : Nat) : Int) < (m : Int) + 1 := by omega
      rw [HE1.out] at hs
      go_upto_region 13 with (first | (go_at_call 34; refine (set_yes 0 (by omega) (by omega) (hs.get 1 rfl)).mono ?_; rintro e w2 ⟨rfl, hc⟩; replace hs := hs.upd 1 rfl hc; clear hc))
      go_upto_region 14 with (first | (go_at_call 34; refine (set_yes 1 (by omega) (by omega) (hs.get 1 rfl)).mono ?_; rintro e w2 ⟨rfl, hc⟩; replace hs := hs.upd 1 rfl hc; clear hc))
      have hs1 : Tr w [] w2 [bitsR b bs n (fB n m (newB G2 N2)), bitsR i is (m + 1) (fI m (newI G1 N1)), Res.blk xb #[.int .i64 n, .int .i64 m] 23] := by rw [← HE2.out]; exact hs
      clear hs; have hs := hs1; clear hs1
      go_wp2_with (first
        | ((with_reducible refine (at_load (t := 23)) rfl ?_); refine wl_loadA hs rfl rfl Tryd.underlying23 rfl rfl 2 rfl size23 ?_)
        | ((with_reducible refine at_makeM rfl ?_); refine wl_makeM hs rfl rfl n ?_; clear hs; intro w1 q hs)
        | ((with_reducible refine at_box (t := 71) rfl ?_); refine wl_boxA hs rfl rfl rfl ?_; clear hs; intro w1 p hs))
      go_ret2
      have hs1 : Tr w [] w1 [_, Res.iset q n (fun _ => false), _, _, _] := hs
      rw [← new_fL n m N2 G2] at hs1
      have hs2 := hs1.erase 4
      have p4 : ∀ a b c d : Res, [a, b, c, d].Perm [a, c, d, b] := fun a b c d => List.Perm.cons a (List.perm_append_comm (l₁ := [b]) (l₂ := [c, d]))
      exact ⟨_, _, _, _, _, _, rfl, Tr.join4 (hs2.perm (p4 _ _ _ _))⟩
end
end Go.Proofs.YtfedfdcbhggipaaDoor
