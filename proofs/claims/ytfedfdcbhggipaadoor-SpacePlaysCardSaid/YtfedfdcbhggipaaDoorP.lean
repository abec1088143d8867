/- Spaces: contracts of the document's methods. -/
import Derived.Test.YtfedfdcbhggipaaDoorO2
namespace Go.Proofs.YtfedfdcbhggipaaDoor
set_option linter.unusedVariables false
set_option linter.unusedSimpArgs false
open Go Go.Sp Go.RowKit Go.BigFrame

theorem size23 : (Tryd.prog.info? 23).map (·.size) = some 2 := by kernel_rfl
def inI (m : Nat) (x : Int) : Bool := if 1 ≤ x ∧ x ≤ m then true else false
theorem rdata_any (n m : Nat) (x : Int) (w : World) : Calls Tryd.prog 37 #[.agg #[.int .i64 n, .int .i64 m], .int .i64 x] w fun e w' => e = .returned (.bool (inD n m x)) ∧ Tr w [] w' [] := by
  have hs := Tr.refl w []
  by_cases h1 : (m : Int) < x
  · by_cases h2 : x < n
    · rw [inD, if_pos ⟨h1, h2⟩]
      go_enter Tryd.func37, Tryd.ntmps37
      go_wp2_with (first | ((with_reducible refine at_box (t := 23) rfl ?_); refine wl_boxA hs rfl rfl rfl ?_; clear hs; intro w1 xb hs) | ((with_reducible refine at_load rfl ?_); refine wl_load1 hs rfl rfl Tryd.underlying3 rfl rfl 0 rfl rfl ?_))
      go_ret
      exact ⟨rfl, hs.letgo⟩
    · rw [inD, if_neg (by omega)]
      go_enter Tryd.func37, Tryd.ntmps37
      go_wp2_with (first | ((with_reducible refine at_box (t := 23) rfl ?_); refine wl_boxA hs rfl rfl rfl ?_; clear hs; intro w1 xb hs) | ((with_reducible refine at_load rfl ?_); refine wl_load1 hs rfl rfl Tryd.underlying3 rfl rfl 0 rfl rfl ?_))
      go_ret
      exact ⟨rfl, hs.letgo⟩
  · rw [inD, if_neg (by omega)]
    have h3 : x ≤ m := by omega
    go_enter Tryd.func37, Tryd.ntmps37
    go_wp2_with (first | ((with_reducible refine at_box (t := 23) rfl ?_); refine wl_boxA hs rfl rfl rfl ?_; clear hs; intro w1 xb hs) | ((with_reducible refine at_load rfl ?_); refine wl_load1 hs rfl rfl Tryd.underlying3 rfl rfl 0 rfl rfl ?_))
    go_ret
    exact ⟨rfl, hs.letgo⟩
theorem rinode_any (n m : Nat) (x : Int) (w : World) : Calls Tryd.prog 36 #[.agg #[.int .i64 n, .int .i64 m], .int .i64 x] w fun e w' => e = .returned (.bool (inI m x)) ∧ Tr w [] w' [] := by
  have hs := Tr.refl w []
  by_cases h1 : 1 ≤ x
  · by_cases h2 : x ≤ m
    · rw [inI, if_pos ⟨h1, h2⟩]
      go_enter Tryd.func36, Tryd.ntmps36
      go_wp2_with (first | ((with_reducible refine at_box (t := 23) rfl ?_); refine wl_boxA hs rfl rfl rfl ?_; clear hs; intro w1 xb hs) | ((with_reducible refine at_load rfl ?_); refine wl_load1 hs rfl rfl Tryd.underlying3 rfl rfl 0 rfl rfl ?_))
      go_ret
      exact ⟨rfl, hs.letgo⟩
    · rw [inI, if_neg (by omega)]
      go_enter Tryd.func36, Tryd.ntmps36
      go_wp2_with (first | ((with_reducible refine at_box (t := 23) rfl ?_); refine wl_boxA hs rfl rfl rfl ?_; clear hs; intro w1 xb hs) | ((with_reducible refine at_load rfl ?_); refine wl_load1 hs rfl rfl Tryd.underlying3 rfl rfl 0 rfl rfl ?_))
      go_ret
      exact ⟨rfl, hs.letgo⟩
  · rw [inI, if_neg (by omega)]
    have h3 : x < 1 := by omega
    go_enter Tryd.func36, Tryd.ntmps36
    go_wp2_with (first | ((with_reducible refine at_box (t := 23) rfl ?_); refine wl_boxA hs rfl rfl rfl ?_; clear hs; intro w1 xb hs) | ((with_reducible refine at_load rfl ?_); refine wl_load1 hs rfl rfl Tryd.underlying3 rfl rfl 0 rfl rfl ?_))
    go_ret
    exact ⟨rfl, hs.letgo⟩

theorem rowB_upd (B : Nat → Nat) (k v n : Nat) : ∀ j, j < n → (if j = k then Value.int .i64 (v : Nat) else rowB B j) = rowB (setB B k v) j := by
  intro j _
  simp only [rowB, setB]; split <;> rfl
theorem rowI_upd (I : Nat → Bool) (k : Nat) (b : Bool) (n : Nat) : ∀ j, j < n → (if j = k then Value.int .i64 (b.toNat : Nat) else rowI I j) = rowI (updP I k b) j := by
  intro j _
  simp only [rowI, updP]; split <;> rfl
section
variable {p b i n m : Nat} {B : Nat → Nat} {I : Nat → Bool} {w : World}
theorem rs_p (h : (refS p b i n m B I).holds w) : (Res.blk p #[.int .i64 n, .int .i64 m, .slice (some ⟨b, 0, none⟩) n n, .slice (some ⟨i, 0, none⟩) (m + 1) (m + 1)] 73).holds w := (holds_both h).1
theorem rs_b (h : (refS p b i n m B I).holds w) : (Res.blk b (rowOf n (rowB B)) 3).holds w := (holds_both (holds_both h).2).1
theorem rs_i (h : (refS p b i n m B I).holds w) : (Res.blk i (rowOf (m + 1) (rowI I)) 3).holds w := (holds_both (holds_both h).2).2
theorem rused_any (x : Int) (h : (refS p b i n m B I).holds w) :
    Calls Tryd.prog 16 #[.pointer (some ⟨p, 0, none⟩), .int .i64 x] w fun e w' => e = .returned (.bool (usedI m I x)) ∧ Tr w [] w' [] := by
  have hs := Tr.refl w []
  have HP := Lib.hid (rs_p h)
  have HI := Lib.hid (rs_i h)
  clear h
  have HX := Lib.hid (fun w => rinode_any n m x w)
  by_cases h1 : 1 ≤ x ∧ x ≤ m
  · rw [usedI, if_pos h1]
    rw [inI, if_pos h1] at HX
    obtain ⟨k, rfl⟩ : ∃ k : Nat, x = (k : Int) := ⟨x.toNat, by omega⟩
    rw [Int.toNat_natCast]
    have hk : (k : Int) < ((m + 1 : Nat) : Int) := by omega
    obtain ⟨z, hz⟩ : ∃ z, I k = z := ⟨_, rfl⟩
    have HG : Hid ((rowOf (m + 1) (rowI I))[k]? = some (.int .i64 (z.toNat : Nat))) := Lib.hid (by rw [rowOf_get (by omega), rowI, hz])
    rw [hz]
    clear hz h1
    cases z
    all_goals
      go_enter Tryd.func16, Tryd.ntmps16
      go_wp2_with (first
        | ((with_reducible refine (at_load (t := 23)) rfl ?_); refine wl_load2 rfl rfl Tryd.underlying23 rfl size23 rfl (Res.cellAt HP.out hs rfl) (Res.cellAt HP.out hs rfl) ?_)
        | (go_at_call 36; refine (HX.out _).mono ?_; rintro e w2 ⟨rfl, hc⟩; replace hs := hs.call0 hc; clear hc)
        | ((with_reducible refine (at_load (t := 24)) rfl ?_); refine wl_loadC rfl rfl Tryd.underlying24 rfl rfl (Res.cellAt HP.out hs rfl) ?_)
        | ((with_reducible refine (at_load (t := 3)) rfl ?_); refine wl_loadC rfl rfl Tryd.underlying3 rfl rfl (Res.cellAt HI.out hs HG.out) ?_))
      go_ret
      exact ⟨rfl, hs⟩
  · rw [usedI, if_neg h1]
    rw [inI, if_neg h1] at HX
    clear h1
    go_enter Tryd.func16, Tryd.ntmps16
    go_wp2_with (first
      | ((with_reducible refine (at_load (t := 23)) rfl ?_); refine wl_load2 rfl rfl Tryd.underlying23 rfl size23 rfl (Res.cellAt HP.out hs rfl) (Res.cellAt HP.out hs rfl) ?_)
      | (go_at_call 36; refine (HX.out _).mono ?_; rintro e w2 ⟨rfl, hc⟩; replace hs := hs.call0 hc; clear hc))
    go_ret
    exact ⟨rfl, hs⟩
def rtakeP (p b i n m : Nat) (B : Nat → Nat) (I : Nat → Bool) (r : Nat) (w : World) (e : Ending) (w' : World) : Prop :=
  (r < n → e = .returned (.tuple #[.int .i64 (r : Int), .int .i64 0]) ∧ Tr w (refS p b i n m B I).foot w' [refS p b i n m (setB B r 1) I]) ∧
      (r = n → e = .returned (.tuple #[.int .i64 0, .int .i64 80]) ∧ Tr w (refS p b i n m B I).foot w' [refS p b i n m B I])
def rtakeiP (p b i n m : Nat) (B : Nat → Nat) (I : Nat → Bool) (r : Nat) (w : World) (e : Ending) (w' : World) : Prop :=
  (r ≤ m → e = .returned (.tuple #[.int .i64 (r : Int), .int .i64 0]) ∧ Tr w (refS p b i n m B I).foot w' [refS p b i n m B (updP I r true)]) ∧
      (r = m + 1 → e = .returned (.tuple #[.int .i64 0, .int .i64 81]) ∧ Tr w (refS p b i n m B I).foot w' [refS p b i n m B I])
theorem rtake_any (hn : n ≤ 4096) (hm : m < n) (r : Nat) (hr : m < r) (hrn : r ≤ n) (hall : ∀ j, m < j → j < r → B j ≠ 0) (h0 : r < n → B r = 0) (h : (refS p b i n m B I).holds w) :
    Calls Tryd.prog 20 #[.pointer (some ⟨p, 0, none⟩)] w (rtakeP p b i n m B I r w) := by
  have hs := Tr.open3 h
  have HB := Lib.hid hall
  have H0 := Lib.hid h0
  clear hall h0 h
  go_enter Tryd.func20, Tryd.ntmps20
  go_wp2_with (first | ((with_reducible refine at_load rfl ?_); refine wl_load1 hs rfl rfl Tryd.underlying3 rfl rfl 0 rfl rfl ?_))
  go_loop [4] (fun v => ∃ k : Nat, m < k ∧ k ≤ r ∧ v = .int .i64 k) (fun v => n - (intOf v).toNat)
  case atStart => exact ⟨m + 1, by omega, by omega, by go_num⟩
  case round =>
    obtain ⟨k, hk1, hk2, rfl⟩ := hrel
    by_cases hlt : k < r
    · have hltI : (k : Int) < n := by omega
      obtain ⟨v, hv⟩ : ∃ v, B k = v := ⟨_, rfl⟩
      have hb := HB.out k hk1 hlt
      rw [hv] at hb
      have HG : Hid ((rowOf n (rowB B))[k]? = some (.int .i64 (v : Nat))) := Lib.hid (by rw [rowOf_get (by omega), rowB, hv])
      have t1 : ((v : Int) == 0) = false := by rw [beq_eq_false_iff_ne]; omega
      clear hv hb
      go_wp2_with (first | ((with_reducible refine at_load rfl ?_); refine wl_load1 hs rfl rfl Tryd.underlying3 rfl rfl 0 rfl rfl ?_) | ((with_reducible refine at_load rfl ?_); refine wl_load1 hs rfl rfl Tryd.underlying24 rfl rfl 0 rfl rfl ?_) | ((with_reducible refine (at_load (t := 3)) rfl ?_); refine wl_load1 hs rfl rfl Tryd.underlying3 rfl rfl 1 rfl HG.out ?_))
      go_round
      case rel => exact ⟨k + 1, by omega, by omega, by go_num⟩
      case measure => simp [intOf]; omega
    · obtain rfl : k = r := by omega
      by_cases hkn : k < n
      · have hltI : (k : Int) < n := by omega
        have HG : Hid ((rowOf n (rowB B))[k]? = some (.int .i64 0)) := Lib.hid (by rw [rowOf_get (by omega), rowB, H0.out hkn]; rfl)
        have HU := Lib.hid (rowB_upd B k 1 n)
        go_wp2_with (first | ((with_reducible refine at_load rfl ?_); refine wl_load1 hs rfl rfl Tryd.underlying3 rfl rfl 0 rfl rfl ?_) | ((with_reducible refine at_load rfl ?_); refine wl_load1 hs rfl rfl Tryd.underlying24 rfl rfl 0 rfl rfl ?_) | ((with_reducible refine (at_load (t := 3)) rfl ?_); refine wl_load1 hs rfl rfl Tryd.underlying3 rfl rfl 1 rfl HG.out ?_) | ((with_reducible refine at_store rfl ?_); refine wl_store1R hs rfl rfl size3 rfl rfl rfl 1 rfl hkn (rowB (setB B k 1)) HU.out ?_; clear hs; intro w1 hs))
        go_ret2
        exact ⟨fun _ => ⟨rfl, Tr.join3 hs⟩, fun h => by omega⟩
      · have hltI : ¬ (k : Int) < n := by omega
        go_wp2_with (first | ((with_reducible refine at_load rfl ?_); refine wl_load1 hs rfl rfl Tryd.underlying3 rfl rfl 0 rfl rfl ?_))
        go_ret2
        exact ⟨fun h => by omega, fun _ => ⟨rfl, Tr.join3 hs⟩⟩
theorem rtakei_any (hm : m ≤ 512) (hm1 : 1 ≤ m) (r : Nat) (hr : 2 ≤ r) (hrn : r ≤ m + 1) (hall : ∀ j, 2 ≤ j → j < r → I j = true) (h0 : r ≤ m → I r = false) (h : (refS p b i n m B I).holds w) :
    Calls Tryd.prog 27 #[.pointer (some ⟨p, 0, none⟩)] w (rtakeiP p b i n m B I r w) := by
  have hs := Tr.open3 h
  have HB := Lib.hid hall
  have H0 := Lib.hid h0
  clear hall h0 h
  go_enter Tryd.func27, Tryd.ntmps27
  go_wp2
  go_loop [4] (fun v => ∃ k : Nat, 2 ≤ k ∧ k ≤ r ∧ v = .int .i64 k) (fun v => m + 1 - (intOf v).toNat)
  case atStart => exact ⟨2, by omega, by omega, rfl⟩
  case round =>
    obtain ⟨k, hk1, hk2, rfl⟩ := hrel
    by_cases hlt : k < r
    · have hltI : (k : Int) ≤ m := by omega
      have HG : Hid ((rowOf (m + 1) (rowI I))[k]? = some (.int .i64 1)) := Lib.hid (by rw [rowOf_get (by omega), rowI, HB.out k hk1 hlt]; rfl)
      go_wp2_with (first | ((with_reducible refine at_load rfl ?_); refine wl_load1 hs rfl rfl Tryd.underlying3 rfl rfl 0 rfl rfl ?_) | ((with_reducible refine at_load rfl ?_); refine wl_load1 hs rfl rfl Tryd.underlying24 rfl rfl 0 rfl rfl ?_) | ((with_reducible refine (at_load (t := 3)) rfl ?_); refine wl_load1 hs rfl rfl Tryd.underlying3 rfl rfl 2 rfl HG.out ?_))
      go_round
      case rel => exact ⟨k + 1, by omega, by omega, by go_num⟩
      case measure => simp [intOf]; omega
    · obtain rfl : k = r := by omega
      by_cases hkn : k ≤ m
      · have hltI : (k : Int) ≤ m := by omega
        have HG : Hid ((rowOf (m + 1) (rowI I))[k]? = some (.int .i64 0)) := Lib.hid (by rw [rowOf_get (by omega), rowI, H0.out hkn]; rfl)
        have HU := Lib.hid (rowI_upd I k true (m + 1))
        go_wp2_with (first | ((with_reducible refine at_load rfl ?_); refine wl_load1 hs rfl rfl Tryd.underlying3 rfl rfl 0 rfl rfl ?_) | ((with_reducible refine at_load rfl ?_); refine wl_load1 hs rfl rfl Tryd.underlying24 rfl rfl 0 rfl rfl ?_) | ((with_reducible refine (at_load (t := 3)) rfl ?_); refine wl_load1 hs rfl rfl Tryd.underlying3 rfl rfl 2 rfl HG.out ?_) | ((with_reducible refine at_store rfl ?_); refine wl_store1R hs rfl rfl size3 rfl rfl rfl 2 rfl (by omega) (rowI (updP I k true)) HU.out ?_; clear hs; intro w1 hs))
        go_ret2
        exact ⟨fun _ => ⟨rfl, Tr.join3 hs⟩, fun h => by omega⟩
      · have hltI : ¬ (k : Int) ≤ m := by omega
        go_wp2_with (first | ((with_reducible refine at_load rfl ?_); refine wl_load1 hs rfl rfl Tryd.underlying3 rfl rfl 0 rfl rfl ?_))
        go_ret2
        exact ⟨fun h => by omega, fun _ => ⟨rfl, Tr.join3 hs⟩⟩
theorem rfreei_yes (k : Nat) (h2 : 2 ≤ k) (hk : k ≤ m) (hm : m ≤ 512) (hI : I k = true) (h : (refS p b i n m B I).holds w) :
    Calls Tryd.prog 28 #[.pointer (some ⟨p, 0, none⟩), .int .i64 (k : Int)] w fun e w' => e = .returned (.int .i64 0) ∧ Tr w (refS p b i n m B I).foot w' [refS p b i n m B (updP I k false)] := by
  have hs := Tr.open3 h
  have HX := Lib.hid (fun w h => rused_any (p := p) (b := b) (i := i) (n := n) (m := m) (B := B) (I := I) (w := w) (k : Int) h)
  rw [show usedI m I (k : Int) = true by rw [usedI, if_pos ⟨by omega, by omega⟩, Int.toNat_natCast, hI]] at HX
  have HU := Lib.hid (rowI_upd I k false (m + 1))
  have t1 : ((k : Int) == 1) = false := by rw [beq_eq_false_iff_ne]; omega
  have hkI : (k : Int) < ((m + 1 : Nat) : Int) := by omega
  have H0 := Lib.hid h
  clear h hI
  go_enter Tryd.func28, Tryd.ntmps28
  go_wp2_with (first
    | (go_at_call 16; refine (HX.out _ H0.out).mono ?_; rintro e w2 ⟨rfl, hc⟩; replace hs := hs.call0 hc; clear hc)
    | ((with_reducible refine at_load rfl ?_); refine wl_load1 hs rfl rfl Tryd.underlying24 rfl rfl 0 rfl rfl ?_)
    | ((with_reducible refine at_store rfl ?_); refine wl_store1R hs rfl rfl size3 rfl rfl rfl 2 rfl (by omega) (rowI (updP I k false)) HU.out ?_; clear hs; intro w1 hs))
  go_ret
  exact ⟨rfl, Tr.join3 hs⟩
theorem rfreei_no (x : Int) (hx : x ≤ 1 ∨ usedI m I x = false) (h : (refS p b i n m B I).holds w) :
    Calls Tryd.prog 28 #[.pointer (some ⟨p, 0, none⟩), .int .i64 x] w fun e w' => e = .returned (.int .i64 82) ∧ Tr w [] w' [] := by
  have hs := Tr.refl w []
  have HX := Lib.hid (fun w h => rused_any (p := p) (b := b) (i := i) (n := n) (m := m) (B := B) (I := I) (w := w) x h)
  have H0 := Lib.hid h
  clear h
  obtain ⟨z, hz⟩ : ∃ z, usedI m I x = z := ⟨_, rfl⟩
  rw [hz] at HX hx
  cases z
  · clear hx hz
    go_enter Tryd.func28, Tryd.ntmps28
    go_wp2_with (first | (go_at_call 16; refine (HX.out _ H0.out).mono ?_; rintro e w2 ⟨rfl, hc⟩; replace hs := hs.call0 hc; clear hc))
    go_ret
    exact ⟨rfl, hs⟩
  · obtain rfl : x = 1 := by
      rcases hx with hx | hx
      · simp only [usedI] at hz
        by_cases h1 : 1 ≤ x ∧ x ≤ m
        · omega
        · rw [if_neg h1] at hz; cases hz
      · cases hx
    clear hx hz
    go_enter Tryd.func28, Tryd.ntmps28
    go_wp2_with (first | (go_at_call 16; refine (HX.out _ H0.out).mono ?_; rintro e w2 ⟨rfl, hc⟩; replace hs := hs.call0 hc; clear hc))
    go_ret
    exact ⟨rfl, hs⟩
theorem rlater_yes (k : Nat) (hn : n ≤ 4096) (hm : m < k) (hk : k < n) (hB : B k = 1) (h : (refS p b i n m B I).holds w) :
    Calls Tryd.prog 29 #[.pointer (some ⟨p, 0, none⟩), .int .i64 (k : Int)] w fun e w' => e = .returned (.int .i64 0) ∧ Tr w (refS p b i n m B I).foot w' [refS p b i n m (setB B k 2) I] := by
  have hs := Tr.open3 h
  have HX := Lib.hid (fun w => rdata_any n m (k : Int) w)
  rw [inD_in hm hk] at HX
  have HG : Hid ((rowOf n (rowB B))[k]? = some (.int .i64 1)) := Lib.hid (by rw [rowOf_get hk, rowB, hB]; rfl)
  have HU := Lib.hid (rowB_upd B k 2 n)
  have hkI : (k : Int) < n := by omega
  clear h hB
  go_enter Tryd.func29, Tryd.ntmps29
  go_wp2_with (first
    | ((with_reducible refine (at_load (t := 23)) rfl ?_); refine wl_load2 rfl rfl Tryd.underlying23 rfl size23 rfl (by rw [cell_of_row _ _ _ _ _ (0, 0) (hs.getB 0 rfl)]; rfl) (by rw [cell_of_row _ _ _ _ _ (0, 0) (hs.getB 0 rfl)]; rfl) ?_)
    | (go_at_call 37; refine (HX.out _).mono ?_; rintro e w2 ⟨rfl, hc⟩; replace hs := hs.call0 hc; clear hc)
    | ((with_reducible refine at_load rfl ?_); refine wl_load1 hs rfl rfl Tryd.underlying24 rfl rfl 0 rfl rfl ?_)
    | ((with_reducible refine (at_load (t := 3)) rfl ?_); refine wl_load1 hs rfl rfl Tryd.underlying3 rfl rfl 1 rfl HG.out ?_) | ((with_reducible refine at_store rfl ?_); refine wl_store1R hs rfl rfl size3 rfl rfl rfl 1 rfl hk (rowB (setB B k 2)) HU.out ?_; clear hs; intro w1 hs))
  go_ret
  exact ⟨rfl, Tr.join3 hs⟩
theorem rlater_no (x : Int) (hn : n ≤ 4096) (hx : inD n m x = false ∨ B x.toNat ≠ 1) (h : (refS p b i n m B I).holds w) :
    Calls Tryd.prog 29 #[.pointer (some ⟨p, 0, none⟩), .int .i64 x] w fun e w' => e = .returned (.int .i64 82) ∧ Tr w [] w' [] := by
  have hs := Tr.refl w []
  have HP := Lib.hid (rs_p h)
  have HB := Lib.hid (rs_b h)
  have HX := Lib.hid (fun w => rdata_any n m x w)
  clear h
  rcases inD_or n m x with ⟨k, rfl, hm, hk⟩ | ho
  · rw [inD_in hm hk] at HX hx
    have hx1 : B k ≠ 1 := by
      rcases hx with hx | hx
      · cases hx
      · simpa using hx
    obtain ⟨v, hv⟩ : ∃ v, B k = v := ⟨_, rfl⟩
    rw [hv] at hx1
    have HG : Hid ((rowOf n (rowB B))[k]? = some (.int .i64 (v : Nat))) := Lib.hid (by rw [rowOf_get hk, rowB, hv])
    have t1 : ((v : Int) != 1) = true := by rw [bne_iff_ne]; omega
    have hkI : (k : Int) < n := by omega
    clear hv hx hx1
    go_enter Tryd.func29, Tryd.ntmps29
    go_wp2_with (first
      | ((with_reducible refine (at_load (t := 23)) rfl ?_); refine wl_load2 rfl rfl Tryd.underlying23 rfl size23 rfl (Res.cellAt HP.out hs rfl) (Res.cellAt HP.out hs rfl) ?_)
      | (go_at_call 37; refine (HX.out _).mono ?_; rintro e w2 ⟨rfl, hc⟩; replace hs := hs.call0 hc; clear hc)
      | ((with_reducible refine (at_load (t := 24)) rfl ?_); refine wl_loadC rfl rfl Tryd.underlying24 rfl rfl (Res.cellAt HP.out hs rfl) ?_)
      | ((with_reducible refine (at_load (t := 3)) rfl ?_); refine wl_loadC rfl rfl Tryd.underlying3 rfl rfl (Res.cellAt HB.out hs HG.out) ?_))
    go_ret
    exact ⟨rfl, hs⟩
  · rw [inD_out ho] at HX
    clear hx
    go_enter Tryd.func29, Tryd.ntmps29
    go_wp2_with (first
      | ((with_reducible refine (at_load (t := 23)) rfl ?_); refine wl_load2 rfl rfl Tryd.underlying23 rfl size23 rfl (Res.cellAt HP.out hs rfl) (Res.cellAt HP.out hs rfl) ?_)
      | (go_at_call 37; refine (HX.out _).mono ?_; rintro e w2 ⟨rfl, hc⟩; replace hs := hs.call0 hc; clear hc))
    go_ret
    exact ⟨rfl, hs⟩
end
end Go.Proofs.YtfedfdcbhggipaaDoor
