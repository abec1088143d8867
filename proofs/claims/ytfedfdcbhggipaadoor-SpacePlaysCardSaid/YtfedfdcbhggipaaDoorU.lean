/- Spaces: lists that are lent, kept, spoiled. -/
import Derived.Test.YtfedfdcbhggipaaDoorS2
namespace Go.Proofs.YtfedfdcbhggipaaDoor
set_option linter.unusedVariables false
set_option linter.unusedSimpArgs false
open Go Go.Sp Go.RowKit Go.BigFrame

def gI (G : Nat → Int) : Nat → Value := fun i => .int .i64 (G i)
def lentK (G : Nat → Int) (n k : Nat) : Nat → Int := fun i => if i < n then G i else if i < k then -77 else 0
def lentF (G : Nat → Int) (n : Nat) : Nat → Int := fun i => if i < n then G i else -77
def spoilK (G : Nat → Int) (k : Nat) : Nat → Int := fun i => if i < k then 4 + (i : Int) % 3 else G i
theorem lent_cells (G : Nat → Int) (n k : Nat) (hk : n ≤ k) : ∀ j, j < n + 20 → (if j = k then Value.int .i64 (-77) else gI (lentK G n k) j) = gI (lentK G n (k + 1)) j := by
  intro j hj
  simp only [gI, lentK]
  by_cases h : j = k
  · subst h
    rw [if_pos rfl, if_neg (by omega), if_pos (by omega)]
  · rw [if_neg h]
    by_cases h2 : j < n
    · rw [if_pos h2, if_pos h2]
    · rw [if_neg h2, if_neg h2]
      by_cases h3 : j < k
      · rw [if_pos h3, if_pos (by omega)]
      · rw [if_neg h3, if_neg (by omega)]
theorem spoil_cells (G : Nat → Int) (k N : Nat) (x : Int) (hx : x = 4 + (k : Int) % 3) : ∀ j, j < N → (if j = k then Value.int .i64 x else gI (spoilK G k) j) = gI (spoilK G (k + 1)) j := by
  intro j hj
  subst hx
  simp only [gI, spoilK]
  by_cases h : j = k
  · subst h; rw [if_pos rfl, if_pos (by omega)]
  · rw [if_neg h]
    by_cases h3 : j < k
    · rw [if_pos h3, if_pos (by omega)]
    · rw [if_neg h3, if_neg (by omega)]
theorem zmakeL (m0 i : Nat) (_ : i < m0) : (Value.int .i64 0).cells[i % (Value.int .i64 0).cells.size]! = gI (fun _ => 0) i := by
  have e : i % (Value.int .i64 0).cells.size = 0 := Nat.mod_one i
  rw [e]; rfl
theorem lend_any (ao : Option Addr) (n cap db doff : Nat) (G : Nat → Int) (w : World) (hn : n * 8 ≤ 140737488351232) (hao : 0 < n → ao = some ⟨db, doff, none⟩) (hrd : Rd w db doff n fun i => .int .i64 (G i)) :
    Calls Tryd.prog 10 #[.slice ao n cap] w fun e w' => ∃ b, e = .returned (.slice (some ⟨b, 0, none⟩) (n + 20) (n + 20)) ∧ Tr w [] w' [Res.blk b (rowOf (n + 20) (gI (lentF G n))) 3] := by
  have hs := Tr.refl w []
  have HA := Lib.hid hao
  have HR := Lib.hid hrd
  have HC := Lib.hid (lent_cells G n)
  have H0 : Hid (∀ j, j < n + 20 → (if 0 ≤ j ∧ j < 0 + n then gI G (j - 0) else gI (fun _ => 0) j) = gI (lentK G n n) j) := Lib.hid fun j hj => by
    simp only [gI, lentK]
    by_cases h : j < n
    · rw [if_pos (by omega), if_pos h, Nat.sub_zero]
    · rw [if_neg (by omega), if_neg h, if_neg h]
  have H8 : Hid (rowOf (n + 20) (gI (lentK G n (n + 20))) = rowOf (n + 20) (gI (lentF G n))) := Lib.hid (rowOf_congr fun i hi => by
    simp only [gI, lentK, lentF]
    by_cases h : i < n
    · rw [if_pos h, if_pos h]
    · rw [if_neg h, if_neg h, if_pos hi])
  clear hao hrd
  go_enter Tryd.func10, Tryd.ntmps10
  go_wp2_with (first
    | ((with_reducible refine at_mk rfl ?_); refine wl_make hs rfl rfl Tryd.underlying24 info3 (n + 20) rfl rfl (by omega) (by omega) (by omega) (gI fun _ => 0) (zmakeL _) ?_; rw [Nat.mul_one]; clear hs; intro w1 b hs)
    | ((with_reducible refine (at_bi .copy) rfl ?_); refine wl_copy1 hs rfl rfl Tryd.underlying24 size3 rfl rfl n (by omega) 0 rfl 0 (fun _ => rfl) (by omega) db doff (gI G) HA.out (HR.out.keep hs) (fun _ _ => rfl) (gI (lentK G n n)) H0.out ?_; clear hs; intro w1 hs))
  go_loopw [4] (fun i wr => ∃ k : Nat, n ≤ k ∧ k ≤ n + 20 ∧ i = .int .i64 k ∧ Tr w [] wr [Res.blk b (rowOf (n + 20) (gI (lentK G n k))) 3]) (fun i _ => n + 20 - (intOf i).toNat)
  case atStart => exact ⟨n, Nat.le_refl _, by omega, rfl, hs⟩
  case round =>
    clear hs
    obtain ⟨k, hk1, hk2, rfl, hs⟩ := hrel
    by_cases hlt : k < n + 20
    · have hltI : (k : Int) < (n : Int) + 20 := by omega
      go_wp2_with (first
        | ((with_reducible refine at_store rfl ?_); refine wl_store1R hs rfl rfl size3 rfl rfl rfl 0 rfl hlt (gI (lentK G n (k + 1))) (HC.out k hk1) ?_; clear hs; intro w1 hs))
      go_roundw
      case rel => exact ⟨k + 1, by omega, by omega, by go_num, hs⟩
      case measure => simp [intOf]; omega
    · obtain rfl : k = n + 20 := by omega
      rw [H8.out] at hs
      go_wp2
      go_ret
      exact ⟨_, rfl, hs⟩
theorem kept_any (b : Nat) (ao : Option Addr) (n cap db doff : Nat) (G : Nat → Int) (w : World) (hn : n * 8 ≤ 140737488351232) (hao : 0 < n → ao = some ⟨db, doff, none⟩) (hrd : Rd w db doff n fun i => .int .i64 (G i))
    (h : Rd w b 0 (n + 20) (gI (lentF G n))) :
    Calls Tryd.prog 12 #[.slice (some ⟨b, 0, none⟩) (n + 20) (n + 20), .slice ao n cap] w fun e w' => e = .returned (.bool true) ∧ Tr w [] w' [] := by
  have hs := Tr.refl w []
  have HA := Lib.hid hao
  have HR := Lib.hid hrd
  have HO := Lib.hid h
  clear hao hrd h
  go_enter Tryd.func12, Tryd.ntmps12
  go_wp2_with fail
  go_loopw [5] (fun i wr => ∃ k : Nat, k ≤ n + 20 ∧ i = .int .i64 k ∧ Tr w [] wr []) (fun i _ => n + 20 - (intOf i).toNat)
  case atStart => exact ⟨0, Nat.zero_le _, rfl, hs⟩
  case round =>
    clear hs
    obtain ⟨k, hk2, rfl, hs⟩ := hrel
    by_cases hlt : k < n + 20
    · have hltI : (k : Int) < (n : Int) + 20 := by omega
      by_cases hkn : k < n
      · have hknI : (k : Int) < n := by omega
        obtain rfl := HA.out (by omega)
        have H1 : Hid (∀ {w1 : World} {L : List Res}, Tr w [] w1 L → w1.cell? ⟨db, doff + k, none⟩ = some (.int .i64 (G k))) := Lib.hid fun h => HR.out.keep h k hkn
        have H2 : Hid (∀ {w1 : World} {L : List Res}, Tr w [] w1 L → w1.cell? ⟨b, k, none⟩ = some (.int .i64 (G k))) := Lib.hid fun h => by
          have := HO.out.keep h k hlt
          rw [Nat.zero_add] at this
          rw [this]; simp only [gI, lentF]; rw [if_pos hkn]
        generalize G k = x at *
        go_upto_region 7 with (first | ((with_reducible refine (at_load (t := 3)) rfl ?_); refine wl_loadC rfl rfl Tryd.underlying3 rfl rfl (H1.out hs) ?_))
        go_wp2_with (first | ((with_reducible refine (at_load (t := 3)) rfl ?_); refine wl_loadC rfl rfl Tryd.underlying3 rfl rfl (H2.out hs) ?_))
        go_roundw
        case rel => exact ⟨k + 1, by omega, by go_num, hs⟩
        case measure => simp [intOf]; omega
      · have hknI : ¬ (k : Int) < n := by omega
        have H2 : Hid (∀ {w1 : World} {L : List Res}, Tr w [] w1 L → w1.cell? ⟨b, k, none⟩ = some (.int .i64 (-77))) := Lib.hid fun h => by
          have := HO.out.keep h k hlt
          rw [Nat.zero_add] at this
          rw [this]; simp only [gI, lentF]; rw [if_neg hkn]
        go_wp2_with (first | ((with_reducible refine (at_load (t := 3)) rfl ?_); refine wl_loadC rfl rfl Tryd.underlying3 rfl rfl (H2.out hs) ?_))
        go_roundw
        case rel => exact ⟨k + 1, by omega, by go_num, hs⟩
        case measure => simp [intOf]; omega
    · have hltI : ¬ (k : Int) < (n : Int) + 20 := by omega
      go_wp2
      go_ret
      exact ⟨rfl, hs⟩
theorem spoil_any (b N : Nat) (G : Nat → Int) (w : World) (hN : N ≤ 9223372036854775807) (h : w.heap[b]? = some (.cells (rowOf N (gI G)) 3 (0, 0))) :
    Calls Tryd.prog 14 #[.slice (some ⟨b, 0, none⟩) N N] w fun e w' => e = .returned (.tuple #[]) ∧ Tr w [b] w' [Res.blk b (rowOf N (gI (spoilK G N))) 3] := by
  have e0 : rowOf N (gI G) = rowOf N (gI (spoilK G 0)) := rowOf_congr fun i _ => by simp only [gI, spoilK]; rw [if_neg (by omega)]
  rw [e0] at h
  have hs := Tr.startB h
  clear h e0
  go_enter Tryd.func14, Tryd.ntmps14
  go_wp2_with fail
  go_loopw [2] (fun i wr => ∃ k : Nat, k ≤ N ∧ i = .int .i64 k ∧ Tr w [b] wr [Res.blk b (rowOf N (gI (spoilK G k))) 3]) (fun i _ => N - (intOf i).toNat)
  case atStart => exact ⟨0, Nat.zero_le _, rfl, hs⟩
  case round =>
    clear hs
    obtain ⟨k, hk2, rfl, hs⟩ := hrel
    by_cases hlt : k < N
    · have hltI : (k : Int) < N := by omega
      obtain ⟨y, hy⟩ : ∃ y : Int, (k : Int).tmod 3 = y := ⟨_, rfl⟩
      have hy2 : (k : Int) % 3 = y := by rw [← hy]; exact (Int.tmod_eq_emod_of_nonneg (by omega)).symm
      have hy3 : 0 ≤ y ∧ y < 3 := by omega
      have HST := Lib.hid (spoil_cells G k N (4 + y) (by rw [hy2]))
      clear hy2
      go_wp2_with (first
        | ((with_reducible refine at_store rfl ?_); refine wl_store1R hs rfl rfl size3 rfl rfl rfl 0 rfl hlt (gI (spoilK G (k + 1))) HST.out ?_; clear hs; intro w1 hs))
      go_roundw
      case rel => exact ⟨k + 1, by omega, by go_num, hs⟩
      case measure => simp [intOf]; omega
    · obtain rfl : k = N := by omega
      go_wp2
      exact bodyPost_end (results_none rfl _ _ _) rfl ⟨rfl, hs⟩
end Go.Proofs.YtfedfdcbhggipaaDoor
