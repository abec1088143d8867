/- lend, unchanged, told. -/
import Derived.Test.YtlekfbcmjcgabaaRows
import Derived.Test.YtlekfbcmjcgabaaWl
import Derived.Test.YtlekfbcmjcgabaaWq
import Derived.Test.YtlekfbcmjcgabaaPlain
import Derived.BigQuiet
import Derived.WalkSpells
import Derived.WalkLawsBesides
import Derived.Test.YtlekfbcmjcgabaaH
namespace Go.Proofs.Ytlekfbcmjcgabaa
set_option linter.unusedVariables false
set_option linter.unusedSimpArgs false
open Go Go.Sp Go.RowKit Go.BigFrame

/-- Lent bytes: marks behind them. -/
def lentF (G : Nat → UInt8) (n : Nat) : Nat → UInt8 := fun i => if i < n then G i else UInt8.ofNat (130 + i - n)
def lentK (G : Nat → UInt8) (n k : Nat) : Nat → UInt8 := fun i => if i < n then G i else if i < k then UInt8.ofNat (130 + i - n) else 0
theorem lent_cells (G : Nat → UInt8) (n k : Nat) (hk : n ≤ k) (hk8 : k < n + 8) (x : Int) (hx : x = 130 + (k : Int) - n) : ∀ j, j < n + 8 → (if j = k then Value.int .u8 x else u8v (lentK G n k) j) = u8v (lentK G n (k + 1)) j := by
  intro j hj
  subst hx
  simp only [u8v, lentK]
  by_cases h : j = k
  · subst h
    rw [if_pos rfl, if_neg (by omega), if_pos (by omega)]
    congr 1
    rw [UInt8.toNat_ofNat']
    omega
  · rw [if_neg h]
    by_cases h2 : j < n
    · rw [if_pos h2, if_pos h2]
    · rw [if_neg h2, if_neg h2]
      by_cases h3 : j < k
      · rw [if_pos h3, if_pos (by omega)]
      · rw [if_neg h3, if_neg (by omega)]
theorem zmake5 (m i : Nat) (_ : i < m) : (Value.int .u8 0).cells[i % (Value.int .u8 0).cells.size]! = u8v (fun _ => 0) i := by
  have e : i % (Value.int .u8 0).cells.size = 0 := Nat.mod_one i
  rw [e]
  rfl
theorem lend_any (ao : Option Addr) (n cap db doff : Nat) (G : Nat → UInt8) (w : World) (hn : n ≤ 140737488351232) (hao : 0 < n → ao = some ⟨db, doff, none⟩) (hrd : Rd w db doff n (u8v G)) :
    Calls Try.prog 13 #[.slice ao n cap] w fun e w' => ∃ b, e = .returned (.slice (some ⟨b, 0, none⟩) (n + 8) (n + 8)) ∧ Tr w [] w' [Res.blk b (rowOf (n + 8) (u8v (lentF G n))) 5] := by
  have hs := Tr.refl w []
  have HA := Lib.hid hao
  have HR := Lib.hid hrd
  have HC := Lib.hid (lent_cells G n)
  have H0 : Hid (∀ j, j < n + 8 → (if 0 ≤ j ∧ j < 0 + n then u8v G (j - 0) else u8v (fun _ => 0) j) = u8v (lentK G n n) j) := Lib.hid fun j hj => by
    simp only [u8v, lentK]
    by_cases h : j < n
    · rw [if_pos (by omega), if_pos h, Nat.sub_zero]
    · rw [if_neg (by omega), if_neg h, if_neg h]
  have H8 : Hid (rowOf (n + 8) (u8v (lentK G n (n + 8))) = rowOf (n + 8) (u8v (lentF G n))) := Lib.hid (rowOf_congr fun i hi => by
    simp only [u8v, lentK, lentF]
    by_cases h : i < n
    · rw [if_pos h, if_pos h]
    · rw [if_neg h, if_neg h, if_pos hi])
  clear hao hrd
  go_enter Try.func13, Try.ntmps13
  go_wp2_with (first
    | ((with_reducible refine at_mk rfl ?_); refine wl_make hs rfl rfl Try.underlying23 info5 (n + 8) rfl rfl (by omega) (by omega) (by omega) (u8v fun _ => 0) (zmake5 _) ?_; rw [Nat.mul_one]; clear hs; intro w1 b hs)
    | ((with_reducible refine (at_bi .copy) rfl ?_); refine wl_copy1 hs rfl rfl Try.underlying23 size5 rfl rfl n (by omega) 0 rfl 0 (fun _ => rfl) (by omega) db doff (u8v G) HA.out (HR.out.keep hs) (fun _ _ => rfl) (u8v (lentK G n n)) H0.out ?_; clear hs; intro w1 hs))
  go_loopw [4] (fun i wr => ∃ k : Nat, n ≤ k ∧ k ≤ n + 8 ∧ i = .int .i64 k ∧ Tr w [] wr [Res.blk b (rowOf (n + 8) (u8v (lentK G n k))) 5]) (fun i _ => n + 8 - (intOf i).toNat)
  case atStart => exact ⟨n, Nat.le_refl _, by omega, rfl, hs⟩
  case round =>
    clear hs
    obtain ⟨k, hk1, hk2, rfl, hs⟩ := hrel
    by_cases hlt : k < n + 8
    · have hltI : (k : Int) < (n : Int) + 8 := by omega
      go_wp2_with (first
        | ((with_reducible refine at_store rfl ?_); refine wl_store1R hs rfl rfl size5 rfl rfl rfl 0 rfl hlt (u8v (lentK G n (k + 1))) (HC.out k hk1 hlt _ rfl) ?_; clear hs; intro w1 hs))
      go_roundw
      case rel => exact ⟨k + 1, by omega, by omega, by go_num, hs⟩
      case measure => simp [intOf]; omega
    · obtain rfl : k = n + 8 := by omega
      rw [H8.out] at hs
      go_wp2
      go_ret
      exact ⟨_, rfl, hs⟩
theorem unchanged_any (b : Nat) (ao : Option Addr) (n cap db doff : Nat) (G : Nat → UInt8) (w : World) (hn : n ≤ 140737488351232) (hao : 0 < n → ao = some ⟨db, doff, none⟩) (hrd : Rd w db doff n (u8v G)) (hne : 0 < n → db ≠ b)
    (h : w.heap[b]? = some (.cells (rowOf (n + 8) (u8v (lentF G n))) 5 (0, 0))) :
    Calls Try.prog 15 #[.slice (some ⟨b, 0, none⟩) (n + 8) (n + 8), .slice ao n cap] w fun e w' => e = .returned (.bool true) ∧ ∃ f, Tr w [b] w' [Res.blk b (rowOf (n + 8) f) 5] := by
  have hs := Tr.startB h
  have HA := Lib.hid hao
  have HR := Lib.hid hrd
  have HN := Lib.hid hne
  clear hao hrd h hne
  go_enter Try.func15, Try.ntmps15
  go_wp2
  go_loopw [5] (fun i wr => ∃ (k : Nat) (f : Nat → Value), k ≤ n + 8 ∧ i = .int .i64 k ∧ (∀ j, k ≤ j → j < n + 8 → f j = u8v (lentF G n) j) ∧ Tr w [b] wr [Res.blk b (rowOf (n + 8) f) 5]) (fun i _ => n + 8 - (intOf i).toNat)
  case atStart => exact ⟨0, _, by omega, rfl, fun _ _ _ => rfl, hs⟩
  case round =>
    clear hs
    obtain ⟨k, f, hk, rfl, hf, hs⟩ := hrel
    have HF := Lib.hid hf
    clear hf
    by_cases hlt : k < n + 8
    · have hltI : (k : Int) < (n : Int) + 8 := by omega
      have HG : Hid ((rowOf (n + 8) f)[k]? = some (u8v (lentF G n) k)) := Lib.hid (by rw [rowOf_get hlt, HF.out k (Nat.le_refl _) hlt])
      have HX : Hid (∀ v : Value, ∀ j, j < n + 8 → (if j = k then v else f j) = (fun j => if j = k then v else f j) j) := Lib.hid fun _ _ _ => rfl
      by_cases hkn : k < n
      · have hknI : (k : Int) < n := by omega
        obtain rfl := HA.out (by omega)
        have HV : Hid (u8v (lentF G n) k = .int .u8 ((G k).toNat : Int)) := Lib.hid (by simp only [u8v, lentF]; rw [if_pos hkn])
        rw [HV.out] at HG
        clear HV
        go_wp2_with (first
          | ((with_reducible refine at_load rfl ?_); refine wl_loadC (v := .int .u8 ((G k).toNat : Int)) rfl rfl Try.underlying5 rfl rfl (HR.out.keepS hs (by simpa using HN.out (by omega)) k hkn) ?_)
          | ((with_reducible refine at_load rfl ?_); refine wl_load1 hs rfl rfl Try.underlying5 rfl rfl 0 rfl HG.out ?_)
          | ((with_reducible refine at_store rfl ?_); refine wl_store1R hs rfl rfl size5 rfl rfl rfl 0 rfl hlt _ (HX.out _) ?_; clear hs; intro w1 hs))
        go_roundw
        case rel => exact ⟨k + 1, _, by omega, by go_num, fun j h1 h2 => by rw [if_neg (by omega)]; exact HF.out j (by omega) h2, hs⟩
        case measure => simp [intOf]; omega
      · have hknI : ¬ (k : Int) < n := by omega
        have HV : Hid (u8v (lentF G n) k = .int .u8 (130 + (k : Int) - n)) := Lib.hid (by
          simp only [u8v, lentF]
          rw [if_neg hkn, UInt8.toNat_ofNat']
          congr 1
          omega)
        rw [HV.out] at HG
        clear HV
        go_wp2_with (first
          | ((with_reducible refine at_load rfl ?_); refine wl_load1 hs rfl rfl Try.underlying5 rfl rfl 0 rfl HG.out ?_)
          | ((with_reducible refine at_store rfl ?_); refine wl_store1R hs rfl rfl size5 rfl rfl rfl 0 rfl hlt _ (HX.out _) ?_; clear hs; intro w1 hs))
        go_roundw
        case rel => exact ⟨k + 1, _, by omega, by go_num, fun j h1 h2 => by rw [if_neg (by omega)]; exact HF.out j (by omega) h2, hs⟩
        case measure => simp [intOf]; omega
    · have hltI : ¬ (k : Int) < (n : Int) + 8 := by omega
      go_wp2
      go_ret
      exact ⟨rfl, _, hs⟩
end Go.Proofs.Ytlekfbcmjcgabaa
