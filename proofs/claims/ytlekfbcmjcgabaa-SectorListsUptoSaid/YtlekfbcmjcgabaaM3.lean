/- The reference's Join: contract. -/
import Derived.Test.YtlekfbcmjcgabaaM2
namespace Go.Proofs.Ytlekfbcmjcgabaa
set_option linter.unusedVariables false
set_option linter.unusedSimpArgs false
open Go Go.Sp Go.RowKit

theorem join_snoc (G : Nat → UInt8) (n : Nat) (x : Int) (hx : x = ((G n).toNat : Int)) : (rowOf n (u8v G)).toList ++ [Value.int .u8 x] = (rowOf (n + 1) (u8v G)).toList := by
  rw [← rowOf_append n 1 (u8v G)]
  congr 1
  have e : ∀ i, i < 1 → (fun j => u8v G (n + j)) i = Value.int .u8 x := fun i hi => by
    obtain rfl : i = 0 := by omega
    simp only [u8v, Nat.add_zero, hx]
  rw [rowOf_congr (g := fun _ => Value.int .u8 x) e, ← rowOf_ext (n := 1) (cs := #[Value.int .u8 x]) (f := fun _ => Value.int .u8 x) rfl fun i hi => by
    obtain rfl : i = 0 := by omega
    rfl]
theorem one_news {w : World} {b : Nat} {x : Value} {t : TypeId} (h : w.heap[b]? = some (.cells #[x] t (0, 0))) : ∀ j u, [x][j]? = some u → w.cell? ⟨b, 0 + j, none⟩ = some u := fun j u hj => by
  rw [Nat.zero_add, cell_of_row w b j #[x] t (0, 0) h]; simpa using hj
set_option maxHeartbeats 1000000 in
theorem rjoin_any (N : Int) (m cap : Nat) (so : Option Addr) (sb soff : Nat) (G : Nat → UInt8) (w : World) (hN2 : N ≤ 9223372036854775807) (hN1 : -9223372036854775808 ≤ N) (hm : m ≤ 1048576) (hso : 0 < m → so = some ⟨sb, soff, none⟩) (hrd : Rd w sb soff (m * 128) (u8v G)) (K : Nat) (hK : K = min N.toNat (m * 128)) :
    Calls Try.prog 20 #[.int .i64 N, .slice so m cap] w fun e w' => ∃ v, e = .returned v ∧ Tr w [] w' [Res.own 5 1 v K (rowOf K (u8v G)).toList] := by
  have hs := (Tr.refl w []).addNil 5 1
  have HR := Lib.hid hrd
  have HS := Lib.hid hso
  have HK := Lib.hid hK
  clear hrd hso hK
  go_enter Try.func20, Try.ntmps20
  go_wp2
  go_loopw [5, 6] (fun o iv wr => ∃ (i c : Nat) (v : Value), i ≤ m ∧ iv = .int .i64 i ∧ o = v ∧ Hid (c = min N.toNat (i * 128)) ∧ Tr w [] wr [Res.own 5 1 v c (rowOf c (u8v G)).toList]) (fun _ iv _ => m - (intOf iv).toNat)
  case atStart => exact ⟨0, 0, _, by omega, rfl, rfl, Lib.hid (by omega), by rw [rowOf_nil]; exact hs⟩
  case round =>
    clear hs
    obtain ⟨i, c, v, hk, rfl, rfl, HC, hs⟩ := hrel
    by_cases hlt : i < m
    · have hltI : (i : Int) < m := by omega
      obtain rfl := HS.out (by omega)
      have HV : Hid (∀ k, k < 128 → ∀ w' L, Tr w [] w' L → w'.cell? ⟨sb, soff + i * 128 + k * 1, none⟩ = some (.int .u8 ((G (i * 128 + k)).toNat : Int))) := Lib.hid fun k hk w' L h => by
        rw [show soff + i * 128 + k * 1 = soff + (i * 128 + k) by omega]
        exact HR.out.keep h (i * 128 + k) (by omega)
      go_wp2
      go_loopw [5, 7] (fun o kv wr => ∃ (k c : Nat) (v : Value), k ≤ 128 ∧ kv = .int .i64 k ∧ o = v ∧ Hid (c = min N.toNat (i * 128 + k)) ∧ Tr w [] wr [Res.own 5 1 v c (rowOf c (u8v G)).toList]) (fun _ kv _ => 128 - (intOf kv).toNat)
      case atStart => exact ⟨0, c, _, by omega, rfl, rfl, Lib.hid (by have := HC.out; omega), hs⟩
      case round =>
        clear hs HC
        obtain ⟨k, c, v, hk2, rfl, rfl, HC, hs⟩ := hrel
        obtain ⟨ao2, c2, g, hv, _, _, hao2, _⟩ := hs.own_open 0 rfl
        subst hv
        have hc1 : c ≤ 134217728 := by have := HC.out; omega
        by_cases hkt : k < 128
        · have hktI : (k : Int) < 128 := by omega
          by_cases hcn : (c : Int) < N
          · have hce : c = i * 128 + k := by have := HC.out; omega
            have HV1 := Lib.hid (HV.out k hkt)
            have HJ := Lib.hid (join_snoc G c _ rfl)
            rw [← hce] at HV1
            have Hce := Lib.hid hce
            clear hce
            generalize ((G c).toNat : Int) = gc at *
            go_wp2_with (first | ((with_reducible refine (at_index (t := 25)) rfl ?_); refine wl_index rfl rfl Try.underlying25 size30 rfl rfl i rfl hlt rfl ?_) | ((with_reducible refine (at_index (t := 30)) rfl ?_); refine wl_run rfl (ex_indexA rfl Try.underlying30 size5 rfl rfl k rfl hkt) ?_) | ((with_reducible refine at_load rfl ?_); refine wl_loadC rfl rfl Try.underlying5 rfl rfl (HV1.out _ _ hs) ?_) | ((with_reducible refine at_buildSlice rfl ?_); refine wl_buildSliceV hs rfl rfl Try.underlying23 info5 (by omega) (by omega) [.int .u8 gc] rfl rfl (by simp [Value.oneCell']) ?_; clear hs; intro w1 eb hs) | ((with_reducible refine (at_bi .append) rfl ?_); refine wl_append hs rfl rfl Try.underlying23 info5 rfl (by omega) 1 rfl rfl rfl eb 0 rfl [.int .u8 gc] rfl (one_news (hs.getB 0 rfl)) (by simp [Value.oneCell']) (by unfold maxLen; omega) (by omega) ?_; rw [HJ.out]; clear hs; intro w1 v' hs hnil; clear hnil))
            go_roundw
            case rel => exact ⟨k + 1, c + 1, _, by omega, by go_num, rfl, Lib.hid (by have h1 := HC.out; have h2 := Hce.out; omega), hs.erase 0⟩
            case measure => simp [intOf]; omega
          · have t1 : decide ((c : Int) < N) = false := decide_eq_false hcn
            go_wp2
            go_roundw
            case rel => exact ⟨i + 1, c, _, by omega, by go_num, rfl, Lib.hid (by have h1 := HC.out; omega), hs⟩
            case measure => simp [intOf]; omega
        · obtain rfl : k = 128 := by omega
          go_wp2
          go_roundw
          case rel => exact ⟨i + 1, c, _, by omega, by go_num, rfl, Lib.hid (by have h1 := HC.out; omega), hs⟩
          case measure => simp [intOf]; omega
    · obtain rfl : i = m := by omega
      obtain rfl : c = K := by have h1 := HC.out; have h2 := HK.out; omega
      go_wp2
      go_ret
      exact ⟨_, rfl, hs⟩
end Go.Proofs.Ytlekfbcmjcgabaa
