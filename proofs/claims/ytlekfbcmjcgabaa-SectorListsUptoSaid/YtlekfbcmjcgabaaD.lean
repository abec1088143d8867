/- sector.Cut, Join: contracts. -/
import Derived.Test.YtlekfbcmjcgabaaRows
import Derived.Test.YtlekfbcmjcgabaaWl
import Derived.Test.YtlekfbcmjcgabaaWq
import Derived.Test.YtlekfbcmjcgabaaPlain
import Derived.BigQuiet
import Derived.WalkSpells
import Derived.WalkLawsBesides
import Derived.Test.YtlekfbcmjcgabaaA
namespace Go.Proofs.Ytlekfbcmjcgabaa
open Go Go.Sp Go.RowKit

/-- What an append of one more sector leaves. -/
theorem cut_app (G : Nat → UInt8) (n k : Nat) : (rowOf (k * 128) (u8v (cutF G n))).toList ++ (rowOf 128 (u8v fun j => cutF G n (k * 128 + j))).toList = (rowOf ((k + 1) * 128) (u8v (cutF G n))).toList := by
  rw [Nat.add_mul, Nat.one_mul]
  exact rowOf_append (k * 128) 128 (u8v (cutF G n))

theorem cut_cells (G : Nat → UInt8) (n k m : Nat) (hm : m = min (n - k * 128) 128) : ∀ j, j < 128 → (if 0 ≤ j ∧ j < 0 + m then u8v G (k * 128 + (j - 0)) else u8v (fun _ => 0) j) = u8v (fun j => cutF G n (k * 128 + j)) j := by
  intro j hj
  simp only [u8v, cutF]
  by_cases h : j < m
  · rw [if_pos (by omega), if_pos (by omega)]; rfl
  · rw [if_neg (by omega), if_neg (by omega)]

theorem news30 {w0 w : World} {S : List Nat} {L : List Res} (hs : Tr w0 S w L) (i : Nat) {b : Nat} {cs : Array Value} {t : TypeId} (hi : L[i]? = some (Res.blk b cs t)) : ∀ j u, cs.toList[j]? = some u → w.cell? ⟨b, 0 + j, none⟩ = some u := fun j u hj => by
  rw [Nat.zero_add, cell_of_row w b j cs t (0, 0) (hs.getB i hi)]; simpa using hj

set_option maxHeartbeats 400000 in
theorem cut_any (G : Nat → UInt8) (n cap : Nat) (ao : Option Addr) (db doff : Nat) (w : World) (hn : n ≤ 140737488351232) (hc : n ≤ cap) (hao : 0 < n → ao = some ⟨db, doff, none⟩) (hrd : Rd w db doff n (u8v G)) :
    Calls Try.prog 14 #[.slice ao n cap] w fun e w' => ∃ v, e = .returned v ∧ Tr w [] w' [Res.own 30 128 v ((n + 127) / 128) (rowOf ((n + 127) / 128 * 128) (u8v (cutF G n))).toList] := by
  have hs := Tr.refl w []
  have HR := Lib.hid hrd
  have HA := Lib.hid hao
  clear hrd hao
  go_enter Try.func14, Try.ntmps14
  go_wp2
  go_loopw [0, 3] (fun d v wr => ∃ (k c' : Nat) (ao' : Option Addr), k * 128 < n + 128 ∧ d = .slice ao' (n - k * 128) c' ∧ n - k * 128 ≤ c' ∧ (0 < n - k * 128 → ao' = some ⟨db, doff + k * 128, none⟩) ∧
      Tr w [] wr [Res.own 30 128 v k (rowOf (k * 128) (u8v (cutF G n))).toList]) (fun d _ _ => lenV d)
  case atStart => exact ⟨0, cap, ao, by omega, by simp, by omega, fun h => by simpa using HA.out (by omega), by rw [Nat.zero_mul, rowOf_nil]; exact Tr.own0 _ _ _ _⟩
  case round =>
    clear hs
    obtain ⟨k, c', ao', hk, rfl, hc', hao', hs⟩ := hrel
    by_cases hlt : k * 128 < n
    · have hlt' : 0 < n - k * 128 := by omega
      obtain rfl := hao' hlt'
      go_wp2_with (first
        | ((with_reducible refine at_alloc rfl ?_); refine wl_allocA hs rfl rfl zero30 ?_; clear hs; intro w1 b hs)
        | ((with_reducible refine at_slice rfl ?_); refine wl_sliceA rfl rfl Try.underlying30 size5 rfl 0 128 (Or.inl ⟨rfl, rfl⟩) (Or.inl ⟨rfl, rfl⟩) (by omega) (by omega) ?_; intro ao2 hao2)
        | ((with_reducible refine (at_bi .copy) rfl ?_); refine wl_copy1 hs rfl rfl Try.underlying23 size5 rfl rfl (min (n - k * 128) 128) (by omega) 0 rfl 0 (fun hh => by first | rfl | (rw [hao2 (by omega)])) (by omega) db (doff + k * 128) (fun j => u8v G (k * 128 + j)) (fun _ => rfl) ((HR.out.keep hs).sub (k * 128) _ (by omega)) (fun _ _ => rfl) (u8v fun j => cutF G n (k * 128 + j)) (cut_cells G n k _ rfl) ?_; clear hs hao2; intro w1 hs)
        | ((with_reducible refine at_slice rfl ?_); refine wl_slice rfl rfl Try.underlying23 size5 rfl (min (n - k * 128) 128) (n - k * 128) (Or.inr ⟨_, _, rfl, rfl⟩) (Or.inl ⟨rfl, rfl⟩) (by omega) (by omega) (fun _ => rfl) ?_; intro ao3 hao3)
        | ((with_reducible refine at_load rfl ?_); refine wl_loadB hs rfl rfl Try.underlying30 rfl 0 rfl size30 ?_)
        | ((with_reducible refine at_buildSlice rfl ?_); refine wl_buildSlice1A hs rfl rfl Try.underlying25 info30 (by omega) (by omega) rfl (rowOf_size _ _) ?_; clear hs; intro w1 b3 hs)
        | ((with_reducible refine (at_bi .append) rfl ?_); refine wl_append hs rfl rfl Try.underlying25 info30 zc30 (by omega) 2 rfl rfl rfl b3 0 rfl (rowOf 128 (u8v fun j => cutF G n (k * 128 + j))).toList (by simp) (news30 hs 0 rfl) (one30 _) (by unfold maxLen; omega) (by omega) ?_; rw [cut_app]; clear hs; intro w1 v' hs hnil))
      go_roundw
      case rel => exact ⟨k + 1, _, ao3, by omega, by congr 1; omega, by omega, fun h => by rw [hao3 (by omega)]; congr 2; omega, (hs.erase 0).erase 0⟩
      case measure => simp only [lenV]; omega
    · go_wp2
      go_ret
      obtain rfl : k = (n + 127) / 128 := by omega
      exact ⟨_, rfl, hs⟩
/-- What an append of some bytes leaves. -/
theorem join_app (G : Nat → UInt8) (l m : Nat) : (rowOf l (u8v G)).toList ++ (rowOf m (u8v fun j => G (l + j))).toList = (rowOf (l + m) (u8v G)).toList := rowOf_append l m (u8v G)

theorem join_neg (N : Int) (m cap : Nat) (so : Option Addr) (sb soff : Nat) (G : Nat → UInt8) (w : World) (hN : N ≤ 0) (hm : m * 128 ≤ 140737488355328) (hso : 0 < m → so = some ⟨sb, soff, none⟩) (hrd : Rd w sb soff (m * 128) (u8v G)) :
    Calls Try.prog 19 #[.int .i64 N, .slice so m cap] w fun e w' => e = .returned (.slice none 0 0) ∧ Tr w [] w' [] := by
  have hs := Tr.refl w []
  have HR := Lib.hid hrd
  clear hrd
  by_cases hm0 : 0 < m
  · obtain rfl := hso hm0
    have hm1 : (0 : Int) < (m : Int) := by omega
    go_enter Try.func19, Try.ntmps19
    go_wp2
    refine wp_loop_once ?_
    go_wp2_with (first
      | ((with_reducible refine at_index rfl ?_); refine wl_index rfl rfl Try.underlying25 size30 rfl rfl 0 rfl hm0 rfl ?_)
      | ((with_reducible refine at_load rfl ?_); refine wl_loadM rfl rfl Try.underlying30 rfl size30 rfl (f := u8v G) (fun j hj => HR.out.keep hs j (by omega)) ?_)
      | ((with_reducible refine at_alloc rfl ?_); refine wl_allocA hs rfl rfl zero30 ?_; clear hs; intro w1 b hs)
      | ((with_reducible refine at_store rfl ?_); refine wl_storeA hs rfl rfl rfl rfl (size30r _) (one30 _) 0 rfl (by simp only [rowOf_size]) ?_; clear hs; intro w1 hs))
    go_ret
    exact ⟨rfl, hs.letgo⟩
  · obtain rfl : m = 0 := by omega
    go_enter Try.func19, Try.ntmps19
    go_wp2
    refine wp_loop_once ?_
    go_wp2
    go_ret
    exact ⟨rfl, hs⟩

theorem newsU8 {w0 w : World} {S : List Nat} {L : List Res} (hs : Tr w0 S w L) (i : Nat) {b N : Nat} {F : Nat → UInt8} {t : TypeId} (hi : L[i]? = some (Res.blk b (rowOf N (u8v F)) t)) {m : Nat} (hm : m ≤ N) :
    ∀ j u, (rowOf m (u8v F)).toList[j]? = some u → w.cell? ⟨b, 0 + j, none⟩ = some u := fun j u hj => by
  rw [Nat.zero_add, cell_of_row w b j _ t (0, 0) (hs.getB i hi)]
  simp only [Array.getElem?_toList, rowOf_getElem?] at hj ⊢
  by_cases h : j < m
  · rw [if_pos h] at hj; rw [if_pos (by omega)]; exact hj
  · rw [if_neg h] at hj; cases hj
theorem oneU8 (n : Nat) (F : Nat → UInt8) : ∀ v ∈ (rowOf n (u8v F)).toList, v.oneCell' = true := rowOf_one _ _ fun _ _ => rfl

set_option maxHeartbeats 1000000 in
theorem join_pos (N m cap : Nat) (so : Option Addr) (sb soff : Nat) (G : Nat → UInt8) (w : World) (hN : 0 < N) (hN2 : N ≤ 9223372036854775807) (hm : m * 128 ≤ 140737488355328) (hso : 0 < m → so = some ⟨sb, soff, none⟩) (hrd : Rd w sb soff (m * 128) (u8v G)) :
    Calls Try.prog 19 #[.int .i64 (N : Int), .slice so m cap] w fun e w' => ∃ v, e = .returned v ∧ Tr w [] w' [Res.own 5 1 v (min N (m * 128)) (rowOf (min N (m * 128)) (u8v G)).toList] := by
  have HR := Lib.hid hrd
  have HS := Lib.hid hso
  clear hrd hso
  go_enter Try.func19, Try.ntmps19
  go_wp2
  go_loopw [5, 10] (fun v i wr => ∃ k : Nat, k ≤ m ∧ i = .int .i64 k ∧ Tr w [] wr [Res.own 5 1 v (min N (k * 128)) (rowOf (min N (k * 128)) (u8v G)).toList]) (fun _ i _ => m - (intOf i).toNat)
  case atStart => exact ⟨0, Nat.zero_le _, rfl, by rw [Nat.zero_mul, Nat.min_zero, rowOf_nil]; exact Tr.own0 _ _ _ _⟩
  case round =>
    obtain ⟨k, hk, rfl, hs⟩ := hrel
    by_cases hlt : k < m
    · obtain rfl := HS.out (by omega)
      by_cases hb : N ≤ k * 128
      · have HE := Lib.hid (show min N (m * 128) = N by omega)
        have hl : min N (k * 128) = N := by omega
        rw [hl] at hs
        clear hl
        obtain ⟨ao', c, rfl, hc1, hc2, hao'⟩ := hs.own_shape 0 rfl
        go_wp2_with (first
          | ((with_reducible refine at_index rfl ?_); refine wl_index rfl rfl Try.underlying25 size30 rfl rfl k rfl hlt rfl ?_)
          | ((with_reducible refine at_load rfl ?_); refine wl_loadM rfl rfl Try.underlying30 rfl size30 rfl (f := u8v fun j => G (k * 128 + j)) ((HR.out.keep hs).sub (k * 128) 128 (by omega)) ?_)
          | ((with_reducible refine at_alloc rfl ?_); refine wl_allocA hs rfl rfl zero30 ?_; clear hs; intro w1 b hs)
          | ((with_reducible refine at_store rfl ?_); refine wl_storeA hs rfl rfl rfl rfl (size30r _) (one30 _) 0 rfl (by simp only [rowOf_size]) ?_; clear hs; intro w1 hs))
        go_ret
        exact ⟨_, rfl, by rw [HE.out]; exact hs.erase 0⟩
      · have hl : min N (k * 128) = k * 128 := by omega
        rw [hl] at hs
        clear hl
        obtain ⟨ao', c, rfl, hc1, hc2, hao'⟩ := hs.own_shape 0 rfl
        have hb' : k * 128 < N := by omega
        clear hb
        by_cases hq : k * 128 + 128 ≤ N
        · go_wp2_with (first
            | ((with_reducible refine at_index rfl ?_); refine wl_index rfl rfl Try.underlying25 size30 rfl rfl k rfl hlt rfl ?_)
            | ((with_reducible refine at_load rfl ?_); refine wl_loadM rfl rfl Try.underlying30 rfl size30 rfl (f := u8v fun j => G (k * 128 + j)) ((HR.out.keep hs).sub (k * 128) 128 (by omega)) ?_)
            | ((with_reducible refine at_alloc rfl ?_); refine wl_allocA hs rfl rfl zero30 ?_; clear hs; intro w1 b hs)
            | ((with_reducible refine at_store rfl ?_); refine wl_storeA hs rfl rfl rfl rfl (size30r _) (one30 _) 0 rfl (by simp only [rowOf_size]) ?_; clear hs; intro w1 hs)
            | ((with_reducible refine at_slice rfl ?_); refine wl_sliceA rfl rfl Try.underlying30 size5 rfl 0 (128) (Or.inl ⟨rfl, rfl⟩) (Or.inr ⟨_, _, rfl, rfl⟩) (by omega) (by omega) ?_; intro ao2 hao2)
            | ((with_reducible refine (at_bi .append) rfl ?_); (refine wl_append hs rfl rfl Try.underlying23 info5 rfl (by omega) 1 rfl rfl rfl b 0 (by first | rfl | exact hao2 (by omega)) (rowOf (128) (u8v fun j => G (k * 128 + j))).toList (by simp) (newsU8 hs 0 rfl (by omega)) (oneU8 _ _) (by unfold maxLen; omega) (by omega) ?_; rw [join_app]; clear hs; intro w1 v' hs hnil)))
          go_roundw
          case rel => exact ⟨k + 1, by omega, by go_num, by rw [show min N ((k + 1) * 128) = k * 128 + 128 by omega]; exact hs.erase 0⟩
          case measure => simp [intOf]; omega
        · have hq' : N < k * 128 + 128 := by omega
          clear hq
          go_wp2_with (first
            | ((with_reducible refine at_index rfl ?_); refine wl_index rfl rfl Try.underlying25 size30 rfl rfl k rfl hlt rfl ?_)
            | ((with_reducible refine at_load rfl ?_); refine wl_loadM rfl rfl Try.underlying30 rfl size30 rfl (f := u8v fun j => G (k * 128 + j)) ((HR.out.keep hs).sub (k * 128) 128 (by omega)) ?_)
            | ((with_reducible refine at_alloc rfl ?_); refine wl_allocA hs rfl rfl zero30 ?_; clear hs; intro w1 b hs)
            | ((with_reducible refine at_store rfl ?_); refine wl_storeA hs rfl rfl rfl rfl (size30r _) (one30 _) 0 rfl (by simp only [rowOf_size]) ?_; clear hs; intro w1 hs)
            | ((with_reducible refine at_slice rfl ?_); refine wl_sliceA rfl rfl Try.underlying30 size5 rfl 0 (N - k * 128) (Or.inl ⟨rfl, rfl⟩) (Or.inr ⟨_, _, rfl, (by show Value.int _ _ = Value.int _ _; congr 1; omega)⟩) (by omega) (by omega) ?_; intro ao2 hao2)
            | ((with_reducible refine (at_bi .append) rfl ?_); (refine wl_append hs rfl rfl Try.underlying23 info5 rfl (by omega) 1 rfl rfl rfl b 0 (by first | rfl | exact hao2 (by omega)) (rowOf (N - k * 128) (u8v fun j => G (k * 128 + j))).toList (by simp) (newsU8 hs 0 rfl (by omega)) (oneU8 _ _) (by unfold maxLen; omega) (by omega) ?_; rw [join_app]; clear hs; intro w1 v' hs hnil)))
          go_roundw
          case rel => exact ⟨k + 1, by omega, by go_num, by rw [show min N ((k + 1) * 128) = k * 128 + (N - k * 128) by omega]; exact hs.erase 0⟩
          case measure => simp [intOf]; omega
    · obtain rfl : k = m := by omega
      go_wp2
      go_ret
      exact ⟨_, rfl, hs⟩
end Go.Proofs.Ytlekfbcmjcgabaa
