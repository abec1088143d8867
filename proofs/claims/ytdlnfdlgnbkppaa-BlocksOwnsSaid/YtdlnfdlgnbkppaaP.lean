/- Need. -/
import Derived.Test.YtdlnfdlgnbkppaaNd
namespace Go.Proofs.Ytdlnfdlgnbkppaa
set_option linter.unusedVariables false
set_option linter.unusedSimpArgs false
open Go Go.Sp Go.RowKit

theorem way_tuple (k : Nat) : ∃ a b c : Int, wayV k = .tuple #[.int .i64 a, .int .i64 b, .int .i64 c, .int .i64 0] := by
  unfold wayV
  by_cases h1 : k < 12
  · exact ⟨_, _, _, if_pos h1⟩
  · by_cases h2 : k < 44
    · exact ⟨_, _, _, (if_neg h1).trans (if_pos h2)⟩
    · exact ⟨_, _, _, (if_neg h1).trans (if_neg h2)⟩
theorem addN_congr {x16 x17 : Int} {T : Nat → Int} {f h : Nat → Bool} (i : Nat) (e : ∀ j, j < 1102 → f j = h j) (j : Nat) (hj : j < 1102) : addN x16 x17 T f i j = addN x16 x17 T h i j := by
  have ej := e j hj
  unfold addN
  split
  · simp only [updP, ej]
  · split
    · split <;> simp only [updP, ej]
    · split <;> split <;> simp only [updP, ej]
theorem hole_step {x16 x17 : Int} {T : Nat → Int} {f : Nat → Bool} {FF : Nat → Int} {g : Nat → Nat} {k : Nat} (hg : g k < 1068) (h0 : FF (g k) = 0) (e : ∀ j, j < 1102 → f j = finF x16 x17 T (holF FF g k) j) (j : Nat) (hj : j < 1102) :
    addN x16 x17 T f (g k) j = finF x16 x17 T (holF FF g (k + 1)) j := by
  rw [addN_congr (g k) e j hj, holF_yes h0, fin_add _ _ _ _ hg j hj]
theorem fin_none {x16 x17 : Int} {T : Nat → Int} (j : Nat) (hj : j < 1102) : finF x16 x17 T (fun _ => false) j = false := by
  cases h : finF x16 x17 T (fun _ => false) j
  · rfl
  · rw [finF_iff _ _ _ _ hj] at h
    rcases h with ⟨_, h⟩ | ⟨_, _, _, _, h, _⟩ | ⟨_, _, _, _, h, _⟩ | ⟨_, _, _, h, _⟩ <;> exact absurd h (by simp)
theorem key_0 {i : Nat} (h : i < 12) : keyV i = .agg #[.int .i64 0, .int .i64 (i : Int), .int .i64 0] := by
  unfold keyV k1 k2 k3
  simp only [if_pos h, if_pos (show i < 44 by omega)]
theorem key_1 {i : Nat} (h0 : 12 ≤ i) (h : i < 44) : keyV i = .agg #[.int .i64 1, .int .i64 ((i : Int) - 12), .int .i64 0] := by
  unfold keyV k1 k2 k3
  simp only [if_neg (show ¬ i < 12 by omega), if_pos h]
theorem key_2 {i : Nat} (h0 : 44 ≤ i) (h : i < 1068) : keyV i = .agg #[.int .i64 2, .int .i64 (((i - 44) / 32 : Nat) : Int), .int .i64 (((i - 44) % 32 : Nat) : Int)] := by
  unfold keyV k1 k2 k3
  simp only [if_neg (show ¬ i < 12 by omega), if_neg (show ¬ i < 44 by omega), if_pos h]
theorem key_s : keyV 1068 = .agg #[.int .i64 1, .int .i64 (-1), .int .i64 0] := rfl
theorem key_d : keyV 1069 = .agg #[.int .i64 2, .int .i64 (-1), .int .i64 0] := rfl
theorem key_t {i : Nat} : keyV (1070 + i) = .agg #[.int .i64 2, .int .i64 (i : Int), .int .i64 (-1)] := by
  unfold keyV k1 k2 k3
  simp only [if_neg (show ¬ 1070 + i < 12 by omega), if_neg (show ¬ 1070 + i < 44 by omega), if_neg (show ¬ 1070 + i < 1068 by omega), if_neg (show ¬ 1070 + i < 1070 by omega), if_neg (show ¬ 1070 + i = 1068 by omega),
    show (((1070 + i : Nat) : Int) - 1070) = (i : Int) by omega]
theorem need_nil (x v : Value) (cs : Array Value) (hx : x = .agg cs) (w : World) : Calls Try.prog 24 #[.nilIface, x, v] w fun e w' => e = .returned (.tuple #[.int .i64 0, .int .i64 1]) ∧ Tr w [] w' [] := by
  have hs := Tr.refl w []
  subst hx
  go_enter Try.func24, Try.ntmps24
  go_wp2_with (first | ((with_reducible refine (at_box (t := 29)) rfl ?_); refine wl_boxA hs rfl rfl rfl ?_; clear hs; intro w1 xb hs))
  go_ret2
  exact ⟨rfl, hs.letgo⟩
set_option maxRecDepth 10000 in
theorem need_bad (X : Nat → Int) (mb : Nat) (w : World) {ao : Option Addr} {N c db doff : Nat} {G : Nat → Int} (I : Ints w (.slice ao N c) ao N c db doff G)
    (j : Nat) (hj : j < N) (hgood : ∀ i, i < j → 0 ≤ G i ∧ G i < 1068) (hbad : G j < 0 ∨ 1068 ≤ G j) :
    Calls Try.prog 24 #[.iface 37 (.pointer (some ⟨mb, 0, none⟩)), .agg (rowOf 18 (gI X)), .slice ao N c] w fun e w' => e = .returned (.tuple #[.int .i64 0, .int .i64 90]) ∧ Tr w [] w' [] := by
  have hs := Tr.refl w []
  have HI := Lib.hid I
  have hao := I.ao (by omega)
  subst hao
  have hmx := I.max
  have hle := I.le
  have hwfj := I.wf j hj
  unfold maxLen at hmx
  clear I
  have HG := Lib.hid hgood
  have HB := Lib.hid (fun w => way_no (G j) w hbad hwfj)
  clear hgood hbad hwfj
  unfold noWay at HB
  go_enter Try.func24, Try.ntmps24
  go_wp2_with (first | ((with_reducible refine (at_box (t := 29)) rfl ?_); refine wl_boxA hs rfl rfl rfl ?_; clear hs; intro w1 xb hs))
  go_loopw [29] (fun i wr => ∃ k : Nat, k ≤ j ∧ i = .int .i64 k ∧ Tr w [] wr [Res.blk xb (rowOf 18 (gI X)) 29]) (fun i _ => N - (intOf i).toNat)
  case atStart => exact ⟨0, by omega, rfl, hs⟩
  case round =>
    clear hs
    obtain ⟨k, hk, rfl, hs⟩ := hrel
    have hltI : (k : Int) < N := by omega
    by_cases hlt : k < j
    · obtain ⟨gk, hgk⟩ : ∃ m : Nat, G k = m := ⟨(G k).toNat, by have := (HG.out k hlt).1; omega⟩
      have hm : gk < 1068 := by have := (HG.out k hlt).2; omega
      have HV : Hid (∀ w' L, Tr w [] w' L → w'.cell? ⟨db, doff + k, none⟩ = some (.int .i64 (gk : Int))) := Lib.hid fun w' L h => by rw [← hgk]; exact (HI.out.keep h).rd k (by omega)
      obtain ⟨a1, a2, a3, ha⟩ := way_tuple gk
      have HW := Lib.hid (fun w => way_yes gk w hm)
      rw [ha] at HW
      clear hgk ha
      go_wp2_with (first | ((with_reducible refine at_index rfl ?_); refine wl_index rfl rfl Try.underlying33 size3 rfl rfl k rfl (by omega) rfl ?_) | ((with_reducible refine (at_load (t := 3)) rfl ?_); refine wl_loadC rfl rfl Try.underlying3 rfl rfl (by rw [Nat.mul_one]; exact HV.out _ _ hs) ?_) | (go_at_call 13; refine (HW.out _).mono ?_; rintro e w2 ⟨rfl, rfl⟩))
      go_roundw
      case rel => exact ⟨k + 1, by omega, by go_num, hs⟩
      case measure => simp [intOf]; omega
    · obtain rfl : k = j := by omega
      have HV : Hid (∀ w' L, Tr w [] w' L → w'.cell? ⟨db, doff + k, none⟩ = some (.int .i64 (G k))) := Lib.hid fun w' L h => (HI.out.keep h).rd k (by omega)
      generalize G k = gk at *
      go_wp2_with (first | ((with_reducible refine at_index rfl ?_); refine wl_index rfl rfl Try.underlying33 size3 rfl rfl k rfl (by omega) rfl ?_) | ((with_reducible refine (at_load (t := 3)) rfl ?_); refine wl_loadC rfl rfl Try.underlying3 rfl rfl (by rw [Nat.mul_one]; exact HV.out _ _ hs) ?_) | (go_at_call 13; refine (HB.out _).mono ?_; rintro e w2 ⟨rfl, rfl⟩))
      go_ret2
      exact ⟨rfl, hs.letgo⟩
end Go.Proofs.Ytdlnfdlgnbkppaa
