/- Needs. -/
import Derived.Test.YtdlnfdlgnbkppaaP5
namespace Go.Proofs.Ytdlnfdlgnbkppaa
set_option linter.unusedVariables false
set_option linter.unusedSimpArgs false
open Go Go.Sp Go.RowKit

theorem zc3 : (Value.int .i64 0).cells.size = 1 := rfl
theorem oneGI (n : Nat) (G : Nat → Int) : ∀ u ∈ (rowOf n (gI G)).toList, u.oneCell' = true := rowOf_one _ _ fun _ _ => rfl
def D2 (G : Nat → Int) (N : Nat) : Nat → Int := fun j => if j < N then G j else if j = N then 91 else 92
theorem full_cells {G : Nat → Int} {N c : Nat} {cur : Array Value} {f : Nat → Value} (hf : ∀ i, i < c → cur[i]? = some (f i)) (hc : N + 2 ≤ c) (hcs : cur.size = c * 1) (ht : cur.toList.take ((N + 2) * 1) = (rowOf N (gI G)).toList ++ [Value.int .i64 91, .int .i64 92]) :
    ∀ j, j < N + 2 → f j = .int .i64 (D2 G N j) := by
  intro j hj
  have h1 := hf j (by omega)
  have h2 : (cur.toList.take ((N + 2) * 1))[j]? = some (f j) := by
    rw [List.getElem?_take, if_pos (by omega), Array.getElem?_toList, h1]
  rw [ht] at h2
  unfold D2
  by_cases h : j < N
  · rw [List.getElem?_append_left (by simpa using h), Array.getElem?_toList, rowOf_gI h] at h2
    rw [if_pos h]; exact (Option.some.inj h2).symm
  · rw [List.getElem?_append_right (by simp; omega)] at h2
    simp only [Array.length_toList, rowOf_size] at h2
    rcases (by omega : j = N ∨ j = N + 1) with rfl | rfl
    · rw [Nat.sub_self] at h2
      rw [if_neg h, if_pos rfl]; exact (Option.some.inj h2).symm
    · rw [show N + 1 - N = 1 by omega] at h2
      rw [if_neg h, if_neg (by omega)]; exact (Option.some.inj h2).symm
theorem mine_ints {w0 w : World} {S : List Nat} {L : List Res} (hs : Tr w0 S w L) (i : Nat) {b c n N : Nat} {f : Nat → Value} {ao : Option Addr} {Y : Nat → Int} (hi : L[i]? = some (Res.blk b (rowOf c f) 3)) (hN : N ≤ c) (hnc : N ≤ n) (hcm : n ≤ maxLen) (hao : 0 < N → ao = some ⟨b, 0, none⟩) (hf : ∀ j, j < N → f j = .int .i64 (Y j))
    (hwf : ∀ j, j < N → -9223372036854775808 ≤ Y j ∧ Y j ≤ 9223372036854775807) : Ints w (.slice ao N n) ao N n b 0 Y :=
  ⟨rfl, hnc, hcm, hao, (hs.rd0 i hi hN).congr fun j hj => hf j hj, hwf⟩
set_option maxRecDepth 20000 in
set_option maxHeartbeats 1000000 in
theorem needs_walk (X : Nat → Int) (s : Src) (w : World) {ao1 ao2 : Option Addr} {N c1 db1 do1 M c2 db2 do2 : Nat} {G O : Nat → Int} (hI : s.In w) (I : Ints w (.slice ao1 N c1) ao1 N c1 db1 do1 G) (J : Ints w (.slice ao2 M c2) ao2 M c2 db2 do2 O) (hz : ao1 = none → c1 = 0) (hsz : N * 8 ≤ 140737488351232) :
    Calls Try.prog 6 #[.agg (rowOf 21 (fileC X s)), .slice ao1 N c1, .slice ao2 M c2] w fun e w' => e = .returned (.bool true) ∧ Below w.heap.size w w' := by
  have hs := Tr.refl w []
  have H := Lib.hid hI
  have HI := Lib.hid I
  have HJ := Lib.hid J
  have HZ := Lib.hid hz
  have m1 := I.max
  have l1 := I.le
  have m2 := J.max
  have l2 := J.le
  unfold maxLen at m1 m2
  clear I J hI hz
  go_enter Try.func6, Try.ntmps6
  go_upto_region 5 with (first | ((with_reducible refine (at_box (t := 32)) rfl ?_); refine wl_boxA hs rfl rfl rfl ?_; clear hs; intro w1 fb hs) | (go_at_call 12; refine (known_any _).mono ?_; rintro e w2 ⟨rfl, hc⟩; replace hs := hs.call0 hc; clear hc) | ((with_reducible refine (at_load (t := 32)) rfl ?_); refine wl_loadA hs rfl rfl Try.underlying32 rfl rfl 0 rfl (size32 _) ?_) | (go_at_call 15; refine (source_any X s _).mono ?_; rintro e w2 ⟨rfl, hc⟩; replace hs := hs.call0 hc; clear hc) | ((with_reducible refine (at_alloc (t := 35)) rfl ?_); refine wl_allocA hs rfl rfl zero35 ?_; clear hs; intro w1 sb hs) | ((with_reducible refine (at_store (t := 35)) rfl ?_); refine wl_storeA hs rfl rfl rfl rfl size35 (by simp [Value.oneCell']) 0 rfl rfl ?_; clear hs; intro w1 hs))
  go_upto_region 6 with (first | ((with_reducible refine (at_load (t := 35)) rfl ?_); refine wl_loadA hs rfl rfl Try.underlying35 rfl rfl 0 rfl size35 ?_) | ((with_reducible refine (at_build (t := 39)) rfl ?_); refine wl_buildP rfl rfl (_) (by rfl) ((built39 _ s.bad s.code s.N s.c s.ao rfl)) ?_) | ((with_reducible refine (at_box (t := 39)) rfl ?_); refine wl_boxA hs rfl rfl rfl ?_; clear hs; intro w1 mb hs))
  replace hs : Tr w [] w1 [Res.blk mb s.cs 39, Res.blk sb s.cs 35, Res.blk fb (rowOf 21 (fileC X s)) 32] := hs
  go_upto_region 7 with (first
    | ((with_reducible refine (at_buildSlice (n := 0)) rfl ?_); refine wl_slice0 hs rfl rfl Try.underlying33 size3 ?_; clear hs; intro w1 ve hs)
    | ((with_reducible refine (at_buildSlice (n := 2)) rfl ?_); refine wl_buildSliceV hs rfl rfl Try.underlying33 info3 (by omega) (by omega) [.int .i64 91, .int .i64 92] rfl rfl (by simp [Value.oneCell']) ?_; clear hs; intro w1 eb hs)
    | ((with_reducible refine (at_bi .append) rfl ?_); refine wl_appendG hs rfl rfl Try.underlying33 info3 rfl (by omega) 0 rfl rfl rfl HZ.out db1 do1 HI.out.ao (rowOf N (gI G)).toList (by simp) ((HI.out.keep hs).rd.news) (oneGI _ _) (by unfold maxLen; omega) (by omega) ?_; clear hs; intro w1 ve hs)
    | ((with_reducible refine (at_bi .append) rfl ?_); refine wl_append1 hs rfl rfl Try.underlying33 info3 rfl (by omega) 1 rfl rfl 0 rfl rfl rfl (by simp [Value.oneCell']) (by unfold maxLen; omega) (by omega) ?_; clear hs; intro w1 v1 hs))
  have hs3 : Tr w [] w1 [Res.blk eb #[.int .i64 91, .int .i64 92] 3, Res.own 3 1 v1 (N + 2) ((rowOf N (gI G)).toList ++ [.int .i64 91, .int .i64 92]), Res.blk mb s.cs 39, Res.blk sb s.cs 35, Res.blk fb (rowOf 21 (fileC X s)) 32] := by
    have h := hs
    rw [List.nil_append, Nat.zero_add] at h
    exact h
  clear hs
  obtain ⟨gb, c, cur, hv, hNc, hcm, hcur, htk, hs4⟩ := hs3.own_block 1 rfl (by omega)
  subst hv
  obtain ⟨f, hf, hfa⟩ := row_of cur c (by omega)
  have hfc := full_cells hfa hNc hcur htk
  subst hf
  have hs : Tr w [] w1 [Res.blk eb #[.int .i64 91, .int .i64 92] 3, Res.blk gb (rowOf c f) 3, Res.blk mb s.cs 39, Res.blk sb s.cs 35, Res.blk fb (rowOf 21 (fileC X s)) 32] := hs4
  have hfG : Hid (∀ j, j < N → f j = .int .i64 (G j)) := Lib.hid fun j hj => by rw [hfc j (by omega)]; unfold D2; rw [if_pos hj]
  have h91 : Hid ((rowOf c f)[N]? = some (.int .i64 91)) := Lib.hid (by rw [hfa N (by omega), hfc N (by omega)]; unfold D2; rw [if_neg (by omega), if_pos rfl])
  have h92 : Hid ((rowOf c f)[N + 1]? = some (.int .i64 92)) := Lib.hid (by rw [hfa (N + 1) (by omega), hfc (N + 1) (by omega)]; unfold D2; rw [if_neg (by omega), if_neg (by omega)])
  clear hs3 hs4 hcur htk hfa hfc
  have hcm2 := hcm
  unfold maxLen at hcm2
  obtain ⟨R1, E1, n1, n2⟩ := need_same s X N G
  obtain ⟨R2, E2, n3, n4⟩ := need_same s X N fun j => if j < min M N then O j else G j
  have N1 := Lib.hid n1
  have N2 := Lib.hid n2
  have N3 := Lib.hid n3
  have N4 := Lib.hid n4
  have HFO : Hid (∀ j, j < c → (if 0 ≤ j ∧ j < 0 + min M N then gI O (j - 0) else f j) = (fun j => if j < min M N then gI O j else f j) j) := Lib.hid fun j _ => by simp only [Nat.zero_le, true_and, Nat.zero_add, Nat.sub_zero]
  have HFN : Hid (∀ j, j < N → (fun j => if j < min M N then gI O j else f j) j = .int .i64 ((fun j => if j < min M N then O j else G j) j)) := Lib.hid fun j hj => by
    show (if j < min M N then gI O j else f j) = .int .i64 (if j < min M N then O j else G j)
    split
    · rfl
    · exact hfG.out j hj
  have HWN : Hid (∀ j, j < N → -9223372036854775808 ≤ (fun j => if j < min M N then O j else G j) j ∧ (fun j => if j < min M N then O j else G j) j ≤ 9223372036854775807) := Lib.hid fun j hj => by
    show -9223372036854775808 ≤ (if j < min M N then O j else G j) ∧ (if j < min M N then O j else G j) ≤ 9223372036854775807
    split
    · exact HJ.out.wf j (by omega)
    · exact HI.out.wf j hj
  generalize hG2 : (fun j => if j < min M N then O j else G j) = G2 at *
  generalize hf2 : (fun j => if j < min M N then gI O j else f j) = f2 at *
  clear n1 n2 n3 n4 hG2 hf2
  go_upto_region 8 with (first | ((with_reducible refine at_slice rfl ?_); refine wl_slice rfl rfl Try.underlying33 size3 rfl 0 N (Or.inl ⟨rfl, rfl⟩) (Or.inr ⟨_, _, rfl, rfl⟩) (by omega) (by omega) (fun _ => rfl) ?_; intro ao3 hao3; replace hao3 := Lib.hid hao3))
  have hao3' : Hid (0 < N → ao3 = some ⟨gb, 0, none⟩) := Lib.hid fun h => by have := hao3.out h; simpa using this
  clear hao3
  have HMM : Hid (∀ (w' : World) (L : List Res), Tr w [] w' L → L[1]? = some (Res.blk gb (rowOf c f) 3) → Ints w' (.slice ao3 N c) ao3 N c gb 0 G) := Lib.hid fun w' L h hi => mine_ints h 1 hi (by omega) (by omega) hcm hao3'.out hfG.out HI.out.wf
  have HMN : Hid (∀ (w' : World) (L : List Res), Tr w [] w' L → L[1]? = some (Res.blk gb (rowOf c f2) 3) → Ints w' (.slice ao3 N c) ao3 N c gb 0 G2) := Lib.hid fun w' L h hi => mine_ints h 1 hi (by omega) (by omega) hcm hao3'.out HFN.out HWN.out
  go_upto_region 9 with (first | ((with_reducible refine (at_load (t := 29)) rfl ?_); refine wl_loadR rfl rfl Try.underlying29 rfl size29n rfl (file_rd (hs.rd0 4 rfl (by omega))) ?_) | (go_at_call 24; refine (N1.out mb _ _ _ _ _ ⟨hs.get 2 rfl, H.out.keep hs⟩ (HMM.out _ _ hs rfl)).mono ?_; rintro e w2 ⟨rfl, hc⟩; replace hs := hs.call0 hc; clear hc))
  go_upto_region 10 with (first | ((with_reducible refine (at_load (t := 35)) rfl ?_); refine wl_loadA hs rfl rfl Try.underlying35 rfl rfl 3 rfl size35 ?_) | ((with_reducible refine (at_load (t := 29)) rfl ?_); refine wl_loadR rfl rfl Try.underlying29 rfl size29n rfl (file_rd (hs.rd0 4 rfl (by omega))) ?_) | (go_at_call 25; refine (N2.out _ _ _ _ _ (H.out.keep hs) (HI.out.keep hs)).mono ?_; rintro e w2 ⟨rfl, hc⟩; replace hs := hs.call0 hc; clear hc))
  go_upto_region 12 with (first
    | (go_at_call 23; refine (ints_eq (G := G) _ (by omega) hao3'.out HI.out.ao (fun k hk => (HMM.out _ _ hs rfl).rd k hk) (fun k hk => (HI.out.keep hs).rd k hk)).mono ?_; rintro e w2 ⟨rfl, hc⟩; replace hs := hs.call0 hc; clear hc)
    | ((with_reducible refine at_index rfl ?_); refine wl_index rfl rfl Try.underlying33 size3 rfl rfl N rfl (by omega) rfl ?_)
    | ((with_reducible refine at_index rfl ?_); refine wl_index rfl rfl Try.underlying33 size3 rfl rfl (N + 1) rfl (by omega) rfl ?_)
    | ((with_reducible refine (at_load (t := 3)) rfl ?_); refine wl_load1 hs rfl rfl Try.underlying3 rfl rfl 1 rfl (by rw [Nat.zero_add, Nat.mul_one]; exact h91.out) ?_)
    | ((with_reducible refine (at_load (t := 3)) rfl ?_); refine wl_load1 hs rfl rfl Try.underlying3 rfl rfl 1 rfl (by rw [Nat.zero_add, Nat.mul_one]; exact h92.out) ?_))
  go_upto_region 13 with (first | ((with_reducible refine (at_bi .copy) rfl ?_); refine wl_copy1 hs rfl rfl Try.underlying33 size3 rfl rfl (min M N) rfl 1 rfl 0 (fun h => hao3'.out (by omega)) (by omega) db2 do2 (gI O) (fun h => HJ.out.ao (by omega)) (fun j hj => (HJ.out.keep hs).rd j (by omega)) (fun _ _ => rfl) f2 HFO.out ?_; clear hs; intro w1 hs))
  go_upto_region 14 with (first | ((with_reducible refine (at_load (t := 29)) rfl ?_); refine wl_loadR rfl rfl Try.underlying29 rfl size29n rfl (file_rd (hs.rd0 4 rfl (by omega))) ?_) | (go_at_call 24; refine (N3.out mb _ _ _ _ _ ⟨hs.get 2 rfl, H.out.keep hs⟩ (HMN.out _ _ hs rfl)).mono ?_; rintro e w2 ⟨rfl, hc⟩; replace hs := hs.call0 hc; clear hc))
  go_upto_region 15 with (first | ((with_reducible refine (at_load (t := 35)) rfl ?_); refine wl_loadA hs rfl rfl Try.underlying35 rfl rfl 3 rfl size35 ?_) | ((with_reducible refine (at_load (t := 29)) rfl ?_); refine wl_loadR rfl rfl Try.underlying29 rfl size29n rfl (file_rd (hs.rd0 4 rfl (by omega))) ?_) | (go_at_call 25; refine (N4.out _ _ _ _ _ (H.out.keep hs) (HMN.out _ _ hs rfl)).mono ?_; rintro e w2 ⟨rfl, hc⟩; replace hs := hs.call0 hc; clear hc))
  go_wp2_with fail
  go_ret
  exact ⟨rfl, hs.below⟩
end Go.Proofs.Ytdlnfdlgnbkppaa
