/- All. -/
import Derived.Test.YtdlnfdlgnbkppaaWSpots
namespace Go.Proofs.Ytdlnfdlgnbkppaa
set_option linter.unusedVariables false
set_option linter.unusedSimpArgs false
open Go Go.Sp Go.RowKit

theorem nz_cnt (A : Nat → Int) : ∀ n, (nz A n).length + cntP (fun i => decide (A i = 0)) n = n
  | 0 => rfl
  | n + 1 => by
    have ih := nz_cnt A n
    by_cases h : A n = 0
    · rw [nz_no h, cntP, show decide (A n = 0) = true from decide_eq_true h, Bool.toNat_true]; omega
    · rw [nz_yes h, cntP, show decide (A n = 0) = false from decide_eq_false h, Bool.toNat_false, List.length_append, List.length_singleton]; omega
theorem nzS_cnt (f : Int) (A : Nat → Int) : ∀ n, (nzS f A n).length + cntP (fun i => decide (A i = 0)) n = n
  | 0 => rfl
  | n + 1 => by
    have ih := nzS_cnt f A n
    by_cases h : A n = 0
    · rw [nzS_no h, cntP, show decide (A n = 0) = true from decide_eq_true h, Bool.toNat_true]; omega
    · rw [nzS_yes h, cntP, show decide (A n = 0) = false from decide_eq_false h, Bool.toNat_false, List.length_append, List.length_singleton]; omega
theorem hol_id (FF : Nat → Int) {n j : Nat} (h : j < n) : holF FF (fun k => k) n j = decide (FF j = 0) := by
  rw [Bool.eq_iff_iff, holF_iff, decide_eq_true_eq]
  exact ⟨fun h1 => h1.1, fun h1 => ⟨h1, j, h, rfl⟩⟩
theorem tbF_0 (s : Src) : tbF s 0 = fun _ => 0 := if_pos rfl
theorem all_sum (s : Src) (X : Nat → Int) (hE : spE s X = 0) : needN s X (fun k => k) 1068 + (spL s X).length + (tabL s X).length = 1102 := by
  have hall := spE_iff.1 hE
  obtain ⟨h1, h2, h3⟩ := spE_parts.1 hE
  unfold needN
  rw [if_pos (ndE_zero.2 fun i hi => hall i hi), fin_cnt, spL_eq hE, tabL_ok h2]
  have c1 := nzS_cnt 0 (fnF s X) 1068
  have c2 := nz_cnt (tabA s X) 34
  have e1 : cntP (holF (fnF s X) (fun k => k) 1068) 1068 = cntP (fun i => decide (fnF s X i = 0)) 1068 := cntP_congr fun i hi => hol_id _ hi
  rw [e1]
  have e2 : cntP (fun i => decide (tabA s X i = 0)) 34 = (decide (X 16 = 0)).toNat + (decide (X 17 = 0)).toNat + cntP (fun i => decide (tbF s (X 17) i = 0)) 32 := by
    rw [show 34 = 2 + 32 from rfl, cntP_add]
    have a1 : cntP (fun i => decide (tabA s X i = 0)) 2 = (decide (X 16 = 0)).toNat + (decide (X 17 = 0)).toNat := by
      show 0 + (decide (X 16 = 0)).toNat + (decide (X 17 = 0)).toNat = _
      rw [Nat.zero_add]
    have a2 : cntP (fun j => decide (tabA s X (2 + j) = 0)) 32 = cntP (fun i => decide (tbF s (X 17) i = 0)) 32 := cntP_congr fun i hi => by
      have e : tabA s X (2 + i) = tbF s (X 17) i := by
        simp only [tabA]
        rw [if_neg (by omega), if_neg (by omega), show 2 + i - 2 = i by omega]
      simp only [e]
    rw [a1, a2]
  have hF : ∀ j, j < 1068 → fnF s X j = 0 → holF (fnF s X) (fun k => k) 1068 j = true := fun j hj h => by rw [hol_id _ hj]; exact decide_eq_true h
  have e3 : (lowB (holF (fnF s X) (fun k => k) 1068) 1068 && decide (X 16 = 0)) = decide (X 16 = 0) := by
    by_cases h : X 16 = 0
    · have : lowB (holF (fnF s X) (fun k => k) 1068) 1068 = true := (lowB_iff _ _).2 ⟨12, by omega, hF 12 (by omega) (by unfold fnF; rw [if_neg (by omega), if_pos (by omega), h, tbF_0]), by omega, by omega⟩
      rw [this, Bool.true_and]
    · rw [decide_eq_false h, Bool.and_false]
  have far : ∀ i, i < 32 → tbF s (X 17) i = 0 → fnF s X (44 + 32 * i) = 0 := fun i hi h => by
    unfold fnF
    rw [if_neg (by omega), if_neg (by omega), if_neg (by simpa using h2), show (44 + 32 * i - 44) / 32 = i by omega, h, tbF_0]
  have e4 : (farB (holF (fnF s X) (fun k => k) 1068) 1068 && decide (X 17 = 0)) = decide (X 17 = 0) := by
    by_cases h : X 17 = 0
    · have : farB (holF (fnF s X) (fun k => k) 1068) 1068 = true := (farB_iff _ _).2 ⟨44, by omega, hF 44 (by omega) (far 0 (by omega) (by rw [h, tbF_0])), by omega⟩
      rw [this, Bool.true_and]
    · rw [decide_eq_false h, Bool.and_false]
  have e5 : cntP (tabB (holF (fnF s X) (fun k => k) 1068) (tbF s (X 17)) 1068) 32 = cntP (fun i => decide (tbF s (X 17) i = 0)) 32 := cntP_congr fun i hi => by
    rw [Bool.eq_iff_iff, tabB_iff, decide_eq_true_eq]
    constructor
    · rintro ⟨j, _, _, _, h4, h5⟩; rw [h5]; exact h4
    · intro h
      exact ⟨44 + 32 * i, by omega, hF _ (by omega) (far i hi h), by omega, by rw [show (44 + 32 * i - 44) / 32 = i by omega]; exact h, by omega⟩
  rw [e3, e4, e5]
  omega
def rng : Nat → List Int
  | 0 => []
  | k + 1 => rng k ++ [(k : Int)]
theorem rng_len : ∀ k, (rng k).length = k
  | 0 => rfl
  | k + 1 => by rw [rng, List.length_append, rng_len k]; rfl
theorem rng_at : ∀ {n k : Nat}, k < n → (rng n)[k]? = some (k : Int)
  | 0, k, h => absurd h (Nat.not_lt_zero k)
  | n + 1, k, h => by
    rw [rng]
    rcases Nat.lt_or_ge k n with h1 | h1
    · rw [List.getElem?_append_left (by rw [rng_len]; exact h1)]; exact rng_at h1
    · obtain rfl : k = n := by omega
      rw [List.getElem?_append_right (by rw [rng_len]; omega), rng_len, Nat.sub_self]; rfl
theorem own_ints {w0 w : World} {S : List Nat} {L : List Res} (hs : Tr w0 S w L) (i : Nat) {v : Value} {n : Nat} {l : List Int} (hi : L[i]? = some (Res.own 3 1 v n (ivs l))) {G : Nat → Int} (hG : ∀ k, k < n → l[k]? = some (G k)) (hwf : ∀ k, k < n → -9223372036854775808 ≤ G k ∧ G k ≤ 9223372036854775807) :
    ∃ ao c db, v = .slice ao n c ∧ Ints w (.slice ao n c) ao n c db 0 G := by
  obtain ⟨ao, c, g, rfl, h1, h2, h3, h4⟩ := hs.own_open i hi
  refine ⟨ao, c, g, rfl, rfl, h1, h2, h3, fun k hk => ?_, hwf⟩
  refine hs.own_news i hi h3 k _ ?_
  simp only [ivs, List.getElem?_map, hG k hk, Option.map_some]
theorem need_all (s : Src) (X : Nat → Int) (mb i : Nat) {w0 w : World} {S : List Nat} {L : List Res} (h : Rdr s mb w) (hs : Tr w0 S w L) {v : Value} (hi : L[i]? = some (Res.own 3 1 v 1068 (ivs (rng 1068)))) (R E : Int) (hR : (needN s X (fun k => k) 1068 : Nat) = R) (hE : ndE (fnE s X) (fun k => k) 1068 = E) :
    Calls Try.prog 24 #[.iface 37 (.pointer (some ⟨mb, 0, none⟩)), .agg (rowOf 18 (gI X)), v] w fun e w' => e = .returned (.tuple #[.int .i64 R, .int .i64 E]) ∧ Tr w [] w' [] := by
  obtain ⟨ao, c, db, rfl, I⟩ := own_ints hs i hi (G := fun k => (k : Int)) (fun k hk => rng_at hk) (fun k hk => by omega)
  have := need_ok s X mb w h I (fun k => k) (fun k hk => ⟨rfl, hk⟩)
  rw [hR, hE] at this
  exact this
set_option maxRecDepth 20000 in
set_option maxHeartbeats 1000000 in
theorem all_walk (X : Nat → Int) (s : Src) (w : World) (hI : s.In w) : Calls Try.prog 9 #[.agg (rowOf 21 (fileC X s))] w fun e w' => e = .returned (.bool true) ∧ Below w.heap.size w w' := by
  have hs := Tr.refl w []
  have H := Lib.hid hI
  clear hI
  have L1 := spL_len s X
  have L2 := tabL_len s X
  have HSum := Lib.hid (all_sum s X)
  have HS : Hid (∀ mb w, Rdr s mb w → Calls Try.prog 18 #[.iface 37 (.pointer (some ⟨mb, 0, none⟩)), .agg (rowOf 18 (gI X))] w (SpP (spE s X) (spL s X) w)) := Lib.hid fun mb w h => spots_any s X mb w h
  have HT : Hid (∀ mb w, Rdr s mb w → Calls Try.prog 20 #[.iface 37 (.pointer (some ⟨mb, 0, none⟩)), .agg (rowOf 18 (gI X))] w (fun e w' => ∃ v, e = .returned (.tuple #[v, .int .i64 (tbE s (X 17))]) ∧ Tr w [] w' [Res.own 3 1 v (tabL s X).length (ivs (tabL s X))])) := Lib.hid fun mb w h => tables_any s X mb w h
  have HN : Hid (∀ mb i {w0 w S L} {v}, Rdr s mb w → Tr w0 S w L → L[i]? = some (Res.own 3 1 v 1068 (ivs (rng 1068))) → Calls Try.prog 24 #[.iface 37 (.pointer (some ⟨mb, 0, none⟩)), .agg (rowOf 18 (gI X)), v] w fun e w' => e = .returned (.tuple #[.int .i64 ((needN s X (fun k => k) 1068 : Nat) : Int), .int .i64 (ndE (fnE s X) (fun k => k) 1068)]) ∧ Tr w [] w' []) :=
    Lib.hid fun mb i {w0 w S L v} h hs hi => need_all s X mb i h hs hi _ _ rfl rfl
  have HE1 : spE s X = 0 ↔ ndE (fnE s X) (fun k => k) 1068 = 0 := spE_iff.trans ndE_zero.symm
  have HE2 : spE s X = 0 → tbE s (X 17) = 0 := fun h => (spE_parts.1 h).2.1
  have HEE := Lib.hid HE1
  have HET := Lib.hid HE2
  clear HE1 HE2
  generalize needN s X (fun k => k) 1068 = NN at *
  generalize ndE (fnE s X) (fun k => k) 1068 = NE at *
  generalize spE s X = SE at *
  generalize spL s X = SL at *
  generalize tabL s X = TL at *
  generalize tbE s (X 17) = TE at *
  go_enter Try.func9, Try.ntmps9
  go_upto_region 5 with (first | ((with_reducible refine (at_box (t := 32)) rfl ?_); refine wl_boxA hs rfl rfl rfl ?_; clear hs; intro w1 fb hs) | (go_at_call 12; refine (known_any _).mono ?_; rintro e w2 ⟨rfl, hc⟩; replace hs := hs.call0 hc; clear hc) | ((with_reducible refine (at_load (t := 32)) rfl ?_); refine wl_loadA hs rfl rfl Try.underlying32 rfl rfl 0 rfl (size32 _) ?_) | (go_at_call 15; refine (source_any X s _).mono ?_; rintro e w2 ⟨rfl, hc⟩; replace hs := hs.call0 hc; clear hc) | ((with_reducible refine (at_build (t := 39)) rfl ?_); refine wl_buildP rfl rfl (_) (by rfl) ((built39 _ s.bad s.code s.N s.c s.ao rfl)) ?_) | ((with_reducible refine (at_box (t := 39)) rfl ?_); refine wl_boxA hs rfl rfl rfl ?_; clear hs; intro w1 mb hs))
  replace hs : Tr w [] w1 [Res.blk mb s.cs 39, Res.blk fb (rowOf 21 (fileC X s)) 32] := hs
  go_upto_region 6 with (first | ((with_reducible refine (at_load (t := 29)) rfl ?_); refine wl_loadR rfl rfl Try.underlying29 rfl size29n rfl (file_rd (hs.rd0 1 rfl (by omega))) ?_) | (go_at_call 18; refine (HS.out mb _ ⟨hs.get 0 rfl, H.out.keep hs⟩).mono ?_; rintro e w2 ⟨v1, rfl, hc⟩; replace hs := hs.call1 hc; clear hc))
  go_upto_region 7 with (first | ((with_reducible refine (at_load (t := 29)) rfl ?_); refine wl_loadR rfl rfl Try.underlying29 rfl size29n rfl (file_rd (hs.rd0 2 rfl (by omega))) ?_) | (go_at_call 20; refine (HT.out mb _ ⟨hs.get 1 rfl, H.out.keep hs⟩).mono ?_; rintro e w2 ⟨v2, rfl, hc⟩; replace hs := hs.call1 hc; clear hc))
  clear HS HT
  replace hs := hs.addNil 3 1
  go_wp2_with fail
  go_loopw [9, 10] (fun l i wr => ∃ (k : Nat) (v : Value), k ≤ 1068 ∧ i = .int .i64 k ∧ l = v ∧ Tr w [] wr [Res.own 3 1 v (rng k).length (ivs (rng k)), Res.own 3 1 v2 TL.length (ivs TL), Res.own 61 2 v1 SL.length (sps SL), Res.blk mb s.cs 39, Res.blk fb (rowOf 21 (fileC X s)) 32]) (fun _ i _ => 1068 - (intOf i).toNat)
  case atStart => exact ⟨0, _, by omega, rfl, rfl, hs⟩
  case round =>
    clear hs
    obtain ⟨k, v, hk, rfl, rfl, hs⟩ := hrel
    have hlen := rng_len k
    by_cases hlt : k < 1068
    · have hltI : (k : Int) < 1068 := by omega
      go_wp2_with (first | ((with_reducible refine at_buildSlice rfl ?_); refine wl_buildSliceV hs rfl rfl Try.underlying33 info3 (by omega) (by omega) [.int .i64 ((k : Int))] rfl rfl (by simp [Value.oneCell']) ?_; clear hs; intro w1 eb hs) | ((with_reducible refine (at_bi .append) rfl ?_); refine wl_append1 hs rfl rfl Try.underlying33 info3 rfl (by omega) 1 rfl rfl 0 rfl rfl rfl (by simp [Value.oneCell']) (by unfold maxLen; omega) (by omega) ?_; clear hs; intro w1 v1 hs))
      go_roundw
      case rel => exact ⟨k + 1, _, by omega, by go_num, rfl, by rw [show rng (k + 1) = rng k ++ [(k : Int)] from rfl, List.length_append, ← ivs_snoc]; exact hs.erase 0⟩
      case measure => simp [intOf]; omega
    · obtain rfl : k = 1068 := by omega
      rw [hlen] at hs
      clear hlen
      go_upto_region 13 with (first | ((with_reducible refine (at_load (t := 29)) rfl ?_); refine wl_loadR rfl rfl Try.underlying29 rfl size29n rfl (file_rd (hs.rd0 4 rfl (by omega))) ?_) | (go_at_call 24; refine (HN.out mb 0 ⟨hs.get 3 rfl, H.out.keep hs⟩ hs rfl).mono ?_; rintro e w2 ⟨rfl, hc⟩; replace hs := hs.call0 hc; clear hc))
      clear HN
      by_cases h0 : SE = 0
      · have h1 := HEE.out.1 h0
        have h2 := HET.out h0
        subst h0 h1 h2
        have h3 := HSum.out rfl
        obtain ⟨ao1, c1, g1, rfl, _⟩ := hs.own_open 2 rfl
        obtain ⟨ao2, c2, g2, rfl, _⟩ := hs.own_open 1 rfl
        have t3 : ((NN : Int) + (SL.length : Int) + (TL.length : Int) == 1102) = true := by rw [beq_iff_eq]; omega
        go_wp2
        go_ret
        exact ⟨rfl, hs.below⟩
      · have t1 : (SE != 0) = true := by simpa using h0
        have t2 : (NE != 0) = true := by simpa using fun h => h0 (HEE.out.2 h)
        clear h0
        go_wp2
        go_ret
        exact ⟨rfl, hs.below⟩
end Go.Proofs.Ytdlnfdlgnbkppaa
