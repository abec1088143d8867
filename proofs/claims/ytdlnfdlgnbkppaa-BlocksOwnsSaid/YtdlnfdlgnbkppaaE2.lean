/- The document's Tables. -/
import Derived.Test.YtdlnfdlgnbkppaaE
namespace Go.Proofs.Ytdlnfdlgnbkppaa
set_option linter.unusedVariables false
set_option linter.unusedSimpArgs false
open Go Go.Sp Go.RowKit

set_option maxRecDepth 20000 in
set_option maxHeartbeats 1000000 in
theorem rtables_ok (s : Src) (X T A : Nat → Int) (w : World) (h : s.In w) (HT : Hid (∀ w, s.In w → Calls Try.prog 28 #[.agg #[.slice s.ao s.N s.c, .int .i64 s.bad, .int .i64 s.code], .int .i64 (X 17)] w fun e w' => e = .returned (.tuple #[.agg (rowOf 32 (gI T)), .int .i64 0]) ∧ Tr w [] w' []))
    (HA0 : Hid (A 0 = X 16)) (HA1 : Hid (A 1 = X 17)) (HA2 : Hid (∀ k, A (2 + k) = T k)) (HZ0 : Hid (X 17 = 0 → nz A 34 = nz A 1)) :
    Calls Try.prog 21 #[.agg #[.slice s.ao s.N s.c, .int .i64 s.bad, .int .i64 s.code], .agg (rowOf 18 (gI X))] w fun e w' => ∃ v, e = .returned (.tuple #[v, .int .i64 0]) ∧ Tr w [] w' [Res.own 3 1 v (nz A 34).length (ivs (nz A 34))] := by
  have hs := Tr.refl w []
  have H := Lib.hid h
  clear h
  go_enter Try.func21, Try.ntmps21
  go_upto_region 2 with (first | ((with_reducible refine (at_box (t := 35)) rfl ?_); refine wl_boxA hs rfl rfl rfl ?_; clear hs; intro w1 sb hs) | ((with_reducible refine (at_box (t := 29)) rfl ?_); refine wl_boxA hs rfl rfl rfl ?_; clear hs; intro w1 xb hs))
  replace hs := hs.addNil 3 1
  by_cases h16 : X 16 = 0
  · have HN1 : Hid (nz A 1 = []) := Lib.hid (by rw [nz_no (A := A) (k := 0) (by rw [HA0.out]; exact h16)]; rfl)
    have hs3 : Tr w [] w1 [Res.own 3 1 (.slice none 0 0) (nz A 1).length (ivs (nz A 1)), Res.blk xb (rowOf 18 (gI X)) 29, Res.blk sb #[.slice s.ao s.N s.c, .int .i64 s.bad, .int .i64 s.code] 35] := by rw [HN1.out]; exact hs
    clear hs HN1; have hs := hs3; clear hs3
    go_upto_region 4 with (first | ((with_reducible refine (at_load (t := 3)) rfl ?_); refine wl_load1 hs rfl rfl Try.underlying3 rfl rfl 1 rfl (rowOf_gI (by omega)) ?_))
    clear h16
    as_aux_lemma =>
      by_cases h17 : X 17 = 0
      · have HZ := Lib.hid (HZ0.out h17)
        go_wp2_with (first | ((with_reducible refine (at_load (t := 3)) rfl ?_); refine wl_load1 hs rfl rfl Try.underlying3 rfl rfl 1 rfl (rowOf_gI (by omega)) ?_))
        go_ret2
        exact ⟨_, rfl, by rw [HZ.out]; exact hs.sub (List.Sublist.cons_cons _ (List.nil_sublist _))⟩
      · have t17 : (X 17 == 0) = false := by rw [beq_eq_false_iff_ne]; exact h17
        have HN2 := Lib.hid (nz_yes (A := A) (k := 1) (by rw [HA1.out]; exact h17))
        rw [HA1.out] at HN2
        have hl1 := nz_len A 1
        go_upto_region 7 with (first | ((with_reducible refine (at_load (t := 3)) rfl ?_); refine wl_load1 hs rfl rfl Try.underlying3 rfl rfl 1 rfl (rowOf_gI (by omega)) ?_) | ((with_reducible refine (at_load (t := 3)) rfl ?_); refine wl_load1 hs rfl rfl Try.underlying3 rfl rfl 2 rfl (rowOf_gI (by omega)) ?_) | ((with_reducible refine at_buildSlice rfl ?_); refine wl_buildSliceV hs rfl rfl Try.underlying33 info3 (by omega) (by omega) [.int .i64 (X 17)] rfl rfl (by simp [Value.oneCell']) ?_; clear hs; intro w1 eb hs) | ((with_reducible refine (at_bi .append) rfl ?_); refine wl_append1 hs rfl rfl Try.underlying33 info3 rfl (by omega) 1 rfl rfl 0 rfl rfl rfl (by simp [Value.oneCell']) (by unfold maxLen; omega) (by omega) ?_; clear hs; intro w1 v1 hs))
        replace hs := hs.erase 0
        have hs3 : Tr w [] w1 [Res.own 3 1 v1 (nz A 2).length (ivs (nz A 2)), Res.blk xb (rowOf 18 (gI X)) 29, Res.blk sb #[.slice s.ao s.N s.c, .int .i64 s.bad, .int .i64 s.code] 35] := by rw [HN2.out, List.length_append, ← ivs_snoc]; exact hs
        clear hs HN2 hl1; have hs := hs3; clear hs3
        go_upto_region 10 with (first | ((with_reducible refine (at_load (t := 35)) rfl ?_); refine wl_loadA hs rfl rfl Try.underlying35 rfl rfl 2 rfl size35 ?_) | ((with_reducible refine (at_load (t := 3)) rfl ?_); refine wl_load1 hs rfl rfl Try.underlying3 rfl rfl 1 rfl (rowOf_gI (by omega)) ?_) | (go_at_call 28; refine (HT.out _ (H.out.keep hs)).mono ?_; rintro e w2 ⟨rfl, hc⟩; replace hs := hs.call0 hc; clear hc) | ((with_reducible refine (at_alloc (t := 69)) rfl ?_); refine wl_allocA hs rfl rfl zero69 ?_; clear hs; intro w1 tb hs) | ((with_reducible refine (at_store (t := 69)) rfl ?_); refine wl_storeA hs rfl rfl rfl rfl (size69 _) (oneI 32 _) 0 rfl (by simp only [rowOf_size]) ?_; clear hs; intro w1 hs))
        clear HT
        go_wp2_with fail
        go_loopw [6, 9] (fun l i wr => ∃ (k : Nat) (v : Value), k ≤ 32 ∧ i = .int .i64 k ∧ l = v ∧ Tr w [] wr [Res.blk tb (rowOf 32 (gI T)) 69, Res.own 3 1 v (nz A (2 + k)).length (ivs (nz A (2 + k))), Res.blk xb (rowOf 18 (gI X)) 29, Res.blk sb #[.slice s.ao s.N s.c, .int .i64 s.bad, .int .i64 s.code] 35]) (fun _ i _ => 32 - (intOf i).toNat)
        case atStart => exact ⟨0, _, by omega, rfl, rfl, hs⟩
        case round =>
          clear hs
          obtain ⟨k, v, hk, rfl, rfl, hs⟩ := hrel
          by_cases hlt : k < 32
          · have hltI : (k : Int) < 32 := by omega
            have hlen := nz_len A (2 + k)
            by_cases h0 : T k = 0
            · have HN := Lib.hid (nz_no (A := A) (k := 2 + k) (by rw [HA2.out]; exact h0))
              go_wp2_with (first | ((with_reducible refine (at_load (t := 3)) rfl ?_); refine wl_load1 hs rfl rfl Try.underlying3 rfl rfl 0 rfl (rowOf_gI (by omega)) ?_))
              go_roundw
              case rel => exact ⟨k + 1, _, by omega, by go_num, rfl, by rw [← Nat.add_assoc, HN.out]; exact hs⟩
              case measure => simp [intOf]; omega
            · have HN := Lib.hid (nz_yes (A := A) (k := 2 + k) (by rw [HA2.out]; exact h0))
              rw [HA2.out] at HN
              have t0 : (T k != 0) = true := by simpa using h0
              go_wp2_with (first | ((with_reducible refine (at_load (t := 3)) rfl ?_); refine wl_load1 hs rfl rfl Try.underlying3 rfl rfl 0 rfl (rowOf_gI (by omega)) ?_) | ((with_reducible refine at_buildSlice rfl ?_); refine wl_buildSliceV hs rfl rfl Try.underlying33 info3 (by omega) (by omega) [.int .i64 (T k)] rfl rfl (by simp [Value.oneCell']) ?_; clear hs; intro w1 eb hs) | ((with_reducible refine (at_bi .append) rfl ?_); refine wl_append1 hs rfl rfl Try.underlying33 info3 rfl (by omega) 2 rfl rfl 0 rfl rfl rfl (by simp [Value.oneCell']) (by unfold maxLen; omega) (by omega) ?_; clear hs; intro w1 v1 hs))
              go_roundw
              case rel => exact ⟨k + 1, _, by omega, by go_num, rfl, by rw [← Nat.add_assoc, HN.out, List.length_append, ← ivs_snoc]; exact hs.erase 0⟩
              case measure => simp [intOf]; omega
          · obtain rfl : k = 32 := by omega
            go_wp2_with fail
            go_ret2
            exact ⟨_, rfl, hs.sub (List.Sublist.cons _ (List.Sublist.cons_cons _ (List.nil_sublist _)))⟩
  · have t16 : (X 16 != 0) = true := by simpa using h16
    have HN1 : Hid (nz A 1 = [X 16]) := Lib.hid (by rw [nz_yes (A := A) (k := 0) (by rw [HA0.out]; exact h16), HA0.out]; rfl)
    go_upto_region 4 with (first | ((with_reducible refine (at_load (t := 3)) rfl ?_); refine wl_load1 hs rfl rfl Try.underlying3 rfl rfl 1 rfl (rowOf_gI (by omega)) ?_) | ((with_reducible refine (at_load (t := 3)) rfl ?_); refine wl_load1 hs rfl rfl Try.underlying3 rfl rfl 2 rfl (rowOf_gI (by omega)) ?_) | ((with_reducible refine at_buildSlice rfl ?_); refine wl_buildSliceV hs rfl rfl Try.underlying33 info3 (by omega) (by omega) [.int .i64 (X 16)] rfl rfl (by simp [Value.oneCell']) ?_; clear hs; intro w1 eb hs) | ((with_reducible refine (at_bi .append) rfl ?_); refine wl_append1 hs rfl rfl Try.underlying33 info3 rfl (by omega) 1 rfl rfl 0 rfl rfl rfl (by simp [Value.oneCell']) (by unfold maxLen; omega) (by omega) ?_; clear hs; intro w1 v1 hs))
    replace hs := hs.erase 0
    have hs3 : Tr w [] w1 [Res.own 3 1 v1 (nz A 1).length (ivs (nz A 1)), Res.blk xb (rowOf 18 (gI X)) 29, Res.blk sb #[.slice s.ao s.N s.c, .int .i64 s.bad, .int .i64 s.code] 35] := by rw [HN1.out]; exact hs
    clear hs HN1 t16 h16; have hs := hs3; clear hs3
    as_aux_lemma =>
      by_cases h17 : X 17 = 0
      · have HZ := Lib.hid (HZ0.out h17)
        go_wp2_with (first | ((with_reducible refine (at_load (t := 3)) rfl ?_); refine wl_load1 hs rfl rfl Try.underlying3 rfl rfl 1 rfl (rowOf_gI (by omega)) ?_))
        go_ret2
        exact ⟨_, rfl, by rw [HZ.out]; exact hs.sub (List.Sublist.cons_cons _ (List.nil_sublist _))⟩
      · have t17 : (X 17 == 0) = false := by rw [beq_eq_false_iff_ne]; exact h17
        have HN2 := Lib.hid (nz_yes (A := A) (k := 1) (by rw [HA1.out]; exact h17))
        rw [HA1.out] at HN2
        have hl1 := nz_len A 1
        go_upto_region 7 with (first | ((with_reducible refine (at_load (t := 3)) rfl ?_); refine wl_load1 hs rfl rfl Try.underlying3 rfl rfl 1 rfl (rowOf_gI (by omega)) ?_) | ((with_reducible refine (at_load (t := 3)) rfl ?_); refine wl_load1 hs rfl rfl Try.underlying3 rfl rfl 2 rfl (rowOf_gI (by omega)) ?_) | ((with_reducible refine at_buildSlice rfl ?_); refine wl_buildSliceV hs rfl rfl Try.underlying33 info3 (by omega) (by omega) [.int .i64 (X 17)] rfl rfl (by simp [Value.oneCell']) ?_; clear hs; intro w1 eb hs) | ((with_reducible refine (at_bi .append) rfl ?_); refine wl_append1 hs rfl rfl Try.underlying33 info3 rfl (by omega) 1 rfl rfl 0 rfl rfl rfl (by simp [Value.oneCell']) (by unfold maxLen; omega) (by omega) ?_; clear hs; intro w1 v1 hs))
        replace hs := hs.erase 0
        have hs3 : Tr w [] w1 [Res.own 3 1 v1 (nz A 2).length (ivs (nz A 2)), Res.blk xb (rowOf 18 (gI X)) 29, Res.blk sb #[.slice s.ao s.N s.c, .int .i64 s.bad, .int .i64 s.code] 35] := by rw [HN2.out, List.length_append, ← ivs_snoc]; exact hs
        clear hs HN2 hl1; have hs := hs3; clear hs3
        go_upto_region 10 with (first | ((with_reducible refine (at_load (t := 35)) rfl ?_); refine wl_loadA hs rfl rfl Try.underlying35 rfl rfl 2 rfl size35 ?_) | ((with_reducible refine (at_load (t := 3)) rfl ?_); refine wl_load1 hs rfl rfl Try.underlying3 rfl rfl 1 rfl (rowOf_gI (by omega)) ?_) | (go_at_call 28; refine (HT.out _ (H.out.keep hs)).mono ?_; rintro e w2 ⟨rfl, hc⟩; replace hs := hs.call0 hc; clear hc) | ((with_reducible refine (at_alloc (t := 69)) rfl ?_); refine wl_allocA hs rfl rfl zero69 ?_; clear hs; intro w1 tb hs) | ((with_reducible refine (at_store (t := 69)) rfl ?_); refine wl_storeA hs rfl rfl rfl rfl (size69 _) (oneI 32 _) 0 rfl (by simp only [rowOf_size]) ?_; clear hs; intro w1 hs))
        clear HT
        go_wp2_with fail
        go_loopw [6, 9] (fun l i wr => ∃ (k : Nat) (v : Value), k ≤ 32 ∧ i = .int .i64 k ∧ l = v ∧ Tr w [] wr [Res.blk tb (rowOf 32 (gI T)) 69, Res.own 3 1 v (nz A (2 + k)).length (ivs (nz A (2 + k))), Res.blk xb (rowOf 18 (gI X)) 29, Res.blk sb #[.slice s.ao s.N s.c, .int .i64 s.bad, .int .i64 s.code] 35]) (fun _ i _ => 32 - (intOf i).toNat)
        case atStart => exact ⟨0, _, by omega, rfl, rfl, hs⟩
        case round =>
          clear hs
          obtain ⟨k, v, hk, rfl, rfl, hs⟩ := hrel
          by_cases hlt : k < 32
          · have hltI : (k : Int) < 32 := by omega
            have hlen := nz_len A (2 + k)
            by_cases h0 : T k = 0
            · have HN := Lib.hid (nz_no (A := A) (k := 2 + k) (by rw [HA2.out]; exact h0))
              go_wp2_with (first | ((with_reducible refine (at_load (t := 3)) rfl ?_); refine wl_load1 hs rfl rfl Try.underlying3 rfl rfl 0 rfl (rowOf_gI (by omega)) ?_))
              go_roundw
              case rel => exact ⟨k + 1, _, by omega, by go_num, rfl, by rw [← Nat.add_assoc, HN.out]; exact hs⟩
              case measure => simp [intOf]; omega
            · have HN := Lib.hid (nz_yes (A := A) (k := 2 + k) (by rw [HA2.out]; exact h0))
              rw [HA2.out] at HN
              have t0 : (T k != 0) = true := by simpa using h0
              go_wp2_with (first | ((with_reducible refine (at_load (t := 3)) rfl ?_); refine wl_load1 hs rfl rfl Try.underlying3 rfl rfl 0 rfl (rowOf_gI (by omega)) ?_) | ((with_reducible refine at_buildSlice rfl ?_); refine wl_buildSliceV hs rfl rfl Try.underlying33 info3 (by omega) (by omega) [.int .i64 (T k)] rfl rfl (by simp [Value.oneCell']) ?_; clear hs; intro w1 eb hs) | ((with_reducible refine (at_bi .append) rfl ?_); refine wl_append1 hs rfl rfl Try.underlying33 info3 rfl (by omega) 2 rfl rfl 0 rfl rfl rfl (by simp [Value.oneCell']) (by unfold maxLen; omega) (by omega) ?_; clear hs; intro w1 v1 hs))
              go_roundw
              case rel => exact ⟨k + 1, _, by omega, by go_num, rfl, by rw [← Nat.add_assoc, HN.out, List.length_append, ← ivs_snoc]; exact hs.erase 0⟩
              case measure => simp [intOf]; omega
          · obtain rfl : k = 32 := by omega
            go_wp2_with fail
            go_ret2
            exact ⟨_, rfl, hs.sub (List.Sublist.cons _ (List.Sublist.cons_cons _ (List.nil_sublist _)))⟩
set_option maxRecDepth 20000 in
set_option maxHeartbeats 1000000 in
theorem rtables_err (s : Src) (X T A : Nat → Int) (E : Int) (w : World) (h : s.In w) (hE : (E != 0) = true) (hx17 : X 17 ≠ 0) (HT : Hid (∀ w, s.In w → Calls Try.prog 28 #[.agg #[.slice s.ao s.N s.c, .int .i64 s.bad, .int .i64 s.code], .int .i64 (X 17)] w fun e w' => e = .returned (.tuple #[.agg (rowOf 32 (gI T)), .int .i64 E]) ∧ Tr w [] w' []))
    (HA0 : Hid (A 0 = X 16)) (HA1 : Hid (A 1 = X 17)) :
    Calls Try.prog 21 #[.agg #[.slice s.ao s.N s.c, .int .i64 s.bad, .int .i64 s.code], .agg (rowOf 18 (gI X))] w fun e w' => ∃ v, e = .returned (.tuple #[v, .int .i64 E]) ∧ Tr w [] w' [Res.own 3 1 v 0 []] := by
  have hs := Tr.refl w []
  have H := Lib.hid h
  clear h
  go_enter Try.func21, Try.ntmps21
  go_upto_region 2 with (first | ((with_reducible refine (at_box (t := 35)) rfl ?_); refine wl_boxA hs rfl rfl rfl ?_; clear hs; intro w1 sb hs) | ((with_reducible refine (at_box (t := 29)) rfl ?_); refine wl_boxA hs rfl rfl rfl ?_; clear hs; intro w1 xb hs))
  replace hs := hs.addNil 3 1
  by_cases h16 : X 16 = 0
  · have HN1 : Hid (nz A 1 = []) := Lib.hid (by rw [nz_no (A := A) (k := 0) (by rw [HA0.out]; exact h16)]; rfl)
    have hs3 : Tr w [] w1 [Res.own 3 1 (.slice none 0 0) (nz A 1).length (ivs (nz A 1)), Res.blk xb (rowOf 18 (gI X)) 29, Res.blk sb #[.slice s.ao s.N s.c, .int .i64 s.bad, .int .i64 s.code] 35] := by rw [HN1.out]; exact hs
    clear hs HN1; have hs := hs3; clear hs3
    go_upto_region 4 with (first | ((with_reducible refine (at_load (t := 3)) rfl ?_); refine wl_load1 hs rfl rfl Try.underlying3 rfl rfl 1 rfl (rowOf_gI (by omega)) ?_))
    clear h16
    as_aux_lemma =>
      by_cases h17 : X 17 = 0
      · exact absurd h17 hx17
      · have t17 : (X 17 == 0) = false := by rw [beq_eq_false_iff_ne]; exact h17
        have HN2 := Lib.hid (nz_yes (A := A) (k := 1) (by rw [HA1.out]; exact h17))
        rw [HA1.out] at HN2
        have hl1 := nz_len A 1
        go_upto_region 7 with (first | ((with_reducible refine (at_load (t := 3)) rfl ?_); refine wl_load1 hs rfl rfl Try.underlying3 rfl rfl 1 rfl (rowOf_gI (by omega)) ?_) | ((with_reducible refine (at_load (t := 3)) rfl ?_); refine wl_load1 hs rfl rfl Try.underlying3 rfl rfl 2 rfl (rowOf_gI (by omega)) ?_) | ((with_reducible refine at_buildSlice rfl ?_); refine wl_buildSliceV hs rfl rfl Try.underlying33 info3 (by omega) (by omega) [.int .i64 (X 17)] rfl rfl (by simp [Value.oneCell']) ?_; clear hs; intro w1 eb hs) | ((with_reducible refine (at_bi .append) rfl ?_); refine wl_append1 hs rfl rfl Try.underlying33 info3 rfl (by omega) 1 rfl rfl 0 rfl rfl rfl (by simp [Value.oneCell']) (by unfold maxLen; omega) (by omega) ?_; clear hs; intro w1 v1 hs))
        replace hs := hs.erase 0
        have hs3 : Tr w [] w1 [Res.own 3 1 v1 (nz A 2).length (ivs (nz A 2)), Res.blk xb (rowOf 18 (gI X)) 29, Res.blk sb #[.slice s.ao s.N s.c, .int .i64 s.bad, .int .i64 s.code] 35] := by rw [HN2.out, List.length_append, ← ivs_snoc]; exact hs
        clear hs HN2 hl1; have hs := hs3; clear hs3
        go_wp2_with (first | ((with_reducible refine (at_load (t := 35)) rfl ?_); refine wl_loadA hs rfl rfl Try.underlying35 rfl rfl 2 rfl size35 ?_) | ((with_reducible refine (at_load (t := 3)) rfl ?_); refine wl_load1 hs rfl rfl Try.underlying3 rfl rfl 1 rfl (rowOf_gI (by omega)) ?_) | (go_at_call 28; refine (HT.out _ (H.out.keep hs)).mono ?_; rintro e w2 ⟨rfl, hc⟩; replace hs := hs.call0 hc; clear hc) | ((with_reducible refine (at_alloc (t := 69)) rfl ?_); refine wl_allocA hs rfl rfl zero69 ?_; clear hs; intro w1 tb hs) | ((with_reducible refine (at_store (t := 69)) rfl ?_); refine wl_storeA hs rfl rfl rfl rfl (size69 _) (oneI 32 _) 0 rfl (by simp only [rowOf_size]) ?_; clear hs; intro w1 hs))
        go_ret2
        exact ⟨_, rfl, hs.letgo.addNil 3 1⟩
  · have t16 : (X 16 != 0) = true := by simpa using h16
    have HN1 : Hid (nz A 1 = [X 16]) := Lib.hid (by rw [nz_yes (A := A) (k := 0) (by rw [HA0.out]; exact h16), HA0.out]; rfl)
    go_upto_region 4 with (first | ((with_reducible refine (at_load (t := 3)) rfl ?_); refine wl_load1 hs rfl rfl Try.underlying3 rfl rfl 1 rfl (rowOf_gI (by omega)) ?_) | ((with_reducible refine (at_load (t := 3)) rfl ?_); refine wl_load1 hs rfl rfl Try.underlying3 rfl rfl 2 rfl (rowOf_gI (by omega)) ?_) | ((with_reducible refine at_buildSlice rfl ?_); refine wl_buildSliceV hs rfl rfl Try.underlying33 info3 (by omega) (by omega) [.int .i64 (X 16)] rfl rfl (by simp [Value.oneCell']) ?_; clear hs; intro w1 eb hs) | ((with_reducible refine (at_bi .append) rfl ?_); refine wl_append1 hs rfl rfl Try.underlying33 info3 rfl (by omega) 1 rfl rfl 0 rfl rfl rfl (by simp [Value.oneCell']) (by unfold maxLen; omega) (by omega) ?_; clear hs; intro w1 v1 hs))
    replace hs := hs.erase 0
    have hs3 : Tr w [] w1 [Res.own 3 1 v1 (nz A 1).length (ivs (nz A 1)), Res.blk xb (rowOf 18 (gI X)) 29, Res.blk sb #[.slice s.ao s.N s.c, .int .i64 s.bad, .int .i64 s.code] 35] := by rw [HN1.out]; exact hs
    clear hs HN1 t16 h16; have hs := hs3; clear hs3
    as_aux_lemma =>
      by_cases h17 : X 17 = 0
      · exact absurd h17 hx17
      · have t17 : (X 17 == 0) = false := by rw [beq_eq_false_iff_ne]; exact h17
        have HN2 := Lib.hid (nz_yes (A := A) (k := 1) (by rw [HA1.out]; exact h17))
        rw [HA1.out] at HN2
        have hl1 := nz_len A 1
        go_upto_region 7 with (first | ((with_reducible refine (at_load (t := 3)) rfl ?_); refine wl_load1 hs rfl rfl Try.underlying3 rfl rfl 1 rfl (rowOf_gI (by omega)) ?_) | ((with_reducible refine (at_load (t := 3)) rfl ?_); refine wl_load1 hs rfl rfl Try.underlying3 rfl rfl 2 rfl (rowOf_gI (by omega)) ?_) | ((with_reducible refine at_buildSlice rfl ?_); refine wl_buildSliceV hs rfl rfl Try.underlying33 info3 (by omega) (by omega) [.int .i64 (X 17)] rfl rfl (by simp [Value.oneCell']) ?_; clear hs; intro w1 eb hs) | ((with_reducible refine (at_bi .append) rfl ?_); refine wl_append1 hs rfl rfl Try.underlying33 info3 rfl (by omega) 1 rfl rfl 0 rfl rfl rfl (by simp [Value.oneCell']) (by unfold maxLen; omega) (by omega) ?_; clear hs; intro w1 v1 hs))
        replace hs := hs.erase 0
        have hs3 : Tr w [] w1 [Res.own 3 1 v1 (nz A 2).length (ivs (nz A 2)), Res.blk xb (rowOf 18 (gI X)) 29, Res.blk sb #[.slice s.ao s.N s.c, .int .i64 s.bad, .int .i64 s.code] 35] := by rw [HN2.out, List.length_append, ← ivs_snoc]; exact hs
        clear hs HN2 hl1; have hs := hs3; clear hs3
        go_wp2_with (first | ((with_reducible refine (at_load (t := 35)) rfl ?_); refine wl_loadA hs rfl rfl Try.underlying35 rfl rfl 2 rfl size35 ?_) | ((with_reducible refine (at_load (t := 3)) rfl ?_); refine wl_load1 hs rfl rfl Try.underlying3 rfl rfl 1 rfl (rowOf_gI (by omega)) ?_) | (go_at_call 28; refine (HT.out _ (H.out.keep hs)).mono ?_; rintro e w2 ⟨rfl, hc⟩; replace hs := hs.call0 hc; clear hc) | ((with_reducible refine (at_alloc (t := 69)) rfl ?_); refine wl_allocA hs rfl rfl zero69 ?_; clear hs; intro w1 tb hs) | ((with_reducible refine (at_store (t := 69)) rfl ?_); refine wl_storeA hs rfl rfl rfl rfl (size69 _) (oneI 32 _) 0 rfl (by simp only [rowOf_size]) ?_; clear hs; intro w1 hs))
        go_ret2
        exact ⟨_, rfl, hs.letgo.addNil 3 1⟩
theorem rtables_any (s : Src) (X : Nat → Int) (w : World) (h : s.In w) :
    Calls Try.prog 21 #[.agg #[.slice s.ao s.N s.c, .int .i64 s.bad, .int .i64 s.code], .agg (rowOf 18 (gI X))] w (TabP s X w) := by
  have h2 : ∀ k, tabA s X (2 + k) = tbF s (X 17) k := fun k => by
    simp only [tabA]; rw [if_neg (by omega), if_neg (by omega), show 2 + k - 2 = k by omega]
  by_cases hE : tbE s (X 17) = 0
  · refine (rtables_ok s X (tbF s (X 17)) (tabA s X) w h (Lib.hid fun w h => by have := rtable_any s (X 17) w h; rwa [hE] at this) (Lib.hid rfl) (Lib.hid rfl) (Lib.hid h2) (Lib.hid fun h17 => ?_)).mono fun e w' ⟨v, he, ht⟩ => ⟨v, by rw [hE]; exact he, by rw [tabL_ok hE]; exact ht⟩
    refine nz_zeros (k := 1) 33 fun j hj _ => ?_
    obtain ⟨i, rfl⟩ : ∃ i, j = i + 1 := ⟨j - 1, by omega⟩
    cases i with
    | zero => exact h17
    | succ i => rw [show i + 1 + 1 = 2 + i by omega, h2, h17]; rfl
  · have h17 : X 17 ≠ 0 := fun h0 => hE (by rw [h0]; exact if_pos rfl)
    refine (rtables_err s X (tbF s (X 17)) (tabA s X) (tbE s (X 17)) w h (by simpa using hE) h17 (Lib.hid fun w h => rtable_any s (X 17) w h) (Lib.hid rfl) (Lib.hid rfl)).mono fun e w' ⟨v, he, ht⟩ => ⟨v, he, by rw [tabL_no hE]; exact ht⟩
end Go.Proofs.Ytdlnfdlgnbkppaa
