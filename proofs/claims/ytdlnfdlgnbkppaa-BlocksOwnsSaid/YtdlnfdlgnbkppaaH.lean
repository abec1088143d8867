/- The document's Spots. -/
import Derived.Test.YtdlnfdlgnbkppaaG
namespace Go.Proofs.Ytdlnfdlgnbkppaa
set_option linter.unusedVariables false
set_option linter.unusedSimpArgs false
open Go Go.Sp Go.RowKit

/-- The list behind k of the double table's tables. -/
def spK (TB : Int → Nat → Int) (T : Nat → Int) (L : List (Int × Int)) : Nat → List (Int × Int)
  | 0 => L
  | k + 1 => spK TB T L k ++ nzS (44 + 32 * (k : Int)) (TB (T k)) 32
theorem spK_len (TB : Int → Nat → Int) (T : Nat → Int) {L : List (Int × Int)} (h : L.length ≤ 44) : ∀ k, (spK TB T L k).length ≤ 44 + 32 * k
  | 0 => h
  | k + 1 => by
    have := spK_len TB T h k
    have := nzS_len (44 + 32 * (k : Int)) (TB (T k)) 32
    simp only [spK, List.length_append]; omega
/-- The first error behind k of them. -/
def erK (TE : Int → Int) (T : Nat → Int) : Nat → Int
  | 0 => 0
  | k + 1 => if erK TE T k ≠ 0 then erK TE T k else TE (T k)
def spD (X : Nat → Int) : List (Int × Int) := nzS 0 (fun i => X (4 + i)) 12
def spE (s : Src) (X : Nat → Int) : Int := if tbE s (X 16) ≠ 0 then tbE s (X 16) else if tbE s (X 17) ≠ 0 then tbE s (X 17) else erK (tbE s) (tbF s (X 17)) 32
def spA (s : Src) (X : Nat → Int) : List (Int × Int) := spK (tbF s) (tbF s (X 17)) (spD X ++ nzS 12 (tbF s (X 16)) 32) 32
def spL (s : Src) (X : Nat → Int) : List (Int × Int) := if spE s X = 0 then spA s X else []
/-- What Spots answers. -/
def SpP (E : Int) (l : List (Int × Int)) (w : World) (e : Ending) (w' : World) : Prop := ∃ v, e = .returned (.tuple #[v, .int .i64 E]) ∧ Tr w [] w' [Res.own 61 2 v l.length (sps l)]
theorem spA_len (s : Src) (X : Nat → Int) : (spA s X).length ≤ 1068 := by
  have h1 := nzS_len 0 (fun i => X (4 + i)) 12
  have h2 := nzS_len 12 (tbF s (X 16)) 32
  exact spK_len _ _ (by simp only [spD, List.length_append]; omega) 32
set_option maxRecDepth 20000 in
set_option maxHeartbeats 2000000 in
theorem rspots_core (s : Src) (X T1 T : Nat → Int) (TB : Int → Nat → Int) (TE : Int → Int) (E1 E2 : Int) (SP : Nat → List (Int × Int)) (ER : Nat → Int) (EF : Int) (w : World) (h : s.In w)
    (HT1 : Hid (∀ w, s.In w → Calls Try.prog 28 #[.agg #[.slice s.ao s.N s.c, .int .i64 s.bad, .int .i64 s.code], .int .i64 (X 16)] w fun e w' => e = .returned (.tuple #[.agg (rowOf 32 (gI T1)), .int .i64 E1]) ∧ Tr w [] w' []))
    (HT2 : Hid (∀ w, s.In w → Calls Try.prog 28 #[.agg #[.slice s.ao s.N s.c, .int .i64 s.bad, .int .i64 s.code], .int .i64 (X 17)] w fun e w' => e = .returned (.tuple #[.agg (rowOf 32 (gI T)), .int .i64 E2]) ∧ Tr w [] w' []))
    (HTT : Hid (∀ (x : Int) w, s.In w → Calls Try.prog 28 #[.agg #[.slice s.ao s.N s.c, .int .i64 s.bad, .int .i64 s.code], .int .i64 x] w fun e w' => e = .returned (.tuple #[.agg (rowOf 32 (gI (TB x))), .int .i64 (TE x)]) ∧ Tr w [] w' []))
    (HS0 : Hid (SP 0 = spD X ++ nzS 12 T1 32)) (HSP : Hid (∀ k, SP (k + 1) = SP k ++ nzS (44 + 32 * (k : Int)) (TB (T k)) 32)) (HLK : Hid (∀ k, k < 32 → (SP k).length ≤ 44 + 32 * k))
    (HER : Hid (∀ k, ER (k + 1) = if ER k ≠ 0 then ER k else TE (T k))) (HE0 : Hid (ER 0 = 0)) (HEF : Hid (EF = if E1 ≠ 0 then E1 else if E2 ≠ 0 then E2 else ER 32)) (HST : Hid (∀ k m, ER k ≠ 0 → ER (k + m) = ER k)) (LF : List (Int × Int)) (HL0 : Hid (EF = 0 → LF = SP 32)) (HL1 : Hid (EF ≠ 0 → LF = [])) :
    Calls Try.prog 19 #[.agg #[.slice s.ao s.N s.c, .int .i64 s.bad, .int .i64 s.code], .agg (rowOf 18 (gI X))] w (SpP EF LF w) := by
  have hs := Tr.refl w []
  have H := Lib.hid h
  clear h
  go_enter Try.func19, Try.ntmps19
  go_upto_region 1 with (first | ((with_reducible refine (at_box (t := 35)) rfl ?_); refine wl_boxA hs rfl rfl rfl ?_; clear hs; intro w1 sb hs) | ((with_reducible refine (at_box (t := 29)) rfl ?_); refine wl_boxA hs rfl rfl rfl ?_; clear hs; intro w1 xb hs))
  replace hs := hs.addNil 61 2
  go_wp2_with fail
  go_loopw [6, 7] (fun l i wr => ∃ (k : Nat) (v : Value), k ≤ 12 ∧ i = .int .i64 k ∧ l = v ∧ Tr w [] wr [Res.own 61 2 v (nzS 0 (fun i => X (4 + i)) k).length (sps (nzS 0 (fun i => X (4 + i)) k)), Res.blk xb (rowOf 18 (gI X)) 29, Res.blk sb #[.slice s.ao s.N s.c, .int .i64 s.bad, .int .i64 s.code] 35]) (fun _ i _ => 12 - (intOf i).toNat)
  case atStart => exact ⟨0, _, by omega, rfl, rfl, hs⟩
  case round =>
    clear hs
    obtain ⟨k, v, hk, rfl, rfl, hs⟩ := hrel
    have hlen := nzS_len 0 (fun i => X (4 + i)) k
    by_cases hlt : k < 12
    · have hltI : (k : Int) < 12 := by omega
      by_cases h0 : X (4 + k) = 0
      · have HN := Lib.hid (nzS_no (f := 0) (A := fun i => X (4 + i)) h0)
        go_wp2_with (first | ((with_reducible refine (at_load (t := 3)) rfl ?_); refine wl_load1 hs rfl rfl Try.underlying3 rfl rfl 1 rfl (rowOf_gI (by omega)) ?_))
        go_roundw
        case rel => exact ⟨k + 1, _, by omega, by go_num, rfl, by rw [HN.out]; exact hs⟩
        case measure => simp [intOf]; omega
      · have HN := Lib.hid (nzS_yes (f := 0) (A := fun i => X (4 + i)) h0)
        have t0 : (X (4 + k) != 0) = true := by simpa using h0
        go_wp2_with (first | ((with_reducible refine (at_load (t := 3)) rfl ?_); refine wl_load1 hs rfl rfl Try.underlying3 rfl rfl 1 rfl (rowOf_gI (by omega)) ?_) | ((with_reducible refine at_buildSlice rfl ?_); refine wl_buildSlice1A hs rfl rfl Try.underlying44 info61 (by omega) (by omega) (cs := #[.int .i64 (k), .int .i64 (X (4 + k))]) (by first | rfl | (simp [Act.eval]; done)) rfl ?_; clear hs; intro w1 eb hs) | ((with_reducible refine (at_bi .append) rfl ?_); refine wl_append1 hs rfl rfl Try.underlying44 info61 rfl (by omega) 1 rfl rfl 0 rfl rfl rfl (by simp [Value.oneCell']) (by unfold maxLen; omega) (by omega) ?_; clear hs; intro w1 v1 hs) | ((with_reducible refine (at_load (t := 3)) rfl ?_); refine wl_load1 hs rfl rfl Try.underlying3 rfl rfl 2 rfl (rowOf_gI (by omega)) ?_))
        go_roundw
        case rel => exact ⟨k + 1, _, by omega, by go_num, rfl, by rw [HN.out, List.length_append, ← sps_snoc, Int.zero_add]; exact hs.erase 0⟩
        case measure => simp [intOf]; omega
    · obtain rfl : k = 12 := by omega
      by_cases hE1 : E1 = 0
      · subst hE1
        have hl1 := nzS_len 12 T1 32
        go_upto_region 11 with (first | ((with_reducible refine (at_load (t := 3)) rfl ?_); refine wl_load1 hs rfl rfl Try.underlying3 rfl rfl 1 rfl (rowOf_gI (by omega)) ?_) | ((with_reducible refine (at_load (t := 35)) rfl ?_); refine wl_loadA hs rfl rfl Try.underlying35 rfl rfl 2 rfl size35 ?_) | (go_at_call 28; refine (HT1.out _ (H.out.keep hs)).mono ?_; rintro e w2 ⟨rfl, hc⟩; replace hs := hs.call0 hc; clear hc) | ((with_reducible refine (at_alloc (t := 69)) rfl ?_); refine wl_allocA hs rfl rfl zero69 ?_; clear hs; intro w1 tb hs) | ((with_reducible refine (at_store (t := 69)) rfl ?_); refine wl_storeA hs rfl rfl rfl rfl (size69 _) (oneI 32 _) 0 rfl (by simp only [rowOf_size]) ?_; clear hs; intro w1 hs) | ((with_reducible refine (at_load (t := 69)) rfl ?_); refine wl_loadA hs rfl rfl Try.underlying69 rfl rfl 0 rfl (size69 _) ?_) | (go_at_call 30; refine (rrow_any T1 12 _ (by omega)).mono ?_; rintro e w2 ⟨v2, rfl, hc⟩; replace hs := hs.call1 hc; clear hc) | ((with_reducible refine (at_bi .append) rfl ?_); refine wl_append2 hs rfl rfl Try.underlying44 info61 rfl (by omega) 2 rfl rfl 0 rfl rfl (sps_one _) (by unfold maxLen; omega) (by omega) ?_; clear hs; intro w1 v1 hs))
        have hs3 : Tr w [] w1 [Res.blk tb (rowOf 32 (gI T1)) 69, Res.own 61 2 v1 (SP 0).length (sps (SP 0)), Res.blk xb (rowOf 18 (gI X)) 29, Res.blk sb #[.slice s.ao s.N s.c, .int .i64 s.bad, .int .i64 s.code] 35] := by rw [HS0.out, ← sps_append, List.length_append]; exact hs.erase 0
        clear hs HS0 HT1; have hs := hs3; clear hs3
        by_cases hE2 : E2 = 0
        · subst hE2
          go_upto_region 14 with (first | ((with_reducible refine (at_load (t := 35)) rfl ?_); refine wl_loadA hs rfl rfl Try.underlying35 rfl rfl 3 rfl size35 ?_) | ((with_reducible refine (at_load (t := 3)) rfl ?_); refine wl_load1 hs rfl rfl Try.underlying3 rfl rfl 2 rfl (rowOf_gI (by omega)) ?_) | (go_at_call 28; refine (HT2.out _ (H.out.keep hs)).mono ?_; rintro e w2 ⟨rfl, hc⟩; replace hs := hs.call0 hc; clear hc) | ((with_reducible refine (at_store (t := 69)) rfl ?_); refine wl_storeA hs rfl rfl rfl rfl (size69 _) (oneI 32 _) 0 rfl (by simp only [rowOf_size]) ?_; clear hs; intro w1 hs))
          clear HT2
          have hEF : EF = ER 32 := by rw [HEF.out]; simp
          have hs3 := hs.perm (List.Perm.swap _ _ _)
          clear hs HEF; have hs := hs3; clear hs3
          go_wp2_with fail
          go_loopw [6, 10] (fun l i wr => ∃ (k : Nat) (v : Value), k ≤ 32 ∧ i = .int .i64 k ∧ l = v ∧ ER k = 0 ∧ Tr w [] wr [Res.own 61 2 v (SP k).length (sps (SP k)), Res.blk tb (rowOf 32 (gI T)) 69, Res.blk xb (rowOf 18 (gI X)) 29, Res.blk sb #[.slice s.ao s.N s.c, .int .i64 s.bad, .int .i64 s.code] 35]) (fun _ i _ => 32 - (intOf i).toNat)
          case atStart => exact ⟨0, _, by omega, rfl, rfl, HE0.out, hs⟩
          case round =>
            clear hs HE0
            obtain ⟨k, v, hk, rfl, rfl, her, hs⟩ := hrel
            have HE0 := Lib.hid her
            clear her
            by_cases hlt : k < 32
            · have hltI : (k : Int) < 32 := by omega
              have HTk := Lib.hid (HTT.out (T k))
              by_cases hEk : TE (T k) = 0
              · rw [hEk] at HTk
                have HEk := Lib.hid hEk
                clear hEk
                go_upto_region 17 with fail
                refine wt_enter 11 rfl hs (by kernel_rfl) ?_
                clear hs; intro w1 hs; have hC := hs
                refine wt_take 0 rfl (by kernel_rfl) (by kernel_rfl) (by kernel_rfl) (fun _ _ _ _ h => h) rfl hC ⟨_, fun w hw => ex_loadAA (cs := #[.slice s.ao s.N s.c, .int .i64 s.bad, .int .i64 s.code]) rfl Try.underlying35 rfl size35 rfl (hw.getB 3 rfl), fun a1 ha => ?_⟩
                simp only [Act.put, List.setIfInBounds_toArray, List.set_cons_succ, List.set_cons_zero] at ha; subst ha
                refine wt_take 1 rfl (by kernel_rfl) (by kernel_rfl) (by kernel_rfl) (fun _ _ _ _ h => h) rfl hC ⟨_, fun w hw => by (go_simp; try with_reducible rfl), fun a1 ha => ?_⟩
                simp only [Act.put, List.setIfInBounds_toArray, List.set_cons_succ, List.set_cons_zero] at ha; subst ha
                refine wt_take 2 rfl (by kernel_rfl) (by kernel_rfl) (by kernel_rfl) (fun _ _ _ _ h => h) rfl hC ⟨.pointer (some ⟨tb, k, none⟩), fun w hw => ex_indexA1 rfl Try.underlying69 size3 rfl rfl k rfl hlt, fun a1 ha => ?_⟩
                simp only [Act.put, List.setIfInBounds_toArray, List.set_cons_succ, List.set_cons_zero] at ha; subst ha
                refine wt_take 3 rfl (by kernel_rfl) (by kernel_rfl) (by kernel_rfl) (fun _ _ _ _ h => h) rfl hC ⟨.int .i64 (T k), fun w hw => ex_load1 rfl Try.underlying3 rfl rfl (by rw [cell_of_row w _ _ _ _ (0, 0) (hw.getB 1 rfl)]; exact rowOf_gI (by omega)), fun a1 ha => ?_⟩
                simp only [Act.put, List.setIfInBounds_toArray, List.set_cons_succ, List.set_cons_zero] at ha; subst ha
                refine wt_all [4, 8] (by kernel_rfl) (by simp) ?_
                refine wt_cons ?_ ?_
                ·
                  refine wt_call0 hs rfl rfl (by go_simp) (HTk.out _ (H.out.keep hs)) (by simp only [Act.put, List.setIfInBounds_toArray, List.set_cons_succ, List.set_cons_zero]; rfl) ?_
                  clear hs; intro w1 hs
                  refine wt_and (hs.sub (by repeat (first | exact List.Sublist.refl _ | refine List.Sublist.cons_cons _ ?_ | refine List.Sublist.cons _ ?_))) fun hC => ?_
                  refine wt_take 5 rfl (by kernel_rfl) (by kernel_rfl) (by kernel_rfl) (fun _ _ _ _ h => h) rfl hC ⟨_, fun w hw => by (go_simp; try with_reducible rfl), fun a1 ha => ?_⟩
                  simp only [Act.put, List.setIfInBounds_toArray, List.set_cons_succ, List.set_cons_zero] at ha; subst ha
                  refine wt_take 6 rfl (by kernel_rfl) (by kernel_rfl) (by kernel_rfl) (fun _ _ _ _ h => h) rfl hC ⟨_, fun w hw => by (go_simp; try with_reducible rfl), fun a1 ha => ?_⟩
                  simp only [Act.put, List.setIfInBounds_toArray, List.set_cons_succ, List.set_cons_zero] at ha; subst ha
                  refine wt_take 7 rfl (by kernel_rfl) (by kernel_rfl) (by kernel_rfl) (fun _ _ _ _ h => h) rfl hC ⟨_, fun w hw => by (go_simp; try with_reducible rfl), fun a1 ha => ?_⟩
                  simp only [Act.put, List.setIfInBounds_toArray, List.set_cons_succ, List.set_cons_zero] at ha; subst ha
                  refine wt_one 8 (by kernel_rfl) ?_
                  refine wt_allocA hs rfl rfl rfl zero69 (fun _ => by simp only [Act.put, List.setIfInBounds_toArray, List.set_cons_succ, List.set_cons_zero]; rfl) ?_
                  clear hs; intro w1 ub hs
                  refine wt_and (hs.sub (by repeat (first | exact List.Sublist.refl _ | refine List.Sublist.cons_cons _ ?_ | refine List.Sublist.cons _ ?_))) fun hC => ?_
                  refine wt_one 9 (by kernel_rfl) ?_
                  refine wt_storeA hs rfl rfl rfl rfl rfl (size69 _) (oneI 32 _) 0 rfl (by simp only [rowOf_size]) (by simp only [Act.put, List.setIfInBounds_toArray, List.set_cons_succ, List.set_cons_zero]; rfl) ?_
                  clear hs; intro w1 hs
                  refine wt_and (hs.sub (by repeat (first | exact List.Sublist.refl _ | refine List.Sublist.cons_cons _ ?_ | refine List.Sublist.cons _ ?_))) fun hC => ?_
                  refine wt_take 10 rfl (by kernel_rfl) (by kernel_rfl) (by kernel_rfl) (fun _ _ _ _ h => h) rfl hC ⟨_, fun w hw => by (go_simp; try with_reducible rfl), fun a1 ha => ?_⟩
                  simp only [Act.put, List.setIfInBounds_toArray, List.set_cons_succ, List.set_cons_zero] at ha; subst ha
                  refine wt_done (by kernel_rfl) ?_
                  have hs3 : Tr w [] w1 [Res.blk ub (rowOf 32 (gI (TB (T k)))) 69, Res.own 61 2 u6 (SP k).length (sps (SP k)), Res.blk tb (rowOf 32 (gI T)) 69, Res.blk xb (rowOf 18 (gI X)) 29, Res.blk sb #[.slice s.ao s.N s.c, .int .i64 s.bad, .int .i64 s.code] 35] := hs
                  clear hs hC; have hs := hs3; clear hs3
                  as_aux_lemma =>
                    have HNP := Lib.hid (HSP.out k)
                    have hlk := HLK.out k hlt
                    have hln := nzS_len (44 + 32 * (k : Int)) (TB (T k)) 32
                    go_wp2_with (first | ((with_reducible refine (at_load (t := 69)) rfl ?_); refine wl_loadA hs rfl rfl Try.underlying69 rfl rfl 0 rfl (size69 _) ?_) | (go_at_call 30; refine (rrow_any (TB (T k)) (44 + 32 * (k : Int)) _ (by omega)).mono ?_; rintro e w2 ⟨v2, rfl, hc⟩; replace hs := hs.call1 hc; clear hc) | ((with_reducible refine (at_bi .append) rfl ?_); refine wl_append2 hs rfl rfl Try.underlying44 info61 rfl (by omega) 2 rfl rfl 0 rfl rfl (sps_one _) (by unfold maxLen; omega) (by omega) ?_; clear hs; intro w1 v1 hs))
                    go_roundw
                    case rel => exact ⟨k + 1, _, by omega, by go_num, rfl, by rw [HER.out k, if_neg (by rw [HE0.out]; simp)]; exact HEk.out, by rw [HNP.out, ← sps_append, List.length_append]; exact (hs.erase 0).erase 0⟩
                    case measure => simp [intOf]; omega
                refine wt_cons ?_ ?_
                ·
                  refine wt_allocA hs rfl rfl rfl zero69 (fun _ => by simp only [Act.put, List.setIfInBounds_toArray, List.set_cons_succ, List.set_cons_zero]; rfl) ?_
                  clear hs; intro w1 ub hs
                  refine wt_and (hs.sub (by repeat (first | exact List.Sublist.refl _ | refine List.Sublist.cons_cons _ ?_ | refine List.Sublist.cons _ ?_))) fun hC => ?_
                  refine wt_one 4 (by kernel_rfl) ?_
                  refine wt_call0 hs rfl rfl (by go_simp) (HTk.out _ (H.out.keep hs)) (by simp only [Act.put, List.setIfInBounds_toArray, List.set_cons_succ, List.set_cons_zero]; rfl) ?_
                  clear hs; intro w1 hs
                  refine wt_and (hs.sub (by repeat (first | exact List.Sublist.refl _ | refine List.Sublist.cons_cons _ ?_ | refine List.Sublist.cons _ ?_))) fun hC => ?_
                  refine wt_take 5 rfl (by kernel_rfl) (by kernel_rfl) (by kernel_rfl) (fun _ _ _ _ h => h) rfl hC ⟨_, fun w hw => by (go_simp; try with_reducible rfl), fun a1 ha => ?_⟩
                  simp only [Act.put, List.setIfInBounds_toArray, List.set_cons_succ, List.set_cons_zero] at ha; subst ha
                  refine wt_take 6 rfl (by kernel_rfl) (by kernel_rfl) (by kernel_rfl) (fun _ _ _ _ h => h) rfl hC ⟨_, fun w hw => by (go_simp; try with_reducible rfl), fun a1 ha => ?_⟩
                  simp only [Act.put, List.setIfInBounds_toArray, List.set_cons_succ, List.set_cons_zero] at ha; subst ha
                  refine wt_take 7 rfl (by kernel_rfl) (by kernel_rfl) (by kernel_rfl) (fun _ _ _ _ h => h) rfl hC ⟨_, fun w hw => by (go_simp; try with_reducible rfl), fun a1 ha => ?_⟩
                  simp only [Act.put, List.setIfInBounds_toArray, List.set_cons_succ, List.set_cons_zero] at ha; subst ha
                  refine wt_one 9 (by kernel_rfl) ?_
                  refine wt_storeA hs rfl rfl rfl rfl rfl (size69 _) (oneI 32 _) 0 rfl (by simp only [rowOf_size]) (by simp only [Act.put, List.setIfInBounds_toArray, List.set_cons_succ, List.set_cons_zero]; rfl) ?_
                  clear hs; intro w1 hs
                  refine wt_and (hs.sub (by repeat (first | exact List.Sublist.refl _ | refine List.Sublist.cons_cons _ ?_ | refine List.Sublist.cons _ ?_))) fun hC => ?_
                  refine wt_take 10 rfl (by kernel_rfl) (by kernel_rfl) (by kernel_rfl) (fun _ _ _ _ h => h) rfl hC ⟨_, fun w hw => by (go_simp; try with_reducible rfl), fun a1 ha => ?_⟩
                  simp only [Act.put, List.setIfInBounds_toArray, List.set_cons_succ, List.set_cons_zero] at ha; subst ha
                  refine wt_done (by kernel_rfl) ?_
                  have hs3 : Tr w [] w1 [Res.blk ub (rowOf 32 (gI (TB (T k)))) 69, Res.own 61 2 u6 (SP k).length (sps (SP k)), Res.blk tb (rowOf 32 (gI T)) 69, Res.blk xb (rowOf 18 (gI X)) 29, Res.blk sb #[.slice s.ao s.N s.c, .int .i64 s.bad, .int .i64 s.code] 35] := hs
                  clear hs hC; have hs := hs3; clear hs3
                  as_aux_lemma =>
                    have HNP := Lib.hid (HSP.out k)
                    have hlk := HLK.out k hlt
                    have hln := nzS_len (44 + 32 * (k : Int)) (TB (T k)) 32
                    go_wp2_with (first | ((with_reducible refine (at_load (t := 69)) rfl ?_); refine wl_loadA hs rfl rfl Try.underlying69 rfl rfl 0 rfl (size69 _) ?_) | (go_at_call 30; refine (rrow_any (TB (T k)) (44 + 32 * (k : Int)) _ (by omega)).mono ?_; rintro e w2 ⟨v2, rfl, hc⟩; replace hs := hs.call1 hc; clear hc) | ((with_reducible refine (at_bi .append) rfl ?_); refine wl_append2 hs rfl rfl Try.underlying44 info61 rfl (by omega) 2 rfl rfl 0 rfl rfl (sps_one _) (by unfold maxLen; omega) (by omega) ?_; clear hs; intro w1 v1 hs))
                    go_roundw
                    case rel => exact ⟨k + 1, _, by omega, by go_num, rfl, by rw [HER.out k, if_neg (by rw [HE0.out]; simp)]; exact HEk.out, by rw [HNP.out, ← sps_append, List.length_append]; exact (hs.erase 0).erase 0⟩
                    case measure => simp [intOf]; omega
                exact wt_nil
              · have hfin : EF = TE (T k) := by
                  have h1 : ER (k + 1) = TE (T k) := by rw [HER.out, if_neg (by rw [HE0.out]; simp)]
                  have h2 := HST.out (k + 1) (32 - (k + 1)) (by rw [h1]; exact hEk)
                  rw [hEF, show 32 = k + 1 + (32 - (k + 1)) by omega, h2, h1]
                have tE : (TE (T k) != 0) = true := by simpa using hEk
                clear hEF hEk
                subst hfin
                generalize TE (T k) = Ek at *
                go_upto_region 17 with fail
                refine wt_enter 11 rfl hs (by kernel_rfl) ?_
                clear hs; intro w1 hs; have hC := hs
                refine wt_take 0 rfl (by kernel_rfl) (by kernel_rfl) (by kernel_rfl) (fun _ _ _ _ h => h) rfl hC ⟨_, fun w hw => ex_loadAA (cs := #[.slice s.ao s.N s.c, .int .i64 s.bad, .int .i64 s.code]) rfl Try.underlying35 rfl size35 rfl (hw.getB 3 rfl), fun a1 ha => ?_⟩
                simp only [Act.put, List.setIfInBounds_toArray, List.set_cons_succ, List.set_cons_zero] at ha; subst ha
                refine wt_take 1 rfl (by kernel_rfl) (by kernel_rfl) (by kernel_rfl) (fun _ _ _ _ h => h) rfl hC ⟨_, fun w hw => by (go_simp; try with_reducible rfl), fun a1 ha => ?_⟩
                simp only [Act.put, List.setIfInBounds_toArray, List.set_cons_succ, List.set_cons_zero] at ha; subst ha
                refine wt_take 2 rfl (by kernel_rfl) (by kernel_rfl) (by kernel_rfl) (fun _ _ _ _ h => h) rfl hC ⟨.pointer (some ⟨tb, k, none⟩), fun w hw => ex_indexA1 rfl Try.underlying69 size3 rfl rfl k rfl hlt, fun a1 ha => ?_⟩
                simp only [Act.put, List.setIfInBounds_toArray, List.set_cons_succ, List.set_cons_zero] at ha; subst ha
                refine wt_take 3 rfl (by kernel_rfl) (by kernel_rfl) (by kernel_rfl) (fun _ _ _ _ h => h) rfl hC ⟨.int .i64 (T k), fun w hw => ex_load1 rfl Try.underlying3 rfl rfl (by rw [cell_of_row w _ _ _ _ (0, 0) (hw.getB 1 rfl)]; exact rowOf_gI (by omega)), fun a1 ha => ?_⟩
                simp only [Act.put, List.setIfInBounds_toArray, List.set_cons_succ, List.set_cons_zero] at ha; subst ha
                refine wt_all [4, 8] (by kernel_rfl) (by simp) ?_
                refine wt_cons ?_ ?_
                ·
                  refine wt_call0 hs rfl rfl (by go_simp) (HTk.out _ (H.out.keep hs)) (by simp only [Act.put, List.setIfInBounds_toArray, List.set_cons_succ, List.set_cons_zero]; rfl) ?_
                  clear hs; intro w1 hs
                  refine wt_and (hs.sub (by repeat (first | exact List.Sublist.refl _ | refine List.Sublist.cons_cons _ ?_ | refine List.Sublist.cons _ ?_))) fun hC => ?_
                  refine wt_take 5 rfl (by kernel_rfl) (by kernel_rfl) (by kernel_rfl) (fun _ _ _ _ h => h) rfl hC ⟨_, fun w hw => by (go_simp; try with_reducible rfl), fun a1 ha => ?_⟩
                  simp only [Act.put, List.setIfInBounds_toArray, List.set_cons_succ, List.set_cons_zero] at ha; subst ha
                  refine wt_take 6 rfl (by kernel_rfl) (by kernel_rfl) (by kernel_rfl) (fun _ _ _ _ h => h) rfl hC ⟨_, fun w hw => by (go_simp; try with_reducible rfl), fun a1 ha => ?_⟩
                  simp only [Act.put, List.setIfInBounds_toArray, List.set_cons_succ, List.set_cons_zero] at ha; subst ha
                  refine wt_take 7 rfl (by kernel_rfl) (by kernel_rfl) (by kernel_rfl) (fun _ _ _ _ h => h) rfl hC ⟨_, fun w hw => by (go_simp; try with_reducible rfl), fun a1 ha => ?_⟩
                  simp only [Act.put, List.setIfInBounds_toArray, List.set_cons_succ, List.set_cons_zero] at ha; subst ha
                  refine wt_one 8 (by kernel_rfl) ?_
                  refine wt_allocA hs rfl rfl rfl zero69 (fun _ => by simp only [Act.put, List.setIfInBounds_toArray, List.set_cons_succ, List.set_cons_zero]; rfl) ?_
                  clear hs; intro w1 ub hs
                  refine wt_and (hs.sub (by repeat (first | exact List.Sublist.refl _ | refine List.Sublist.cons_cons _ ?_ | refine List.Sublist.cons _ ?_))) fun hC => ?_
                  refine wt_one 9 (by kernel_rfl) ?_
                  refine wt_storeA hs rfl rfl rfl rfl rfl (size69 _) (oneI 32 _) 0 rfl (by simp only [rowOf_size]) (by simp only [Act.put, List.setIfInBounds_toArray, List.set_cons_succ, List.set_cons_zero]; rfl) ?_
                  clear hs; intro w1 hs
                  refine wt_and (hs.sub (by repeat (first | exact List.Sublist.refl _ | refine List.Sublist.cons_cons _ ?_ | refine List.Sublist.cons _ ?_))) fun hC => ?_
                  refine wt_take 10 rfl (by kernel_rfl) (by kernel_rfl) (by kernel_rfl) (fun _ _ _ _ h => h) rfl hC ⟨_, fun w hw => by (go_simp; try with_reducible rfl), fun a1 ha => ?_⟩
                  simp only [Act.put, List.setIfInBounds_toArray, List.set_cons_succ, List.set_cons_zero] at ha; subst ha
                  refine wt_done (by kernel_rfl) ?_
                  go_wp2
                  go_ret2
                  exact ⟨_, rfl, by rw [HL1.out (by simpa using tE)]; exact hs.letgo.addNil 61 2⟩
                refine wt_cons ?_ ?_
                ·
                  refine wt_allocA hs rfl rfl rfl zero69 (fun _ => by simp only [Act.put, List.setIfInBounds_toArray, List.set_cons_succ, List.set_cons_zero]; rfl) ?_
                  clear hs; intro w1 ub hs
                  refine wt_and (hs.sub (by repeat (first | exact List.Sublist.refl _ | refine List.Sublist.cons_cons _ ?_ | refine List.Sublist.cons _ ?_))) fun hC => ?_
                  refine wt_one 4 (by kernel_rfl) ?_
                  refine wt_call0 hs rfl rfl (by go_simp) (HTk.out _ (H.out.keep hs)) (by simp only [Act.put, List.setIfInBounds_toArray, List.set_cons_succ, List.set_cons_zero]; rfl) ?_
                  clear hs; intro w1 hs
                  refine wt_and (hs.sub (by repeat (first | exact List.Sublist.refl _ | refine List.Sublist.cons_cons _ ?_ | refine List.Sublist.cons _ ?_))) fun hC => ?_
                  refine wt_take 5 rfl (by kernel_rfl) (by kernel_rfl) (by kernel_rfl) (fun _ _ _ _ h => h) rfl hC ⟨_, fun w hw => by (go_simp; try with_reducible rfl), fun a1 ha => ?_⟩
                  simp only [Act.put, List.setIfInBounds_toArray, List.set_cons_succ, List.set_cons_zero] at ha; subst ha
                  refine wt_take 6 rfl (by kernel_rfl) (by kernel_rfl) (by kernel_rfl) (fun _ _ _ _ h => h) rfl hC ⟨_, fun w hw => by (go_simp; try with_reducible rfl), fun a1 ha => ?_⟩
                  simp only [Act.put, List.setIfInBounds_toArray, List.set_cons_succ, List.set_cons_zero] at ha; subst ha
                  refine wt_take 7 rfl (by kernel_rfl) (by kernel_rfl) (by kernel_rfl) (fun _ _ _ _ h => h) rfl hC ⟨_, fun w hw => by (go_simp; try with_reducible rfl), fun a1 ha => ?_⟩
                  simp only [Act.put, List.setIfInBounds_toArray, List.set_cons_succ, List.set_cons_zero] at ha; subst ha
                  refine wt_one 9 (by kernel_rfl) ?_
                  refine wt_storeA hs rfl rfl rfl rfl rfl (size69 _) (oneI 32 _) 0 rfl (by simp only [rowOf_size]) (by simp only [Act.put, List.setIfInBounds_toArray, List.set_cons_succ, List.set_cons_zero]; rfl) ?_
                  clear hs; intro w1 hs
                  refine wt_and (hs.sub (by repeat (first | exact List.Sublist.refl _ | refine List.Sublist.cons_cons _ ?_ | refine List.Sublist.cons _ ?_))) fun hC => ?_
                  refine wt_take 10 rfl (by kernel_rfl) (by kernel_rfl) (by kernel_rfl) (fun _ _ _ _ h => h) rfl hC ⟨_, fun w hw => by (go_simp; try with_reducible rfl), fun a1 ha => ?_⟩
                  simp only [Act.put, List.setIfInBounds_toArray, List.set_cons_succ, List.set_cons_zero] at ha; subst ha
                  refine wt_done (by kernel_rfl) ?_
                  go_wp2
                  go_ret2
                  exact ⟨_, rfl, by rw [HL1.out (by simpa using tE)]; exact hs.letgo.addNil 61 2⟩
                exact wt_nil
            · obtain rfl : k = 32 := by omega
              have hEF0 : EF = 0 := by rw [hEF, HE0.out]
              clear hEF
              subst hEF0
              go_wp2_with fail
              go_ret2
              exact ⟨_, rfl, by rw [HL0.out (by first | rfl | trivial)]; exact hs.sub (List.Sublist.cons_cons _ (List.nil_sublist _))⟩
        · have tE : (E2 != 0) = true := by simpa using hE2
          have hEF : EF = E2 := by rw [HEF.out, if_neg (by simp), if_pos hE2]
          clear HEF
          subst hEF
          clear hE2
          go_wp2_with (first | ((with_reducible refine (at_load (t := 35)) rfl ?_); refine wl_loadA hs rfl rfl Try.underlying35 rfl rfl 3 rfl size35 ?_) | ((with_reducible refine (at_load (t := 3)) rfl ?_); refine wl_load1 hs rfl rfl Try.underlying3 rfl rfl 2 rfl (rowOf_gI (by omega)) ?_) | (go_at_call 28; refine (HT2.out _ (H.out.keep hs)).mono ?_; rintro e w2 ⟨rfl, hc⟩; replace hs := hs.call0 hc; clear hc) | ((with_reducible refine (at_store (t := 69)) rfl ?_); refine wl_storeA hs rfl rfl rfl rfl (size69 _) (oneI 32 _) 0 rfl (by simp only [rowOf_size]) ?_; clear hs; intro w1 hs))
          go_ret2
          exact ⟨_, rfl, by rw [HL1.out (by simpa using tE)]; exact hs.letgo.addNil 61 2⟩
      · have tE : (E1 != 0) = true := by simpa using hE1
        have hEF : EF = E1 := by rw [HEF.out, if_pos hE1]
        clear HEF
        subst hEF
        clear hE1
        go_wp2_with (first | ((with_reducible refine (at_load (t := 3)) rfl ?_); refine wl_load1 hs rfl rfl Try.underlying3 rfl rfl 1 rfl (rowOf_gI (by omega)) ?_) | ((with_reducible refine (at_load (t := 35)) rfl ?_); refine wl_loadA hs rfl rfl Try.underlying35 rfl rfl 2 rfl size35 ?_) | (go_at_call 28; refine (HT1.out _ (H.out.keep hs)).mono ?_; rintro e w2 ⟨rfl, hc⟩; replace hs := hs.call0 hc; clear hc) | ((with_reducible refine (at_alloc (t := 69)) rfl ?_); refine wl_allocA hs rfl rfl zero69 ?_; clear hs; intro w1 tb hs) | ((with_reducible refine (at_store (t := 69)) rfl ?_); refine wl_storeA hs rfl rfl rfl rfl (size69 _) (oneI 32 _) 0 rfl (by simp only [rowOf_size]) ?_; clear hs; intro w1 hs))
        go_ret2
        exact ⟨_, rfl, by rw [HL1.out (by simpa using tE)]; exact hs.letgo.addNil 61 2⟩
theorem erK_stays (TE : Int → Int) (T : Nat → Int) (k : Nat) : ∀ m, erK TE T k ≠ 0 → erK TE T (k + m) = erK TE T k
  | 0, _ => rfl
  | m + 1, h => by
    have ih := erK_stays TE T k m h
    rw [show k + (m + 1) = (k + m) + 1 by omega]
    simp only [erK]
    rw [ih, if_pos h]
theorem spK_lenD (s : Src) (X : Nat → Int) (k : Nat) : (spK (tbF s) (tbF s (X 17)) (spD X ++ nzS 12 (tbF s (X 16)) 32) k).length ≤ 44 + 32 * k := by
  have h1 := nzS_len 0 (fun i => X (4 + i)) 12
  have h2 := nzS_len 12 (tbF s (X 16)) 32
  exact spK_len _ _ (by simp only [spD, List.length_append]; omega) k
theorem rspots_any (s : Src) (X : Nat → Int) (w : World) (h : s.In w) :
    Calls Try.prog 19 #[.agg #[.slice s.ao s.N s.c, .int .i64 s.bad, .int .i64 s.code], .agg (rowOf 18 (gI X))] w (SpP (spE s X) (spL s X) w) :=
  rspots_core s X (tbF s (X 16)) (tbF s (X 17)) (tbF s) (tbE s) (tbE s (X 16)) (tbE s (X 17)) (spK (tbF s) (tbF s (X 17)) (spD X ++ nzS 12 (tbF s (X 16)) 32)) (erK (tbE s) (tbF s (X 17))) (spE s X) w h
    (Lib.hid fun w h => rtable_any s _ w h) (Lib.hid fun w h => rtable_any s _ w h) (Lib.hid fun x w h => rtable_any s x w h) (Lib.hid rfl) (Lib.hid fun _ => rfl) (Lib.hid fun k _ => spK_lenD s X k) (Lib.hid fun _ => rfl) (Lib.hid rfl) (Lib.hid rfl) (Lib.hid fun k m h => erK_stays _ _ k m h) (spL s X) (Lib.hid fun h => if_pos h) (Lib.hid fun h => if_neg h)
end Go.Proofs.Ytdlnfdlgnbkppaa
