/- Agree. -/
import Derived.Test.YtdlnfdlgnbkppaaWSpots
namespace Go.Proofs.Ytdlnfdlgnbkppaa
set_option linter.unusedVariables false
set_option linter.unusedSimpArgs false
open Go Go.Sp Go.RowKit

theorem nzS_get {FF : Nat → Int} {k : Nat} (hk : k < 1068) (h : FF k ≠ 0) : (nzS 0 FF 1068)[(nzS 0 FF k).length]? = some ((k : Int), FF k) := by
  have e : 1068 = (k + 1) + (1068 - (k + 1)) := by omega
  rw [e, nzS_add 0 FF (k + 1), nzS_yes h, List.append_assoc, List.getElem?_append_right (Nat.le_refl _), Nat.sub_self, Int.zero_add]
  rfl
theorem at_spots {w0 w : World} {S : List Nat} {L : List Res} (hs : Tr w0 S w L) (i : Nat) {g n c m : Nat} {l : List (Int × Int)} {a b : Int} (hi : L[i]? = some (Res.own 61 2 (.slice (some ⟨g, 0, none⟩) n c) n (sps l))) (hm : l[m]? = some (a, b)) :
    w.cell? ⟨g, m * 2, none⟩ = some (.int .i64 a) ∧ w.cell? ⟨g, m * 2 + 1, none⟩ = some (.int .i64 b) := by
  have hk := (List.getElem?_eq_some_iff.1 hm).1
  obtain ⟨h1, h2⟩ := sps_at hk
  rw [hm] at h1 h2
  rw [Nat.mul_comm m 2]
  exact ⟨hs.own_cell i hi h1, hs.own_cell i hi h2⟩
set_option maxRecDepth 20000 in
set_option maxHeartbeats 1000000 in
theorem agree_walk (X : Nat → Int) (s : Src) (w : World) (hI : s.In w) : Calls Try.prog 10 #[.agg (rowOf 21 (fileC X s))] w fun e w' => e = .returned (.bool true) ∧ Below w.heap.size w w' := by
  have hs := Tr.refl w []
  have H := Lib.hid hI
  clear hI
  have L1 := spL_len s X
  have HS : Hid (∀ mb w, Rdr s mb w → Calls Try.prog 18 #[.iface 37 (.pointer (some ⟨mb, 0, none⟩)), .agg (rowOf 18 (gI X))] w (SpP (spE s X) (spL s X) w)) := Lib.hid fun mb w h => spots_any s X mb w h
  have HF : Hid (spE s X = 0 → ∀ k : Nat, k < 1068 → ∀ mb w, Rdr s mb w → Calls Try.prog 16 #[.iface 37 (.pointer (some ⟨mb, 0, none⟩)), .agg (rowOf 18 (gI X)), .int .i64 (k : Int)] w fun e w' => e = .returned (.tuple #[.int .i64 (fnF s X k), .int .i64 0]) ∧ Tr w [] w' []) :=
    Lib.hid fun h k hk mb w hr => by have := find_yes s X mb k w hr hk; rwa [spE_iff.1 h k hk] at this
  have HSL : Hid (spE s X = 0 → spL s X = nzS 0 (fnF s X) 1068) := Lib.hid fun h => spL_eq h
  have HS0 : Hid (spE s X ≠ 0 → spL s X = []) := Lib.hid fun h => if_neg h
  generalize fnF s X = FF at *
  generalize spE s X = SE at *
  generalize spL s X = SL at *
  go_enter Try.func10, Try.ntmps10
  go_upto_region 5 with (first | ((with_reducible refine (at_box (t := 32)) rfl ?_); refine wl_boxA hs rfl rfl rfl ?_; clear hs; intro w1 fb hs) | (go_at_call 12; refine (known_any _).mono ?_; rintro e w2 ⟨rfl, hc⟩; replace hs := hs.call0 hc; clear hc) | ((with_reducible refine (at_load (t := 32)) rfl ?_); refine wl_loadA hs rfl rfl Try.underlying32 rfl rfl 0 rfl (size32 _) ?_) | (go_at_call 15; refine (source_any X s _).mono ?_; rintro e w2 ⟨rfl, hc⟩; replace hs := hs.call0 hc; clear hc) | ((with_reducible refine (at_build (t := 39)) rfl ?_); refine wl_buildP rfl rfl (_) (by rfl) ((built39 _ s.bad s.code s.N s.c s.ao rfl)) ?_) | ((with_reducible refine (at_box (t := 39)) rfl ?_); refine wl_boxA hs rfl rfl rfl ?_; clear hs; intro w1 mb hs))
  replace hs : Tr w [] w1 [Res.blk mb s.cs 39, Res.blk fb (rowOf 21 (fileC X s)) 32] := hs
  go_upto_region 6 with (first | ((with_reducible refine (at_load (t := 29)) rfl ?_); refine wl_loadR rfl rfl Try.underlying29 rfl size29n rfl (file_rd (hs.rd0 1 rfl (by omega))) ?_) | (go_at_call 18; refine (HS.out mb _ ⟨hs.get 0 rfl, H.out.keep hs⟩).mono ?_; rintro e w2 ⟨v1, rfl, hc⟩; replace hs := hs.call1 hc; clear hc))
  clear HS
  by_cases h0 : SE = 0
  · have HFk := Lib.hid (HF.out h0)
    have HL := Lib.hid (HSL.out h0)
    subst h0
    clear HF HSL HS0
    have hs3 : Tr w [] w2 [Res.own 61 2 v1 SL.length (sps SL), Res.blk mb s.cs 39, Res.blk fb (rowOf 21 (fileC X s)) 32] := hs
    clear hs
    have hs := hs3
    clear hs3
    obtain ⟨ao, c, g, hv, _, _, hao, _⟩ := hs.own_open 0 rfl
    subst hv
    have HAO := Lib.hid hao
    clear hao
    go_wp2_with fail
    go_loopw [7, 8] (fun a i wr => ∃ (k : Nat), k ≤ 1068 ∧ i = .int .i64 k ∧ a = .int .i64 ((nzS 0 FF k).length : Nat) ∧ Tr w [] wr [Res.own 61 2 (.slice ao SL.length c) SL.length (sps SL), Res.blk mb s.cs 39, Res.blk fb (rowOf 21 (fileC X s)) 32]) (fun _ i _ => 1068 - (intOf i).toNat)
    case atStart => exact ⟨0, by omega, rfl, rfl, hs⟩
    case round =>
      clear hs
      obtain ⟨k, hk, rfl, rfl, hs⟩ := hrel
      have hlen := nzS_len 0 FF k
      by_cases hlt : k < 1068
      · have hltI : (k : Int) < 1068 := by omega
        have HF1 := Lib.hid (HFk.out k hlt)
        by_cases hz : FF k = 0
        · have HN := Lib.hid (nzS_no (f := 0) hz)
          rw [hz] at HF1
          go_wp2_with (first | ((with_reducible refine (at_load (t := 29)) rfl ?_); refine wl_loadR rfl rfl Try.underlying29 rfl size29n rfl (file_rd (hs.rd0 2 rfl (by omega))) ?_) | (go_at_call 16; refine (HF1.out mb _ ⟨hs.get 1 rfl, H.out.keep hs⟩).mono ?_; rintro e w2 ⟨rfl, hc⟩; replace hs := hs.call0 hc; clear hc))
          go_roundw
          case rel => exact ⟨k + 1, by omega, by go_num, by rw [HN.out], hs⟩
          case measure => simp [intOf]; omega
        · have HN := Lib.hid (nzS_yes (f := 0) hz)
          have hget := nzS_get hlt hz
          rw [← HL.out] at hget
          have tF : (FF k != 0) = true := by simpa using hz
          have hm : (nzS 0 FF k).length < SL.length := (List.getElem?_eq_some_iff.1 hget).1
          have hao := HAO.out (by omega)
          subst hao
          have HV : Hid (∀ w' L, Tr w [] w' (Res.own 61 2 (.slice (some ⟨g, 0, none⟩) SL.length c) SL.length (sps SL) :: L) → w'.cell? ⟨g, (nzS 0 FF k).length * 2, none⟩ = some (.int .i64 (k : Int)) ∧ w'.cell? ⟨g, (nzS 0 FF k).length * 2 + 1, none⟩ = some (.int .i64 (FF k))) :=
            Lib.hid fun w' L h => at_spots h 0 rfl hget
          have hl1 : (nzS 0 FF (k + 1)).length = (nzS 0 FF k).length + 1 := by rw [HN.out, List.length_append]; rfl
          have HL1 := Lib.hid hl1
          clear hl1 HN hz hget
          generalize (nzS 0 FF k).length = m at *
          generalize FF k = y at *
          have tL : decide (SL.length ≤ m) = false := decide_eq_false (by omega)
          go_wp2_with (first
            | ((with_reducible refine (at_load (t := 29)) rfl ?_); refine wl_loadR rfl rfl Try.underlying29 rfl size29n rfl (file_rd (hs.rd0 2 rfl (by omega))) ?_)
            | (go_at_call 16; refine (HF1.out mb _ ⟨hs.get 1 rfl, H.out.keep hs⟩).mono ?_; rintro e w2 ⟨rfl, hc⟩; replace hs := hs.call0 hc; clear hc)
            | ((with_reducible refine at_index rfl ?_); refine wl_index rfl rfl Try.underlying44 size61 rfl rfl m rfl hm rfl ?_)
            | ((with_reducible refine (at_load (t := 3)) rfl ?_); refine wl_loadC (p := ⟨g, m * 2, none⟩) rfl rfl Try.underlying3 rfl rfl (HV.out _ _ hs).1 ?_)
            | ((with_reducible refine (at_load (t := 3)) rfl ?_); refine wl_loadC (p := ⟨g, m * 2 + 1, none⟩) rfl rfl Try.underlying3 rfl rfl (HV.out _ _ hs).2 ?_))
          go_roundw
          case rel => exact ⟨k + 1, by omega, by go_num, by rw [HL1.out]; go_num, hs⟩
          case measure => simp [intOf]; omega
      · obtain rfl : k = 1068 := by omega
        rw [← HL.out] at hlen ⊢
        go_wp2_with fail
        go_ret
        exact ⟨rfl, hs.below⟩
  · have t1 : (SE != 0) = true := by simpa using h0
    have hl := HS0.out h0
    subst hl
    clear h0 HF HSL HS0
    obtain ⟨ao, c, g, hv, _⟩ := hs.own_open 0 rfl
    subst hv
    go_wp2
    go_ret
    exact ⟨rfl, hs.below⟩
end Go.Proofs.Ytdlnfdlgnbkppaa
