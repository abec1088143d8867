/- Need: what it answers. -/
import Derived.Test.YtdlnfdlgnbkppaaP
namespace Go.Proofs.Ytdlnfdlgnbkppaa
set_option linter.unusedVariables false
set_option linter.unusedSimpArgs false
open Go Go.Sp Go.RowKit

theorem fnE_far {s : Src} {X : Nat → Int} {k : Nat} (h : fnE s X k = 0) (r1 : ¬ k < 12) (r2 : ¬ k < 44) : tbE s (X 17) = 0 := by
  unfold fnE at h
  rw [if_neg r1, if_neg r2] at h
  by_cases h0 : tbE s (X 17) = 0
  · exact h0
  · rw [if_pos h0] at h; exact h
theorem find_err {α : Prop} (h : Hid α) : α := h.out
set_option maxRecDepth 10000 in
set_option maxHeartbeats 2000000 in
theorem need_core (s : Src) (X : Nat → Int) (mb : Nat) (w : World) (h : Rdr s mb w) {ao : Option Addr} {N c db doff : Nat} {G : Nat → Int} (I : Ints w (.slice ao N c) ao N c db doff G)
    (g : Nat → Nat) (hg : ∀ k, k < N → G k = (g k : Int) ∧ g k < 1068) (T : Nat → Int) (hT : T = tbF s (X 17)) (R E : Int)
    (hE : Hid (E = ndE (fnE s X) g N)) (hR : Hid (ndE (fnE s X) g N = 0 → R = ((cntP (finF (X 16) (X 17) T (holF (fnF s X) g N)) 1102 : Nat) : Int))) (hR0 : Hid (ndE (fnE s X) g N ≠ 0 → R = 0)) :
    Calls Try.prog 24 #[.iface 37 (.pointer (some ⟨mb, 0, none⟩)), .agg (rowOf 18 (gI X)), .slice ao N c] w fun e w' => e = .returned (.tuple #[.int .i64 R, .int .i64 E]) ∧ Tr w [] w' [] := by
  have hs := Tr.refl w []
  have H := Lib.hid h
  have HI := Lib.hid I
  have hao := I.ao
  have hmx := I.max
  have hle := I.le
  unfold maxLen at hmx
  have HG := Lib.hid hg
  have HT := Lib.hid hT
  have HAO := Lib.hid hao
  clear I h hg hT hao
  go_enter Try.func24, Try.ntmps24
  go_wp2_with (first | ((with_reducible refine (at_box (t := 29)) rfl ?_); refine wl_boxA hs rfl rfl rfl ?_; clear hs; intro w1 xb hs))
  go_loopw [29] (fun i wr => ∃ k : Nat, k ≤ N ∧ i = .int .i64 k ∧ Tr w [] wr [Res.blk xb (rowOf 18 (gI X)) 29]) (fun i _ => N - (intOf i).toNat)
  case atStart => exact ⟨0, by omega, rfl, hs⟩
  case round =>
    clear hs
    obtain ⟨k, hk, rfl, hs⟩ := hrel
    by_cases hlt : k < N
    · have hltI : (k : Int) < N := by omega
      have hao := HAO.out (by omega)
      subst hao
      have hm := (HG.out k hlt).2
      have HV : Hid (∀ w' L, Tr w [] w' L → w'.cell? ⟨db, doff + k, none⟩ = some (.int .i64 (g k : Int))) := Lib.hid fun w' L h => by rw [← (HG.out k hlt).1]; exact (HI.out.keep h).rd k (by omega)
      obtain ⟨a1, a2, a3, ha⟩ := way_tuple (g k)
      have HW := Lib.hid (fun w => way_yes (g k) w hm)
      rw [ha] at HW
      generalize g k = gk at *
      clear ha
      go_wp2_with (first | ((with_reducible refine at_index rfl ?_); refine wl_index rfl rfl Try.underlying33 size3 rfl rfl k rfl (by omega) rfl ?_) | ((with_reducible refine (at_load (t := 3)) rfl ?_); refine wl_loadC rfl rfl Try.underlying3 rfl rfl (by rw [Nat.mul_one]; exact HV.out _ _ hs) ?_) | (go_at_call 13; refine (HW.out _).mono ?_; rintro e w2 ⟨rfl, rfl⟩))
      go_roundw
      case rel => exact ⟨k + 1, by omega, by go_num, hs⟩
      case measure => simp [intOf]; omega
    · obtain rfl : k = N := by omega
      go_wp2_with (first | ((with_reducible refine at_makeM rfl ?_); refine wl_makeM hs rfl rfl ?_; clear hs; intro w1 q hs))
      go_loopw [47] (fun i wr => ∃ (m : Nat) (f : Nat → Bool), m ≤ k ∧ i = .int .i64 m ∧ Hid (ndE (fnE s X) g m = 0) ∧ Hid (∀ j, j < 1102 → f j = finF (X 16) (X 17) T (holF (fnF s X) g m) j) ∧ Tr w [] wr [Res.nset q f, Res.blk xb (rowOf 18 (gI X)) 29]) (fun i _ => k - (intOf i).toNat)
      case atStart => exact ⟨0, _, by omega, rfl, Lib.hid rfl, Lib.hid fun j hj => (fin_none j hj).symm, hs⟩
      case round =>
        clear hs hlt hk
        obtain ⟨m, f, hk, rfl, h0, hf, hs⟩ := hrel
        by_cases hlt : m < k
        · have hltI : (m : Int) < k := by omega
          have hao := HAO.out (by omega)
          subst hao
          have hm := (HG.out m hlt).2
          have HV : Hid (∀ w' L, Tr w [] w' L → w'.cell? ⟨db, doff + m, none⟩ = some (.int .i64 (g m : Int))) := Lib.hid fun w' L h => by rw [← (HG.out m hlt).1]; exact (HI.out.keep h).rd m (by omega)
          have HF := Lib.hid (fun w h => find_yes s X mb (g m) w h hm)
          by_cases hE0 : fnE s X (g m) = 0
          · have h1 : Hid (ndE (fnE s X) g (m + 1) = 0) := Lib.hid (by simp only [ndE]; rw [if_neg (by rw [h0.out]; simp), hE0])
            by_cases hF0 : fnF s X (g m) = 0
            · have hf1 := Lib.hid fun j hj => hole_step hm hF0 hf.out j hj
              have HW := Lib.hid (fun w => way_yes (g m) w hm)
              rw [hE0, hF0] at HF
              by_cases r1 : g m < 12
              · have HK := Lib.hid (key_0 r1)
                rw [show wayV (g m) = _ from if_pos r1] at HW
                have ea : Hid (addN (X 16) (X 17) T f (g m) = updP f (g m) true) := Lib.hid (if_pos r1)
                rw [ea.out] at hf1
                clear ea hE0 hF0 hf
                go_wp2_with (first | ((with_reducible refine at_index rfl ?_); refine wl_index rfl rfl Try.underlying33 size3 rfl rfl m rfl (by omega) rfl ?_) | ((with_reducible refine (at_load (t := 3)) rfl ?_); refine wl_loadC rfl rfl Try.underlying3 rfl rfl (by rw [Nat.mul_one]; exact HV.out _ _ hs) ?_) | ((with_reducible refine (at_load (t := 29)) rfl ?_); refine wl_loadA hs rfl rfl Try.underlying29 rfl rfl 1 rfl (size29 _) ?_) | (go_at_call 16; refine (HF.out _ (H.out.keep hs)).mono ?_; rintro e w2 ⟨rfl, hc⟩; replace hs := hs.call0 hc; clear hc) | (go_at_call 13; refine (HW.out _).mono ?_; rintro e w2 ⟨rfl, rfl⟩) | ((with_reducible refine (at_updateM (t := 78)) rfl ?_); refine wl_updateM hs rfl rfl rfl (g m) (Eq.trans (by rfl) (HK.out).symm) rfl 0 rfl (by omega) ?_; clear hs; intro w1 hs))
                go_roundw
                case rel => exact ⟨m + 1, _, by omega, by go_num, h1, hf1, hs⟩
                case measure => simp [intOf]; omega
              · by_cases r2 : g m < 44
                · have HK := Lib.hid (key_1 (by omega) r2)
                  rw [show wayV (g m) = _ from (if_neg r1).trans (if_pos r2)] at HW
                  have ea : addN (X 16) (X 17) T f (g m) = if X 16 = 0 then updP (updP f (g m) true) 1068 true else updP f (g m) true := (if_neg r1).trans (if_pos r2)
                  by_cases hx : X 16 = 0
                  · have tx : (X 16 == 0) = true := by simpa using hx
                    rw [if_pos hx] at ea
                    rw [ea] at hf1
                    clear ea hE0 hF0 hf hx
                    go_wp2_with (first | ((with_reducible refine at_index rfl ?_); refine wl_index rfl rfl Try.underlying33 size3 rfl rfl m rfl (by omega) rfl ?_) | ((with_reducible refine (at_load (t := 3)) rfl ?_); refine wl_loadC rfl rfl Try.underlying3 rfl rfl (by rw [Nat.mul_one]; exact HV.out _ _ hs) ?_) | ((with_reducible refine (at_load (t := 29)) rfl ?_); refine wl_loadA hs rfl rfl Try.underlying29 rfl rfl 1 rfl (size29 _) ?_) | ((with_reducible refine (at_load (t := 3)) rfl ?_); refine wl_load1 hs rfl rfl Try.underlying3 rfl rfl 1 rfl (rowOf_gI (by omega)) ?_) | (go_at_call 16; refine (HF.out _ (H.out.keep hs)).mono ?_; rintro e w2 ⟨rfl, hc⟩; replace hs := hs.call0 hc; clear hc) | (go_at_call 13; refine (HW.out _).mono ?_; rintro e w2 ⟨rfl, rfl⟩) | ((with_reducible refine (at_updateM (t := 78)) rfl ?_); refine wl_updateM hs rfl rfl rfl (g m) (Eq.trans (by rfl) (HK.out).symm) rfl 0 rfl (by omega) ?_; clear hs; intro w1 hs) | ((with_reducible refine (at_updateM (t := 78)) rfl ?_); refine wl_updateM hs rfl rfl rfl (1068) (Eq.trans (by rfl) (key_s).symm) rfl 0 rfl (by omega) ?_; clear hs; intro w1 hs))
                    go_roundw
                    case rel => exact ⟨m + 1, _, by omega, by go_num, h1, hf1, hs⟩
                    case measure => simp [intOf]; omega
                  · have tx : (X 16 == 0) = false := by simpa using hx
                    rw [if_neg hx] at ea
                    rw [ea] at hf1
                    clear ea hE0 hF0 hf hx
                    go_wp2_with (first | ((with_reducible refine at_index rfl ?_); refine wl_index rfl rfl Try.underlying33 size3 rfl rfl m rfl (by omega) rfl ?_) | ((with_reducible refine (at_load (t := 3)) rfl ?_); refine wl_loadC rfl rfl Try.underlying3 rfl rfl (by rw [Nat.mul_one]; exact HV.out _ _ hs) ?_) | ((with_reducible refine (at_load (t := 29)) rfl ?_); refine wl_loadA hs rfl rfl Try.underlying29 rfl rfl 1 rfl (size29 _) ?_) | ((with_reducible refine (at_load (t := 3)) rfl ?_); refine wl_load1 hs rfl rfl Try.underlying3 rfl rfl 1 rfl (rowOf_gI (by omega)) ?_) | (go_at_call 16; refine (HF.out _ (H.out.keep hs)).mono ?_; rintro e w2 ⟨rfl, hc⟩; replace hs := hs.call0 hc; clear hc) | (go_at_call 13; refine (HW.out _).mono ?_; rintro e w2 ⟨rfl, rfl⟩) | ((with_reducible refine (at_updateM (t := 78)) rfl ?_); refine wl_updateM hs rfl rfl rfl (g m) (Eq.trans (by rfl) (HK.out).symm) rfl 0 rfl (by omega) ?_; clear hs; intro w1 hs))
                    go_roundw
                    case rel => exact ⟨m + 1, _, by omega, by go_num, h1, hf1, hs⟩
                    case measure => simp [intOf]; omega
                · rw [show wayV (g m) = _ from (if_neg r1).trans (if_neg r2)] at HW
                  have HK := Lib.hid (key_2 (by omega) hm)
                  have ht := fnE_far hE0 r1 r2
                  have HTT := Lib.hid (fun w h => table_any s mb (X 17) w h)
                  rw [ht, ← HT.out] at HTT
                  have ea : addN (X 16) (X 17) T f (g m) = _ := (if_neg r1).trans (if_neg r2)
                  have hi : (g m - 44) / 32 < 32 := by omega
                  have hiI : (((g m - 44) / 32 : Nat) : Int) < 32 := by omega
                  have hlt1 : 1070 + (g m - 44) / 32 < 1102 := by omega
                  have HK2 := Lib.hid (@key_t ((g m - 44) / 32))
                  clear r1 r2 ht hE0 hF0 hf HT
                  generalize (g m - 44) / 32 = i at *
                  generalize (((g m - 44) % 32 : Nat) : Int) = i3 at *
                  by_cases hx : X 17 = 0
                  · have tx : (X 17 == 0) = true := by simpa using hx
                    by_cases hy : T i = 0
                    · have ty : (T i == 0) = true := by simpa using hy
                      rw [if_pos hy, if_pos hx] at ea
                      rw [ea] at hf1
                      clear ea hx hy
                      go_wp2_with (first | ((with_reducible refine at_index rfl ?_); refine wl_index rfl rfl Try.underlying33 size3 rfl rfl m rfl (by omega) rfl ?_) | ((with_reducible refine (at_load (t := 3)) rfl ?_); refine wl_loadC rfl rfl Try.underlying3 rfl rfl (by rw [Nat.mul_one]; exact HV.out _ _ hs) ?_) | ((with_reducible refine (at_load (t := 29)) rfl ?_); refine wl_loadA hs rfl rfl Try.underlying29 rfl rfl 1 rfl (size29 _) ?_) | ((with_reducible refine (at_load (t := 3)) rfl ?_); refine wl_load1 (b := xb) hs rfl rfl Try.underlying3 rfl rfl 1 rfl (rowOf_gI (by omega)) ?_) | ((with_reducible refine (at_load (t := 3)) rfl ?_); refine wl_load1 (b := tb) hs rfl rfl Try.underlying3 rfl rfl 0 rfl (rowOf_gI (by omega)) ?_) | (go_at_call 16; refine (HF.out _ (H.out.keep hs)).mono ?_; rintro e w2 ⟨rfl, hc⟩; replace hs := hs.call0 hc; clear hc) | (go_at_call 13; refine (HW.out _).mono ?_; rintro e w2 ⟨rfl, rfl⟩) | (go_at_call 27; refine (HTT.out _ (H.out.keep hs)).mono ?_; rintro e w2 ⟨rfl, hc⟩; replace hs := hs.call0 hc; clear hc) | ((with_reducible refine (at_alloc (t := 69)) rfl ?_); refine wl_allocA hs rfl rfl zero69 ?_; clear hs; intro w1 tb hs) | ((with_reducible refine (at_store (t := 69)) rfl ?_); refine wl_storeA hs rfl rfl rfl rfl (size69 _) (oneI 32 _) 0 rfl (by simp only [rowOf_size]) ?_; clear hs; intro w1 hs) | ((with_reducible refine (at_updateM (t := 78)) rfl ?_); refine wl_updateM hs rfl rfl rfl (g m) (Eq.trans (by rfl) (HK.out).symm) rfl 0 rfl (by omega) ?_; clear hs; intro w1 hs) | ((with_reducible refine (at_updateM (t := 78)) rfl ?_); refine wl_updateM hs rfl rfl rfl (1069) (Eq.trans (by rfl) (key_d).symm) rfl 0 rfl (by omega) ?_; clear hs; intro w1 hs) | ((with_reducible refine (at_updateM (t := 78)) rfl ?_); refine wl_updateM hs rfl rfl rfl (1070 + i) (Eq.trans (by rfl) (HK2.out).symm) rfl 1 rfl (by omega) ?_; clear hs; intro w1 hs))
                      go_roundw
                      case rel => exact ⟨m + 1, _, by omega, by go_num, h1, hf1, hs.erase 0⟩
                      case measure => simp [intOf]; omega
                    · have ty : (T i == 0) = false := by simpa using hy
                      rw [if_neg hy, if_pos hx] at ea
                      rw [ea] at hf1
                      clear ea hx hy
                      go_wp2_with (first | ((with_reducible refine at_index rfl ?_); refine wl_index rfl rfl Try.underlying33 size3 rfl rfl m rfl (by omega) rfl ?_) | ((with_reducible refine (at_load (t := 3)) rfl ?_); refine wl_loadC rfl rfl Try.underlying3 rfl rfl (by rw [Nat.mul_one]; exact HV.out _ _ hs) ?_) | ((with_reducible refine (at_load (t := 29)) rfl ?_); refine wl_loadA hs rfl rfl Try.underlying29 rfl rfl 1 rfl (size29 _) ?_) | ((with_reducible refine (at_load (t := 3)) rfl ?_); refine wl_load1 (b := xb) hs rfl rfl Try.underlying3 rfl rfl 1 rfl (rowOf_gI (by omega)) ?_) | ((with_reducible refine (at_load (t := 3)) rfl ?_); refine wl_load1 (b := tb) hs rfl rfl Try.underlying3 rfl rfl 0 rfl (rowOf_gI (by omega)) ?_) | (go_at_call 16; refine (HF.out _ (H.out.keep hs)).mono ?_; rintro e w2 ⟨rfl, hc⟩; replace hs := hs.call0 hc; clear hc) | (go_at_call 13; refine (HW.out _).mono ?_; rintro e w2 ⟨rfl, rfl⟩) | (go_at_call 27; refine (HTT.out _ (H.out.keep hs)).mono ?_; rintro e w2 ⟨rfl, hc⟩; replace hs := hs.call0 hc; clear hc) | ((with_reducible refine (at_alloc (t := 69)) rfl ?_); refine wl_allocA hs rfl rfl zero69 ?_; clear hs; intro w1 tb hs) | ((with_reducible refine (at_store (t := 69)) rfl ?_); refine wl_storeA hs rfl rfl rfl rfl (size69 _) (oneI 32 _) 0 rfl (by simp only [rowOf_size]) ?_; clear hs; intro w1 hs) | ((with_reducible refine (at_updateM (t := 78)) rfl ?_); refine wl_updateM hs rfl rfl rfl (g m) (Eq.trans (by rfl) (HK.out).symm) rfl 0 rfl (by omega) ?_; clear hs; intro w1 hs) | ((with_reducible refine (at_updateM (t := 78)) rfl ?_); refine wl_updateM hs rfl rfl rfl (1069) (Eq.trans (by rfl) (key_d).symm) rfl 0 rfl (by omega) ?_; clear hs; intro w1 hs))
                      go_roundw
                      case rel => exact ⟨m + 1, _, by omega, by go_num, h1, hf1, hs.erase 0⟩
                      case measure => simp [intOf]; omega
                  · have tx : (X 17 == 0) = false := by simpa using hx
                    by_cases hy : T i = 0
                    · have ty : (T i == 0) = true := by simpa using hy
                      rw [if_pos hy, if_neg hx] at ea
                      rw [ea] at hf1
                      clear ea hx hy
                      go_wp2_with (first | ((with_reducible refine at_index rfl ?_); refine wl_index rfl rfl Try.underlying33 size3 rfl rfl m rfl (by omega) rfl ?_) | ((with_reducible refine (at_load (t := 3)) rfl ?_); refine wl_loadC rfl rfl Try.underlying3 rfl rfl (by rw [Nat.mul_one]; exact HV.out _ _ hs) ?_) | ((with_reducible refine (at_load (t := 29)) rfl ?_); refine wl_loadA hs rfl rfl Try.underlying29 rfl rfl 1 rfl (size29 _) ?_) | ((with_reducible refine (at_load (t := 3)) rfl ?_); refine wl_load1 (b := xb) hs rfl rfl Try.underlying3 rfl rfl 1 rfl (rowOf_gI (by omega)) ?_) | ((with_reducible refine (at_load (t := 3)) rfl ?_); refine wl_load1 (b := tb) hs rfl rfl Try.underlying3 rfl rfl 0 rfl (rowOf_gI (by omega)) ?_) | (go_at_call 16; refine (HF.out _ (H.out.keep hs)).mono ?_; rintro e w2 ⟨rfl, hc⟩; replace hs := hs.call0 hc; clear hc) | (go_at_call 13; refine (HW.out _).mono ?_; rintro e w2 ⟨rfl, rfl⟩) | (go_at_call 27; refine (HTT.out _ (H.out.keep hs)).mono ?_; rintro e w2 ⟨rfl, hc⟩; replace hs := hs.call0 hc; clear hc) | ((with_reducible refine (at_alloc (t := 69)) rfl ?_); refine wl_allocA hs rfl rfl zero69 ?_; clear hs; intro w1 tb hs) | ((with_reducible refine (at_store (t := 69)) rfl ?_); refine wl_storeA hs rfl rfl rfl rfl (size69 _) (oneI 32 _) 0 rfl (by simp only [rowOf_size]) ?_; clear hs; intro w1 hs) | ((with_reducible refine (at_updateM (t := 78)) rfl ?_); refine wl_updateM hs rfl rfl rfl (g m) (Eq.trans (by rfl) (HK.out).symm) rfl 0 rfl (by omega) ?_; clear hs; intro w1 hs) | ((with_reducible refine (at_updateM (t := 78)) rfl ?_); refine wl_updateM hs rfl rfl rfl (1070 + i) (Eq.trans (by rfl) (HK2.out).symm) rfl 1 rfl (by omega) ?_; clear hs; intro w1 hs))
                      go_roundw
                      case rel => exact ⟨m + 1, _, by omega, by go_num, h1, hf1, hs.erase 0⟩
                      case measure => simp [intOf]; omega
                    · have ty : (T i == 0) = false := by simpa using hy
                      rw [if_neg hy, if_neg hx] at ea
                      rw [ea] at hf1
                      clear ea hx hy
                      go_wp2_with (first | ((with_reducible refine at_index rfl ?_); refine wl_index rfl rfl Try.underlying33 size3 rfl rfl m rfl (by omega) rfl ?_) | ((with_reducible refine (at_load (t := 3)) rfl ?_); refine wl_loadC rfl rfl Try.underlying3 rfl rfl (by rw [Nat.mul_one]; exact HV.out _ _ hs) ?_) | ((with_reducible refine (at_load (t := 29)) rfl ?_); refine wl_loadA hs rfl rfl Try.underlying29 rfl rfl 1 rfl (size29 _) ?_) | ((with_reducible refine (at_load (t := 3)) rfl ?_); refine wl_load1 (b := xb) hs rfl rfl Try.underlying3 rfl rfl 1 rfl (rowOf_gI (by omega)) ?_) | ((with_reducible refine (at_load (t := 3)) rfl ?_); refine wl_load1 (b := tb) hs rfl rfl Try.underlying3 rfl rfl 0 rfl (rowOf_gI (by omega)) ?_) | (go_at_call 16; refine (HF.out _ (H.out.keep hs)).mono ?_; rintro e w2 ⟨rfl, hc⟩; replace hs := hs.call0 hc; clear hc) | (go_at_call 13; refine (HW.out _).mono ?_; rintro e w2 ⟨rfl, rfl⟩) | (go_at_call 27; refine (HTT.out _ (H.out.keep hs)).mono ?_; rintro e w2 ⟨rfl, hc⟩; replace hs := hs.call0 hc; clear hc) | ((with_reducible refine (at_alloc (t := 69)) rfl ?_); refine wl_allocA hs rfl rfl zero69 ?_; clear hs; intro w1 tb hs) | ((with_reducible refine (at_store (t := 69)) rfl ?_); refine wl_storeA hs rfl rfl rfl rfl (size69 _) (oneI 32 _) 0 rfl (by simp only [rowOf_size]) ?_; clear hs; intro w1 hs) | ((with_reducible refine (at_updateM (t := 78)) rfl ?_); refine wl_updateM hs rfl rfl rfl (g m) (Eq.trans (by rfl) (HK.out).symm) rfl 0 rfl (by omega) ?_; clear hs; intro w1 hs))
                      go_roundw
                      case rel => exact ⟨m + 1, _, by omega, by go_num, h1, hf1, hs.erase 0⟩
                      case measure => simp [intOf]; omega
            · have h2 := holF_no (FF := fnF s X) (g := g) (k := m) hF0
              have tF : (fnF s X (g m) != 0) = true := by simpa using hF0
              rw [hE0] at HF
              generalize fnF s X (g m) = fv at *
              clear hE0 hF0
              go_wp2_with (first | ((with_reducible refine at_index rfl ?_); refine wl_index rfl rfl Try.underlying33 size3 rfl rfl m rfl (by omega) rfl ?_) | ((with_reducible refine (at_load (t := 3)) rfl ?_); refine wl_loadC rfl rfl Try.underlying3 rfl rfl (by rw [Nat.mul_one]; exact HV.out _ _ hs) ?_) | ((with_reducible refine (at_load (t := 29)) rfl ?_); refine wl_loadA hs rfl rfl Try.underlying29 rfl rfl 1 rfl (size29 _) ?_) | (go_at_call 16; refine (HF.out _ (H.out.keep hs)).mono ?_; rintro e w2 ⟨rfl, hc⟩; replace hs := hs.call0 hc; clear hc))
              go_roundw
              case rel => exact ⟨m + 1, _, by omega, by go_num, h1, by rw [h2]; exact hf, hs⟩
              case measure => simp [intOf]; omega
          · have h1 : ndE (fnE s X) g (m + 1) = fnE s X (g m) := by simp only [ndE]; rw [if_neg (by rw [h0.out]; simp)]
            have h2 := ndE_stays (fnE s X) g (m + 1) (k - (m + 1)) (by rw [h1]; exact hE0)
            rw [show m + 1 + (k - (m + 1)) = k by omega, h1] at h2
            have hR1 := hR0.out (by rw [h2]; exact hE0)
            have hE1 := hE.out.trans h2
            have tE : (fnE s X (g m) != 0) = true := by simpa using hE0
            have HF1 : Hid (R = 0) := Lib.hid hR1
            have hE2 := Lib.hid hE1
            clear h1 h2 hE0 hR1 hE1 hE hR hR0 h0
            have HF2 := find_err HF
            clear HF
            have HFX : Hid (∀ w, Rdr s mb w → Calls Try.prog 16 #[.iface 37 (.pointer (some ⟨mb, 0, none⟩)), .agg (rowOf 18 (gI X)), .int .i64 (g m : Int)] w fun e w' => e = .returned (.tuple #[.int .i64 (fnF s X (g m)), .int .i64 E]) ∧ Tr w [] w' []) := by rw [hE2.out]; exact HF2
            rw [← hE2.out] at tE
            clear HF2 hE2
            generalize fnF s X (g m) = fv at *
            go_wp2_with (first | ((with_reducible refine at_index rfl ?_); refine wl_index rfl rfl Try.underlying33 size3 rfl rfl m rfl (by omega) rfl ?_) | ((with_reducible refine (at_load (t := 3)) rfl ?_); refine wl_loadC rfl rfl Try.underlying3 rfl rfl (by rw [Nat.mul_one]; exact HV.out _ _ hs) ?_) | ((with_reducible refine (at_load (t := 29)) rfl ?_); refine wl_loadA hs rfl rfl Try.underlying29 rfl rfl 1 rfl (size29 _) ?_) | (go_at_call 16; refine (HFX.out _ (H.out.keep hs)).mono ?_; rintro e w2 ⟨rfl, hc⟩; replace hs := hs.call0 hc; clear hc))
            go_ret2
            exact ⟨by rw [HF1.out]; rfl, hs.letgo⟩
        · obtain rfl : m = k := by omega
          have hE1 := hE.out.trans h0.out
          have hR1 := Lib.hid (hR.out h0.out)
          have hEE := Lib.hid hE1
          have hcn := Lib.hid (cntP_congr (n := 1102) hf.out)
          clear hE1 hE hR hR0 h0
          go_wp2_with (first | ((with_reducible refine (at_bi .len) rfl ?_); refine wl_lenM hs rfl rfl rfl 0 rfl ?_))
          go_ret2
          exact ⟨by rw [hR1.out, hEE.out, ← hcn.out]; rfl, hs.letgo⟩
/-- What is needed for the indexes g 0 .. g (N - 1). -/
def needN (s : Src) (X : Nat → Int) (g : Nat → Nat) (N : Nat) : Nat := if ndE (fnE s X) g N = 0 then cntP (finF (X 16) (X 17) (tbF s (X 17)) (holF (fnF s X) g N)) 1102 else 0
theorem need_ok (s : Src) (X : Nat → Int) (mb : Nat) (w : World) (h : Rdr s mb w) {ao : Option Addr} {N c db doff : Nat} {G : Nat → Int} (I : Ints w (.slice ao N c) ao N c db doff G)
    (g : Nat → Nat) (hg : ∀ k, k < N → G k = (g k : Int) ∧ g k < 1068) :
    Calls Try.prog 24 #[.iface 37 (.pointer (some ⟨mb, 0, none⟩)), .agg (rowOf 18 (gI X)), .slice ao N c] w fun e w' => e = .returned (.tuple #[.int .i64 (needN s X g N : Nat), .int .i64 (ndE (fnE s X) g N)]) ∧ Tr w [] w' [] :=
  need_core s X mb w h I g hg _ rfl _ _ (Lib.hid rfl) (Lib.hid fun h0 => by unfold needN; rw [if_pos h0]) (Lib.hid fun h0 => by unfold needN; rw [if_neg h0]; rfl)
end Go.Proofs.Ytdlnfdlgnbkppaa
