/- Ways; Find. -/
import Derived.Test.YtdlnfdlgnbkppaaB
namespace Go.Proofs.Ytdlnfdlgnbkppaa
set_option linter.unusedVariables false
set_option linter.unusedSimpArgs false
open Go Go.Sp Go.RowKit

theorem results_tmp4 {fn : Func} {t u v x : Tmp} (h : fn.results = #[.tmp t, .tmp u, .tmp v, .tmp x]) (tmps : Array Value) (P : Program) (w : World) :
    (results fn tmps).run P w = .ok (.tuple #[tmps.getD t undef, tmps.getD u undef, tmps.getD v undef, tmps.getD x undef]) w := by
  simp [results, h]
def wayV (k : Nat) : Value := if k < 12 then .tuple #[.int .i64 0, .int .i64 k, .int .i64 0, .int .i64 0] else if k < 44 then .tuple #[.int .i64 1, .int .i64 ((k : Int) - 12), .int .i64 0, .int .i64 0]
  else .tuple #[.int .i64 2, .int .i64 (((k - 44) / 32 : Nat) : Int), .int .i64 (((k - 44) % 32 : Nat) : Int), .int .i64 0]
def noWay : Value := .tuple #[.int .i64 0, .int .i64 0, .int .i64 0, .int .i64 90]
theorem way_tdiv {k : Nat} (h : 44 ≤ k) : ((k : Int) - 12 - 32).tdiv 32 = (((k - 44) / 32 : Nat) : Int) := by
  rw [Int.tdiv_eq_ediv_of_nonneg (by omega)]; omega
theorem way_tmod {k : Nat} (h : 44 ≤ k) : ((k : Int) - 12 - 32).tmod 32 = (((k - 44) % 32 : Nat) : Int) := by
  rw [Int.tmod_eq_emod_of_nonneg (by omega)]; omega
theorem way_tdiv2 {k : Nat} (h : 44 ≤ k) : ((k : Int) - 44).tdiv 32 = (((k - 44) / 32 : Nat) : Int) := by
  rw [Int.tdiv_eq_ediv_of_nonneg (by omega)]; omega
theorem way_tmod2 {k : Nat} (h : 44 ≤ k) : ((k : Int) - 44).tmod 32 = (((k - 44) % 32 : Nat) : Int) := by
  rw [Int.tmod_eq_emod_of_nonneg (by omega)]; omega
theorem way_no (x : Int) (w : World) (h : x < 0 ∨ 1068 ≤ x) (hb : -9223372036854775808 ≤ x ∧ x ≤ 9223372036854775807) : Calls Try.prog 13 #[.int .i64 x] w fun e w' => e = .returned noWay ∧ w = w' := by
  by_cases h0 : x < 0
  · clear h
    go_enter Try.func13, Try.ntmps13
    go_wp2
    (try simp only [Exit.inBlock, Exit.then]); refine bodyPost_ret (results_tmp4 rfl _ _ _) rfl ?_
    exact ⟨rfl, rfl⟩
  · have h1 : 1068 ≤ x := by omega
    clear h
    go_enter Try.func13, Try.ntmps13
    go_wp2
    (try simp only [Exit.inBlock, Exit.then]); refine bodyPost_ret (results_tmp4 rfl _ _ _) rfl ?_
    exact ⟨rfl, rfl⟩
theorem way_yes (k : Nat) (w : World) (h : k < 1068) : Calls Try.prog 13 #[.int .i64 (k : Int)] w fun e w' => e = .returned (wayV k) ∧ w = w' := by
  have h0 : ¬ (k : Int) < 0 := by omega
  have h1 : ¬ 1068 ≤ (k : Int) := by omega
  by_cases h2 : k < 12
  · rw [show wayV k = _ from if_pos h2]
    have h2I : (k : Int) < 12 := by omega
    go_enter Try.func13, Try.ntmps13
    go_wp2
    (try simp only [Exit.inBlock, Exit.then]); refine bodyPost_ret (results_tmp4 rfl _ _ _) rfl ?_
    exact ⟨rfl, rfl⟩
  · have h2I : ¬ (k : Int) < 12 := by omega
    by_cases h3 : k < 44
    · rw [show wayV k = _ from (if_neg h2).trans (if_pos h3)]
      have h3I : (k : Int) - 12 - 32 < 0 := by omega
      go_enter Try.func13, Try.ntmps13
      go_wp2
      (try simp only [Exit.inBlock, Exit.then]); refine bodyPost_ret (results_tmp4 rfl _ _ _) rfl ?_
      exact ⟨rfl, rfl⟩
    · rw [show wayV k = _ from (if_neg h2).trans (if_neg h3)]
      have h3I : ¬ (k : Int) - 12 - 32 < 0 := by omega
      have e1 := way_tdiv (k := k) (by omega)
      have e2 := way_tmod (k := k) (by omega)
      go_enter Try.func13, Try.ntmps13
      go_wp2
      (try simp only [Exit.inBlock, Exit.then]); refine bodyPost_ret (results_tmp4 rfl _ _ _) rfl ?_
      exact ⟨by first | done | rfl | (simp [e1, e2]; done) | trace_state, rfl⟩
theorem rway_no (x : Int) (w : World) (h : x < 0 ∨ 1068 ≤ x) (hb : -9223372036854775808 ≤ x ∧ x ≤ 9223372036854775807) : Calls Try.prog 14 #[.int .i64 x] w fun e w' => e = .returned noWay ∧ w = w' := by
  by_cases h0 : x < 0
  · clear h
    go_enter Try.func14, Try.ntmps14
    go_wp2
    (try simp only [Exit.inBlock, Exit.then]); refine bodyPost_ret (results_tmp4 rfl _ _ _) rfl ?_
    exact ⟨rfl, rfl⟩
  · have h1 : 1068 ≤ x := by omega
    clear h
    go_enter Try.func14, Try.ntmps14
    go_wp2
    (try simp only [Exit.inBlock, Exit.then]); refine bodyPost_ret (results_tmp4 rfl _ _ _) rfl ?_
    exact ⟨rfl, rfl⟩
theorem rway_yes (k : Nat) (w : World) (h : k < 1068) : Calls Try.prog 14 #[.int .i64 (k : Int)] w fun e w' => e = .returned (wayV k) ∧ w = w' := by
  have h0 : ¬ (k : Int) < 0 := by omega
  have h1 : ¬ 1068 ≤ (k : Int) := by omega
  by_cases h2 : k < 12
  · rw [show wayV k = _ from if_pos h2]
    have h2I : (k : Int) < 12 := by omega
    go_enter Try.func14, Try.ntmps14
    go_wp2
    (try simp only [Exit.inBlock, Exit.then]); refine bodyPost_ret (results_tmp4 rfl _ _ _) rfl ?_
    exact ⟨rfl, rfl⟩
  · have h2I : ¬ (k : Int) < 12 := by omega
    by_cases h3 : k < 44
    · rw [show wayV k = _ from (if_neg h2).trans (if_pos h3)]
      have h3I : (k : Int) < 44 := by omega
      go_enter Try.func14, Try.ntmps14
      go_wp2
      (try simp only [Exit.inBlock, Exit.then]); refine bodyPost_ret (results_tmp4 rfl _ _ _) rfl ?_
      exact ⟨rfl, rfl⟩
    · rw [show wayV k = _ from (if_neg h2).trans (if_neg h3)]
      have h3I : ¬ (k : Int) < 44 := by omega
      have e1 := way_tdiv2 (k := k) (by omega)
      have e2 := way_tmod2 (k := k) (by omega)
      go_enter Try.func14, Try.ntmps14
      go_wp2
      (try simp only [Exit.inBlock, Exit.then]); refine bodyPost_ret (results_tmp4 rfl _ _ _) rfl ?_
      exact ⟨by first | done | rfl | (simp [e1, e2]; done) | trace_state, rfl⟩

/-! ### Find -/
def fnE (s : Src) (X : Nat → Int) (k : Nat) : Int := if k < 12 then 0 else if k < 44 then tbE s (X 16) else if tbE s (X 17) ≠ 0 then tbE s (X 17) else tbE s (tbF s (X 17) ((k - 44) / 32))
def fnF (s : Src) (X : Nat → Int) (k : Nat) : Int := if k < 12 then X (4 + k) else if k < 44 then tbF s (X 16) (k - 12) else if tbE s (X 17) ≠ 0 then 0 else tbF s (tbF s (X 17) ((k - 44) / 32)) ((k - 44) % 32)
theorem tbF_err {s : Src} {n : Int} (h : tbE s n ≠ 0) : tbF s n = fun _ => 0 := by
  unfold tbE at h
  unfold tbF
  by_cases h0 : n = 0
  · rw [if_pos h0] at h; exact absurd rfl h
  · rw [if_neg h0] at h ⊢; rw [if_pos h]
theorem find_nil (x : Value) (k : Int) (cs : Array Value) (hx : x = .agg cs) (w : World) : Calls Try.prog 16 #[.nilIface, x, .int .i64 k] w fun e w' => e = .returned (.tuple #[.int .i64 0, .int .i64 1]) ∧ Tr w [] w' [] := by
  have hs := Tr.refl w []
  subst hx
  go_enter Try.func16, Try.ntmps16
  go_wp2_with (first | ((with_reducible refine (at_box (t := 29)) rfl ?_); refine wl_boxA hs rfl rfl rfl ?_; clear hs; intro w1 xb hs))
  go_ret2
  exact ⟨rfl, hs.letgo⟩
theorem find_no (s : Src) (X : Nat → Int) (mb : Nat) (k : Int) (w : World) (hk : k < 0 ∨ 1068 ≤ k) (hb : -9223372036854775808 ≤ k ∧ k ≤ 9223372036854775807) :
    Calls Try.prog 16 #[.iface 37 (.pointer (some ⟨mb, 0, none⟩)), .agg (rowOf 18 (gI X)), .int .i64 k] w fun e w' => e = .returned (.tuple #[.int .i64 0, .int .i64 90]) ∧ Tr w [] w' [] := by
  have hs := Tr.refl w []
  have HW := Lib.hid (fun w => way_no k w hk hb)
  clear hk
  unfold noWay at HW
  go_enter Try.func16, Try.ntmps16
  go_wp2_with (first | ((with_reducible refine (at_box (t := 29)) rfl ?_); refine wl_boxA hs rfl rfl rfl ?_; clear hs; intro w1 xb hs) | (go_at_call 13; refine (HW.out _).mono ?_; rintro e w2 ⟨rfl, rfl⟩))
  go_ret2
  exact ⟨rfl, hs.letgo⟩
set_option maxRecDepth 10000 in
theorem find_yes (s : Src) (X : Nat → Int) (mb k : Nat) (w : World) (h : Rdr s mb w) (hk : k < 1068) :
    Calls Try.prog 16 #[.iface 37 (.pointer (some ⟨mb, 0, none⟩)), .agg (rowOf 18 (gI X)), .int .i64 (k : Int)] w fun e w' => e = .returned (.tuple #[.int .i64 (fnF s X k), .int .i64 (fnE s X k)]) ∧ Tr w [] w' [] := by
  have hs := Tr.refl w []
  have H := Lib.hid h
  have HW := Lib.hid (fun w => way_yes k w hk)
  have HT := Lib.hid (fun n w h => table_any s mb n w h)
  clear h
  by_cases h2 : k < 12
  · rw [show fnF s X k = X (4 + k) from if_pos h2, show fnE s X k = 0 from if_pos h2]
    rw [show wayV k = _ from if_pos h2] at HW
    have h2I : (k : Int) < 12 := by omega
    go_enter Try.func16, Try.ntmps16
    go_wp2_with (first | ((with_reducible refine (at_box (t := 29)) rfl ?_); refine wl_boxA hs rfl rfl rfl ?_; clear hs; intro w1 xb hs) | (go_at_call 13; refine (HW.out _).mono ?_; rintro e w2 ⟨rfl, rfl⟩) | ((with_reducible refine (at_load (t := 3)) rfl ?_); refine wl_load1 hs rfl rfl Try.underlying3 rfl rfl 0 rfl (rowOf_gI (by omega)) ?_))
    go_ret2
    exact ⟨rfl, hs.letgo⟩
  · by_cases h3 : k < 44
    · rw [show fnF s X k = tbF s (X 16) (k - 12) from (if_neg h2).trans (if_pos h3), show fnE s X k = tbE s (X 16) from (if_neg h2).trans (if_pos h3)]
      rw [show wayV k = _ from (if_neg h2).trans (if_pos h3)] at HW
      obtain ⟨i, rfl⟩ : ∃ i, k = i + 12 := ⟨k - 12, by omega⟩
      rw [show (((i + 12 : Nat) : Int) - 12) = (i : Int) by omega] at HW
      have hi : (i : Int) < 32 := by omega
      rw [show i + 12 - 12 = i by omega]
      have HT1 := Lib.hid (fun w h => HT.out (X 16) w h)
      generalize tbF s (X 16) = T at *
      generalize tbE s (X 16) = E at *
      by_cases hE : E = 0
      · subst hE
        go_enter Try.func16, Try.ntmps16
        go_wp2_with (first | ((with_reducible refine (at_box (t := 29)) rfl ?_); refine wl_boxA hs rfl rfl rfl ?_; clear hs; intro w1 xb hs) | (go_at_call 13; refine (HW.out _).mono ?_; rintro e w2 ⟨rfl, rfl⟩) | ((with_reducible refine (at_load (t := 3)) rfl ?_); refine wl_load1 hs rfl rfl Try.underlying3 rfl rfl 0 rfl (rowOf_gI (by omega)) ?_) | ((with_reducible refine (at_alloc (t := 69)) rfl ?_); refine wl_allocA hs rfl rfl zero69 ?_; clear hs; intro w1 tb hs) | (go_at_call 27; refine (HT1.out _ (H.out.keep hs)).mono ?_; rintro e w2 ⟨rfl, hc⟩; replace hs := hs.call0 hc; clear hc) | ((with_reducible refine (at_store (t := 69)) rfl ?_); refine wl_storeA hs rfl rfl rfl rfl (size69 _) (oneI 32 _) 0 rfl (by simp only [rowOf_size]) ?_; clear hs; intro w1 hs))
        go_ret2
        exact ⟨rfl, hs.letgo⟩
      · have tE : (E != 0) = true := by simpa using hE
        clear hE
        go_enter Try.func16, Try.ntmps16
        go_wp2_with (first | ((with_reducible refine (at_box (t := 29)) rfl ?_); refine wl_boxA hs rfl rfl rfl ?_; clear hs; intro w1 xb hs) | (go_at_call 13; refine (HW.out _).mono ?_; rintro e w2 ⟨rfl, rfl⟩) | ((with_reducible refine (at_load (t := 3)) rfl ?_); refine wl_load1 hs rfl rfl Try.underlying3 rfl rfl 0 rfl (rowOf_gI (by omega)) ?_) | ((with_reducible refine (at_alloc (t := 69)) rfl ?_); refine wl_allocA hs rfl rfl zero69 ?_; clear hs; intro w1 tb hs) | (go_at_call 27; refine (HT1.out _ (H.out.keep hs)).mono ?_; rintro e w2 ⟨rfl, hc⟩; replace hs := hs.call0 hc; clear hc) | ((with_reducible refine (at_store (t := 69)) rfl ?_); refine wl_storeA hs rfl rfl rfl rfl (size69 _) (oneI 32 _) 0 rfl (by simp only [rowOf_size]) ?_; clear hs; intro w1 hs))
        go_ret2
        exact ⟨rfl, hs.letgo⟩
    · rw [show wayV k = _ from (if_neg h2).trans (if_neg h3)] at HW
      rw [show fnF s X k = if tbE s (X 17) ≠ 0 then 0 else tbF s (tbF s (X 17) ((k - 44) / 32)) ((k - 44) % 32) from (if_neg h2).trans (if_neg h3), show fnE s X k = if tbE s (X 17) ≠ 0 then tbE s (X 17) else tbE s (tbF s (X 17) ((k - 44) / 32)) from (if_neg h2).trans (if_neg h3)]
      have hi : (k - 44) / 32 < 32 := by omega
      have hj : (k - 44) % 32 < 32 := by omega
      generalize (k - 44) / 32 = i at *
      generalize (k - 44) % 32 = j at *
      have hiI : (i : Int) < 32 := by omega
      have hjI : (j : Int) < 32 := by omega
      have HT1 := Lib.hid (fun w h => HT.out (X 17) w h)
      by_cases hE : tbE s (X 17) = 0
      · rw [if_neg (by simpa using hE), if_neg (by simpa using hE)]
        generalize tbF s (X 17) = T at *
        generalize tbE s (X 17) = E at *
        subst hE
        have HT2 := Lib.hid (fun w h => HT.out (T i) w h)
        generalize tbF s (T i) = U at *
        generalize tbE s (T i) = E2 at *
        clear HT
        go_enter Try.func16, Try.ntmps16
        go_upto_region 14 with (first | ((with_reducible refine (at_box (t := 29)) rfl ?_); refine wl_boxA hs rfl rfl rfl ?_; clear hs; intro w1 xb hs) | (go_at_call 13; refine (HW.out _).mono ?_; rintro e w2 ⟨rfl, rfl⟩) | ((with_reducible refine (at_load (t := 3)) rfl ?_); refine wl_load1 hs rfl rfl Try.underlying3 rfl rfl 0 rfl (rowOf_gI (by omega)) ?_) | ((with_reducible refine (at_alloc (t := 69)) rfl ?_); refine wl_allocA hs rfl rfl zero69 ?_; clear hs; intro w1 tb hs) | (go_at_call 27; refine (HT1.out _ (H.out.keep hs)).mono ?_; rintro e w2 ⟨rfl, hc⟩; replace hs := hs.call0 hc; clear hc) | ((with_reducible refine (at_store (t := 69)) rfl ?_); refine wl_storeA hs rfl rfl rfl rfl (size69 _) (oneI 32 _) 0 rfl (by simp only [rowOf_size]) ?_; clear hs; intro w1 hs))
        go_wp2_with (first | ((with_reducible refine (at_load (t := 3)) rfl ?_); refine wl_load1 hs rfl rfl Try.underlying3 rfl rfl 0 rfl (rowOf_gI (by omega)) ?_) | (go_at_call 27; refine (HT2.out _ (H.out.keep hs)).mono ?_; rintro e w2 ⟨rfl, hc⟩; replace hs := hs.call0 hc; clear hc) | ((with_reducible refine (at_store (t := 69)) rfl ?_); refine wl_storeA hs rfl rfl rfl rfl (size69 _) (oneI 32 _) 0 rfl (by simp only [rowOf_size]) ?_; clear hs; intro w1 hs))
        go_ret2
        exact ⟨rfl, hs.letgo⟩
      · rw [if_pos hE, if_pos hE]
        have hz := tbF_err hE
        rw [hz] at HT1
        generalize tbE s (X 17) = E at *
        have tE : (E != 0) = true := by simpa using hE
        clear hE hz HT
        go_enter Try.func16, Try.ntmps16
        go_wp2_with (first | ((with_reducible refine (at_box (t := 29)) rfl ?_); refine wl_boxA hs rfl rfl rfl ?_; clear hs; intro w1 xb hs) | (go_at_call 13; refine (HW.out _).mono ?_; rintro e w2 ⟨rfl, rfl⟩) | ((with_reducible refine (at_load (t := 3)) rfl ?_); refine wl_load1 hs rfl rfl Try.underlying3 rfl rfl 0 rfl (rowOf_gI (by omega)) ?_) | ((with_reducible refine (at_alloc (t := 69)) rfl ?_); refine wl_allocA hs rfl rfl zero69 ?_; clear hs; intro w1 tb hs) | (go_at_call 27; refine (HT1.out _ (H.out.keep hs)).mono ?_; rintro e w2 ⟨rfl, hc⟩; replace hs := hs.call0 hc; clear hc) | ((with_reducible refine (at_store (t := 69)) rfl ?_); refine wl_storeA hs rfl rfl rfl rfl (size69 _) (oneI 32 _) 0 rfl (by simp only [rowOf_size]) ?_; clear hs; intro w1 hs))
        go_ret2
        exact ⟨rfl, hs.letgo⟩
end Go.Proofs.Ytdlnfdlgnbkppaa
