/- Spots. -/
import Derived.Test.YtdlnfdlgnbkppaaS2
namespace Go.Proofs.Ytdlnfdlgnbkppaa
set_option linter.unusedVariables false
set_option linter.unusedSimpArgs false
open Go Go.Sp Go.RowKit

theorem spL_len (s : Src) (X : Nat → Int) : (spL s X).length ≤ 1068 := by
  unfold spL
  split
  · exact spA_len s X
  · simp
theorem tabL_len (s : Src) (X : Nat → Int) : (tabL s X).length ≤ 34 := by
  unfold tabL
  split
  · exact nz_len _ _
  · simp
set_option maxRecDepth 20000 in
set_option maxHeartbeats 1000000 in
theorem spots_walk (X : Nat → Int) (s : Src) (w : World) (hI : s.In w) : Calls Try.prog 5 #[.agg (rowOf 21 (fileC X s))] w fun e w' => e = .returned (.bool true) ∧ Below w.heap.size w w' := by
  have hs := Tr.refl w []
  have H := Lib.hid hI
  clear hI
  go_enter Try.func5, Try.ntmps5
  go_upto_region 5 with (first | ((with_reducible refine (at_box (t := 32)) rfl ?_); refine wl_boxA hs rfl rfl rfl ?_; clear hs; intro w1 fb hs) | (go_at_call 12; refine (known_any _).mono ?_; rintro e w2 ⟨rfl, hc⟩; replace hs := hs.call0 hc; clear hc) | ((with_reducible refine (at_load (t := 32)) rfl ?_); refine wl_loadA hs rfl rfl Try.underlying32 rfl rfl 0 rfl (size32 _) ?_) | (go_at_call 15; refine (source_any X s _).mono ?_; rintro e w2 ⟨rfl, hc⟩; replace hs := hs.call0 hc; clear hc) | ((with_reducible refine (at_alloc (t := 35)) rfl ?_); refine wl_allocA hs rfl rfl zero35 ?_; clear hs; intro w1 sb hs) | ((with_reducible refine (at_store (t := 35)) rfl ?_); refine wl_storeA hs rfl rfl rfl rfl size35 (by simp [Value.oneCell']) 0 rfl rfl ?_; clear hs; intro w1 hs))
  go_upto_region 6 with (first | ((with_reducible refine (at_load (t := 35)) rfl ?_); refine wl_loadA hs rfl rfl Try.underlying35 rfl rfl 0 rfl size35 ?_) | ((with_reducible refine (at_build (t := 39)) rfl ?_); refine wl_buildP rfl rfl (_) (by rfl) ((built39 _ s.bad s.code s.N s.c s.ao rfl)) ?_) | ((with_reducible refine (at_box (t := 39)) rfl ?_); refine wl_boxA hs rfl rfl rfl ?_; clear hs; intro w1 mb hs))
  replace hs : Tr w [] w1 [Res.blk mb s.cs 39, Res.blk sb s.cs 35, Res.blk fb (rowOf 21 (fileC X s)) 32] := hs
  go_upto_region 7 with (first | ((with_reducible refine (at_load (t := 29)) rfl ?_); refine wl_loadR rfl rfl Try.underlying29 rfl size29n rfl (file_rd (hs.rd0 2 rfl (by omega))) ?_) | (go_at_call 18; refine (spots_any s X mb _ ⟨hs.get 0 rfl, H.out.keep hs⟩).mono ?_; rintro e w2 ⟨v1, rfl, hc⟩; replace hs := hs.call1 hc; clear hc))
  go_upto_region 8 with (first | ((with_reducible refine (at_load (t := 35)) rfl ?_); refine wl_loadA hs rfl rfl Try.underlying35 rfl rfl 2 rfl size35 ?_) | ((with_reducible refine (at_load (t := 29)) rfl ?_); refine wl_loadR rfl rfl Try.underlying29 rfl size29n rfl (file_rd (hs.rd0 3 rfl (by omega))) ?_) | (go_at_call 19; refine (rspots_any s X _ (H.out.keep hs)).mono ?_; rintro e w2 ⟨v2, rfl, hc⟩; replace hs := hs.call1 hc; clear hc))
  go_upto_region 9 with (first | ((with_reducible refine (at_load (t := 29)) rfl ?_); refine wl_loadR rfl rfl Try.underlying29 rfl size29n rfl (file_rd (hs.rd0 4 rfl (by omega))) ?_) | (go_at_call 20; refine (tables_any s X mb _ ⟨hs.get 2 rfl, H.out.keep hs⟩).mono ?_; rintro e w2 ⟨v3, rfl, hc⟩; replace hs := hs.call1 hc; clear hc))
  go_upto_region 10 with (first | ((with_reducible refine (at_load (t := 35)) rfl ?_); refine wl_loadA hs rfl rfl Try.underlying35 rfl rfl 4 rfl size35 ?_) | ((with_reducible refine (at_load (t := 29)) rfl ?_); refine wl_loadR rfl rfl Try.underlying29 rfl size29n rfl (file_rd (hs.rd0 5 rfl (by omega))) ?_) | (go_at_call 21; refine (rtables_any s X _ (H.out.keep hs)).mono ?_; rintro e w2 ⟨v4, rfl, hc⟩; replace hs := hs.call1 hc; clear hc))
  have L1 := spL_len s X
  have L2 := tabL_len s X
  go_wp2_with (first | (go_at_call 22; refine (spots_cmp hs 3 2 rfl rfl (by omega)).mono ?_; rintro e w2 ⟨rfl, hc⟩; replace hs := hs.call0 hc; clear hc) | (go_at_call 23; refine (ints_cmp hs 1 0 rfl rfl (by omega)).mono ?_; rintro e w2 ⟨rfl, hc⟩; replace hs := hs.call0 hc; clear hc))
  go_ret
  exact ⟨rfl, hs.below⟩
end Go.Proofs.Ytdlnfdlgnbkppaa
