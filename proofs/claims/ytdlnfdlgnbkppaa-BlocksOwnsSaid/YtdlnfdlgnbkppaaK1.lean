/- known. -/
import Derived.Test.YtdlnfdlgnbkppaaSq
import Derived.Test.YtdlnfdlgnbkppaaN
namespace Go.Proofs.Ytdlnfdlgnbkppaa
set_option linter.unusedVariables false
set_option linter.unusedSimpArgs false
open Go Go.Sp Go.RowKit

theorem size39 : (Try.prog.info? 39).map (·.size) = some 3 := by kernel_rfl
theorem built39 (v : Value) (x y : Int) (n c : Nat) (p : Option Addr) (hv : v = .agg #[.slice p n c, .int .i64 x, .int .i64 y]) : Try.prog.built 39 [(0, v)] = some #[.slice p n c, .int .i64 x, .int .i64 y] := by subst hv; kernel_rfl
theorem ints_of_blk {w : World} {b n : Nat} {G : Nat → Int} {cs : Array Value} {t : TypeId} (h : w.heap[b]? = some (.cells cs t (0, 0))) (hcs : cs = rowOf n fun i => .int .i64 (G i)) (hn : n ≤ maxLen) (hwf : ∀ i, i < n → -9223372036854775808 ≤ G i ∧ G i ≤ 9223372036854775807) :
    Ints w (.slice (some ⟨b, 0, none⟩) n n) (some ⟨b, 0, none⟩) n n b 0 G :=
  ⟨rfl, Nat.le_refl _, hn, fun _ => rfl, fun j hj => by rw [cell_of_row w b (0 + j) cs t (0, 0) h, hcs, Nat.zero_add]; exact rowOf_get hj, hwf⟩
theorem built61 (x y : Int) : Try.prog.built 61 [(0, .int .i64 x), (1, .int .i64 y)] = some #[.int .i64 x, .int .i64 y] := by kernel_rfl
theorem ex_tables (b mb : Nat) (w : World) (h : Rdr (exS b) mb w) : Calls Try.prog 20 #[.iface 37 (.pointer (some ⟨mb, 0, none⟩)), .agg (rowOf 18 (gI exX))] w fun e w' => ∃ v, e = .returned (.tuple #[v, .int .i64 0]) ∧ Tr w [] w' [Res.own 3 1 v 4 (ivs [30, 40, 41, 42])] :=
  (tables_any (exS b) exX mb w h).mono fun e w' ⟨v, he, ht⟩ => ⟨v, by rw [he, show tbE (exS b) (exX 17) = 0 from exS_tbE b (n := 40) (by omega) (by omega)], by rw [ex_tabs b] at ht; exact ht⟩
theorem ex_spots (b mb : Nat) (w : World) (h : Rdr (exS b) mb w) : Calls Try.prog 18 #[.iface 37 (.pointer (some ⟨mb, 0, none⟩)), .agg (rowOf 18 (gI exX))] w fun e w' => ∃ v, e = .returned (.tuple #[v, .int .i64 0]) ∧ Tr w [] w' [Res.own 61 2 v 5 (sps [(0, 20), (11, 21), (13, 22), (44, 23), (75, 24)])] :=
  (spots_any (exS b) exX mb w h).mono fun e w' ⟨v, he, ht⟩ => ⟨v, by rw [he, ex_E b], by rw [ex_list b] at ht; exact ht⟩
theorem way_1067 (w : World) : Calls Try.prog 13 #[.int .i64 1067] w fun e w' => e = .returned (.tuple #[.int .i64 2, .int .i64 31, .int .i64 31, .int .i64 0]) ∧ w = w' := way_yes 1067 w (by omega)
theorem ex_needs (b mb lb : Nat) (w : World) (h : Rdr (exS b) mb w) (hb : w.heap[lb]? = some (.cells #[.int .i64 76, .int .i64 107, .int .i64 108] 3 (0, 0))) :
    Calls Try.prog 24 #[.iface 37 (.pointer (some ⟨mb, 0, none⟩)), .agg (rowOf 18 (gI exX)), .slice (some ⟨lb, 0, none⟩) 3 3] w fun e w' => e = .returned (.tuple #[.int .i64 5, .int .i64 0]) ∧ Tr w [] w' [] := by
  have h1 := need_ok (exS b) exX mb w h (ints_of_blk (n := 3) (G := fun k => (exG k : Int)) hb (by kernel_rfl) (by unfold maxLen; omega) (fun i _ => by have := exG_lt i; omega)) exG (fun k _ => ⟨rfl, exG_lt k⟩)
  rw [ex_need b, ex_ndE b] at h1
  exact h1
set_option maxRecDepth 20000 in
set_option maxHeartbeats 1000000 in
theorem known_any (w : World) : Calls Try.prog 12 #[] w fun e w' => e = .returned (.bool true) ∧ Tr w [] w' [] := by
  have hs := Tr.refl w []
  have HX := Lib.hid example_any
  have HD : Hid (exD = exD) := Lib.hid rfl
  go_enter Try.func12, Try.ntmps12
  go_upto_region 1 with fail
  go_upto_region 2 with (first | (go_at_call 26; refine (HX.out _).mono ?_; rintro e w2 ⟨b, rfl, hc⟩; replace hs := hs.call1 hc; clear hc HX) | ((with_reducible refine (at_alloc (t := 29)) rfl ?_); refine wl_allocA hs rfl rfl zero29 ?_; clear hs; intro w1 xb hs) | ((with_reducible refine (at_alloc (t := 35)) rfl ?_); refine wl_allocA hs rfl rfl zero35 ?_; clear hs; intro w1 sb hs) | ((with_reducible refine (at_store (t := 29)) rfl ?_); refine wl_storeA hs rfl rfl rfl rfl (size29 _) (oneI 18 _) 1 rfl (by simp only [rowOf_size]) ?_; clear hs; intro w1 hs) | ((with_reducible refine (at_store (t := 35)) rfl ?_); refine wl_storeA hs rfl rfl rfl rfl size35 (by simp [Value.oneCell']) 0 rfl rfl ?_; clear hs; intro w1 hs))
  have HS : Hid (∀ {w' : World} {S : List Nat} {L : List Res}, Tr w S w' L → ∀ i, L[i]? = some (Res.blk b (rowOf (64 * 128) (u8v exD)) 83) → (exS b).In w') := Lib.hid fun h i hi => exS_in h i hi
  have HF := Lib.hid (fun mb w h => find_yes (exS b) exX mb 75 w h (by omega))
  rw [ex_75 b, ex_fnE b 75 (by omega)] at HF
  have HP := Lib.hid (fun mb w h => ex_spots b mb w h)
  have HT := Lib.hid (fun mb w h => ex_tables b mb w h)
  go_upto_region 3 with (first | ((with_reducible refine (at_load (t := 35)) rfl ?_); refine wl_loadA hs rfl rfl Try.underlying35 rfl rfl 0 rfl size35 ?_) | ((with_reducible refine (at_build (t := 39)) rfl ?_); refine wl_buildP rfl rfl (_) (by rfl) ((built39 _ (-1) 0 64 64 (some ⟨b, 0, none⟩) rfl)) ?_) | ((with_reducible refine (at_box (t := 39)) rfl ?_); refine wl_boxA hs rfl rfl rfl ?_; clear hs; intro w1 mb hs))
  go_upto_region 4 with (first | ((with_reducible refine (at_load (t := 29)) rfl ?_); refine wl_loadA hs rfl rfl Try.underlying29 rfl rfl 2 rfl (size29 _) ?_) | (go_at_call 16; refine (HF.out _ _ ⟨hs.get 0 rfl, HS.out hs 3 rfl⟩).mono ?_; rintro e w2 ⟨rfl, hc⟩; replace hs := hs.call0 hc; clear hc))
  clear HF
  go_upto_region 5 with (first | ((with_reducible refine (at_load (t := 29)) rfl ?_); refine wl_loadA hs rfl rfl Try.underlying29 rfl rfl 2 rfl (size29 _) ?_) | (go_at_call 18; refine (HP.out _ _ ⟨hs.get 0 rfl, HS.out hs 3 rfl⟩).mono ?_; rintro e w2 ⟨v1, rfl, hc⟩; replace hs := hs.call1 hc; clear hc))
  clear HP
  go_upto_region 6 with (first | ((with_reducible refine (at_load (t := 29)) rfl ?_); refine wl_loadA hs rfl rfl Try.underlying29 rfl rfl 3 rfl (size29 _) ?_) | (go_at_call 20; refine (HT.out _ _ ⟨hs.get 1 rfl, HS.out hs 4 rfl⟩).mono ?_; rintro e w2 ⟨v2, rfl, hc⟩; replace hs := hs.call1 hc; clear hc))
  clear HT
  go_upto_region 7 with (first | ((with_reducible refine (at_load (t := 29)) rfl ?_); refine wl_loadA hs rfl rfl Try.underlying29 rfl rfl 4 rfl (size29 _) ?_) | ((with_reducible refine at_buildSlice rfl ?_); refine wl_buildSliceV hs rfl rfl Try.underlying33 info3 (by omega) (by omega) [.int .i64 76, .int .i64 107, .int .i64 108] rfl rfl (by simp [Value.oneCell']) ?_; clear hs; intro w1 lb hs) | (go_at_call 24; refine (ex_needs b _ _ _ ⟨hs.get 3 rfl, HS.out hs 6 rfl⟩ (hs.getB 0 rfl)).mono ?_; rintro e w2 ⟨rfl, hc⟩; replace hs := hs.call0 hc; clear hc))
  go_upto_region 8 with (first | (go_at_call 13; refine (way_1067 _).mono ?_; rintro e w2 ⟨rfl, rfl⟩))
  go_upto_region 9 with fail
  obtain ⟨g1, c1, rfl, -, -⟩ := hs.own_some 2 rfl (by decide)
  obtain ⟨g2, c2, rfl, -, -⟩ := hs.own_some 1 rfl (by decide)
  go_wp2_with (first
    | ((with_reducible refine at_index rfl ?_); refine wl_index rfl rfl Try.underlying44 size61 rfl rfl 4 rfl (by omega) rfl ?_)
    | ((with_reducible refine at_index rfl ?_); refine wl_index rfl rfl Try.underlying33 size3 rfl rfl 0 rfl (by omega) rfl ?_)
    | ((with_reducible refine at_index rfl ?_); refine wl_index rfl rfl Try.underlying33 size3 rfl rfl 3 rfl (by omega) rfl ?_)
    | ((with_reducible refine (at_load (t := 61)) rfl ?_); refine wl_load2 rfl rfl Try.underlying61 rfl size61 rfl (hs.own_cell 2 rfl rfl) (hs.own_cell 2 rfl rfl) ?_)
    | ((with_reducible refine (at_load (t := 3)) rfl ?_); refine wl_loadC rfl rfl Try.underlying3 rfl rfl (hs.own_cell 1 rfl rfl) ?_)
    | ((with_reducible refine (at_build (t := 61)) rfl ?_); refine wl_buildP rfl rfl (_) (by rfl) ((built61 75 24)) ?_))
  go_ret
  exact ⟨rfl, hs.letgo⟩
end Go.Proofs.Ytdlnfdlgnbkppaa
