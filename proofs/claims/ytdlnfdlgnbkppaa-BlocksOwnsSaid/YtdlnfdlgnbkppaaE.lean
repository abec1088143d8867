/- Tables. -/
import Derived.Test.YtdlnfdlgnbkppaaL
namespace Go.Proofs.Ytdlnfdlgnbkppaa
set_option linter.unusedVariables false
set_option linter.unusedSimpArgs false
open Go Go.Sp Go.RowKit

theorem tables_nil (x : Value) (cs : Array Value) (hx : x = .agg cs) (w : World) : Calls Try.prog 20 #[.nilIface, x] w fun e w' => e = .returned (.tuple #[.slice none 0 0, .int .i64 1]) ∧ Tr w [] w' [] := by
  have hs := Tr.refl w []
  subst hx
  go_enter Try.func20, Try.ntmps20
  go_wp2_with (first | ((with_reducible refine (at_box (t := 29)) rfl ?_); refine wl_boxA hs rfl rfl rfl ?_; clear hs; intro w1 xb hs))
  go_ret2
  exact ⟨rfl, hs.letgo⟩
theorem tab_row (X T A : Nat → Int) (hA : A = fun j => if j = 0 then X 16 else if j = 1 then X 17 else T (j - 2)) : (#[Value.int .i64 (X 16), Value.int .i64 (X 17)] : Array Value).toList ++ (rowOf 32 (gI T)).toList = (rowOf 34 (gI A)).toList := by
  subst hA
  have e : (#[Value.int .i64 (X 16), Value.int .i64 (X 17)] : Array Value) = rowOf 2 (gI fun j => if j = 0 then X 16 else if j = 1 then X 17 else T (j - 2)) := rowOf_ext rfl fun i hi => by
    match i, hi with
    | 0, _ => rfl
    | 1, _ => rfl
  have e2 : (rowOf 32 (gI T)) = rowOf 32 fun j => gI (fun j => if j = 0 then X 16 else if j = 1 then X 17 else T (j - 2)) (2 + j) := rowOf_congr fun i hi => by
    simp only [gI]; rw [if_neg (by omega), if_neg (by omega), show 2 + i - 2 = i by omega]
  rw [e, e2, rowOf_append]
set_option maxRecDepth 20000 in
set_option maxHeartbeats 1000000 in
theorem tables_core (X T A : Nat → Int) (v0 : Value) (w : World) (HT : Hid (∀ {w' : World} {L : List Res}, Tr w [] w' L → Calls Try.prog 27 #[v0, .int .i64 (X 17)] w' fun e w'' => e = .returned (.tuple #[.agg (rowOf 32 (gI T)), .int .i64 0]) ∧ Tr w' [] w'' []))
    (hv0 : ∃ p, v0 = .iface 37 (.pointer p)) (HL : Hid ((#[Value.int .i64 (X 16), Value.int .i64 (X 17)] : Array Value).toList ++ (rowOf 32 (gI T)).toList = (rowOf 34 (gI A)).toList)) :
    Calls Try.prog 20 #[v0, .agg (rowOf 18 (gI X))] w fun e w' => ∃ v, e = .returned (.tuple #[v, .int .i64 0]) ∧ Tr w [] w' [Res.own 3 1 v (nz A 34).length (ivs (nz A 34))] := by
  have hs := Tr.refl w []
  obtain ⟨pp, rfl⟩ := hv0
  go_enter Try.func20, Try.ntmps20
  go_upto_region 7 with (first | ((with_reducible refine (at_box (t := 29)) rfl ?_); refine wl_boxA hs rfl rfl rfl ?_; clear hs; intro w1 xb hs) | ((with_reducible refine (at_load (t := 3)) rfl ?_); refine wl_load1 hs rfl rfl Try.underlying3 rfl rfl 0 rfl (rowOf_gI (by omega)) ?_) | (go_at_call 27; refine (HT.out hs).mono ?_; rintro e w2 ⟨rfl, hc⟩; replace hs := hs.call0 hc; clear hc) | ((with_reducible refine (at_alloc (t := 69)) rfl ?_); refine wl_allocA hs rfl rfl zero69 ?_; clear hs; intro w1 tb hs) | ((with_reducible refine (at_store (t := 69)) rfl ?_); refine wl_storeA hs rfl rfl rfl rfl (size69 _) (oneI 32 _) 0 rfl (by simp only [rowOf_size]) ?_; clear hs; intro w1 hs))
  clear HT
  refine wt_enter 9 rfl hs (by kernel_rfl) ?_
  clear hs; intro w1 hs; have hC := hs
  refine wt_take 0 rfl (by kernel_rfl) (by kernel_rfl) (by kernel_rfl) (fun _ _ _ _ h => h) rfl hC ⟨_, fun w hw => by (go_simp; try with_reducible rfl), fun a1 ha => ?_⟩
  simp only [Act.put, List.setIfInBounds_toArray, List.set_cons_succ, List.set_cons_zero] at ha; subst ha
  refine wt_take 1 rfl (by kernel_rfl) (by kernel_rfl) (by kernel_rfl) (fun _ _ _ _ h => h) rfl hC ⟨.int .i64 (X 16), fun w hw => ex_load1 rfl Try.underlying3 rfl rfl (by rw [cell_of_row w _ _ _ _ (0, 0) (hw.getB 1 rfl)]; exact rowOf_gI (by omega)), fun a1 ha => ?_⟩
  simp only [Act.put, List.setIfInBounds_toArray, List.set_cons_succ, List.set_cons_zero] at ha; subst ha
  refine wt_take 2 rfl (by kernel_rfl) (by kernel_rfl) (by kernel_rfl) (fun _ _ _ _ h => h) rfl hC ⟨_, fun w hw => by (go_simp; try with_reducible rfl), fun a1 ha => ?_⟩
  simp only [Act.put, List.setIfInBounds_toArray, List.set_cons_succ, List.set_cons_zero] at ha; subst ha
  refine wt_take 3 rfl (by kernel_rfl) (by kernel_rfl) (by kernel_rfl) (fun _ _ _ _ h => h) rfl hC ⟨.int .i64 (X 17), fun w hw => ex_load1 rfl Try.underlying3 rfl rfl (by rw [cell_of_row w _ _ _ _ (0, 0) (hw.getB 1 rfl)]; exact rowOf_gI (by omega)), fun a1 ha => ?_⟩
  simp only [Act.put, List.setIfInBounds_toArray, List.set_cons_succ, List.set_cons_zero] at ha; subst ha
  refine wt_take 5 rfl (by kernel_rfl) (by kernel_rfl) (by kernel_rfl) (fun _ _ _ _ h => h) rfl hC ⟨_, fun w hw => ex_sliceA0 w rfl Try.underlying69 size3 rfl, fun a1 ha => ?_⟩
  simp only [Act.put, List.setIfInBounds_toArray, List.set_cons_succ, List.set_cons_zero] at ha; subst ha
  refine wt_take 8 rfl (by kernel_rfl) (by kernel_rfl) (by kernel_rfl) (fun _ _ _ _ h => h) rfl hC ⟨_, fun w hw => by (go_simp; try with_reducible rfl), fun a1 ha => ?_⟩
  simp only [Act.put, List.setIfInBounds_toArray, List.set_cons_succ, List.set_cons_zero] at ha; subst ha
  refine wt_one 4 (by kernel_rfl) ?_
  refine wt_buildV hs rfl rfl rfl Try.underlying33 info3 (by omega) (by omega) [.int .i64 (X 16), .int .i64 (X 17)] rfl rfl (by simp [Value.oneCell']) _ rfl (fun _ => by simp only [Act.put, List.setIfInBounds_toArray, List.set_cons_succ, List.set_cons_zero]; rfl) ?_
  clear hs; intro w1 lb hs
  replace hs := hs.toOwn (n := 2) (size := 1) rfl (by unfold maxLen; omega)
  refine wt_and (hs.sub (by repeat (first | exact List.Sublist.refl _ | refine List.Sublist.cons_cons _ ?_ | refine List.Sublist.cons _ ?_))) fun hC => ?_
  refine wt_one 6 (by kernel_rfl) ?_
  refine wt_append hs rfl rfl rfl Try.underlying33 info3 rfl (by omega) 0 rfl rfl rfl tb 0 rfl (rowOf 32 (gI T)).toList (by simp) (blk_news (hs.getB 1 rfl)) (oneI 32 T) (by unfold maxLen; omega) (by omega) (fun _ => by simp only [Act.put, List.setIfInBounds_toArray, List.set_cons_succ, List.set_cons_zero]; rfl) ?_
  clear hs; intro w1 v1 hs hnil; clear hnil; replace hs : Tr w [] w1 [Res.own 3 1 v1 34 ((#[Value.int .i64 (X 16), Value.int .i64 (X 17)] : Array Value).toList ++ (rowOf 32 (gI T)).toList), Res.blk tb (rowOf 32 (gI T)) 69, Res.blk xb (rowOf 18 (gI X)) 29] := hs; obtain ⟨g, c34, rfl, hc1, hc2⟩ := hs.own_some 0 rfl (by omega)
  refine wt_and (hs.sub (by repeat (first | exact List.Sublist.refl _ | refine List.Sublist.cons_cons _ ?_ | refine List.Sublist.cons _ ?_))) fun hC => ?_
  refine wt_take 7 rfl (by kernel_rfl) (by kernel_rfl) (by kernel_rfl) (fun _ _ _ _ h => h) rfl hC ⟨.int .i64 34, fun w hw => by (go_simp; try rfl), fun a1 ha => ?_⟩
  simp only [Act.put, List.setIfInBounds_toArray, List.set_cons_succ, List.set_cons_zero] at ha; subst ha
  refine wt_done (by kernel_rfl) ?_
  clear hC
  have hs3 : Tr w [] w1 [Res.own 3 1 (.slice (some ⟨g, 0, none⟩) 34 c34) 34 (rowOf 34 (gI A)).toList, Res.blk tb (rowOf 32 (gI T)) 69, Res.blk xb (rowOf 18 (gI X)) 29] := by rw [← HL.out]; exact hs
  clear hs HL; have hs := hs3.addNil 3 1; clear hs3
  go_wp2_with fail
  go_loopw [8, 31] (fun l i wr => ∃ (k : Nat) (v : Value), k ≤ 34 ∧ i = .int .i64 k ∧ l = v ∧ Tr w [] wr [Res.own 3 1 v (nz A k).length (ivs (nz A k)), Res.own 3 1 (.slice (some ⟨g, 0, none⟩) 34 c34) 34 (rowOf 34 (gI A)).toList, Res.blk tb (rowOf 32 (gI T)) 69, Res.blk xb (rowOf 18 (gI X)) 29]) (fun _ i _ => 34 - (intOf i).toNat)
  case atStart => exact ⟨0, _, by omega, rfl, rfl, hs⟩
  case round =>
    clear hs
    obtain ⟨k, v, hk, rfl, rfl, hs⟩ := hrel
    by_cases hlt : k < 34
    · have hltI : (k : Int) < 34 := by omega
      have HV : Hid ((rowOf 34 (gI A)).toList[k]? = some (.int .i64 (A k))) := Lib.hid (by rw [Array.getElem?_toList, rowOf_gI hlt])
      have hlen := nz_len A k
      by_cases h0 : A k = 0
      · have HN := Lib.hid (nz_no h0)
        rw [h0] at HV
        go_wp2_with (first | ((with_reducible refine at_index rfl ?_); refine wl_index rfl rfl Try.underlying33 size3 rfl rfl k rfl hlt rfl ?_) | ((with_reducible refine (at_load (t := 3)) rfl ?_); refine wl_loadC rfl rfl Try.underlying3 rfl rfl (by rw [Nat.zero_add, Nat.mul_one]; exact hs.own_cell 1 rfl HV.out) ?_))
        go_roundw
        case rel => exact ⟨k + 1, _, by omega, by go_num, rfl, by rw [HN.out]; exact hs⟩
        case measure => simp [intOf]; omega
      · have HN := Lib.hid (nz_yes h0)
        have t0 : (A k != 0) = true := by simpa using h0
        generalize A k = y at *
        clear h0
        go_wp2_with (first | ((with_reducible refine at_index rfl ?_); refine wl_index rfl rfl Try.underlying33 size3 rfl rfl k rfl hlt rfl ?_) | ((with_reducible refine (at_load (t := 3)) rfl ?_); refine wl_loadC rfl rfl Try.underlying3 rfl rfl (by rw [Nat.zero_add, Nat.mul_one]; exact hs.own_cell 1 rfl HV.out) ?_) | ((with_reducible refine at_buildSlice rfl ?_); refine wl_buildSliceV hs rfl rfl Try.underlying33 info3 (by omega) (by omega) [.int .i64 (y)] rfl rfl (by simp [Value.oneCell']) ?_; clear hs; intro w1 eb hs) | ((with_reducible refine (at_bi .append) rfl ?_); refine wl_append1 hs rfl rfl Try.underlying33 info3 rfl (by omega) 1 rfl rfl 0 rfl rfl rfl (by simp [Value.oneCell']) (by unfold maxLen; omega) (by omega) ?_; clear hs; intro w1 v1 hs))
        go_roundw
        case rel => exact ⟨k + 1, _, by omega, by go_num, rfl, by rw [HN.out, List.length_append, ← ivs_snoc]; exact hs.erase 0⟩
        case measure => simp [intOf]; omega
    · obtain rfl : k = 34 := by omega
      go_wp2_with fail
      go_ret2
      exact ⟨_, rfl, hs.sub (List.Sublist.cons_cons _ (List.nil_sublist _))⟩
theorem tables_any (s : Src) (X : Nat → Int) (mb : Nat) (w : World) (h : Rdr s mb w) :
    Calls Try.prog 20 #[.iface 37 (.pointer (some ⟨mb, 0, none⟩)), .agg (rowOf 18 (gI X))] w (TabP s X w) := by
  by_cases hE : tbE s (X 17) = 0
  · have hc := tables_core X (tbF s (X 17)) (tabA s X) (.iface 37 (.pointer (some ⟨mb, 0, none⟩))) w (Lib.hid fun hs => by have := table_any s mb (X 17) _ (h.keep hs); rwa [hE] at this) ⟨_, rfl⟩ (Lib.hid (tab_row X _ _ rfl))
    refine hc.mono fun e w' ⟨v, he, ht⟩ => ⟨v, by rw [hE]; exact he, by rw [tabL_ok hE]; exact ht⟩
  · have hs := Tr.refl w []
    have H := Lib.hid h
    have HT := Lib.hid (fun w h => table_any s mb (X 17) w h)
    have HP := Lib.hid (fun w' (hs : Tr w [] w' []) => tab_nil hE hs)
    clear h
    generalize tbF s (X 17) = T at *
    have tE : (tbE s (X 17) != 0) = true := by simpa using hE
    clear hE
    generalize tbE s (X 17) = E at *
    go_enter Try.func20, Try.ntmps20
    go_wp2_with (first | ((with_reducible refine (at_box (t := 29)) rfl ?_); refine wl_boxA hs rfl rfl rfl ?_; clear hs; intro w1 xb hs) | ((with_reducible refine (at_load (t := 3)) rfl ?_); refine wl_load1 hs rfl rfl Try.underlying3 rfl rfl 0 rfl (rowOf_gI (by omega)) ?_) | (go_at_call 27; refine (HT.out _ (H.out.keep hs)).mono ?_; rintro e w2 ⟨rfl, hc⟩; replace hs := hs.call0 hc; clear hc) | ((with_reducible refine (at_alloc (t := 69)) rfl ?_); refine wl_allocA hs rfl rfl zero69 ?_; clear hs; intro w1 tb hs) | ((with_reducible refine (at_store (t := 69)) rfl ?_); refine wl_storeA hs rfl rfl rfl rfl (size69 _) (oneI 32 _) 0 rfl (by simp only [rowOf_size]) ?_; clear hs; intro w1 hs))
    go_ret2
    exact HP.out _ hs.letgo
end Go.Proofs.Ytdlnfdlgnbkppaa
