/- The document's disk, whose row may have room: contracts; and what the program's lacked. -/
import Derived.Test.YtcflolcaiedmfaaE
import Derived.Test.YtcflolcaiedmfaaWApart
import Derived.Test.YtcflolcaiedmfaaRp
namespace Go.Proofs.Ytcflolcaiedmfaa
set_option linter.unusedVariables false
set_option linter.unusedSimpArgs false
open Go Go.Sp Go.RowKit Go.BigFrame

theorem size4 : (Try.prog.info? 4).map (·.size) = some 1 := by kernel_rfl
/-- The document's. -/
@[reducible] def refG (d g c n : Nat) (f : Nat → UInt8) (wr : Int) (off armed : Bool) (left : Int) : Res :=
  Res.both (Res.blk d #[.slice (some ⟨g, 0, none⟩) n c, .int .i64 wr, .bool armed, .int .i64 left, .bool off] 71) (Res.own 40 128 (.slice (some ⟨g, 0, none⟩) n c) n (rowOf (n * 128) (u8v f)).toList)
theorem Res.keep2 {r : Res} {w w' : World} {L : List Res} (h : r.holds w) (hs : Tr w [] w' L) : r.holds w' := r.stays w w' (fun k hk => hs.keep k (r.live w h k hk) (by simp)) h
theorem cellAt2 {w w' : World} {L : List Res} {b off : Nat} {cs : Array Value} {t : TypeId} {v : Value} (h : (Res.blk b cs t).holds w) (hs : Tr w [] w' L) (hv : cs[off]? = some v) : w'.cell? ⟨b, off, none⟩ = some v := by
  have h2 : w'.heap[b]? = some (.cells cs t (0, 0)) := by simpa [Res.blk] using Res.keep2 h hs
  rw [cell_of_row w' b off cs t (0, 0) h2]; exact hv

section
variable {d g c n : Nat} {f : Nat → UInt8} {wr : Int} {off armed : Bool} {left : Int} {w : World}
theorem rlen_any (h : (refG d g c n f wr off armed left).holds w) : Calls Try.prog 40 #[.pointer (some ⟨d, 0, none⟩)] w fun e w' => e = .returned (.int .i64 n) ∧ Tr w [] w' [] := by
  have hs := Tr.refl w []
  have H := Lib.hid ((Tr.open2 h).get 0 rfl)
  clear h
  go_enter Try.func40, Try.ntmps40
  go_wp2_with (first | ((with_reducible refine (at_load (t := 30)) rfl ?_); refine wl_loadC rfl rfl Try.underlying30 rfl rfl (cellAt2 H.out hs rfl) ?_))
  go_ret
  exact ⟨rfl, hs⟩
theorem rwrong_any (i : Int) (hn : n ≤ 9223372036854775807) (h : (refG d g c n f wr off armed left).holds w) : Calls Try.prog 41 #[.pointer (some ⟨d, 0, none⟩), .int .i64 i] w fun e w' => e = .returned (.int .i64 (ck off n i)) ∧ Tr w [] w' [] := by
  have hs := Tr.refl w []
  have H := Lib.hid ((Tr.open2 h).get 0 rfl)
  clear h
  cases off
  · by_cases h1 : i < 0
    · have h2 := Lib.hid (show (21 : Int) = ck false n i by simp only [ck]; rw [if_neg (by simp), if_neg (by omega)])
      have t1 : decide (i < 0) = true := decide_eq_true h1
      go_enter Try.func41, Try.ntmps41
      go_wp2_with (first | ((with_reducible refine (at_load (t := 4)) rfl ?_); refine wl_loadC rfl rfl Try.underlying4 rfl rfl (cellAt2 H.out hs rfl) ?_) | ((with_reducible refine (at_load (t := 30)) rfl ?_); refine wl_loadC rfl rfl Try.underlying30 rfl rfl (cellAt2 H.out hs rfl) ?_))
      go_ret
      exact ⟨ret_int h2.out, hs⟩
    · have t1 : decide (i < 0) = false := decide_eq_false h1
      by_cases h3 : i < n
      · have h2 := Lib.hid (show (0 : Int) = ck false n i by simp only [ck]; rw [if_neg (by simp), if_pos (by omega)])
        have t2 : decide ((n : Int) ≤ i) = false := decide_eq_false (by omega)
        go_enter Try.func41, Try.ntmps41
        go_wp2_with (first | ((with_reducible refine (at_load (t := 4)) rfl ?_); refine wl_loadC rfl rfl Try.underlying4 rfl rfl (cellAt2 H.out hs rfl) ?_) | ((with_reducible refine (at_load (t := 30)) rfl ?_); refine wl_loadC rfl rfl Try.underlying30 rfl rfl (cellAt2 H.out hs rfl) ?_))
        go_ret
        exact ⟨ret_int h2.out, hs⟩
      · have h2 := Lib.hid (show (21 : Int) = ck false n i by simp only [ck]; rw [if_neg (by simp), if_neg (by omega)])
        have t2 : decide ((n : Int) ≤ i) = true := decide_eq_true (by omega)
        go_enter Try.func41, Try.ntmps41
        go_wp2_with (first | ((with_reducible refine (at_load (t := 4)) rfl ?_); refine wl_loadC rfl rfl Try.underlying4 rfl rfl (cellAt2 H.out hs rfl) ?_) | ((with_reducible refine (at_load (t := 30)) rfl ?_); refine wl_loadC rfl rfl Try.underlying30 rfl rfl (cellAt2 H.out hs rfl) ?_))
        go_ret
        exact ⟨ret_int h2.out, hs⟩
  · go_enter Try.func41, Try.ntmps41
    go_wp2_with (first | ((with_reducible refine (at_load (t := 4)) rfl ?_); refine wl_loadC rfl rfl Try.underlying4 rfl rfl (cellAt2 H.out hs rfl) ?_) | ((with_reducible refine (at_load (t := 30)) rfl ?_); refine wl_loadC rfl rfl Try.underlying30 rfl rfl (cellAt2 H.out hs rfl) ?_))
    go_ret
    exact ⟨rfl, hs⟩
theorem rread_no (i : Int) (x : Int) (hn : n ≤ 4096) (hx : ck off n i = x) (hx0 : x ≠ 0) (h : (refG d g c n f wr off armed left).holds w) :
    Calls Try.prog 35 #[.pointer (some ⟨d, 0, none⟩), .int .i64 i] w fun e w' => e = .returned (.tuple #[bytesV 128 (fun _ => 0), .int .i64 x]) ∧ Tr w [] w' [] := by
  have hs := Tr.refl w []
  have HC := Lib.hid (fun w (h : (refG d g c n f wr off armed left).holds w) => rwrong_any i (by omega : n ≤ 9223372036854775807) h)
  rw [hx] at HC
  have H := Lib.hid h
  have t0 : (x != 0) = true := by simpa using hx0
  clear h hx
  go_enter Try.func35, Try.ntmps35
  go_wp2_with (first | ((with_reducible refine at_alloc rfl ?_); refine wl_allocA hs rfl rfl zero40 ?_; clear hs; intro w1 b hs) | (go_at_call 41; refine (HC.out _ (Res.keep2 H.out hs)).mono ?_; rintro e w2 ⟨rfl, hc⟩; replace hs := hs.call0 hc; clear hc) | ((with_reducible refine at_build rfl ?_); refine wl_build0B rfl rfl Try.underlying40 (F := fun _ => 0) zero40 isz5 ?_) | ((with_reducible refine at_store rfl ?_); refine wl_storeA hs rfl rfl rfl rfl (size40r _) (one40 _) 0 rfl (by simp only [rowOf_size]) ?_; clear hs; intro w1 hs))
  exact ret_cell2 hs rfl rfl Try.underlying40 rfl rfl rfl 0 rfl (size40r _) ⟨rfl, hs.letgo⟩
theorem rread_ok (i : Nat) (hn : n ≤ 4096) (hi : i < n) (h : (refG d g c n f wr false armed left).holds w) :
    Calls Try.prog 35 #[.pointer (some ⟨d, 0, none⟩), .int .i64 (i : Int)] w fun e w' => e = .returned (.tuple #[bytesV 128 (fun j => f (0 + i * 128 + j)), .int .i64 0]) ∧ Tr w [] w' [] := by
  have hs := Tr.refl w []
  have HC := Lib.hid (fun w (h : (refG d g c n f wr false armed left).holds w) => rwrong_any (i : Int) (by omega : n ≤ 9223372036854775807) h)
  rw [show ck false n i = 0 by simp only [ck]; rw [if_neg (by simp), if_pos (by omega)]] at HC
  have H := Lib.hid h
  have HP := Lib.hid ((Tr.open2 h).get 0 rfl)
  have HR := Lib.hid ((Tr.open2 h).own_rd 1 rfl)
  clear h
  go_enter Try.func35, Try.ntmps35
  go_wp2_with (first | ((with_reducible refine at_alloc rfl ?_); refine wl_allocA hs rfl rfl zero40 ?_; clear hs; intro w1 b hs) | (go_at_call 41; refine (HC.out _ (Res.keep2 H.out hs)).mono ?_; rintro e w2 ⟨rfl, hc⟩; replace hs := hs.call0 hc; clear hc) | ((with_reducible refine (at_load (t := 30)) rfl ?_); refine wl_loadC rfl rfl Try.underlying30 rfl rfl (cellAt2 HP.out hs rfl) ?_) | ((with_reducible refine at_index rfl ?_); refine wl_index rfl rfl Try.underlying30 size40 rfl rfl i rfl hi rfl ?_) | ((with_reducible refine at_load rfl ?_); refine wl_loadMB rfl rfl Try.underlying40 size40 rfl (F := fun j => f (0 + i * 128 + j)) (((HR.out.keep hs).sub (i * 128) 128 (by omega)).congr fun j hj => by simp only [u8v, Nat.zero_add]) ?_) | ((with_reducible refine at_store rfl ?_); refine wl_storeA hs rfl rfl rfl rfl (size40r _) (one40 _) 0 rfl (by simp only [rowOf_size]) ?_; clear hs; intro w1 hs))
  exact ret_cell2 hs rfl rfl Try.underlying40 rfl rfl rfl 0 rfl (size40r _) ⟨rfl, hs.letgo⟩
theorem rimage_G (hn : n ≤ 4096) (h : (refG d g c n f wr off armed left).holds w) : Calls Try.prog 15 #[.pointer (some ⟨d, 0, none⟩)] w fun e w' => ∃ v, e = .returned v ∧ Tr w [] w' [Res.own 40 128 v n (rowOf (n * 128) (u8v f)).toList] := by
  have hs := (Tr.refl w []).addNil 40 128
  have HP := Lib.hid ((Tr.open2 h).get 0 rfl)
  have HR := Lib.hid ((Tr.open2 h).own_rd 1 rfl)
  clear h
  go_enter Try.func15, Try.ntmps15
  go_wp2_with (first | ((with_reducible refine (at_load (t := 30)) rfl ?_); refine wl_loadC rfl rfl Try.underlying30 rfl rfl (cellAt2 HP.out hs rfl) ?_) | ((with_reducible refine (at_bi .append) rfl ?_); refine wl_appendG hs rfl rfl Try.underlying30 info40 zc40 (by omega) 0 rfl rfl rfl (fun h => by cases h) g 0 (fun _ => rfl) (rowOf (n * 128) (u8v f)).toList (by simp) (HR.out.keep hs).news (oneU8 _ _) (by unfold maxLen; omega) (by omega) ?_; rw [List.nil_append, Nat.zero_add]; clear hs; intro w1 v hs))
  go_ret
  exact ⟨_, rfl, hs⟩
theorem rarm_neg (k : Int) (hk : k < 0) (h : (refG d g c n f wr off armed left).holds w) : Calls Try.prog 37 #[.pointer (some ⟨d, 0, none⟩), .int .i64 k] w fun e w' => e = .returned (.int .i64 1) ∧ Tr w [] w' [] := by
  have hs := Tr.refl w []
  go_enter Try.func37, Try.ntmps37
  go_wp2
  go_ret
  exact ⟨rfl, hs⟩
theorem rarm_off (k : Int) (hk : 0 ≤ k) (h : (refG d g c n f wr true armed left).holds w) : Calls Try.prog 37 #[.pointer (some ⟨d, 0, none⟩), .int .i64 k] w fun e w' => e = .returned (.int .i64 22) ∧ Tr w [] w' [] := by
  have hs := Tr.refl w []
  have H := Lib.hid ((Tr.open2 h).get 0 rfl)
  clear h
  go_enter Try.func37, Try.ntmps37
  go_wp2_with (first | ((with_reducible refine (at_load (t := 4)) rfl ?_); refine wl_loadC rfl rfl Try.underlying4 rfl rfl (cellAt2 H.out hs rfl) ?_))
  go_ret
  exact ⟨rfl, hs⟩
theorem rarm_ok (k : Int) (hk : 0 ≤ k) (h : (refG d g c n f wr false armed left).holds w) : Calls Try.prog 37 #[.pointer (some ⟨d, 0, none⟩), .int .i64 k] w fun e w' => e = .returned (.int .i64 0) ∧ Tr w (refG d g c n f wr false armed left).foot w' [refG d g c n f wr false true k] := by
  have hs := Tr.open2 h
  clear h
  go_enter Try.func37, Try.ntmps37
  go_wp2_with (first | ((with_reducible refine at_load rfl ?_); refine wl_load1 hs rfl rfl Try.underlying4 rfl rfl 0 rfl rfl ?_) | ((with_reducible refine (at_store (t := 4)) rfl ?_); refine wl_store1 hs rfl rfl size4 rfl rfl rfl 0 rfl (by simp) ?_; clear hs; intro w1 hs) | ((with_reducible refine (at_store (t := 3)) rfl ?_); refine wl_store1 hs rfl rfl size3 rfl rfl rfl 0 rfl (by simp) ?_; clear hs; intro w1 hs))
  go_ret
  exact ⟨rfl, hs.join2⟩
theorem rrestart_any (h : (refG d g c n f wr off armed left).holds w) : Calls Try.prog 38 #[.pointer (some ⟨d, 0, none⟩)] w fun e w' => ∃ v, e = .returned v ∧ Tr w (refG d g c n f wr off armed left).foot w' [refG d g c n f wr false false 0] := by
  have hs := Tr.open2 h
  clear h
  go_enter Try.func38, Try.ntmps38
  go_wp2_with (first | ((with_reducible refine (at_store (t := 4)) rfl ?_); refine wl_store1 hs rfl rfl size4 rfl rfl rfl 0 rfl (by simp) ?_; clear hs; intro w1 hs) | ((with_reducible refine (at_store (t := 3)) rfl ?_); refine wl_store1 hs rfl rfl size3 rfl rfl rfl 0 rfl (by simp) ?_; clear hs; intro w1 hs))
  exact bodyPost_end (results_none rfl _ _ _) rfl ⟨⟨_, rfl⟩, hs.join2⟩
theorem rwrite_no (i : Int) (F : Nat → UInt8) (x : Int) (hn : n ≤ 4096) (hx : ck off n i = x) (hx0 : x ≠ 0) (h : (refG d g c n f wr off armed left).holds w) : Calls Try.prog 36 #[.pointer (some ⟨d, 0, none⟩), .int .i64 i, bytesV 128 F] w fun e w' => e = .returned (.int .i64 x) ∧ Tr w [] w' [] := by
  have hs := Tr.refl w []
  have HC := Lib.hid (fun w (h : (refG d g c n f wr off armed left).holds w) => rwrong_any i (by omega : n ≤ 9223372036854775807) h)
  rw [hx] at HC
  have H := Lib.hid h
  have t0 : (x != 0) = true := by simpa using hx0
  clear h hx
  go_enter Try.func36, Try.ntmps36
  go_wp2_with (first | ((with_reducible refine at_box rfl ?_); refine wl_boxA hs rfl rfl rfl ?_; clear hs; intro w1 b hs) | (go_at_call 41; refine (HC.out _ (Res.keep2 H.out hs)).mono ?_; rintro e w2 ⟨rfl, hc⟩; replace hs := hs.call0 hc; clear hc))
  go_ret
  exact ⟨rfl, hs.letgo⟩
theorem rwrite_off (i : Nat) (F : Nat → UInt8) (hn : n ≤ 4096) (hi : i < n) (h : (refG d g c n f wr false true 0).holds w) :
    Calls Try.prog 36 #[.pointer (some ⟨d, 0, none⟩), .int .i64 (i : Int), bytesV 128 F] w fun e w' => e = .returned (.int .i64 22) ∧ Tr w (refG d g c n f wr false true 0).foot w' [refG d g c n f wr true true 0] := by
  have hs := Tr.open2 h
  have HC := Lib.hid (fun w (h : (refG d g c n f wr false true 0).holds w) => rwrong_any (i : Int) (by omega : n ≤ 9223372036854775807) h)
  rw [show ck false n i = 0 by simp only [ck]; rw [if_neg (by simp), if_pos (by omega)]] at HC
  clear h
  go_enter Try.func36, Try.ntmps36
  go_wp2_with (first | ((with_reducible refine at_box rfl ?_); refine wl_boxA hs rfl rfl rfl ?_; clear hs; intro w1 b hs) | (go_at_call 41; refine (HC.out _ ((hs.sub (L' := [_, _]) (by exact List.Sublist.cons _ (List.Sublist.refl _))).join2.get 0 rfl)).mono ?_; rintro e w2 ⟨rfl, hc⟩; replace hs := hs.call0 hc; clear hc) | ((with_reducible refine at_load rfl ?_); refine wl_load1 hs rfl rfl Try.underlying4 rfl rfl 1 rfl rfl ?_) | ((with_reducible refine at_load rfl ?_); refine wl_load1 hs rfl rfl Try.underlying3 rfl rfl 1 rfl rfl ?_) | ((with_reducible refine (at_store (t := 4)) rfl ?_); refine wl_store1 hs rfl rfl size4 rfl rfl rfl 1 rfl (by simp) ?_; clear hs; intro w1 hs))
  go_ret
  exact ⟨rfl, (hs.erase 0).join2⟩
theorem upd_list (f : Nat → UInt8) (i : Nat) (F : Nat → UInt8) {N : Nat} (h : i * 128 + 128 ≤ N) : (rowOf N (u8v f)).toList.take (0 + i * 128) ++ (rowOf 128 (u8v F)).toList ++ (rowOf N (u8v f)).toList.drop (0 + i * 128 + 128) = (rowOf N (u8v (updF f i F))).toList := by
  rw [Nat.zero_add, splice_list _ _ _ h]
  congr 1
  refine rowOf_congr fun j hj => ?_
  simp only [u8v, updF]
  split <;> rfl
theorem rwrite_yes (i : Nat) (F : Nat → UInt8) (l' : Int) (hn : n ≤ 4096) (hi : i < n) (hwr : 0 ≤ wr ∧ wr ≤ 4611686018427387904) (hl : (armed = true ∧ 0 < left ∧ left ≤ 9223372036854775807 ∧ l' = left - 1) ∨ (armed = false ∧ l' = left)) (h : (refG d g c n f wr false armed left).holds w) :
    Calls Try.prog 36 #[.pointer (some ⟨d, 0, none⟩), .int .i64 (i : Int), bytesV 128 F] w fun e w' => e = .returned (.int .i64 0) ∧ Tr w (refG d g c n f wr false armed left).foot w' [refG d g c n (updF f i F) (wr + 1) false armed l'] := by
  have hs0 := Tr.open2 h
  have HC := Lib.hid (fun w (h : (refG d g c n f wr false armed left).holds w) => rwrong_any (i : Int) (by omega : n ≤ 9223372036854775807) h)
  rw [show ck false n i = 0 by simp only [ck]; rw [if_neg (by simp), if_pos (by omega)]] at HC
  clear h
  have hi2 : (i : Int) < n := by omega
  have HU := Lib.hid (upd_list f i F (N := n * 128) (by omega))
  rcases hl with ⟨rfl, hl1, hl2, rfl⟩ | ⟨rfl, rfl⟩
  · have hs := hs0
    clear hs0
    have t1 : (left == 0) = false := by simp; omega
    go_enter Try.func36, Try.ntmps36
    go_upto_region 9 with (first | ((with_reducible refine at_box rfl ?_); refine wl_boxA hs rfl rfl rfl ?_; clear hs; intro w1 b hs) | (go_at_call 41; refine (HC.out _ ((hs.sub (L' := [_, _]) (by exact List.Sublist.cons _ (List.Sublist.refl _))).join2.get 0 rfl)).mono ?_; rintro e w2 ⟨rfl, hc⟩; replace hs := hs.call0 hc; clear hc) | ((with_reducible refine at_load rfl ?_); refine wl_load1 hs rfl rfl Try.underlying4 rfl rfl 1 rfl rfl ?_) | ((with_reducible refine at_load rfl ?_); refine wl_load1 hs rfl rfl Try.underlying3 rfl rfl 1 rfl rfl ?_) | ((with_reducible refine (at_store (t := 3)) rfl ?_); refine wl_store1 hs rfl rfl size3 rfl rfl rfl 1 rfl (by simp) ?_; clear hs; intro w1 hs))
    refine wt_enterS (List.Sublist.cons_cons _ (List.Sublist.cons_cons _ (List.nil_sublist _))) 8 rfl hs (by kernel_rfl) ?_
    clear hs; intro w1 hC hs
    refine wt_take 0 rfl (by kernel_rfl) (by kernel_rfl) (by kernel_rfl) (fun _ _ _ _ h => h) rfl hC ⟨_, fun w hw => by (go_simp; try with_reducible rfl), fun a1 ha => ?_⟩
    simp only [Act.put, List.setIfInBounds_toArray, List.set_cons_succ, List.set_cons_zero] at ha; subst ha
    refine wt_take 1 rfl (by kernel_rfl) (by kernel_rfl) (by kernel_rfl) (fun _ _ _ _ h => h) rfl hC ⟨_, fun w hw => by (go_simp; try with_reducible rfl), fun a1 ha => ?_⟩
    simp only [Act.put, List.setIfInBounds_toArray, List.set_cons_succ, List.set_cons_zero] at ha; subst ha
    refine wt_take 2 rfl (by kernel_rfl) (by kernel_rfl) (by kernel_rfl) (fun _ _ _ _ h => h) rfl hC ⟨_, fun w hw => by (go_simp; try with_reducible rfl), fun a1 ha => ?_⟩
    simp only [Act.put, List.setIfInBounds_toArray, List.set_cons_succ, List.set_cons_zero] at ha; subst ha
    refine wt_take 3 rfl (by kernel_rfl) (by kernel_rfl) (by kernel_rfl) (fun _ _ _ _ h => h) rfl hC ⟨_, fun w hw => ex_load1 rfl Try.underlying30 rfl rfl (by rw [cell_of_row w _ _ _ _ (0, 0) (hw.getB 1 rfl)]; rfl), fun a1 ha => ?_⟩
    simp only [Act.put, List.setIfInBounds_toArray, List.set_cons_succ, List.set_cons_zero] at ha; subst ha
    refine wt_take 4 rfl (by kernel_rfl) (by kernel_rfl) (by kernel_rfl) (fun _ _ _ _ h => h) rfl hC ⟨_, fun w hw => by (go_simp; try with_reducible rfl), fun a1 ha => ?_⟩
    simp only [Act.put, List.setIfInBounds_toArray, List.set_cons_succ, List.set_cons_zero] at ha; subst ha
    refine wt_take 5 rfl (by kernel_rfl) (by kernel_rfl) (by kernel_rfl) (fun _ _ _ _ h => h) rfl hC ⟨_, fun w hw => ex_loadB rfl Try.underlying40 size40 rfl (hw.getB 0 rfl), fun a1 ha => ?_⟩
    simp only [Act.put, List.setIfInBounds_toArray, List.set_cons_succ, List.set_cons_zero] at ha; subst ha
    refine wt_take 6 rfl (by kernel_rfl) (by kernel_rfl) (by kernel_rfl) (fun _ _ _ _ h => h) rfl hC ⟨_, fun w hw => ex_indexS rfl Try.underlying30 size40 rfl rfl i rfl hi rfl, fun a1 ha => ?_⟩
    simp only [Act.put, List.setIfInBounds_toArray, List.set_cons_succ, List.set_cons_zero] at ha; subst ha
    refine wt_one 7 (by kernel_rfl) ?_
    refine wt_storeO hs rfl rfl rfl size40 rfl rfl (rowOf_size _ _) (oneU8 _ _) 2 rfl (by rw [Array.length_toList, rowOf_size]; omega) _ HU.out (by simp only [Act.put, List.setIfInBounds_toArray, List.set_cons_succ, List.set_cons_zero]; rfl) ?_
    clear hs; intro w1 hs
    refine wt_and (hs.sub (by repeat (first | exact List.Sublist.refl _ | refine List.Sublist.cons_cons _ ?_ | refine List.Sublist.cons _ ?_))) fun hC => ?_
    refine wt_done (by kernel_rfl) ?_
    skip
    clear hC
    go_wp2_with (first | ((with_reducible refine at_load rfl ?_); refine wl_load1 hs rfl rfl Try.underlying3 rfl rfl 1 rfl rfl ?_) | ((with_reducible refine (at_store (t := 3)) rfl ?_); refine wl_store1 hs rfl rfl size3 rfl rfl rfl 1 rfl (by simp) ?_; clear hs; intro w1 hs))
    go_ret
    exact ⟨rfl, (hs.erase 0).join2⟩
  · have hs := hs0
    clear hs0
    go_enter Try.func36, Try.ntmps36
    go_upto_region 9 with (first | ((with_reducible refine at_box rfl ?_); refine wl_boxA hs rfl rfl rfl ?_; clear hs; intro w1 b hs) | (go_at_call 41; refine (HC.out _ ((hs.sub (L' := [_, _]) (by exact List.Sublist.cons _ (List.Sublist.refl _))).join2.get 0 rfl)).mono ?_; rintro e w2 ⟨rfl, hc⟩; replace hs := hs.call0 hc; clear hc) | ((with_reducible refine at_load rfl ?_); refine wl_load1 hs rfl rfl Try.underlying4 rfl rfl 1 rfl rfl ?_) | ((with_reducible refine at_load rfl ?_); refine wl_load1 hs rfl rfl Try.underlying3 rfl rfl 1 rfl rfl ?_) | ((with_reducible refine (at_store (t := 3)) rfl ?_); refine wl_store1 hs rfl rfl size3 rfl rfl rfl 1 rfl (by simp) ?_; clear hs; intro w1 hs))
    refine wt_enterS (List.Sublist.cons_cons _ (List.Sublist.cons_cons _ (List.nil_sublist _))) 8 rfl hs (by kernel_rfl) ?_
    clear hs; intro w1 hC hs
    refine wt_take 0 rfl (by kernel_rfl) (by kernel_rfl) (by kernel_rfl) (fun _ _ _ _ h => h) rfl hC ⟨_, fun w hw => by (go_simp; try with_reducible rfl), fun a1 ha => ?_⟩
    simp only [Act.put, List.setIfInBounds_toArray, List.set_cons_succ, List.set_cons_zero] at ha; subst ha
    refine wt_take 1 rfl (by kernel_rfl) (by kernel_rfl) (by kernel_rfl) (fun _ _ _ _ h => h) rfl hC ⟨_, fun w hw => by (go_simp; try with_reducible rfl), fun a1 ha => ?_⟩
    simp only [Act.put, List.setIfInBounds_toArray, List.set_cons_succ, List.set_cons_zero] at ha; subst ha
    refine wt_take 2 rfl (by kernel_rfl) (by kernel_rfl) (by kernel_rfl) (fun _ _ _ _ h => h) rfl hC ⟨_, fun w hw => by (go_simp; try with_reducible rfl), fun a1 ha => ?_⟩
    simp only [Act.put, List.setIfInBounds_toArray, List.set_cons_succ, List.set_cons_zero] at ha; subst ha
    refine wt_take 3 rfl (by kernel_rfl) (by kernel_rfl) (by kernel_rfl) (fun _ _ _ _ h => h) rfl hC ⟨_, fun w hw => ex_load1 rfl Try.underlying30 rfl rfl (by rw [cell_of_row w _ _ _ _ (0, 0) (hw.getB 1 rfl)]; rfl), fun a1 ha => ?_⟩
    simp only [Act.put, List.setIfInBounds_toArray, List.set_cons_succ, List.set_cons_zero] at ha; subst ha
    refine wt_take 4 rfl (by kernel_rfl) (by kernel_rfl) (by kernel_rfl) (fun _ _ _ _ h => h) rfl hC ⟨_, fun w hw => by (go_simp; try with_reducible rfl), fun a1 ha => ?_⟩
    simp only [Act.put, List.setIfInBounds_toArray, List.set_cons_succ, List.set_cons_zero] at ha; subst ha
    refine wt_take 5 rfl (by kernel_rfl) (by kernel_rfl) (by kernel_rfl) (fun _ _ _ _ h => h) rfl hC ⟨_, fun w hw => ex_loadB rfl Try.underlying40 size40 rfl (hw.getB 0 rfl), fun a1 ha => ?_⟩
    simp only [Act.put, List.setIfInBounds_toArray, List.set_cons_succ, List.set_cons_zero] at ha; subst ha
    refine wt_take 6 rfl (by kernel_rfl) (by kernel_rfl) (by kernel_rfl) (fun _ _ _ _ h => h) rfl hC ⟨_, fun w hw => ex_indexS rfl Try.underlying30 size40 rfl rfl i rfl hi rfl, fun a1 ha => ?_⟩
    simp only [Act.put, List.setIfInBounds_toArray, List.set_cons_succ, List.set_cons_zero] at ha; subst ha
    refine wt_one 7 (by kernel_rfl) ?_
    refine wt_storeO hs rfl rfl rfl size40 rfl rfl (rowOf_size _ _) (oneU8 _ _) 2 rfl (by rw [Array.length_toList, rowOf_size]; omega) _ HU.out (by simp only [Act.put, List.setIfInBounds_toArray, List.set_cons_succ, List.set_cons_zero]; rfl) ?_
    clear hs; intro w1 hs
    refine wt_and (hs.sub (by repeat (first | exact List.Sublist.refl _ | refine List.Sublist.cons_cons _ ?_ | refine List.Sublist.cons _ ?_))) fun hC => ?_
    refine wt_done (by kernel_rfl) ?_
    skip
    clear hC
    go_wp2_with (first | ((with_reducible refine at_load rfl ?_); refine wl_load1 hs rfl rfl Try.underlying3 rfl rfl 1 rfl rfl ?_) | ((with_reducible refine (at_store (t := 3)) rfl ?_); refine wl_store1 hs rfl rfl size3 rfl rfl rfl 1 rfl (by simp) ?_; clear hs; intro w1 hs))
    go_ret
    exact ⟨rfl, (hs.erase 0).join2⟩
end
end Go.Proofs.Ytcflolcaiedmfaa
