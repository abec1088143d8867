/- told. -/
import Derived.Test.YtlekfbcmjcgabaaRows
import Derived.Test.YtlekfbcmjcgabaaWl
import Derived.Test.YtlekfbcmjcgabaaWq
import Derived.Test.YtlekfbcmjcgabaaPlain
import Derived.BigQuiet
import Derived.WalkSpells
import Derived.WalkLawsBesides
import Derived.Test.YtlekfbcmjcgabaaI
namespace Go.Proofs.Ytlekfbcmjcgabaa
set_option linter.unusedVariables false
set_option linter.unusedSimpArgs false
open Go Go.Sp Go.RowKit Go.BigFrame

/-- A step's cells. -/
def stepC (kd : Int) (F : Nat → UInt8) (at1 wd vv : Int) (d : Value) : Nat → Value := fun j =>
  if j = 0 then .int .i64 kd else if j = 129 then .int .i64 at1 else if j = 130 then .int .i64 wd else if j = 131 then .int .i64 vv else if j = 132 then d else u8v F (j - 1)
theorem step_rd {w : World} {b : Nat} {kd : Int} {F : Nat → UInt8} {at1 wd vv : Int} {d : Value} (h : w.heap[b]? = some (.cells (rowOf 133 (stepC kd F at1 wd vv d)) 59 (0, 0))) : Rd w b 1 128 (u8v F) := fun j hj => by
  rw [cell_of_row w b (1 + j) _ 59 (0, 0) h, rowOf_get (by omega)]
  simp only [stepC]
  rw [if_neg (by omega), if_neg (by omega), if_neg (by omega), if_neg (by omega), if_neg (by omega), show 1 + j - 1 = j by omega]
theorem lent_rd {w : World} {b n : Nat} {G : Nat → UInt8} (h : w.heap[b]? = some (.cells (rowOf (n + 8) (u8v (lentF G n))) 5 (0, 0))) : Rd w b 0 n (u8v G) := fun j hj => by
  rw [Nat.zero_add, cell_of_row w b j _ 5 (0, 0) h, rowOf_get (by omega)]
  simp only [u8v, lentF]
  rw [if_pos hj]

theorem Tr.fresh {w0 w : World} {L : List Res} (hs : Tr w0 [] w L) (i : Nat) {b : Nat} {cs : Array Value} {t : TypeId} (hi : L[i]? = some (Res.blk b cs t)) : w0.heap.size ≤ b := by
  have := hs.mine b (by simp only [feet, List.mem_flatMap]; exact ⟨_, List.mem_of_getElem? hi, by simp [Res.blk]⟩)
  simpa using this
set_option maxRecDepth 100000 in
set_option maxHeartbeats 4000000 in
theorem told_any (kd at1 wd vv : Int) (F G : Nat → UInt8) (ao : Option Addr) (n cap db doff : Nat) (w : World) (hk : -9223372036854775808 ≤ kd ∧ kd ≤ 9223372036854775807) (hat : -9223372036854775808 ≤ at1 ∧ at1 ≤ 9223372036854775807)
    (hwd : -9223372036854775808 ≤ wd ∧ wd ≤ 9223372036854775807) (hvv : -9223372036854775808 ≤ vv ∧ vv ≤ 9223372036854775807) (hn : n ≤ 140737488351232) (hao : 0 < n → ao = some ⟨db, doff, none⟩) (hrd : Rd w db doff n (u8v G)) :
    Calls Try.prog 30 #[.agg (rowOf 133 (stepC kd F at1 wd vv (.slice ao n cap)))] w fun e w' => e = .returned (.bool true) ∧ Tr w [] w' [] := by
  obtain ⟨q, hq, hq5⟩ : ∃ q : Nat, pick kd 5 = (q : Int) ∧ q < 5 := ⟨(pick kd 5).toNat, by have := pick_bd kd 5 (by omega); omega, by have := pick_bd kd 5 (by omega); omega⟩
  have HP := Lib.hid (fun w => pick_any kd 5 w (by omega) (by omega) hk.1 hk.2)
  rw [hq] at HP
  clear hq
  have HA := Lib.hid hao
  have HR := Lib.hid hrd
  have hdb : 0 < n → db < w.heap.size := fun h => World.block_lt_of_cell? w ⟨db, doff + 0, none⟩ (hrd 0 h)
  have HB := Lib.hid hdb
  clear hao hrd hdb
  have hs := Tr.refl w []
  rcases (by omega : q = 0 ∨ q = 1 ∨ q = 2 ∨ q = 3 ∨ q = 4) with rfl | rfl | rfl | rfl | rfl
  · obtain ⟨x, y, h1, h2⟩ := get_same F at1 wd hat hwd
    have H1 := Lib.hid h1
    have H2 := Lib.hid h2
    clear h1 h2
    go_enter Try.func30, Try.ntmps30
    go_wp2_with (first
      | ((with_reducible refine at_box (t := 59) rfl ?_); refine wl_boxA hs rfl rfl rfl ?_; clear hs; intro w1 sb hs)
      | ((with_reducible refine (at_load (t := 30)) rfl ?_); refine wl_loadMB rfl rfl Try.underlying30 size30 rfl (F := F) (step_rd (hs.getB 0 rfl)) ?_)
      | ((with_reducible refine (at_load (t := 3)) rfl ?_); refine wl_load1 (v := .int .i64 kd) hs rfl rfl Try.underlying3 rfl rfl 0 rfl (rowOf_get (f := stepC kd F at1 wd vv (.slice ao n cap)) (i := 0) (by omega)) ?_)
      | ((with_reducible refine (at_load (t := 3)) rfl ?_); refine wl_load1 (v := .int .i64 at1) hs rfl rfl Try.underlying3 rfl rfl 0 rfl (rowOf_get (f := stepC kd F at1 wd vv (.slice ao n cap)) (i := 129) (by omega)) ?_)
      | ((with_reducible refine (at_load (t := 3)) rfl ?_); refine wl_load1 (v := .int .i64 wd) hs rfl rfl Try.underlying3 rfl rfl 0 rfl (rowOf_get (f := stepC kd F at1 wd vv (.slice ao n cap)) (i := 130) (by omega)) ?_)
      | (go_at_call 26; refine (HP.out _).mono ?_; rintro e w2 ⟨rfl, rfl⟩)
      | (go_at_call 25; refine (H1.out _).mono ?_; rintro e w2 ⟨rfl, hc⟩; replace hs := hs.call0 hc; clear hc)
      | (go_at_call 32; refine (H2.out _).mono ?_; rintro e w2 ⟨rfl, hc⟩; replace hs := hs.call0 hc; clear hc))
    go_ret
    exact ⟨rfl, hs.letgo⟩
  · obtain ⟨X, y, h1, h2⟩ := set_same F at1 wd vv hat hwd hvv
    have H1 := Lib.hid h1
    have H2 := Lib.hid h2
    clear h1 h2
    go_enter Try.func30, Try.ntmps30
    go_upto_region 8 with (first
      | ((with_reducible refine at_box (t := 59) rfl ?_); refine wl_boxA hs rfl rfl rfl ?_; clear hs; intro w1 sb hs)
      | ((with_reducible refine (at_load (t := 30)) rfl ?_); refine wl_loadMB rfl rfl Try.underlying30 size30 rfl (F := F) (step_rd (hs.getB 0 rfl)) ?_)
      | ((with_reducible refine (at_load (t := 3)) rfl ?_); refine wl_load1 (v := .int .i64 kd) hs rfl rfl Try.underlying3 rfl rfl 0 rfl (rowOf_get (f := stepC kd F at1 wd vv (.slice ao n cap)) (i := 0) (by omega)) ?_)
      | ((with_reducible refine (at_load (t := 3)) rfl ?_); refine wl_load1 (v := .int .i64 at1) hs rfl rfl Try.underlying3 rfl rfl 0 rfl (rowOf_get (f := stepC kd F at1 wd vv (.slice ao n cap)) (i := 129) (by omega)) ?_)
      | ((with_reducible refine (at_load (t := 3)) rfl ?_); refine wl_load1 (v := .int .i64 wd) hs rfl rfl Try.underlying3 rfl rfl 0 rfl (rowOf_get (f := stepC kd F at1 wd vv (.slice ao n cap)) (i := 130) (by omega)) ?_)
      | ((with_reducible refine (at_load (t := 3)) rfl ?_); refine wl_load1 (v := .int .i64 vv) hs rfl rfl Try.underlying3 rfl rfl 0 rfl (rowOf_get (f := stepC kd F at1 wd vv (.slice ao n cap)) (i := 131) (by omega)) ?_)
      | ((with_reducible refine at_alloc rfl ?_); refine wl_allocA hs rfl rfl zero30 ?_; clear hs; intro w1 b7 hs)
      | ((with_reducible refine at_store rfl ?_); refine wl_storeA hs rfl rfl rfl rfl (size30r _) (one30 _) 0 rfl (by simp only [rowOf_size]) ?_; clear hs; intro w1 hs)
      | (go_at_call 26; refine (HP.out _).mono ?_; rintro e w2 ⟨rfl, rfl⟩)
      | (go_at_call 24; refine (H1.out _).mono ?_; rintro e w2 ⟨rfl, hc⟩; replace hs := hs.call0 hc; clear hc))
    go_upto_region 9 with (first
      | ((with_reducible refine (at_load (t := 30)) rfl ?_); refine wl_loadMB rfl rfl Try.underlying30 size30 rfl (F := F) (step_rd (hs.getB 1 rfl)) ?_)
      | ((with_reducible refine (at_load (t := 3)) rfl ?_); refine wl_load1 (v := .int .i64 at1) hs rfl rfl Try.underlying3 rfl rfl 1 rfl (rowOf_get (f := stepC kd F at1 wd vv (.slice ao n cap)) (i := 129) (by omega)) ?_)
      | ((with_reducible refine (at_load (t := 3)) rfl ?_); refine wl_load1 (v := .int .i64 wd) hs rfl rfl Try.underlying3 rfl rfl 1 rfl (rowOf_get (f := stepC kd F at1 wd vv (.slice ao n cap)) (i := 130) (by omega)) ?_)
      | ((with_reducible refine (at_load (t := 3)) rfl ?_); refine wl_load1 (v := .int .i64 vv) hs rfl rfl Try.underlying3 rfl rfl 1 rfl (rowOf_get (f := stepC kd F at1 wd vv (.slice ao n cap)) (i := 131) (by omega)) ?_)
      | ((with_reducible refine at_alloc rfl ?_); refine wl_allocA hs rfl rfl zero30 ?_; clear hs; intro w1 b9 hs)
      | ((with_reducible refine at_store rfl ?_); refine wl_storeA hs rfl rfl rfl rfl (size30r _) (one30 _) 0 rfl (by simp only [rowOf_size]) ?_; clear hs; intro w1 hs)
      | (go_at_call 33; refine (H2.out _).mono ?_; rintro e w2 ⟨rfl, hc⟩; replace hs := hs.call0 hc; clear hc))
    go_wp2_with (first | ((with_reducible refine at_load rfl ?_); refine wl_loadB hs rfl rfl Try.underlying30 rfl 0 rfl size30 ?_) | ((with_reducible refine at_load rfl ?_); refine wl_loadB hs rfl rfl Try.underlying30 rfl 1 rfl size30 ?_) | ((with_reducible refine (at_bin .eql (t := 30)) rfl ?_); refine wl_eqlBR rfl rfl Try.underlying30 Try.underlying5 size5 eqg30 rfl rfl true (eqB_refl 128 _) ?_))
    go_ret
    exact ⟨rfl, hs.letgo⟩
  · obtain ⟨X, y, h1, h2⟩ := splice_same F G at1 n hat (by omega)
    have HS1 := Lib.hid h1
    have HS2 := Lib.hid h2
    clear h1 h2
    go_enter Try.func30, Try.ntmps30
    go_upto_region 12 with (first
      | ((with_reducible refine at_box (t := 59) rfl ?_); refine wl_boxA hs rfl rfl rfl ?_; clear hs; intro w1 sb hs)
      | ((with_reducible refine (at_load (t := 3)) rfl ?_); refine wl_load1 (v := .int .i64 kd) hs rfl rfl Try.underlying3 rfl rfl 0 rfl (rowOf_get (f := stepC kd F at1 wd vv (.slice ao n cap)) (i := 0) (by omega)) ?_)
      | ((with_reducible refine (at_load (t := 23)) rfl ?_); refine wl_load1 (v := .slice ao n cap) hs rfl rfl Try.underlying23 rfl rfl 0 rfl (rowOf_get (f := stepC kd F at1 wd vv (.slice ao n cap)) (i := 132) (by omega)) ?_)
      | (go_at_call 26; refine (HP.out _).mono ?_; rintro e w2 ⟨rfl, rfl⟩)
      | (go_at_call 13; refine (lend_any ao n cap db doff G _ hn HA.out (HR.out.keep hs)).mono ?_; rintro e w2 ⟨lb, rfl, hc⟩; replace hs := hs.call1 hc; clear hc))
    have hlb : w.heap.size ≤ lb := Tr.fresh hs 0 rfl
    have HLB := Lib.hid hlb
    clear hlb
    refine wt_enter 16 rfl hs (by kernel_rfl) ?_
    clear hs; intro w1 hs; have hC := hs
    refine wt_take 0 rfl (by kernel_rfl) (by kernel_rfl) (by kernel_rfl) (fun _ _ _ _ h => h) rfl hC ⟨_, fun w hw => by (go_simp; try with_reducible rfl), fun a1 ha => ?_⟩
    simp only [Act.put, List.setIfInBounds_toArray, List.set_cons_succ, List.set_cons_zero] at ha; subst ha
    refine wt_take 1 rfl (by kernel_rfl) (by kernel_rfl) (by kernel_rfl) (fun _ _ _ _ h => h) rfl hC ⟨_, fun w hw => ex_loadMB rfl Try.underlying30 size30 rfl (step_rd (hw.getB 1 rfl)), fun a1 ha => ?_⟩
    simp only [Act.put, List.setIfInBounds_toArray, List.set_cons_succ, List.set_cons_zero] at ha; subst ha
    refine wt_take 2 rfl (by kernel_rfl) (by kernel_rfl) (by kernel_rfl) (fun _ _ _ _ h => h) rfl hC ⟨_, fun w hw => by (go_simp; try with_reducible rfl), fun a1 ha => ?_⟩
    simp only [Act.put, List.setIfInBounds_toArray, List.set_cons_succ, List.set_cons_zero] at ha; subst ha
    refine wt_take 3 rfl (by kernel_rfl) (by kernel_rfl) (by kernel_rfl) (fun _ _ _ _ h => h) rfl hC ⟨.int .i64 at1, fun w hw => ex_load1 rfl Try.underlying3 rfl rfl (by rw [cell_of_row w _ _ _ _ (0, 0) (hw.getB 1 rfl)]; exact rowOf_get (f := stepC kd F at1 wd vv (.slice ao n cap)) (i := 129) (by omega)), fun a1 ha => ?_⟩
    simp only [Act.put, List.setIfInBounds_toArray, List.set_cons_succ, List.set_cons_zero] at ha; subst ha
    refine wt_take 4 rfl (by kernel_rfl) (by kernel_rfl) (by kernel_rfl) (fun _ _ _ _ h => h) rfl hC ⟨_, fun w hw => by (go_simp; try with_reducible rfl), fun a1 ha => ?_⟩
    simp only [Act.put, List.setIfInBounds_toArray, List.set_cons_succ, List.set_cons_zero] at ha; subst ha
    refine wt_take 5 rfl (by kernel_rfl) (by kernel_rfl) (by kernel_rfl) (fun _ _ _ _ h => h) rfl hC ⟨_, fun w hw => by (go_simp; try with_reducible rfl), fun a1 ha => ?_⟩
    simp only [Act.put, List.setIfInBounds_toArray, List.set_cons_succ, List.set_cons_zero] at ha; subst ha
    refine wt_take 6 rfl (by kernel_rfl) (by kernel_rfl) (by kernel_rfl) (fun _ _ _ _ h => h) rfl hC ⟨.slice ao n cap, fun w hw => ex_load1 rfl Try.underlying23 rfl rfl (by rw [cell_of_row w _ _ _ _ (0, 0) (hw.getB 1 rfl)]; exact rowOf_get (f := stepC kd F at1 wd vv (.slice ao n cap)) (i := 132) (by omega)), fun a1 ha => ?_⟩
    simp only [Act.put, List.setIfInBounds_toArray, List.set_cons_succ, List.set_cons_zero] at ha; subst ha
    refine wt_take 7 rfl (by kernel_rfl) (by kernel_rfl) (by kernel_rfl) (fun _ _ _ _ h => h) rfl hC ⟨_, fun w hw => by (go_simp; try with_reducible rfl), fun a1 ha => ?_⟩
    simp only [Act.put, List.setIfInBounds_toArray, List.set_cons_succ, List.set_cons_zero] at ha; subst ha
    refine wt_takeSlice 8 rfl (by kernel_rfl) (by kernel_rfl) (by kernel_rfl) (fun _ _ _ _ h => h) rfl hC rfl Try.underlying23 size5 rfl (0) (n) (Or.inl ⟨rfl, rfl⟩) (Or.inr ⟨_, _, rfl, rfl⟩) (by omega) (by omega) (fun h => rfl) ?_
    intro ao3 hao3 a1 ha; replace hao3 := Lib.hid hao3
    simp only [Act.put, List.setIfInBounds_toArray, List.set_cons_succ, List.set_cons_zero] at ha; subst ha
    refine wt_all [9, 13] (by kernel_rfl) (by simp) ?_
    refine wt_cons ?_ ?_
    ·
      refine wt_call0 hs rfl rfl (by go_simp) (HS1.out ao3 (n + 8) lb 0 _ hao3.out (by first | exact lent_rd (hs.getB 0 rfl) | exact lent_rd (hs.getB 1 rfl))) (by simp only [Act.put, List.setIfInBounds_toArray, List.set_cons_succ, List.set_cons_zero]; rfl) ?_
      clear hs; intro w1 hs
      refine wt_and (hs.sub (by repeat (first | exact List.Sublist.refl _ | refine List.Sublist.cons_cons _ ?_ | refine List.Sublist.cons _ ?_))) fun hC => ?_
      refine wt_take 10 rfl (by kernel_rfl) (by kernel_rfl) (by kernel_rfl) (fun _ _ _ _ h => h) rfl hC ⟨_, fun w hw => by (go_simp; try with_reducible rfl), fun a1 ha => ?_⟩
      simp only [Act.put, List.setIfInBounds_toArray, List.set_cons_succ, List.set_cons_zero] at ha; subst ha
      refine wt_take 11 rfl (by kernel_rfl) (by kernel_rfl) (by kernel_rfl) (fun _ _ _ _ h => h) rfl hC ⟨_, fun w hw => by (go_simp; try with_reducible rfl), fun a1 ha => ?_⟩
      simp only [Act.put, List.setIfInBounds_toArray, List.set_cons_succ, List.set_cons_zero] at ha; subst ha
      refine wt_take 12 rfl (by kernel_rfl) (by kernel_rfl) (by kernel_rfl) (fun _ _ _ _ h => h) rfl hC ⟨_, fun w hw => by (go_simp; try with_reducible rfl), fun a1 ha => ?_⟩
      simp only [Act.put, List.setIfInBounds_toArray, List.set_cons_succ, List.set_cons_zero] at ha; subst ha
      refine wt_one 13 (by kernel_rfl) ?_
      refine wt_allocA hs rfl rfl rfl zero30 (fun _ => by simp only [Act.put, List.setIfInBounds_toArray, List.set_cons_succ, List.set_cons_zero]; rfl) ?_
      clear hs; intro w1 b12 hs
      refine wt_and (hs.sub (by repeat (first | exact List.Sublist.refl _ | refine List.Sublist.cons_cons _ ?_ | refine List.Sublist.cons _ ?_))) fun hC => ?_
      refine wt_one 14 (by kernel_rfl) ?_
      refine wt_storeA hs rfl rfl rfl rfl rfl (size30r _) (one30 _) 0 rfl (by simp only [rowOf_size]) (by simp only [Act.put, List.setIfInBounds_toArray, List.set_cons_succ, List.set_cons_zero]; rfl) ?_
      clear hs; intro w1 hs
      refine wt_and (hs.sub (by repeat (first | exact List.Sublist.refl _ | refine List.Sublist.cons_cons _ ?_ | refine List.Sublist.cons _ ?_))) fun hC => ?_
      refine wt_take 15 rfl (by kernel_rfl) (by kernel_rfl) (by kernel_rfl) (fun _ _ _ _ h => h) rfl hC ⟨_, fun w hw => by (go_simp; try with_reducible rfl), fun a1 ha => ?_⟩
      simp only [Act.put, List.setIfInBounds_toArray, List.set_cons_succ, List.set_cons_zero] at ha; subst ha
      refine wt_done (by kernel_rfl) ?_
      go_upto_region 14 with (first | ((with_reducible refine (at_load (t := 30)) rfl ?_); refine wl_loadMB rfl rfl Try.underlying30 size30 rfl (F := F) (step_rd (hs.getB 2 rfl)) ?_) | ((with_reducible refine (at_load (t := 3)) rfl ?_); refine wl_load1 (v := .int .i64 at1) hs rfl rfl Try.underlying3 rfl rfl 2 rfl (rowOf_get (f := stepC kd F at1 wd vv (.slice ao n cap)) (i := 129) (by omega)) ?_) | ((with_reducible refine (at_load (t := 23)) rfl ?_); refine wl_load1 (v := .slice ao n cap) hs rfl rfl Try.underlying23 rfl rfl 2 rfl (rowOf_get (f := stepC kd F at1 wd vv (.slice ao n cap)) (i := 132) (by omega)) ?_) | (go_at_call 34; refine (HS2.out _ _ _ _ _ HA.out (HR.out.keep hs)).mono ?_; rintro e w2 ⟨rfl, hc⟩; replace hs := hs.call0 hc; clear hc) | ((with_reducible refine at_alloc rfl ?_); refine wl_allocA hs rfl rfl zero30 ?_; clear hs; intro w1 b14 hs) | ((with_reducible refine at_store rfl ?_); refine wl_storeA hs rfl rfl rfl rfl (size30r _) (one30 _) 0 rfl (by simp only [rowOf_size]) ?_; clear hs; intro w1 hs))
      go_wp2_with (first | ((with_reducible refine at_load rfl ?_); refine wl_loadB hs rfl rfl Try.underlying30 rfl 0 rfl size30 ?_) | ((with_reducible refine at_load rfl ?_); refine wl_loadB hs rfl rfl Try.underlying30 rfl 1 rfl size30 ?_) | ((with_reducible refine (at_load (t := 23)) rfl ?_); refine wl_load1 (v := .slice ao n cap) hs rfl rfl Try.underlying23 rfl rfl 3 rfl (rowOf_get (f := stepC kd F at1 wd vv (.slice ao n cap)) (i := 132) (by omega)) ?_) | ((with_reducible refine (at_bin .eql (t := 30)) rfl ?_); refine wl_eqlBR rfl rfl Try.underlying30 Try.underlying5 size5 eqg30 rfl rfl true (eqB_refl 128 _) ?_) | (go_at_call 15; refine (unchanged_any lb ao n cap db doff G _ hn HA.out (HR.out.keep hs) (fun h0 => by have := HB.out h0; have := HLB.out; omega) (hs.getB 2 rfl)).mono ?_; rintro e w2 ⟨rfl, f, hc⟩; replace hs := hs.updB 2 rfl hc; clear hc))
      go_ret
      exact ⟨rfl, hs.letgo⟩
    refine wt_cons ?_ ?_
    ·
      refine wt_allocA hs rfl rfl rfl zero30 (fun _ => by simp only [Act.put, List.setIfInBounds_toArray, List.set_cons_succ, List.set_cons_zero]; rfl) ?_
      clear hs; intro w1 b12 hs
      refine wt_and (hs.sub (by repeat (first | exact List.Sublist.refl _ | refine List.Sublist.cons_cons _ ?_ | refine List.Sublist.cons _ ?_))) fun hC => ?_
      refine wt_one 9 (by kernel_rfl) ?_
      refine wt_call0 hs rfl rfl (by go_simp) (HS1.out ao3 (n + 8) lb 0 _ hao3.out (by first | exact lent_rd (hs.getB 0 rfl) | exact lent_rd (hs.getB 1 rfl))) (by simp only [Act.put, List.setIfInBounds_toArray, List.set_cons_succ, List.set_cons_zero]; rfl) ?_
      clear hs; intro w1 hs
      refine wt_and (hs.sub (by repeat (first | exact List.Sublist.refl _ | refine List.Sublist.cons_cons _ ?_ | refine List.Sublist.cons _ ?_))) fun hC => ?_
      refine wt_take 10 rfl (by kernel_rfl) (by kernel_rfl) (by kernel_rfl) (fun _ _ _ _ h => h) rfl hC ⟨_, fun w hw => by (go_simp; try with_reducible rfl), fun a1 ha => ?_⟩
      simp only [Act.put, List.setIfInBounds_toArray, List.set_cons_succ, List.set_cons_zero] at ha; subst ha
      refine wt_take 11 rfl (by kernel_rfl) (by kernel_rfl) (by kernel_rfl) (fun _ _ _ _ h => h) rfl hC ⟨_, fun w hw => by (go_simp; try with_reducible rfl), fun a1 ha => ?_⟩
      simp only [Act.put, List.setIfInBounds_toArray, List.set_cons_succ, List.set_cons_zero] at ha; subst ha
      refine wt_take 12 rfl (by kernel_rfl) (by kernel_rfl) (by kernel_rfl) (fun _ _ _ _ h => h) rfl hC ⟨_, fun w hw => by (go_simp; try with_reducible rfl), fun a1 ha => ?_⟩
      simp only [Act.put, List.setIfInBounds_toArray, List.set_cons_succ, List.set_cons_zero] at ha; subst ha
      refine wt_one 14 (by kernel_rfl) ?_
      refine wt_storeA hs rfl rfl rfl rfl rfl (size30r _) (one30 _) 0 rfl (by simp only [rowOf_size]) (by simp only [Act.put, List.setIfInBounds_toArray, List.set_cons_succ, List.set_cons_zero]; rfl) ?_
      clear hs; intro w1 hs
      refine wt_and (hs.sub (by repeat (first | exact List.Sublist.refl _ | refine List.Sublist.cons_cons _ ?_ | refine List.Sublist.cons _ ?_))) fun hC => ?_
      refine wt_take 15 rfl (by kernel_rfl) (by kernel_rfl) (by kernel_rfl) (fun _ _ _ _ h => h) rfl hC ⟨_, fun w hw => by (go_simp; try with_reducible rfl), fun a1 ha => ?_⟩
      simp only [Act.put, List.setIfInBounds_toArray, List.set_cons_succ, List.set_cons_zero] at ha; subst ha
      refine wt_done (by kernel_rfl) ?_
      go_upto_region 14 with (first | ((with_reducible refine (at_load (t := 30)) rfl ?_); refine wl_loadMB rfl rfl Try.underlying30 size30 rfl (F := F) (step_rd (hs.getB 2 rfl)) ?_) | ((with_reducible refine (at_load (t := 3)) rfl ?_); refine wl_load1 (v := .int .i64 at1) hs rfl rfl Try.underlying3 rfl rfl 2 rfl (rowOf_get (f := stepC kd F at1 wd vv (.slice ao n cap)) (i := 129) (by omega)) ?_) | ((with_reducible refine (at_load (t := 23)) rfl ?_); refine wl_load1 (v := .slice ao n cap) hs rfl rfl Try.underlying23 rfl rfl 2 rfl (rowOf_get (f := stepC kd F at1 wd vv (.slice ao n cap)) (i := 132) (by omega)) ?_) | (go_at_call 34; refine (HS2.out _ _ _ _ _ HA.out (HR.out.keep hs)).mono ?_; rintro e w2 ⟨rfl, hc⟩; replace hs := hs.call0 hc; clear hc) | ((with_reducible refine at_alloc rfl ?_); refine wl_allocA hs rfl rfl zero30 ?_; clear hs; intro w1 b14 hs) | ((with_reducible refine at_store rfl ?_); refine wl_storeA hs rfl rfl rfl rfl (size30r _) (one30 _) 0 rfl (by simp only [rowOf_size]) ?_; clear hs; intro w1 hs))
      go_wp2_with (first | ((with_reducible refine at_load rfl ?_); refine wl_loadB hs rfl rfl Try.underlying30 rfl 0 rfl size30 ?_) | ((with_reducible refine at_load rfl ?_); refine wl_loadB hs rfl rfl Try.underlying30 rfl 1 rfl size30 ?_) | ((with_reducible refine (at_load (t := 23)) rfl ?_); refine wl_load1 (v := .slice ao n cap) hs rfl rfl Try.underlying23 rfl rfl 3 rfl (rowOf_get (f := stepC kd F at1 wd vv (.slice ao n cap)) (i := 132) (by omega)) ?_) | ((with_reducible refine (at_bin .eql (t := 30)) rfl ?_); refine wl_eqlBR rfl rfl Try.underlying30 Try.underlying5 size5 eqg30 rfl rfl true (eqB_refl 128 _) ?_) | (go_at_call 15; refine (unchanged_any lb ao n cap db doff G _ hn HA.out (HR.out.keep hs) (fun h0 => by have := HB.out h0; have := HLB.out; omega) (hs.getB 2 rfl)).mono ?_; rintro e w2 ⟨rfl, f, hc⟩; replace hs := hs.updB 2 rfl hc; clear hc))
      go_ret
      exact ⟨rfl, hs.letgo⟩
    exact wt_nil
  · go_enter Try.func30, Try.ntmps30
    go_upto_region 16 with (first
      | ((with_reducible refine at_box (t := 59) rfl ?_); refine wl_boxA hs rfl rfl rfl ?_; clear hs; intro w1 sb hs)
      | ((with_reducible refine (at_load (t := 3)) rfl ?_); refine wl_load1 (v := .int .i64 kd) hs rfl rfl Try.underlying3 rfl rfl 0 rfl (rowOf_get (f := stepC kd F at1 wd vv (.slice ao n cap)) (i := 0) (by omega)) ?_)
      | (go_at_call 26; refine (HP.out _).mono ?_; rintro e w2 ⟨rfl, rfl⟩))
    refine wt_enter 21 rfl hs (by kernel_rfl) ?_
    clear hs; intro w1 hs; have hC := hs
    refine wt_take 0 rfl (by kernel_rfl) (by kernel_rfl) (by kernel_rfl) (fun _ _ _ _ h => h) rfl hC ⟨_, fun w hw => by (go_simp; try with_reducible rfl), fun a1 ha => ?_⟩
    simp only [Act.put, List.setIfInBounds_toArray, List.set_cons_succ, List.set_cons_zero] at ha; subst ha
    refine wt_take 1 rfl (by kernel_rfl) (by kernel_rfl) (by kernel_rfl) (fun _ _ _ _ h => h) rfl hC ⟨_, fun w hw => ex_loadMB rfl Try.underlying30 size30 rfl (step_rd (hw.getB 0 rfl)), fun a1 ha => ?_⟩
    simp only [Act.put, List.setIfInBounds_toArray, List.set_cons_succ, List.set_cons_zero] at ha; subst ha
    refine wt_take 2 rfl (by kernel_rfl) (by kernel_rfl) (by kernel_rfl) (fun _ _ _ _ h => h) rfl hC ⟨_, fun w hw => by (go_simp; try with_reducible rfl), fun a1 ha => ?_⟩
    simp only [Act.put, List.setIfInBounds_toArray, List.set_cons_succ, List.set_cons_zero] at ha; subst ha
    refine wt_take 3 rfl (by kernel_rfl) (by kernel_rfl) (by kernel_rfl) (fun _ _ _ _ h => h) rfl hC ⟨.int .i64 vv, fun w hw => ex_load1 rfl Try.underlying3 rfl rfl (by rw [cell_of_row w _ _ _ _ (0, 0) (hw.getB 0 rfl)]; exact rowOf_get (f := stepC kd F at1 wd vv (.slice ao n cap)) (i := 131) (by omega)), fun a1 ha => ?_⟩
    simp only [Act.put, List.setIfInBounds_toArray, List.set_cons_succ, List.set_cons_zero] at ha; subst ha
    refine wt_take 5 rfl (by kernel_rfl) (by kernel_rfl) (by kernel_rfl) (fun _ _ _ _ h => h) rfl hC ⟨_, fun w hw => by (go_simp; try with_reducible rfl), fun a1 ha => ?_⟩
    simp only [Act.put, List.setIfInBounds_toArray, List.set_cons_succ, List.set_cons_zero] at ha; subst ha
    refine wt_take 6 rfl (by kernel_rfl) (by kernel_rfl) (by kernel_rfl) (fun _ _ _ _ h => h) rfl hC ⟨_, fun w hw => ex_loadMB rfl Try.underlying30 size30 rfl (step_rd (hw.getB 0 rfl)), fun a1 ha => ?_⟩
    simp only [Act.put, List.setIfInBounds_toArray, List.set_cons_succ, List.set_cons_zero] at ha; subst ha
    refine wt_take 7 rfl (by kernel_rfl) (by kernel_rfl) (by kernel_rfl) (fun _ _ _ _ h => h) rfl hC ⟨_, fun w hw => by (go_simp; try with_reducible rfl), fun a1 ha => ?_⟩
    simp only [Act.put, List.setIfInBounds_toArray, List.set_cons_succ, List.set_cons_zero] at ha; subst ha
    refine wt_take 8 rfl (by kernel_rfl) (by kernel_rfl) (by kernel_rfl) (fun _ _ _ _ h => h) rfl hC ⟨.int .i64 vv, fun w hw => ex_load1 rfl Try.underlying3 rfl rfl (by rw [cell_of_row w _ _ _ _ (0, 0) (hw.getB 0 rfl)]; exact rowOf_get (f := stepC kd F at1 wd vv (.slice ao n cap)) (i := 131) (by omega)), fun a1 ha => ?_⟩
    simp only [Act.put, List.setIfInBounds_toArray, List.set_cons_succ, List.set_cons_zero] at ha; subst ha
    refine wt_one 4 (by kernel_rfl) ?_
    refine wt_call0 hs rfl rfl (by go_simp) (wipe_any F vv _) (by simp only [Act.put, List.setIfInBounds_toArray, List.set_cons_succ, List.set_cons_zero]; rfl) ?_
    clear hs; intro w1 hs
    refine wt_and (hs.sub (by repeat (first | exact List.Sublist.refl _ | refine List.Sublist.cons_cons _ ?_ | refine List.Sublist.cons _ ?_))) fun hC => ?_
    refine wt_one 9 (by kernel_rfl) ?_
    refine wt_call0 hs rfl rfl (by go_simp) (rwipe_any F vv _) (by simp only [Act.put, List.setIfInBounds_toArray, List.set_cons_succ, List.set_cons_zero]; rfl) ?_
    clear hs; intro w1 hs
    refine wt_and (hs.sub (by repeat (first | exact List.Sublist.refl _ | refine List.Sublist.cons_cons _ ?_ | refine List.Sublist.cons _ ?_))) fun hC => ?_
    refine wt_take 10 rfl (by kernel_rfl) (by kernel_rfl) (by kernel_rfl) (fun _ _ _ _ h => h) rfl hC ⟨.bool true, fun w hw => ex_eqlBR rfl Try.underlying30 Try.underlying5 size5 eqg30 rfl rfl (eqB_refl 128 _), fun a1 ha => ?_⟩
    simp only [Act.put, List.setIfInBounds_toArray, List.set_cons_succ, List.set_cons_zero] at ha; subst ha
    refine wt_take 11 rfl (by kernel_rfl) (by kernel_rfl) (by kernel_rfl) (fun _ _ _ _ h => h) rfl hC ⟨_, fun w hw => by (go_simp; try with_reducible rfl), fun a1 ha => ?_⟩
    simp only [Act.put, List.setIfInBounds_toArray, List.set_cons_succ, List.set_cons_zero] at ha; subst ha
    refine wt_take 12 rfl (by kernel_rfl) (by kernel_rfl) (by kernel_rfl) (fun _ _ _ _ h => h) rfl hC ⟨_, fun w hw => by (go_simp; try with_reducible rfl), fun a1 ha => ?_⟩
    simp only [Act.put, List.setIfInBounds_toArray, List.set_cons_succ, List.set_cons_zero] at ha; subst ha
    refine wt_take 13 rfl (by kernel_rfl) (by kernel_rfl) (by kernel_rfl) (fun _ _ _ _ h => h) rfl hC ⟨_, fun w hw => ex_loadMB rfl Try.underlying30 size30 rfl (step_rd (hw.getB 0 rfl)), fun a1 ha => ?_⟩
    simp only [Act.put, List.setIfInBounds_toArray, List.set_cons_succ, List.set_cons_zero] at ha; subst ha
    refine wt_take 15 rfl (by kernel_rfl) (by kernel_rfl) (by kernel_rfl) (fun _ _ _ _ h => h) rfl hC ⟨_, fun w hw => by (go_simp; try with_reducible rfl), fun a1 ha => ?_⟩
    simp only [Act.put, List.setIfInBounds_toArray, List.set_cons_succ, List.set_cons_zero] at ha; subst ha
    refine wt_take 16 rfl (by kernel_rfl) (by kernel_rfl) (by kernel_rfl) (fun _ _ _ _ h => h) rfl hC ⟨_, fun w hw => ex_loadMB rfl Try.underlying30 size30 rfl (step_rd (hw.getB 0 rfl)), fun a1 ha => ?_⟩
    simp only [Act.put, List.setIfInBounds_toArray, List.set_cons_succ, List.set_cons_zero] at ha; subst ha
    refine wt_one 14 (by kernel_rfl) ?_
    refine wt_call0 hs rfl rfl (by go_simp) (zero_any F _) (by simp only [Act.put, List.setIfInBounds_toArray, List.set_cons_succ, List.set_cons_zero]; rfl) ?_
    clear hs; intro w1 hs
    refine wt_and (hs.sub (by repeat (first | exact List.Sublist.refl _ | refine List.Sublist.cons_cons _ ?_ | refine List.Sublist.cons _ ?_))) fun hC => ?_
    refine wt_one 17 (by kernel_rfl) ?_
    refine wt_call0 hs rfl rfl (by go_simp) (rzero_any F _) (by simp only [Act.put, List.setIfInBounds_toArray, List.set_cons_succ, List.set_cons_zero]; rfl) ?_
    clear hs; intro w1 hs
    refine wt_and (hs.sub (by repeat (first | exact List.Sublist.refl _ | refine List.Sublist.cons_cons _ ?_ | refine List.Sublist.cons _ ?_))) fun hC => ?_
    refine wt_take 18 rfl (by kernel_rfl) (by kernel_rfl) (by kernel_rfl) (fun _ _ _ _ h => h) rfl hC ⟨_, fun w hw => by (go_simp; try with_reducible rfl), fun a1 ha => ?_⟩
    simp only [Act.put, List.setIfInBounds_toArray, List.set_cons_succ, List.set_cons_zero] at ha; subst ha
    refine wt_take 19 rfl (by kernel_rfl) (by kernel_rfl) (by kernel_rfl) (fun _ _ _ _ h => h) rfl hC ⟨_, fun w hw => by (go_simp; try with_reducible rfl), fun a1 ha => ?_⟩
    simp only [Act.put, List.setIfInBounds_toArray, List.set_cons_succ, List.set_cons_zero] at ha; subst ha
    refine wt_take 20 rfl (by kernel_rfl) (by kernel_rfl) (by kernel_rfl) (fun _ _ _ _ h => h) rfl hC ⟨_, fun w hw => by (go_simp; try with_reducible rfl), fun a1 ha => ?_⟩
    simp only [Act.put, List.setIfInBounds_toArray, List.set_cons_succ, List.set_cons_zero] at ha; subst ha
    refine wt_done (by kernel_rfl) ?_
    skip
    go_wp2
    go_ret
    exact ⟨rfl, hs.letgo⟩
  · go_enter Try.func30, Try.ntmps30
    go_upto_region 18 with (first
      | ((with_reducible refine at_box (t := 59) rfl ?_); refine wl_boxA hs rfl rfl rfl ?_; clear hs; intro w1 sb hs)
      | ((with_reducible refine (at_load (t := 30)) rfl ?_); refine wl_loadMB rfl rfl Try.underlying30 size30 rfl (F := F) (step_rd (hs.getB 0 rfl)) ?_)
      | ((with_reducible refine (at_load (t := 3)) rfl ?_); refine wl_load1 (v := .int .i64 kd) hs rfl rfl Try.underlying3 rfl rfl 0 rfl (rowOf_get (f := stepC kd F at1 wd vv (.slice ao n cap)) (i := 0) (by omega)) ?_)
      | ((with_reducible refine (at_load (t := 3)) rfl ?_); refine wl_load1 (v := .int .i64 at1) hs rfl rfl Try.underlying3 rfl rfl 0 rfl (rowOf_get (f := stepC kd F at1 wd vv (.slice ao n cap)) (i := 129) (by omega)) ?_)
      | ((with_reducible refine at_alloc rfl ?_); refine wl_allocA hs rfl rfl zero30 ?_; clear hs; intro w1 b16 hs)
      | ((with_reducible refine at_store rfl ?_); refine wl_storeA hs rfl rfl rfl rfl (size30r _) (one30 _) 0 rfl (by simp only [rowOf_size]) ?_; clear hs; intro w1 hs)
      | (go_at_call 26; refine (HP.out _).mono ?_; rintro e w2 ⟨rfl, rfl⟩)
      | (go_at_call 27; refine (wipe_any F at1 _).mono ?_; rintro e w2 ⟨rfl, hc⟩; replace hs := hs.call0 hc; clear hc))
    refine wt_enter 15 rfl hs (by kernel_rfl) ?_
    clear hs; intro w1 hs; have hC := hs
    refine wt_take 0 rfl (by kernel_rfl) (by kernel_rfl) (by kernel_rfl) (fun _ _ _ _ h => h) rfl hC ⟨_, fun w hw => ex_loadB rfl Try.underlying30 size30 rfl (hw.getB 0 rfl), fun a1 ha => ?_⟩
    simp only [Act.put, List.setIfInBounds_toArray, List.set_cons_succ, List.set_cons_zero] at ha; subst ha
    refine wt_take 2 rfl (by kernel_rfl) (by kernel_rfl) (by kernel_rfl) (fun _ _ _ _ h => h) rfl hC ⟨_, fun w hw => ex_loadB rfl Try.underlying30 size30 rfl (hw.getB 0 rfl), fun a1 ha => ?_⟩
    simp only [Act.put, List.setIfInBounds_toArray, List.set_cons_succ, List.set_cons_zero] at ha; subst ha
    refine wt_one 1 (by kernel_rfl) ?_
    refine wt_call0 hs rfl rfl (by go_simp) (zero_any (wipeF F at1) _) (by simp only [Act.put, List.setIfInBounds_toArray, List.set_cons_succ, List.set_cons_zero]; rfl) ?_
    clear hs; intro w1 hs
    refine wt_and (hs.sub (by repeat (first | exact List.Sublist.refl _ | refine List.Sublist.cons_cons _ ?_ | refine List.Sublist.cons _ ?_))) fun hC => ?_
    refine wt_one 3 (by kernel_rfl) ?_
    refine wt_call0 hs rfl rfl (by go_simp) (rzero_any (wipeF F at1) _) (by simp only [Act.put, List.setIfInBounds_toArray, List.set_cons_succ, List.set_cons_zero]; rfl) ?_
    clear hs; intro w1 hs
    refine wt_and (hs.sub (by repeat (first | exact List.Sublist.refl _ | refine List.Sublist.cons_cons _ ?_ | refine List.Sublist.cons _ ?_))) fun hC => ?_
    refine wt_take 4 rfl (by kernel_rfl) (by kernel_rfl) (by kernel_rfl) (fun _ _ _ _ h => h) rfl hC ⟨_, fun w hw => by (go_simp; try with_reducible rfl), fun a1 ha => ?_⟩
    simp only [Act.put, List.setIfInBounds_toArray, List.set_cons_succ, List.set_cons_zero] at ha; subst ha
    refine wt_take 5 rfl (by kernel_rfl) (by kernel_rfl) (by kernel_rfl) (fun _ _ _ _ h => h) rfl hC ⟨_, fun w hw => by (go_simp; try with_reducible rfl), fun a1 ha => ?_⟩
    simp only [Act.put, List.setIfInBounds_toArray, List.set_cons_succ, List.set_cons_zero] at ha; subst ha
    refine wt_take 6 rfl (by kernel_rfl) (by kernel_rfl) (by kernel_rfl) (fun _ _ _ _ h => h) rfl hC ⟨_, fun w hw => ex_loadB rfl Try.underlying30 size30 rfl (hw.getB 0 rfl), fun a1 ha => ?_⟩
    simp only [Act.put, List.setIfInBounds_toArray, List.set_cons_succ, List.set_cons_zero] at ha; subst ha
    refine wt_take 7 rfl (by kernel_rfl) (by kernel_rfl) (by kernel_rfl) (fun _ _ _ _ h => h) rfl hC ⟨_, fun w hw => by (go_simp; try with_reducible rfl), fun a1 ha => ?_⟩
    simp only [Act.put, List.setIfInBounds_toArray, List.set_cons_succ, List.set_cons_zero] at ha; subst ha
    refine wt_take 8 rfl (by kernel_rfl) (by kernel_rfl) (by kernel_rfl) (fun _ _ _ _ h => h) rfl hC ⟨_, fun w hw => ex_loadMB rfl Try.underlying30 size30 rfl (step_rd (hw.getB 1 rfl)), fun a1 ha => ?_⟩
    simp only [Act.put, List.setIfInBounds_toArray, List.set_cons_succ, List.set_cons_zero] at ha; subst ha
    refine wt_take 9 rfl (by kernel_rfl) (by kernel_rfl) (by kernel_rfl) (fun _ _ _ _ h => h) rfl hC ⟨_, fun w hw => by (go_simp; try with_reducible rfl), fun a1 ha => ?_⟩
    simp only [Act.put, List.setIfInBounds_toArray, List.set_cons_succ, List.set_cons_zero] at ha; subst ha
    refine wt_take 10 rfl (by kernel_rfl) (by kernel_rfl) (by kernel_rfl) (fun _ _ _ _ h => h) rfl hC ⟨.int .i64 at1, fun w hw => ex_load1 rfl Try.underlying3 rfl rfl (by rw [cell_of_row w _ _ _ _ (0, 0) (hw.getB 1 rfl)]; exact rowOf_get (f := stepC kd F at1 wd vv (.slice ao n cap)) (i := 129) (by omega)), fun a1 ha => ?_⟩
    simp only [Act.put, List.setIfInBounds_toArray, List.set_cons_succ, List.set_cons_zero] at ha; subst ha
    refine wt_one 11 (by kernel_rfl) ?_
    refine wt_call0 hs rfl rfl (by go_simp) (rwipe_any F at1 _) (by simp only [Act.put, List.setIfInBounds_toArray, List.set_cons_succ, List.set_cons_zero]; rfl) ?_
    clear hs; intro w1 hs
    refine wt_and (hs.sub (by repeat (first | exact List.Sublist.refl _ | refine List.Sublist.cons_cons _ ?_ | refine List.Sublist.cons _ ?_))) fun hC => ?_
    refine wt_take 12 rfl (by kernel_rfl) (by kernel_rfl) (by kernel_rfl) (fun _ _ _ _ h => h) rfl hC ⟨.bool true, fun w hw => ex_eqlBR rfl Try.underlying30 Try.underlying5 size5 eqg30 rfl rfl (eqB_refl 128 _), fun a1 ha => ?_⟩
    simp only [Act.put, List.setIfInBounds_toArray, List.set_cons_succ, List.set_cons_zero] at ha; subst ha
    refine wt_take 13 rfl (by kernel_rfl) (by kernel_rfl) (by kernel_rfl) (fun _ _ _ _ h => h) rfl hC ⟨_, fun w hw => by (go_simp; try with_reducible rfl), fun a1 ha => ?_⟩
    simp only [Act.put, List.setIfInBounds_toArray, List.set_cons_succ, List.set_cons_zero] at ha; subst ha
    refine wt_take 14 rfl (by kernel_rfl) (by kernel_rfl) (by kernel_rfl) (fun _ _ _ _ h => h) rfl hC ⟨_, fun w hw => by (go_simp; try with_reducible rfl), fun a1 ha => ?_⟩
    simp only [Act.put, List.setIfInBounds_toArray, List.set_cons_succ, List.set_cons_zero] at ha; subst ha
    refine wt_done (by kernel_rfl) ?_
    skip
    go_wp2
    go_ret
    exact ⟨rfl, hs.letgo⟩
end Go.Proofs.Ytlekfbcmjcgabaa
