/- Spaces: Room, Landed. -/
import Derived.Test.YtfedfdcbhggipaaDoorO
namespace Go.Proofs.YtfedfdcbhggipaaDoor
set_option linter.unusedVariables false
set_option linter.unusedSimpArgs false
open Go Go.Sp Go.RowKit Go.BigFrame

theorem zero40 : (Tryd.prog.info? 40).map (·.zero) = some (some (.agg #[.int .i64 0, .int .i64 0, .int .i64 0])) := by kernel_rfl
theorem size40 : (Tryd.prog.info? 40).map (·.size) = some 3 := by kernel_rfl
theorem size3 : (Tryd.prog.info? 3).map (·.size) = some 1 := by kernel_rfl
theorem blk_apart {w0 w : World} {S : List Nat} {L : List Res} {r : Res} (hs : Tr w0 S w L) (i j : Nat) (hij : i ≠ j) {b : Nat} {cs : Array Value} {t : TypeId} (hi : L[i]? = some (Res.blk b cs t)) (hj : L[j]? = some r) : b ∉ r.foot := by
  have h1 := hs.perm (perm_pick L i hi)
  have hn := h1.nodup
  have hm : r ∈ L.eraseIdx i := List.mem_eraseIdx_iff_getElem?.2 ⟨j, fun h => hij h.symm, hj⟩
  intro hb
  simp only [feet, List.flatMap_cons] at hn
  have e1 : (Res.blk b cs t).foot = [b] := by simp [Res.blk]
  rw [e1, List.singleton_append, List.nodup_cons] at hn
  exact hn.1 (List.mem_flatMap.2 ⟨r, hm, hb⟩)

/-- What Room tells. -/
def roomV (n m : Nat) (B : Nat → Nat) (I : Nat → Bool) : Value := .agg #[.int .i64 ((cntP (rB n m B) n : Nat) : Int), .int .i64 ((cntP (fL n m B) n : Nat) : Int), .int .i64 ((cntP (rI I) (m + 1) : Nat) : Int)]
section
variable {p b bs i is q n m : Nat} {B : Nat → Nat} {I : Nat → Bool} {w : World}
theorem room_any (hn : n ≤ 4096) (hm : m ≤ 512) (hB : ∀ j, B j ≤ 2) (h : (spaceR p b bs i is q n m B I).holds w) :
    Calls Tryd.prog 17 #[.pointer (some ⟨p, 0, none⟩)] w fun e w' => e = .returned (roomV n m B I) ∧ Tr w [] w' [] := by
  have hs := Tr.refl w []
  have HP := Lib.hid (sp_p h)
  have HB := Lib.hid (sp_b h)
  have HI := Lib.hid (sp_i h)
  have HQ := Lib.hid (sp_q h)
  have CB := Lib.hid (fun w h => count_any (d := b) (s := bs) (n := n) (f := fB n m B) (w := w) hn fB_far h)
  have CI := Lib.hid (fun w h => count_any (d := i) (s := is) (n := m + 1) (f := fI m I) (w := w) (by omega) fI_far h)
  have e1 := room_blocks (n := n) (m := m) hB n (Nat.le_refl _)
  have e2 := room_inodes (m := m) (I := I) (m + 1) (Nat.le_refl _)
  have hV : roomV n m B I = .agg #[.int .i64 ((cntP (rB n m B) n : Nat) : Int), .int .i64 ((cntP (fL n m B) n : Nat) : Int), .int .i64 ((cntP (rI I) (m + 1) : Nat) : Int)] := rfl
  rw [hV]
  have l1 := cntP_le (fB n m B) n
  have l2 := cntP_le (fL n m B) n
  have HL : Hid (∀ (w' : World) (hs : Tr w [] w' [Res.blk 0 #[] 0]), True) := Lib.hid fun _ _ => trivial
  clear h hV HL
  obtain ⟨cb, hcb⟩ : ∃ x, x = cntP (fB n m B) n := ⟨_, rfl⟩
  obtain ⟨cl, hcl⟩ : ∃ x, x = cntP (fL n m B) n := ⟨_, rfl⟩
  obtain ⟨ci, hci⟩ : ∃ x, x = cntP (fI m I) (m + 1) := ⟨_, rfl⟩
  obtain ⟨rb, hrb⟩ : ∃ x, x = cntP (rB n m B) n := ⟨_, rfl⟩
  obtain ⟨ri, hri⟩ : ∃ x, x = cntP (rI I) (m + 1) := ⟨_, rfl⟩
  rw [← hcb] at CB e1 l1
  rw [← hci] at CI e2
  rw [← hrb] at e1 ⊢
  rw [← hcl] at e1 l2 ⊢
  rw [← hri] at e2 ⊢
  have HCL := Lib.hid hcl
  have E1 := Lib.hid e1
  have E2 := Lib.hid e2
  clear hcb hci hrb hcl hri e1 e2
  go_enter Tryd.func17, Tryd.ntmps17
  go_upto_region 2 with (first
    | ((with_reducible refine at_alloc rfl ?_); refine wl_allocA hs rfl rfl zero40 ?_; clear hs; intro w1 ob hs)
    | ((with_reducible refine (at_load (t := 65)) rfl ?_); refine wl_loadC rfl rfl Tryd.underlying65 rfl rfl (Res.cellAt HP.out hs rfl) ?_)
    | ((with_reducible refine (at_bi .len) rfl ?_); refine wl_lenH (Res.keep HQ.out hs) rfl rfl rfl ?_; rw [← HCL.out]))
  have e1 := E1.out
  have e2 := E2.out
  refine wt_enterS (List.nil_sublist _) 31 rfl hs (by kernel_rfl) ?_
  clear hs; intro w1 hC hs
  refine wt_take 0 rfl (by kernel_rfl) (by kernel_rfl) (by kernel_rfl) (fun _ _ _ _ h => h) rfl hC ⟨_, fun w hw => by (go_simp; try with_reducible rfl), fun a1 ha => ?_⟩
  simp only [Act.put, List.setIfInBounds_toArray, List.set_cons_succ, List.set_cons_zero] at ha; subst ha
  refine wt_take 1 rfl (by kernel_rfl) (by kernel_rfl) (by kernel_rfl) (fun _ _ _ _ h => h) rfl hC ⟨_, fun w hw => by (go_simp; try with_reducible rfl), fun a1 ha => ?_⟩
  simp only [Act.put, List.setIfInBounds_toArray, List.set_cons_succ, List.set_cons_zero] at ha; subst ha
  refine wt_take 2 rfl (by kernel_rfl) (by kernel_rfl) (by kernel_rfl) (fun _ _ _ _ h => h) rfl hC ⟨_, fun w hw => by (go_simp; try with_reducible rfl), fun a1 ha => ?_⟩
  simp only [Act.put, List.setIfInBounds_toArray, List.set_cons_succ, List.set_cons_zero] at ha; subst ha
  refine wt_take 3 rfl (by kernel_rfl) (by kernel_rfl) (by kernel_rfl) (fun _ _ _ _ h => h) rfl hC ⟨_, fun w hw => by (go_simp; try with_reducible rfl), fun a1 ha => ?_⟩
  simp only [Act.put, List.setIfInBounds_toArray, List.set_cons_succ, List.set_cons_zero] at ha; subst ha
  refine wt_take 4 rfl (by kernel_rfl) (by kernel_rfl) (by kernel_rfl) (fun _ _ _ _ h => h) rfl hC ⟨_, fun w hw => ex_load1 rfl Tryd.underlying61 rfl rfl (Res.cellAt HP.out hw rfl), fun a1 ha => ?_⟩
  simp only [Act.put, List.setIfInBounds_toArray, List.set_cons_succ, List.set_cons_zero] at ha; subst ha
  refine wt_take 6 rfl (by kernel_rfl) (by kernel_rfl) (by kernel_rfl) (fun _ _ _ _ h => h) rfl hC ⟨_, fun w hw => by (go_simp; try with_reducible rfl), fun a1 ha => ?_⟩
  simp only [Act.put, List.setIfInBounds_toArray, List.set_cons_succ, List.set_cons_zero] at ha; subst ha
  refine wt_take 7 rfl (by kernel_rfl) (by kernel_rfl) (by kernel_rfl) (fun _ _ _ _ h => h) rfl hC ⟨_, fun w hw => by (go_simp; try with_reducible rfl), fun a1 ha => ?_⟩
  simp only [Act.put, List.setIfInBounds_toArray, List.set_cons_succ, List.set_cons_zero] at ha; subst ha
  refine wt_take 8 rfl (by kernel_rfl) (by kernel_rfl) (by kernel_rfl) (fun _ _ _ _ h => h) rfl hC ⟨_, fun w hw => by (go_simp; try with_reducible rfl), fun a1 ha => ?_⟩
  simp only [Act.put, List.setIfInBounds_toArray, List.set_cons_succ, List.set_cons_zero] at ha; subst ha
  refine wt_take 9 rfl (by kernel_rfl) (by kernel_rfl) (by kernel_rfl) (fun _ _ _ _ h => h) rfl hC ⟨_, fun w hw => by (go_simp; try with_reducible rfl), fun a1 ha => ?_⟩
  simp only [Act.put, List.setIfInBounds_toArray, List.set_cons_succ, List.set_cons_zero] at ha; subst ha
  refine wt_take 10 rfl (by kernel_rfl) (by kernel_rfl) (by kernel_rfl) (fun _ _ _ _ h => h) rfl hC ⟨_, fun w hw => ex_load1 rfl Tryd.underlying61 rfl rfl (Res.cellAt HP.out hw rfl), fun a1 ha => ?_⟩
  simp only [Act.put, List.setIfInBounds_toArray, List.set_cons_succ, List.set_cons_zero] at ha; subst ha
  refine wt_take 13 rfl (by kernel_rfl) (by kernel_rfl) (by kernel_rfl) (fun _ _ _ _ h => h) rfl hC ⟨_, fun w hw => by (go_simp; try with_reducible rfl), fun a1 ha => ?_⟩
  simp only [Act.put, List.setIfInBounds_toArray, List.set_cons_succ, List.set_cons_zero] at ha; subst ha
  refine wt_take 15 rfl (by kernel_rfl) (by kernel_rfl) (by kernel_rfl) (fun _ _ _ _ h => h) rfl hC ⟨_, fun w hw => by (go_simp; try with_reducible rfl), fun a1 ha => ?_⟩
  simp only [Act.put, List.setIfInBounds_toArray, List.set_cons_succ, List.set_cons_zero] at ha; subst ha
  refine wt_take 16 rfl (by kernel_rfl) (by kernel_rfl) (by kernel_rfl) (fun _ _ _ _ h => h) rfl hC ⟨_, fun w hw => by (go_simp; try with_reducible rfl), fun a1 ha => ?_⟩
  simp only [Act.put, List.setIfInBounds_toArray, List.set_cons_succ, List.set_cons_zero] at ha; subst ha
  refine wt_take 17 rfl (by kernel_rfl) (by kernel_rfl) (by kernel_rfl) (fun _ _ _ _ h => h) rfl hC ⟨_, fun w hw => by (go_simp; try with_reducible rfl), fun a1 ha => ?_⟩
  simp only [Act.put, List.setIfInBounds_toArray, List.set_cons_succ, List.set_cons_zero] at ha; subst ha
  refine wt_take 18 rfl (by kernel_rfl) (by kernel_rfl) (by kernel_rfl) (fun _ _ _ _ h => h) rfl hC ⟨_, fun w hw => by (go_simp; try with_reducible rfl), fun a1 ha => ?_⟩
  simp only [Act.put, List.setIfInBounds_toArray, List.set_cons_succ, List.set_cons_zero] at ha; subst ha
  refine wt_take 19 rfl (by kernel_rfl) (by kernel_rfl) (by kernel_rfl) (fun _ _ _ _ h => h) rfl hC ⟨_, fun w hw => by (go_simp; try with_reducible rfl), fun a1 ha => ?_⟩
  simp only [Act.put, List.setIfInBounds_toArray, List.set_cons_succ, List.set_cons_zero] at ha; subst ha
  refine wt_take 20 rfl (by kernel_rfl) (by kernel_rfl) (by kernel_rfl) (fun _ _ _ _ h => h) rfl hC ⟨_, fun w hw => ex_load1 rfl Tryd.underlying61 rfl rfl (Res.cellAt HP.out hw rfl), fun a1 ha => ?_⟩
  simp only [Act.put, List.setIfInBounds_toArray, List.set_cons_succ, List.set_cons_zero] at ha; subst ha
  refine wt_take 22 rfl (by kernel_rfl) (by kernel_rfl) (by kernel_rfl) (fun _ _ _ _ h => h) rfl hC ⟨_, fun w hw => by (go_simp; try with_reducible rfl), fun a1 ha => ?_⟩
  simp only [Act.put, List.setIfInBounds_toArray, List.set_cons_succ, List.set_cons_zero] at ha; subst ha
  refine wt_take 23 rfl (by kernel_rfl) (by kernel_rfl) (by kernel_rfl) (fun _ _ _ _ h => h) rfl hC ⟨_, fun w hw => by (go_simp; try with_reducible rfl), fun a1 ha => ?_⟩
  simp only [Act.put, List.setIfInBounds_toArray, List.set_cons_succ, List.set_cons_zero] at ha; subst ha
  refine wt_take 24 rfl (by kernel_rfl) (by kernel_rfl) (by kernel_rfl) (fun _ _ _ _ h => h) rfl hC ⟨_, fun w hw => by (go_simp; try with_reducible rfl), fun a1 ha => ?_⟩
  simp only [Act.put, List.setIfInBounds_toArray, List.set_cons_succ, List.set_cons_zero] at ha; subst ha
  refine wt_take 25 rfl (by kernel_rfl) (by kernel_rfl) (by kernel_rfl) (fun _ _ _ _ h => h) rfl hC ⟨_, fun w hw => by (go_simp; try with_reducible rfl), fun a1 ha => ?_⟩
  simp only [Act.put, List.setIfInBounds_toArray, List.set_cons_succ, List.set_cons_zero] at ha; subst ha
  refine wt_take 26 rfl (by kernel_rfl) (by kernel_rfl) (by kernel_rfl) (fun _ _ _ _ h => h) rfl hC ⟨_, fun w hw => ex_load1 rfl Tryd.underlying61 rfl rfl (Res.cellAt HP.out hw rfl), fun a1 ha => ?_⟩
  simp only [Act.put, List.setIfInBounds_toArray, List.set_cons_succ, List.set_cons_zero] at ha; subst ha
  refine wt_one 5 (by kernel_rfl) ?_
  refine wt_call0 hs rfl rfl (by go_simp) (len_any (Res.keep HB.out hs)) (by simp only [Act.put, List.setIfInBounds_toArray, List.set_cons_succ, List.set_cons_zero]; rfl) ?_
  clear hs; intro w1 hs
  refine wt_and (hs.sub (by repeat (first | exact List.Sublist.refl _ | refine List.Sublist.cons_cons _ ?_ | refine List.Sublist.cons _ ?_))) fun hC => ?_
  refine wt_one 11 (by kernel_rfl) ?_
  refine wt_call0 hs rfl rfl (by go_simp) (CB.out _ (Res.keep HB.out hs)) (by simp only [Act.put, List.setIfInBounds_toArray, List.set_cons_succ, List.set_cons_zero]; rfl) ?_
  clear hs; intro w1 hs
  refine wt_and (hs.sub (by repeat (first | exact List.Sublist.refl _ | refine List.Sublist.cons_cons _ ?_ | refine List.Sublist.cons _ ?_))) fun hC => ?_
  refine wt_take 12 rfl (by kernel_rfl) (by kernel_rfl) (by kernel_rfl) (fun _ _ _ _ h => h) rfl hC ⟨.int .i64 ((n : Int) - (cb : Nat)), fun w hw => by (go_simp; exact (wrap_in (by omega)).trans (by omega)), fun a1 ha => ?_⟩
  simp only [Act.put, List.setIfInBounds_toArray, List.set_cons_succ, List.set_cons_zero] at ha; subst ha
  refine wt_take 14 rfl (by kernel_rfl) (by kernel_rfl) (by kernel_rfl) (fun _ _ _ _ h => h) rfl hC ⟨.int .i64 ((rb : Nat) : Int), fun w hw => by (go_simp; exact (wrap_in (by omega)).trans (by omega)), fun a1 ha => ?_⟩
  simp only [Act.put, List.setIfInBounds_toArray, List.set_cons_succ, List.set_cons_zero] at ha; subst ha
  refine wt_one 21 (by kernel_rfl) ?_
  refine wt_call0 hs rfl rfl (by go_simp) (len_any (Res.keep HI.out hs)) (by simp only [Act.put, List.setIfInBounds_toArray, List.set_cons_succ, List.set_cons_zero]; rfl) ?_
  clear hs; intro w1 hs
  refine wt_and (hs.sub (by repeat (first | exact List.Sublist.refl _ | refine List.Sublist.cons_cons _ ?_ | refine List.Sublist.cons _ ?_))) fun hC => ?_
  refine wt_one 27 (by kernel_rfl) ?_
  refine wt_call0 hs rfl rfl (by go_simp) (CI.out _ (Res.keep HI.out hs)) (by simp only [Act.put, List.setIfInBounds_toArray, List.set_cons_succ, List.set_cons_zero]; rfl) ?_
  clear hs; intro w1 hs
  refine wt_and (hs.sub (by repeat (first | exact List.Sublist.refl _ | refine List.Sublist.cons_cons _ ?_ | refine List.Sublist.cons _ ?_))) fun hC => ?_
  refine wt_take 28 rfl (by kernel_rfl) (by kernel_rfl) (by kernel_rfl) (fun _ _ _ _ h => h) rfl hC ⟨.int .i64 ((ri : Nat) : Int), fun w hw => by (go_simp; exact (wrap_in (by omega)).trans (by omega)), fun a1 ha => ?_⟩
  simp only [Act.put, List.setIfInBounds_toArray, List.set_cons_succ, List.set_cons_zero] at ha; subst ha
  refine wt_take 29 rfl (by kernel_rfl) (by kernel_rfl) (by kernel_rfl) (fun _ _ _ _ h => h) rfl hC ⟨_, fun w hw => by (go_simp; try with_reducible rfl), fun a1 ha => ?_⟩
  simp only [Act.put, List.setIfInBounds_toArray, List.set_cons_succ, List.set_cons_zero] at ha; subst ha
  refine wt_one 30 (by kernel_rfl) ?_
  refine wt_storeA hs rfl rfl rfl rfl rfl size40 (by simp [Value.oneCell']) 0 rfl rfl (by simp only [Act.put, List.setIfInBounds_toArray, List.set_cons_succ, List.set_cons_zero]; rfl) ?_
  clear hs; intro w1 hs
  refine wt_and (hs.sub (by repeat (first | exact List.Sublist.refl _ | refine List.Sublist.cons_cons _ ?_ | refine List.Sublist.cons _ ?_))) fun hC => ?_
  refine wt_done (by kernel_rfl) ?_
  skip
  clear e1 e2
  go_wp2
  exact ret_cell hs rfl rfl Tryd.underlying40 rfl rfl 0 rfl size40 ⟨rfl, hs.letgo⟩
end
/-- One lands. -/
def landS (C : Nat → Nat) (g : Nat) : Nat → Nat := if C g = 2 then setB C g 0 else C
def landB (B : Nat → Nat) (G : Nat → Int) : Nat → (Nat → Nat)
  | 0 => B
  | k + 1 => landS (landB B G k) (G k).toNat
theorem landS_two {C : Nat → Nat} {g : Nat} (h : ∀ j, C j ≤ 2) : ∀ j, landS C g j ≤ 2 := by
  simp only [landS]; split
  · exact setB_two h (by omega)
  · exact h
theorem landB_two {B : Nat → Nat} {G : Nat → Int} (h : ∀ j, B j ≤ 2) : ∀ k j, landB B G k j ≤ 2
  | 0, j => h j
  | k + 1, j => landS_two (landB_two h k) j
section
variable {p b bs i is q n m : Nat} {B : Nat → Nat} {I : Nat → Bool} {w : World}
theorem landed_no (N cap db doff : Nat) (ao : Option Addr) (G : Nat → Int) (hN : N ≤ 9223372036854775807) (hao : 0 < N → ao = some ⟨db, doff, none⟩) (hR : Rd w db doff N fun j => .int .i64 (G j)) (hbad : ∃ j, j < N ∧ inD n m (G j) = false) (h : (spaceR p b bs i is q n m B I).holds w) :
    Calls Tryd.prog 26 #[.pointer (some ⟨p, 0, none⟩), .slice ao N cap] w fun e w' => e = .returned (.int .i64 82) ∧ Tr w [] w' [] := by
  have hs := Tr.refl w []
  have HA := Lib.hid hao
  have HR := Lib.hid hR
  have H0 := Lib.hid h
  have HX := Lib.hid hbad
  have HD := Lib.hid (fun x w h => data_any (p := p) (b := b) (bs := bs) (i := i) (is := is) (q := q) (n := n) (m := m) (B := B) (I := I) (w := w) x h)
  clear hao hR h hbad
  go_enter Tryd.func26, Tryd.ntmps26
  go_wp2
  go_loopw [11] (fun i wr => ∃ k : Nat, k ≤ N ∧ i = .int .i64 k ∧ (∀ j, j < k → inD n m (G j) = true) ∧ Tr w [] wr []) (fun i _ => N - (intOf i).toNat)
  case atStart => exact ⟨0, by omega, rfl, fun j hj => by omega, hs⟩
  case round =>
    clear hs
    obtain ⟨k, hk, rfl, hall, hs⟩ := hrel
    have HALL := Lib.hid hall
    clear hall
    by_cases hlt : k < N
    · have hltI : (k : Int) < N := by omega
      obtain rfl := HA.out (by omega)
      have HK := Lib.hid (fun w h => HD.out (G k) w h)
      obtain ⟨z, hz⟩ : ∃ z, inD n m (G k) = z := ⟨_, rfl⟩
      rw [hz] at HK
      have HZ := Lib.hid hz
      clear hz
      cases z
      · go_wp2_with (first
          | ((with_reducible refine at_load rfl ?_); refine wl_loadC (v := .int .i64 (G k)) rfl rfl Tryd.underlying3 rfl rfl (HR.out.keep hs k hlt) ?_)
          | (go_at_call 43; refine (HK.out _ (Res.keep H0.out hs)).mono ?_; rintro e w2 ⟨rfl, hc⟩; replace hs := hs.call0 hc; clear hc))
        go_ret
        exact ⟨rfl, hs⟩
      · go_wp2_with (first
          | ((with_reducible refine at_load rfl ?_); refine wl_loadC (v := .int .i64 (G k)) rfl rfl Tryd.underlying3 rfl rfl (HR.out.keep hs k hlt) ?_)
          | (go_at_call 43; refine (HK.out _ (Res.keep H0.out hs)).mono ?_; rintro e w2 ⟨rfl, hc⟩; replace hs := hs.call0 hc; clear hc))
        go_roundw
        case rel => exact ⟨k + 1, by omega, by go_num, fun j hj => by
          rcases Nat.lt_or_ge j k with h1 | h1
          · exact HALL.out j h1
          · obtain rfl : j = k := by omega
            exact HZ.out, hs⟩
        case measure => simp [intOf]; omega
    · exfalso
      obtain ⟨j, hj, hf⟩ := HX.out
      rw [HALL.out j (by omega)] at hf
      cases hf
set_option maxHeartbeats 1000000 in
theorem landed_yes (N cap db doff : Nat) (ao : Option Addr) (G : Nat → Int) (hn : n ≤ 4096) (hN : N ≤ 9223372036854775807) (hao : 0 < N → ao = some ⟨db, doff, none⟩) (hR : Rd w db doff N fun j => .int .i64 (G j)) (hne : 0 < N → db ∉ (spaceR p b bs i is q n m B I).foot)
    (hgood : ∀ j, j < N → inD n m (G j) = true) (h : (spaceR p b bs i is q n m B I).holds w) :
    Calls Tryd.prog 26 #[.pointer (some ⟨p, 0, none⟩), .slice ao N cap] w fun e w' => e = .returned (.int .i64 0) ∧ Tr w (spaceR p b bs i is q n m B I).foot w' [spaceR p b bs i is q n m (landB B G N) I] := by
  have hs0 := Tr.refl w []
  have HA := Lib.hid hao
  have HR := Lib.hid hR
  have HNE := Lib.hid hne
  have H0 := Lib.hid h
  have HX := Lib.hid hgood
  have HD := Lib.hid (fun x w h => data_any (p := p) (b := b) (bs := bs) (i := i) (is := is) (q := q) (n := n) (m := m) (B := B) (I := I) (w := w) x h)
  clear hao hR h hgood hne
  go_enter Tryd.func26, Tryd.ntmps26
  go_wp2
  go_loopw [6, 11] (fun _ i wr => ∃ k : Nat, k ≤ N ∧ i = .int .i64 k ∧ Tr w [] wr []) (fun _ i _ => N - (intOf i).toNat)
  case atStart => exact ⟨0, by omega, rfl, hs0⟩
  case round =>
    clear hs0
    obtain ⟨k, hk, rfl, hs⟩ := hrel
    by_cases hlt : k < N
    · have hltI : (k : Int) < N := by omega
      obtain rfl := HA.out (by omega)
      have HK := Lib.hid (fun w h => HD.out (G k) w h)
      rw [HX.out k hlt] at HK
      go_wp2_with (first
        | ((with_reducible refine at_load rfl ?_); refine wl_loadC (v := .int .i64 (G k)) rfl rfl Tryd.underlying3 rfl rfl (HR.out.keep hs k hlt) ?_)
        | (go_at_call 43; refine (HK.out _ (Res.keep H0.out hs)).mono ?_; rintro e w2 ⟨rfl, hc⟩; replace hs := hs.call0 hc; clear hc))
      go_roundw
      case rel => exact ⟨k + 1, by omega, by go_num, hs⟩
      case measure => simp [intOf]; omega
    · obtain rfl : k = N := by omega
      have hs2 : Tr w (spaceR p b bs i is q n m B I).foot wr [Res.blk p #[.int .i64 n, .int .i64 m, .pointer (some ⟨b, 0, none⟩), .map (some q), .pointer (some ⟨i, 0, none⟩)] 71, bitsR b bs n (fB n m B), bitsR i is (m + 1) (fI m I), Res.iset q n (fL n m B)] := (Tr.open4 H0.out).call0 hs
      clear hs
      go_wp2
      go_loopw [8, 22] (fun _ iv wr => ∃ (j : Nat), j ≤ k ∧ iv = .int .i64 j ∧ Tr w (spaceR p b bs i is q n m B I).foot wr [Res.blk p #[.int .i64 n, .int .i64 m, .pointer (some ⟨b, 0, none⟩), .map (some q), .pointer (some ⟨i, 0, none⟩)] 71, bitsR b bs n (fB n m (landB B G j)), bitsR i is (m + 1) (fI m I), Res.iset q n (fL n m (landB B G j))]) (fun _ i _ => k - (intOf i).toNat)
      case atStart => exact ⟨0, by omega, rfl, hs2⟩
      case round =>
        clear hs2
        obtain ⟨j, hj, rfl, hs⟩ := hrel
        have HLS : Hid (landB B G (j + 1) = landS (landB B G j) (G j).toNat) := Lib.hid rfl
        by_cases hlt : j < k
        · have hltI : (j : Int) < k := by omega
          obtain rfl := HA.out (by omega)
          rcases inD_or n m (G j) with ⟨g, hg, hm, hgn⟩ | hbad
          · rw [hg] at HLS
            have HV : Hid (wr.cell? ⟨db, doff + j, none⟩ = some (.int .i64 (g : Int))) := Lib.hid (((HR.out.keepS hs (HNE.out (by omega))) j hlt).trans (by show some (Value.int .i64 (G j)) = _; rw [hg]))
            rw [Int.toNat_natCast] at HLS
            clear hg
            generalize landB B G j = C at *
            by_cases hC : C g = 2
            · have HO := Lib.hid (oneS_one hgn (f := fL n m C) (by rw [fL_in hgn hm, hC]; rfl))
              have HF : Hid (fL n m C g = true) := Lib.hid (by rw [fL_in hgn hm, hC]; rfl)
              have HE1 := Lib.hid (fB_clear (n := n) (m := m) (B := C) hgn hm)
              have HE2 := Lib.hid (fL_clear (n := n) (m := m) (B := C) (k := g))
              have HE : Hid (landS C g = setB C g 0) := Lib.hid (by rw [landS, if_pos hC])
              clear hC
              go_wp2_with (first
                | ((with_reducible refine (at_load (t := 3)) rfl ?_); refine wl_loadC rfl rfl Tryd.underlying3 rfl rfl HV.out ?_)
                | ((with_reducible refine at_load rfl ?_); refine wl_load1 hs rfl rfl Tryd.underlying65 rfl rfl 0 rfl rfl ?_)
                | ((with_reducible refine at_load rfl ?_); refine wl_load1 hs rfl rfl Tryd.underlying61 rfl rfl 0 rfl rfl ?_)
                | ((with_reducible refine at_lookupM rfl ?_); refine wl_lookupM hs rfl rfl rfl rfl (by omega) 3 rfl 1 HO.out ?_)
                | ((with_reducible refine (at_bi .delete) rfl ?_); refine wl_deleteM hs rfl rfl rfl rfl 3 rfl hn hgn HF.out ?_; clear hs; intro w1 hs)
                | (go_at_call 42; refine (clear_yes g hgn hn (hs.get 1 rfl)).mono ?_; rintro e w2 ⟨rfl, hc⟩; replace hs := hs.upd 1 rfl hc; clear hc))
              go_roundw
              case rel => exact ⟨j + 1, by omega, by go_num, by rw [HLS.out, HE.out, ← HE1.out, ← HE2.out]; exact hs⟩
              case measure => simp [intOf]; omega
            · have HO := Lib.hid (oneS_zero hgn (f := fL n m C) (by rw [fL_in hgn hm]; exact decide_eq_false hC))
              have HE : Hid (landS C g = C) := Lib.hid (by rw [landS, if_neg hC])
              clear hC
              go_wp2_with (first
                | ((with_reducible refine (at_load (t := 3)) rfl ?_); refine wl_loadC rfl rfl Tryd.underlying3 rfl rfl HV.out ?_)
                | ((with_reducible refine at_load rfl ?_); refine wl_load1 hs rfl rfl Tryd.underlying65 rfl rfl 0 rfl rfl ?_)
                | ((with_reducible refine at_lookupM rfl ?_); refine wl_lookupM hs rfl rfl rfl rfl (by omega) 3 rfl 0 HO.out ?_))
              go_roundw
              case rel => exact ⟨j + 1, by omega, by go_num, by rw [HLS.out, HE.out]; exact hs⟩
              case measure => simp [intOf]; omega
          · exfalso
            have := HX.out j hlt
            rw [inD_out hbad] at this
            cases this
        · obtain rfl : j = k := by omega
          go_wp2
          go_ret
          exact ⟨rfl, Tr.join4 hs⟩
end
end Go.Proofs.YtfedfdcbhggipaaDoor
