/- Adds. -/
import Derived.Test.YtdlnfdlgnbkppaaAd
namespace Go.Proofs.Ytdlnfdlgnbkppaa
set_option linter.unusedVariables false
set_option linter.unusedSimpArgs false
open Go Go.Sp Go.RowKit

theorem need_zero (s : Src) (X : Nat → Int) (mb : Nat) (w : World) (h : Rdr s mb w) : Calls Try.prog 24 #[.iface 37 (.pointer (some ⟨mb, 0, none⟩)), .agg (rowOf 18 (gI X)), .slice none 0 0] w fun e w' => e = .returned (.tuple #[.int .i64 0, .int .i64 0]) ∧ Tr w [] w' [] := by
  have I : Ints w (.slice none 0 0) none 0 0 0 0 (fun _ => 0) := ⟨rfl, Nat.le_refl _, by unfold maxLen; omega, fun h => absurd h (Nat.lt_irrefl 0), fun j hj => absurd hj (Nat.not_lt_zero j), fun i hi => absurd hi (Nat.not_lt_zero i)⟩
  have h1 := need_ok s X mb w h I (fun k => k) (fun k hk => absurd hk (Nat.not_lt_zero k))
  rw [show needN s X (fun k => k) 0 = 0 from cntP_zero fun j hj => fin_none j hj] at h1
  exact h1
/-- A list of numbers that is owned. -/
theorem own_intsR {w0 w : World} {S : List Nat} {L : List Res} (hs : Tr w0 S w L) (i : Nat) {v : Value} {n : Nat} {G : Nat → Int} (hi : L[i]? = some (Res.own 3 1 v n (rowOf n (gI G)).toList)) (hwf : ∀ k, k < n → -9223372036854775808 ≤ G k ∧ G k ≤ 9223372036854775807) :
    ∃ ao c db, v = .slice ao n c ∧ Ints w (.slice ao n c) ao n c db 0 G := by
  obtain ⟨ao, c, g, rfl, h1, h2, h3, h4⟩ := hs.own_open i hi
  refine ⟨ao, c, g, rfl, rfl, h1, h2, h3, fun k hk => ?_, hwf⟩
  exact hs.own_news i hi h3 k _ (by rw [Array.getElem?_toList]; exact rowOf_gI hk)
theorem rows_all (A B : Nat → Int) (Na Nb : Nat) : [] ++ (rowOf Na (gI A)).toList ++ (rowOf Nb (gI B)).toList = (rowOf (Na + Nb) (gI (allG A B Na))).toList := by
  rw [← rowOf_append Na Nb (gI (allG A B Na)), List.nil_append]
  congr 1
  · rw [rowOf_congr fun i hi => show gI A i = gI (allG A B Na) i by simp only [gI, allG]; rw [if_pos hi]]
  · rw [rowOf_congr fun i hi => show gI B i = gI (allG A B Na) (Na + i) by simp only [gI, allG]; rw [if_neg (by omega), show Na + i - Na = i by omega]]
theorem rows_back (A : Nat → Int) (n k : Nat) (y : Int) (hk : k < n) (hy : A (n - 1 - k) = y) : (rowOf (2 * k) (gI (backG A n))).toList ++ [Value.int .i64 y, .int .i64 y] = (rowOf (2 * (k + 1)) (gI (backG A n))).toList := by
  rw [show 2 * (k + 1) = 2 * k + 2 by omega, ← rowOf_append (2 * k) 2 (gI (backG A n))]
  congr 1
  have e0 : backG A n (2 * k + 0) = y := by unfold backG; rw [show (2 * k + 0) / 2 = k by omega]; exact hy
  have e1 : backG A n (2 * k + 1) = y := by unfold backG; rw [show (2 * k + 1) / 2 = k by omega]; exact hy
  rw [rowOf_congr (g := fun _ => .int .i64 y) fun i hi => by
    rcases (by omega : i = 0 ∨ i = 1) with rfl | rfl
    · show Value.int .i64 (backG A n (2 * k + 0)) = _; rw [e0]
    · show Value.int .i64 (backG A n (2 * k + 1)) = _; rw [e1]]
  rw [← rowOf_ext (n := 2) (cs := #[Value.int .i64 y, .int .i64 y]) (f := fun _ => Value.int .i64 y) rfl fun i hi => by rcases (by omega : i = 0 ∨ i = 1) with rfl | rfl <;> rfl]
theorem two_news {w : World} {b : Nat} {y z : Value} {t : TypeId} (h : w.heap[b]? = some (.cells #[y, z] t (0, 0))) : ∀ j u, [y, z][j]? = some u → w.cell? ⟨b, 0 + j, none⟩ = some u := fun j u hj => blk_news h j u hj
theorem oneGI' (n : Nat) (G : Nat → Int) : ∀ u ∈ (rowOf n (gI G)).toList, u.oneCell' = true := rowOf_one _ _ fun _ _ => rfl
theorem rows_snoc (G : Nat → Int) (k : Nat) (y : Int) (hy : G k = y) : (rowOf k (gI G)).toList ++ #[Value.int .i64 y].toList = (rowOf (k + 1) (gI G)).toList := by
  rw [← rowOf_append k 1 (gI G)]
  congr 1
  have e : ∀ i, i < 1 → gI G (k + i) = Value.int .i64 y := fun i hi => by
    obtain rfl : i = 0 := by omega
    show Value.int .i64 (G (k + 0)) = _
    rw [Nat.add_zero, hy]
  rw [rowOf_congr (g := fun _ => .int .i64 y) e]
  rw [← rowOf_ext (n := 1) (cs := #[Value.int .i64 y]) (f := fun _ => Value.int .i64 y) rfl fun i hi => by obtain rfl : i = 0 := by omega
                                                                                                           rfl]
set_option maxRecDepth 20000 in
set_option maxHeartbeats 1000000 in
theorem adds_walk (X : Nat → Int) (s : Src) (w : World) {ao1 ao2 : Option Addr} {Na c1 db1 do1 Nb c2 db2 do2 : Nat} {A B : Nat → Int} (hI : s.In w) (I : Ints w (.slice ao1 Na c1) ao1 Na c1 db1 do1 A) (J : Ints w (.slice ao2 Nb c2) ao2 Nb c2 db2 do2 B) (hz1 : ao1 = none → c1 = 0) (hz2 : ao2 = none → c2 = 0) (hsz : Na + Nb ≤ 1048576) :
    Calls Try.prog 11 #[.agg (rowOf 21 (fileC X s)), .slice ao1 Na c1, .slice ao2 Nb c2] w fun e w' => e = .returned (.bool true) ∧ Below w.heap.size w w' := by
  have hs := Tr.refl w []
  have H := Lib.hid hI
  have HI := Lib.hid I
  have HJ := Lib.hid J
  have HZ1 := Lib.hid hz1
  have HZ2 := Lib.hid hz2
  clear I J hI hz1 hz2
  obtain ⟨Ra, Ea, na, ea, ra⟩ := need_spec s X A Na
  obtain ⟨Rb, Eb, nb, eb, rb⟩ := need_spec s X B Nb
  obtain ⟨Rl, El, nl, el, rl⟩ := need_spec s X (allG A B Na) (Na + Nb)
  have NA := Lib.hid na
  have NB := Lib.hid nb
  have NL := Lib.hid nl
  have EA := Lib.hid ea
  have EB := Lib.hid eb
  have EL := Lib.hid el
  have RA := Lib.hid ra
  have RB := Lib.hid rb
  have RL := Lib.hid rl
  clear na nb nl ea eb el ra rb rl
  have HWL : Hid (∀ k, k < Na + Nb → -9223372036854775808 ≤ allG A B Na k ∧ allG A B Na k ≤ 9223372036854775807) := Lib.hid fun k hk => by
    unfold allG
    by_cases h : k < Na
    · rw [if_pos h]; exact HI.out.wf k h
    · rw [if_neg h]; exact HJ.out.wf _ (by omega)
  have HRA := Lib.hid (rows_all A B Na Nb)
  have HFA := Lib.hid (@fine_all s X A B Na Nb)
  have q1 := @need_mono s X _ _ _ _ (@all_l A B Na Nb)
  have q2 := @need_mono s X _ _ _ _ (@all_r A B Na Nb)
  have q3 := @need_or s X A B Na Nb
  have q4 : needC s X A Na ≤ 1102 := cntP_le _ _
  have q5 : needC s X B Nb ≤ 1102 := cntP_le _ _
  have q6 : needC s X (allG A B Na) (Na + Nb) ≤ 1102 := cntP_le _ _
  have HBK := Lib.hid (@need_back s X (allG A B Na) (Na + Nb))
  have HBF := Lib.hid (@fine_back s X (allG A B Na) (Na + Nb))
  have HBW : Hid (∀ k, k < 2 * (Na + Nb) → -9223372036854775808 ≤ backG (allG A B Na) (Na + Nb) k ∧ backG (allG A B Na) (Na + Nb) k ≤ 9223372036854775807) := Lib.hid fun k hk => HWL.out _ (by omega)
  generalize allG A B Na = AL at *
  go_enter Try.func11, Try.ntmps11
  go_upto_region 5 with (first | ((with_reducible refine (at_box (t := 32)) rfl ?_); refine wl_boxA hs rfl rfl rfl ?_; clear hs; intro w1 fb hs) | (go_at_call 12; refine (known_any _).mono ?_; rintro e w2 ⟨rfl, hc⟩; replace hs := hs.call0 hc; clear hc) | ((with_reducible refine (at_load (t := 32)) rfl ?_); refine wl_loadA hs rfl rfl Try.underlying32 rfl rfl 0 rfl (size32 _) ?_) | (go_at_call 15; refine (source_any X s _).mono ?_; rintro e w2 ⟨rfl, hc⟩; replace hs := hs.call0 hc; clear hc) | ((with_reducible refine (at_build (t := 39)) rfl ?_); refine wl_buildP rfl rfl (_) (by rfl) ((built39 _ s.bad s.code s.N s.c s.ao rfl)) ?_) | ((with_reducible refine (at_box (t := 39)) rfl ?_); refine wl_boxA hs rfl rfl rfl ?_; clear hs; intro w1 mb hs))
  replace hs : Tr w [] w1 [Res.blk mb s.cs 39, Res.blk fb (rowOf 21 (fileC X s)) 32] := hs
  go_upto_region 8 with (first | ((with_reducible refine (at_load (t := 29)) rfl ?_); refine wl_loadR rfl rfl Try.underlying29 rfl size29n rfl (file_rd (hs.rd0 1 rfl (by omega))) ?_) | (go_at_call 24; refine (need_zero s X mb _ ⟨hs.get 0 rfl, H.out.keep hs⟩).mono ?_; rintro e w2 ⟨rfl, hc⟩; replace hs := hs.call0 hc; clear hc))
  go_upto_region 9 with (first | ((with_reducible refine (at_load (t := 29)) rfl ?_); refine wl_loadR rfl rfl Try.underlying29 rfl size29n rfl (file_rd (hs.rd0 1 rfl (by omega))) ?_) | (go_at_call 24; refine (NA.out mb _ _ _ _ _ ⟨hs.get 0 rfl, H.out.keep hs⟩ (HI.out.keep hs)).mono ?_; rintro e w2 ⟨rfl, hc⟩; replace hs := hs.call0 hc; clear hc))
  go_upto_region 11 with (first | ((with_reducible refine (at_load (t := 29)) rfl ?_); refine wl_loadR rfl rfl Try.underlying29 rfl size29n rfl (file_rd (hs.rd0 1 rfl (by omega))) ?_) | (go_at_call 24; refine (NB.out mb _ _ _ _ _ ⟨hs.get 0 rfl, H.out.keep hs⟩ (HJ.out.keep hs)).mono ?_; rintro e w2 ⟨rfl, hc⟩; replace hs := hs.call0 hc; clear hc))
  clear NA NB
  replace hs := hs.addNil 3 1
  go_upto_region 12 with (first | ((with_reducible refine (at_bi .append) rfl ?_); refine wl_appendG hs rfl rfl Try.underlying33 info3 rfl (by omega) 0 rfl rfl rfl HZ1.out db1 do1 HI.out.ao (rowOf Na (gI A)).toList (by simp) ((HI.out.keep hs).rd.news) (oneGI' _ _) (by unfold maxLen; omega) (by omega) ?_; clear hs; intro w1 ve hs))
  go_upto_region 13 with (first | ((with_reducible refine (at_bi .append) rfl ?_); refine wl_appendG hs rfl rfl Try.underlying33 info3 rfl (by omega) 0 rfl rfl rfl HZ2.out db2 do2 HJ.out.ao (rowOf Nb (gI B)).toList (by simp) ((HJ.out.keep hs).rd.news) (oneGI' _ _) (by unfold maxLen; omega) (by omega) ?_; clear hs; intro w1 va hs))
  have hs3 : Tr w [] w1 [Res.own 3 1 va (Na + Nb) (rowOf (Na + Nb) (gI AL)).toList, Res.blk mb s.cs 39, Res.blk fb (rowOf 21 (fileC X s)) 32] := by
    have h := hs
    rw [Nat.zero_add] at h
    rw [← HRA.out]
    exact h
  clear hs
  have hs := hs3
  clear hs3 HI HJ HZ1 HZ2 HRA
  generalize hn : Na + Nb = n at *
  obtain ⟨aoL, cL, dbL, hv, IL⟩ := own_intsR hs 0 rfl HWL.out
  subst hv
  have HAL := Lib.hid IL.ao
  have mL := IL.max
  have lL := IL.le
  unfold maxLen at mL
  clear IL
  have HIL : Hid (∀ (w' : World) (L : List Res) (i : Nat), Tr w [] w' L → L[i]? = some (Res.own 3 1 (.slice aoL n cL) n (rowOf n (gI AL)).toList) → Ints w' (.slice aoL n cL) aoL n cL dbL 0 AL) := Lib.hid fun w' L i h hi => by
    obtain ⟨ao', c', db', e1, I'⟩ := own_intsR h i hi HWL.out
    obtain ⟨rfl, _, rfl⟩ := Value.slice.inj e1
    refine ⟨rfl, I'.le, I'.max, HAL.out, fun k hk => ?_, I'.wf⟩
    have e2 := (I'.ao (by omega)).symm.trans (HAL.out (by omega))
    have e3 : db' = dbL := by injection e2 with e2; injection e2
    subst e3
    exact I'.rd k hk
  go_upto_region 14 with (first | ((with_reducible refine (at_load (t := 29)) rfl ?_); refine wl_loadR rfl rfl Try.underlying29 rfl size29n rfl (file_rd (hs.rd0 2 rfl (by omega))) ?_) | (go_at_call 24; refine (NL.out mb _ _ _ _ _ ⟨hs.get 1 rfl, H.out.keep hs⟩ (HIL.out _ _ 0 hs rfl)).mono ?_; rintro e w2 ⟨rfl, hc⟩; replace hs := hs.call0 hc; clear hc))
  clear NL
  by_cases hA : Ea = 0
  · by_cases hB : Eb = 0
    · have FA := EA.out.1 hA
      have FB := EB.out.1 hB
      have FL := HFA.out.2 ⟨FA, FB⟩
      have hL := EL.out.2 FL
      have rA := RA.out FA
      have rB := RB.out FB
      have rL := RL.out FL
      have bF := HBF.out FL
      have bK := HBK.out
      obtain ⟨Rk, Ek, nk, ek, rk⟩ := need_spec s X (backG AL n) (2 * n)
      have hk0 := ek.2 bF
      have hk1 := rk bF
      rw [bK] at hk1
      subst hA hB hL hk0
      subst rA rB rL hk1
      have NK := Lib.hid nk
      clear nk ek rk FA FB FL bF bK EA EB EL RA RB RL HFA HBK HBF
      generalize needC s X A Na = ca at *
      generalize needC s X B Nb = cb at *
      generalize needC s X AL n = cl at *
      have d1 : decide ((cl : Int) < (ca : Int)) = false := decide_eq_false (by omega)
      have d2 : decide (cl < ca) = false := decide_eq_false (by omega)
      have d3 : decide ((cl : Int) < (cb : Int)) = false := decide_eq_false (by omega)
      have d4 : decide (cl < cb) = false := decide_eq_false (by omega)
      have d5 : decide ((ca : Int) + (cb : Int) < (cl : Int)) = false := decide_eq_false (by omega)
      have d6 : decide (ca + cb < cl) = false := decide_eq_false (by omega)
      go_upto_region 18 with fail
      clear d1 d2 d3 d4 d5 d6
      replace hs := hs.addNil 3 1
      go_wp2_with fail
      go_loopw [17, 18] (fun l i wr => ∃ (k : Nat) (v : Value), k ≤ n ∧ i = .int .i64 ((n : Int) - 1 - k) ∧ l = v ∧ Tr w [] wr [Res.own 3 1 v (2 * k) (rowOf (2 * k) (gI (backG AL n))).toList, Res.own 3 1 (.slice aoL n cL) n (rowOf n (gI AL)).toList, Res.blk mb s.cs 39, Res.blk fb (rowOf 21 (fileC X s)) 32]) (fun _ i _ => (intOf i + 1).toNat)
      case atStart => exact ⟨0, _, by omega, by go_num, rfl, by rw [Nat.mul_zero, rowOf_nil]; exact hs⟩
      case round =>
        clear hs
        obtain ⟨k, v, hk, rfl, rfl, hs⟩ := hrel
        by_cases hlt : k < n
        · have hltI : 0 ≤ (n : Int) - 1 - k := by omega
          have hao := HAL.out (by omega)
          subst hao
          obtain ⟨y, hy⟩ : ∃ y, AL (n - 1 - k) = y := ⟨_, rfl⟩
          have HVy : Hid (∀ w' L, Tr w [] w' (Res.own 3 1 (.slice (some ⟨dbL, 0, none⟩) n cL) n (rowOf n (gI AL)).toList :: L) → w'.cell? ⟨dbL, n - 1 - k, none⟩ = some (.int .i64 y)) := Lib.hid fun w' L h => by
            have := (HIL.out _ _ 0 h rfl).rd (n - 1 - k) (by omega)
            rw [Nat.zero_add] at this
            exact this.trans (by show some (Value.int .i64 (AL (n - 1 - k))) = _; rw [hy])
          have HRB := Lib.hid (rows_back AL n k y hlt hy)
          clear hy
          go_upto_region 22 with fail
          refine wt_enterS (List.Sublist.cons _ (List.Sublist.refl _)) 12 rfl hs (by kernel_rfl) ?_
          clear hs; intro w1 hC hs
          refine wt_take 0 rfl (by kernel_rfl) (by kernel_rfl) (by kernel_rfl) (fun _ _ _ _ h => h) rfl hC ⟨_, fun w hw => by (go_simp; try with_reducible rfl), fun a1 ha => ?_⟩
          simp only [Act.put, List.setIfInBounds_toArray, List.set_cons_succ, List.set_cons_zero] at ha; subst ha
          refine wt_take 1 rfl (by kernel_rfl) (by kernel_rfl) (by kernel_rfl) (fun _ _ _ _ h => h) rfl hC ⟨_, fun w hw => by (go_simp; try with_reducible rfl), fun a1 ha => ?_⟩
          simp only [Act.put, List.setIfInBounds_toArray, List.set_cons_succ, List.set_cons_zero] at ha; subst ha
          refine wt_take 2 rfl (by kernel_rfl) (by kernel_rfl) (by kernel_rfl) (fun _ _ _ _ h => h) rfl hC ⟨_, fun w hw => by (go_simp; try with_reducible rfl), fun a1 ha => ?_⟩
          simp only [Act.put, List.setIfInBounds_toArray, List.set_cons_succ, List.set_cons_zero] at ha; subst ha
          refine wt_take 3 rfl (by kernel_rfl) (by kernel_rfl) (by kernel_rfl) (fun _ _ _ _ h => h) rfl hC ⟨_, fun w hw => ex_indexS rfl Try.underlying33 size3 rfl rfl (n - 1 - k) (by omega) (by omega) rfl, fun a1 ha => ?_⟩
          simp only [Act.put, List.setIfInBounds_toArray, List.set_cons_succ, List.set_cons_zero] at ha; subst ha
          refine wt_take 4 rfl (by kernel_rfl) (by kernel_rfl) (by kernel_rfl) (fun _ _ _ _ h => h) rfl hC ⟨.int .i64 y, fun w hw => ex_load1 rfl Try.underlying3 rfl rfl (by rw [Nat.zero_add, Nat.mul_one]; exact HVy.out _ _ hw), fun a1 ha => ?_⟩
          simp only [Act.put, List.setIfInBounds_toArray, List.set_cons_succ, List.set_cons_zero] at ha; subst ha
          refine wt_take 5 rfl (by kernel_rfl) (by kernel_rfl) (by kernel_rfl) (fun _ _ _ _ h => h) rfl hC ⟨_, fun w hw => by (go_simp; try with_reducible rfl), fun a1 ha => ?_⟩
          simp only [Act.put, List.setIfInBounds_toArray, List.set_cons_succ, List.set_cons_zero] at ha; subst ha
          refine wt_take 6 rfl (by kernel_rfl) (by kernel_rfl) (by kernel_rfl) (fun _ _ _ _ h => h) rfl hC ⟨_, fun w hw => by (go_simp; try with_reducible rfl), fun a1 ha => ?_⟩
          simp only [Act.put, List.setIfInBounds_toArray, List.set_cons_succ, List.set_cons_zero] at ha; subst ha
          refine wt_take 7 rfl (by kernel_rfl) (by kernel_rfl) (by kernel_rfl) (fun _ _ _ _ h => h) rfl hC ⟨_, fun w hw => ex_indexS rfl Try.underlying33 size3 rfl rfl (n - 1 - k) (by omega) (by omega) rfl, fun a1 ha => ?_⟩
          simp only [Act.put, List.setIfInBounds_toArray, List.set_cons_succ, List.set_cons_zero] at ha; subst ha
          refine wt_take 8 rfl (by kernel_rfl) (by kernel_rfl) (by kernel_rfl) (fun _ _ _ _ h => h) rfl hC ⟨.int .i64 y, fun w hw => ex_load1 rfl Try.underlying3 rfl rfl (by rw [Nat.zero_add, Nat.mul_one]; exact HVy.out _ _ hw), fun a1 ha => ?_⟩
          simp only [Act.put, List.setIfInBounds_toArray, List.set_cons_succ, List.set_cons_zero] at ha; subst ha
          refine wt_one 9 (by kernel_rfl) ?_
          refine wt_buildV hs rfl rfl rfl Try.underlying33 info3 (by omega) (by omega) [.int .i64 y, .int .i64 y] rfl rfl (by simp [Value.oneCell']) _ rfl (fun _ => by simp only [Act.put, List.setIfInBounds_toArray, List.set_cons_succ, List.set_cons_zero]; rfl) ?_
          clear hs; intro w1 eb hs
          refine wt_and (hs.sub (by repeat (first | exact List.Sublist.refl _ | refine List.Sublist.cons_cons _ ?_ | refine List.Sublist.cons _ ?_))) fun hC => ?_
          refine wt_one 10 (by kernel_rfl) ?_
          refine wt_appendG hs rfl rfl rfl Try.underlying33 info3 rfl (by omega) 1 rfl rfl rfl (fun h => by cases h) eb 0 (fun _ => rfl) [.int .i64 y, .int .i64 y] rfl (by first | exact two_news (hs.getB 0 rfl)) (by simp [Value.oneCell']) (by unfold maxLen; omega) (by omega) (fun _ => by simp only [Act.put, List.setIfInBounds_toArray, List.set_cons_succ, List.set_cons_zero]; rfl) ?_
          clear hs; intro w1 v1 hs
          refine wt_and (hs.sub (by repeat (first | exact List.Sublist.refl _ | refine List.Sublist.cons_cons _ ?_ | refine List.Sublist.cons _ ?_))) fun hC => ?_
          refine wt_take 11 rfl (by kernel_rfl) (by kernel_rfl) (by kernel_rfl) (fun _ _ _ _ h => h) rfl hC ⟨_, fun w hw => by (go_simp; try with_reducible rfl), fun a1 ha => ?_⟩
          simp only [Act.put, List.setIfInBounds_toArray, List.set_cons_succ, List.set_cons_zero] at ha; subst ha
          refine wt_done (by kernel_rfl) ?_
          skip
          clear hC
          go_wp2_with fail
          go_roundw
          case rel => exact ⟨k + 1, _, by omega, by go_num, rfl, by rw [← HRB.out]; exact hs.erase 0⟩
          case measure => simp [intOf]; omega
        · obtain rfl : k = n := by omega
          obtain ⟨aoK, cK, dbK, hv, IK⟩ := own_intsR hs 0 rfl HBW.out
          subst hv
          have HIK := Lib.hid IK
          clear IK
          go_upto_region 24 with (first | ((with_reducible refine (at_load (t := 29)) rfl ?_); refine wl_loadR rfl rfl Try.underlying29 rfl size29n rfl (file_rd (hs.rd0 3 rfl (by omega))) ?_) | (go_at_call 24; refine (NK.out mb _ _ _ _ _ ⟨hs.get 2 rfl, H.out.keep hs⟩ HIK.out).mono ?_; rintro e w2 ⟨rfl, hc⟩; replace hs := hs.call0 hc; clear hc))
          clear NK HIK
          have L1 := spL_len s X
          obtain ⟨Rt, Et, nt, et, rt⟩ := need_spec s X (idxG (spL s X)) (spL s X).length
          have HT0 : Hid (spE s X = 0 → Et = 0 ∧ Rt = 0) := Lib.hid fun h => ⟨et.2 (there_fine h), by rw [rt (there_fine h), there_none h]; rfl⟩
          have HTW : Hid (spE s X = 0 → ∀ j, j < (spL s X).length → -9223372036854775808 ≤ idxG (spL s X) j ∧ idxG (spL s X) j ≤ 9223372036854775807) := Lib.hid fun h j hj => by have := (there_fine h j hj).1; omega
          have HS : Hid (∀ mb w, Rdr s mb w → Calls Try.prog 18 #[.iface 37 (.pointer (some ⟨mb, 0, none⟩)), .agg (rowOf 18 (gI X))] w (SpP (spE s X) (spL s X) w)) := Lib.hid fun mb w h => spots_any s X mb w h
          have NT := Lib.hid nt
          clear nt et rt
          generalize spE s X = SE at *
          generalize spL s X = SL at *
          go_upto_region 27 with (first | ((with_reducible refine (at_load (t := 29)) rfl ?_); refine wl_loadR rfl rfl Try.underlying29 rfl size29n rfl (file_rd (hs.rd0 3 rfl (by omega))) ?_) | (go_at_call 18; refine (HS.out mb _ ⟨hs.get 2 rfl, H.out.keep hs⟩).mono ?_; rintro e w2 ⟨v1, rfl, hc⟩; replace hs := hs.call1 hc; clear hc))
          clear HS
          by_cases h0 : SE = 0
          · obtain ⟨rfl, rfl⟩ := HT0.out h0
            have HW := Lib.hid (HTW.out h0)
            subst h0
            clear HT0 HTW
            have hs3 : Tr w [] w2 [Res.own 61 2 v1 SL.length (sps SL), Res.blk mb s.cs 39, Res.blk fb (rowOf 21 (fileC X s)) 32] := (hs.erase 1).erase 1
            clear hs
            have hs := hs3
            clear hs3
            obtain ⟨ao, c, g, hv, _, _, hao, _⟩ := hs.own_open 0 rfl
            subst hv
            have HAO := Lib.hid hao
            clear hao
            replace hs := hs.addNil 3 1
            go_wp2_with fail
            go_loopw [21, 22] (fun l i wr => ∃ (m : Nat) (v : Value), m ≤ SL.length ∧ i = .int .i64 m ∧ l = v ∧ Tr w [] wr [Res.own 3 1 v m (rowOf m (gI (idxG SL))).toList, Res.own 61 2 (.slice ao SL.length c) SL.length (sps SL), Res.blk mb s.cs 39, Res.blk fb (rowOf 21 (fileC X s)) 32]) (fun _ i _ => SL.length - (intOf i).toNat)
            case atStart => exact ⟨0, _, by omega, rfl, rfl, by rw [rowOf_nil]; exact hs⟩
            case round =>
              clear hs hlt hk
              obtain ⟨m, v, hk, rfl, rfl, hs⟩ := hrel
              by_cases hlt : m < SL.length
              · have hltI : (m : Int) < SL.length := by omega
                have hao := HAO.out (by omega)
                subst hao
                obtain ⟨y, hy⟩ : ∃ y, idxG SL m = y := ⟨_, rfl⟩
                have HV : Hid (∀ w' l0 L, Tr w [] w' (l0 :: Res.own 61 2 (.slice (some ⟨g, 0, none⟩) SL.length c) SL.length (sps SL) :: L) → w'.cell? ⟨g, m * 2, none⟩ = some (.int .i64 y)) := Lib.hid fun w' l0 L h => by
                  have h1 := (sps_at hlt).1
                  rw [Nat.mul_comm m 2]
                  have h2 := h.own_cell 1 rfl h1
                  exact h2.trans (by show some (Value.int .i64 (idxG SL m)) = _; rw [hy])
                have HRS := Lib.hid (rows_snoc (idxG SL) m y hy)
                clear hy
                go_wp2_with (first
                  | ((with_reducible refine at_index rfl ?_); refine wl_index rfl rfl Try.underlying44 size61 rfl rfl m rfl hlt rfl ?_)
                  | ((with_reducible refine (at_load (t := 3)) rfl ?_); refine wl_loadC rfl rfl Try.underlying3 rfl rfl (HV.out _ _ _ hs) ?_)
                  | ((with_reducible refine at_buildSlice rfl ?_); refine wl_buildSliceV hs rfl rfl Try.underlying33 info3 (by omega) (by omega) [.int .i64 (y)] rfl rfl (by simp [Value.oneCell']) ?_; clear hs; intro w1 eb hs)
                  | ((with_reducible refine (at_bi .append) rfl ?_); refine wl_append1 hs rfl rfl Try.underlying33 info3 rfl (by omega) 1 rfl rfl 0 rfl rfl rfl (by simp [Value.oneCell']) (by unfold maxLen; omega) (by omega) ?_; clear hs; intro w1 v1 hs))
                go_roundw
                case rel => exact ⟨m + 1, _, by omega, by go_num, rfl, by rw [← HRS.out]; exact hs.erase 0⟩
                case measure => simp [intOf]; omega
              · obtain rfl : m = SL.length := by omega
                obtain ⟨aoT, cT, dbT, hv, IT⟩ := own_intsR hs 0 rfl HW.out
                subst hv
                have HIT := Lib.hid IT
                clear IT
                go_wp2_with (first | ((with_reducible refine (at_load (t := 29)) rfl ?_); refine wl_loadR rfl rfl Try.underlying29 rfl size29n rfl (file_rd (hs.rd0 3 rfl (by omega))) ?_) | (go_at_call 24; refine (NT.out mb _ _ _ _ _ ⟨hs.get 2 rfl, H.out.keep hs⟩ HIT.out).mono ?_; rintro e w2 ⟨rfl, hc⟩; replace hs := hs.call0 hc; clear hc))
                go_ret
                exact ⟨rfl, hs.below⟩
          · have tE : (SE != 0) = true := by simpa using h0
            clear h0
            go_wp2
            go_ret
            exact ⟨rfl, hs.below⟩
    · have hL : El ≠ 0 := fun h => hB (EB.out.2 (HFA.out.1 (EL.out.1 h)).2)
      have tA : (Ea != 0) = false := by simpa using hA
      have tB : (Eb != 0) = true := by simpa using hB
      have tL : (El != 0) = true := by simpa using hL
      clear hA hB hL
      go_wp2
      go_ret
      exact ⟨rfl, hs.below⟩
  · have hL : El ≠ 0 := fun h => hA (EA.out.2 (HFA.out.1 (EL.out.1 h)).1)
    have tA : (Ea != 0) = true := by simpa using hA
    have tL : (El != 0) = true := by simpa using hL
    clear hA hL
    go_wp2
    go_ret
    exact ⟨rfl, hs.below⟩
end Go.Proofs.Ytdlnfdlgnbkppaa
