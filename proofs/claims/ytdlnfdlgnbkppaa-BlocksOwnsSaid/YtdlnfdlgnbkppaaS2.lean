/- Two lists, compared. -/
import Derived.Test.YtdlnfdlgnbkppaaS1
namespace Go.Proofs.Ytdlnfdlgnbkppaa
set_option linter.unusedVariables false
set_option linter.unusedSimpArgs false
open Go Go.Sp Go.RowKit

set_option maxRecDepth 20000 in
theorem ints_eq {ao1 ao2 : Option Addr} {n c1 c2 b1 o1 b2 o2 : Nat} {G : Nat → Int} (w : World) (hn : n ≤ 9223372036854775807) (h1 : 0 < n → ao1 = some ⟨b1, o1, none⟩) (h2 : 0 < n → ao2 = some ⟨b2, o2, none⟩)
    (r1 : ∀ k, k < n → w.cell? ⟨b1, o1 + k, none⟩ = some (.int .i64 (G k))) (r2 : ∀ k, k < n → w.cell? ⟨b2, o2 + k, none⟩ = some (.int .i64 (G k))) :
    Calls Try.prog 23 #[.slice ao1 n c1, .slice ao2 n c2] w fun e w' => e = .returned (.bool true) ∧ Tr w [] w' [] := by
  have hs := Tr.refl w []
  have H1 := Lib.hid h1
  have H2 := Lib.hid h2
  have R1 := Lib.hid r1
  have R2 := Lib.hid r2
  clear h1 h2 r1 r2
  go_enter Try.func23, Try.ntmps23
  go_wp2_with fail
  go_loopw [5] (fun i wr => ∃ k : Nat, k ≤ n ∧ i = .int .i64 k ∧ Tr w [] wr []) (fun i _ => n - (intOf i).toNat)
  case atStart => exact ⟨0, by omega, rfl, hs⟩
  case round =>
    clear hs
    obtain ⟨k, hk, rfl, hs⟩ := hrel
    by_cases hlt : k < n
    · have hltI : (k : Int) < n := by omega
      have g1 := H1.out (by omega)
      have g2 := H2.out (by omega)
      subst g1 g2
      have HV1 : Hid (∀ w' L, Tr w [] w' L → w'.cell? ⟨b1, o1 + k, none⟩ = some (.int .i64 (G k))) := Lib.hid fun w' L h => h.keepCell (R1.out k hlt)
      have HV2 : Hid (∀ w' L, Tr w [] w' L → w'.cell? ⟨b2, o2 + k, none⟩ = some (.int .i64 (G k))) := Lib.hid fun w' L h => h.keepCell (R2.out k hlt)
      generalize G k = gk at *
      go_upto_region 6 with fail
      refine wt_enter 9 rfl hs (by kernel_rfl) ?_
      clear hs; intro w1 hs; have hC := hs
      refine wt_take 0 rfl (by kernel_rfl) (by kernel_rfl) (by kernel_rfl) (fun _ _ _ _ h => h) rfl hC ⟨_, fun w hw => by (go_simp; try with_reducible rfl), fun a1 ha => ?_⟩
      simp only [Act.put, List.setIfInBounds_toArray, List.set_cons_succ, List.set_cons_zero] at ha; subst ha
      refine wt_take 1 rfl (by kernel_rfl) (by kernel_rfl) (by kernel_rfl) (fun _ _ _ _ h => h) rfl hC ⟨_, fun w hw => by (go_simp; try with_reducible rfl), fun a1 ha => ?_⟩
      simp only [Act.put, List.setIfInBounds_toArray, List.set_cons_succ, List.set_cons_zero] at ha; subst ha
      refine wt_take 2 rfl (by kernel_rfl) (by kernel_rfl) (by kernel_rfl) (fun _ _ _ _ h => h) rfl hC ⟨_, fun w hw => ex_indexS rfl Try.underlying33 size3 rfl rfl k rfl hlt rfl, fun a1 ha => ?_⟩
      simp only [Act.put, List.setIfInBounds_toArray, List.set_cons_succ, List.set_cons_zero] at ha; subst ha
      refine wt_take 3 rfl (by kernel_rfl) (by kernel_rfl) (by kernel_rfl) (fun _ _ _ _ h => h) rfl hC ⟨_, fun w hw => ex_load1 rfl Try.underlying3 rfl rfl (by rw [Nat.mul_one]; exact HV1.out _ _ hw), fun a1 ha => ?_⟩
      simp only [Act.put, List.setIfInBounds_toArray, List.set_cons_succ, List.set_cons_zero] at ha; subst ha
      refine wt_take 4 rfl (by kernel_rfl) (by kernel_rfl) (by kernel_rfl) (fun _ _ _ _ h => h) rfl hC ⟨_, fun w hw => by (go_simp; try with_reducible rfl), fun a1 ha => ?_⟩
      simp only [Act.put, List.setIfInBounds_toArray, List.set_cons_succ, List.set_cons_zero] at ha; subst ha
      refine wt_take 5 rfl (by kernel_rfl) (by kernel_rfl) (by kernel_rfl) (fun _ _ _ _ h => h) rfl hC ⟨_, fun w hw => by (go_simp; try with_reducible rfl), fun a1 ha => ?_⟩
      simp only [Act.put, List.setIfInBounds_toArray, List.set_cons_succ, List.set_cons_zero] at ha; subst ha
      refine wt_take 6 rfl (by kernel_rfl) (by kernel_rfl) (by kernel_rfl) (fun _ _ _ _ h => h) rfl hC ⟨_, fun w hw => ex_indexS rfl Try.underlying33 size3 rfl rfl k rfl hlt rfl, fun a1 ha => ?_⟩
      simp only [Act.put, List.setIfInBounds_toArray, List.set_cons_succ, List.set_cons_zero] at ha; subst ha
      refine wt_take 7 rfl (by kernel_rfl) (by kernel_rfl) (by kernel_rfl) (fun _ _ _ _ h => h) rfl hC ⟨_, fun w hw => ex_load1 rfl Try.underlying3 rfl rfl (by rw [Nat.mul_one]; exact HV2.out _ _ hw), fun a1 ha => ?_⟩
      simp only [Act.put, List.setIfInBounds_toArray, List.set_cons_succ, List.set_cons_zero] at ha; subst ha
      refine wt_take 8 rfl (by kernel_rfl) (by kernel_rfl) (by kernel_rfl) (fun _ _ _ _ h => h) rfl hC ⟨.bool false, fun w hw => by go_simp, fun a1 ha => ?_⟩
      simp only [Act.put, List.setIfInBounds_toArray, List.set_cons_succ, List.set_cons_zero] at ha; subst ha
      refine wt_done (by kernel_rfl) ?_
      skip
      clear hC
      go_wp2_with fail
      go_roundw
      case rel => exact ⟨k + 1, by omega, by go_num, hs⟩
      case measure => simp [intOf]; omega
    · obtain rfl : k = n := by omega
      go_wp2_with fail
      go_ret
      exact ⟨rfl, hs⟩
set_option maxRecDepth 20000 in
theorem spots_eq {ao1 ao2 : Option Addr} {n c1 c2 b1 o1 b2 o2 : Nat} {A B : Nat → Int} (w : World) (hn : n ≤ 9223372036854775807) (h1 : 0 < n → ao1 = some ⟨b1, o1, none⟩) (h2 : 0 < n → ao2 = some ⟨b2, o2, none⟩)
    (r1 : ∀ k, k < n → w.cell? ⟨b1, o1 + k * 2, none⟩ = some (.int .i64 (A k)) ∧ w.cell? ⟨b1, o1 + k * 2 + 1, none⟩ = some (.int .i64 (B k))) (r2 : ∀ k, k < n → w.cell? ⟨b2, o2 + k * 2, none⟩ = some (.int .i64 (A k)) ∧ w.cell? ⟨b2, o2 + k * 2 + 1, none⟩ = some (.int .i64 (B k))) :
    Calls Try.prog 22 #[.slice ao1 n c1, .slice ao2 n c2] w fun e w' => e = .returned (.bool true) ∧ Tr w [] w' [] := by
  have hs := Tr.refl w []
  have H1 := Lib.hid h1
  have H2 := Lib.hid h2
  have R1 := Lib.hid r1
  have R2 := Lib.hid r2
  clear h1 h2 r1 r2
  go_enter Try.func22, Try.ntmps22
  go_wp2_with fail
  go_loopw [5] (fun i wr => ∃ k : Nat, k ≤ n ∧ i = .int .i64 k ∧ Tr w [] wr []) (fun i _ => n - (intOf i).toNat)
  case atStart => exact ⟨0, by omega, rfl, hs⟩
  case round =>
    clear hs
    obtain ⟨k, hk, rfl, hs⟩ := hrel
    by_cases hlt : k < n
    · have hltI : (k : Int) < n := by omega
      have g1 := H1.out (by omega)
      have g2 := H2.out (by omega)
      subst g1 g2
      have HV1 : Hid (∀ w' L, Tr w [] w' L → w'.cell? ⟨b1, o1 + k * 2, none⟩ = some (.int .i64 (A k)) ∧ w'.cell? ⟨b1, o1 + k * 2 + 1, none⟩ = some (.int .i64 (B k))) := Lib.hid fun w' L h => ⟨h.keepCell (R1.out k hlt).1, h.keepCell (R1.out k hlt).2⟩
      have HV2 : Hid (∀ w' L, Tr w [] w' L → w'.cell? ⟨b2, o2 + k * 2, none⟩ = some (.int .i64 (A k)) ∧ w'.cell? ⟨b2, o2 + k * 2 + 1, none⟩ = some (.int .i64 (B k))) := Lib.hid fun w' L h => ⟨h.keepCell (R2.out k hlt).1, h.keepCell (R2.out k hlt).2⟩
      generalize A k = a at *
      generalize B k = b at *
      go_upto_region 6 with fail
      refine wt_enter 9 rfl hs (by kernel_rfl) ?_
      clear hs; intro w1 hs; have hC := hs
      refine wt_take 0 rfl (by kernel_rfl) (by kernel_rfl) (by kernel_rfl) (fun _ _ _ _ h => h) rfl hC ⟨_, fun w hw => by (go_simp; try with_reducible rfl), fun a1 ha => ?_⟩
      simp only [Act.put, List.setIfInBounds_toArray, List.set_cons_succ, List.set_cons_zero] at ha; subst ha
      refine wt_take 1 rfl (by kernel_rfl) (by kernel_rfl) (by kernel_rfl) (fun _ _ _ _ h => h) rfl hC ⟨_, fun w hw => by (go_simp; try with_reducible rfl), fun a1 ha => ?_⟩
      simp only [Act.put, List.setIfInBounds_toArray, List.set_cons_succ, List.set_cons_zero] at ha; subst ha
      refine wt_take 2 rfl (by kernel_rfl) (by kernel_rfl) (by kernel_rfl) (fun _ _ _ _ h => h) rfl hC ⟨_, fun w hw => ex_indexS rfl Try.underlying44 size61 rfl rfl k rfl hlt rfl, fun a1 ha => ?_⟩
      simp only [Act.put, List.setIfInBounds_toArray, List.set_cons_succ, List.set_cons_zero] at ha; subst ha
      refine wt_take 3 rfl (by kernel_rfl) (by kernel_rfl) (by kernel_rfl) (fun _ _ _ _ h => h) rfl hC ⟨.agg #[.int .i64 a, .int .i64 b], fun w hw => ex_load2 rfl Try.underlying61 rfl size61 rfl (HV1.out _ _ hw).1 (HV1.out _ _ hw).2, fun a1 ha => ?_⟩
      simp only [Act.put, List.setIfInBounds_toArray, List.set_cons_succ, List.set_cons_zero] at ha; subst ha
      refine wt_take 4 rfl (by kernel_rfl) (by kernel_rfl) (by kernel_rfl) (fun _ _ _ _ h => h) rfl hC ⟨_, fun w hw => by (go_simp; try with_reducible rfl), fun a1 ha => ?_⟩
      simp only [Act.put, List.setIfInBounds_toArray, List.set_cons_succ, List.set_cons_zero] at ha; subst ha
      refine wt_take 5 rfl (by kernel_rfl) (by kernel_rfl) (by kernel_rfl) (fun _ _ _ _ h => h) rfl hC ⟨_, fun w hw => by (go_simp; try with_reducible rfl), fun a1 ha => ?_⟩
      simp only [Act.put, List.setIfInBounds_toArray, List.set_cons_succ, List.set_cons_zero] at ha; subst ha
      refine wt_take 6 rfl (by kernel_rfl) (by kernel_rfl) (by kernel_rfl) (fun _ _ _ _ h => h) rfl hC ⟨_, fun w hw => ex_indexS rfl Try.underlying44 size61 rfl rfl k rfl hlt rfl, fun a1 ha => ?_⟩
      simp only [Act.put, List.setIfInBounds_toArray, List.set_cons_succ, List.set_cons_zero] at ha; subst ha
      refine wt_take 7 rfl (by kernel_rfl) (by kernel_rfl) (by kernel_rfl) (fun _ _ _ _ h => h) rfl hC ⟨.agg #[.int .i64 a, .int .i64 b], fun w hw => ex_load2 rfl Try.underlying61 rfl size61 rfl (HV2.out _ _ hw).1 (HV2.out _ _ hw).2, fun a1 ha => ?_⟩
      simp only [Act.put, List.setIfInBounds_toArray, List.set_cons_succ, List.set_cons_zero] at ha; subst ha
      refine wt_take 8 rfl (by kernel_rfl) (by kernel_rfl) (by kernel_rfl) (fun _ _ _ _ h => h) rfl hC ⟨.bool false, fun w hw => by go_simp, fun a1 ha => ?_⟩
      simp only [Act.put, List.setIfInBounds_toArray, List.set_cons_succ, List.set_cons_zero] at ha; subst ha
      refine wt_done (by kernel_rfl) ?_
      skip
      clear hC
      go_wp2_with fail
      go_roundw
      case rel => exact ⟨k + 1, by omega, by go_num, hs⟩
      case measure => simp [intOf]; omega
    · obtain rfl : k = n := by omega
      go_wp2_with fail
      go_ret
      exact ⟨rfl, hs⟩
theorem sps_at : ∀ {l : List (Int × Int)} {k : Nat}, k < l.length → (sps l)[2 * k]? = some (.int .i64 (l[k]?.getD (0, 0)).1) ∧ (sps l)[2 * k + 1]? = some (.int .i64 (l[k]?.getD (0, 0)).2)
  | [], k, h => absurd h (Nat.not_lt_zero k)
  | (a, b) :: l, 0, _ => ⟨rfl, rfl⟩
  | (a, b) :: l, k + 1, h => by
    have ih := sps_at (l := l) (k := k) (by simpa using h)
    have e : sps ((a, b) :: l) = .int .i64 a :: .int .i64 b :: sps l := rfl
    rw [e, show 2 * (k + 1) = 2 * k + 1 + 1 by omega]
    simpa using ih
theorem ivs_at {l : List Int} {k : Nat} (h : k < l.length) : (ivs l)[k]? = some (.int .i64 (l[k]?.getD 0)) := by
  simp only [ivs, List.getElem?_map, List.getElem?_eq_getElem h, Option.map_some, Option.getD_some]
/-- Two lists of spots that are the same. -/
theorem spots_cmp {w0 w : World} {S : List Nat} {L : List Res} (hs : Tr w0 S w L) (i j : Nat) {v1 v2 : Value} {l : List (Int × Int)} (hi : L[i]? = some (Res.own 61 2 v1 l.length (sps l))) (hj : L[j]? = some (Res.own 61 2 v2 l.length (sps l))) (hl : l.length ≤ 5000) :
    Calls Try.prog 22 #[v1, v2] w fun e w' => e = .returned (.bool true) ∧ Tr w [] w' [] := by
  obtain ⟨ao1, c1, g1, rfl, _, _, ha1, _⟩ := hs.own_open i hi
  obtain ⟨ao2, c2, g2, rfl, _, _, ha2, _⟩ := hs.own_open j hj
  refine spots_eq (A := fun k => (l[k]?.getD (0, 0)).1) (B := fun k => (l[k]?.getD (0, 0)).2) w (by omega) ha1 ha2 (fun k hk => ?_) (fun k hk => ?_)
  · have h := hs.own_news i hi ha1
    rw [Nat.zero_add, Nat.mul_comm k 2]
    have := h _ _ (sps_at hk).1
    have h2 := h _ _ (sps_at hk).2
    rw [Nat.zero_add] at this h2
    exact ⟨this, h2⟩
  · have h := hs.own_news j hj ha2
    rw [Nat.zero_add, Nat.mul_comm k 2]
    have := h _ _ (sps_at hk).1
    have h2 := h _ _ (sps_at hk).2
    rw [Nat.zero_add] at this h2
    exact ⟨this, h2⟩
theorem ints_cmp {w0 w : World} {S : List Nat} {L : List Res} (hs : Tr w0 S w L) (i j : Nat) {v1 v2 : Value} {l : List Int} (hi : L[i]? = some (Res.own 3 1 v1 l.length (ivs l))) (hj : L[j]? = some (Res.own 3 1 v2 l.length (ivs l))) (hl : l.length ≤ 5000) :
    Calls Try.prog 23 #[v1, v2] w fun e w' => e = .returned (.bool true) ∧ Tr w [] w' [] := by
  obtain ⟨ao1, c1, g1, rfl, _, _, ha1, _⟩ := hs.own_open i hi
  obtain ⟨ao2, c2, g2, rfl, _, _, ha2, _⟩ := hs.own_open j hj
  exact ints_eq (G := fun k => l[k]?.getD 0) w (by omega) ha1 ha2 (fun k hk => hs.own_news i hi ha1 _ _ (ivs_at hk)) (fun k hk => hs.own_news j hj ha2 _ _ (ivs_at hk))
end Go.Proofs.Ytdlnfdlgnbkppaa
