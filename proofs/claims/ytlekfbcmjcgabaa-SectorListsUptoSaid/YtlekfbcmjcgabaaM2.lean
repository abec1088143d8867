/- The reference's Cut and Join: contracts. -/
import Derived.Test.YtlekfbcmjcgabaaM1
namespace Go.Proofs.Ytlekfbcmjcgabaa
set_option linter.unusedVariables false
set_option linter.unusedSimpArgs false
open Go Go.Sp Go.RowKit

theorem wrapIn {X : Int} (h : -9223372036854775808 ≤ X ∧ X ≤ 9223372036854775807) : IntKind.i64.wrap X = X := by
  simp [IntKind.wrap, IntKind.bits, IntKind.signed]; omega
theorem tdiv_128 (i : Nat) : ((i : Int)).tdiv 128 = ((i / 128 : Nat) : Int) := by
  rw [Int.tdiv_eq_ediv_of_nonneg (by omega)]; omega
theorem tmod_128 (i : Nat) : ((i : Int)).tmod 128 = ((i % 128 : Nat) : Int) := by
  rw [Int.tmod_eq_emod_of_nonneg (by omega)]; omega
theorem cutF_snoc0 (G : Nat → UInt8) (n a : Nat) (h : n ≤ a * 128) : (rowOf (a * 128) (u8v (cutF G n))).toList ++ (rowOf 128 (u8v fun _ => 0)).toList = (rowOf ((a + 1) * 128) (u8v (cutF G n))).toList := by
  rw [Nat.add_mul, Nat.one_mul, ← rowOf_append (a * 128) 128 (u8v (cutF G n))]
  congr 2
  exact rowOf_congr fun j hj => by simp only [u8v, cutF]; rw [if_neg (by omega)]
theorem cutF_set (G : Nat → UInt8) (n i : Nat) (x : Int) (hx : x = ((G i).toNat : Int)) : (rowOf n (u8v (cutF G i))).toList.set i (.int .u8 x) = (rowOf n (u8v (cutF G (i + 1)))).toList := by
  rw [set_list]
  congr 1
  exact rowOf_congr fun j hj => by
    simp only [u8v, cutF]
    by_cases h : j = i
    · rw [if_pos h, if_pos (by omega), hx, h]
    · rw [if_neg h]
      by_cases h1 : j < i
      · rw [if_pos h1, if_pos (by omega)]
      · rw [if_neg h1, if_neg (by omega)]
set_option maxHeartbeats 1000000 in
theorem rcut_any (G : Nat → UInt8) (n cap : Nat) (ao : Option Addr) (db doff : Nat) (w : World) (hn : n ≤ 1048576) (hao : 0 < n → ao = some ⟨db, doff, none⟩) (hrd : Rd w db doff n (u8v G)) :
    Calls Try.prog 16 #[.slice ao n cap] w fun e w' => ∃ v, e = .returned v ∧ Tr w [] w' [Res.own 30 128 v ((n + 127) / 128) (rowOf ((n + 127) / 128 * 128) (u8v (cutF G n))).toList] := by
  have hs := (Tr.refl w []).addNil 30 128
  have HR := Lib.hid hrd
  have HA := Lib.hid hao
  clear hrd hao
  go_enter Try.func16, Try.ntmps16
  go_wp2
  go_loopw [3, 4] (fun o iv wr => ∃ (i : Nat) (v : Value), i ≤ n ∧ iv = .int .i64 i ∧ o = v ∧ Tr w [] wr [Res.own 30 128 v ((i + 127) / 128) (rowOf ((i + 127) / 128 * 128) (u8v (cutF G i))).toList]) (fun _ iv _ => n - (intOf iv).toNat)
  case atStart => exact ⟨0, _, by omega, rfl, rfl, by rw [show (0 + 127) / 128 = 0 by omega, Nat.zero_mul, rowOf_nil]; exact hs⟩
  case round =>
    clear hs
    obtain ⟨i, v, hk, rfl, rfl, hs⟩ := hrel
    by_cases hlt : i < n
    · have hltI : (i : Int) < n := by omega
      obtain rfl := HA.out (by omega)
      have HV : Hid (∀ w' L, Tr w [] w' L → w'.cell? ⟨db, doff + i, none⟩ = some (.int .u8 ((G i).toNat : Int))) := Lib.hid fun w' L h => HR.out.keep h i hlt
      have HST0 := Lib.hid (cutF_set G ((i + 128) / 128 * 128) i _ rfl)
      generalize ((G i).toNat : Int) = gi at *
      have td := tdiv_128 i
      have tm := tmod_128 i
      have e1 : (i + 1 + 127) / 128 = (i + 128) / 128 := by omega
      obtain ⟨a, r, ha, hr⟩ : ∃ a r : Nat, i = a * 128 + r ∧ r < 128 := ⟨i / 128, i % 128, by omega, by omega⟩
      rw [show i / 128 = a by omega] at td
      rw [show i % 128 = r by omega] at tm
      have ha2 : a < a + 1 := by omega
      have ra : a ≤ 8192 := by omega
      rw [show (i + 128) / 128 = a + 1 by omega] at HST0
      have HST := HST0
      clear HST0
      by_cases h0 : r = 0
      · have e2 : (i + 127) / 128 = a := by omega
        rw [e2] at hs
        have HSN := Lib.hid (cutF_snoc0 G i a (by omega))
        have Hai := Lib.hid ha
        have t0 : ((r : Int) == 0) = true := by rw [h0]; rfl
        clear e1 e2 ha h0
        go_upto_region 7 with (first | ((with_reducible refine at_build rfl ?_); refine wl_build0B rfl rfl Try.underlying30 (F := fun _ => 0) zero30 isz5 ?_) | ((with_reducible refine at_buildSlice rfl ?_); refine wl_buildSlice1A hs rfl rfl Try.underlying25 info30 (by omega) (by omega) rfl (rowOf_size _ _) ?_; clear hs; intro w1 b3 hs) | ((with_reducible refine (at_bi .append) rfl ?_); refine wl_append hs rfl rfl Try.underlying25 info30 zc30 (by omega) 1 rfl rfl rfl b3 0 rfl (rowOf 128 (u8v fun _ => 0)).toList (by simp) (news30 hs 0 rfl) (one30 _) (by unfold maxLen; omega) (by omega) ?_; rw [HSN.out]; clear hs; intro w1 v' hs hnil; clear hnil))
        replace hs := hs.erase 0
        obtain ⟨ao2, c, g, hv, _, _, hao2, _⟩ := hs.own_open 0 rfl
        obtain rfl := hao2 (by omega)
        subst hv
        clear hao2
        refine wt_enterS (List.nil_sublist _) 12 rfl hs (by kernel_rfl) ?_
        clear hs; intro w1 hC hs
        refine wt_take 0 rfl (by kernel_rfl) (by kernel_rfl) (by kernel_rfl) (fun _ _ _ _ h => h) rfl hC ⟨_, fun w hw => by (go_simp; try with_reducible rfl), fun a1 ha => ?_⟩
        simp only [Act.put, List.setIfInBounds_toArray, List.set_cons_succ, List.set_cons_zero] at ha; subst ha
        refine wt_take 1 rfl (by kernel_rfl) (by kernel_rfl) (by kernel_rfl) (fun _ _ _ _ h => h) rfl hC ⟨_, fun w hw => by (go_simp; try with_reducible rfl), fun a1 ha => ?_⟩
        simp only [Act.put, List.setIfInBounds_toArray, List.set_cons_succ, List.set_cons_zero] at ha; subst ha
        refine wt_take 2 rfl (by kernel_rfl) (by kernel_rfl) (by kernel_rfl) (fun _ _ _ _ h => h) rfl hC ⟨.int .i64 (a : Int), fun w hw => by (go_simp; first | done | exact wrapIn (by omega)), fun a1 ha => ?_⟩
        simp only [Act.put, List.setIfInBounds_toArray, List.set_cons_succ, List.set_cons_zero] at ha; subst ha
        refine wt_take 3 rfl (by kernel_rfl) (by kernel_rfl) (by kernel_rfl) (fun _ _ _ _ h => h) rfl hC ⟨_, fun w hw => by (go_simp; try with_reducible rfl), fun a1 ha => ?_⟩
        simp only [Act.put, List.setIfInBounds_toArray, List.set_cons_succ, List.set_cons_zero] at ha; subst ha
        refine wt_take 4 rfl (by kernel_rfl) (by kernel_rfl) (by kernel_rfl) (fun _ _ _ _ h => h) rfl hC ⟨_, fun w hw => by (go_simp; try with_reducible rfl), fun a1 ha => ?_⟩
        simp only [Act.put, List.setIfInBounds_toArray, List.set_cons_succ, List.set_cons_zero] at ha; subst ha
        refine wt_take 5 rfl (by kernel_rfl) (by kernel_rfl) (by kernel_rfl) (fun _ _ _ _ h => h) rfl hC ⟨_, fun w hw => by (go_simp; try with_reducible rfl), fun a1 ha => ?_⟩
        simp only [Act.put, List.setIfInBounds_toArray, List.set_cons_succ, List.set_cons_zero] at ha; subst ha
        refine wt_take 6 rfl (by kernel_rfl) (by kernel_rfl) (by kernel_rfl) (fun _ _ _ _ h => h) rfl hC ⟨_, fun w hw => by (go_simp; try with_reducible rfl), fun a1 ha => ?_⟩
        simp only [Act.put, List.setIfInBounds_toArray, List.set_cons_succ, List.set_cons_zero] at ha; subst ha
        refine wt_take 7 rfl (by kernel_rfl) (by kernel_rfl) (by kernel_rfl) (fun _ _ _ _ h => h) rfl hC ⟨_, fun w hw => ex_indexS rfl Try.underlying23 size5 rfl rfl i rfl hlt rfl, fun a1 ha => ?_⟩
        simp only [Act.put, List.setIfInBounds_toArray, List.set_cons_succ, List.set_cons_zero] at ha; subst ha
        refine wt_take 8 rfl (by kernel_rfl) (by kernel_rfl) (by kernel_rfl) (fun _ _ _ _ h => h) rfl hC ⟨_, fun w hw => ex_load1 rfl Try.underlying5 rfl rfl (by rw [Nat.mul_one]; exact HV.out _ _ hw), fun a1 ha => ?_⟩
        simp only [Act.put, List.setIfInBounds_toArray, List.set_cons_succ, List.set_cons_zero] at ha; subst ha
        refine wt_take 9 rfl (by kernel_rfl) (by kernel_rfl) (by kernel_rfl) (fun _ _ _ _ h => h) rfl hC ⟨_, fun w hw => ex_indexS rfl Try.underlying25 size30 rfl rfl a rfl ha2 rfl, fun a1 ha => ?_⟩
        simp only [Act.put, List.setIfInBounds_toArray, List.set_cons_succ, List.set_cons_zero] at ha; subst ha
        refine wt_take 10 rfl (by kernel_rfl) (by kernel_rfl) (by kernel_rfl) (fun _ _ _ _ h => h) rfl hC ⟨_, fun w hw => ex_indexA rfl Try.underlying30 size5 rfl rfl r rfl hr, fun a1 ha => ?_⟩
        simp only [Act.put, List.setIfInBounds_toArray, List.set_cons_succ, List.set_cons_zero] at ha; subst ha
        refine wt_one 11 (by kernel_rfl) ?_
        refine wt_storeO1 (off := i) hs rfl rfl rfl size5 (by rw [show i = 0 + a * 128 + r * 1 by have := Hai.out; omega]; rfl) rfl rfl 0 rfl (by have := Hai.out; simp only [Array.length_toList, rowOf_size]; omega) _ HST.out (by simp only [Act.put, List.setIfInBounds_toArray, List.set_cons_succ, List.set_cons_zero]; rfl) ?_
        clear hs; intro w1 hs
        refine wt_and (hs.sub (by repeat (first | exact List.Sublist.refl _ | refine List.Sublist.cons_cons _ ?_ | refine List.Sublist.cons _ ?_))) fun hC => ?_
        refine wt_done (by kernel_rfl) ?_
        skip
        clear hC
        go_wp2_with fail
        go_roundw
        case rel => exact ⟨i + 1, _, by omega, by go_num, rfl, by rw [show (i + 1 + 127) / 128 = a + 1 by have := Hai.out; omega]; exact hs⟩
        case measure => simp [intOf]; omega
      · have e2 : (i + 127) / 128 = a + 1 := by omega
        rw [e2] at hs
        have Hai := Lib.hid ha
        have t0 : ((r : Int) == 0) = false := by simpa using h0
        clear e1 e2 ha
        go_upto_region 7 with fail
        obtain ⟨ao2, c, g, hv, _, _, hao2, _⟩ := hs.own_open 0 rfl
        obtain rfl := hao2 (by omega)
        subst hv
        clear hao2
        refine wt_enterS (List.nil_sublist _) 12 rfl hs (by kernel_rfl) ?_
        clear hs; intro w1 hC hs
        refine wt_take 0 rfl (by kernel_rfl) (by kernel_rfl) (by kernel_rfl) (fun _ _ _ _ h => h) rfl hC ⟨_, fun w hw => by (go_simp; try with_reducible rfl), fun a1 ha => ?_⟩
        simp only [Act.put, List.setIfInBounds_toArray, List.set_cons_succ, List.set_cons_zero] at ha; subst ha
        refine wt_take 1 rfl (by kernel_rfl) (by kernel_rfl) (by kernel_rfl) (fun _ _ _ _ h => h) rfl hC ⟨_, fun w hw => by (go_simp; try with_reducible rfl), fun a1 ha => ?_⟩
        simp only [Act.put, List.setIfInBounds_toArray, List.set_cons_succ, List.set_cons_zero] at ha; subst ha
        refine wt_take 2 rfl (by kernel_rfl) (by kernel_rfl) (by kernel_rfl) (fun _ _ _ _ h => h) rfl hC ⟨.int .i64 (a : Int), fun w hw => by (go_simp; first | done | exact wrapIn (by omega)), fun a1 ha => ?_⟩
        simp only [Act.put, List.setIfInBounds_toArray, List.set_cons_succ, List.set_cons_zero] at ha; subst ha
        refine wt_take 3 rfl (by kernel_rfl) (by kernel_rfl) (by kernel_rfl) (fun _ _ _ _ h => h) rfl hC ⟨_, fun w hw => by (go_simp; try with_reducible rfl), fun a1 ha => ?_⟩
        simp only [Act.put, List.setIfInBounds_toArray, List.set_cons_succ, List.set_cons_zero] at ha; subst ha
        refine wt_take 4 rfl (by kernel_rfl) (by kernel_rfl) (by kernel_rfl) (fun _ _ _ _ h => h) rfl hC ⟨_, fun w hw => by (go_simp; try with_reducible rfl), fun a1 ha => ?_⟩
        simp only [Act.put, List.setIfInBounds_toArray, List.set_cons_succ, List.set_cons_zero] at ha; subst ha
        refine wt_take 5 rfl (by kernel_rfl) (by kernel_rfl) (by kernel_rfl) (fun _ _ _ _ h => h) rfl hC ⟨_, fun w hw => by (go_simp; try with_reducible rfl), fun a1 ha => ?_⟩
        simp only [Act.put, List.setIfInBounds_toArray, List.set_cons_succ, List.set_cons_zero] at ha; subst ha
        refine wt_take 6 rfl (by kernel_rfl) (by kernel_rfl) (by kernel_rfl) (fun _ _ _ _ h => h) rfl hC ⟨_, fun w hw => by (go_simp; try with_reducible rfl), fun a1 ha => ?_⟩
        simp only [Act.put, List.setIfInBounds_toArray, List.set_cons_succ, List.set_cons_zero] at ha; subst ha
        refine wt_take 7 rfl (by kernel_rfl) (by kernel_rfl) (by kernel_rfl) (fun _ _ _ _ h => h) rfl hC ⟨_, fun w hw => ex_indexS rfl Try.underlying23 size5 rfl rfl i rfl hlt rfl, fun a1 ha => ?_⟩
        simp only [Act.put, List.setIfInBounds_toArray, List.set_cons_succ, List.set_cons_zero] at ha; subst ha
        refine wt_take 8 rfl (by kernel_rfl) (by kernel_rfl) (by kernel_rfl) (fun _ _ _ _ h => h) rfl hC ⟨_, fun w hw => ex_load1 rfl Try.underlying5 rfl rfl (by rw [Nat.mul_one]; exact HV.out _ _ hw), fun a1 ha => ?_⟩
        simp only [Act.put, List.setIfInBounds_toArray, List.set_cons_succ, List.set_cons_zero] at ha; subst ha
        refine wt_take 9 rfl (by kernel_rfl) (by kernel_rfl) (by kernel_rfl) (fun _ _ _ _ h => h) rfl hC ⟨_, fun w hw => ex_indexS rfl Try.underlying25 size30 rfl rfl a rfl ha2 rfl, fun a1 ha => ?_⟩
        simp only [Act.put, List.setIfInBounds_toArray, List.set_cons_succ, List.set_cons_zero] at ha; subst ha
        refine wt_take 10 rfl (by kernel_rfl) (by kernel_rfl) (by kernel_rfl) (fun _ _ _ _ h => h) rfl hC ⟨_, fun w hw => ex_indexA rfl Try.underlying30 size5 rfl rfl r rfl hr, fun a1 ha => ?_⟩
        simp only [Act.put, List.setIfInBounds_toArray, List.set_cons_succ, List.set_cons_zero] at ha; subst ha
        refine wt_one 11 (by kernel_rfl) ?_
        refine wt_storeO1 (off := i) hs rfl rfl rfl size5 (by rw [show i = 0 + a * 128 + r * 1 by have := Hai.out; omega]; rfl) rfl rfl 0 rfl (by have := Hai.out; simp only [Array.length_toList, rowOf_size]; omega) _ HST.out (by simp only [Act.put, List.setIfInBounds_toArray, List.set_cons_succ, List.set_cons_zero]; rfl) ?_
        clear hs; intro w1 hs
        refine wt_and (hs.sub (by repeat (first | exact List.Sublist.refl _ | refine List.Sublist.cons_cons _ ?_ | refine List.Sublist.cons _ ?_))) fun hC => ?_
        refine wt_done (by kernel_rfl) ?_
        skip
        clear hC
        go_wp2_with fail
        go_roundw
        case rel => exact ⟨i + 1, _, by omega, by go_num, rfl, by rw [show (i + 1 + 127) / 128 = a + 1 by have := Hai.out; omega]; exact hs⟩
        case measure => simp [intOf]; omega
    · obtain rfl : i = n := by omega
      go_wp2
      go_ret
      exact ⟨_, rfl, hs⟩
end Go.Proofs.Ytlekfbcmjcgabaa
