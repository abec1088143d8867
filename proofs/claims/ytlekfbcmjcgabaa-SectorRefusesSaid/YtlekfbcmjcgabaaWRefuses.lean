/- SectorRefuses: the walk. -/
import Derived.Test.YtlekfbcmjcgabaaRows
import Derived.Test.YtlekfbcmjcgabaaWl
import Derived.Test.YtlekfbcmjcgabaaPlain
import Derived.BigQuiet
import Derived.WalkSpells
import Derived.WalkLawsBesides
import Derived.Test.YtlekfbcmjcgabaaK
import Derived.Test.YtlekfbcmjcgabaaE
import Derived.Deep.DeepCutAuto
namespace Go.Proofs.Ytlekfbcmjcgabaa
set_option linter.unusedVariables false
open Go Go.Sp Go.RowKit

def okP (A W : Int) : Bool := decide (1 ≤ W ∧ W ≤ 8 ∧ 0 ≤ A ∧ A ≤ 128 - W)
def okS (A : Int) (n : Nat) : Bool := decide (0 ≤ A ∧ A ≤ 128 ∧ (n : Int) ≤ 128 - A)

/-- Join of one sector: how many bytes. -/
theorem join_one (F : Nat → UInt8) (A : Int) (hA : -9223372036854775808 ≤ A ∧ A ≤ 9223372036854775807) (b : Nat) (w : World) (h : Rd w b 0 128 (u8v F)) :
    Calls Try.prog 19 #[.int .i64 A, .slice (some ⟨b, 0, none⟩) 1 1] w fun e w' => ∃ ao m c, e = .returned (.slice ao m c) ∧ (m : Int) = min (max A 0) 128 ∧ Tr w [] w' [] := by
  by_cases h0 : A ≤ 0
  · refine (join_neg A 1 1 _ b 0 F w h0 (by omega) (fun _ => rfl) h).mono fun e w' ⟨he, ht⟩ => ⟨_, _, _, he, by omega, ht⟩
  · obtain ⟨N, rfl⟩ : ∃ N : Nat, A = (N : Int) := ⟨A.toNat, by omega⟩
    refine (join_pos N 1 1 _ b 0 F w (by omega) (by omega) (by omega) (fun _ => rfl) h).mono ?_
    rintro e w' ⟨v, rfl, ht⟩
    obtain ⟨ao, c, rfl, _, _, _⟩ := ht.own_shape 0 rfl
    exact ⟨_, _, _, rfl, by omega, ht.letgo⟩

theorem splice_int (F G : Nat → UInt8) (A : Int) (n : Nat) (ao : Option Addr) (cap db doff : Nat) (h : okS A n = true) (hao : 0 < n → ao = some ⟨db, doff, none⟩) :
    ∃ T, ∀ w, Rd w db doff n (u8v G) → Calls Try.prog 29 #[bytesV 128 F, .int .i64 A, .slice ao n cap] w fun e w' => e = .returned (.tuple #[bytesV 128 T, .int .i64 0]) ∧ Tr w [] w' [] := by
  have h := of_decide_eq_true h
  obtain ⟨N, rfl⟩ : ∃ N : Nat, A = (N : Int) := ⟨A.toNat, by omega⟩
  exact ⟨spliceF F N n G, fun w hr => splice_yes F G N n ao cap db doff w (by omega) hao hr⟩
theorem splice_int_no (F : Nat → UInt8) (A : Int) (n : Nat) (ao : Option Addr) (cap : Nat) (hn : n ≤ 9223372036854775807) (h : okS A n = false) (w : World) :
    Calls Try.prog 29 #[bytesV 128 F, .int .i64 A, .slice ao n cap] w fun e w' => e = .returned (.tuple #[bytesV 128 (fun _ => 0), .int .i64 10]) ∧ Tr w [] w' [] := by
  have h := of_decide_eq_false h
  exact splice_no F A n ao cap w hn (within_false.2 (by omega))

set_option maxRecDepth 100000 in
set_option maxHeartbeats 1000000 in
theorem refuses_bad (F G : Nat → UInt8) (A W : Int) (ao : Option Addr) (n cap db doff : Nat) (w : World) (hA : -9223372036854775808 ≤ A ∧ A ≤ 9223372036854775807) (hW : -9223372036854775808 ≤ W ∧ W ≤ 9223372036854775807)
    (hn : n ≤ 9223372036854775807) (hao : 0 < n → ao = some ⟨db, doff, none⟩) (hrd : Rd w db doff n (u8v G)) 
    (Hp : Hid (okP A W = false)) (H1 : Hid (∀ w, Calls Try.prog 25 #[bytesV 128 F, .int .i64 A, .int .i64 W] w fun e w' => e = .returned (.tuple #[.int .i64 0, .int .i64 10]) ∧ Tr w [] w' []))
    (H2 : Hid (∀ w, Calls Try.prog 24 #[bytesV 128 F, .int .i64 A, .int .i64 W, .int .i64 0] w fun e w' => e = .returned (.tuple #[bytesV 128 (fun _ => 0), .int .i64 10]) ∧ Tr w [] w' []))
    (H3 : Hid (∀ w, Calls Try.prog 24 #[bytesV 128 F, .int .i64 A, .int .i64 W, .int .i64 (-1)] w fun e w' => e = .returned (.tuple #[bytesV 128 (fun _ => 0), .int .i64 10]) ∧ Tr w [] w' [])) :
    Calls Try.prog 10 #[bytesV 128 F, .agg #[.int .i64 A, .int .i64 W], .slice ao n cap] w fun e w' => e = .returned (.bool true) ∧ Tr w [] w' [] := by
  have hs := Tr.refl w []
  have HR := Lib.hid hrd
  have HA := Lib.hid hao
  have HJ := Lib.hid (join_one F A hA)
  have HE := eqB_refl 128 (fun _ => 0)
  clear hrd hao
  go_enter Try.func10, Try.ntmps10
  go_upto_region 3 with (first
          | ((with_reducible refine at_box rfl ?_); refine wl_boxA hs rfl rfl rfl ?_; clear hs; intro w1 b0 hs)
          | ((with_reducible refine at_box rfl ?_); refine wl_boxA hs rfl rfl rfl ?_; clear hs; intro w1 b1 hs)
          | ((with_reducible refine at_load rfl ?_); refine wl_load1 hs rfl rfl Try.underlying3 rfl rfl 0 rfl rfl ?_))
  go_cut [9] (fun t wx => t = .bool (okP A W) ∧ wx = w1)
  case first =>
    by_cases c1 : 1 ≤ W
    · by_cases c2 : W ≤ 8
      · by_cases c3 : 0 ≤ A
        · go_wp2; go_meet; exact ⟨by unfold okP; congr 1; exact decide_eq_decide.2 (by omega), rfl⟩
        · go_wp2; go_meet; exact ⟨by unfold okP; congr 1; exact (decide_eq_false (by omega)).symm, rfl⟩
      · go_wp2; go_meet; exact ⟨by unfold okP; congr 1; exact (decide_eq_false (by omega)).symm, rfl⟩
    · go_wp2; go_meet; exact ⟨by unfold okP; congr 1; exact (decide_eq_false (by omega)).symm, rfl⟩
  obtain ⟨rfl, rfl⟩ := hcut
  rw [Hp.out]
  go_upto_region 6 with (first
          | (go_at_call 25; refine (H1.out _).mono ?_; rintro e w2 ⟨rfl, hc⟩; replace hs := hs.call0 hc; clear hc)
          | (go_at_call 24; refine (H2.out _).mono ?_; rintro e w2 ⟨rfl, hc⟩; replace hs := hs.call0 hc; clear hc)
          | ((with_reducible refine at_load rfl ?_); refine wl_loadB hs rfl rfl Try.underlying30 rfl 0 rfl size30 ?_)
          | ((with_reducible refine at_load rfl ?_); refine wl_loadB hs rfl rfl Try.underlying30 rfl 1 rfl size30 ?_)
          | ((with_reducible refine at_load rfl ?_); refine wl_loadB hs rfl rfl Try.underlying30 rfl 2 rfl size30 ?_)
          | ((with_reducible refine at_load rfl ?_); refine wl_loadB hs rfl rfl Try.underlying30 rfl 3 rfl size30 ?_)
          | ((with_reducible refine at_load rfl ?_); refine wl_loadB hs rfl rfl Try.underlying30 rfl 4 rfl size30 ?_)
          | ((with_reducible refine at_build rfl ?_); refine wl_build0B rfl rfl Try.underlying30 (F := fun _ => 0) zero30 isz5 ?_)
          | ((with_reducible refine (at_bin .neq) rfl ?_); refine wl_neqB rfl rfl Try.underlying30 Try.underlying5 size5 eqg30 rfl rfl ?_)
          | ((with_reducible refine at_alloc rfl ?_); refine wl_allocA hs rfl rfl zero30 ?_; clear hs; intro w1 b2 hs)
          | ((with_reducible refine at_store rfl ?_); refine wl_storeA hs rfl rfl rfl rfl (size30r _) (one30 _) 0 rfl (by simp only [rowOf_size]) ?_; clear hs; intro w1 hs)
)
  go_upto_region 11 with (first
          | (go_at_call 24; refine (H3.out _).mono ?_; rintro e w2 ⟨rfl, hc⟩; replace hs := hs.call0 hc; clear hc)
          | ((with_reducible refine at_load rfl ?_); refine wl_loadB hs rfl rfl Try.underlying30 rfl 0 rfl size30 ?_)
          | ((with_reducible refine at_load rfl ?_); refine wl_loadB hs rfl rfl Try.underlying30 rfl 1 rfl size30 ?_)
          | ((with_reducible refine at_load rfl ?_); refine wl_loadB hs rfl rfl Try.underlying30 rfl 2 rfl size30 ?_)
          | ((with_reducible refine at_load rfl ?_); refine wl_loadB hs rfl rfl Try.underlying30 rfl 3 rfl size30 ?_)
          | ((with_reducible refine at_load rfl ?_); refine wl_loadB hs rfl rfl Try.underlying30 rfl 4 rfl size30 ?_)
          | ((with_reducible refine at_build rfl ?_); refine wl_build0B rfl rfl Try.underlying30 (F := fun _ => 0) zero30 isz5 ?_)
          | ((with_reducible refine (at_bin .neq) rfl ?_); refine wl_neqB rfl rfl Try.underlying30 Try.underlying5 size5 eqg30 rfl rfl ?_)
          | ((with_reducible refine at_alloc rfl ?_); refine wl_allocA hs rfl rfl zero30 ?_; clear hs; intro w1 b2 hs)
          | ((with_reducible refine at_store rfl ?_); refine wl_storeA hs rfl rfl rfl rfl (size30r _) (one30 _) 0 rfl (by simp only [rowOf_size]) ?_; clear hs; intro w1 hs)
)

  by_cases hS : okS A n = true
  · obtain ⟨T, HS⟩ := splice_int F G A n ao cap db doff hS HA.out
    replace HS := Lib.hid HS
    replace hS := Lib.hid hS
    clear hn
    go_upto_region 12 with (first
          | (go_at_call 29; refine (HS.out _ (HR.out.keep hs)).mono ?_; rintro e w2 ⟨rfl, hc⟩; replace hs := hs.call0 hc; clear hc)
          | ((with_reducible refine at_load rfl ?_); refine wl_loadB hs rfl rfl Try.underlying30 rfl 0 rfl size30 ?_)
          | ((with_reducible refine at_load rfl ?_); refine wl_loadB hs rfl rfl Try.underlying30 rfl 1 rfl size30 ?_)
          | ((with_reducible refine at_load rfl ?_); refine wl_loadB hs rfl rfl Try.underlying30 rfl 2 rfl size30 ?_)
          | ((with_reducible refine at_load rfl ?_); refine wl_loadB hs rfl rfl Try.underlying30 rfl 3 rfl size30 ?_)
          | ((with_reducible refine at_load rfl ?_); refine wl_loadB hs rfl rfl Try.underlying30 rfl 4 rfl size30 ?_)
          | ((with_reducible refine at_build rfl ?_); refine wl_build0B rfl rfl Try.underlying30 (F := fun _ => 0) zero30 isz5 ?_)
          | ((with_reducible refine (at_bin .neq) rfl ?_); refine wl_neqB rfl rfl Try.underlying30 Try.underlying5 size5 eqg30 rfl rfl ?_)
          | ((with_reducible refine at_alloc rfl ?_); refine wl_allocA hs rfl rfl zero30 ?_; clear hs; intro w1 b2 hs)
          | ((with_reducible refine at_store rfl ?_); refine wl_storeA hs rfl rfl rfl rfl (size30r _) (one30 _) 0 rfl (by simp only [rowOf_size]) ?_; clear hs; intro w1 hs)
)
    go_cut [18] (fun t wx => t = .bool (okS A n) ∧ wx = w1)
    case first =>
      have hS2 := of_decide_eq_true hS.out
      go_wp2; go_meet; exact ⟨by rw [hS.out], rfl⟩
    case rest =>
      obtain ⟨rfl, rfl⟩ := hcut
      rw [hS.out]
      go_wp2_with (first
          | (go_at_call 19; refine (HJ.out _ _ (hs.rd0 0 rfl (by omega))).mono ?_; rintro e w2 ⟨ao2, m, c2, rfl, hm, hc⟩; replace hs := hs.call0 hc; clear hc; replace hm := Lib.hid hm)
          | ((with_reducible refine at_load rfl ?_); refine wl_loadB hs rfl rfl Try.underlying30 rfl 0 rfl size30 ?_)
          | ((with_reducible refine at_load rfl ?_); refine wl_loadB hs rfl rfl Try.underlying30 rfl 1 rfl size30 ?_)
          | ((with_reducible refine at_load rfl ?_); refine wl_loadB hs rfl rfl Try.underlying30 rfl 2 rfl size30 ?_)
          | ((with_reducible refine at_load rfl ?_); refine wl_loadB hs rfl rfl Try.underlying30 rfl 3 rfl size30 ?_)
          | ((with_reducible refine at_load rfl ?_); refine wl_loadB hs rfl rfl Try.underlying30 rfl 4 rfl size30 ?_)
          | ((with_reducible refine at_build rfl ?_); refine wl_build0B rfl rfl Try.underlying30 (F := fun _ => 0) zero30 isz5 ?_)
          | ((with_reducible refine (at_bin .neq) rfl ?_); refine wl_neqB rfl rfl Try.underlying30 Try.underlying5 size5 eqg30 rfl rfl ?_)
          | ((with_reducible refine at_alloc rfl ?_); refine wl_allocA hs rfl rfl zero30 ?_; clear hs; intro w1 b2 hs)
          | ((with_reducible refine at_store rfl ?_); refine wl_storeA hs rfl rfl rfl rfl (size30r _) (one30 _) 0 rfl (by simp only [rowOf_size]) ?_; clear hs; intro w1 hs)
          | ((with_reducible refine at_buildSlice rfl ?_); refine wl_buildSlice1A hs rfl rfl Try.underlying25 info30 (by omega) (by omega) rfl (rowOf_size _ _) ?_; clear hs; intro w1 b3 hs)
          | ((with_reducible refine (at_bin .eql) rfl ?_); refine wl_eqI rfl rfl rfl rfl true (by rw [beq_iff_eq]; have hm2 := hm.out; omega) ?_)
          | (go_at_call 12; refine (known_any _).mono ?_; rintro e w2 ⟨rfl, hc⟩; replace hs := hs.call0 hc; clear hc))
      all_goals
        go_ret
        exact ⟨rfl, hs.letgo⟩
  · replace hS : okS A n = false := by simpa using hS
    have HS := Lib.hid (splice_int_no F A n ao cap hn hS)
    replace hS := Lib.hid hS
    go_upto_region 12 with (first
          | (go_at_call 29; refine (HS.out _).mono ?_; rintro e w2 ⟨rfl, hc⟩; replace hs := hs.call0 hc; clear hc)
          | ((with_reducible refine at_load rfl ?_); refine wl_loadB hs rfl rfl Try.underlying30 rfl 0 rfl size30 ?_)
          | ((with_reducible refine at_load rfl ?_); refine wl_loadB hs rfl rfl Try.underlying30 rfl 1 rfl size30 ?_)
          | ((with_reducible refine at_load rfl ?_); refine wl_loadB hs rfl rfl Try.underlying30 rfl 2 rfl size30 ?_)
          | ((with_reducible refine at_load rfl ?_); refine wl_loadB hs rfl rfl Try.underlying30 rfl 3 rfl size30 ?_)
          | ((with_reducible refine at_load rfl ?_); refine wl_loadB hs rfl rfl Try.underlying30 rfl 4 rfl size30 ?_)
          | ((with_reducible refine at_build rfl ?_); refine wl_build0B rfl rfl Try.underlying30 (F := fun _ => 0) zero30 isz5 ?_)
          | ((with_reducible refine (at_bin .neq) rfl ?_); refine wl_neqB rfl rfl Try.underlying30 Try.underlying5 size5 eqg30 rfl rfl ?_)
          | ((with_reducible refine at_alloc rfl ?_); refine wl_allocA hs rfl rfl zero30 ?_; clear hs; intro w1 b2 hs)
          | ((with_reducible refine at_store rfl ?_); refine wl_storeA hs rfl rfl rfl rfl (size30r _) (one30 _) 0 rfl (by simp only [rowOf_size]) ?_; clear hs; intro w1 hs)
)
    go_cut [18] (fun t wx => t = .bool (okS A n) ∧ wx = w1)
    case first =>
      have hS2 := of_decide_eq_false hS.out
      by_cases c3 : 0 ≤ A
      · by_cases c4 : A ≤ 128
        · go_wp2; go_meet; exact ⟨by rw [hS.out] <;> first | rfl | (congr 1; first | done | exact (decide_eq_false (by omega))), rfl⟩
        · go_wp2; go_meet; exact ⟨by rw [hS.out] <;> first | rfl | (congr 1; first | done | exact (decide_eq_false (by omega))), rfl⟩
      · go_wp2; go_meet; exact ⟨by rw [hS.out] <;> first | rfl | (congr 1; first | done | exact (decide_eq_false (by omega))), rfl⟩
    case rest =>
      obtain ⟨rfl, rfl⟩ := hcut
      rw [hS.out]
      go_wp2_with (first
          | (go_at_call 19; refine (HJ.out _ _ (hs.rd0 0 rfl (by omega))).mono ?_; rintro e w2 ⟨ao2, m, c2, rfl, hm, hc⟩; replace hs := hs.call0 hc; clear hc; replace hm := Lib.hid hm)
          | ((with_reducible refine at_load rfl ?_); refine wl_loadB hs rfl rfl Try.underlying30 rfl 0 rfl size30 ?_)
          | ((with_reducible refine at_load rfl ?_); refine wl_loadB hs rfl rfl Try.underlying30 rfl 1 rfl size30 ?_)
          | ((with_reducible refine at_load rfl ?_); refine wl_loadB hs rfl rfl Try.underlying30 rfl 2 rfl size30 ?_)
          | ((with_reducible refine at_load rfl ?_); refine wl_loadB hs rfl rfl Try.underlying30 rfl 3 rfl size30 ?_)
          | ((with_reducible refine at_load rfl ?_); refine wl_loadB hs rfl rfl Try.underlying30 rfl 4 rfl size30 ?_)
          | ((with_reducible refine at_build rfl ?_); refine wl_build0B rfl rfl Try.underlying30 (F := fun _ => 0) zero30 isz5 ?_)
          | ((with_reducible refine (at_bin .neq) rfl ?_); refine wl_neqB rfl rfl Try.underlying30 Try.underlying5 size5 eqg30 rfl rfl ?_)
          | ((with_reducible refine at_alloc rfl ?_); refine wl_allocA hs rfl rfl zero30 ?_; clear hs; intro w1 b2 hs)
          | ((with_reducible refine at_store rfl ?_); refine wl_storeA hs rfl rfl rfl rfl (size30r _) (one30 _) 0 rfl (by simp only [rowOf_size]) ?_; clear hs; intro w1 hs)
          | ((with_reducible refine at_buildSlice rfl ?_); refine wl_buildSlice1A hs rfl rfl Try.underlying25 info30 (by omega) (by omega) rfl (rowOf_size _ _) ?_; clear hs; intro w1 b3 hs)
          | ((with_reducible refine (at_bin .eql) rfl ?_); refine wl_eqI rfl rfl rfl rfl true (by rw [beq_iff_eq]; have hm2 := hm.out; omega) ?_)
          | (go_at_call 12; refine (known_any _).mono ?_; rintro e w2 ⟨rfl, hc⟩; replace hs := hs.call0 hc; clear hc))
      all_goals
        go_ret
        exact ⟨rfl, hs.letgo⟩

set_option maxRecDepth 100000 in
set_option maxHeartbeats 1000000 in
theorem refuses_ok (F G : Nat → UInt8) (A W : Int) (ao : Option Addr) (n cap db doff : Nat) (w : World) (hA : -9223372036854775808 ≤ A ∧ A ≤ 9223372036854775807) (hW : -9223372036854775808 ≤ W ∧ W ≤ 9223372036854775807)
    (hn : n ≤ 9223372036854775807) (hao : 0 < n → ao = some ⟨db, doff, none⟩) (hrd : Rd w db doff n (u8v G)) (g : Int) (X : Nat → UInt8)
    (Hp : Hid (okP A W = true)) (H1 : Hid (∀ w, Calls Try.prog 25 #[bytesV 128 F, .int .i64 A, .int .i64 W] w fun e w' => e = .returned (.tuple #[.int .i64 g, .int .i64 0]) ∧ Tr w [] w' []))
    (H2 : Hid (∀ w, Calls Try.prog 24 #[bytesV 128 F, .int .i64 A, .int .i64 W, .int .i64 0] w fun e w' => e = .returned (.tuple #[bytesV 128 X, .int .i64 0]) ∧ Tr w [] w' []))
    (H3 : Hid (∀ w, Calls Try.prog 24 #[bytesV 128 F, .int .i64 A, .int .i64 W, .int .i64 (-1)] w fun e w' => e = .returned (.tuple #[bytesV 128 (fun _ => 0), .int .i64 11]) ∧ Tr w [] w' [])) :
    Calls Try.prog 10 #[bytesV 128 F, .agg #[.int .i64 A, .int .i64 W], .slice ao n cap] w fun e w' => e = .returned (.bool true) ∧ Tr w [] w' [] := by
  have hs := Tr.refl w []
  have HR := Lib.hid hrd
  have HA := Lib.hid hao
  have HJ := Lib.hid (join_one F A hA)
  have HE := eqB_refl 128 (fun _ => 0)
  clear hrd hao
  go_enter Try.func10, Try.ntmps10
  go_upto_region 3 with (first
          | ((with_reducible refine at_box rfl ?_); refine wl_boxA hs rfl rfl rfl ?_; clear hs; intro w1 b0 hs)
          | ((with_reducible refine at_box rfl ?_); refine wl_boxA hs rfl rfl rfl ?_; clear hs; intro w1 b1 hs)
          | ((with_reducible refine at_load rfl ?_); refine wl_load1 hs rfl rfl Try.underlying3 rfl rfl 0 rfl rfl ?_))
  go_cut [9] (fun t wx => t = .bool (okP A W) ∧ wx = w1)
  case first =>
    by_cases c1 : 1 ≤ W
    · by_cases c2 : W ≤ 8
      · by_cases c3 : 0 ≤ A
        · go_wp2; go_meet; exact ⟨by unfold okP; congr 1; exact decide_eq_decide.2 (by omega), rfl⟩
        · go_wp2; go_meet; exact ⟨by unfold okP; congr 1; exact (decide_eq_false (by omega)).symm, rfl⟩
      · go_wp2; go_meet; exact ⟨by unfold okP; congr 1; exact (decide_eq_false (by omega)).symm, rfl⟩
    · go_wp2; go_meet; exact ⟨by unfold okP; congr 1; exact (decide_eq_false (by omega)).symm, rfl⟩
  obtain ⟨rfl, rfl⟩ := hcut
  rw [Hp.out]
  go_upto_region 6 with (first
          | (go_at_call 25; refine (H1.out _).mono ?_; rintro e w2 ⟨rfl, hc⟩; replace hs := hs.call0 hc; clear hc)
          | (go_at_call 24; refine (H2.out _).mono ?_; rintro e w2 ⟨rfl, hc⟩; replace hs := hs.call0 hc; clear hc)
          | ((with_reducible refine at_load rfl ?_); refine wl_loadB hs rfl rfl Try.underlying30 rfl 0 rfl size30 ?_)
          | ((with_reducible refine at_load rfl ?_); refine wl_loadB hs rfl rfl Try.underlying30 rfl 1 rfl size30 ?_)
          | ((with_reducible refine at_load rfl ?_); refine wl_loadB hs rfl rfl Try.underlying30 rfl 2 rfl size30 ?_)
          | ((with_reducible refine at_load rfl ?_); refine wl_loadB hs rfl rfl Try.underlying30 rfl 3 rfl size30 ?_)
          | ((with_reducible refine at_load rfl ?_); refine wl_loadB hs rfl rfl Try.underlying30 rfl 4 rfl size30 ?_)
          | ((with_reducible refine at_build rfl ?_); refine wl_build0B rfl rfl Try.underlying30 (F := fun _ => 0) zero30 isz5 ?_)
          | ((with_reducible refine (at_bin .neq) rfl ?_); refine wl_neqB rfl rfl Try.underlying30 Try.underlying5 size5 eqg30 rfl rfl ?_)
          | ((with_reducible refine at_alloc rfl ?_); refine wl_allocA hs rfl rfl zero30 ?_; clear hs; intro w1 b2 hs)
          | ((with_reducible refine at_store rfl ?_); refine wl_storeA hs rfl rfl rfl rfl (size30r _) (one30 _) 0 rfl (by simp only [rowOf_size]) ?_; clear hs; intro w1 hs)
)
  go_upto_region 11 with (first
          | (go_at_call 24; refine (H3.out _).mono ?_; rintro e w2 ⟨rfl, hc⟩; replace hs := hs.call0 hc; clear hc)
          | ((with_reducible refine at_load rfl ?_); refine wl_loadB hs rfl rfl Try.underlying30 rfl 0 rfl size30 ?_)
          | ((with_reducible refine at_load rfl ?_); refine wl_loadB hs rfl rfl Try.underlying30 rfl 1 rfl size30 ?_)
          | ((with_reducible refine at_load rfl ?_); refine wl_loadB hs rfl rfl Try.underlying30 rfl 2 rfl size30 ?_)
          | ((with_reducible refine at_load rfl ?_); refine wl_loadB hs rfl rfl Try.underlying30 rfl 3 rfl size30 ?_)
          | ((with_reducible refine at_load rfl ?_); refine wl_loadB hs rfl rfl Try.underlying30 rfl 4 rfl size30 ?_)
          | ((with_reducible refine at_build rfl ?_); refine wl_build0B rfl rfl Try.underlying30 (F := fun _ => 0) zero30 isz5 ?_)
          | ((with_reducible refine (at_bin .neq) rfl ?_); refine wl_neqB rfl rfl Try.underlying30 Try.underlying5 size5 eqg30 rfl rfl ?_)
          | ((with_reducible refine at_alloc rfl ?_); refine wl_allocA hs rfl rfl zero30 ?_; clear hs; intro w1 b2 hs)
          | ((with_reducible refine at_store rfl ?_); refine wl_storeA hs rfl rfl rfl rfl (size30r _) (one30 _) 0 rfl (by simp only [rowOf_size]) ?_; clear hs; intro w1 hs)
)

  by_cases hS : okS A n = true
  · obtain ⟨T, HS⟩ := splice_int F G A n ao cap db doff hS HA.out
    replace HS := Lib.hid HS
    replace hS := Lib.hid hS
    clear hn
    go_upto_region 12 with (first
          | (go_at_call 29; refine (HS.out _ (HR.out.keep hs)).mono ?_; rintro e w2 ⟨rfl, hc⟩; replace hs := hs.call0 hc; clear hc)
          | ((with_reducible refine at_load rfl ?_); refine wl_loadB hs rfl rfl Try.underlying30 rfl 0 rfl size30 ?_)
          | ((with_reducible refine at_load rfl ?_); refine wl_loadB hs rfl rfl Try.underlying30 rfl 1 rfl size30 ?_)
          | ((with_reducible refine at_load rfl ?_); refine wl_loadB hs rfl rfl Try.underlying30 rfl 2 rfl size30 ?_)
          | ((with_reducible refine at_load rfl ?_); refine wl_loadB hs rfl rfl Try.underlying30 rfl 3 rfl size30 ?_)
          | ((with_reducible refine at_load rfl ?_); refine wl_loadB hs rfl rfl Try.underlying30 rfl 4 rfl size30 ?_)
          | ((with_reducible refine at_build rfl ?_); refine wl_build0B rfl rfl Try.underlying30 (F := fun _ => 0) zero30 isz5 ?_)
          | ((with_reducible refine (at_bin .neq) rfl ?_); refine wl_neqB rfl rfl Try.underlying30 Try.underlying5 size5 eqg30 rfl rfl ?_)
          | ((with_reducible refine at_alloc rfl ?_); refine wl_allocA hs rfl rfl zero30 ?_; clear hs; intro w1 b2 hs)
          | ((with_reducible refine at_store rfl ?_); refine wl_storeA hs rfl rfl rfl rfl (size30r _) (one30 _) 0 rfl (by simp only [rowOf_size]) ?_; clear hs; intro w1 hs)
)
    go_cut [18] (fun t wx => t = .bool (okS A n) ∧ wx = w1)
    case first =>
      have hS2 := of_decide_eq_true hS.out
      go_wp2; go_meet; exact ⟨by rw [hS.out], rfl⟩
    case rest =>
      obtain ⟨rfl, rfl⟩ := hcut
      rw [hS.out]
      go_wp2_with (first
          | (go_at_call 19; refine (HJ.out _ _ (hs.rd0 0 rfl (by omega))).mono ?_; rintro e w2 ⟨ao2, m, c2, rfl, hm, hc⟩; replace hs := hs.call0 hc; clear hc; replace hm := Lib.hid hm)
          | ((with_reducible refine at_load rfl ?_); refine wl_loadB hs rfl rfl Try.underlying30 rfl 0 rfl size30 ?_)
          | ((with_reducible refine at_load rfl ?_); refine wl_loadB hs rfl rfl Try.underlying30 rfl 1 rfl size30 ?_)
          | ((with_reducible refine at_load rfl ?_); refine wl_loadB hs rfl rfl Try.underlying30 rfl 2 rfl size30 ?_)
          | ((with_reducible refine at_load rfl ?_); refine wl_loadB hs rfl rfl Try.underlying30 rfl 3 rfl size30 ?_)
          | ((with_reducible refine at_load rfl ?_); refine wl_loadB hs rfl rfl Try.underlying30 rfl 4 rfl size30 ?_)
          | ((with_reducible refine at_build rfl ?_); refine wl_build0B rfl rfl Try.underlying30 (F := fun _ => 0) zero30 isz5 ?_)
          | ((with_reducible refine (at_bin .neq) rfl ?_); refine wl_neqB rfl rfl Try.underlying30 Try.underlying5 size5 eqg30 rfl rfl ?_)
          | ((with_reducible refine at_alloc rfl ?_); refine wl_allocA hs rfl rfl zero30 ?_; clear hs; intro w1 b2 hs)
          | ((with_reducible refine at_store rfl ?_); refine wl_storeA hs rfl rfl rfl rfl (size30r _) (one30 _) 0 rfl (by simp only [rowOf_size]) ?_; clear hs; intro w1 hs)
          | ((with_reducible refine at_buildSlice rfl ?_); refine wl_buildSlice1A hs rfl rfl Try.underlying25 info30 (by omega) (by omega) rfl (rowOf_size _ _) ?_; clear hs; intro w1 b3 hs)
          | ((with_reducible refine (at_bin .eql) rfl ?_); refine wl_eqI rfl rfl rfl rfl true (by rw [beq_iff_eq]; have hm2 := hm.out; omega) ?_)
          | (go_at_call 12; refine (known_any _).mono ?_; rintro e w2 ⟨rfl, hc⟩; replace hs := hs.call0 hc; clear hc))
      all_goals
        go_ret
        exact ⟨rfl, hs.letgo⟩
  · replace hS : okS A n = false := by simpa using hS
    have HS := Lib.hid (splice_int_no F A n ao cap hn hS)
    replace hS := Lib.hid hS
    go_upto_region 12 with (first
          | (go_at_call 29; refine (HS.out _).mono ?_; rintro e w2 ⟨rfl, hc⟩; replace hs := hs.call0 hc; clear hc)
          | ((with_reducible refine at_load rfl ?_); refine wl_loadB hs rfl rfl Try.underlying30 rfl 0 rfl size30 ?_)
          | ((with_reducible refine at_load rfl ?_); refine wl_loadB hs rfl rfl Try.underlying30 rfl 1 rfl size30 ?_)
          | ((with_reducible refine at_load rfl ?_); refine wl_loadB hs rfl rfl Try.underlying30 rfl 2 rfl size30 ?_)
          | ((with_reducible refine at_load rfl ?_); refine wl_loadB hs rfl rfl Try.underlying30 rfl 3 rfl size30 ?_)
          | ((with_reducible refine at_load rfl ?_); refine wl_loadB hs rfl rfl Try.underlying30 rfl 4 rfl size30 ?_)
          | ((with_reducible refine at_build rfl ?_); refine wl_build0B rfl rfl Try.underlying30 (F := fun _ => 0) zero30 isz5 ?_)
          | ((with_reducible refine (at_bin .neq) rfl ?_); refine wl_neqB rfl rfl Try.underlying30 Try.underlying5 size5 eqg30 rfl rfl ?_)
          | ((with_reducible refine at_alloc rfl ?_); refine wl_allocA hs rfl rfl zero30 ?_; clear hs; intro w1 b2 hs)
          | ((with_reducible refine at_store rfl ?_); refine wl_storeA hs rfl rfl rfl rfl (size30r _) (one30 _) 0 rfl (by simp only [rowOf_size]) ?_; clear hs; intro w1 hs)
)
    go_cut [18] (fun t wx => t = .bool (okS A n) ∧ wx = w1)
    case first =>
      have hS2 := of_decide_eq_false hS.out
      by_cases c3 : 0 ≤ A
      · by_cases c4 : A ≤ 128
        · go_wp2; go_meet; exact ⟨by rw [hS.out] <;> first | rfl | (congr 1; first | done | exact (decide_eq_false (by omega))), rfl⟩
        · go_wp2; go_meet; exact ⟨by rw [hS.out] <;> first | rfl | (congr 1; first | done | exact (decide_eq_false (by omega))), rfl⟩
      · go_wp2; go_meet; exact ⟨by rw [hS.out] <;> first | rfl | (congr 1; first | done | exact (decide_eq_false (by omega))), rfl⟩
    case rest =>
      obtain ⟨rfl, rfl⟩ := hcut
      rw [hS.out]
      go_wp2_with (first
          | (go_at_call 19; refine (HJ.out _ _ (hs.rd0 0 rfl (by omega))).mono ?_; rintro e w2 ⟨ao2, m, c2, rfl, hm, hc⟩; replace hs := hs.call0 hc; clear hc; replace hm := Lib.hid hm)
          | ((with_reducible refine at_load rfl ?_); refine wl_loadB hs rfl rfl Try.underlying30 rfl 0 rfl size30 ?_)
          | ((with_reducible refine at_load rfl ?_); refine wl_loadB hs rfl rfl Try.underlying30 rfl 1 rfl size30 ?_)
          | ((with_reducible refine at_load rfl ?_); refine wl_loadB hs rfl rfl Try.underlying30 rfl 2 rfl size30 ?_)
          | ((with_reducible refine at_load rfl ?_); refine wl_loadB hs rfl rfl Try.underlying30 rfl 3 rfl size30 ?_)
          | ((with_reducible refine at_load rfl ?_); refine wl_loadB hs rfl rfl Try.underlying30 rfl 4 rfl size30 ?_)
          | ((with_reducible refine at_build rfl ?_); refine wl_build0B rfl rfl Try.underlying30 (F := fun _ => 0) zero30 isz5 ?_)
          | ((with_reducible refine (at_bin .neq) rfl ?_); refine wl_neqB rfl rfl Try.underlying30 Try.underlying5 size5 eqg30 rfl rfl ?_)
          | ((with_reducible refine at_alloc rfl ?_); refine wl_allocA hs rfl rfl zero30 ?_; clear hs; intro w1 b2 hs)
          | ((with_reducible refine at_store rfl ?_); refine wl_storeA hs rfl rfl rfl rfl (size30r _) (one30 _) 0 rfl (by simp only [rowOf_size]) ?_; clear hs; intro w1 hs)
          | ((with_reducible refine at_buildSlice rfl ?_); refine wl_buildSlice1A hs rfl rfl Try.underlying25 info30 (by omega) (by omega) rfl (rowOf_size _ _) ?_; clear hs; intro w1 b3 hs)
          | ((with_reducible refine (at_bin .eql) rfl ?_); refine wl_eqI rfl rfl rfl rfl true (by rw [beq_iff_eq]; have hm2 := hm.out; omega) ?_)
          | (go_at_call 12; refine (known_any _).mono ?_; rintro e w2 ⟨rfl, hc⟩; replace hs := hs.call0 hc; clear hc))
      all_goals
        go_ret
        exact ⟨rfl, hs.letgo⟩

set_option maxRecDepth 100000 in
set_option maxHeartbeats 1000000 in
theorem refuses_big (F G : Nat → UInt8) (A W : Int) (ao : Option Addr) (n cap db doff : Nat) (w : World) (hA : -9223372036854775808 ≤ A ∧ A ≤ 9223372036854775807) (hW : -9223372036854775808 ≤ W ∧ W ≤ 9223372036854775807)
    (hn : n ≤ 9223372036854775807) (hao : 0 < n → ao = some ⟨db, doff, none⟩) (hrd : Rd w db doff n (u8v G)) (X : Nat → UInt8)
    (Hp : Hid (okP A W = true)) (H1 : Hid (∀ w, Calls Try.prog 25 #[bytesV 128 F, .int .i64 A, .int .i64 W] w fun e w' => e = .returned (.tuple #[.int .i64 0, .int .i64 11]) ∧ Tr w [] w' []))
    (H2 : Hid (∀ w, Calls Try.prog 24 #[bytesV 128 F, .int .i64 A, .int .i64 W, .int .i64 0] w fun e w' => e = .returned (.tuple #[bytesV 128 X, .int .i64 0]) ∧ Tr w [] w' []))
    (H3 : Hid (∀ w, Calls Try.prog 24 #[bytesV 128 F, .int .i64 A, .int .i64 W, .int .i64 (-1)] w fun e w' => e = .returned (.tuple #[bytesV 128 (fun _ => 0), .int .i64 11]) ∧ Tr w [] w' [])) :
    Calls Try.prog 10 #[bytesV 128 F, .agg #[.int .i64 A, .int .i64 W], .slice ao n cap] w fun e w' => e = .returned (.bool true) ∧ Tr w [] w' [] := by
  have hs := Tr.refl w []
  have HR := Lib.hid hrd
  have HA := Lib.hid hao
  have HJ := Lib.hid (join_one F A hA)
  have HE := eqB_refl 128 (fun _ => 0)
  clear hrd hao
  go_enter Try.func10, Try.ntmps10
  go_upto_region 3 with (first
          | ((with_reducible refine at_box rfl ?_); refine wl_boxA hs rfl rfl rfl ?_; clear hs; intro w1 b0 hs)
          | ((with_reducible refine at_box rfl ?_); refine wl_boxA hs rfl rfl rfl ?_; clear hs; intro w1 b1 hs)
          | ((with_reducible refine at_load rfl ?_); refine wl_load1 hs rfl rfl Try.underlying3 rfl rfl 0 rfl rfl ?_))
  go_cut [9] (fun t wx => t = .bool (okP A W) ∧ wx = w1)
  case first =>
    by_cases c1 : 1 ≤ W
    · by_cases c2 : W ≤ 8
      · by_cases c3 : 0 ≤ A
        · go_wp2; go_meet; exact ⟨by unfold okP; congr 1; exact decide_eq_decide.2 (by omega), rfl⟩
        · go_wp2; go_meet; exact ⟨by unfold okP; congr 1; exact (decide_eq_false (by omega)).symm, rfl⟩
      · go_wp2; go_meet; exact ⟨by unfold okP; congr 1; exact (decide_eq_false (by omega)).symm, rfl⟩
    · go_wp2; go_meet; exact ⟨by unfold okP; congr 1; exact (decide_eq_false (by omega)).symm, rfl⟩
  obtain ⟨rfl, rfl⟩ := hcut
  rw [Hp.out]
  go_upto_region 6 with (first
          | (go_at_call 25; refine (H1.out _).mono ?_; rintro e w2 ⟨rfl, hc⟩; replace hs := hs.call0 hc; clear hc)
          | (go_at_call 24; refine (H2.out _).mono ?_; rintro e w2 ⟨rfl, hc⟩; replace hs := hs.call0 hc; clear hc)
          | ((with_reducible refine at_load rfl ?_); refine wl_loadB hs rfl rfl Try.underlying30 rfl 0 rfl size30 ?_)
          | ((with_reducible refine at_load rfl ?_); refine wl_loadB hs rfl rfl Try.underlying30 rfl 1 rfl size30 ?_)
          | ((with_reducible refine at_load rfl ?_); refine wl_loadB hs rfl rfl Try.underlying30 rfl 2 rfl size30 ?_)
          | ((with_reducible refine at_load rfl ?_); refine wl_loadB hs rfl rfl Try.underlying30 rfl 3 rfl size30 ?_)
          | ((with_reducible refine at_load rfl ?_); refine wl_loadB hs rfl rfl Try.underlying30 rfl 4 rfl size30 ?_)
          | ((with_reducible refine at_build rfl ?_); refine wl_build0B rfl rfl Try.underlying30 (F := fun _ => 0) zero30 isz5 ?_)
          | ((with_reducible refine (at_bin .neq) rfl ?_); refine wl_neqB rfl rfl Try.underlying30 Try.underlying5 size5 eqg30 rfl rfl ?_)
          | ((with_reducible refine at_alloc rfl ?_); refine wl_allocA hs rfl rfl zero30 ?_; clear hs; intro w1 b2 hs)
          | ((with_reducible refine at_store rfl ?_); refine wl_storeA hs rfl rfl rfl rfl (size30r _) (one30 _) 0 rfl (by simp only [rowOf_size]) ?_; clear hs; intro w1 hs)
)
  go_upto_region 11 with (first
          | (go_at_call 24; refine (H3.out _).mono ?_; rintro e w2 ⟨rfl, hc⟩; replace hs := hs.call0 hc; clear hc)
          | ((with_reducible refine at_load rfl ?_); refine wl_loadB hs rfl rfl Try.underlying30 rfl 0 rfl size30 ?_)
          | ((with_reducible refine at_load rfl ?_); refine wl_loadB hs rfl rfl Try.underlying30 rfl 1 rfl size30 ?_)
          | ((with_reducible refine at_load rfl ?_); refine wl_loadB hs rfl rfl Try.underlying30 rfl 2 rfl size30 ?_)
          | ((with_reducible refine at_load rfl ?_); refine wl_loadB hs rfl rfl Try.underlying30 rfl 3 rfl size30 ?_)
          | ((with_reducible refine at_load rfl ?_); refine wl_loadB hs rfl rfl Try.underlying30 rfl 4 rfl size30 ?_)
          | ((with_reducible refine at_build rfl ?_); refine wl_build0B rfl rfl Try.underlying30 (F := fun _ => 0) zero30 isz5 ?_)
          | ((with_reducible refine (at_bin .neq) rfl ?_); refine wl_neqB rfl rfl Try.underlying30 Try.underlying5 size5 eqg30 rfl rfl ?_)
          | ((with_reducible refine at_alloc rfl ?_); refine wl_allocA hs rfl rfl zero30 ?_; clear hs; intro w1 b2 hs)
          | ((with_reducible refine at_store rfl ?_); refine wl_storeA hs rfl rfl rfl rfl (size30r _) (one30 _) 0 rfl (by simp only [rowOf_size]) ?_; clear hs; intro w1 hs)
)

  by_cases hS : okS A n = true
  · obtain ⟨T, HS⟩ := splice_int F G A n ao cap db doff hS HA.out
    replace HS := Lib.hid HS
    replace hS := Lib.hid hS
    clear hn
    go_upto_region 12 with (first
          | (go_at_call 29; refine (HS.out _ (HR.out.keep hs)).mono ?_; rintro e w2 ⟨rfl, hc⟩; replace hs := hs.call0 hc; clear hc)
          | ((with_reducible refine at_load rfl ?_); refine wl_loadB hs rfl rfl Try.underlying30 rfl 0 rfl size30 ?_)
          | ((with_reducible refine at_load rfl ?_); refine wl_loadB hs rfl rfl Try.underlying30 rfl 1 rfl size30 ?_)
          | ((with_reducible refine at_load rfl ?_); refine wl_loadB hs rfl rfl Try.underlying30 rfl 2 rfl size30 ?_)
          | ((with_reducible refine at_load rfl ?_); refine wl_loadB hs rfl rfl Try.underlying30 rfl 3 rfl size30 ?_)
          | ((with_reducible refine at_load rfl ?_); refine wl_loadB hs rfl rfl Try.underlying30 rfl 4 rfl size30 ?_)
          | ((with_reducible refine at_build rfl ?_); refine wl_build0B rfl rfl Try.underlying30 (F := fun _ => 0) zero30 isz5 ?_)
          | ((with_reducible refine (at_bin .neq) rfl ?_); refine wl_neqB rfl rfl Try.underlying30 Try.underlying5 size5 eqg30 rfl rfl ?_)
          | ((with_reducible refine at_alloc rfl ?_); refine wl_allocA hs rfl rfl zero30 ?_; clear hs; intro w1 b2 hs)
          | ((with_reducible refine at_store rfl ?_); refine wl_storeA hs rfl rfl rfl rfl (size30r _) (one30 _) 0 rfl (by simp only [rowOf_size]) ?_; clear hs; intro w1 hs)
)
    go_cut [18] (fun t wx => t = .bool (okS A n) ∧ wx = w1)
    case first =>
      have hS2 := of_decide_eq_true hS.out
      go_wp2; go_meet; exact ⟨by rw [hS.out], rfl⟩
    case rest =>
      obtain ⟨rfl, rfl⟩ := hcut
      rw [hS.out]
      go_wp2_with (first
          | (go_at_call 19; refine (HJ.out _ _ (hs.rd0 0 rfl (by omega))).mono ?_; rintro e w2 ⟨ao2, m, c2, rfl, hm, hc⟩; replace hs := hs.call0 hc; clear hc; replace hm := Lib.hid hm)
          | ((with_reducible refine at_load rfl ?_); refine wl_loadB hs rfl rfl Try.underlying30 rfl 0 rfl size30 ?_)
          | ((with_reducible refine at_load rfl ?_); refine wl_loadB hs rfl rfl Try.underlying30 rfl 1 rfl size30 ?_)
          | ((with_reducible refine at_load rfl ?_); refine wl_loadB hs rfl rfl Try.underlying30 rfl 2 rfl size30 ?_)
          | ((with_reducible refine at_load rfl ?_); refine wl_loadB hs rfl rfl Try.underlying30 rfl 3 rfl size30 ?_)
          | ((with_reducible refine at_load rfl ?_); refine wl_loadB hs rfl rfl Try.underlying30 rfl 4 rfl size30 ?_)
          | ((with_reducible refine at_build rfl ?_); refine wl_build0B rfl rfl Try.underlying30 (F := fun _ => 0) zero30 isz5 ?_)
          | ((with_reducible refine (at_bin .neq) rfl ?_); refine wl_neqB rfl rfl Try.underlying30 Try.underlying5 size5 eqg30 rfl rfl ?_)
          | ((with_reducible refine at_alloc rfl ?_); refine wl_allocA hs rfl rfl zero30 ?_; clear hs; intro w1 b2 hs)
          | ((with_reducible refine at_store rfl ?_); refine wl_storeA hs rfl rfl rfl rfl (size30r _) (one30 _) 0 rfl (by simp only [rowOf_size]) ?_; clear hs; intro w1 hs)
          | ((with_reducible refine at_buildSlice rfl ?_); refine wl_buildSlice1A hs rfl rfl Try.underlying25 info30 (by omega) (by omega) rfl (rowOf_size _ _) ?_; clear hs; intro w1 b3 hs)
          | ((with_reducible refine (at_bin .eql) rfl ?_); refine wl_eqI rfl rfl rfl rfl true (by rw [beq_iff_eq]; have hm2 := hm.out; omega) ?_)
          | (go_at_call 12; refine (known_any _).mono ?_; rintro e w2 ⟨rfl, hc⟩; replace hs := hs.call0 hc; clear hc))
      all_goals
        go_ret
        exact ⟨rfl, hs.letgo⟩
  · replace hS : okS A n = false := by simpa using hS
    have HS := Lib.hid (splice_int_no F A n ao cap hn hS)
    replace hS := Lib.hid hS
    go_upto_region 12 with (first
          | (go_at_call 29; refine (HS.out _).mono ?_; rintro e w2 ⟨rfl, hc⟩; replace hs := hs.call0 hc; clear hc)
          | ((with_reducible refine at_load rfl ?_); refine wl_loadB hs rfl rfl Try.underlying30 rfl 0 rfl size30 ?_)
          | ((with_reducible refine at_load rfl ?_); refine wl_loadB hs rfl rfl Try.underlying30 rfl 1 rfl size30 ?_)
          | ((with_reducible refine at_load rfl ?_); refine wl_loadB hs rfl rfl Try.underlying30 rfl 2 rfl size30 ?_)
          | ((with_reducible refine at_load rfl ?_); refine wl_loadB hs rfl rfl Try.underlying30 rfl 3 rfl size30 ?_)
          | ((with_reducible refine at_load rfl ?_); refine wl_loadB hs rfl rfl Try.underlying30 rfl 4 rfl size30 ?_)
          | ((with_reducible refine at_build rfl ?_); refine wl_build0B rfl rfl Try.underlying30 (F := fun _ => 0) zero30 isz5 ?_)
          | ((with_reducible refine (at_bin .neq) rfl ?_); refine wl_neqB rfl rfl Try.underlying30 Try.underlying5 size5 eqg30 rfl rfl ?_)
          | ((with_reducible refine at_alloc rfl ?_); refine wl_allocA hs rfl rfl zero30 ?_; clear hs; intro w1 b2 hs)
          | ((with_reducible refine at_store rfl ?_); refine wl_storeA hs rfl rfl rfl rfl (size30r _) (one30 _) 0 rfl (by simp only [rowOf_size]) ?_; clear hs; intro w1 hs)
)
    go_cut [18] (fun t wx => t = .bool (okS A n) ∧ wx = w1)
    case first =>
      have hS2 := of_decide_eq_false hS.out
      by_cases c3 : 0 ≤ A
      · by_cases c4 : A ≤ 128
        · go_wp2; go_meet; exact ⟨by rw [hS.out] <;> first | rfl | (congr 1; first | done | exact (decide_eq_false (by omega))), rfl⟩
        · go_wp2; go_meet; exact ⟨by rw [hS.out] <;> first | rfl | (congr 1; first | done | exact (decide_eq_false (by omega))), rfl⟩
      · go_wp2; go_meet; exact ⟨by rw [hS.out] <;> first | rfl | (congr 1; first | done | exact (decide_eq_false (by omega))), rfl⟩
    case rest =>
      obtain ⟨rfl, rfl⟩ := hcut
      rw [hS.out]
      go_wp2_with (first
          | (go_at_call 19; refine (HJ.out _ _ (hs.rd0 0 rfl (by omega))).mono ?_; rintro e w2 ⟨ao2, m, c2, rfl, hm, hc⟩; replace hs := hs.call0 hc; clear hc; replace hm := Lib.hid hm)
          | ((with_reducible refine at_load rfl ?_); refine wl_loadB hs rfl rfl Try.underlying30 rfl 0 rfl size30 ?_)
          | ((with_reducible refine at_load rfl ?_); refine wl_loadB hs rfl rfl Try.underlying30 rfl 1 rfl size30 ?_)
          | ((with_reducible refine at_load rfl ?_); refine wl_loadB hs rfl rfl Try.underlying30 rfl 2 rfl size30 ?_)
          | ((with_reducible refine at_load rfl ?_); refine wl_loadB hs rfl rfl Try.underlying30 rfl 3 rfl size30 ?_)
          | ((with_reducible refine at_load rfl ?_); refine wl_loadB hs rfl rfl Try.underlying30 rfl 4 rfl size30 ?_)
          | ((with_reducible refine at_build rfl ?_); refine wl_build0B rfl rfl Try.underlying30 (F := fun _ => 0) zero30 isz5 ?_)
          | ((with_reducible refine (at_bin .neq) rfl ?_); refine wl_neqB rfl rfl Try.underlying30 Try.underlying5 size5 eqg30 rfl rfl ?_)
          | ((with_reducible refine at_alloc rfl ?_); refine wl_allocA hs rfl rfl zero30 ?_; clear hs; intro w1 b2 hs)
          | ((with_reducible refine at_store rfl ?_); refine wl_storeA hs rfl rfl rfl rfl (size30r _) (one30 _) 0 rfl (by simp only [rowOf_size]) ?_; clear hs; intro w1 hs)
          | ((with_reducible refine at_buildSlice rfl ?_); refine wl_buildSlice1A hs rfl rfl Try.underlying25 info30 (by omega) (by omega) rfl (rowOf_size _ _) ?_; clear hs; intro w1 b3 hs)
          | ((with_reducible refine (at_bin .eql) rfl ?_); refine wl_eqI rfl rfl rfl rfl true (by rw [beq_iff_eq]; have hm2 := hm.out; omega) ?_)
          | (go_at_call 12; refine (known_any _).mono ?_; rintro e w2 ⟨rfl, hc⟩; replace hs := hs.call0 hc; clear hc))
      all_goals
        go_ret
        exact ⟨rfl, hs.letgo⟩

end Go.Proofs.Ytlekfbcmjcgabaa
