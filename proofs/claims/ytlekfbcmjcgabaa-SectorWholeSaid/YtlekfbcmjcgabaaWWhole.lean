/- SectorWhole: the walk. -/
import Derived.Test.YtlekfbcmjcgabaaRows
import Derived.Test.YtlekfbcmjcgabaaWl
import Derived.Test.YtlekfbcmjcgabaaWq
import Derived.Test.YtlekfbcmjcgabaaPlain
import Derived.BigQuiet
import Derived.WalkSpells
import Derived.WalkLawsBesides
import Derived.Test.YtlekfbcmjcgabaaK
import Derived.Test.YtlekfbcmjcgabaaF
import Derived.Deep.DeepCutAuto
namespace Go.Proofs.Ytlekfbcmjcgabaa
set_option linter.unusedVariables false
set_option linter.unusedSimpArgs false
open Go Go.Sp Go.RowKit Go.BigFrame

/-- What two appends leave. -/
theorem app2 (p q N : Nat) (f : Nat → Value) (h : p + q = N) : [] ++ (rowOf p f).toList ++ (rowOf q fun j => f (p + j)).toList = (rowOf N f).toList := by
  subst h
  rw [List.nil_append]
  exact rowOf_append p q f

theorem appB (C : Nat → UInt8) (ma mb m : Nat) (h : ma + mb = m) {v : Value} : Res.own 30 128 v (0 + ma + mb) ([] ++ (rowOf (ma * 128) (u8v C)).toList ++ (rowOf (mb * 128) (u8v fun j => C (ma * 128 + j))).toList) = Res.own 30 128 v m (rowOf (m * 128) (u8v C)).toList := by
  have e : (rowOf (mb * 128) (u8v fun j => C (ma * 128 + j))) = rowOf (mb * 128) fun j => u8v C (ma * 128 + j) := rfl
  rw [e, app2 (ma * 128) (mb * 128) (m * 128) (u8v C) (by omega), Nat.zero_add, h]

theorem appJ (C : Nat → UInt8) (p q s k : Nat) (h : p + q = s) (hp : p = min s (128 * k)) {v : Value} : Res.own 5 1 v (0 + p + q) ([] ++ (rowOf p (u8v C)).toList ++ (rowOf q (u8v fun j => C (k * 128 + j))).toList) = Res.own 5 1 v s (rowOf s (u8v C)).toList := by
  have e : (rowOf q (u8v fun j => C (k * 128 + j))) = rowOf q fun j => u8v C (p + j) := rowOf_congr fun j hj => by
    show u8v C (k * 128 + j) = u8v C (p + j)
    rw [show p = k * 128 by omega]
  rw [e, app2 p q s (u8v C) h, Nat.zero_add, h]
theorem eqS_refl (n : Nat) (F : Nat → UInt8) : eqS n F n F = true := eqS_iff.2 ⟨rfl, fun _ _ => rfl⟩

theorem ex_neqSR {P : Program} {w : World} {a : Act} {o : Oper} {t yt : TypeId} {x y : Operand} (ho : o.op = .binOp .neq t x y yt) {s1 s2 : ByteArray} (hx : a.eval x = .string s1) (hy : a.eval y = .string s2) {n m : Nat} {F G : Nat → UInt8} (h1 : s1 = strOf n F) (h2 : s2 = strOf m G) {R : Bool} (hR : (!eqS n F m G) = R) :
    (execOp a.eval o).run P w = .ok (.value (.bool R)) w := by
  subst hR
  exact ex_eqlS .neq true rfl ho hx hy h1 h2
theorem ex_eqlSR {P : Program} {w : World} {a : Act} {o : Oper} {t yt : TypeId} {x y : Operand} (ho : o.op = .binOp .eql t x y yt) {s1 s2 : ByteArray} (hx : a.eval x = .string s1) (hy : a.eval y = .string s2) {n m : Nat} {F G : Nat → UInt8} (h1 : s1 = strOf n F) (h2 : s2 = strOf m G) {R : Bool} (hR : (eqS n F m G) = R) :
    (execOp a.eval o).run P w = .ok (.value (.bool R)) w := by
  subst hR
  exact ex_eqlS .eql false rfl ho hx hy h1 h2

theorem ex_neI {P : Program} {w : World} {a : Act} {o : Oper} {t yt : TypeId} {x y : Operand} (ho : o.op = .binOp .neq t x y yt) {kx : IntKind} {X Y : Int} (hx : a.eval x = .int kx X) (hy : a.eval y = .int kx Y) {R : Bool} (hR : (X != Y) = R) :
    (execOp a.eval o).run P w = .ok (.value (.bool R)) w := by
  unfold execOp
  simp only [ho, hx, hy, eqGuard, binOp, Op.intCmp, hR]
  simp
theorem wrap_in {X : Int} (h : -9223372036854775808 ≤ X ∧ X ≤ 9223372036854775807) : IntKind.i64.wrap X = X := by
  simp only [IntKind.wrap, IntKind.bits, IntKind.signed]
  simp
  omega
theorem whole_q (n m : Nat) (hn : n ≤ 140737488351232) (hm : m = (n + 127) / 128) : ((m : Int) != IntKind.i64.wrap ((IntKind.i64.wrap ((n : Int) + 127)).tdiv 128)) = false := by
  rw [wrap_in (X := (n : Int) + 127) (by omega), Int.tdiv_eq_ediv_of_nonneg (by omega), wrap_in (by omega)]
  simp
  omega

set_option maxRecDepth 100000 in
set_option maxHeartbeats 2000000 in
theorem whole_core (G C : Nat → UInt8) (x : Int) (n m ma mb k s p q at' cap : Nat) (ao : Option Addr) (db doff : Nat) (w : World)
    (hn : n ≤ 140737488351232) (hnc : n ≤ cap) (hc0 : cap ≤ 9223372036854775807) (hao : 0 < n → ao = some ⟨db, doff, none⟩) (hrd : Rd w db doff n (u8v G))
    (hm : m = (n + 127) / 128) (hk : k ≤ m) (hs0 : s ≤ 128 * m) (hab : ma + mb = m) (hpq : p + q = s) (hp : p = min s (128 * k))
    (HC : Hid (∀ i, n ≤ i → C i = 0)) (HGC : Hid (eqS n C n G = true))
    (hpk : Hid (∀ w, Calls Try.prog 26 #[.int .i64 x, .int .i64 ((m : Int) + 1)] w fun e w' => e = .returned (.int .i64 k) ∧ w = w'))
    (hps : Hid (∀ w, Calls Try.prog 26 #[.int .i64 x, .int .i64 (128 * (m : Int) + 1)] w fun e w' => e = .returned (.int .i64 s) ∧ w = w'))
    (hat : Hid (((at' : Int) = 128 * (k : Int) ∧ ¬ (n : Int) < 128 * (k : Int) ∧ 128 * (k : Int) ≤ n) ∨ (at' = n ∧ (n : Int) < 128 * (k : Int) ∧ ¬ 128 * (k : Int) ≤ (n : Int)))) (hatn : at' ≤ n)
    (H2 : Hid (∀ ao2 c2 w, at' ≤ c2 → (0 < at' → ao2 = some ⟨db, doff + 0 * 1, none⟩) → Rd w db doff n (u8v G) → Calls Try.prog 14 #[.slice ao2 at' c2] w fun e w' => ∃ v, e = .returned v ∧ Tr w [] w' [Res.own 30 128 v ma (rowOf (ma * 128) (u8v C)).toList]))
    (H3 : Hid (∀ ao2 c2 w, n - at' ≤ c2 → (at' < n → ao2 = some ⟨db, doff + at' * 1, none⟩) → Rd w db doff n (u8v G) → Calls Try.prog 14 #[.slice ao2 (n - at') c2] w fun e w' => ∃ v, e = .returned v ∧ Tr w [] w' [Res.own 30 128 v mb (rowOf (mb * 128) (u8v fun j => C (ma * 128 + j))).toList]))
    (H1 : Hid (∀ w, Rd w db doff n (u8v G) → Calls Try.prog 14 #[.slice ao n cap] w fun e w' => ∃ v, e = .returned v ∧ Tr w [] w' [Res.own 30 128 v m (rowOf (m * 128) (u8v C)).toList])) :
    Calls Try.prog 7 #[.slice ao n cap, .int .i64 x] w fun e w' => e = .returned (.bool true) ∧ Tr w [] w' [] := by
  have hs := Tr.refl w []
  have HR := Lib.hid hrd
  have HA := Lib.hid hao
  have HM := Lib.hid hm
  have HQ := Lib.hid (whole_q n m hn hm)
  have hm2 : n ≤ m * 128 := by omega
  have hm3 : m * 128 ≤ 140737488355328 := by omega
  clear hrd hao hm
  go_enter Try.func7, Try.ntmps7
  go_upto_region 2 with (first
          | (go_at_call 14; refine (H1.out _ (HR.out.keep hs)).mono ?_; rintro e w1 ⟨v, rfl, hc⟩; replace hs := hs.call1 hc; clear hc; obtain ⟨aoL, cL, gL, rfl, hcL, hcLm, haoL, hcL0⟩ := hs.own_open 0 rfl; replace haoL := Lib.hid haoL; replace hcL0 := Lib.hid hcL0))
  have HJ := Lib.hid (fun (N : Int) (hN : N ≤ 9223372036854775807) (K : Nat) (hK : K = min N.toNat (m * 128)) (w' : World) (hw : Rd w' gL 0 (m * 128) (u8v C)) => join_any N m cL aoL gL 0 C w' hN hm3 haoL.out hw K hK)
  refine wt_enter 17 rfl hs (by kernel_rfl) ?_
  clear hs; intro w1 hs; have hC := hs
  refine wt_take 0 rfl (by kernel_rfl) (by kernel_rfl) (by kernel_rfl) (fun _ _ _ _ h => h) rfl hC ⟨_, fun w hw => by (go_simp; try with_reducible rfl), fun a1 ha => ?_⟩
  simp only [Act.put, List.setIfInBounds_toArray, List.set_cons_succ, List.set_cons_zero] at ha; subst ha
  refine wt_take 1 rfl (by kernel_rfl) (by kernel_rfl) (by kernel_rfl) (fun _ _ _ _ h => h) rfl hC ⟨_, fun w hw => by (go_simp; try with_reducible rfl), fun a1 ha => ?_⟩
  simp only [Act.put, List.setIfInBounds_toArray, List.set_cons_succ, List.set_cons_zero] at ha; subst ha
  refine wt_take 2 rfl (by kernel_rfl) (by kernel_rfl) (by kernel_rfl) (fun _ _ _ _ h => h) rfl hC ⟨_, fun w hw => by (go_simp; try with_reducible rfl), fun a1 ha => ?_⟩
  simp only [Act.put, List.setIfInBounds_toArray, List.set_cons_succ, List.set_cons_zero] at ha; subst ha
  refine wt_take 3 rfl (by kernel_rfl) (by kernel_rfl) (by kernel_rfl) (fun _ _ _ _ h => h) rfl hC ⟨_, fun w hw => by (go_simp; try with_reducible rfl), fun a1 ha => ?_⟩
  simp only [Act.put, List.setIfInBounds_toArray, List.set_cons_succ, List.set_cons_zero] at ha; subst ha
  refine wt_take 4 rfl (by kernel_rfl) (by kernel_rfl) (by kernel_rfl) (fun _ _ _ _ h => h) rfl hC ⟨_, fun w hw => by (go_simp; try with_reducible rfl), fun a1 ha => ?_⟩
  simp only [Act.put, List.setIfInBounds_toArray, List.set_cons_succ, List.set_cons_zero] at ha; subst ha
  refine wt_take 5 rfl (by kernel_rfl) (by kernel_rfl) (by kernel_rfl) (fun _ _ _ _ h => h) rfl hC ⟨_, fun w hw => by (go_simp; try with_reducible rfl), fun a1 ha => ?_⟩
  simp only [Act.put, List.setIfInBounds_toArray, List.set_cons_succ, List.set_cons_zero] at ha; subst ha
  refine wt_take 6 rfl (by kernel_rfl) (by kernel_rfl) (by kernel_rfl) (fun _ _ _ _ h => h) rfl hC ⟨.bool false, fun w hw => ex_neI rfl rfl rfl HQ.out, fun a1 ha => ?_⟩
  simp only [Act.put, List.setIfInBounds_toArray, List.set_cons_succ, List.set_cons_zero] at ha; subst ha
  refine wt_take 7 rfl (by kernel_rfl) (by kernel_rfl) (by kernel_rfl) (fun _ _ _ _ h => h) rfl hC ⟨_, fun w hw => by (go_simp; try with_reducible rfl), fun a1 ha => ?_⟩
  simp only [Act.put, List.setIfInBounds_toArray, List.set_cons_succ, List.set_cons_zero] at ha; subst ha
  refine wt_take 8 rfl (by kernel_rfl) (by kernel_rfl) (by kernel_rfl) (fun _ _ _ _ h => h) rfl hC ⟨_, fun w hw => by (go_simp; try with_reducible rfl), fun a1 ha => ?_⟩
  simp only [Act.put, List.setIfInBounds_toArray, List.set_cons_succ, List.set_cons_zero] at ha; subst ha
  refine wt_take 9 rfl (by kernel_rfl) (by kernel_rfl) (by kernel_rfl) (fun _ _ _ _ h => h) rfl hC ⟨_, fun w hw => by (go_simp; try with_reducible rfl), fun a1 ha => ?_⟩
  simp only [Act.put, List.setIfInBounds_toArray, List.set_cons_succ, List.set_cons_zero] at ha; subst ha
  refine wt_take 10 rfl (by kernel_rfl) (by kernel_rfl) (by kernel_rfl) (fun _ _ _ _ h => h) rfl hC ⟨_, fun w hw => by (go_simp; try with_reducible rfl), fun a1 ha => ?_⟩
  simp only [Act.put, List.setIfInBounds_toArray, List.set_cons_succ, List.set_cons_zero] at ha; subst ha
  refine wt_take 13 rfl (by kernel_rfl) (by kernel_rfl) (by kernel_rfl) (fun _ _ _ _ h => h) rfl hC ⟨_, fun w hw => by (go_simp; try with_reducible rfl), fun a1 ha => ?_⟩
  simp only [Act.put, List.setIfInBounds_toArray, List.set_cons_succ, List.set_cons_zero] at ha; subst ha
  refine wt_take 14 rfl (by kernel_rfl) (by kernel_rfl) (by kernel_rfl) (fun _ _ _ _ h => h) rfl hC ⟨.string (strOf n G), fun w hw => ex_convStr rfl Try.underlying23 Try.underlying5 Try.underlying9 rfl HA.out (HR.out.keep hw), fun a1 ha => ?_⟩
  simp only [Act.put, List.setIfInBounds_toArray, List.set_cons_succ, List.set_cons_zero] at ha; subst ha
  refine wt_one 11 (by kernel_rfl) ?_
  refine wt_callR (R := fun v => Res.own 5 1 v n (rowOf n (u8v C)).toList) hs rfl rfl (by go_simp) (HJ.out n (by omega) n (by omega) _ (hs.own_rdx 0 rfl haoL.out)) (fun _ => by simp only [Act.put, List.setIfInBounds_toArray, List.set_cons_succ, List.set_cons_zero]; rfl) ?_
  clear hs; intro w1 v1 hs; obtain ⟨ao1, c1, g1, rfl, hc1, hc1m, hao1, hc10⟩ := hs.own_open 0 rfl; replace hao1 := Lib.hid hao1; clear hc10
  refine wt_and (hs.sub (by repeat (first | exact List.Sublist.refl _ | refine List.Sublist.cons_cons _ ?_ | refine List.Sublist.cons _ ?_))) fun hC => ?_
  refine wt_one 12 (by kernel_rfl) ?_
  refine wt_run (v := .string (strOf n C)) rfl rfl (ex_convStr rfl Try.underlying23 Try.underlying5 Try.underlying9 rfl hao1.out (hs.own_rdx 0 rfl hao1.out)) (by simp only [Act.put, List.setIfInBounds_toArray, List.set_cons_succ, List.set_cons_zero]; rfl) ?_
  refine wt_and (hs.sub (by repeat (first | exact List.Sublist.refl _ | refine List.Sublist.cons_cons _ ?_ | refine List.Sublist.cons _ ?_))) fun hC => ?_
  refine wt_take 15 rfl (by kernel_rfl) (by kernel_rfl) (by kernel_rfl) (fun _ _ _ _ h => h) rfl hC ⟨.bool false, fun w hw => ex_neqSR rfl rfl rfl rfl rfl (by rw [HGC.out]; rfl), fun a1 ha => ?_⟩
  simp only [Act.put, List.setIfInBounds_toArray, List.set_cons_succ, List.set_cons_zero] at ha; subst ha
  refine wt_take 16 rfl (by kernel_rfl) (by kernel_rfl) (by kernel_rfl) (fun _ _ _ _ h => h) rfl hC ⟨_, fun w hw => by (go_simp; try with_reducible rfl), fun a1 ha => ?_⟩
  simp only [Act.put, List.setIfInBounds_toArray, List.set_cons_succ, List.set_cons_zero] at ha; subst ha
  refine wt_done (by kernel_rfl) ?_
  replace hs := hs.erase 0
  go_upto_if 34 with fail
  go_cut [5] (fun t wx => t = .slice aoL m cL ∧ Tr w [] wx [Res.own 30 128 (.slice aoL m cL) m (rowOf (m * 128) (u8v C)).toList])
  case first =>
    by_cases hm0 : m = 0
    · have hm1 : ¬ (0 : Int) < (m : Int) := by omega
      clear hm0
      go_wp2
      go_meet
      exact ⟨rfl, hs⟩
    · have hm1 : (0 : Int) < (m : Int) := by omega
      have haoL2 := Lib.hid (haoL.out (by omega))
      go_wp2_with (first
          | (go_at_call 19; refine (HJ.out (128 * (m : Int)) (by omega) (m * 128) (by omega) _ (hs.own_rdx 0 rfl haoL.out)).mono ?_; rintro e w2 ⟨v, rfl, hc⟩; replace hs := hs.call1 hc; clear hc; obtain ⟨aoZ, cZ, gZ, rfl, hcZ, hcZm, haoZ, hcZ0⟩ := hs.own_open 0 rfl; obtain rfl := haoZ (by omega); clear haoZ hcZ0))
      go_loopw [7] (fun i wr => ∃ j : Nat, n ≤ j ∧ j ≤ m * 128 ∧ i = .int .i64 j ∧ Tr w [] wr [Res.own 5 1 (.slice (some ⟨gZ, 0, none⟩) (m * 128) cZ) (m * 128) (rowOf (m * 128) (u8v C)).toList, Res.own 30 128 (.slice aoL m cL) m (rowOf (m * 128) (u8v C)).toList]) (fun i _ => m * 128 - (intOf i).toNat)
      case atStart => exact ⟨n, by omega, by omega, rfl, hs⟩
      case round =>
        clear hs
        obtain ⟨j, hj1, hj2, rfl, hs⟩ := hrel
        by_cases hlt : j < m * 128
        · have hlt2 : (j : Int) < ((m * 128 : Nat) : Int) := by omega
          have hcell : wr.cell? ⟨gZ, j, none⟩ = some (.int .u8 0) := by
            have h1 := hs.own_rd 0 rfl j hlt
            rw [Nat.zero_add] at h1
            rw [h1]
            simp only [u8v, HC.out j hj1]
            rfl
          go_wp2
          go_roundw
          case rel => exact ⟨j + 1, by omega, by omega, by go_num, hs⟩
          case measure => simp [intOf]; omega
        · obtain rfl : j = m * 128 := by omega
          go_wp2
          go_meet
          exact ⟨rfl, hs.erase 0⟩
  case rest =>
    clear hs
    obtain ⟨rfl, hs⟩ := hcut
    go_upto_region 14 with (first
          | (go_at_call 26; refine (hpk.out _).mono ?_; rintro e w2 ⟨rfl, rfl⟩))
    go_cut [9] (fun t wx => t = .int .i64 (at' : Nat) ∧ Tr w [] wx [Res.own 30 128 (.slice aoL m cL) m (rowOf (m * 128) (u8v C)).toList])
    case first =>
      rcases hat.out with ⟨h1, h2, h3⟩ | ⟨h1, h2, h3⟩
      · go_wp2; go_meet; exact ⟨by rw [h1], hs⟩
      · go_wp2; go_meet; exact ⟨by rw [h1], hs⟩
    case rest =>
      clear hs
      obtain ⟨rfl, hs⟩ := hcut
      go_upto_region 16 with (first
          | ((with_reducible refine at_slice rfl ?_); refine wl_slice rfl rfl Try.underlying23 size5 rfl 0 at' (Or.inl ⟨rfl, rfl⟩) (Or.inr ⟨_, _, rfl, rfl⟩) (by omega) (by omega) (fun h => HA.out (by omega)) ?_; intro ao2 hao2; replace hao2 := Lib.hid hao2)
          | (go_at_call 14; refine (H2.out _ _ _ (by omega) hao2.out (HR.out.keep hs)).mono ?_; rintro e w1 ⟨v, rfl, hc⟩; replace hs := hs.call1 hc; clear hc; obtain ⟨aoA, cA, gA, rfl, hcA, hcAm, haoA, hcA0⟩ := hs.own_open 0 rfl; replace haoA := Lib.hid haoA; replace hcA0 := Lib.hid hcA0))
      go_upto_region 17 with (first
          | ((with_reducible refine at_slice rfl ?_); refine wl_slice rfl rfl Try.underlying23 size5 rfl at' n (Or.inr ⟨_, _, rfl, rfl⟩) (Or.inl ⟨rfl, rfl⟩) (by omega) (by omega) (fun h => HA.out (by omega)) ?_; intro ao3 hao3; replace hao3 := Lib.hid hao3)
          | (go_at_call 14; refine (H3.out _ _ _ (by omega) hao3.out (HR.out.keep hs)).mono ?_; rintro e w1 ⟨v, rfl, hc⟩; replace hs := hs.call1 hc; clear hc; obtain ⟨aoB, cB, gB, rfl, hcB, hcBm, haoB, hcB0⟩ := hs.own_open 0 rfl; replace haoB := Lib.hid haoB; replace hcB0 := Lib.hid hcB0))
      go_upto_region 20 with (first
          | ((with_reducible refine at_buildSlice rfl ?_); refine wl_slice0 hs rfl rfl Try.underlying25 size30 ?_; clear hs; intro w1 ve hs)
          | ((with_reducible refine (at_bi .append) rfl ?_); refine wl_appendG hs rfl rfl Try.underlying25 info30 zc30 (by omega) 0 rfl rfl rfl hcA0.out gA 0 haoA.out (rowOf (ma * 128) (u8v C)).toList (by simp) ((hs.own_rdx 2 rfl haoA.out).news) (oneU8 _ _) (by unfold maxLen; omega) (by omega) ?_; clear hs; intro w1 ve hs)
          | ((with_reducible refine (at_bi .append) rfl ?_); refine wl_appendG hs rfl rfl Try.underlying25 info30 zc30 (by omega) 0 rfl rfl rfl hcB0.out gB 0 haoB.out (rowOf (mb * 128) (u8v fun j => C (ma * 128 + j))).toList (by simp) ((hs.own_rdx 1 rfl haoB.out).news) (oneU8 _ _) (by unfold maxLen; omega) (by omega) ?_; clear hs; intro w1 ve hs; rw [appB C ma mb m hab] at hs; obtain ⟨aoD, cD, gD, rfl, hcD, hcDm, haoD, hcD0⟩ := hs.own_open 0 rfl; replace haoD := Lib.hid haoD; clear hcD0)
          | (go_at_call 17; refine (same_yes C C m _ _ _ _ gD 0 gL 0 _ (by omega) haoD.out haoL.out (hs.own_rdx 0 rfl haoD.out) (hs.own_rdx 3 rfl haoL.out) (fun _ _ => rfl)).mono ?_; rintro e w2 ⟨rfl, hc⟩; replace hs := hs.call0 hc; clear hc)
          | (go_at_call 26; refine (hps.out _).mono ?_; rintro e w2 ⟨rfl, rfl⟩))
      replace hs := ((hs.erase 0).erase 0).erase 0
      have HJK := Lib.hid (fun (ao' : Option Addr) (c' : Nat) (hh : 0 < k → ao' = some ⟨gL, 0 + 0 * 128, none⟩) (w' : World) (hw : Rd w' gL 0 (m * 128) (u8v C)) => join_any (p : Int) k c' ao' gL 0 C w' (by omega) (by omega) (fun h => by simpa using hh h) (fun j hj => hw j (by omega)) p (by omega))
      have HJR := Lib.hid (fun (ao' : Option Addr) (c' : Nat) (hh : k < m → ao' = some ⟨gL, 0 + k * 128, none⟩) (w' : World) (hw : Rd w' gL 0 (m * 128) (u8v C)) => join_any ((s : Int) - 128 * (k : Int)) (m - k) c' ao' gL (k * 128) (fun j => C (k * 128 + j)) w' (by omega) (by omega) (fun h => by simpa using hh (by omega)) (fun j hj => by have := hw (k * 128 + j) (by omega); rw [Nat.zero_add] at this; exact this) q (by omega))
      by_cases hsk : (s : Int) ≤ 128 * (k : Int)
      · have hsk2 : ¬ 128 * (k : Int) < (s : Int) := by omega
        refine wt_enter 29 rfl hs (by kernel_rfl) ?_
        clear hs; intro w1 hs; have hC := hs
        refine wt_take 0 rfl (by kernel_rfl) (by kernel_rfl) (by kernel_rfl) (fun _ _ _ _ h => h) rfl hC ⟨_, fun w hw => by (go_simp; try with_reducible rfl), fun a1 ha => ?_⟩
        simp only [Act.put, List.setIfInBounds_toArray, List.set_cons_succ, List.set_cons_zero] at ha; subst ha
        refine wt_take 1 rfl (by kernel_rfl) (by kernel_rfl) (by kernel_rfl) (fun _ _ _ _ h => h) rfl hC ⟨_, fun w hw => by (go_simp; try with_reducible rfl), fun a1 ha => ?_⟩
        simp only [Act.put, List.setIfInBounds_toArray, List.set_cons_succ, List.set_cons_zero] at ha; subst ha
        refine wt_take 5 rfl (by kernel_rfl) (by kernel_rfl) (by kernel_rfl) (fun _ _ _ _ h => h) rfl hC ⟨_, fun w hw => by (go_simp; try with_reducible rfl), fun a1 ha => ?_⟩
        simp only [Act.put, List.setIfInBounds_toArray, List.set_cons_succ, List.set_cons_zero] at ha; subst ha
        refine wt_take 6 rfl (by kernel_rfl) (by kernel_rfl) (by kernel_rfl) (fun _ _ _ _ h => h) rfl hC ⟨_, fun w hw => by (go_simp; try with_reducible rfl), fun a1 ha => ?_⟩
        simp only [Act.put, List.setIfInBounds_toArray, List.set_cons_succ, List.set_cons_zero] at ha; subst ha
        refine wt_take 7 rfl (by kernel_rfl) (by kernel_rfl) (by kernel_rfl) (fun _ _ _ _ h => h) rfl hC ⟨.int .i64 (128 * (k : Int)), fun w hw => by (go_simp; first | done | exact wrap_in (by omega) | go_num), fun a1 ha => ?_⟩
        simp only [Act.put, List.setIfInBounds_toArray, List.set_cons_succ, List.set_cons_zero] at ha; subst ha
        refine wt_take 8 rfl (by kernel_rfl) (by kernel_rfl) (by kernel_rfl) (fun _ _ _ _ h => h) rfl hC ⟨.int .i64 (p : Int), fun w hw => by (go_simp; first | done | exact wrap_in (by omega) | go_num), fun a1 ha => ?_⟩
        simp only [Act.put, List.setIfInBounds_toArray, List.set_cons_succ, List.set_cons_zero] at ha; subst ha
        refine wt_take 9 rfl (by kernel_rfl) (by kernel_rfl) (by kernel_rfl) (fun _ _ _ _ h => h) rfl hC ⟨_, fun w hw => by (go_simp; try with_reducible rfl), fun a1 ha => ?_⟩
        simp only [Act.put, List.setIfInBounds_toArray, List.set_cons_succ, List.set_cons_zero] at ha; subst ha
        refine wt_take 10 rfl (by kernel_rfl) (by kernel_rfl) (by kernel_rfl) (fun _ _ _ _ h => h) rfl hC ⟨_, fun w hw => by (go_simp; try with_reducible rfl), fun a1 ha => ?_⟩
        simp only [Act.put, List.setIfInBounds_toArray, List.set_cons_succ, List.set_cons_zero] at ha; subst ha
        refine wt_takeSlice 11 rfl (by kernel_rfl) (by kernel_rfl) (by kernel_rfl) (fun _ _ _ _ h => h) rfl hC rfl Try.underlying25 size30 rfl (0) (k) (Or.inl ⟨rfl, rfl⟩) (Or.inr ⟨_, _, rfl, rfl⟩) (by omega) (by omega) (fun h => haoL.out (by omega)) ?_
        intro s1 hs1 a1 ha; replace hs1 := Lib.hid hs1
        simp only [Act.put, List.setIfInBounds_toArray, List.set_cons_succ, List.set_cons_zero] at ha; subst ha
        refine wt_take 14 rfl (by kernel_rfl) (by kernel_rfl) (by kernel_rfl) (fun _ _ _ _ h => h) rfl hC ⟨_, fun w hw => by (go_simp; try with_reducible rfl), fun a1 ha => ?_⟩
        simp only [Act.put, List.setIfInBounds_toArray, List.set_cons_succ, List.set_cons_zero] at ha; subst ha
        refine wt_take 15 rfl (by kernel_rfl) (by kernel_rfl) (by kernel_rfl) (fun _ _ _ _ h => h) rfl hC ⟨_, fun w hw => by (go_simp; try with_reducible rfl), fun a1 ha => ?_⟩
        simp only [Act.put, List.setIfInBounds_toArray, List.set_cons_succ, List.set_cons_zero] at ha; subst ha
        refine wt_take 16 rfl (by kernel_rfl) (by kernel_rfl) (by kernel_rfl) (fun _ _ _ _ h => h) rfl hC ⟨.int .i64 (128 * (k : Int)), fun w hw => by (go_simp; first | done | exact wrap_in (by omega) | go_num), fun a1 ha => ?_⟩
        simp only [Act.put, List.setIfInBounds_toArray, List.set_cons_succ, List.set_cons_zero] at ha; subst ha
        refine wt_take 17 rfl (by kernel_rfl) (by kernel_rfl) (by kernel_rfl) (fun _ _ _ _ h => h) rfl hC ⟨.int .i64 ((s : Int) - 128 * (k : Int)), fun w hw => by (go_simp; first | done | exact wrap_in (by omega) | go_num), fun a1 ha => ?_⟩
        simp only [Act.put, List.setIfInBounds_toArray, List.set_cons_succ, List.set_cons_zero] at ha; subst ha
        refine wt_take 18 rfl (by kernel_rfl) (by kernel_rfl) (by kernel_rfl) (fun _ _ _ _ h => h) rfl hC ⟨_, fun w hw => by (go_simp; try with_reducible rfl), fun a1 ha => ?_⟩
        simp only [Act.put, List.setIfInBounds_toArray, List.set_cons_succ, List.set_cons_zero] at ha; subst ha
        refine wt_take 19 rfl (by kernel_rfl) (by kernel_rfl) (by kernel_rfl) (fun _ _ _ _ h => h) rfl hC ⟨_, fun w hw => by (go_simp; try with_reducible rfl), fun a1 ha => ?_⟩
        simp only [Act.put, List.setIfInBounds_toArray, List.set_cons_succ, List.set_cons_zero] at ha; subst ha
        refine wt_takeSlice 20 rfl (by kernel_rfl) (by kernel_rfl) (by kernel_rfl) (fun _ _ _ _ h => h) rfl hC rfl Try.underlying25 size30 rfl (k) (m) (Or.inr ⟨_, _, rfl, rfl⟩) (Or.inl ⟨rfl, rfl⟩) (by omega) (by omega) (fun h => haoL.out (by omega)) ?_
        intro s2 hs2 a1 ha; replace hs2 := Lib.hid hs2
        simp only [Act.put, List.setIfInBounds_toArray, List.set_cons_succ, List.set_cons_zero] at ha; subst ha
        refine wt_all [2, 4] (by kernel_rfl) (by simp) ?_
        refine wt_cons ?_ ?_
        ·
          refine wt_callR (R := fun v => Res.own 5 1 v s (rowOf s (u8v C)).toList) hs rfl rfl (by go_simp) (HJ.out s (by omega) s (by omega) _ (by first | exact hs.own_rdx 0 rfl haoL.out | exact hs.own_rdx 1 rfl haoL.out)) (fun _ => by simp only [Act.put, List.setIfInBounds_toArray, List.set_cons_succ, List.set_cons_zero]; rfl) ?_
          clear hs; intro w1 v1 hs; obtain ⟨ao1, c1, g1, rfl, hc1, hcm1, hao1, hcz1⟩ := hs.own_open 0 rfl; replace hao1 := Lib.hid hao1; replace hcz1 := Lib.hid hcz1
          refine wt_and (hs.sub (by repeat (first | exact List.Sublist.refl _ | refine List.Sublist.cons_cons _ ?_ | refine List.Sublist.cons _ ?_))) fun hC => ?_
          refine wt_more (C' := fun w' => Tr w [] w' [Res.own 5 1 (.slice ao1 s c1) s (rowOf s (u8v C)).toList, Res.own 30 128 (.slice aoL m cL) m (rowOf (m * 128) (u8v C)).toList]) (fun w' h => h.erase 0) _ _ _ _ ?_
          clear hC
          have hC : Tr w [] _ [Res.own 5 1 (.slice ao1 s c1) s (rowOf s (u8v C)).toList, Res.own 30 128 (.slice aoL m cL) m (rowOf (m * 128) (u8v C)).toList] := (hs.sub (by repeat (first | exact List.Sublist.refl _ | refine List.Sublist.cons_cons _ ?_ | refine List.Sublist.cons _ ?_)))
          refine wt_take 3 rfl (by kernel_rfl) (by kernel_rfl) (by kernel_rfl) (fun _ _ _ _ h => h) rfl hC ⟨.string (strOf s C), fun w hw => ex_convStr rfl Try.underlying23 Try.underlying5 Try.underlying9 rfl hao1.out (hw.own_rdx 0 rfl hao1.out), fun a1 ha => ?_⟩
          simp only [Act.put, List.setIfInBounds_toArray, List.set_cons_succ, List.set_cons_zero] at ha; subst ha
          refine wt_all [4, 12] (by kernel_rfl) (by simp) ?_
          refine wt_cons ?_ ?_
          ·
            refine wt_slice0 hs rfl rfl rfl Try.underlying23 size5 (fun _ => by simp only [Act.put, List.setIfInBounds_toArray, List.set_cons_succ, List.set_cons_zero]; rfl) ?_
            clear hs; intro w1 v9 hs
            refine wt_and (hs.sub (by repeat (first | exact List.Sublist.refl _ | refine List.Sublist.cons_cons _ ?_ | refine List.Sublist.cons _ ?_))) fun hC => ?_
            refine wt_one 12 (by kernel_rfl) ?_
            refine wt_callR (R := fun v => Res.own 5 1 v p (rowOf p (u8v C)).toList) hs rfl rfl (by go_simp) (HJK.out s1 cL hs1.out _ (by first | exact hs.own_rdx 1 rfl haoL.out | exact hs.own_rdx 2 rfl haoL.out)) (fun _ => by simp only [Act.put, List.setIfInBounds_toArray, List.set_cons_succ, List.set_cons_zero]; rfl) ?_
            clear hs; intro w1 v1 hs; obtain ⟨ao2, c2, g2, rfl, hc2, hcm2, hao2, hcz2⟩ := hs.own_open 0 rfl; replace hao2 := Lib.hid hao2; replace hcz2 := Lib.hid hcz2
            refine wt_and (hs.sub (by repeat (first | exact List.Sublist.refl _ | refine List.Sublist.cons_cons _ ?_ | refine List.Sublist.cons _ ?_))) fun hC => ?_
            refine wt_one 13 (by kernel_rfl) ?_
            first
              | refine wt_appendG hs rfl rfl rfl Try.underlying23 info5 rfl (by omega) 1 rfl rfl rfl hcz2.out g2 0 hao2.out (rowOf p (u8v C)).toList (by simp) ((by first | exact hs.own_rdx 0 rfl hao2.out | exact hs.own_rdx 1 rfl hao2.out : Rd _ _ _ _ _).news) (oneU8 _ _) (by unfold maxLen; omega) (by omega) (fun _ => by simp only [Act.put, List.setIfInBounds_toArray, List.set_cons_succ, List.set_cons_zero]; rfl) ?_
              | refine wt_appendG hs rfl rfl rfl Try.underlying23 info5 rfl (by omega) 0 rfl rfl rfl hcz2.out g2 0 hao2.out (rowOf p (u8v C)).toList (by simp) ((by first | exact hs.own_rdx 0 rfl hao2.out | exact hs.own_rdx 1 rfl hao2.out : Rd _ _ _ _ _).news) (oneU8 _ _) (by unfold maxLen; omega) (by omega) (fun _ => by simp only [Act.put, List.setIfInBounds_toArray, List.set_cons_succ, List.set_cons_zero]; rfl) ?_
              | refine wt_appendG hs rfl rfl rfl Try.underlying23 info5 rfl (by omega) 2 rfl rfl rfl hcz2.out g2 0 hao2.out (rowOf p (u8v C)).toList (by simp) ((by first | exact hs.own_rdx 0 rfl hao2.out | exact hs.own_rdx 1 rfl hao2.out : Rd _ _ _ _ _).news) (oneU8 _ _) (by unfold maxLen; omega) (by omega) (fun _ => by simp only [Act.put, List.setIfInBounds_toArray, List.set_cons_succ, List.set_cons_zero]; rfl) ?_
            clear hs; intro w1 v9 hs
            refine wt_and (hs.sub (by repeat (first | exact List.Sublist.refl _ | refine List.Sublist.cons_cons _ ?_ | refine List.Sublist.cons _ ?_))) fun hC => ?_
            refine wt_one 21 (by kernel_rfl) ?_
            refine wt_callR (R := fun v => Res.own 5 1 v q (rowOf q (u8v fun j => C (k * 128 + j))).toList) hs rfl rfl (by go_simp) (HJR.out s2 (cL - k) hs2.out _ (by first | exact hs.own_rdx 2 rfl haoL.out | exact hs.own_rdx 3 rfl haoL.out)) (fun _ => by simp only [Act.put, List.setIfInBounds_toArray, List.set_cons_succ, List.set_cons_zero]; rfl) ?_
            clear hs; intro w1 v1 hs; obtain ⟨ao3, c3, g3, rfl, hc3, hcm3, hao3, hcz3⟩ := hs.own_open 0 rfl; replace hao3 := Lib.hid hao3; replace hcz3 := Lib.hid hcz3
            refine wt_and (hs.sub (by repeat (first | exact List.Sublist.refl _ | refine List.Sublist.cons_cons _ ?_ | refine List.Sublist.cons _ ?_))) fun hC => ?_
            refine wt_one 22 (by kernel_rfl) ?_
            first
              | refine wt_appendG hs rfl rfl rfl Try.underlying23 info5 rfl (by omega) 2 rfl rfl rfl hcz3.out g3 0 hao3.out (rowOf q (u8v fun j => C (k * 128 + j))).toList (by simp) ((hs.own_rdx 0 rfl hao3.out).news) (oneU8 _ _) (by unfold maxLen; omega) (by omega) (fun _ => by simp only [Act.put, List.setIfInBounds_toArray, List.set_cons_succ, List.set_cons_zero]; rfl) ?_
              | refine wt_appendG hs rfl rfl rfl Try.underlying23 info5 rfl (by omega) 1 rfl rfl rfl hcz3.out g3 0 hao3.out (rowOf q (u8v fun j => C (k * 128 + j))).toList (by simp) ((hs.own_rdx 0 rfl hao3.out).news) (oneU8 _ _) (by unfold maxLen; omega) (by omega) (fun _ => by simp only [Act.put, List.setIfInBounds_toArray, List.set_cons_succ, List.set_cons_zero]; rfl) ?_
              | refine wt_appendG hs rfl rfl rfl Try.underlying23 info5 rfl (by omega) 3 rfl rfl rfl hcz3.out g3 0 hao3.out (rowOf q (u8v fun j => C (k * 128 + j))).toList (by simp) ((hs.own_rdx 0 rfl hao3.out).news) (oneU8 _ _) (by unfold maxLen; omega) (by omega) (fun _ => by simp only [Act.put, List.setIfInBounds_toArray, List.set_cons_succ, List.set_cons_zero]; rfl) ?_
            clear hs; intro w1 v9 hs
            rw [appJ C p q s k hpq hp] at hs
            obtain ⟨ao4, c4, g4, rfl, hc4, hcm4, hao4, hcz4⟩ := (by first | exact hs.own_open 1 rfl | exact hs.own_open 2 rfl | exact hs.own_open 3 rfl : ∃ ao c g, v9 = .slice ao s c ∧ s ≤ c ∧ c ≤ maxLen ∧ (0 < s → ao = some ⟨g, 0, none⟩) ∧ (ao = none → c = 0))
            replace hao4 := Lib.hid hao4
            refine wt_and (hs.sub (by repeat (first | exact List.Sublist.refl _ | refine List.Sublist.cons_cons _ ?_ | refine List.Sublist.cons _ ?_))) fun hC => ?_
            refine wt_one 23 (by kernel_rfl) ?_
            refine wt_run (v := .string (strOf s C)) rfl rfl (ex_convStr rfl Try.underlying23 Try.underlying5 Try.underlying9 rfl hao4.out (by first | exact hs.own_rdx 1 rfl hao4.out | exact hs.own_rdx 2 rfl hao4.out | exact hs.own_rdx 3 rfl hao4.out)) (by simp only [Act.put, List.setIfInBounds_toArray, List.set_cons_succ, List.set_cons_zero]; rfl) ?_
            refine wt_and (hs.sub (by repeat (first | exact List.Sublist.refl _ | refine List.Sublist.cons_cons _ ?_ | refine List.Sublist.cons _ ?_))) fun hC => ?_
            refine wt_take 24 rfl (by kernel_rfl) (by kernel_rfl) (by kernel_rfl) (fun _ _ _ _ h => h) rfl hC ⟨.bool true, fun w hw => ex_eqlSR rfl rfl rfl rfl rfl (eqS_refl s C), fun a1 ha => ?_⟩
            simp only [Act.put, List.setIfInBounds_toArray, List.set_cons_succ, List.set_cons_zero] at ha; subst ha
            refine wt_take 25 rfl (by kernel_rfl) (by kernel_rfl) (by kernel_rfl) (fun _ _ _ _ h => h) rfl hC ⟨_, fun w hw => by (go_simp; try with_reducible rfl), fun a1 ha => ?_⟩
            simp only [Act.put, List.setIfInBounds_toArray, List.set_cons_succ, List.set_cons_zero] at ha; subst ha
            refine wt_one 26 (by kernel_rfl) ?_
            refine wt_call0 hs rfl rfl (by go_simp) (known_any _) (by simp only [Act.put, List.setIfInBounds_toArray, List.set_cons_succ, List.set_cons_zero]; rfl) ?_
            clear hs; intro w1 hs
            refine wt_and (hs.sub (by repeat (first | exact List.Sublist.refl _ | refine List.Sublist.cons_cons _ ?_ | refine List.Sublist.cons _ ?_))) fun hC => ?_
            refine wt_take 27 rfl (by kernel_rfl) (by kernel_rfl) (by kernel_rfl) (fun _ _ _ _ h => h) rfl hC ⟨_, fun w hw => by (go_simp; try with_reducible rfl), fun a1 ha => ?_⟩
            simp only [Act.put, List.setIfInBounds_toArray, List.set_cons_succ, List.set_cons_zero] at ha; subst ha
            refine wt_take 28 rfl (by kernel_rfl) (by kernel_rfl) (by kernel_rfl) (fun _ _ _ _ h => h) rfl hC ⟨_, fun w hw => by (go_simp; try with_reducible rfl), fun a1 ha => ?_⟩
            simp only [Act.put, List.setIfInBounds_toArray, List.set_cons_succ, List.set_cons_zero] at ha; subst ha
            refine wt_done (by kernel_rfl) ?_
            go_wp2_with fail
            go_ret
            exact ⟨rfl, hs.letgo⟩
          refine wt_cons ?_ ?_
          ·
            refine wt_callR (R := fun v => Res.own 5 1 v p (rowOf p (u8v C)).toList) hs rfl rfl (by go_simp) (HJK.out s1 cL hs1.out _ (by first | exact hs.own_rdx 1 rfl haoL.out | exact hs.own_rdx 2 rfl haoL.out)) (fun _ => by simp only [Act.put, List.setIfInBounds_toArray, List.set_cons_succ, List.set_cons_zero]; rfl) ?_
            clear hs; intro w1 v1 hs; obtain ⟨ao2, c2, g2, rfl, hc2, hcm2, hao2, hcz2⟩ := hs.own_open 0 rfl; replace hao2 := Lib.hid hao2; replace hcz2 := Lib.hid hcz2
            refine wt_and (hs.sub (by repeat (first | exact List.Sublist.refl _ | refine List.Sublist.cons_cons _ ?_ | refine List.Sublist.cons _ ?_))) fun hC => ?_
            refine wt_one 4 (by kernel_rfl) ?_
            refine wt_slice0 hs rfl rfl rfl Try.underlying23 size5 (fun _ => by simp only [Act.put, List.setIfInBounds_toArray, List.set_cons_succ, List.set_cons_zero]; rfl) ?_
            clear hs; intro w1 v9 hs
            refine wt_and (hs.sub (by repeat (first | exact List.Sublist.refl _ | refine List.Sublist.cons_cons _ ?_ | refine List.Sublist.cons _ ?_))) fun hC => ?_
            refine wt_one 13 (by kernel_rfl) ?_
            first
              | refine wt_appendG hs rfl rfl rfl Try.underlying23 info5 rfl (by omega) 1 rfl rfl rfl hcz2.out g2 0 hao2.out (rowOf p (u8v C)).toList (by simp) ((by first | exact hs.own_rdx 0 rfl hao2.out | exact hs.own_rdx 1 rfl hao2.out : Rd _ _ _ _ _).news) (oneU8 _ _) (by unfold maxLen; omega) (by omega) (fun _ => by simp only [Act.put, List.setIfInBounds_toArray, List.set_cons_succ, List.set_cons_zero]; rfl) ?_
              | refine wt_appendG hs rfl rfl rfl Try.underlying23 info5 rfl (by omega) 0 rfl rfl rfl hcz2.out g2 0 hao2.out (rowOf p (u8v C)).toList (by simp) ((by first | exact hs.own_rdx 0 rfl hao2.out | exact hs.own_rdx 1 rfl hao2.out : Rd _ _ _ _ _).news) (oneU8 _ _) (by unfold maxLen; omega) (by omega) (fun _ => by simp only [Act.put, List.setIfInBounds_toArray, List.set_cons_succ, List.set_cons_zero]; rfl) ?_
              | refine wt_appendG hs rfl rfl rfl Try.underlying23 info5 rfl (by omega) 2 rfl rfl rfl hcz2.out g2 0 hao2.out (rowOf p (u8v C)).toList (by simp) ((by first | exact hs.own_rdx 0 rfl hao2.out | exact hs.own_rdx 1 rfl hao2.out : Rd _ _ _ _ _).news) (oneU8 _ _) (by unfold maxLen; omega) (by omega) (fun _ => by simp only [Act.put, List.setIfInBounds_toArray, List.set_cons_succ, List.set_cons_zero]; rfl) ?_
            clear hs; intro w1 v9 hs
            refine wt_and (hs.sub (by repeat (first | exact List.Sublist.refl _ | refine List.Sublist.cons_cons _ ?_ | refine List.Sublist.cons _ ?_))) fun hC => ?_
            refine wt_one 21 (by kernel_rfl) ?_
            refine wt_callR (R := fun v => Res.own 5 1 v q (rowOf q (u8v fun j => C (k * 128 + j))).toList) hs rfl rfl (by go_simp) (HJR.out s2 (cL - k) hs2.out _ (by first | exact hs.own_rdx 2 rfl haoL.out | exact hs.own_rdx 3 rfl haoL.out)) (fun _ => by simp only [Act.put, List.setIfInBounds_toArray, List.set_cons_succ, List.set_cons_zero]; rfl) ?_
            clear hs; intro w1 v1 hs; obtain ⟨ao3, c3, g3, rfl, hc3, hcm3, hao3, hcz3⟩ := hs.own_open 0 rfl; replace hao3 := Lib.hid hao3; replace hcz3 := Lib.hid hcz3
            refine wt_and (hs.sub (by repeat (first | exact List.Sublist.refl _ | refine List.Sublist.cons_cons _ ?_ | refine List.Sublist.cons _ ?_))) fun hC => ?_
            refine wt_one 22 (by kernel_rfl) ?_
            first
              | refine wt_appendG hs rfl rfl rfl Try.underlying23 info5 rfl (by omega) 2 rfl rfl rfl hcz3.out g3 0 hao3.out (rowOf q (u8v fun j => C (k * 128 + j))).toList (by simp) ((hs.own_rdx 0 rfl hao3.out).news) (oneU8 _ _) (by unfold maxLen; omega) (by omega) (fun _ => by simp only [Act.put, List.setIfInBounds_toArray, List.set_cons_succ, List.set_cons_zero]; rfl) ?_
              | refine wt_appendG hs rfl rfl rfl Try.underlying23 info5 rfl (by omega) 1 rfl rfl rfl hcz3.out g3 0 hao3.out (rowOf q (u8v fun j => C (k * 128 + j))).toList (by simp) ((hs.own_rdx 0 rfl hao3.out).news) (oneU8 _ _) (by unfold maxLen; omega) (by omega) (fun _ => by simp only [Act.put, List.setIfInBounds_toArray, List.set_cons_succ, List.set_cons_zero]; rfl) ?_
              | refine wt_appendG hs rfl rfl rfl Try.underlying23 info5 rfl (by omega) 3 rfl rfl rfl hcz3.out g3 0 hao3.out (rowOf q (u8v fun j => C (k * 128 + j))).toList (by simp) ((hs.own_rdx 0 rfl hao3.out).news) (oneU8 _ _) (by unfold maxLen; omega) (by omega) (fun _ => by simp only [Act.put, List.setIfInBounds_toArray, List.set_cons_succ, List.set_cons_zero]; rfl) ?_
            clear hs; intro w1 v9 hs
            rw [appJ C p q s k hpq hp] at hs
            obtain ⟨ao4, c4, g4, rfl, hc4, hcm4, hao4, hcz4⟩ := (by first | exact hs.own_open 1 rfl | exact hs.own_open 2 rfl | exact hs.own_open 3 rfl : ∃ ao c g, v9 = .slice ao s c ∧ s ≤ c ∧ c ≤ maxLen ∧ (0 < s → ao = some ⟨g, 0, none⟩) ∧ (ao = none → c = 0))
            replace hao4 := Lib.hid hao4
            refine wt_and (hs.sub (by repeat (first | exact List.Sublist.refl _ | refine List.Sublist.cons_cons _ ?_ | refine List.Sublist.cons _ ?_))) fun hC => ?_
            refine wt_one 23 (by kernel_rfl) ?_
            refine wt_run (v := .string (strOf s C)) rfl rfl (ex_convStr rfl Try.underlying23 Try.underlying5 Try.underlying9 rfl hao4.out (by first | exact hs.own_rdx 1 rfl hao4.out | exact hs.own_rdx 2 rfl hao4.out | exact hs.own_rdx 3 rfl hao4.out)) (by simp only [Act.put, List.setIfInBounds_toArray, List.set_cons_succ, List.set_cons_zero]; rfl) ?_
            refine wt_and (hs.sub (by repeat (first | exact List.Sublist.refl _ | refine List.Sublist.cons_cons _ ?_ | refine List.Sublist.cons _ ?_))) fun hC => ?_
            refine wt_take 24 rfl (by kernel_rfl) (by kernel_rfl) (by kernel_rfl) (fun _ _ _ _ h => h) rfl hC ⟨.bool true, fun w hw => ex_eqlSR rfl rfl rfl rfl rfl (eqS_refl s C), fun a1 ha => ?_⟩
            simp only [Act.put, List.setIfInBounds_toArray, List.set_cons_succ, List.set_cons_zero] at ha; subst ha
            refine wt_take 25 rfl (by kernel_rfl) (by kernel_rfl) (by kernel_rfl) (fun _ _ _ _ h => h) rfl hC ⟨_, fun w hw => by (go_simp; try with_reducible rfl), fun a1 ha => ?_⟩
            simp only [Act.put, List.setIfInBounds_toArray, List.set_cons_succ, List.set_cons_zero] at ha; subst ha
            refine wt_one 26 (by kernel_rfl) ?_
            refine wt_call0 hs rfl rfl (by go_simp) (known_any _) (by simp only [Act.put, List.setIfInBounds_toArray, List.set_cons_succ, List.set_cons_zero]; rfl) ?_
            clear hs; intro w1 hs
            refine wt_and (hs.sub (by repeat (first | exact List.Sublist.refl _ | refine List.Sublist.cons_cons _ ?_ | refine List.Sublist.cons _ ?_))) fun hC => ?_
            refine wt_take 27 rfl (by kernel_rfl) (by kernel_rfl) (by kernel_rfl) (fun _ _ _ _ h => h) rfl hC ⟨_, fun w hw => by (go_simp; try with_reducible rfl), fun a1 ha => ?_⟩
            simp only [Act.put, List.setIfInBounds_toArray, List.set_cons_succ, List.set_cons_zero] at ha; subst ha
            refine wt_take 28 rfl (by kernel_rfl) (by kernel_rfl) (by kernel_rfl) (fun _ _ _ _ h => h) rfl hC ⟨_, fun w hw => by (go_simp; try with_reducible rfl), fun a1 ha => ?_⟩
            simp only [Act.put, List.setIfInBounds_toArray, List.set_cons_succ, List.set_cons_zero] at ha; subst ha
            refine wt_done (by kernel_rfl) ?_
            go_wp2_with fail
            go_ret
            exact ⟨rfl, hs.letgo⟩
          exact wt_nil
        refine wt_cons ?_ ?_
        ·
          refine wt_slice0 hs rfl rfl rfl Try.underlying23 size5 (fun _ => by simp only [Act.put, List.setIfInBounds_toArray, List.set_cons_succ, List.set_cons_zero]; rfl) ?_
          clear hs; intro w1 v9 hs
          refine wt_and (hs.sub (by repeat (first | exact List.Sublist.refl _ | refine List.Sublist.cons_cons _ ?_ | refine List.Sublist.cons _ ?_))) fun hC => ?_
          refine wt_one 2 (by kernel_rfl) ?_
          refine wt_callR (R := fun v => Res.own 5 1 v s (rowOf s (u8v C)).toList) hs rfl rfl (by go_simp) (HJ.out s (by omega) s (by omega) _ (by first | exact hs.own_rdx 0 rfl haoL.out | exact hs.own_rdx 1 rfl haoL.out)) (fun _ => by simp only [Act.put, List.setIfInBounds_toArray, List.set_cons_succ, List.set_cons_zero]; rfl) ?_
          clear hs; intro w1 v1 hs; obtain ⟨ao1, c1, g1, rfl, hc1, hcm1, hao1, hcz1⟩ := hs.own_open 0 rfl; replace hao1 := Lib.hid hao1; replace hcz1 := Lib.hid hcz1
          refine wt_and (hs.sub (by repeat (first | exact List.Sublist.refl _ | refine List.Sublist.cons_cons _ ?_ | refine List.Sublist.cons _ ?_))) fun hC => ?_
          refine wt_more (C' := fun w' => Tr w [] w' [Res.own 5 1 (.slice ao1 s c1) s (rowOf s (u8v C)).toList, Res.own 30 128 (.slice aoL m cL) m (rowOf (m * 128) (u8v C)).toList]) (fun w' h => h.erase 0) _ _ _ _ ?_
          clear hC
          have hC : Tr w [] _ [Res.own 5 1 (.slice ao1 s c1) s (rowOf s (u8v C)).toList, Res.own 30 128 (.slice aoL m cL) m (rowOf (m * 128) (u8v C)).toList] := (hs.sub (by repeat (first | exact List.Sublist.refl _ | refine List.Sublist.cons_cons _ ?_ | refine List.Sublist.cons _ ?_)))
          refine wt_take 3 rfl (by kernel_rfl) (by kernel_rfl) (by kernel_rfl) (fun _ _ _ _ h => h) rfl hC ⟨.string (strOf s C), fun w hw => ex_convStr rfl Try.underlying23 Try.underlying5 Try.underlying9 rfl hao1.out (hw.own_rdx 0 rfl hao1.out), fun a1 ha => ?_⟩
          simp only [Act.put, List.setIfInBounds_toArray, List.set_cons_succ, List.set_cons_zero] at ha; subst ha
          refine wt_one 12 (by kernel_rfl) ?_
          refine wt_callR (R := fun v => Res.own 5 1 v p (rowOf p (u8v C)).toList) hs rfl rfl (by go_simp) (HJK.out s1 cL hs1.out _ (by first | exact hs.own_rdx 1 rfl haoL.out | exact hs.own_rdx 2 rfl haoL.out)) (fun _ => by simp only [Act.put, List.setIfInBounds_toArray, List.set_cons_succ, List.set_cons_zero]; rfl) ?_
          clear hs; intro w1 v1 hs; obtain ⟨ao2, c2, g2, rfl, hc2, hcm2, hao2, hcz2⟩ := hs.own_open 0 rfl; replace hao2 := Lib.hid hao2; replace hcz2 := Lib.hid hcz2
          refine wt_and (hs.sub (by repeat (first | exact List.Sublist.refl _ | refine List.Sublist.cons_cons _ ?_ | refine List.Sublist.cons _ ?_))) fun hC => ?_
          refine wt_one 13 (by kernel_rfl) ?_
          first
            | refine wt_appendG hs rfl rfl rfl Try.underlying23 info5 rfl (by omega) 1 rfl rfl rfl hcz2.out g2 0 hao2.out (rowOf p (u8v C)).toList (by simp) ((by first | exact hs.own_rdx 0 rfl hao2.out | exact hs.own_rdx 1 rfl hao2.out : Rd _ _ _ _ _).news) (oneU8 _ _) (by unfold maxLen; omega) (by omega) (fun _ => by simp only [Act.put, List.setIfInBounds_toArray, List.set_cons_succ, List.set_cons_zero]; rfl) ?_
            | refine wt_appendG hs rfl rfl rfl Try.underlying23 info5 rfl (by omega) 0 rfl rfl rfl hcz2.out g2 0 hao2.out (rowOf p (u8v C)).toList (by simp) ((by first | exact hs.own_rdx 0 rfl hao2.out | exact hs.own_rdx 1 rfl hao2.out : Rd _ _ _ _ _).news) (oneU8 _ _) (by unfold maxLen; omega) (by omega) (fun _ => by simp only [Act.put, List.setIfInBounds_toArray, List.set_cons_succ, List.set_cons_zero]; rfl) ?_
            | refine wt_appendG hs rfl rfl rfl Try.underlying23 info5 rfl (by omega) 2 rfl rfl rfl hcz2.out g2 0 hao2.out (rowOf p (u8v C)).toList (by simp) ((by first | exact hs.own_rdx 0 rfl hao2.out | exact hs.own_rdx 1 rfl hao2.out : Rd _ _ _ _ _).news) (oneU8 _ _) (by unfold maxLen; omega) (by omega) (fun _ => by simp only [Act.put, List.setIfInBounds_toArray, List.set_cons_succ, List.set_cons_zero]; rfl) ?_
          clear hs; intro w1 v9 hs
          refine wt_and (hs.sub (by repeat (first | exact List.Sublist.refl _ | refine List.Sublist.cons_cons _ ?_ | refine List.Sublist.cons _ ?_))) fun hC => ?_
          refine wt_one 21 (by kernel_rfl) ?_
          refine wt_callR (R := fun v => Res.own 5 1 v q (rowOf q (u8v fun j => C (k * 128 + j))).toList) hs rfl rfl (by go_simp) (HJR.out s2 (cL - k) hs2.out _ (by first | exact hs.own_rdx 2 rfl haoL.out | exact hs.own_rdx 3 rfl haoL.out)) (fun _ => by simp only [Act.put, List.setIfInBounds_toArray, List.set_cons_succ, List.set_cons_zero]; rfl) ?_
          clear hs; intro w1 v1 hs; obtain ⟨ao3, c3, g3, rfl, hc3, hcm3, hao3, hcz3⟩ := hs.own_open 0 rfl; replace hao3 := Lib.hid hao3; replace hcz3 := Lib.hid hcz3
          refine wt_and (hs.sub (by repeat (first | exact List.Sublist.refl _ | refine List.Sublist.cons_cons _ ?_ | refine List.Sublist.cons _ ?_))) fun hC => ?_
          refine wt_one 22 (by kernel_rfl) ?_
          first
            | refine wt_appendG hs rfl rfl rfl Try.underlying23 info5 rfl (by omega) 2 rfl rfl rfl hcz3.out g3 0 hao3.out (rowOf q (u8v fun j => C (k * 128 + j))).toList (by simp) ((hs.own_rdx 0 rfl hao3.out).news) (oneU8 _ _) (by unfold maxLen; omega) (by omega) (fun _ => by simp only [Act.put, List.setIfInBounds_toArray, List.set_cons_succ, List.set_cons_zero]; rfl) ?_
            | refine wt_appendG hs rfl rfl rfl Try.underlying23 info5 rfl (by omega) 1 rfl rfl rfl hcz3.out g3 0 hao3.out (rowOf q (u8v fun j => C (k * 128 + j))).toList (by simp) ((hs.own_rdx 0 rfl hao3.out).news) (oneU8 _ _) (by unfold maxLen; omega) (by omega) (fun _ => by simp only [Act.put, List.setIfInBounds_toArray, List.set_cons_succ, List.set_cons_zero]; rfl) ?_
            | refine wt_appendG hs rfl rfl rfl Try.underlying23 info5 rfl (by omega) 3 rfl rfl rfl hcz3.out g3 0 hao3.out (rowOf q (u8v fun j => C (k * 128 + j))).toList (by simp) ((hs.own_rdx 0 rfl hao3.out).news) (oneU8 _ _) (by unfold maxLen; omega) (by omega) (fun _ => by simp only [Act.put, List.setIfInBounds_toArray, List.set_cons_succ, List.set_cons_zero]; rfl) ?_
          clear hs; intro w1 v9 hs
          rw [appJ C p q s k hpq hp] at hs
          obtain ⟨ao4, c4, g4, rfl, hc4, hcm4, hao4, hcz4⟩ := (by first | exact hs.own_open 1 rfl | exact hs.own_open 2 rfl | exact hs.own_open 3 rfl : ∃ ao c g, v9 = .slice ao s c ∧ s ≤ c ∧ c ≤ maxLen ∧ (0 < s → ao = some ⟨g, 0, none⟩) ∧ (ao = none → c = 0))
          replace hao4 := Lib.hid hao4
          refine wt_and (hs.sub (by repeat (first | exact List.Sublist.refl _ | refine List.Sublist.cons_cons _ ?_ | refine List.Sublist.cons _ ?_))) fun hC => ?_
          refine wt_one 23 (by kernel_rfl) ?_
          refine wt_run (v := .string (strOf s C)) rfl rfl (ex_convStr rfl Try.underlying23 Try.underlying5 Try.underlying9 rfl hao4.out (by first | exact hs.own_rdx 1 rfl hao4.out | exact hs.own_rdx 2 rfl hao4.out | exact hs.own_rdx 3 rfl hao4.out)) (by simp only [Act.put, List.setIfInBounds_toArray, List.set_cons_succ, List.set_cons_zero]; rfl) ?_
          refine wt_and (hs.sub (by repeat (first | exact List.Sublist.refl _ | refine List.Sublist.cons_cons _ ?_ | refine List.Sublist.cons _ ?_))) fun hC => ?_
          refine wt_take 24 rfl (by kernel_rfl) (by kernel_rfl) (by kernel_rfl) (fun _ _ _ _ h => h) rfl hC ⟨.bool true, fun w hw => ex_eqlSR rfl rfl rfl rfl rfl (eqS_refl s C), fun a1 ha => ?_⟩
          simp only [Act.put, List.setIfInBounds_toArray, List.set_cons_succ, List.set_cons_zero] at ha; subst ha
          refine wt_take 25 rfl (by kernel_rfl) (by kernel_rfl) (by kernel_rfl) (fun _ _ _ _ h => h) rfl hC ⟨_, fun w hw => by (go_simp; try with_reducible rfl), fun a1 ha => ?_⟩
          simp only [Act.put, List.setIfInBounds_toArray, List.set_cons_succ, List.set_cons_zero] at ha; subst ha
          refine wt_one 26 (by kernel_rfl) ?_
          refine wt_call0 hs rfl rfl (by go_simp) (known_any _) (by simp only [Act.put, List.setIfInBounds_toArray, List.set_cons_succ, List.set_cons_zero]; rfl) ?_
          clear hs; intro w1 hs
          refine wt_and (hs.sub (by repeat (first | exact List.Sublist.refl _ | refine List.Sublist.cons_cons _ ?_ | refine List.Sublist.cons _ ?_))) fun hC => ?_
          refine wt_take 27 rfl (by kernel_rfl) (by kernel_rfl) (by kernel_rfl) (fun _ _ _ _ h => h) rfl hC ⟨_, fun w hw => by (go_simp; try with_reducible rfl), fun a1 ha => ?_⟩
          simp only [Act.put, List.setIfInBounds_toArray, List.set_cons_succ, List.set_cons_zero] at ha; subst ha
          refine wt_take 28 rfl (by kernel_rfl) (by kernel_rfl) (by kernel_rfl) (fun _ _ _ _ h => h) rfl hC ⟨_, fun w hw => by (go_simp; try with_reducible rfl), fun a1 ha => ?_⟩
          simp only [Act.put, List.setIfInBounds_toArray, List.set_cons_succ, List.set_cons_zero] at ha; subst ha
          refine wt_done (by kernel_rfl) ?_
          go_wp2_with fail
          go_ret
          exact ⟨rfl, hs.letgo⟩
        exact wt_nil
      · have hsk2 : 128 * (k : Int) < (s : Int) := by omega
        refine wt_enter 29 rfl hs (by kernel_rfl) ?_
        clear hs; intro w1 hs; have hC := hs
        refine wt_take 0 rfl (by kernel_rfl) (by kernel_rfl) (by kernel_rfl) (fun _ _ _ _ h => h) rfl hC ⟨_, fun w hw => by (go_simp; try with_reducible rfl), fun a1 ha => ?_⟩
        simp only [Act.put, List.setIfInBounds_toArray, List.set_cons_succ, List.set_cons_zero] at ha; subst ha
        refine wt_take 1 rfl (by kernel_rfl) (by kernel_rfl) (by kernel_rfl) (fun _ _ _ _ h => h) rfl hC ⟨_, fun w hw => by (go_simp; try with_reducible rfl), fun a1 ha => ?_⟩
        simp only [Act.put, List.setIfInBounds_toArray, List.set_cons_succ, List.set_cons_zero] at ha; subst ha
        refine wt_take 5 rfl (by kernel_rfl) (by kernel_rfl) (by kernel_rfl) (fun _ _ _ _ h => h) rfl hC ⟨_, fun w hw => by (go_simp; try with_reducible rfl), fun a1 ha => ?_⟩
        simp only [Act.put, List.setIfInBounds_toArray, List.set_cons_succ, List.set_cons_zero] at ha; subst ha
        refine wt_take 6 rfl (by kernel_rfl) (by kernel_rfl) (by kernel_rfl) (fun _ _ _ _ h => h) rfl hC ⟨_, fun w hw => by (go_simp; try with_reducible rfl), fun a1 ha => ?_⟩
        simp only [Act.put, List.setIfInBounds_toArray, List.set_cons_succ, List.set_cons_zero] at ha; subst ha
        refine wt_take 7 rfl (by kernel_rfl) (by kernel_rfl) (by kernel_rfl) (fun _ _ _ _ h => h) rfl hC ⟨.int .i64 (128 * (k : Int)), fun w hw => by (go_simp; first | done | exact wrap_in (by omega) | go_num), fun a1 ha => ?_⟩
        simp only [Act.put, List.setIfInBounds_toArray, List.set_cons_succ, List.set_cons_zero] at ha; subst ha
        refine wt_take 8 rfl (by kernel_rfl) (by kernel_rfl) (by kernel_rfl) (fun _ _ _ _ h => h) rfl hC ⟨.int .i64 (p : Int), fun w hw => by (go_simp; first | done | exact wrap_in (by omega) | go_num), fun a1 ha => ?_⟩
        simp only [Act.put, List.setIfInBounds_toArray, List.set_cons_succ, List.set_cons_zero] at ha; subst ha
        refine wt_take 9 rfl (by kernel_rfl) (by kernel_rfl) (by kernel_rfl) (fun _ _ _ _ h => h) rfl hC ⟨_, fun w hw => by (go_simp; try with_reducible rfl), fun a1 ha => ?_⟩
        simp only [Act.put, List.setIfInBounds_toArray, List.set_cons_succ, List.set_cons_zero] at ha; subst ha
        refine wt_take 10 rfl (by kernel_rfl) (by kernel_rfl) (by kernel_rfl) (fun _ _ _ _ h => h) rfl hC ⟨_, fun w hw => by (go_simp; try with_reducible rfl), fun a1 ha => ?_⟩
        simp only [Act.put, List.setIfInBounds_toArray, List.set_cons_succ, List.set_cons_zero] at ha; subst ha
        refine wt_takeSlice 11 rfl (by kernel_rfl) (by kernel_rfl) (by kernel_rfl) (fun _ _ _ _ h => h) rfl hC rfl Try.underlying25 size30 rfl (0) (k) (Or.inl ⟨rfl, rfl⟩) (Or.inr ⟨_, _, rfl, rfl⟩) (by omega) (by omega) (fun h => haoL.out (by omega)) ?_
        intro s1 hs1 a1 ha; replace hs1 := Lib.hid hs1
        simp only [Act.put, List.setIfInBounds_toArray, List.set_cons_succ, List.set_cons_zero] at ha; subst ha
        refine wt_take 14 rfl (by kernel_rfl) (by kernel_rfl) (by kernel_rfl) (fun _ _ _ _ h => h) rfl hC ⟨_, fun w hw => by (go_simp; try with_reducible rfl), fun a1 ha => ?_⟩
        simp only [Act.put, List.setIfInBounds_toArray, List.set_cons_succ, List.set_cons_zero] at ha; subst ha
        refine wt_take 15 rfl (by kernel_rfl) (by kernel_rfl) (by kernel_rfl) (fun _ _ _ _ h => h) rfl hC ⟨_, fun w hw => by (go_simp; try with_reducible rfl), fun a1 ha => ?_⟩
        simp only [Act.put, List.setIfInBounds_toArray, List.set_cons_succ, List.set_cons_zero] at ha; subst ha
        refine wt_take 16 rfl (by kernel_rfl) (by kernel_rfl) (by kernel_rfl) (fun _ _ _ _ h => h) rfl hC ⟨.int .i64 (128 * (k : Int)), fun w hw => by (go_simp; first | done | exact wrap_in (by omega) | go_num), fun a1 ha => ?_⟩
        simp only [Act.put, List.setIfInBounds_toArray, List.set_cons_succ, List.set_cons_zero] at ha; subst ha
        refine wt_take 17 rfl (by kernel_rfl) (by kernel_rfl) (by kernel_rfl) (fun _ _ _ _ h => h) rfl hC ⟨.int .i64 ((s : Int) - 128 * (k : Int)), fun w hw => by (go_simp; first | done | exact wrap_in (by omega) | go_num), fun a1 ha => ?_⟩
        simp only [Act.put, List.setIfInBounds_toArray, List.set_cons_succ, List.set_cons_zero] at ha; subst ha
        refine wt_take 18 rfl (by kernel_rfl) (by kernel_rfl) (by kernel_rfl) (fun _ _ _ _ h => h) rfl hC ⟨_, fun w hw => by (go_simp; try with_reducible rfl), fun a1 ha => ?_⟩
        simp only [Act.put, List.setIfInBounds_toArray, List.set_cons_succ, List.set_cons_zero] at ha; subst ha
        refine wt_take 19 rfl (by kernel_rfl) (by kernel_rfl) (by kernel_rfl) (fun _ _ _ _ h => h) rfl hC ⟨_, fun w hw => by (go_simp; try with_reducible rfl), fun a1 ha => ?_⟩
        simp only [Act.put, List.setIfInBounds_toArray, List.set_cons_succ, List.set_cons_zero] at ha; subst ha
        refine wt_takeSlice 20 rfl (by kernel_rfl) (by kernel_rfl) (by kernel_rfl) (fun _ _ _ _ h => h) rfl hC rfl Try.underlying25 size30 rfl (k) (m) (Or.inr ⟨_, _, rfl, rfl⟩) (Or.inl ⟨rfl, rfl⟩) (by omega) (by omega) (fun h => haoL.out (by omega)) ?_
        intro s2 hs2 a1 ha; replace hs2 := Lib.hid hs2
        simp only [Act.put, List.setIfInBounds_toArray, List.set_cons_succ, List.set_cons_zero] at ha; subst ha
        refine wt_all [2, 4] (by kernel_rfl) (by simp) ?_
        refine wt_cons ?_ ?_
        ·
          refine wt_callR (R := fun v => Res.own 5 1 v s (rowOf s (u8v C)).toList) hs rfl rfl (by go_simp) (HJ.out s (by omega) s (by omega) _ (by first | exact hs.own_rdx 0 rfl haoL.out | exact hs.own_rdx 1 rfl haoL.out)) (fun _ => by simp only [Act.put, List.setIfInBounds_toArray, List.set_cons_succ, List.set_cons_zero]; rfl) ?_
          clear hs; intro w1 v1 hs; obtain ⟨ao1, c1, g1, rfl, hc1, hcm1, hao1, hcz1⟩ := hs.own_open 0 rfl; replace hao1 := Lib.hid hao1; replace hcz1 := Lib.hid hcz1
          refine wt_and (hs.sub (by repeat (first | exact List.Sublist.refl _ | refine List.Sublist.cons_cons _ ?_ | refine List.Sublist.cons _ ?_))) fun hC => ?_
          refine wt_more (C' := fun w' => Tr w [] w' [Res.own 5 1 (.slice ao1 s c1) s (rowOf s (u8v C)).toList, Res.own 30 128 (.slice aoL m cL) m (rowOf (m * 128) (u8v C)).toList]) (fun w' h => h.erase 0) _ _ _ _ ?_
          clear hC
          have hC : Tr w [] _ [Res.own 5 1 (.slice ao1 s c1) s (rowOf s (u8v C)).toList, Res.own 30 128 (.slice aoL m cL) m (rowOf (m * 128) (u8v C)).toList] := (hs.sub (by repeat (first | exact List.Sublist.refl _ | refine List.Sublist.cons_cons _ ?_ | refine List.Sublist.cons _ ?_)))
          refine wt_take 3 rfl (by kernel_rfl) (by kernel_rfl) (by kernel_rfl) (fun _ _ _ _ h => h) rfl hC ⟨.string (strOf s C), fun w hw => ex_convStr rfl Try.underlying23 Try.underlying5 Try.underlying9 rfl hao1.out (hw.own_rdx 0 rfl hao1.out), fun a1 ha => ?_⟩
          simp only [Act.put, List.setIfInBounds_toArray, List.set_cons_succ, List.set_cons_zero] at ha; subst ha
          refine wt_all [4, 12] (by kernel_rfl) (by simp) ?_
          refine wt_cons ?_ ?_
          ·
            refine wt_slice0 hs rfl rfl rfl Try.underlying23 size5 (fun _ => by simp only [Act.put, List.setIfInBounds_toArray, List.set_cons_succ, List.set_cons_zero]; rfl) ?_
            clear hs; intro w1 v9 hs
            refine wt_and (hs.sub (by repeat (first | exact List.Sublist.refl _ | refine List.Sublist.cons_cons _ ?_ | refine List.Sublist.cons _ ?_))) fun hC => ?_
            refine wt_one 12 (by kernel_rfl) ?_
            refine wt_callR (R := fun v => Res.own 5 1 v p (rowOf p (u8v C)).toList) hs rfl rfl (by go_simp) (HJK.out s1 cL hs1.out _ (by first | exact hs.own_rdx 1 rfl haoL.out | exact hs.own_rdx 2 rfl haoL.out)) (fun _ => by simp only [Act.put, List.setIfInBounds_toArray, List.set_cons_succ, List.set_cons_zero]; rfl) ?_
            clear hs; intro w1 v1 hs; obtain ⟨ao2, c2, g2, rfl, hc2, hcm2, hao2, hcz2⟩ := hs.own_open 0 rfl; replace hao2 := Lib.hid hao2; replace hcz2 := Lib.hid hcz2
            refine wt_and (hs.sub (by repeat (first | exact List.Sublist.refl _ | refine List.Sublist.cons_cons _ ?_ | refine List.Sublist.cons _ ?_))) fun hC => ?_
            refine wt_one 13 (by kernel_rfl) ?_
            first
              | refine wt_appendG hs rfl rfl rfl Try.underlying23 info5 rfl (by omega) 1 rfl rfl rfl hcz2.out g2 0 hao2.out (rowOf p (u8v C)).toList (by simp) ((by first | exact hs.own_rdx 0 rfl hao2.out | exact hs.own_rdx 1 rfl hao2.out : Rd _ _ _ _ _).news) (oneU8 _ _) (by unfold maxLen; omega) (by omega) (fun _ => by simp only [Act.put, List.setIfInBounds_toArray, List.set_cons_succ, List.set_cons_zero]; rfl) ?_
              | refine wt_appendG hs rfl rfl rfl Try.underlying23 info5 rfl (by omega) 0 rfl rfl rfl hcz2.out g2 0 hao2.out (rowOf p (u8v C)).toList (by simp) ((by first | exact hs.own_rdx 0 rfl hao2.out | exact hs.own_rdx 1 rfl hao2.out : Rd _ _ _ _ _).news) (oneU8 _ _) (by unfold maxLen; omega) (by omega) (fun _ => by simp only [Act.put, List.setIfInBounds_toArray, List.set_cons_succ, List.set_cons_zero]; rfl) ?_
              | refine wt_appendG hs rfl rfl rfl Try.underlying23 info5 rfl (by omega) 2 rfl rfl rfl hcz2.out g2 0 hao2.out (rowOf p (u8v C)).toList (by simp) ((by first | exact hs.own_rdx 0 rfl hao2.out | exact hs.own_rdx 1 rfl hao2.out : Rd _ _ _ _ _).news) (oneU8 _ _) (by unfold maxLen; omega) (by omega) (fun _ => by simp only [Act.put, List.setIfInBounds_toArray, List.set_cons_succ, List.set_cons_zero]; rfl) ?_
            clear hs; intro w1 v9 hs
            refine wt_and (hs.sub (by repeat (first | exact List.Sublist.refl _ | refine List.Sublist.cons_cons _ ?_ | refine List.Sublist.cons _ ?_))) fun hC => ?_
            refine wt_one 21 (by kernel_rfl) ?_
            refine wt_callR (R := fun v => Res.own 5 1 v q (rowOf q (u8v fun j => C (k * 128 + j))).toList) hs rfl rfl (by go_simp) (HJR.out s2 (cL - k) hs2.out _ (by first | exact hs.own_rdx 2 rfl haoL.out | exact hs.own_rdx 3 rfl haoL.out)) (fun _ => by simp only [Act.put, List.setIfInBounds_toArray, List.set_cons_succ, List.set_cons_zero]; rfl) ?_
            clear hs; intro w1 v1 hs; obtain ⟨ao3, c3, g3, rfl, hc3, hcm3, hao3, hcz3⟩ := hs.own_open 0 rfl; replace hao3 := Lib.hid hao3; replace hcz3 := Lib.hid hcz3
            refine wt_and (hs.sub (by repeat (first | exact List.Sublist.refl _ | refine List.Sublist.cons_cons _ ?_ | refine List.Sublist.cons _ ?_))) fun hC => ?_
            refine wt_one 22 (by kernel_rfl) ?_
            first
              | refine wt_appendG hs rfl rfl rfl Try.underlying23 info5 rfl (by omega) 2 rfl rfl rfl hcz3.out g3 0 hao3.out (rowOf q (u8v fun j => C (k * 128 + j))).toList (by simp) ((hs.own_rdx 0 rfl hao3.out).news) (oneU8 _ _) (by unfold maxLen; omega) (by omega) (fun _ => by simp only [Act.put, List.setIfInBounds_toArray, List.set_cons_succ, List.set_cons_zero]; rfl) ?_
              | refine wt_appendG hs rfl rfl rfl Try.underlying23 info5 rfl (by omega) 1 rfl rfl rfl hcz3.out g3 0 hao3.out (rowOf q (u8v fun j => C (k * 128 + j))).toList (by simp) ((hs.own_rdx 0 rfl hao3.out).news) (oneU8 _ _) (by unfold maxLen; omega) (by omega) (fun _ => by simp only [Act.put, List.setIfInBounds_toArray, List.set_cons_succ, List.set_cons_zero]; rfl) ?_
              | refine wt_appendG hs rfl rfl rfl Try.underlying23 info5 rfl (by omega) 3 rfl rfl rfl hcz3.out g3 0 hao3.out (rowOf q (u8v fun j => C (k * 128 + j))).toList (by simp) ((hs.own_rdx 0 rfl hao3.out).news) (oneU8 _ _) (by unfold maxLen; omega) (by omega) (fun _ => by simp only [Act.put, List.setIfInBounds_toArray, List.set_cons_succ, List.set_cons_zero]; rfl) ?_
            clear hs; intro w1 v9 hs
            rw [appJ C p q s k hpq hp] at hs
            obtain ⟨ao4, c4, g4, rfl, hc4, hcm4, hao4, hcz4⟩ := (by first | exact hs.own_open 1 rfl | exact hs.own_open 2 rfl | exact hs.own_open 3 rfl : ∃ ao c g, v9 = .slice ao s c ∧ s ≤ c ∧ c ≤ maxLen ∧ (0 < s → ao = some ⟨g, 0, none⟩) ∧ (ao = none → c = 0))
            replace hao4 := Lib.hid hao4
            refine wt_and (hs.sub (by repeat (first | exact List.Sublist.refl _ | refine List.Sublist.cons_cons _ ?_ | refine List.Sublist.cons _ ?_))) fun hC => ?_
            refine wt_one 23 (by kernel_rfl) ?_
            refine wt_run (v := .string (strOf s C)) rfl rfl (ex_convStr rfl Try.underlying23 Try.underlying5 Try.underlying9 rfl hao4.out (by first | exact hs.own_rdx 1 rfl hao4.out | exact hs.own_rdx 2 rfl hao4.out | exact hs.own_rdx 3 rfl hao4.out)) (by simp only [Act.put, List.setIfInBounds_toArray, List.set_cons_succ, List.set_cons_zero]; rfl) ?_
            refine wt_and (hs.sub (by repeat (first | exact List.Sublist.refl _ | refine List.Sublist.cons_cons _ ?_ | refine List.Sublist.cons _ ?_))) fun hC => ?_
            refine wt_take 24 rfl (by kernel_rfl) (by kernel_rfl) (by kernel_rfl) (fun _ _ _ _ h => h) rfl hC ⟨.bool true, fun w hw => ex_eqlSR rfl rfl rfl rfl rfl (eqS_refl s C), fun a1 ha => ?_⟩
            simp only [Act.put, List.setIfInBounds_toArray, List.set_cons_succ, List.set_cons_zero] at ha; subst ha
            refine wt_take 25 rfl (by kernel_rfl) (by kernel_rfl) (by kernel_rfl) (fun _ _ _ _ h => h) rfl hC ⟨_, fun w hw => by (go_simp; try with_reducible rfl), fun a1 ha => ?_⟩
            simp only [Act.put, List.setIfInBounds_toArray, List.set_cons_succ, List.set_cons_zero] at ha; subst ha
            refine wt_one 26 (by kernel_rfl) ?_
            refine wt_call0 hs rfl rfl (by go_simp) (known_any _) (by simp only [Act.put, List.setIfInBounds_toArray, List.set_cons_succ, List.set_cons_zero]; rfl) ?_
            clear hs; intro w1 hs
            refine wt_and (hs.sub (by repeat (first | exact List.Sublist.refl _ | refine List.Sublist.cons_cons _ ?_ | refine List.Sublist.cons _ ?_))) fun hC => ?_
            refine wt_take 27 rfl (by kernel_rfl) (by kernel_rfl) (by kernel_rfl) (fun _ _ _ _ h => h) rfl hC ⟨_, fun w hw => by (go_simp; try with_reducible rfl), fun a1 ha => ?_⟩
            simp only [Act.put, List.setIfInBounds_toArray, List.set_cons_succ, List.set_cons_zero] at ha; subst ha
            refine wt_take 28 rfl (by kernel_rfl) (by kernel_rfl) (by kernel_rfl) (fun _ _ _ _ h => h) rfl hC ⟨_, fun w hw => by (go_simp; try with_reducible rfl), fun a1 ha => ?_⟩
            simp only [Act.put, List.setIfInBounds_toArray, List.set_cons_succ, List.set_cons_zero] at ha; subst ha
            refine wt_done (by kernel_rfl) ?_
            go_wp2_with fail
            go_ret
            exact ⟨rfl, hs.letgo⟩
          refine wt_cons ?_ ?_
          ·
            refine wt_callR (R := fun v => Res.own 5 1 v p (rowOf p (u8v C)).toList) hs rfl rfl (by go_simp) (HJK.out s1 cL hs1.out _ (by first | exact hs.own_rdx 1 rfl haoL.out | exact hs.own_rdx 2 rfl haoL.out)) (fun _ => by simp only [Act.put, List.setIfInBounds_toArray, List.set_cons_succ, List.set_cons_zero]; rfl) ?_
            clear hs; intro w1 v1 hs; obtain ⟨ao2, c2, g2, rfl, hc2, hcm2, hao2, hcz2⟩ := hs.own_open 0 rfl; replace hao2 := Lib.hid hao2; replace hcz2 := Lib.hid hcz2
            refine wt_and (hs.sub (by repeat (first | exact List.Sublist.refl _ | refine List.Sublist.cons_cons _ ?_ | refine List.Sublist.cons _ ?_))) fun hC => ?_
            refine wt_one 4 (by kernel_rfl) ?_
            refine wt_slice0 hs rfl rfl rfl Try.underlying23 size5 (fun _ => by simp only [Act.put, List.setIfInBounds_toArray, List.set_cons_succ, List.set_cons_zero]; rfl) ?_
            clear hs; intro w1 v9 hs
            refine wt_and (hs.sub (by repeat (first | exact List.Sublist.refl _ | refine List.Sublist.cons_cons _ ?_ | refine List.Sublist.cons _ ?_))) fun hC => ?_
            refine wt_one 13 (by kernel_rfl) ?_
            first
              | refine wt_appendG hs rfl rfl rfl Try.underlying23 info5 rfl (by omega) 1 rfl rfl rfl hcz2.out g2 0 hao2.out (rowOf p (u8v C)).toList (by simp) ((by first | exact hs.own_rdx 0 rfl hao2.out | exact hs.own_rdx 1 rfl hao2.out : Rd _ _ _ _ _).news) (oneU8 _ _) (by unfold maxLen; omega) (by omega) (fun _ => by simp only [Act.put, List.setIfInBounds_toArray, List.set_cons_succ, List.set_cons_zero]; rfl) ?_
              | refine wt_appendG hs rfl rfl rfl Try.underlying23 info5 rfl (by omega) 0 rfl rfl rfl hcz2.out g2 0 hao2.out (rowOf p (u8v C)).toList (by simp) ((by first | exact hs.own_rdx 0 rfl hao2.out | exact hs.own_rdx 1 rfl hao2.out : Rd _ _ _ _ _).news) (oneU8 _ _) (by unfold maxLen; omega) (by omega) (fun _ => by simp only [Act.put, List.setIfInBounds_toArray, List.set_cons_succ, List.set_cons_zero]; rfl) ?_
              | refine wt_appendG hs rfl rfl rfl Try.underlying23 info5 rfl (by omega) 2 rfl rfl rfl hcz2.out g2 0 hao2.out (rowOf p (u8v C)).toList (by simp) ((by first | exact hs.own_rdx 0 rfl hao2.out | exact hs.own_rdx 1 rfl hao2.out : Rd _ _ _ _ _).news) (oneU8 _ _) (by unfold maxLen; omega) (by omega) (fun _ => by simp only [Act.put, List.setIfInBounds_toArray, List.set_cons_succ, List.set_cons_zero]; rfl) ?_
            clear hs; intro w1 v9 hs
            refine wt_and (hs.sub (by repeat (first | exact List.Sublist.refl _ | refine List.Sublist.cons_cons _ ?_ | refine List.Sublist.cons _ ?_))) fun hC => ?_
            refine wt_one 21 (by kernel_rfl) ?_
            refine wt_callR (R := fun v => Res.own 5 1 v q (rowOf q (u8v fun j => C (k * 128 + j))).toList) hs rfl rfl (by go_simp) (HJR.out s2 (cL - k) hs2.out _ (by first | exact hs.own_rdx 2 rfl haoL.out | exact hs.own_rdx 3 rfl haoL.out)) (fun _ => by simp only [Act.put, List.setIfInBounds_toArray, List.set_cons_succ, List.set_cons_zero]; rfl) ?_
            clear hs; intro w1 v1 hs; obtain ⟨ao3, c3, g3, rfl, hc3, hcm3, hao3, hcz3⟩ := hs.own_open 0 rfl; replace hao3 := Lib.hid hao3; replace hcz3 := Lib.hid hcz3
            refine wt_and (hs.sub (by repeat (first | exact List.Sublist.refl _ | refine List.Sublist.cons_cons _ ?_ | refine List.Sublist.cons _ ?_))) fun hC => ?_
            refine wt_one 22 (by kernel_rfl) ?_
            first
              | refine wt_appendG hs rfl rfl rfl Try.underlying23 info5 rfl (by omega) 2 rfl rfl rfl hcz3.out g3 0 hao3.out (rowOf q (u8v fun j => C (k * 128 + j))).toList (by simp) ((hs.own_rdx 0 rfl hao3.out).news) (oneU8 _ _) (by unfold maxLen; omega) (by omega) (fun _ => by simp only [Act.put, List.setIfInBounds_toArray, List.set_cons_succ, List.set_cons_zero]; rfl) ?_
              | refine wt_appendG hs rfl rfl rfl Try.underlying23 info5 rfl (by omega) 1 rfl rfl rfl hcz3.out g3 0 hao3.out (rowOf q (u8v fun j => C (k * 128 + j))).toList (by simp) ((hs.own_rdx 0 rfl hao3.out).news) (oneU8 _ _) (by unfold maxLen; omega) (by omega) (fun _ => by simp only [Act.put, List.setIfInBounds_toArray, List.set_cons_succ, List.set_cons_zero]; rfl) ?_
              | refine wt_appendG hs rfl rfl rfl Try.underlying23 info5 rfl (by omega) 3 rfl rfl rfl hcz3.out g3 0 hao3.out (rowOf q (u8v fun j => C (k * 128 + j))).toList (by simp) ((hs.own_rdx 0 rfl hao3.out).news) (oneU8 _ _) (by unfold maxLen; omega) (by omega) (fun _ => by simp only [Act.put, List.setIfInBounds_toArray, List.set_cons_succ, List.set_cons_zero]; rfl) ?_
            clear hs; intro w1 v9 hs
            rw [appJ C p q s k hpq hp] at hs
            obtain ⟨ao4, c4, g4, rfl, hc4, hcm4, hao4, hcz4⟩ := (by first | exact hs.own_open 1 rfl | exact hs.own_open 2 rfl | exact hs.own_open 3 rfl : ∃ ao c g, v9 = .slice ao s c ∧ s ≤ c ∧ c ≤ maxLen ∧ (0 < s → ao = some ⟨g, 0, none⟩) ∧ (ao = none → c = 0))
            replace hao4 := Lib.hid hao4
            refine wt_and (hs.sub (by repeat (first | exact List.Sublist.refl _ | refine List.Sublist.cons_cons _ ?_ | refine List.Sublist.cons _ ?_))) fun hC => ?_
            refine wt_one 23 (by kernel_rfl) ?_
            refine wt_run (v := .string (strOf s C)) rfl rfl (ex_convStr rfl Try.underlying23 Try.underlying5 Try.underlying9 rfl hao4.out (by first | exact hs.own_rdx 1 rfl hao4.out | exact hs.own_rdx 2 rfl hao4.out | exact hs.own_rdx 3 rfl hao4.out)) (by simp only [Act.put, List.setIfInBounds_toArray, List.set_cons_succ, List.set_cons_zero]; rfl) ?_
            refine wt_and (hs.sub (by repeat (first | exact List.Sublist.refl _ | refine List.Sublist.cons_cons _ ?_ | refine List.Sublist.cons _ ?_))) fun hC => ?_
            refine wt_take 24 rfl (by kernel_rfl) (by kernel_rfl) (by kernel_rfl) (fun _ _ _ _ h => h) rfl hC ⟨.bool true, fun w hw => ex_eqlSR rfl rfl rfl rfl rfl (eqS_refl s C), fun a1 ha => ?_⟩
            simp only [Act.put, List.setIfInBounds_toArray, List.set_cons_succ, List.set_cons_zero] at ha; subst ha
            refine wt_take 25 rfl (by kernel_rfl) (by kernel_rfl) (by kernel_rfl) (fun _ _ _ _ h => h) rfl hC ⟨_, fun w hw => by (go_simp; try with_reducible rfl), fun a1 ha => ?_⟩
            simp only [Act.put, List.setIfInBounds_toArray, List.set_cons_succ, List.set_cons_zero] at ha; subst ha
            refine wt_one 26 (by kernel_rfl) ?_
            refine wt_call0 hs rfl rfl (by go_simp) (known_any _) (by simp only [Act.put, List.setIfInBounds_toArray, List.set_cons_succ, List.set_cons_zero]; rfl) ?_
            clear hs; intro w1 hs
            refine wt_and (hs.sub (by repeat (first | exact List.Sublist.refl _ | refine List.Sublist.cons_cons _ ?_ | refine List.Sublist.cons _ ?_))) fun hC => ?_
            refine wt_take 27 rfl (by kernel_rfl) (by kernel_rfl) (by kernel_rfl) (fun _ _ _ _ h => h) rfl hC ⟨_, fun w hw => by (go_simp; try with_reducible rfl), fun a1 ha => ?_⟩
            simp only [Act.put, List.setIfInBounds_toArray, List.set_cons_succ, List.set_cons_zero] at ha; subst ha
            refine wt_take 28 rfl (by kernel_rfl) (by kernel_rfl) (by kernel_rfl) (fun _ _ _ _ h => h) rfl hC ⟨_, fun w hw => by (go_simp; try with_reducible rfl), fun a1 ha => ?_⟩
            simp only [Act.put, List.setIfInBounds_toArray, List.set_cons_succ, List.set_cons_zero] at ha; subst ha
            refine wt_done (by kernel_rfl) ?_
            go_wp2_with fail
            go_ret
            exact ⟨rfl, hs.letgo⟩
          exact wt_nil
        refine wt_cons ?_ ?_
        ·
          refine wt_slice0 hs rfl rfl rfl Try.underlying23 size5 (fun _ => by simp only [Act.put, List.setIfInBounds_toArray, List.set_cons_succ, List.set_cons_zero]; rfl) ?_
          clear hs; intro w1 v9 hs
          refine wt_and (hs.sub (by repeat (first | exact List.Sublist.refl _ | refine List.Sublist.cons_cons _ ?_ | refine List.Sublist.cons _ ?_))) fun hC => ?_
          refine wt_one 2 (by kernel_rfl) ?_
          refine wt_callR (R := fun v => Res.own 5 1 v s (rowOf s (u8v C)).toList) hs rfl rfl (by go_simp) (HJ.out s (by omega) s (by omega) _ (by first | exact hs.own_rdx 0 rfl haoL.out | exact hs.own_rdx 1 rfl haoL.out)) (fun _ => by simp only [Act.put, List.setIfInBounds_toArray, List.set_cons_succ, List.set_cons_zero]; rfl) ?_
          clear hs; intro w1 v1 hs; obtain ⟨ao1, c1, g1, rfl, hc1, hcm1, hao1, hcz1⟩ := hs.own_open 0 rfl; replace hao1 := Lib.hid hao1; replace hcz1 := Lib.hid hcz1
          refine wt_and (hs.sub (by repeat (first | exact List.Sublist.refl _ | refine List.Sublist.cons_cons _ ?_ | refine List.Sublist.cons _ ?_))) fun hC => ?_
          refine wt_more (C' := fun w' => Tr w [] w' [Res.own 5 1 (.slice ao1 s c1) s (rowOf s (u8v C)).toList, Res.own 30 128 (.slice aoL m cL) m (rowOf (m * 128) (u8v C)).toList]) (fun w' h => h.erase 0) _ _ _ _ ?_
          clear hC
          have hC : Tr w [] _ [Res.own 5 1 (.slice ao1 s c1) s (rowOf s (u8v C)).toList, Res.own 30 128 (.slice aoL m cL) m (rowOf (m * 128) (u8v C)).toList] := (hs.sub (by repeat (first | exact List.Sublist.refl _ | refine List.Sublist.cons_cons _ ?_ | refine List.Sublist.cons _ ?_)))
          refine wt_take 3 rfl (by kernel_rfl) (by kernel_rfl) (by kernel_rfl) (fun _ _ _ _ h => h) rfl hC ⟨.string (strOf s C), fun w hw => ex_convStr rfl Try.underlying23 Try.underlying5 Try.underlying9 rfl hao1.out (hw.own_rdx 0 rfl hao1.out), fun a1 ha => ?_⟩
          simp only [Act.put, List.setIfInBounds_toArray, List.set_cons_succ, List.set_cons_zero] at ha; subst ha
          refine wt_one 12 (by kernel_rfl) ?_
          refine wt_callR (R := fun v => Res.own 5 1 v p (rowOf p (u8v C)).toList) hs rfl rfl (by go_simp) (HJK.out s1 cL hs1.out _ (by first | exact hs.own_rdx 1 rfl haoL.out | exact hs.own_rdx 2 rfl haoL.out)) (fun _ => by simp only [Act.put, List.setIfInBounds_toArray, List.set_cons_succ, List.set_cons_zero]; rfl) ?_
          clear hs; intro w1 v1 hs; obtain ⟨ao2, c2, g2, rfl, hc2, hcm2, hao2, hcz2⟩ := hs.own_open 0 rfl; replace hao2 := Lib.hid hao2; replace hcz2 := Lib.hid hcz2
          refine wt_and (hs.sub (by repeat (first | exact List.Sublist.refl _ | refine List.Sublist.cons_cons _ ?_ | refine List.Sublist.cons _ ?_))) fun hC => ?_
          refine wt_one 13 (by kernel_rfl) ?_
          first
            | refine wt_appendG hs rfl rfl rfl Try.underlying23 info5 rfl (by omega) 1 rfl rfl rfl hcz2.out g2 0 hao2.out (rowOf p (u8v C)).toList (by simp) ((by first | exact hs.own_rdx 0 rfl hao2.out | exact hs.own_rdx 1 rfl hao2.out : Rd _ _ _ _ _).news) (oneU8 _ _) (by unfold maxLen; omega) (by omega) (fun _ => by simp only [Act.put, List.setIfInBounds_toArray, List.set_cons_succ, List.set_cons_zero]; rfl) ?_
            | refine wt_appendG hs rfl rfl rfl Try.underlying23 info5 rfl (by omega) 0 rfl rfl rfl hcz2.out g2 0 hao2.out (rowOf p (u8v C)).toList (by simp) ((by first | exact hs.own_rdx 0 rfl hao2.out | exact hs.own_rdx 1 rfl hao2.out : Rd _ _ _ _ _).news) (oneU8 _ _) (by unfold maxLen; omega) (by omega) (fun _ => by simp only [Act.put, List.setIfInBounds_toArray, List.set_cons_succ, List.set_cons_zero]; rfl) ?_
            | refine wt_appendG hs rfl rfl rfl Try.underlying23 info5 rfl (by omega) 2 rfl rfl rfl hcz2.out g2 0 hao2.out (rowOf p (u8v C)).toList (by simp) ((by first | exact hs.own_rdx 0 rfl hao2.out | exact hs.own_rdx 1 rfl hao2.out : Rd _ _ _ _ _).news) (oneU8 _ _) (by unfold maxLen; omega) (by omega) (fun _ => by simp only [Act.put, List.setIfInBounds_toArray, List.set_cons_succ, List.set_cons_zero]; rfl) ?_
          clear hs; intro w1 v9 hs
          refine wt_and (hs.sub (by repeat (first | exact List.Sublist.refl _ | refine List.Sublist.cons_cons _ ?_ | refine List.Sublist.cons _ ?_))) fun hC => ?_
          refine wt_one 21 (by kernel_rfl) ?_
          refine wt_callR (R := fun v => Res.own 5 1 v q (rowOf q (u8v fun j => C (k * 128 + j))).toList) hs rfl rfl (by go_simp) (HJR.out s2 (cL - k) hs2.out _ (by first | exact hs.own_rdx 2 rfl haoL.out | exact hs.own_rdx 3 rfl haoL.out)) (fun _ => by simp only [Act.put, List.setIfInBounds_toArray, List.set_cons_succ, List.set_cons_zero]; rfl) ?_
          clear hs; intro w1 v1 hs; obtain ⟨ao3, c3, g3, rfl, hc3, hcm3, hao3, hcz3⟩ := hs.own_open 0 rfl; replace hao3 := Lib.hid hao3; replace hcz3 := Lib.hid hcz3
          refine wt_and (hs.sub (by repeat (first | exact List.Sublist.refl _ | refine List.Sublist.cons_cons _ ?_ | refine List.Sublist.cons _ ?_))) fun hC => ?_
          refine wt_one 22 (by kernel_rfl) ?_
          first
            | refine wt_appendG hs rfl rfl rfl Try.underlying23 info5 rfl (by omega) 2 rfl rfl rfl hcz3.out g3 0 hao3.out (rowOf q (u8v fun j => C (k * 128 + j))).toList (by simp) ((hs.own_rdx 0 rfl hao3.out).news) (oneU8 _ _) (by unfold maxLen; omega) (by omega) (fun _ => by simp only [Act.put, List.setIfInBounds_toArray, List.set_cons_succ, List.set_cons_zero]; rfl) ?_
            | refine wt_appendG hs rfl rfl rfl Try.underlying23 info5 rfl (by omega) 1 rfl rfl rfl hcz3.out g3 0 hao3.out (rowOf q (u8v fun j => C (k * 128 + j))).toList (by simp) ((hs.own_rdx 0 rfl hao3.out).news) (oneU8 _ _) (by unfold maxLen; omega) (by omega) (fun _ => by simp only [Act.put, List.setIfInBounds_toArray, List.set_cons_succ, List.set_cons_zero]; rfl) ?_
            | refine wt_appendG hs rfl rfl rfl Try.underlying23 info5 rfl (by omega) 3 rfl rfl rfl hcz3.out g3 0 hao3.out (rowOf q (u8v fun j => C (k * 128 + j))).toList (by simp) ((hs.own_rdx 0 rfl hao3.out).news) (oneU8 _ _) (by unfold maxLen; omega) (by omega) (fun _ => by simp only [Act.put, List.setIfInBounds_toArray, List.set_cons_succ, List.set_cons_zero]; rfl) ?_
          clear hs; intro w1 v9 hs
          rw [appJ C p q s k hpq hp] at hs
          obtain ⟨ao4, c4, g4, rfl, hc4, hcm4, hao4, hcz4⟩ := (by first | exact hs.own_open 1 rfl | exact hs.own_open 2 rfl | exact hs.own_open 3 rfl : ∃ ao c g, v9 = .slice ao s c ∧ s ≤ c ∧ c ≤ maxLen ∧ (0 < s → ao = some ⟨g, 0, none⟩) ∧ (ao = none → c = 0))
          replace hao4 := Lib.hid hao4
          refine wt_and (hs.sub (by repeat (first | exact List.Sublist.refl _ | refine List.Sublist.cons_cons _ ?_ | refine List.Sublist.cons _ ?_))) fun hC => ?_
          refine wt_one 23 (by kernel_rfl) ?_
          refine wt_run (v := .string (strOf s C)) rfl rfl (ex_convStr rfl Try.underlying23 Try.underlying5 Try.underlying9 rfl hao4.out (by first | exact hs.own_rdx 1 rfl hao4.out | exact hs.own_rdx 2 rfl hao4.out | exact hs.own_rdx 3 rfl hao4.out)) (by simp only [Act.put, List.setIfInBounds_toArray, List.set_cons_succ, List.set_cons_zero]; rfl) ?_
          refine wt_and (hs.sub (by repeat (first | exact List.Sublist.refl _ | refine List.Sublist.cons_cons _ ?_ | refine List.Sublist.cons _ ?_))) fun hC => ?_
          refine wt_take 24 rfl (by kernel_rfl) (by kernel_rfl) (by kernel_rfl) (fun _ _ _ _ h => h) rfl hC ⟨.bool true, fun w hw => ex_eqlSR rfl rfl rfl rfl rfl (eqS_refl s C), fun a1 ha => ?_⟩
          simp only [Act.put, List.setIfInBounds_toArray, List.set_cons_succ, List.set_cons_zero] at ha; subst ha
          refine wt_take 25 rfl (by kernel_rfl) (by kernel_rfl) (by kernel_rfl) (fun _ _ _ _ h => h) rfl hC ⟨_, fun w hw => by (go_simp; try with_reducible rfl), fun a1 ha => ?_⟩
          simp only [Act.put, List.setIfInBounds_toArray, List.set_cons_succ, List.set_cons_zero] at ha; subst ha
          refine wt_one 26 (by kernel_rfl) ?_
          refine wt_call0 hs rfl rfl (by go_simp) (known_any _) (by simp only [Act.put, List.setIfInBounds_toArray, List.set_cons_succ, List.set_cons_zero]; rfl) ?_
          clear hs; intro w1 hs
          refine wt_and (hs.sub (by repeat (first | exact List.Sublist.refl _ | refine List.Sublist.cons_cons _ ?_ | refine List.Sublist.cons _ ?_))) fun hC => ?_
          refine wt_take 27 rfl (by kernel_rfl) (by kernel_rfl) (by kernel_rfl) (fun _ _ _ _ h => h) rfl hC ⟨_, fun w hw => by (go_simp; try with_reducible rfl), fun a1 ha => ?_⟩
          simp only [Act.put, List.setIfInBounds_toArray, List.set_cons_succ, List.set_cons_zero] at ha; subst ha
          refine wt_take 28 rfl (by kernel_rfl) (by kernel_rfl) (by kernel_rfl) (fun _ _ _ _ h => h) rfl hC ⟨_, fun w hw => by (go_simp; try with_reducible rfl), fun a1 ha => ?_⟩
          simp only [Act.put, List.setIfInBounds_toArray, List.set_cons_succ, List.set_cons_zero] at ha; subst ha
          refine wt_done (by kernel_rfl) ?_
          go_wp2_with fail
          go_ret
          exact ⟨rfl, hs.letgo⟩
        exact wt_nil
end Go.Proofs.Ytlekfbcmjcgabaa
