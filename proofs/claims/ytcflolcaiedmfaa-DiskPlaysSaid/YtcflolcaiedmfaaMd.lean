/- How the desk begins. -/
import Derived.Test.YtcflolcaiedmfaaMc
namespace Go.Proofs.Ytcflolcaiedmfaa
set_option linter.unusedVariables false
set_option linter.unusedSimpArgs false
open Go Go.Sp Go.RowKit Go.BigFrame

def begC (st : Nat → Ds) (k : Nat) : Nat → Value := fun i => if i < 3 then (if i < k then .pointer (some ⟨(st i).d, 0, none⟩) else .pointer none) else if i < 6 then (if i - 3 < k then .pointer (some ⟨(st (i - 3)).rd, 0, none⟩) else .pointer none) else .slice none 0 0
theorem begC_put (st : Nat → Ds) {k : Nat} (hk : k < 3) (y : Ds) : rowOf 8 (setC (setC (begC st k) k (.pointer (some ⟨y.d, 0, none⟩))) (3 + k) (.pointer (some ⟨y.rd, 0, none⟩))) = rowOf 8 (begC (putD st k y) (k + 1)) := rowOf_congr fun i hi => by
  unfold setC begC putD
  by_cases h3 : i < 3
  · rw [if_pos h3, if_pos h3, if_neg (by omega)]
    by_cases h : i = k
    · subst h; rw [if_pos rfl, if_pos (by omega), if_pos rfl]
    · rw [if_neg h, if_neg h]
      by_cases h4 : i < k
      · rw [if_pos h4, if_pos (by omega)]
      · rw [if_neg h4, if_neg (by omega)]
  · rw [if_neg h3, if_neg h3]
    by_cases h6 : i < 6
    · rw [if_pos h6, if_pos h6]
      by_cases h : i = 3 + k
      · subst h; rw [if_pos rfl, if_pos (by omega), if_pos (by omega)]
      · rw [if_neg h, if_neg (by omega)]
        by_cases h4 : i - 3 < k
        · rw [if_pos h4, if_pos (by omega), if_neg (by omega)]
        · rw [if_neg h4, if_neg (by omega)]
    · rw [if_neg h6, if_neg h6, if_neg (by omega), if_neg (by omega)]
theorem begC_all (st : Nat → Ds) : rowOf 8 (begC st 3) = rowOf 8 (deskC st (.slice none 0 0) (.slice none 0 0)) := rowOf_congr fun i hi => by
  unfold begC deskC
  by_cases h3 : i < 3
  · rw [if_pos h3, if_pos h3, if_pos h3]
  · rw [if_neg h3, if_neg h3]
    by_cases h6 : i < 6
    · rw [if_pos h6, if_pos h6, if_pos (by omega)]
    · rw [if_neg h6, if_neg h6]; split <;> rfl
theorem perm_snoc2 (a b : Res) (B R : List Res) : (a :: b :: (B ++ R)).Perm (B ++ (R ++ [b, a])) := by
  have h1 : (a :: b :: (B ++ R)).Perm (B ++ R ++ [a, b]) := (List.perm_append_comm (l₁ := [a, b]) (l₂ := B ++ R))
  refine h1.trans ?_
  rw [List.append_assoc]
  exact ((List.Perm.swap b a []).append_left R).append_left B
def noD : Ds := ⟨0, 0, 0, 0, 0, 0, fun _ => 0, 0, false, false, false, 0, 0⟩
set_option maxRecDepth 100000 in
set_option maxHeartbeats 1000000 in
theorem begins_any (xb n : Nat) (im : Nat → Im) (w0 w : World) (n1 : 1 ≤ n) (n2 : n ≤ 4096) (hs : Tr w0 [] w [Res.blk xb (rowOf 8 (begC (fun _ => noD) 0)) 66]) :
    Calls Try.prog 30 #[.pointer (some ⟨xb, 0, none⟩), .int .i64 n] w fun e w' => e = .returned (.bool true) ∧ ∃ st lv wv, (∀ j, j < 3 → (st j).Ok 0) ∧ Tr w0 [] w' (deskL xb st 0 lv wv im) := by
  go_enter Try.func30, Try.ntmps30
  go_wp2_with fail
  go_loopw [5] (fun i wr => ∃ (k : Nat) (st : Nat → Ds), k ≤ 3 ∧ i = .int .i64 k ∧ (∀ j, j < k → (st j).Ok 0) ∧ Tr w0 [] wr (Res.blk xb (rowOf 8 (begC st k)) 66 :: rows k (deskF st))) (fun i _ => 3 - (intOf i).toNat)
  case atStart => exact ⟨0, _, by omega, rfl, fun j hj => absurd hj (Nat.not_lt_zero j), hs⟩
  case round =>
    clear hs
    obtain ⟨k, st, hk, rfl, hst, hs⟩ := hrel
    have HST := Lib.hid hst
    clear hst
    by_cases hlt : k < 3
    · have hltI : (k : Int) < 3 := by omega
      go_upto_region 5 with (first | (go_at_call 11; refine (new_ok n _ n1 n2).mono ?_; rintro e w2 ⟨d2, s2, rfl, hc⟩; replace hs := hs.call1 hc; clear hc))
      go_upto_region 6 with (first | (go_at_call 12; refine (rnew_ok n _ n1 n2).mono ?_; rintro e w2 ⟨rd2, g2, rfl, hc⟩; replace hs := ref_own n2 (hs.call1 hc); clear hc))
      go_upto_region 9 with (first | ((with_reducible refine (at_index (t := 62)) rfl ?_); refine wl_run rfl (ex_indexA rfl Try.underlying62 size23 rfl rfl k rfl hlt) ?_) | ((with_reducible refine (at_store (t := 23)) rfl ?_); refine wl_store1R hs rfl rfl size23 rfl rfl rfl 2 rfl (by omega) (setC (begC st k) k (.pointer (some ⟨d2, 0, none⟩))) (fun j _ => by rw [Nat.zero_add, Nat.mul_one]; rfl) ?_; clear hs; intro w1 hs))
      go_wp2_with (first | ((with_reducible refine (at_index (t := 63)) rfl ?_); refine wl_run rfl (ex_indexA rfl Try.underlying63 size27 rfl rfl k rfl hlt) ?_) | ((with_reducible refine (at_store (t := 27)) rfl ?_); refine wl_store1R hs rfl rfl size27 rfl rfl rfl 2 rfl (by omega) (setC (setC (begC st k) k (.pointer (some ⟨d2, 0, none⟩))) (3 + k) (.pointer (some ⟨rd2, 0, none⟩))) (fun j _ => by rw [Nat.mul_one]; rfl) ?_; clear hs; intro w1 hs))
      go_roundw
      case rel =>
        obtain ⟨y, hy⟩ : ∃ y : Ds, y = ⟨d2, s2, g2, n, rd2, n, fun _ => 0, 0, false, false, false, 0, 0⟩ := ⟨_, rfl⟩
        refine ⟨k + 1, putD st k y, by omega, by go_num, fun j hj => ?_, ?_⟩
        · by_cases h : j = k
          · subst h; rw [putD_at, hy]; exact Like.fresh (n := n) n1 n2 (Int.le_refl _)
          · rw [putD_ne _ _ h]; exact HST.out j (by omega)
        · rw [← begC_put st hlt y, rows_succ, rows_congr (G := deskF st) (fun j hj => by unfold deskF; rw [putD_ne _ _ (by omega)])]
          have e : deskF (putD st k y) k = [y.I, y.R] := by unfold deskF; rw [putD_at]
          rw [e, hy]
          exact hs.perm (perm_snoc2 _ _ [_] _)
      case measure => simp [intOf]; omega
    · obtain rfl : k = 3 := by omega
      rw [begC_all] at hs
      go_wp2
      go_ret
      refine ⟨rfl, st, .slice none 0 0, .slice none 0 0, HST.out, ?_⟩
      have h1 := (hs.addNil 30 1).addNil 30 1
      unfold deskL
      rw [rowOf_nil, rowOf_nil]
      exact h1.perm (((List.Perm.swap _ _ _).cons _).trans (List.Perm.swap _ _ _))
end Go.Proofs.Ytcflolcaiedmfaa
