/- The document's Need. -/
import Derived.Test.YtdlnfdlgnbkppaaS1
namespace Go.Proofs.Ytdlnfdlgnbkppaa
set_option linter.unusedVariables false
set_option linter.unusedSimpArgs false
open Go Go.Sp Go.RowKit

theorem size4 : (Try.prog.info? 4).map (·.size) = some 1 := by kernel_rfl
theorem info4 : (Try.prog.info? 4).map (fun i => (i.zero, i.size, i.bytes)) = some (some (.bool false), 1, 1) := by kernel_rfl
/-- Bools as cells. -/
def bV (f : Nat → Bool) : Nat → Value := fun i => .bool (f i)
theorem zmakeB (n : Nat) : ∀ i, i < n * 1 → (Value.bool false).cells[i % (Value.bool false).cells.size]! = bV (fun _ => false) i := by
  intro i hi
  have h1 : (Value.bool false).cells = #[Value.bool false] := rfl
  rw [h1, show (#[Value.bool false] : Array Value).size = 1 from rfl, Nat.mod_one]; rfl
set_option maxRecDepth 10000 in
theorem rneed_bad (X : Nat → Int) (s : Src) (w : World) {ao : Option Addr} {N c db doff : Nat} {G : Nat → Int} (I : Ints w (.slice ao N c) ao N c db doff G)
    (j : Nat) (hj : j < N) (hgood : ∀ i, i < j → 0 ≤ G i ∧ G i < 1068) (hbad : G j < 0 ∨ 1068 ≤ G j) :
    Calls Try.prog 25 #[.agg #[.slice s.ao s.N s.c, .int .i64 s.bad, .int .i64 s.code], .agg (rowOf 18 (gI X)), .slice ao N c] w fun e w' => e = .returned (.tuple #[.int .i64 0, .int .i64 90]) ∧ Tr w [] w' [] := by
  have hs := Tr.refl w []
  have HI := Lib.hid I
  have hao := I.ao (by omega)
  subst hao
  have hmx := I.max
  have hle := I.le
  unfold maxLen at hmx
  clear I
  have HG := Lib.hid hgood
  have HB := Lib.hid hbad
  clear hgood hbad
  go_enter Try.func25, Try.ntmps25
  go_wp2_with (first | ((with_reducible refine (at_box (t := 35)) rfl ?_); refine wl_boxA hs rfl rfl rfl ?_; clear hs; intro w1 sb hs) | ((with_reducible refine (at_box (t := 29)) rfl ?_); refine wl_boxA hs rfl rfl rfl ?_; clear hs; intro w1 xb hs))
  go_loopw [8] (fun i wr => ∃ k : Nat, k ≤ j ∧ i = .int .i64 k ∧ Tr w [] wr [Res.blk xb (rowOf 18 (gI X)) 29, Res.blk sb s.cs 35]) (fun i _ => N - (intOf i).toNat)
  case atStart => exact ⟨0, by omega, rfl, hs⟩
  case round =>
    clear hs
    obtain ⟨k, hk, rfl, hs⟩ := hrel
    have hltI : (k : Int) < N := by omega
    have HV : Hid (∀ w' L, Tr w [] w' L → w'.cell? ⟨db, doff + k, none⟩ = some (.int .i64 (G k))) := Lib.hid fun w' L h => (HI.out.keep h).rd k (by omega)
    by_cases hlt : k < j
    · have h0 := (HG.out k hlt).1
      have h1 := (HG.out k hlt).2
      generalize G k = gk at *
      have t0 : decide (gk < 0) = false := decide_eq_false (by omega)
      have t1 : decide (1068 ≤ gk) = false := decide_eq_false (by omega)
      go_wp2_with (first | ((with_reducible refine at_index rfl ?_); refine wl_index rfl rfl Try.underlying33 size3 rfl rfl k rfl (by omega) rfl ?_) | ((with_reducible refine (at_load (t := 3)) rfl ?_); refine wl_loadC rfl rfl Try.underlying3 rfl rfl (by rw [Nat.mul_one]; exact HV.out _ _ hs) ?_))
      go_roundw
      case rel => exact ⟨k + 1, by omega, by go_num, hs⟩
      case measure => simp [intOf]; omega
    · obtain rfl : k = j := by omega
      generalize G k = gk at *
      by_cases h0 : gk < 0
      · clear HB
        have t0 : decide (gk < 0) = true := decide_eq_true h0
        go_wp2_with (first | ((with_reducible refine at_index rfl ?_); refine wl_index rfl rfl Try.underlying33 size3 rfl rfl k rfl (by omega) rfl ?_) | ((with_reducible refine (at_load (t := 3)) rfl ?_); refine wl_loadC rfl rfl Try.underlying3 rfl rfl (by rw [Nat.mul_one]; exact HV.out _ _ hs) ?_))
        go_ret2
        exact ⟨rfl, hs.letgo⟩
      · have h1 : 1068 ≤ gk := by have := HB.out; omega
        have t0 : decide (gk < 0) = false := decide_eq_false (by omega)
        have t1 : decide (1068 ≤ gk) = true := decide_eq_true (by omega)
        clear HB
        go_wp2_with (first | ((with_reducible refine at_index rfl ?_); refine wl_index rfl rfl Try.underlying33 size3 rfl rfl k rfl (by omega) rfl ?_) | ((with_reducible refine (at_load (t := 3)) rfl ?_); refine wl_loadC rfl rfl Try.underlying3 rfl rfl (by rw [Nat.mul_one]; exact HV.out _ _ hs) ?_))
        go_ret2
        exact ⟨rfl, hs.letgo⟩
theorem low_no {A : Nat → Bool} {k : Nat} (h : A k = false ∨ k < 12 ∨ 44 ≤ k) : lowB A (k + 1) = lowB A k := by
  simp only [lowB]
  have e : (A k && (decide (12 ≤ k) && decide (k < 44))) = false := by
    rcases h with h | h | h
    · rw [h]; rfl
    · rw [decide_eq_false (by omega : ¬ 12 ≤ k)]; simp
    · rw [decide_eq_false (by omega : ¬ k < 44)]; simp
  rw [e, Bool.or_false]
theorem low_yes {A : Nat → Bool} {k : Nat} (h : A k = true) (h1 : 12 ≤ k) (h2 : k < 44) : lowB A (k + 1) = true := by
  simp only [lowB]
  rw [h, decide_eq_true h1, decide_eq_true h2]; simp
theorem far_no {A : Nat → Bool} {k : Nat} (h : A k = false ∨ k < 44) : farB A (k + 1) = farB A k := by
  simp only [farB]
  have e : (A k && decide (44 ≤ k)) = false := by
    rcases h with h | h
    · rw [h]; rfl
    · rw [decide_eq_false (by omega : ¬ 44 ≤ k)]; simp
  rw [e, Bool.or_false]
theorem far_yes {A : Nat → Bool} {k : Nat} (h : A k = true) (h1 : 44 ≤ k) : farB A (k + 1) = true := by
  simp only [farB]
  rw [h, decide_eq_true h1]; simp
theorem tab_no {A : Nat → Bool} {T : Nat → Int} {k : Nat} (h : A k = false ∨ k < 44 ∨ T ((k - 44) / 32) ≠ 0 ∨ tabB A T k ((k - 44) / 32) = true) : tabB A T (k + 1) = tabB A T k := by
  funext i
  simp only [tabB]
  rcases h with h | h | h | h
  · rw [h]; simp
  · rw [decide_eq_false (by omega : ¬ 44 ≤ k)]; simp
  · rw [decide_eq_false h]; simp
  · by_cases hi : i = (k - 44) / 32
    · rw [hi, h]; simp
    · rw [decide_eq_false hi]; simp
theorem tab_yes {A : Nat → Bool} {T : Nat → Int} {k : Nat} (h : A k = true) (h1 : 44 ≤ k) (h2 : T ((k - 44) / 32) = 0) : tabB A T (k + 1) = updP (tabB A T k) ((k - 44) / 32) true := by
  funext i
  simp only [tabB, updP]
  rw [h, decide_eq_true h1, decide_eq_true h2]
  by_cases hi : i = (k - 44) / 32
  · rw [if_pos hi, decide_eq_true hi]; simp
  · rw [if_neg hi, decide_eq_false hi]; simp
theorem cnt_yes {A : Nat → Bool} {k : Nat} (h : A k = true) : cntP A (k + 1) = cntP A k + 1 := by rw [cntP, h]; rfl
theorem cnt_no {A : Nat → Bool} {k : Nat} (h : A k = false) : cntP A (k + 1) = cntP A k := by rw [cntP, h]; rfl
theorem cnt_upd {f : Nat → Bool} {i n : Nat} (hi : i < n) (h : f i = false) : cntP (updP f i true) n = cntP f n + 1 := by
  have := cntP_upd f i true n
  rw [if_pos hi, if_pos hi, h] at this
  simpa using this
end Go.Proofs.Ytdlnfdlgnbkppaa
