/- Spots: the lists; the document's row. -/
import Derived.Test.YtdlnfdlgnbkppaaE2
namespace Go.Proofs.Ytdlnfdlgnbkppaa
set_option linter.unusedVariables false
set_option linter.unusedSimpArgs false
open Go Go.Sp Go.RowKit

/-- The blocks that are there among the first k of a table, from an index on. -/
def nzS (f : Int) (A : Nat → Int) : Nat → List (Int × Int)
  | 0 => []
  | k + 1 => if A k = 0 then nzS f A k else nzS f A k ++ [(f + k, A k)]
theorem nzS_len (f : Int) (A : Nat → Int) : ∀ k, (nzS f A k).length ≤ k
  | 0 => Nat.le_refl _
  | k + 1 => by
    have := nzS_len f A k
    simp only [nzS]; split
    · omega
    · simp; omega
theorem nzS_yes {f : Int} {A : Nat → Int} {k : Nat} (h : A k ≠ 0) : nzS f A (k + 1) = nzS f A k ++ [(f + k, A k)] := by simp only [nzS]; rw [if_neg h]
theorem nzS_no {f : Int} {A : Nat → Int} {k : Nat} (h : A k = 0) : nzS f A (k + 1) = nzS f A k := by simp only [nzS]; rw [if_pos h]
theorem nzS_zeros (f : Int) : ∀ k, nzS f (fun _ => 0) k = []
  | 0 => rfl
  | k + 1 => (nzS_no (A := fun _ => 0) rfl).trans (nzS_zeros f k)
def sps (l : List (Int × Int)) : List Value := l.flatMap fun p => [.int .i64 p.1, .int .i64 p.2]
theorem sps_append (l m : List (Int × Int)) : sps l ++ sps m = sps (l ++ m) := by simp [sps]
theorem sps_snoc (l : List (Int × Int)) (x y : Int) : sps l ++ #[Value.int .i64 x, .int .i64 y].toList = sps (l ++ [(x, y)]) := by simp [sps]
theorem sps_one (l : List (Int × Int)) : ∀ u ∈ sps l, u.oneCell' = true := by
  intro u hu
  simp only [sps, List.mem_flatMap, List.mem_cons, List.not_mem_nil, or_false] at hu
  obtain ⟨p, _, rfl | rfl⟩ := hu <;> rfl
theorem info61 : (Try.prog.info? 61).map (fun i => (i.zero, i.size, i.bytes)) = some (some (.agg #[.int .i64 0, .int .i64 0]), 2, 16) := by kernel_rfl
set_option maxRecDepth 20000 in
theorem rrow_any (T : Nat → Int) (f : Int) (w : World) (hf : 0 ≤ f ∧ f ≤ 2000) :
    Calls Try.prog 30 #[.agg (rowOf 32 (gI T)), .int .i64 f] w fun e w' => ∃ v, e = .returned v ∧ Tr w [] w' [Res.own 61 2 v (nzS f T 32).length (sps (nzS f T 32))] := by
  have hs := Tr.refl w []
  obtain ⟨hf1, hf2⟩ := hf
  go_enter Try.func30, Try.ntmps30
  go_upto_region 1 with (first | ((with_reducible refine (at_box (t := 69)) rfl ?_); refine wl_boxA hs rfl rfl rfl ?_; clear hs; intro w1 tb hs))
  replace hs := hs.addNil 61 2
  go_wp2_with fail
  go_loopw [5, 6] (fun l i wr => ∃ (k : Nat) (v : Value), k ≤ 32 ∧ i = .int .i64 k ∧ l = v ∧ Tr w [] wr [Res.own 61 2 v (nzS f T k).length (sps (nzS f T k)), Res.blk tb (rowOf 32 (gI T)) 69]) (fun _ i _ => 32 - (intOf i).toNat)
  case atStart => exact ⟨0, _, by omega, rfl, rfl, hs⟩
  case round =>
    clear hs
    obtain ⟨k, v, hk, rfl, rfl, hs⟩ := hrel
    by_cases hlt : k < 32
    · have hltI : (k : Int) < 32 := by omega
      have hlen := nzS_len f T k
      by_cases h0 : T k = 0
      · have HN := Lib.hid (nzS_no (f := f) h0)
        go_wp2_with (first | ((with_reducible refine (at_load (t := 3)) rfl ?_); refine wl_load1 hs rfl rfl Try.underlying3 rfl rfl 1 rfl (rowOf_gI (by omega)) ?_))
        go_roundw
        case rel => exact ⟨k + 1, _, by omega, by go_num, rfl, by rw [HN.out]; exact hs⟩
        case measure => simp [intOf]; omega
      · have HN := Lib.hid (nzS_yes (f := f) h0)
        have t0 : (T k != 0) = true := by simpa using h0
        go_wp2_with (first | ((with_reducible refine (at_load (t := 3)) rfl ?_); refine wl_load1 hs rfl rfl Try.underlying3 rfl rfl 1 rfl (rowOf_gI (by omega)) ?_) | ((with_reducible refine at_buildSlice rfl ?_); refine wl_buildSlice1A hs rfl rfl Try.underlying44 info61 (by omega) (by omega) (cs := #[.int .i64 (f + (k : Int)), .int .i64 (T k)]) (by first | rfl | (simp [Act.eval]; done)) rfl ?_; clear hs; intro w1 eb hs) | ((with_reducible refine (at_bi .append) rfl ?_); refine wl_append1 hs rfl rfl Try.underlying44 info61 rfl (by omega) 1 rfl rfl 0 rfl rfl rfl (by simp [Value.oneCell']) (by unfold maxLen; omega) (by omega) ?_; clear hs; intro w1 v1 hs))
        go_roundw
        case rel => exact ⟨k + 1, _, by omega, by go_num, rfl, by rw [HN.out, List.length_append, ← sps_snoc]; exact hs.erase 0⟩
        case measure => simp [intOf]; omega
    · obtain rfl : k = 32 := by omega
      go_wp2_with fail
      go_ret
      exact ⟨_, rfl, hs.sub (List.Sublist.cons_cons _ (List.nil_sublist _))⟩
end Go.Proofs.Ytdlnfdlgnbkppaa
