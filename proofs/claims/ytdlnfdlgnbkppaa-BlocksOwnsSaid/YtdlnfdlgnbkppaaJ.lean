/- Spots: a row's blocks, handed to a round each. -/
import Derived.Test.YtdlnfdlgnbkppaaI
import Derived.RangeFuncNested
import Derived.RangeFuncBound
import Derived.RangeFuncCalls
import Derived.RangeFuncLeaves
import Derived.OwnWalkIn
import Derived.TacticsInMore
namespace Go.Proofs.Ytdlnfdlgnbkppaa
set_option linter.unusedVariables false
set_option linter.unusedSimpArgs false
open Go Go.Sp Go.RowKit

/-- What a round does: the list is one longer; all else is as it was. -/
def Yc (l : Nat) (J : List (Int × Int) → List Res → Prop) (w0 : World) : Prop :=
  ∀ (m : Nat) (pre : List (Int × Int)) (x y : Int) (W : World) (F L : List Res), J pre L → Tr w0 [] W (F ++ L) → pre.length < 1068 →
    YieldAt Fence.wide m Try.prog l #[.agg #[.int .i64 x, .int .i64 y]] W fun e W' => e = .returned (.bool true) ∧ ∃ L', J (pre ++ [(x, y)]) L' ∧ Tr w0 [] W' (F ++ L')
theorem cell_of_mem {w0 w : World} {L : List Res} (hs : Tr w0 [] w L) {b off : Nat} {cs : Array Value} {t : TypeId} (hm : Res.blk b cs t ∈ L) {v : Value} (hv : cs[off]? = some v) : w.cell? ⟨b, off, none⟩ = some v :=
  Res.cellAt (hs.res _ hm) (Tr.refl w []) hv
set_option maxRecDepth 20000 in
theorem row_any (l yb b off M N c : Nat) (bt : TypeId) (B A : Nat → Int) (f : Int) (J : List (Int × Int) → List Res → Prop) (pre : List (Int × Int)) (w0 w : World) (F L : List Res)
    (hY : Yc l J w0) (hs : Tr w0 [] w (F ++ L)) (hJ : J pre L) (hyb : Res.blk yb #[.func (.yield l) #[] #[]] 88 ∈ F) (hb : Res.blk b (rowOf M (gI B)) bt ∈ F) (hM : off + N ≤ M) (hA : ∀ i, i < N → B (off + i) = A i)
    (hN : N ≤ 32) (hf : 0 ≤ f ∧ f ≤ 2000) (hp : pre.length + N ≤ 1068) :
    Calls Try.prog 36 #[.int .i64 f, .slice (some ⟨b, off, none⟩) N c, .pointer (some ⟨yb, 0, none⟩)] w fun e w' => e = .returned (.bool true) ∧ ∃ L', J (pre ++ nzS f A N) L' ∧ Tr w0 [] w' (F ++ L') := by
  have HY := Lib.hid hY
  have HA := Lib.hid hA
  have HYB : Hid (∀ {w' : World} {L' : List Res}, Tr w0 [] w' (F ++ L') → w'.cell? ⟨yb, 0, none⟩ = some (.func (.yield l) #[] #[])) := Lib.hid fun h => cell_of_mem h (List.mem_append_left _ hyb) rfl
  have HB : Hid (∀ {w' : World} {L' : List Res} (k : Nat), k < N → Tr w0 [] w' (F ++ L') → w'.cell? ⟨b, off + k, none⟩ = some (.int .i64 (A k))) := Lib.hid fun k hk h => by
    rw [← hA k hk]; exact cell_of_mem h (List.mem_append_left _ hb) (rowOf_gI (by omega))
  have HS : Hid (∃ L', J (pre ++ nzS f A 0) L' ∧ Tr w0 [] w (F ++ L')) := Lib.hid ⟨L, by simpa [nzS] using hJ, hs⟩
  obtain ⟨hf1, hf2⟩ := hf
  clear hY hA hyb hb hs hJ
  go_enter Try.func36, Try.ntmps36
  go_wp2_with fail
  go_loopw [10] (fun i wr => ∃ (k : Nat), k ≤ N ∧ i = .int .i64 k ∧ ∃ L', J (pre ++ nzS f A k) L' ∧ Tr w0 [] wr (F ++ L')) (fun i _ => N - (intOf i).toNat)
  case atStart => exact ⟨0, by omega, rfl, HS.out⟩
  case round =>
    clear HS
    obtain ⟨k, hk, rfl, L', hJ, hs⟩ := hrel
    by_cases hlt : k < N
    · have hltI : (k : Int) < N := by omega
      by_cases h0 : A k = 0
      · have HN := Lib.hid (nzS_no (f := f) h0)
        have HJ := Lib.hid hJ
        clear hJ
        go_wp2_with (first | ((with_reducible refine (at_load (t := 3)) rfl ?_); refine wl_loadC rfl rfl Try.underlying3 rfl rfl (HB.out k hlt hs) ?_))
        go_roundw
        case rel => exact ⟨k + 1, by omega, by go_num, L', by rw [HN.out]; exact HJ.out, hs⟩
        case measure => simp [intOf]; omega
      · have HN := Lib.hid (nzS_yes (f := f) h0)
        have t0 : (A k != 0) = true := by simpa using h0
        have hlen := nzS_len f A k
        obtain ⟨fn, tmps, assign, body, hy, hR⟩ := HY.out 2 (pre ++ nzS f A k) (f + k) (A k) wr F L' hJ hs (by rw [List.length_append]; omega)
        have HJ := Lib.hid hJ
        have HR := Lib.hid hR
        have HC := Lib.hid (HB.out k hlt hs)
        have HC2 := Lib.hid (HYB.out hs)
        clear hJ hR h0
        generalize A k = y at *
        go_upto_region 4 with (first | ((with_reducible refine (at_load (t := 3)) rfl ?_); refine wl_loadC rfl rfl Try.underlying3 rfl rfl HC.out ?_))
        refine (wpIn_wide (n := 3)).1 ?_
        have hyb := HC2.out
        gi_wp2_with fail
        clear hy hyb
        refine HR.out.mono ?_
        rintro e W2 ⟨rfl, L2, hJ2, hs2⟩
        clear hs HC HC2 HR HJ
        have HJ := Lib.hid hJ2
        have HS := Lib.hid hs2
        clear hJ2 hs2
        gi_wp2
        go_wp2
        go_roundw
        case rel => exact ⟨k + 1, by omega, by go_num, L2, by rw [HN.out, ← List.append_assoc]; exact HJ.out, HS.out⟩
        case measure => simp [intOf]; omega
    · obtain rfl : k = N := by omega
      have HJ := Lib.hid hJ
      clear hJ
      go_wp2_with fail
      go_ret
      exact ⟨rfl, L', HJ.out, hs⟩
end Go.Proofs.Ytdlnfdlgnbkppaa
