/- DiskStands holds: each sector is what was written there last, or what stood there; no other one is turned; no condition. -/
import Derived.Test.YtcflolcaiedmfaaRows
import Derived.Test.YtcflolcaiedmfaaWStands
import Derived.Test.YtcflolcaiedmfaaOpen3
import Derived.ProofKit
import Derived.OpenShut
import Derived.ShutString
import Derived.ChangeOld
import Derived.Below
namespace Go.Proofs.Ytcflolcaiedmfaa
open Go Go.Sp
open Go.ChangeShapes Go.WideShapes Go.ChangeAt Go.RowKit
open Go.ChangeMaps (open_string shut_string)
set_option linter.unusedVariables false

theorem diskStands_own : ownKnob Try.prog.godebug = none := by kernel_rfl
theorem diskStands_laid : laidOutB Try.prog = true := by kernel_rfl

set_option maxRecDepth 100000 in
theorem diskStands_lifted (os : Os) (started : os.Started) (H : Type) (enc : TypeId × Value → H) :
    ReturnsInHanded {} Try.checked os 7 .any (Rows.diskStandsSpec.pre6 enc Try.prog Try.f7 Rows.diskStandsRow.domain false) (Rows.diskStandsSpec.post enc Try.prog Try.f7 false true false false) := by
  refine returnsInHanded_of_change_sized (C := Try.checked) diskStands_own started (by kernel_rfl) Try.func7
    (ChangeSpec.witness6 (enc := enc) (C := Try.checked) false ⟨#[], #[.slice none 0 0, .slice none 0 0], []⟩ 8 (by kernel_rfl) (by kernel_rfl) (by kernel_rfl) (by kernel_rfl)) ?_
  intro W base args ds gs before hval0 hW hcnd hsz0 _
  have hval : ∀ (j : Nat) t v, Try.f7.params[j]? = some t → args[j]? = some v → Value.okWide Try.prog W .any base t v := hval0
  have hW' := hW
  obtain ⟨p, q, hA0, hV, rfl, hfz, hnd⟩ := hW
  have hA : DataW.TrodAll enc Try.prog W 0 (fun _ => true) true Try.f7.params.toList args.toList ds p := hA0
  rw [Try.params7] at hA hval
  obtain ⟨v0, vs0, d0, ds0, p0, q0, hargs, rfl, rfl, h0, r0⟩ := trodAll_cons hA
  obtain ⟨v1, vs1, d1, ds1, p1, q1, rfl, rfl, rfl, h1, r1⟩ := trodAll_cons r0
  obtain ⟨rfl, rfl, rfl⟩ := trodAll_nil r1
  obtain rfl : args = #[v0, v1] := by cases args; simp_all
  obtain ⟨rfl, rfl⟩ := trodVars_none hV
  have k0 := h0
  have lt0 : ∀ x ∈ p0, x.block < W.heap.size := by obtain ⟨m, hm⟩ := k0; exact DataW.trod_lt m _ _ _ hm
  have k1 := h1
  have lt1 : ∀ x ∈ p1, x.block < W.heap.size := by obtain ⟨m, hm⟩ := k1; exact DataW.trod_lt m _ _ _ hm
  obtain ⟨fu0, hf0⟩ := cells_of_slice Try.underlying46 (hval 0 46 v0 rfl rfl) h0
  obtain ⟨ao0, n0, cap0, db0, do0, V0, SF0, rfl, hn0, hc0, hao0, hV0, hB0⟩ := open_lists Try.underlying46 Try.underlying42 Try.underlying5 (by kernel_rfl) (by kernel_rfl) hf0
  obtain ⟨fu1, hf1⟩ := cells_of_slice Try.underlying51 (hval 1 51 v1 rfl rfl) h1
  obtain ⟨ao1, n1, cap1, db1, do1, N1, V1, SF1, rfl, hn1, hc1, hao1, hd1, hW1⟩ := open_writes Try.underlying51 Try.underlying55 (by kernel_rfl) (by kernel_rfl) Try.underlying3 Try.underlying42 Try.underlying5 (by kernel_rfl) hf1
  refine (stands_walk n0 cap0 n1 cap1 ao0 ao1 db0 do0 db1 do1 V0 SF0 N1 V1 SF1 W (by unfold maxLen at hc0; omega) (by have := reach_slice hsz0 1 (t := 51) rfl rfl Try.underlying51 (k := 32) (by kernel_rfl) hd1; omega) hao0 hV0 hB0 hao1 hW1).mono fun e W' ⟨he, bel⟩ => ?_
  subst he
  exact ⟨_, rfl, _, _, _, [], _, [], hW', trodAll_mk1 (shut_bool Try.underlying4 _), (trodAll_cons_mk (Below.trod diskStands_laid (by kernel_rfl) (of_decide_eq_true (by kernel_rfl)) k0 bel lt0) (trodAll_cons_mk (Below.trod diskStands_laid (by kernel_rfl) (of_decide_eq_true (by kernel_rfl)) k1 bel lt1) (trodAll_mk0))), rfl, bel.frame _, fun h => by cases h⟩

theorem diskStands_holds : Rows.DiskStandsSaid :=
  OpenClaim.holds_of_wide 7 Try.f7 rfl rfl rfl rfl rfl rfl rfl ⟨rfl, rfl, rfl, rfl, rfl⟩ rfl rfl rfl rfl rfl (by kernel_rfl) Try.func7 (by kernel_rfl)
    (of_decide_eq_true (by kernel_rfl)) (by unfold Func.isWrapper; first | (rw [if_pos (by decide +kernel)]; kernel_rfl) | (rw [if_neg (by decide +kernel)]; exact ⟨rfl, rfl⟩))
    (fun os started H enc _ => diskStands_lifted os started H enc)
#print axioms diskStands_holds

end Go.Proofs.Ytcflolcaiedmfaa
