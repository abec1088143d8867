/- DiskApart holds: a disk and its copy have nothing to do with each other from then on; no condition. -/
import Derived.Test.YtcflolcaiedmfaaRows
import Derived.Test.YtcflolcaiedmfaaWApart
import Derived.Test.YtcflolcaiedmfaaOpen3
import Derived.ProofKit
import Derived.OpenShut
import Derived.ShutString
import Derived.ChangeOld
import Derived.Below
namespace Go.Proofs.Ytcflolcaiedmfaa
open Go Go.Sp
open Go.ChangeShapes Go.WideShapes Go.ChangeAt Go.RowKit
open Go.ChangeMaps (open_string shut_string)
set_option linter.unusedVariables false

theorem diskApart_own : ownKnob Try.prog.godebug = none := by kernel_rfl
theorem diskApart_laid : laidOutB Try.prog = true := by kernel_rfl

set_option maxRecDepth 100000 in
theorem diskApart_lifted (os : Os) (started : os.Started) (H : Type) (enc : TypeId × Value → H) :
    ReturnsInHanded {} Try.checked os 6 .any (Rows.diskApartSpec.pre6 enc Try.prog Try.f6 Rows.diskApartRow.domain false) (Rows.diskApartSpec.post enc Try.prog Try.f6 false true false false) := by
  refine returnsInHanded_of_change (C := Try.checked) diskApart_own started (by kernel_rfl) Try.func6
    (ChangeSpec.witness6 (enc := enc) (C := Try.checked) false ⟨#[], #[.agg #[.slice none 0 0, .int .i64 0, .slice none 0 0, .slice none 0 0]], []⟩ 8 (by kernel_rfl) (by kernel_rfl) (by kernel_rfl) (by kernel_rfl)) ?_
  intro W base args ds gs before hval0 hW hcnd _
  have hval : ∀ (j : Nat) t v, Try.f6.params[j]? = some t → args[j]? = some v → Value.okWide Try.prog W .any base t v := hval0
  have hW' := hW
  obtain ⟨p, q, hA0, hV, rfl, hfz, hnd⟩ := hW
  have hA : DataW.TrodAll enc Try.prog W 0 (fun _ => true) true Try.f6.params.toList args.toList ds p := hA0
  rw [Try.params6] at hA hval
  obtain ⟨v0, vs0, d0, ds0, p0, q0, hargs, rfl, rfl, h0, r0⟩ := trodAll_cons hA
  obtain ⟨rfl, rfl, rfl⟩ := trodAll_nil r0
  obtain rfl : args = #[v0] := by cases args; simp_all
  obtain ⟨rfl, rfl⟩ := trodVars_none hV
  have k0 := h0
  have lt0 : ∀ x ∈ p0, x.block < W.heap.size := by obtain ⟨m, hm⟩ := k0; exact DataW.trod_lt m _ _ _ hm
  obtain ⟨c0, c1, c2, c3, y0, y1, y2, y3, fu, rfl, _, _, e0, e1, e2, e3⟩ := Go.Joins.open_agg4 Try.underlying53 (by kernel_rfl) (by kernel_rfl) (hval 0 53 v0 rfl rfl) h0
  obtain ⟨ao0, n0, cap0, db0, do0, V0, SF0, rfl, hn0, hc0, hao0, hV0, hB0⟩ := open_lists Try.underlying46 Try.underlying42 Try.underlying5 (by kernel_rfl) (by kernel_rfl) e0
  obtain ⟨x1, rfl, hx1⟩ := open_int1 Try.underlying3 e1
  obtain ⟨ao2, n2, cap2, db2, do2, N2, V2, SF2, rfl, hn2, hc2, hao2, hd2, hW2⟩ := open_writes Try.underlying51 Try.underlying55 (by kernel_rfl) (by kernel_rfl) Try.underlying3 Try.underlying42 Try.underlying5 (by kernel_rfl) e2
  obtain ⟨ao3, n3, cap3, db3, do3, N3, V3, SF3, rfl, hn3, hc3, hao3, hd3, hW3⟩ := open_writes Try.underlying51 Try.underlying55 (by kernel_rfl) (by kernel_rfl) Try.underlying3 Try.underlying42 Try.underlying5 (by kernel_rfl) e3
  refine (apart_walk n0 cap0 n2 cap2 n3 cap3 ao0 ao2 ao3 db0 do0 db2 do2 db3 do3 V0 SF0 N2 V2 SF2 N3 V3 SF3 x1 W (by unfold maxLen at hc0; omega) (by unfold maxLen at hc2; omega) (by unfold maxLen at hc3; omega) hx1 hao0 hV0 hB0 hao2 hao3 hW2 hW3).mono fun e W' ⟨he, bel⟩ => ?_
  subst he
  exact ⟨_, rfl, _, _, _, [], _, [], hW', trodAll_mk1 (shut_bool Try.underlying4 _), (trodAll_cons_mk (Below.trod diskApart_laid (by kernel_rfl) (of_decide_eq_true (by kernel_rfl)) k0 bel lt0) (trodAll_mk0)), rfl, bel.frame _, fun h => by cases h⟩

theorem diskApart_holds : Rows.DiskApartSaid :=
  OpenClaim.holds_of_wide 6 Try.f6 rfl rfl rfl rfl rfl rfl rfl ⟨rfl, rfl, rfl, rfl, rfl⟩ rfl rfl rfl rfl rfl (by kernel_rfl) Try.func6 (by kernel_rfl)
    (of_decide_eq_true (by kernel_rfl)) (by unfold Func.isWrapper; first | (rw [if_pos (by decide +kernel)]; kernel_rfl) | (rw [if_neg (by decide +kernel)]; exact ⟨rfl, rfl⟩))
    (fun os started H enc _ => diskApart_lifted os started H enc)
#print axioms diskApart_holds

end Go.Proofs.Ytcflolcaiedmfaa
