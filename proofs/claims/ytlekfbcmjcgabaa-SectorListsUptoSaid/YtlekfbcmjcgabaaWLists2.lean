/- Lists: Cut of any bytes, and what is joined. -/
import Derived.Test.YtlekfbcmjcgabaaWLists
namespace Go.Proofs.Ytlekfbcmjcgabaa
set_option linter.unusedVariables false
set_option linter.unusedSimpArgs false
open Go Go.Sp Go.RowKit

theorem lists_walk (A B : Nat → UInt8) (N : Int) (na nb ca cb : Nat) (ao bo : Option Addr) (db doff eb eoff : Nat) (w : World)
    (h1 : na ≤ 1048576) (h2 : nb ≤ 1048576) (hN : -9223372036854775808 ≤ N ∧ N ≤ 9223372036854775807) (hca : na ≤ ca) (hcb : nb ≤ cb)
    (hao : 0 < na → ao = some ⟨db, doff, none⟩) (hbo : 0 < nb → bo = some ⟨eb, eoff, none⟩) (hrA : Rd w db doff na (u8v A)) (hrB : Rd w eb eoff nb (u8v B)) :
    Calls Try.prog 4 #[.slice ao na ca, .slice bo nb cb, .int .i64 N] w fun e w' => e = .returned (.bool true) ∧ Below w.heap.size w w' := by
  refine lists_core A B (cutF A na) (cutF B nb) (catF (cutF A na) (cutF B nb) ((na + 127) / 128 * 128)) (catF (catF (cutF A na) (cutF B nb) ((na + 127) / 128 * 128)) (fun _ => 77) (((na + 127) / 128 + (nb + 127) / 128) * 128)) N na nb ((na + 127) / 128) ((nb + 127) / 128) ((na + 127) / 128 + (nb + 127) / 128) _ ca cb ao bo db doff eb eoff w
    h1 h2 (by omega) (by omega) rfl hN.1 hN.2 rfl hca hao hbo hrA hrB ?_ ?_ ?_ ?_ ?_ ?_ ?_ ?_
  · exact Lib.hid fun ao2 c2 b off w' hc hao hrd => cut_any A na c2 ao2 b off w' (by omega) hc hao hrd
  · exact Lib.hid fun ao2 c2 b off w' hc hao hrd => cut_any B nb c2 ao2 b off w' (by omega) hc hao hrd
  · exact Lib.hid fun w' hrd => rcut_any A na ca ao db doff w' h1 hao hrd
  · exact Lib.hid fun w' hrd => rcut_any B nb cb bo eb eoff w' h2 hbo hrd
  · exact Lib.hid fun v => own_cat _ _ _ _ v
  · exact Lib.hid fun v => own_cat1 _ _ _ v
  · exact Lib.hid fun i hi => if_pos hi
  · refine Lib.hid ?_
    rw [Bool.not_eq_false', eqB_iff]
    intro j hj
    show catF _ _ _ _ = _
    unfold catF
    rw [if_neg (by omega)]
end Go.Proofs.Ytlekfbcmjcgabaa
