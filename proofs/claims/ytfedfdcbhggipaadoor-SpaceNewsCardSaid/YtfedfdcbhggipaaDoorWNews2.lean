/- SpaceNews: the whole, and its argument opened. -/
import Derived.Test.YtfedfdcbhggipaaDoorWNews
import Derived.Test.YtfedfdcbhggipaaDoorOpen5
import Derived.Test.YtfedfdcbhggipaaDoorOpen4
import Derived.Test.YtfedfdcbhggipaaDoorOpen2
namespace Go.Proofs.YtfedfdcbhggipaaDoor
set_option linter.unusedVariables false
set_option linter.unusedSimpArgs false
open Go Go.Sp Go.RowKit Go.BigFrame

theorem news_walk (X0 X1 : Int) (N1 c1 N2 c2 db1 do1 db2 do2 : Nat) (ao1 ao2 : Option Addr) (G1 G2 : Nat → Int) (w : World) (hN1 : N1 * 8 ≤ 140737488351232) (hN2 : N2 * 8 ≤ 140737488351232)
    (g1 : Ints w (.slice ao1 N1 c1) ao1 N1 c1 db1 do1 G1) (g2 : Ints w (.slice ao2 N2 c2) ao2 N2 c2 db2 do2 G2) (hR : Rd w 0 0 64 tabV) :
    Calls Tryd.prog 3 #[.agg #[.int .i64 X0, .int .i64 X1, .slice ao1 N1 c1, .slice ao2 N2 c2]] w fun e w' => e = .returned (.bool true) ∧ Below w.heap.size w w' := by
  by_cases hmay : 8 ≤ X0 ∧ X0 ≤ 4096 ∧ 1 ≤ X1 ∧ X1 ≤ 512 ∧ X1 + 2 ≤ X0
  · obtain ⟨n, rfl⟩ : ∃ n : Nat, X0 = n := ⟨X0.toNat, by omega⟩
    obtain ⟨m, rfl⟩ : ∃ m : Nat, X1 = m := ⟨X1.toNat, by omega⟩
    have hm : 8 ≤ n ∧ n ≤ 4096 ∧ 1 ≤ m ∧ m ≤ 512 ∧ m + 2 ≤ n := by omega
    rcases fill_ex (fun _ => false) (m + 1) 1 G1 N1 with hok1 | ⟨j, hj, hok, hb⟩
    · rcases fill_ex (fun _ => false) n (m + 1) G2 N2 with hok2 | ⟨j, hj, hok, hb⟩
      · exact (news_yes n m hm N1 c1 N2 c2 db1 do1 db2 do2 ao1 ao2 G1 G2 w hN1 hN2 g1 g2 hok1 hok2 hR).mono fun e w' ⟨he, ht⟩ => ⟨he, ht.below⟩
      · exact (news_nil n m 82 N1 c1 N2 c2 db1 do1 db2 do2 ao1 ao2 G1 G2 w hN1 hN2 g1 g2 (Lib.hid fun w' a1 a2 k1 k2 b1 b2 i1 i2 => snew_no hm i1 i2 (Or.inr ⟨hok1, j, hj, hok, hb⟩)) (Lib.hid fun w' i1 i2 => rnew_no2 hm i1 i2 j hok1 hj hok hb) hR).mono fun e w' ⟨he, ht⟩ => ⟨he, ht.below⟩
    · exact (news_nil n m 82 N1 c1 N2 c2 db1 do1 db2 do2 ao1 ao2 G1 G2 w hN1 hN2 g1 g2 (Lib.hid fun w' a1 a2 k1 k2 b1 b2 i1 i2 => snew_no hm i1 i2 (Or.inl ⟨j, hj, hok, hb⟩)) (Lib.hid fun w' i1 i2 => rnew_no1 hm i1 i2 j hj hok hb) hR).mono fun e w' ⟨he, ht⟩ => ⟨he, ht.below⟩
  · exact (news_nil X0 X1 1 N1 c1 N2 c2 db1 do1 db2 do2 ao1 ao2 G1 G2 w hN1 hN2 g1 g2 (Lib.hid fun w' a1 a2 k1 k2 b1 b2 i1 i2 => snew_bad X0 X1 _ _ hmay) (Lib.hid fun w' i1 i2 => rnew_bad X0 X1 _ _ hmay _) hR).mono fun e w' ⟨he, ht⟩ => ⟨he, ht.below⟩
end Go.Proofs.YtfedfdcbhggipaaDoor
