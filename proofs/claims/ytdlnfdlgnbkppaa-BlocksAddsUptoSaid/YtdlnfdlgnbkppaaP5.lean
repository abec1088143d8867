/- Need, and the document's: the same. -/
import Derived.Test.YtdlnfdlgnbkppaaP4
import Derived.Test.YtdlnfdlgnbkppaaS2
namespace Go.Proofs.Ytdlnfdlgnbkppaa
set_option linter.unusedVariables false
set_option linter.unusedSimpArgs false
open Go Go.Sp Go.RowKit

theorem rneed_ok (s : Src) (X : Nat → Int) (w : World) (h : s.In w) {ao : Option Addr} {N c db doff : Nat} {G : Nat → Int} (I : Ints w (.slice ao N c) ao N c db doff G)
    (g : Nat → Nat) (hg : ∀ k, k < N → G k = (g k : Int) ∧ g k < 1068) :
    Calls Try.prog 25 #[.agg #[.slice s.ao s.N s.c, .int .i64 s.bad, .int .i64 s.code], .agg (rowOf 18 (gI X)), .slice ao N c] w fun e w' => e = .returned (.tuple #[.int .i64 (needN s X g N : Nat), .int .i64 (ndE (fnE s X) g N)]) ∧ Tr w [] w' [] :=
  rneed_core s X w h I g hg (fnF s X) (fnE s X) (tbF s (X 17)) (tbE s (X 17)) (Lib.hid fun k hk w h => rfind_yes s X k w h hk) (Lib.hid fun w h => rtable_any s (X 17) w h) _ _
    (Lib.hid rfl) (Lib.hid fun h0 => by unfold needN; rw [if_pos h0]) (Lib.hid fun h0 => by unfold needN; rw [if_neg h0]; rfl)
theorem least_bad (G : Nat → Int) : ∀ N, (∀ k, k < N → 0 ≤ G k ∧ G k < 1068) ∨ ∃ j, j < N ∧ (∀ i, i < j → 0 ≤ G i ∧ G i < 1068) ∧ (G j < 0 ∨ 1068 ≤ G j)
  | 0 => Or.inl fun k hk => absurd hk (Nat.not_lt_zero k)
  | N + 1 => by
    rcases least_bad G N with h | ⟨j, h1, h2, h3⟩
    · by_cases hN : 0 ≤ G N ∧ G N < 1068
      · left
        intro k hk
        rcases Nat.lt_or_ge k N with h1 | h1
        · exact h k h1
        · obtain rfl : k = N := by omega
          exact hN
      · exact Or.inr ⟨N, by omega, h, by omega⟩
    · exact Or.inr ⟨j, by omega, h2, h3⟩
theorem need_same (s : Src) (X : Nat → Int) (N : Nat) (G : Nat → Int) : ∃ R E : Int,
    (∀ mb w ao c db doff, Rdr s mb w → Ints w (.slice ao N c) ao N c db doff G → Calls Try.prog 24 #[.iface 37 (.pointer (some ⟨mb, 0, none⟩)), .agg (rowOf 18 (gI X)), .slice ao N c] w fun e w' => e = .returned (.tuple #[.int .i64 R, .int .i64 E]) ∧ Tr w [] w' []) ∧
    (∀ w ao c db doff, s.In w → Ints w (.slice ao N c) ao N c db doff G → Calls Try.prog 25 #[.agg #[.slice s.ao s.N s.c, .int .i64 s.bad, .int .i64 s.code], .agg (rowOf 18 (gI X)), .slice ao N c] w fun e w' => e = .returned (.tuple #[.int .i64 R, .int .i64 E]) ∧ Tr w [] w' []) := by
  rcases least_bad G N with h | ⟨j, h1, h2, h3⟩
  · have hg : ∀ k, k < N → G k = ((fun k => (G k).toNat) k : Nat) ∧ (fun k => (G k).toNat) k < 1068 := fun k hk => by
      have := h k hk
      show G k = ((G k).toNat : Int) ∧ (G k).toNat < 1068
      omega
    exact ⟨_, _, fun mb w ao c db doff hr I => need_ok s X mb w hr I _ hg, fun w ao c db doff hi I => rneed_ok s X w hi I _ hg⟩
  · exact ⟨0, 90, fun mb w ao c db doff hr I => need_bad X mb w I j h1 h2 h3, fun w ao c db doff hi I => rneed_bad X s w I j h1 h2 h3⟩
end Go.Proofs.Ytdlnfdlgnbkppaa
namespace Go.Sp
open Go Go.RowKit
/-- What is owned, as its block. -/
theorem Tr.own_block {w0 w : World} {S : List Nat} {L : List Res} (hs : Tr w0 S w L) (i : Nat) {e : TypeId} {size : Nat} {v : Value} {n : Nat} {xs : List Value} (hi : L[i]? = some (Res.own e size v n xs)) (hn : 0 < n) :
    ∃ g c cur, v = .slice (some ⟨g, 0, none⟩) n c ∧ n ≤ c ∧ c ≤ maxLen ∧ cur.size = c * size ∧ cur.toList.take (n * size) = xs ∧ Tr w0 S w (L.set i (Res.blk g cur e)) := by
  have h := hs.getO i hi
  rcases h.2 with ⟨_, h0⟩ | ⟨g, c, cur, rfl, _, hg, h1, h2, h3, h4⟩
  · omega
  · refine ⟨g, c, cur, rfl, h1, h2, h3, h4, hs.upd i hi ?_⟩
    rw [show (Res.own e size (.slice (some ⟨g, 0, none⟩) n c) n xs).foot = [g] by simp [Res.own, Value.ownBlock]]
    exact Tr.startB hg
end Go.Sp
namespace Go.Proofs.Ytdlnfdlgnbkppaa
open Go Go.Sp Go.RowKit
theorem row_of (cs : Array Value) (n : Nat) (h : cs.size = n) : ∃ f : Nat → Value, cs = rowOf n f ∧ ∀ i, i < n → cs[i]? = some (f i) := by
  have h1 : ∀ i, i < n → cs[i]? = some ((fun i => cs[i]?.getD undef) i) := fun i hi => by
    show cs[i]? = some (cs[i]?.getD undef)
    rw [Array.getElem?_eq_getElem (by omega)]; rfl
  exact ⟨_, rowOf_ext h h1, h1⟩
end Go.Proofs.Ytdlnfdlgnbkppaa
