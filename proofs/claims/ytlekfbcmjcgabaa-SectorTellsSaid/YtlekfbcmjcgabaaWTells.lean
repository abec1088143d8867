/- SectorTells: the walk. -/
import Derived.Test.YtlekfbcmjcgabaaRows
import Derived.Test.YtlekfbcmjcgabaaWl
import Derived.Test.YtlekfbcmjcgabaaWq
import Derived.Test.YtlekfbcmjcgabaaPlain
import Derived.BigQuiet
import Derived.WalkSpells
import Derived.WalkLawsBesides
import Derived.Test.YtlekfbcmjcgabaaJ
import Derived.Test.YtlekfbcmjcgabaaK
import Derived.Test.YtlekfbcmjcgabaaOpen5
namespace Go.Proofs.Ytlekfbcmjcgabaa
set_option linter.unusedVariables false
set_option linter.unusedSimpArgs false
open Go Go.Sp Go.RowKit Go.BigFrame

structure StepV where
  kd : Int
  at1 : Int
  wd : Int
  vv : Int
  F : Nat → UInt8
  G : Nat → UInt8
  ao : Option Addr
  n : Nat
  cap : Nat
  db : Nat
  doff : Nat
structure StepOk (w : World) (b off : Nat) (s : StepV) : Prop where
  rd : Rd w b off 133 (stepC s.kd s.F s.at1 s.wd s.vv (.slice s.ao s.n s.cap))
  h1 : -9223372036854775808 ≤ s.kd ∧ s.kd ≤ 9223372036854775807
  h2 : -9223372036854775808 ≤ s.at1 ∧ s.at1 ≤ 9223372036854775807
  h3 : -9223372036854775808 ≤ s.wd ∧ s.wd ≤ 9223372036854775807
  h4 : -9223372036854775808 ≤ s.vv ∧ s.vv ≤ 9223372036854775807
  hn : s.n ≤ 140737488351232
  hao : 0 < s.n → s.ao = some ⟨s.db, s.doff, none⟩
  hG : Rd w s.db s.doff s.n (u8v s.G)
theorem StepOk.told {w0 w : World} {L : List Res} {b off : Nat} {s : StepV} (h : StepOk w0 b off s) (hs : Tr w0 [] w L) :
    Calls Try.prog 30 #[.agg (rowOf 133 (stepC s.kd s.F s.at1 s.wd s.vv (.slice s.ao s.n s.cap)))] w fun e w' => e = .returned (.bool true) ∧ Tr w [] w' [] :=
  told_any s.kd s.at1 s.wd s.vv s.F s.G s.ao s.n s.cap s.db s.doff w h.h1 h.h2 h.h3 h.h4 h.hn h.hao (h.hG.keep hs)
theorem size59 : (Try.prog.info? 59).map (·.size) = some 133 := by kernel_rfl

theorem tells_core (M cap : Nat) (ao : Option Addr) (db doff : Nat) (K : Nat → StepV) (w : World) (hM : M ≤ 9223372036854775807) (hao : 0 < M → ao = some ⟨db, doff, none⟩) (hK : ∀ i, i < M → StepOk w db (doff + i * 133) (K i)) :
    Calls Try.prog 11 #[.slice ao M cap] w fun e w' => e = .returned (.bool true) ∧ Tr w [] w' [] := by
  have hs := Tr.refl w []
  have HA := Lib.hid hao
  have HK := Lib.hid hK
  clear hao hK
  go_enter Try.func11, Try.ntmps11
  go_wp2
  go_loopw [3] (fun i wr => ∃ k : Nat, k ≤ M ∧ i = .int .i64 k ∧ Tr w [] wr []) (fun i _ => M - (intOf i).toNat)
  case atStart => exact ⟨0, by omega, rfl, hs⟩
  case round =>
    clear hs
    obtain ⟨k, hk, rfl, hs⟩ := hrel
    by_cases hlt : k < M
    · have hltI : (k : Int) < M := by omega
      obtain rfl := HA.out (by omega)
      have HT := Lib.hid (HK.out k hlt)
      go_wp2_with (first
        | ((with_reducible refine at_load rfl ?_); refine wl_loadR rfl rfl Try.underlying59 rfl size59 rfl (HT.out.rd.keep hs) ?_)
        | (go_at_call 30; refine (HT.out.told hs).mono ?_; rintro e w2 ⟨rfl, hc⟩; replace hs := hs.call0 hc; clear hc))
      go_roundw
      case rel => exact ⟨k + 1, by omega, by go_num, hs⟩
      case measure => simp [intOf]; omega
    · obtain rfl : k = M := by omega
      have hw : IntKind.i64.wrap ((k : Int) - 1) = (k : Int) - 1 := by rw [IntKind.wrap_i64]; omega
      go_wp2
      go_loopw [4] (fun i wr => ∃ q : Nat, q ≤ k ∧ i = .int .i64 ((q : Int) - 1) ∧ Tr w [] wr []) (fun i _ => (intOf i + 1).toNat)
      case atStart => exact ⟨k, by omega, rfl, hs⟩
      case round =>
        clear hs hw
        obtain ⟨q, hq, rfl, hs⟩ := hrel
        rcases Nat.eq_zero_or_pos q with h0 | h0
        · subst h0
          go_wp2_with (first
            | (go_at_call 12; refine (known_any _).mono ?_; rintro e w2 ⟨rfl, hc⟩; replace hs := hs.call0 hc; clear hc))
          go_ret
          exact ⟨rfl, hs⟩
        · obtain ⟨p, rfl⟩ : ∃ p, q = p + 1 := ⟨q - 1, by omega⟩
          rw [show (((p + 1 : Nat) : Int) - 1) = (p : Int) by omega]
          have hltp : (p : Int) < (k : Int) := by omega
          obtain rfl := HA.out (by omega)
          have HT := Lib.hid (HK.out p (by omega))
          go_wp2_with (first
            | ((with_reducible refine at_load rfl ?_); refine wl_loadR rfl rfl Try.underlying59 rfl size59 rfl (HT.out.rd.keep hs) ?_)
            | (go_at_call 30; refine (HT.out.told hs).mono ?_; rintro e w2 ⟨rfl, hc⟩; replace hs := hs.call0 hc; clear hc))
          go_roundw
          case rel => exact ⟨p, by omega, by go_num, hs⟩
          case measure => simp [intOf] <;> omega
end Go.Proofs.Ytlekfbcmjcgabaa
