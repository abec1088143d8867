/- SectorHalves: the walk. -/
import Derived.Test.YtlekfbcmjcgabaaRows
import Derived.Test.YtlekfbcmjcgabaaWl
import Derived.Test.YtlekfbcmjcgabaaPlain
import Derived.BigQuiet
import Derived.WalkSpells
import Derived.WalkLawsBesides
import Derived.Test.YtlekfbcmjcgabaaK
import Derived.Test.YtlekfbcmjcgabaaE
namespace Go.Proofs.Ytlekfbcmjcgabaa
set_option linter.unusedVariables false
open Go Go.Sp Go.RowKit

set_option maxRecDepth 100000 in
set_option maxHeartbeats 1000000 in
theorem halves_one (F : Nat → UInt8) (a b c : Int) (A : Nat) (w : World) (hA : A + 1 ≤ 128)
    (hsp : Hid (∀ w, Calls Try.prog 22 #[.int .i64 a, .int .i64 b] w fun e w' => e = .returned (.tuple #[.int .i64 A, .int .i64 1]) ∧ w = w')) :
    Calls Try.prog 6 #[bytesV 128 F, .agg #[.int .i64 a, .int .i64 b], .int .i64 c] w fun e w' => e = .returned (.bool true) ∧ Tr w [] w' [] := by
  have hs := Tr.refl w []
  have hF := (F A).toNat_lt
  have H1 := Lib.hid (fun w => get_ok F A 1 w (by omega) (by omega) hA (by simp [num]; omega))
  have hnum : num F A 1 = (F A).toNat := by simp [num]
  rw [hnum] at H1
  clear hnum
  go_enter Try.func6, Try.ntmps6
  go_wp2_with (first
    | ((with_reducible refine at_box rfl ?_); refine wl_boxA hs rfl rfl rfl ?_; clear hs; intro w1 b0 hs)
    | ((with_reducible refine at_load rfl ?_); refine wl_load1 hs rfl rfl Try.underlying3 rfl rfl 0 rfl rfl ?_)
    | (go_at_call 22; refine (hsp.out _).mono ?_; rintro e w2 ⟨rfl, rfl⟩)
    | ((with_reducible refine at_load rfl ?_); refine wl_loadB hs rfl rfl Try.underlying30 rfl 1 rfl size30 ?_)
    | (go_at_call 25; refine (H1.out _).mono ?_; rintro e w2 ⟨rfl, hc⟩; replace hs := hs.call0 hc; clear hc)
    | ((with_reducible refine at_load rfl ?_); refine wl_load1 hs rfl rfl Try.underlying5 rfl rfl 1 rfl (rowOf_u8 (by omega)) ?_)
    | (go_at_call 12; refine (known_any _).mono ?_; rintro e w2 ⟨rfl, hc⟩; replace hs := hs.call0 hc; clear hc))
  go_ret
  exact ⟨rfl, hs.letgo⟩

set_option maxRecDepth 100000 in
set_option maxHeartbeats 1000000 in
theorem halves_lt (F : Nat → UInt8) (a b c : Int) (A W k lo hi p m : Nat) (w : World) (hA : A + W ≤ 128) (hW : W ≤ 8) (h88 : True) (hk : 1 ≤ k) (hkW : k < W)
    (hsp : Hid (∀ w, Calls Try.prog 22 #[.int .i64 a, .int .i64 b] w fun e w' => e = .returned (.tuple #[.int .i64 A, .int .i64 W]) ∧ w = w'))
    (hpk : Hid (∀ w, Calls Try.prog 26 #[.int .i64 c, .int .i64 ((W : Int) - 1)] w fun e w' => e = .returned (.int .i64 ((k : Int) - 1)) ∧ w = w'))
    (H1 : Hid (∀ w, Calls Try.prog 25 #[bytesV 128 F, .int .i64 A, .int .i64 W] w fun e w' => e = .returned (.tuple #[.int .i64 ((lo : Int) + m), .int .i64 0]) ∧ Tr w [] w' []))
    (H2 : Hid (∀ w, Calls Try.prog 25 #[bytesV 128 F, .int .i64 A, .int .i64 k] w fun e w' => e = .returned (.tuple #[.int .i64 lo, .int .i64 0]) ∧ Tr w [] w' []))
    (H3 : Hid (∀ w, Calls Try.prog 25 #[bytesV 128 F, .int .i64 ((A : Int) + k), .int .i64 ((W : Int) - k)] w fun e w' => e = .returned (.tuple #[.int .i64 hi, .int .i64 0]) ∧ Tr w [] w' []))
    (hp : Hid (IntKind.i64.wrap (1 * 2 ^ min (62 - 8 * k) 64) = (p : Int))) (hm : Hid (IntKind.i64.wrap ((hi : Int) * 2 ^ min (8 * k) 64) = (m : Int))) (hp2 : p ≤ 72057594037927936) (hlo : lo ≤ 72057594037927936) (hhi : hi ≤ 72057594037927936) (hm2 : lo + m ≤ 4611686018427387904)
    (hlt : hi < p) :
    Calls Try.prog 6 #[bytesV 128 F, .agg #[.int .i64 a, .int .i64 b], .int .i64 c] w fun e w' => e = .returned (.bool true) ∧ Tr w [] w' [] := by
  have hs := Tr.refl w []
  have hne : ((W : Int) == 1) = false := by simp; omega
  have g1 : decide ((hi : Int) > (p : Int)) = false := by simp; omega
  have e1 : ((hi : Int) == (p : Int)) = false := by simp; omega
  go_enter Try.func6, Try.ntmps6
  go_wp2_with (first
    | ((with_reducible refine at_box rfl ?_); refine wl_boxA hs rfl rfl rfl ?_; clear hs; intro w1 b0 hs)
    | ((with_reducible refine at_load rfl ?_); refine wl_load1 hs rfl rfl Try.underlying3 rfl rfl 0 rfl rfl ?_)
    | (go_at_call 22; refine (hsp.out _).mono ?_; rintro e w2 ⟨rfl, rfl⟩)
    | ((with_reducible refine at_load rfl ?_); refine wl_loadB hs rfl rfl Try.underlying30 rfl 1 rfl size30 ?_)
    | (go_at_call_of 25 W; refine (H1.out _).mono ?_; rintro e w2 ⟨rfl, hc⟩; replace hs := hs.call0 hc; clear hc)
    | (go_at_call 26; refine (hpk.out _).mono ?_; rintro e w2 ⟨rfl, rfl⟩))
  rw [show (1 + ((k : Int) - 1)) = k from by omega]
  refine (H2.out _).mono ?_
  rintro e w2 ⟨rfl, hc⟩
  replace hs := hs.call0 hc
  clear hc
  go_wp2_with (first
    | ((with_reducible refine at_load rfl ?_); refine wl_loadB hs rfl rfl Try.underlying30 rfl 1 rfl size30 ?_)
    | ((with_reducible refine (at_bin .gtr) rfl ?_); refine wl_gtr rfl rfl rfl rfl false g1 ?_)
    | ((with_reducible refine (at_bin .eql) rfl ?_); refine wl_eqI rfl rfl rfl rfl false e1 ?_)
    | (go_at_call 25; refine (H3.out _).mono ?_; rintro e w2 ⟨rfl, hc⟩; replace hs := hs.call0 hc; clear hc)
    | ((with_reducible refine (at_bin .shl) rfl ?_); refine wl_shl rfl rfl (ky := .i64) (X := 1) rfl (62 - 8 * k) (by show Value.int .i64 _ = Value.int .i64 _; congr 1 <;> omega) p hp.out ?_)
    | ((with_reducible refine (at_bin .shl) rfl ?_); refine wl_shl rfl rfl (ky := .i64) (X := hi) rfl (8 * k) (by show Value.int .i64 _ = Value.int .i64 _; congr 1 <;> omega) m hm.out ?_)
    | (go_at_call 12; refine (known_any _).mono ?_; rintro e w2 ⟨rfl, hc⟩; replace hs := hs.call0 hc; clear hc))
  go_ret
  exact ⟨rfl, hs.letgo⟩

set_option maxRecDepth 100000 in
set_option maxHeartbeats 1000000 in
theorem halves_eq (F : Nat → UInt8) (a b c : Int) (A W k lo hi p m : Nat) (w : World) (hA : A + W ≤ 128) (hW : W ≤ 8) (h88 : True) (hk : 1 ≤ k) (hkW : k < W)
    (hsp : Hid (∀ w, Calls Try.prog 22 #[.int .i64 a, .int .i64 b] w fun e w' => e = .returned (.tuple #[.int .i64 A, .int .i64 W]) ∧ w = w'))
    (hpk : Hid (∀ w, Calls Try.prog 26 #[.int .i64 c, .int .i64 ((W : Int) - 1)] w fun e w' => e = .returned (.int .i64 ((k : Int) - 1)) ∧ w = w'))
    (H1 : Hid (∀ w, Calls Try.prog 25 #[bytesV 128 F, .int .i64 A, .int .i64 W] w fun e w' => e = .returned (.tuple #[.int .i64 ((lo : Int) + m), .int .i64 0]) ∧ Tr w [] w' []))
    (H2 : Hid (∀ w, Calls Try.prog 25 #[bytesV 128 F, .int .i64 A, .int .i64 k] w fun e w' => e = .returned (.tuple #[.int .i64 lo, .int .i64 0]) ∧ Tr w [] w' []))
    (H3 : Hid (∀ w, Calls Try.prog 25 #[bytesV 128 F, .int .i64 ((A : Int) + k), .int .i64 ((W : Int) - k)] w fun e w' => e = .returned (.tuple #[.int .i64 hi, .int .i64 0]) ∧ Tr w [] w' []))
    (hp : Hid (IntKind.i64.wrap (1 * 2 ^ min (62 - 8 * k) 64) = (p : Int))) (hm : Hid (IntKind.i64.wrap ((hi : Int) * 2 ^ min (8 * k) 64) = (m : Int))) (hp2 : p ≤ 72057594037927936) (hlo : lo ≤ 72057594037927936) (hhi : hi ≤ 72057594037927936) (hm2 : lo + m ≤ 4611686018427387904)
    (heq : hi = p) (hl0 : lo = 0) :
    Calls Try.prog 6 #[bytesV 128 F, .agg #[.int .i64 a, .int .i64 b], .int .i64 c] w fun e w' => e = .returned (.bool true) ∧ Tr w [] w' [] := by
  have hs := Tr.refl w []
  have hne : ((W : Int) == 1) = false := by simp; omega
  have g1 := Lib.hid (show decide ((hi : Int) > (p : Int)) = false by simp; omega)
  have e1 := Lib.hid (show ((hi : Int) == (p : Int)) = true by simp; omega)
  have g2 := Lib.hid (show decide ((lo : Int) > 0) = false by simp; omega)
  clear heq hl0
  go_enter Try.func6, Try.ntmps6
  go_wp2_with (first
    | ((with_reducible refine at_box rfl ?_); refine wl_boxA hs rfl rfl rfl ?_; clear hs; intro w1 b0 hs)
    | ((with_reducible refine at_load rfl ?_); refine wl_load1 hs rfl rfl Try.underlying3 rfl rfl 0 rfl rfl ?_)
    | (go_at_call 22; refine (hsp.out _).mono ?_; rintro e w2 ⟨rfl, rfl⟩)
    | ((with_reducible refine at_load rfl ?_); refine wl_loadB hs rfl rfl Try.underlying30 rfl 1 rfl size30 ?_)
    | (go_at_call_of 25 W; refine (H1.out _).mono ?_; rintro e w2 ⟨rfl, hc⟩; replace hs := hs.call0 hc; clear hc)
    | (go_at_call 26; refine (hpk.out _).mono ?_; rintro e w2 ⟨rfl, rfl⟩))
  rw [show (1 + ((k : Int) - 1)) = k from by omega]
  refine (H2.out _).mono ?_
  rintro e w2 ⟨rfl, hc⟩
  replace hs := hs.call0 hc
  clear hc
  go_wp2_with (first
    | ((with_reducible refine at_load rfl ?_); refine wl_loadB hs rfl rfl Try.underlying30 rfl 1 rfl size30 ?_)
    | ((with_reducible refine (at_bin .gtr) rfl ?_); refine wl_gtr rfl rfl rfl rfl false g1.out ?_)
    | ((with_reducible refine (at_bin .eql) rfl ?_); refine wl_eqI rfl rfl rfl rfl true e1.out ?_)
    | ((with_reducible refine (at_bin .gtr) rfl ?_); refine wl_gtr rfl rfl rfl rfl false g2.out ?_)
    | (go_at_call 25; refine (H3.out _).mono ?_; rintro e w2 ⟨rfl, hc⟩; replace hs := hs.call0 hc; clear hc)
    | ((with_reducible refine (at_bin .shl) rfl ?_); refine wl_shl rfl rfl (ky := .i64) (X := 1) rfl (62 - 8 * k) (by show Value.int .i64 _ = Value.int .i64 _; congr 1 <;> omega) p hp.out ?_)
    | ((with_reducible refine (at_bin .shl) rfl ?_); refine wl_shl rfl rfl (ky := .i64) (X := hi) rfl (8 * k) (by show Value.int .i64 _ = Value.int .i64 _; congr 1 <;> omega) m hm.out ?_)
    | (go_at_call 12; refine (known_any _).mono ?_; rintro e w2 ⟨rfl, hc⟩; replace hs := hs.call0 hc; clear hc))
  go_ret
  exact ⟨rfl, hs.letgo⟩

set_option maxRecDepth 100000 in
set_option maxHeartbeats 1000000 in
theorem halves_gt (F : Nat → UInt8) (a b c : Int) (A W k lo hi p m : Nat) (w : World) (hA : A + W ≤ 128) (hW : W ≤ 8) (h88 : ((W : Int) == 8) = true) (hk : 1 ≤ k) (hkW : k < W)
    (hsp : Hid (∀ w, Calls Try.prog 22 #[.int .i64 a, .int .i64 b] w fun e w' => e = .returned (.tuple #[.int .i64 A, .int .i64 W]) ∧ w = w'))
    (hpk : Hid (∀ w, Calls Try.prog 26 #[.int .i64 c, .int .i64 ((W : Int) - 1)] w fun e w' => e = .returned (.int .i64 ((k : Int) - 1)) ∧ w = w'))
    (H1 : Hid (∀ w, Calls Try.prog 25 #[bytesV 128 F, .int .i64 A, .int .i64 W] w fun e w' => e = .returned (.tuple #[.int .i64 0, .int .i64 11]) ∧ Tr w [] w' []))
    (H2 : Hid (∀ w, Calls Try.prog 25 #[bytesV 128 F, .int .i64 A, .int .i64 k] w fun e w' => e = .returned (.tuple #[.int .i64 lo, .int .i64 0]) ∧ Tr w [] w' []))
    (H3 : Hid (∀ w, Calls Try.prog 25 #[bytesV 128 F, .int .i64 ((A : Int) + k), .int .i64 ((W : Int) - k)] w fun e w' => e = .returned (.tuple #[.int .i64 hi, .int .i64 0]) ∧ Tr w [] w' []))
    (hp : Hid (IntKind.i64.wrap (1 * 2 ^ min (62 - 8 * k) 64) = (p : Int))) (hm : True) (hp2 : p ≤ 72057594037927936) (hlo : lo ≤ 72057594037927936) (hhi : hi ≤ 72057594037927936) (hm2 : 1 ≤ W)
    (hlt : p < hi) :
    Calls Try.prog 6 #[bytesV 128 F, .agg #[.int .i64 a, .int .i64 b], .int .i64 c] w fun e w' => e = .returned (.bool true) ∧ Tr w [] w' [] := by
  have hs := Tr.refl w []
  have hne : ((W : Int) == 1) = false := by simp; omega
  clear hm
  have g1 : decide ((hi : Int) > (p : Int)) = true := by simp; omega
  go_enter Try.func6, Try.ntmps6
  go_wp2_with (first
    | ((with_reducible refine at_box rfl ?_); refine wl_boxA hs rfl rfl rfl ?_; clear hs; intro w1 b0 hs)
    | ((with_reducible refine at_load rfl ?_); refine wl_load1 hs rfl rfl Try.underlying3 rfl rfl 0 rfl rfl ?_)
    | (go_at_call 22; refine (hsp.out _).mono ?_; rintro e w2 ⟨rfl, rfl⟩)
    | ((with_reducible refine at_load rfl ?_); refine wl_loadB hs rfl rfl Try.underlying30 rfl 1 rfl size30 ?_)
    | (go_at_call_of 25 W; refine (H1.out _).mono ?_; rintro e w2 ⟨rfl, hc⟩; replace hs := hs.call0 hc; clear hc)
    | (go_at_call 26; refine (hpk.out _).mono ?_; rintro e w2 ⟨rfl, rfl⟩))
  rw [show (1 + ((k : Int) - 1)) = k from by omega]
  refine (H2.out _).mono ?_
  rintro e w2 ⟨rfl, hc⟩
  replace hs := hs.call0 hc
  clear hc
  go_wp2_with (first
    | ((with_reducible refine at_load rfl ?_); refine wl_loadB hs rfl rfl Try.underlying30 rfl 1 rfl size30 ?_)
    | ((with_reducible refine (at_bin .gtr) rfl ?_); refine wl_gtr rfl rfl rfl rfl true g1 ?_)
    | (go_at_call 25; refine (H3.out _).mono ?_; rintro e w2 ⟨rfl, hc⟩; replace hs := hs.call0 hc; clear hc)
    | ((with_reducible refine (at_bin .shl) rfl ?_); refine wl_shl rfl rfl (ky := .i64) (X := 1) rfl (62 - 8 * k) (by show Value.int .i64 _ = Value.int .i64 _; congr 1 <;> omega) p hp.out ?_)
    | ((with_reducible refine (at_bin .shl) rfl ?_); refine wl_shl rfl rfl (ky := .i64) (X := hi) rfl (8 * k) (by show Value.int .i64 _ = Value.int .i64 _; congr 1 <;> omega) m hm.out ?_)
    | (go_at_call 12; refine (known_any _).mono ?_; rintro e w2 ⟨rfl, hc⟩; replace hs := hs.call0 hc; clear hc))
  go_ret
  exact ⟨rfl, hs.letgo⟩

set_option maxRecDepth 100000 in
set_option maxHeartbeats 1000000 in
theorem halves_ge (F : Nat → UInt8) (a b c : Int) (A W k lo hi p m : Nat) (w : World) (hA : A + W ≤ 128) (hW : W ≤ 8) (h88 : ((W : Int) == 8) = true) (hk : 1 ≤ k) (hkW : k < W)
    (hsp : Hid (∀ w, Calls Try.prog 22 #[.int .i64 a, .int .i64 b] w fun e w' => e = .returned (.tuple #[.int .i64 A, .int .i64 W]) ∧ w = w'))
    (hpk : Hid (∀ w, Calls Try.prog 26 #[.int .i64 c, .int .i64 ((W : Int) - 1)] w fun e w' => e = .returned (.int .i64 ((k : Int) - 1)) ∧ w = w'))
    (H1 : Hid (∀ w, Calls Try.prog 25 #[bytesV 128 F, .int .i64 A, .int .i64 W] w fun e w' => e = .returned (.tuple #[.int .i64 0, .int .i64 11]) ∧ Tr w [] w' []))
    (H2 : Hid (∀ w, Calls Try.prog 25 #[bytesV 128 F, .int .i64 A, .int .i64 k] w fun e w' => e = .returned (.tuple #[.int .i64 lo, .int .i64 0]) ∧ Tr w [] w' []))
    (H3 : Hid (∀ w, Calls Try.prog 25 #[bytesV 128 F, .int .i64 ((A : Int) + k), .int .i64 ((W : Int) - k)] w fun e w' => e = .returned (.tuple #[.int .i64 hi, .int .i64 0]) ∧ Tr w [] w' []))
    (hp : Hid (IntKind.i64.wrap (1 * 2 ^ min (62 - 8 * k) 64) = (p : Int))) (hm : True) (hp2 : p ≤ 72057594037927936) (hlo : lo ≤ 72057594037927936) (hhi : hi ≤ 72057594037927936) (hm2 : 1 ≤ W)
    (heq : hi = p) (hl0 : 0 < lo) :
    Calls Try.prog 6 #[bytesV 128 F, .agg #[.int .i64 a, .int .i64 b], .int .i64 c] w fun e w' => e = .returned (.bool true) ∧ Tr w [] w' [] := by
  have hs := Tr.refl w []
  have hne : ((W : Int) == 1) = false := by simp; omega
  clear hm
  have g1 : decide ((hi : Int) > (p : Int)) = false := by simp; omega
  have e1 : ((hi : Int) == (p : Int)) = true := by simp; omega
  have g2 : decide ((lo : Int) > 0) = true := by simp; omega
  go_enter Try.func6, Try.ntmps6
  go_wp2_with (first
    | ((with_reducible refine at_box rfl ?_); refine wl_boxA hs rfl rfl rfl ?_; clear hs; intro w1 b0 hs)
    | ((with_reducible refine at_load rfl ?_); refine wl_load1 hs rfl rfl Try.underlying3 rfl rfl 0 rfl rfl ?_)
    | (go_at_call 22; refine (hsp.out _).mono ?_; rintro e w2 ⟨rfl, rfl⟩)
    | ((with_reducible refine at_load rfl ?_); refine wl_loadB hs rfl rfl Try.underlying30 rfl 1 rfl size30 ?_)
    | (go_at_call_of 25 W; refine (H1.out _).mono ?_; rintro e w2 ⟨rfl, hc⟩; replace hs := hs.call0 hc; clear hc)
    | (go_at_call 26; refine (hpk.out _).mono ?_; rintro e w2 ⟨rfl, rfl⟩))
  rw [show (1 + ((k : Int) - 1)) = k from by omega]
  refine (H2.out _).mono ?_
  rintro e w2 ⟨rfl, hc⟩
  replace hs := hs.call0 hc
  clear hc
  go_wp2_with (first
    | ((with_reducible refine at_load rfl ?_); refine wl_loadB hs rfl rfl Try.underlying30 rfl 1 rfl size30 ?_)
    | ((with_reducible refine (at_bin .gtr) rfl ?_); refine wl_gtr rfl rfl rfl rfl false g1 ?_)
    | ((with_reducible refine (at_bin .eql) rfl ?_); refine wl_eqI rfl rfl rfl rfl true e1 ?_)
    | ((with_reducible refine (at_bin .gtr) rfl ?_); refine wl_gtr rfl rfl rfl rfl true g2 ?_)
    | (go_at_call 25; refine (H3.out _).mono ?_; rintro e w2 ⟨rfl, hc⟩; replace hs := hs.call0 hc; clear hc)
    | ((with_reducible refine (at_bin .shl) rfl ?_); refine wl_shl rfl rfl (ky := .i64) (X := 1) rfl (62 - 8 * k) (by show Value.int .i64 _ = Value.int .i64 _; congr 1 <;> omega) p hp.out ?_)
    | ((with_reducible refine (at_bin .shl) rfl ?_); refine wl_shl rfl rfl (ky := .i64) (X := hi) rfl (8 * k) (by show Value.int .i64 _ = Value.int .i64 _; congr 1 <;> omega) m hm.out ?_)
    | (go_at_call 12; refine (known_any _).mono ?_; rintro e w2 ⟨rfl, hc⟩; replace hs := hs.call0 hc; clear hc))
  go_ret
  exact ⟨rfl, hs.letgo⟩

end Go.Proofs.Ytlekfbcmjcgabaa
