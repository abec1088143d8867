/- source; its use. -/
import Derived.Test.YtdlnfdlgnbkppaaK1
import Derived.Test.YtdlnfdlgnbkppaaOpenF
namespace Go.Proofs.Ytdlnfdlgnbkppaa
set_option linter.unusedVariables false
set_option linter.unusedSimpArgs false
open Go Go.Sp Go.RowKit

theorem size32 (f : Nat → Value) : (Try.prog.info? 32).map (·.size) = some (rowOf 21 f).size := by rw [rowOf_size]; kernel_rfl
theorem size29n : (Try.prog.info? 29).map (·.size) = some 18 := by kernel_rfl
theorem file_rd {w : World} {b : Nat} {X : Nat → Int} {s : Src} (h : Rd w b 0 18 (fileC X s)) : Rd w b 0 18 (gI X) := h.congr fun j hj => if_pos hj
theorem built35g (p : Option Addr) (n c : Nat) (x y : Int) : Try.prog.built 35 [(0, .slice p n c), (1, .int .i64 x), (2, .int .i64 y)] = some #[.slice p n c, .int .i64 x, .int .i64 y] := by kernel_rfl
theorem file_18 (X : Nat → Int) (s : Src) : (rowOf 21 (fileC X s))[18]? = some (.slice s.ao s.N s.c) := rowOf_get (by omega)
theorem file_19 (X : Nat → Int) (s : Src) : (rowOf 21 (fileC X s))[19]? = some (.int .i64 s.bad) := rowOf_get (by omega)
theorem file_20 (X : Nat → Int) (s : Src) : (rowOf 21 (fileC X s))[20]? = some (.int .i64 s.code) := rowOf_get (by omega)
set_option maxRecDepth 20000 in
theorem source_any (X : Nat → Int) (s : Src) (w : World) : Calls Try.prog 15 #[.agg (rowOf 21 (fileC X s))] w fun e w' => e = .returned (.agg #[.slice s.ao s.N s.c, .int .i64 s.bad, .int .i64 s.code]) ∧ Tr w [] w' [] := by
  have hs := Tr.refl w []
  go_enter Try.func15, Try.ntmps15
  go_wp2_with (first
    | ((with_reducible refine (at_box (t := 32)) rfl ?_); refine wl_boxA hs rfl rfl rfl ?_; clear hs; intro w1 fb hs)
    | ((with_reducible refine (at_alloc (t := 35)) rfl ?_); refine wl_allocA hs rfl rfl zero35 ?_; clear hs; intro w1 rb hs)
    | ((with_reducible refine (at_load (t := 30)) rfl ?_); refine wl_load1 hs rfl rfl Try.underlying30 rfl rfl 1 rfl (file_18 X s) ?_)
    | ((with_reducible refine (at_load (t := 3)) rfl ?_); refine wl_load1 hs rfl rfl Try.underlying3 rfl rfl 1 rfl (file_19 X s) ?_)
    | ((with_reducible refine (at_load (t := 23)) rfl ?_); refine wl_load1 hs rfl rfl Try.underlying23 rfl rfl 1 rfl (file_20 X s) ?_)
    | ((with_reducible refine (at_build (t := 35)) rfl ?_); refine wl_buildP rfl rfl (_) (by rfl) ((built35g s.ao s.N s.c s.bad s.code)) ?_)
    | ((with_reducible refine (at_store (t := 35)) rfl ?_); refine wl_storeA hs rfl rfl rfl rfl size35 (by simp [Value.oneCell']) 0 rfl rfl ?_; clear hs; intro w1 hs))
  exact ret_cell hs rfl rfl Try.underlying35 rfl rfl 0 rfl size35 ⟨rfl, hs.letgo⟩
theorem find_same (s : Src) (X : Nat → Int) (mb : Nat) (k : Int) (hb : -9223372036854775808 ≤ k ∧ k ≤ 9223372036854775807) : ∃ a e : Int,
    (∀ w, Rdr s mb w → Calls Try.prog 16 #[.iface 37 (.pointer (some ⟨mb, 0, none⟩)), .agg (rowOf 18 (gI X)), .int .i64 k] w fun r w' => r = .returned (.tuple #[.int .i64 a, .int .i64 e]) ∧ Tr w [] w' []) ∧
    (∀ w, s.In w → Calls Try.prog 17 #[.agg #[.slice s.ao s.N s.c, .int .i64 s.bad, .int .i64 s.code], .agg (rowOf 18 (gI X)), .int .i64 k] w fun r w' => r = .returned (.tuple #[.int .i64 a, .int .i64 e]) ∧ Tr w [] w' []) := by
  by_cases h : k < 0 ∨ 1068 ≤ k
  · exact ⟨0, 90, fun w _ => find_no s X mb k w h hb, fun w _ => rfind_no s X k w h hb⟩
  · obtain ⟨m, rfl⟩ : ∃ m : Nat, k = m := ⟨k.toNat, by omega⟩
    exact ⟨_, _, fun w h1 => find_yes s X mb m w h1 (by omega), fun w h1 => rfind_yes s X m w h1 (by omega)⟩
end Go.Proofs.Ytdlnfdlgnbkppaa
