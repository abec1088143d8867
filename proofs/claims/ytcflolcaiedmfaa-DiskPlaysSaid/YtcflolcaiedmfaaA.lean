/- The disk: contracts. -/
import Derived.Test.YtcflolcaiedmfaaRows
import Derived.Test.YtcflolcaiedmfaaDk
import Derived.BigQuiet
import Derived.WalkSpells
import Derived.WalkLawsBesides
namespace Go.Proofs.Ytcflolcaiedmfaa
set_option linter.unusedVariables false
set_option linter.unusedSimpArgs false
open Go Go.Sp Go.RowKit Go.BigFrame

/-! closed facts on the types -/
theorem zero40 : (Try.prog.info? 40).map (·.zero) = some (some (.agg (rowOf 128 (u8v fun _ => 0)))) := by kernel_rfl
theorem size40 : (Try.prog.info? 40).map (·.size) = some 128 := by kernel_rfl
theorem size40r (f : Nat → Value) : (Try.prog.info? 40).map (·.size) = some (rowOf 128 f).size := by rw [rowOf_size]; kernel_rfl
theorem size5 : (Try.prog.info? 5).map (·.size) = some 1 := by kernel_rfl
theorem size3 : (Try.prog.info? 3).map (·.size) = some 1 := by kernel_rfl
theorem size74 : (Try.prog.info? 74).map (·.size) = some 3 := by kernel_rfl
theorem isz5 : (Try.prog.info? 5).isSome = true := by kernel_rfl
theorem zero5 : (Try.prog.info? 5).map (·.zero) = some (some (.int .u8 0)) := by kernel_rfl
theorem info5 : (Try.prog.info? 5).map (fun i => (i.zero, i.size, i.bytes)) = some (some (.int .u8 0), 1, 1) := by kernel_rfl
theorem info40 : (Try.prog.info? 40).map (fun i => (i.zero, i.size, i.bytes)) = some (some (.agg (rowOf 128 (u8v fun _ => 0))), 128, 128) := by kernel_rfl
theorem cells_agg (cs : Array Value) : (Value.agg cs).cells = cs := rfl
theorem zc40 : (Value.agg (rowOf 128 (u8v fun _ => 0))).cells.size = 128 := by rw [cells_agg, rowOf_size]
theorem eqg40 : Try.prog.eqGuardType Try.prog.depth 40 = false := by kernel_rfl
theorem one40 (F : Nat → UInt8) : ∀ v ∈ (rowOf 128 (u8v F)).toList, v.oneCell' = true := rowOf_one _ _ fun _ _ => rfl
theorem oneU8 (n : Nat) (F : Nat → UInt8) : ∀ v ∈ (rowOf n (u8v F)).toList, v.oneCell' = true := rowOf_one _ _ fun _ _ => rfl
theorem zmake (m i : Nat) (_ : i < m) : (Value.agg (rowOf 128 (u8v fun _ => 0))).cells[i % (Value.agg (rowOf 128 (u8v fun _ => 0))).cells.size]! = u8v (fun _ => 0) i := by
  rw [cells_agg, rowOf_size, getElem!_def, rowOf_get (Nat.mod_lt _ (by omega))]
  rfl

/-- A disk. -/
@[reducible] def diskR (d s n : Nat) (f : Nat → UInt8) (wr : Int) (off armed : Bool) (left : Int) : Res :=
  Res.both (Res.blk d #[.slice (some ⟨s, 0, none⟩) n n, .int .i64 wr, .bool off, .bool armed, .int .i64 left] 76) (Res.blk s (rowOf (n * 128) (u8v f)) 40)
/-- The document's. -/
@[reducible] def refR (d s n : Nat) (f : Nat → UInt8) (wr : Int) (off armed : Bool) (left : Int) : Res :=
  Res.both (Res.blk d #[.slice (some ⟨s, 0, none⟩) n n, .int .i64 wr, .bool armed, .int .i64 left, .bool off] 71) (Res.blk s (rowOf (n * 128) (u8v f)) 40)

/-- which of n things -/
def pick (c n : Int) : Int := (if c < 0 then -(c + 1) else c) % n
theorem pick_bd (c n : Int) (h : 1 ≤ n) : 0 ≤ pick c n ∧ pick c n < n := ⟨Int.emod_nonneg _ (by omega), Int.emod_lt_of_pos _ (by omega)⟩
theorem ret_int {k : IntKind} {a b : Int} (h : a = b) : Ending.returned (.int k a) = .returned (.int k b) := by rw [h]
theorem pick_any (c n : Int) (w : World) (h0 : 1 ≤ n) (h1 : n ≤ 9223372036854775807) (h2 : -9223372036854775808 ≤ c) (h3 : c ≤ 9223372036854775807) :
    Calls Try.prog 19 #[.int .i64 c, .int .i64 n] w fun e w' => e = .returned (.int .i64 (pick c n)) ∧ w = w' := by
  by_cases h : c < 0
  · go_enter Try.func19, Try.ntmps19
    go_wp2
    go_ret
    refine ⟨ret_int ?_, rfl⟩
    rw [pick, if_pos h]
    first
      | exact Int.tmod_eq_emod_of_nonneg (by omega)
      | (rw [← Int.neg_tmod]; exact Int.tmod_eq_emod_of_nonneg (by omega))
  · have h' : 0 ≤ c := by omega
    go_enter Try.func19, Try.ntmps19
    go_wp2
    go_ret
    exact ⟨ret_int (by rw [pick, if_neg (by omega)]), rfl⟩

theorem new_ok (n : Nat) (w : World) (h1 : 1 ≤ n) (h2 : n ≤ 4096) :
    Calls Try.prog 11 #[.int .i64 n] w fun e w' => ∃ d s, e = .returned (.tuple #[.pointer (some ⟨d, 0, none⟩), .int .i64 0]) ∧ Tr w [] w' [diskR d s n (fun _ => 0) 0 false false 0] := by
  have hs := Tr.refl w []
  go_enter Try.func11, Try.ntmps11
  go_wp2_with (first
    | ((with_reducible refine at_mk rfl ?_); refine wl_make hs rfl rfl Try.underlying30 info40 n rfl rfl rfl (by omega) (by omega) (u8v fun _ => 0) (zmake _) ?_; clear hs; intro w1 s hs)
    | ((with_reducible refine at_box (t := 76) rfl ?_); refine wl_boxA hs rfl rfl rfl ?_; clear hs; intro w1 d hs))
  go_ret2
  exact ⟨_, _, rfl, hs.join2⟩
theorem new_no (n : Int) (w : World) (h : n < 1 ∨ 4096 < n) :
    Calls Try.prog 11 #[.int .i64 n] w fun e w' => e = .returned (.tuple #[.pointer none, .int .i64 20]) ∧ Tr w [] w' [] := by
  have hs := Tr.refl w []
  go_enter Try.func11, Try.ntmps11
  by_cases h1 : n < 1
  · go_wp2
    go_ret2
    exact ⟨rfl, hs⟩
  · have h2 : 4096 < n := by omega
    go_wp2
    go_ret2
    exact ⟨rfl, hs⟩
theorem rnew_ok (n : Nat) (w : World) (h1 : 1 ≤ n) (h2 : n ≤ 4096) :
    Calls Try.prog 12 #[.int .i64 n] w fun e w' => ∃ d s, e = .returned (.tuple #[.pointer (some ⟨d, 0, none⟩), .int .i64 0]) ∧ Tr w [] w' [refR d s n (fun _ => 0) 0 false false 0] := by
  have hs := Tr.refl w []
  go_enter Try.func12, Try.ntmps12
  go_wp2_with (first
    | ((with_reducible refine at_mk rfl ?_); refine wl_make hs rfl rfl Try.underlying30 info40 n rfl rfl rfl (by omega) (by omega) (u8v fun _ => 0) (zmake _) ?_; clear hs; intro w1 s hs)
    | ((with_reducible refine at_box (t := 71) rfl ?_); refine wl_boxA hs rfl rfl rfl ?_; clear hs; intro w1 d hs))
  go_ret2
  exact ⟨_, _, rfl, hs.join2⟩
theorem rnew_no (n : Int) (w : World) (h : n < 1 ∨ 4096 < n) :
    Calls Try.prog 12 #[.int .i64 n] w fun e w' => e = .returned (.tuple #[.pointer none, .int .i64 20]) ∧ Tr w [] w' [] := by
  have hs := Tr.refl w []
  go_enter Try.func12, Try.ntmps12
  by_cases h1 : n < 1
  · go_wp2
    go_ret2
    exact ⟨rfl, hs⟩
  · have h2 : 4096 < n := by omega
    go_wp2
    go_ret2
    exact ⟨rfl, hs⟩

/-- n bytes, then zeros. -/
def ofF (n : Nat) (G : Nat → UInt8) : Nat → UInt8 := fun i => if i < n then G i else 0
theorem of_any (G : Nat → UInt8) (n cap : Nat) (ao : Option Addr) (db doff : Nat) (w : World) (hao : 0 < n → ao = some ⟨db, doff, none⟩) (hrd : Rd w db doff n (u8v G)) :
    Calls Try.prog 22 #[.slice ao n cap] w fun e w' => e = .returned (bytesV 128 (ofF n G)) ∧ Tr w [] w' [] := by
  have hs := Tr.refl w []
  have HR := Lib.hid hrd
  have HA := Lib.hid hao
  clear hrd hao
  go_enter Try.func22, Try.ntmps22
  go_wp2_with (first
    | ((with_reducible refine at_alloc rfl ?_); refine wl_allocA hs rfl rfl zero40 ?_; clear hs; intro w1 b hs)
    | ((with_reducible refine at_load rfl ?_); refine wl_loadB hs rfl rfl Try.underlying40 rfl 0 rfl size40 ?_)
    | ((with_reducible refine at_store rfl ?_); refine wl_storeA hs rfl rfl rfl rfl (size40r _) (one40 _) 1 rfl (by simp only [rowOf_size]) ?_; clear hs; intro w1 hs)
    | ((with_reducible refine at_slice rfl ?_); refine wl_sliceA rfl rfl Try.underlying40 size5 rfl 0 128 (Or.inl ⟨rfl, rfl⟩) (Or.inl ⟨rfl, rfl⟩) (by omega) (by omega) ?_; intro ao2 hao2)
    | ((with_reducible refine (at_bi .copy) rfl ?_); refine wl_copy1 hs rfl rfl Try.underlying42 size5 rfl rfl (min n 128) (by omega) 0 rfl 0 (fun hh => by first | rfl | (rw [hao2 (by omega)])) (by omega) db doff (u8v G) (fun h => HA.out (by omega)) (fun j hj => HR.out.keep hs j (by omega)) (fun _ _ => rfl) (u8v (ofF n G)) (fun j hj => by simp only [u8v, ofF]; by_cases h : j < n <;> simp [h] <;> omega) ?_; clear hs hao2; intro w1 hs))
  exact ret_cell hs rfl rfl Try.underlying40 rfl rfl 1 rfl (size40r _) ⟨rfl, hs.letgo⟩
end Go.Proofs.Ytcflolcaiedmfaa
