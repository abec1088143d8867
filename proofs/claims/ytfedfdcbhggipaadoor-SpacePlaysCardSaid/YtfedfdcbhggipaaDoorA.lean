/- Rows of bits: the words, New, Len, Set, Clear, Has. -/
import Derived.Test.YtfedfdcbhggipaaDoorRows
import Derived.Test.YtfedfdcbhggipaaDoorDk
import Derived.Test.YtfedfdcbhggipaaDoorPlain
import Derived.BigQuiet
import Derived.WalkSpells
import Derived.WalkLawsBesides
import Derived.Laws.Bits64b
import Derived.Deep.DeepCutAuto
namespace Go.Proofs.YtfedfdcbhggipaaDoor
set_option linter.unusedVariables false
set_option linter.unusedSimpArgs false
open Go Go.Sp Go.RowKit Go.BigFrame

theorem size81 : (Tryd.prog.info? 81).map (·.size) = some 1 := by kernel_rfl
theorem size4 : (Tryd.prog.info? 4).map (·.size) = some 1 := by kernel_rfl
theorem info81 : (Tryd.prog.info? 81).map (fun i => (i.zero, i.size, i.bytes)) = some (some (.int .u64 0), 1, 8) := by kernel_rfl
theorem info4 : (Tryd.prog.info? 4).map (fun i => (i.zero, i.size, i.bytes)) = some (some (.bool false), 1, 1) := by kernel_rfl

/-- The words of a row. -/
noncomputable def wrd (f : Nat → Bool) : Nat → Value := fun k => .int .u64 ((word f k : Nat) : Int)
/-- A row of n places. -/
@[reducible] noncomputable def bitsR (d s n : Nat) (f : Nat → Bool) : Res :=
  Res.both (Res.blk d #[.int .i64 n, .slice (some ⟨s, 0, none⟩) ((n + 63) / 64) ((n + 63) / 64)] 80) (Res.blk s (rowOf ((n + 63) / 64) (wrd f)) 81)
theorem word_nil (k : Nat) : word (fun _ => false) k = 0 := (word_uniq (by decide) fun i hi => Nat.zero_testBit i).symm
theorem zmake (m i : Nat) (_ : i < m) : (Value.int .u64 0).cells[i % (Value.int .u64 0).cells.size]! = wrd (fun _ => false) i := by
  have e : i % (Value.int .u64 0).cells.size = 0 := Nat.mod_one i
  rw [e, wrd, word_nil]
  rfl
theorem zmakeB (m i : Nat) (_ : i < m) : (Value.bool false).cells[i % (Value.bool false).cells.size]! = .bool ((fun _ : Nat => false) i) := by
  have e : i % (Value.bool false).cells.size = 0 := Nat.mod_one i
  rw [e]
  rfl
theorem wrd_upd (f : Nat → Bool) (i : Nat) (b : Bool) (m : Nat) : ∀ j, j < m → (if j = i / 64 then Value.int .u64 ((word (updP f i b) (i / 64) : Nat) : Int) else wrd f j) = wrd (updP f i b) j := by
  intro j _
  by_cases h : j = i / 64
  · subst h; rw [if_pos rfl]; rfl
  · rw [if_neg h, wrd, wrd, word_other h]
theorem ret_int {k : IntKind} {a b : Int} (h : a = b) : Ending.returned (.int k a) = .returned (.int k b) := by rw [h]
theorem ret_bool {a b : Bool} (h : a = b) : Ending.returned (.bool a) = .returned (.bool b) := by rw [h]

theorem wrap_in {n : Int} (h : -9223372036854775808 ≤ n ∧ n ≤ 9223372036854775807) : IntKind.i64.wrap n = n := by rw [IntKind.wrap_i64]; omega
theorem ex_index1 {P : Program} {a : Act} {w : World} {o : Oper} {t e : TypeId} {x y : Operand} (ho : o.op = .indexAddr t x y) (hu : P.underlying t = some (.slice e)) (hsz : (P.info? e).map (·.size) = some 1) {ao : Option Addr} {n c : Nat} (hx : a.eval x = .slice ao n c) {k : IntKind} {iv : Int} (hy : a.eval y = .int k iv)
    (j : Nat) (hj : iv = (j : Int)) (hjn : j < n) {b : Nat} (hao : ao = some ⟨b, 0, none⟩) : (execOp a.eval o).run P w = .ok (.value (.pointer (some ⟨b, j, none⟩))) w := by
  have h := ex_indexS (w := w) ho hu hsz hx hy j hj hjn hao
  rw [Nat.mul_one, Nat.zero_add] at h
  exact h
/-- a cell of a row, stored in a drawing region -/
theorem wt_store1R {P : Program} {l : List Oper} {Q : Exit → Act → World → Prop} {a a' : Act} {w : World} {o : Oper} {t : TypeId} {x y : Operand} {i : Nat} {K : Act → World → Prop} {w0 : World} {S : List Nat} {L : List Res}
    (hs : Tr w0 S w L) (hi : l[i]? = some o) (hw : Region.wanted o (yielded l.toArray a.tmps) = true) (ho : o.op = .store t x y) (hn : (P.info? t).map (·.size) = some 1)
    {b off : Nat} (hx : a.eval x = .pointer (some ⟨b, off, none⟩)) {v : Value} (hy : a.eval y = v) (h1 : v.oneCell' = true)
    (j : Nat) {N : Nat} {f : Nat → Value} {bt : TypeId} (hj : L[j]? = some (Res.blk b (rowOf N f) bt)) (hoff : off < N) (g : Nat → Value) (hg : ∀ j, j < N → (if j = off then v else f j) = g j)
    (ha : a.put o.dst undef = a') (k : ∀ w', Tr w0 S w' (L.set j (Res.blk b (rowOf N g) bt)) → K a' w') : wpOp P l.toArray Q i K a w := by
  refine wt_skip hi hw (ex_store1 ho hn hx hy h1 (hs.getB j hj) (by simpa using hoff)) ha (k _ ?_)
  have e : (rowOf N f).setIfInBounds off v = rowOf N g := by rw [rowOf_set, rowOf_congr hg]
  have := hs.updB0 j hj ((rowOf N f).setIfInBounds off v)
  rw [e] at this ⊢
  exact this

theorem new_ok (n : Nat) (w : World) (h2 : n ≤ 4096) :
    Calls Tryd.prog 32 #[.int .i64 n] w fun e w' => ∃ d s, e = .returned (.tuple #[.pointer (some ⟨d, 0, none⟩), .int .i64 0]) ∧ Tr w [] w' [bitsR d s n fun _ => false] := by
  have hs := Tr.refl w []
  go_enter Tryd.func32, Tryd.ntmps32
  go_wp2_with (first
    | ((with_reducible refine at_mk rfl ?_); refine wl_make hs rfl rfl Tryd.underlying78 info81 ((n + 63) / 64) rfl rfl (by omega) (by omega) (by omega) (wrd fun _ => false) (zmake _) ?_; rw [Nat.mul_one]; clear hs; intro w1 s hs)
    | ((with_reducible refine at_box (t := 80) rfl ?_); refine wl_boxA hs rfl rfl rfl ?_; clear hs; intro w1 d hs))
  go_ret2
  exact ⟨_, _, rfl, hs.join2⟩
theorem new_no (n : Int) (w : World) (h : n < 0 ∨ 4096 < n) :
    Calls Tryd.prog 32 #[.int .i64 n] w fun e w' => e = .returned (.tuple #[.pointer none, .int .i64 50]) ∧ Tr w [] w' [] := by
  have hs := Tr.refl w []
  go_enter Tryd.func32, Tryd.ntmps32
  by_cases h1 : n < 0
  · go_wp2
    go_ret2
    exact ⟨rfl, hs⟩
  · have h2 : 4096 < n := by omega
    go_wp2
    go_ret2
    exact ⟨rfl, hs⟩
/-- which of n things -/
def pick (c n : Int) : Int := (if c < 0 then -(c + 1) else c) % n
theorem pick_bd (c n : Int) (h : 1 ≤ n) : 0 ≤ pick c n ∧ pick c n < n := ⟨Int.emod_nonneg _ (by omega), Int.emod_lt_of_pos _ (by omega)⟩
theorem pick_any (c n : Int) (w : World) (h0 : 1 ≤ n) (h1 : n ≤ 9223372036854775807) (h2 : -9223372036854775808 ≤ c) (h3 : c ≤ 9223372036854775807) :
    Calls Tryd.prog 22 #[.int .i64 c, .int .i64 n] w fun e w' => e = .returned (.int .i64 (pick c n)) ∧ w = w' := by
  by_cases h : c < 0
  · go_enter Tryd.func22, Tryd.ntmps22
    go_wp2
    go_ret
    refine ⟨ret_int ?_, rfl⟩
    rw [pick, if_pos h]
    first
      | exact Int.tmod_eq_emod_of_nonneg (by omega)
      | (rw [← Int.neg_tmod]; exact Int.tmod_eq_emod_of_nonneg (by omega))
  · have h' : 0 ≤ c := by omega
    go_enter Tryd.func22, Tryd.ntmps22
    go_wp2
    go_ret
    exact ⟨ret_int (by rw [pick, if_neg (by omega)]), rfl⟩


theorem bits_andNot_u64_nat (a b : Nat) (ha : a < 18446744073709551616) (hb : b < 18446744073709551616) :
    bits .andNot .u64 (a : Int) (b : Int) = ((a &&& (18446744073709551615 - b) : Nat) : Int) := by
  have hx : a &&& (18446744073709551615 - b) < 2 ^ 64 := Nat.and_lt_two_pow _ (by omega)
  have h1 : (BitVec.ofInt 64 (a : Int)).toNat = a := by
    rw [BitVec.ofInt_natCast, BitVec.toNat_ofNat]; exact Nat.mod_eq_of_lt (by omega)
  have h2 : (BitVec.ofInt 64 (b : Int)).toNat = b := by
    rw [BitVec.ofInt_natCast, BitVec.toNat_ofNat]; exact Nat.mod_eq_of_lt (by omega)
  show IntKind.u64.wrap ((BitVec.ofInt 64 (a : Int) &&& ~~~BitVec.ofInt 64 (b : Int)).toNat : Int) = _
  rw [BitVec.toNat_and, BitVec.toNat_not, h1, h2, IntKind.wrap_u64]
  have e : 2 ^ 64 - 1 - b = 18446744073709551615 - b := by omega
  rw [e]
  omega
theorem two64 (i : Nat) : 2 ^ (i % 64) < 18446744073709551616 := Nat.pow_lt_pow_right (a := 2) (m := i % 64) (n := 64) (by decide) (Nat.mod_lt _ (by decide))
theorem and1 (f : Nat → Bool) (i : Nat) : (bits .and .u64 ((word f (i / 64) : Int) / 2 ^ (i % 64)) 1 == 1) = f i := by
  have e : ((word f (i / 64) : Int) / 2 ^ (i % 64)) = ((word f (i / 64) / 2 ^ (i % 64) : Nat) : Int) := by push_cast; rfl
  have h := word_lt f (i / 64)
  have h2 : word f (i / 64) / 2 ^ (i % 64) ≤ word f (i / 64) := Nat.div_le_self _ _
  rw [e, show (1 : Int) = ((1 : Nat) : Int) from rfl, bits_and_u64_nat _ _ (Nat.lt_of_le_of_lt h2 h) (by decide), word_has]
  cases f i <;> rfl
theorem shl64 (i : Nat) : IntKind.u64.wrap (2 ^ ((i : Int) % 64).toNat) = ((2 ^ (i % 64) : Nat) : Int) := by
  have e : ((i : Int) % 64).toNat = i % 64 := by omega
  have := two64 i
  rw [e, IntKind.wrap_u64]
  have e2 : (2 : Int) ^ (i % 64) = ((2 ^ (i % 64) : Nat) : Int) := by push_cast; rfl
  rw [e2]
  generalize (2 ^ (i % 64) : Nat) = x at *
  omega
theorem or64 (f : Nat → Bool) (i : Nat) : bits .or .u64 ((word f (i / 64) : Nat) : Int) ((2 ^ (i % 64) : Nat) : Int) = ((word (updP f i true) (i / 64) : Nat) : Int) := by
  rw [bits_or_u64_nat _ _ (word_lt f _) (two64 i), word_set]
theorem andn64 (f : Nat → Bool) (i : Nat) : bits .andNot .u64 ((word f (i / 64) : Nat) : Int) ((2 ^ (i % 64) : Nat) : Int) = ((word (updP f i false) (i / 64) : Nat) : Int) := by
  rw [bits_andNot_u64_nat _ _ (word_lt f _) (two64 i), word_clear]
section
variable {d s n : Nat} {f : Nat → Bool} {w : World}
theorem len_any (h : (bitsR d s n f).holds w) : Calls Tryd.prog 39 #[.pointer (some ⟨d, 0, none⟩)] w fun e w' => e = .returned (.int .i64 n) ∧ Tr w [] w' [] := by
  have hs := Tr.open2 h
  go_enter Tryd.func39, Tryd.ntmps39
  go_wp2_with (first | ((with_reducible refine at_load rfl ?_); refine wl_load1 hs rfl rfl Tryd.underlying3 rfl rfl 0 rfl rfl ?_))
  go_ret
  exact ⟨rfl, Tr.same2 h hs⟩
theorem set_yes (i : Nat) (hi : i < n) (hn : n ≤ 4096) (h : (bitsR d s n f).holds w) :
    Calls Tryd.prog 34 #[.pointer (some ⟨d, 0, none⟩), .int .i64 (i : Int)] w fun e w' => e = .returned (.int .i64 0) ∧ Tr w (bitsR d s n f).foot w' [bitsR d s n (updP f i true)] := by
  have hs := Tr.open2 h
  have hi2 : (i : Int) < n := by omega
  have hm : i / 64 < (n + 63) / 64 := by omega
  go_enter Tryd.func34, Tryd.ntmps34
  go_upto_region 3 with (first | ((with_reducible refine at_load rfl ?_); refine wl_load1 hs rfl rfl Tryd.underlying3 rfl rfl 0 rfl rfl ?_))
  refine wt_enterS (List.Sublist.cons_cons _ (List.nil_sublist _)) 14 rfl hs (by kernel_rfl) ?_
  clear hs; intro w1 hC hs
  refine wt_take 0 rfl (by kernel_rfl) (by kernel_rfl) (by kernel_rfl) (fun _ _ _ _ h => h) rfl hC ⟨_, fun w hw => by (go_simp; try with_reducible rfl), fun a1 ha => ?_⟩
  simp only [Act.put, List.setIfInBounds_toArray, List.set_cons_succ, List.set_cons_zero] at ha; subst ha
  refine wt_take 1 rfl (by kernel_rfl) (by kernel_rfl) (by kernel_rfl) (fun _ _ _ _ h => h) rfl hC ⟨_, fun w hw => by (go_simp; try with_reducible rfl), fun a1 ha => ?_⟩
  simp only [Act.put, List.setIfInBounds_toArray, List.set_cons_succ, List.set_cons_zero] at ha; subst ha
  refine wt_take 2 rfl (by kernel_rfl) (by kernel_rfl) (by kernel_rfl) (fun _ _ _ _ h => h) rfl hC ⟨_, fun w hw => by (go_simp; try with_reducible rfl), fun a1 ha => ?_⟩
  simp only [Act.put, List.setIfInBounds_toArray, List.set_cons_succ, List.set_cons_zero] at ha; subst ha
  refine wt_take 3 rfl (by kernel_rfl) (by kernel_rfl) (by kernel_rfl) (fun _ _ _ _ h => h) rfl hC ⟨_, fun w hw => ex_load1 rfl Tryd.underlying78 rfl rfl (by rw [cell_of_row w _ _ _ _ (0, 0) (hw.getB 0 rfl)]; rfl), fun a1 ha => ?_⟩
  simp only [Act.put, List.setIfInBounds_toArray, List.set_cons_succ, List.set_cons_zero] at ha; subst ha
  refine wt_take 4 rfl (by kernel_rfl) (by kernel_rfl) (by kernel_rfl) (fun _ _ _ _ h => h) rfl hC ⟨_, fun w hw => by (go_simp; try with_reducible rfl), fun a1 ha => ?_⟩
  simp only [Act.put, List.setIfInBounds_toArray, List.set_cons_succ, List.set_cons_zero] at ha; subst ha
  refine wt_take 5 rfl (by kernel_rfl) (by kernel_rfl) (by kernel_rfl) (fun _ _ _ _ h => h) rfl hC ⟨.int .i64 ((i / 64 : Nat) : Int), fun w hw => by (go_simp; exact wrap_in (by omega)), fun a1 ha => ?_⟩
  simp only [Act.put, List.setIfInBounds_toArray, List.set_cons_succ, List.set_cons_zero] at ha; subst ha
  refine wt_take 6 rfl (by kernel_rfl) (by kernel_rfl) (by kernel_rfl) (fun _ _ _ _ h => h) rfl hC ⟨_, fun w hw => ex_index1 rfl Tryd.underlying78 size81 rfl rfl (i / 64) rfl hm rfl, fun a1 ha => ?_⟩
  simp only [Act.put, List.setIfInBounds_toArray, List.set_cons_succ, List.set_cons_zero] at ha; subst ha
  refine wt_take 8 rfl (by kernel_rfl) (by kernel_rfl) (by kernel_rfl) (fun _ _ _ _ h => h) rfl hC ⟨_, fun w hw => by (go_simp; try with_reducible rfl), fun a1 ha => ?_⟩
  simp only [Act.put, List.setIfInBounds_toArray, List.set_cons_succ, List.set_cons_zero] at ha; subst ha
  refine wt_take 9 rfl (by kernel_rfl) (by kernel_rfl) (by kernel_rfl) (fun _ _ _ _ h => h) rfl hC ⟨.int .i64 ((i % 64 : Nat) : Int), fun w hw => by (go_simp; exact Int.tmod_eq_emod_of_nonneg (by omega)), fun a1 ha => ?_⟩
  simp only [Act.put, List.setIfInBounds_toArray, List.set_cons_succ, List.set_cons_zero] at ha; subst ha
  refine wt_take 10 rfl (by kernel_rfl) (by kernel_rfl) (by kernel_rfl) (fun _ _ _ _ h => h) rfl hC ⟨.int .u64 ((2 ^ (i % 64) : Nat) : Int), fun w hw => by (go_simp; exact shl64 i), fun a1 ha => ?_⟩
  simp only [Act.put, List.setIfInBounds_toArray, List.set_cons_succ, List.set_cons_zero] at ha; subst ha
  refine wt_one 7 (by kernel_rfl) ?_
  refine wt_run (v := .int .u64 ((word f (i / 64) : Nat) : Int)) rfl rfl (ex_load1 rfl Tryd.underlying81 rfl rfl (by rw [cell_of_row _ _ _ _ _ (0, 0) (hs.getB 1 rfl)]; exact rowOf_get (f := wrd f) (by omega))) (by simp only [Act.put, List.setIfInBounds_toArray, List.set_cons_succ, List.set_cons_zero]; rfl) ?_
  refine wt_and (hs.sub (by repeat (first | exact List.Sublist.refl _ | refine List.Sublist.cons_cons _ ?_ | refine List.Sublist.cons _ ?_))) fun hC => ?_
  refine wt_take 11 rfl (by kernel_rfl) (by kernel_rfl) (by kernel_rfl) (fun _ _ _ _ h => h) rfl hC ⟨.int .u64 ((word (updP f i true) (i / 64) : Nat) : Int), fun w hw => by (go_simp; exact or64 f i), fun a1 ha => ?_⟩
  simp only [Act.put, List.setIfInBounds_toArray, List.set_cons_succ, List.set_cons_zero] at ha; subst ha
  refine wt_take 12 rfl (by kernel_rfl) (by kernel_rfl) (by kernel_rfl) (fun _ _ _ _ h => h) rfl hC ⟨_, fun w hw => ex_index1 rfl Tryd.underlying78 size81 rfl rfl (i / 64) rfl hm rfl, fun a1 ha => ?_⟩
  simp only [Act.put, List.setIfInBounds_toArray, List.set_cons_succ, List.set_cons_zero] at ha; subst ha
  refine wt_one 13 (by kernel_rfl) ?_
  refine wt_store1R hs rfl rfl rfl size81 rfl rfl rfl 1 rfl (by omega) (wrd (updP f i true)) (wrd_upd f i true _) (by simp only [Act.put, List.setIfInBounds_toArray, List.set_cons_succ, List.set_cons_zero]; rfl) ?_
  clear hs; intro w1 hs
  refine wt_and (hs.sub (by repeat (first | exact List.Sublist.refl _ | refine List.Sublist.cons_cons _ ?_ | refine List.Sublist.cons _ ?_))) fun hC => ?_
  refine wt_done (by kernel_rfl) ?_
  skip
  go_wp2
  go_ret
  exact ⟨rfl, hs.join2⟩
theorem clear_yes (i : Nat) (hi : i < n) (hn : n ≤ 4096) (h : (bitsR d s n f).holds w) :
    Calls Tryd.prog 42 #[.pointer (some ⟨d, 0, none⟩), .int .i64 (i : Int)] w fun e w' => e = .returned (.int .i64 0) ∧ Tr w (bitsR d s n f).foot w' [bitsR d s n (updP f i false)] := by
  have hs := Tr.open2 h
  have hi2 : (i : Int) < n := by omega
  have hm : i / 64 < (n + 63) / 64 := by omega
  go_enter Tryd.func42, Tryd.ntmps42
  go_upto_region 3 with (first | ((with_reducible refine at_load rfl ?_); refine wl_load1 hs rfl rfl Tryd.underlying3 rfl rfl 0 rfl rfl ?_))
  refine wt_enterS (List.Sublist.cons_cons _ (List.nil_sublist _)) 14 rfl hs (by kernel_rfl) ?_
  clear hs; intro w1 hC hs
  refine wt_take 0 rfl (by kernel_rfl) (by kernel_rfl) (by kernel_rfl) (fun _ _ _ _ h => h) rfl hC ⟨_, fun w hw => by (go_simp; try with_reducible rfl), fun a1 ha => ?_⟩
  simp only [Act.put, List.setIfInBounds_toArray, List.set_cons_succ, List.set_cons_zero] at ha; subst ha
  refine wt_take 1 rfl (by kernel_rfl) (by kernel_rfl) (by kernel_rfl) (fun _ _ _ _ h => h) rfl hC ⟨_, fun w hw => by (go_simp; try with_reducible rfl), fun a1 ha => ?_⟩
  simp only [Act.put, List.setIfInBounds_toArray, List.set_cons_succ, List.set_cons_zero] at ha; subst ha
  refine wt_take 2 rfl (by kernel_rfl) (by kernel_rfl) (by kernel_rfl) (fun _ _ _ _ h => h) rfl hC ⟨_, fun w hw => by (go_simp; try with_reducible rfl), fun a1 ha => ?_⟩
  simp only [Act.put, List.setIfInBounds_toArray, List.set_cons_succ, List.set_cons_zero] at ha; subst ha
  refine wt_take 3 rfl (by kernel_rfl) (by kernel_rfl) (by kernel_rfl) (fun _ _ _ _ h => h) rfl hC ⟨_, fun w hw => ex_load1 rfl Tryd.underlying78 rfl rfl (by rw [cell_of_row w _ _ _ _ (0, 0) (hw.getB 0 rfl)]; rfl), fun a1 ha => ?_⟩
  simp only [Act.put, List.setIfInBounds_toArray, List.set_cons_succ, List.set_cons_zero] at ha; subst ha
  refine wt_take 4 rfl (by kernel_rfl) (by kernel_rfl) (by kernel_rfl) (fun _ _ _ _ h => h) rfl hC ⟨_, fun w hw => by (go_simp; try with_reducible rfl), fun a1 ha => ?_⟩
  simp only [Act.put, List.setIfInBounds_toArray, List.set_cons_succ, List.set_cons_zero] at ha; subst ha
  refine wt_take 5 rfl (by kernel_rfl) (by kernel_rfl) (by kernel_rfl) (fun _ _ _ _ h => h) rfl hC ⟨.int .i64 ((i / 64 : Nat) : Int), fun w hw => by (go_simp; exact wrap_in (by omega)), fun a1 ha => ?_⟩
  simp only [Act.put, List.setIfInBounds_toArray, List.set_cons_succ, List.set_cons_zero] at ha; subst ha
  refine wt_take 6 rfl (by kernel_rfl) (by kernel_rfl) (by kernel_rfl) (fun _ _ _ _ h => h) rfl hC ⟨_, fun w hw => ex_index1 rfl Tryd.underlying78 size81 rfl rfl (i / 64) rfl hm rfl, fun a1 ha => ?_⟩
  simp only [Act.put, List.setIfInBounds_toArray, List.set_cons_succ, List.set_cons_zero] at ha; subst ha
  refine wt_take 8 rfl (by kernel_rfl) (by kernel_rfl) (by kernel_rfl) (fun _ _ _ _ h => h) rfl hC ⟨_, fun w hw => by (go_simp; try with_reducible rfl), fun a1 ha => ?_⟩
  simp only [Act.put, List.setIfInBounds_toArray, List.set_cons_succ, List.set_cons_zero] at ha; subst ha
  refine wt_take 9 rfl (by kernel_rfl) (by kernel_rfl) (by kernel_rfl) (fun _ _ _ _ h => h) rfl hC ⟨.int .i64 ((i % 64 : Nat) : Int), fun w hw => by (go_simp; exact Int.tmod_eq_emod_of_nonneg (by omega)), fun a1 ha => ?_⟩
  simp only [Act.put, List.setIfInBounds_toArray, List.set_cons_succ, List.set_cons_zero] at ha; subst ha
  refine wt_take 10 rfl (by kernel_rfl) (by kernel_rfl) (by kernel_rfl) (fun _ _ _ _ h => h) rfl hC ⟨.int .u64 ((2 ^ (i % 64) : Nat) : Int), fun w hw => by (go_simp; exact shl64 i), fun a1 ha => ?_⟩
  simp only [Act.put, List.setIfInBounds_toArray, List.set_cons_succ, List.set_cons_zero] at ha; subst ha
  refine wt_one 7 (by kernel_rfl) ?_
  refine wt_run (v := .int .u64 ((word f (i / 64) : Nat) : Int)) rfl rfl (ex_load1 rfl Tryd.underlying81 rfl rfl (by rw [cell_of_row _ _ _ _ _ (0, 0) (hs.getB 1 rfl)]; exact rowOf_get (f := wrd f) (by omega))) (by simp only [Act.put, List.setIfInBounds_toArray, List.set_cons_succ, List.set_cons_zero]; rfl) ?_
  refine wt_and (hs.sub (by repeat (first | exact List.Sublist.refl _ | refine List.Sublist.cons_cons _ ?_ | refine List.Sublist.cons _ ?_))) fun hC => ?_
  refine wt_take 11 rfl (by kernel_rfl) (by kernel_rfl) (by kernel_rfl) (fun _ _ _ _ h => h) rfl hC ⟨.int .u64 ((word (updP f i false) (i / 64) : Nat) : Int), fun w hw => by (go_simp; exact andn64 f i), fun a1 ha => ?_⟩
  simp only [Act.put, List.setIfInBounds_toArray, List.set_cons_succ, List.set_cons_zero] at ha; subst ha
  refine wt_take 12 rfl (by kernel_rfl) (by kernel_rfl) (by kernel_rfl) (fun _ _ _ _ h => h) rfl hC ⟨_, fun w hw => ex_index1 rfl Tryd.underlying78 size81 rfl rfl (i / 64) rfl hm rfl, fun a1 ha => ?_⟩
  simp only [Act.put, List.setIfInBounds_toArray, List.set_cons_succ, List.set_cons_zero] at ha; subst ha
  refine wt_one 13 (by kernel_rfl) ?_
  refine wt_store1R hs rfl rfl rfl size81 rfl rfl rfl 1 rfl (by omega) (wrd (updP f i false)) (wrd_upd f i false _) (by simp only [Act.put, List.setIfInBounds_toArray, List.set_cons_succ, List.set_cons_zero]; rfl) ?_
  clear hs; intro w1 hs
  refine wt_and (hs.sub (by repeat (first | exact List.Sublist.refl _ | refine List.Sublist.cons_cons _ ?_ | refine List.Sublist.cons _ ?_))) fun hC => ?_
  refine wt_done (by kernel_rfl) ?_
  skip
  go_wp2
  go_ret
  exact ⟨rfl, hs.join2⟩
theorem set_no (i : Int) (hi : i < 0 ∨ n ≤ i) (h : (bitsR d s n f).holds w) :
    Calls Tryd.prog 34 #[.pointer (some ⟨d, 0, none⟩), .int .i64 i] w fun e w' => e = .returned (.int .i64 51) ∧ Tr w [] w' [] := by
  have hs := Tr.open2 h
  by_cases h1 : i < 0
  · go_enter Tryd.func34, Tryd.ntmps34
    go_wp2_with (first | ((with_reducible refine at_load rfl ?_); refine wl_load1 hs rfl rfl Tryd.underlying3 rfl rfl 0 rfl rfl ?_))
    go_ret
    exact ⟨rfl, Tr.same2 h hs⟩
  · have h2 : (n : Int) ≤ i := by omega
    go_enter Tryd.func34, Tryd.ntmps34
    go_wp2_with (first | ((with_reducible refine at_load rfl ?_); refine wl_load1 hs rfl rfl Tryd.underlying3 rfl rfl 0 rfl rfl ?_))
    go_ret
    exact ⟨rfl, Tr.same2 h hs⟩
theorem clear_no (i : Int) (hi : i < 0 ∨ n ≤ i) (h : (bitsR d s n f).holds w) :
    Calls Tryd.prog 42 #[.pointer (some ⟨d, 0, none⟩), .int .i64 i] w fun e w' => e = .returned (.int .i64 51) ∧ Tr w [] w' [] := by
  have hs := Tr.open2 h
  by_cases h1 : i < 0
  · go_enter Tryd.func42, Tryd.ntmps42
    go_wp2_with (first | ((with_reducible refine at_load rfl ?_); refine wl_load1 hs rfl rfl Tryd.underlying3 rfl rfl 0 rfl rfl ?_))
    go_ret
    exact ⟨rfl, Tr.same2 h hs⟩
  · have h2 : (n : Int) ≤ i := by omega
    go_enter Tryd.func42, Tryd.ntmps42
    go_wp2_with (first | ((with_reducible refine at_load rfl ?_); refine wl_load1 hs rfl rfl Tryd.underlying3 rfl rfl 0 rfl rfl ?_))
    go_ret
    exact ⟨rfl, Tr.same2 h hs⟩
theorem has_no (i : Int) (hi : i < 0 ∨ n ≤ i) (h : (bitsR d s n f).holds w) :
    Calls Tryd.prog 38 #[.pointer (some ⟨d, 0, none⟩), .int .i64 i] w fun e w' => e = .returned (.bool false) ∧ Tr w [] w' [] := by
  have hs := Tr.open2 h
  by_cases h1 : i < 0
  · go_enter Tryd.func38, Tryd.ntmps38
    go_wp2_with (first | ((with_reducible refine at_load rfl ?_); refine wl_load1 hs rfl rfl Tryd.underlying3 rfl rfl 0 rfl rfl ?_))
    go_ret
    exact ⟨rfl, Tr.same2 h hs⟩
  · have h2 : (n : Int) ≤ i := by omega
    have h3 : 0 ≤ i := by omega
    go_enter Tryd.func38, Tryd.ntmps38
    go_wp2_with (first | ((with_reducible refine at_load rfl ?_); refine wl_load1 hs rfl rfl Tryd.underlying3 rfl rfl 0 rfl rfl ?_))
    go_ret
    exact ⟨rfl, Tr.same2 h hs⟩
theorem has_yes (i : Nat) (hi : i < n) (hn : n ≤ 4096) (h : (bitsR d s n f).holds w) :
    Calls Tryd.prog 38 #[.pointer (some ⟨d, 0, none⟩), .int .i64 (i : Int)] w fun e w' => e = .returned (.bool (f i)) ∧ Tr w [] w' [] := by
  have hs := Tr.open2 h
  have hi2 : (i : Int) < n := by omega
  have hm : i / 64 < (n + 63) / 64 := by omega
  go_enter Tryd.func38, Tryd.ntmps38
  go_wp2_with (first | ((with_reducible refine at_load rfl ?_); refine wl_load1 hs rfl rfl Tryd.underlying3 rfl rfl 0 rfl rfl ?_) | ((with_reducible refine at_load rfl ?_); refine wl_load1 hs rfl rfl Tryd.underlying78 rfl rfl 0 rfl rfl ?_) | ((with_reducible refine at_load rfl ?_); refine wl_load1 (v := .int .u64 ((word f (i / 64) : Nat) : Int)) hs rfl rfl Tryd.underlying81 rfl rfl 1 rfl (rowOf_get (f := wrd f) (by omega)) ?_))
  go_ret
  exact ⟨ret_bool (and1 f i), Tr.same2 h hs⟩
end
end Go.Proofs.YtfedfdcbhggipaaDoor
