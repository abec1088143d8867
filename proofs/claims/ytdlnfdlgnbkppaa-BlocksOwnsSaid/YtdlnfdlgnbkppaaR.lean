/- The document's example. -/
import Derived.Test.YtdlnfdlgnbkppaaQ
import Derived.Laws.Tables
namespace Go.Proofs.Ytdlnfdlgnbkppaa
set_option linter.unusedVariables false
set_option linter.unusedSimpArgs false
open Go Go.Sp Go.RowKit

theorem wl_buildP {P : Program} {w : World} {ops : Array Oper} {Q : Exit → Act → World → Prop} {a : Act} {o : Oper} {rest : List Oper} {t : TypeId} {ps : Array (Nat × Operand)} (hw : Region.wanted o (yielded ops a.tmps) = true) (ho : o.op = .build t ps)
    (vs : List (Nat × Value)) (hv : ps.toList.map (fun x => (x.1, a.eval x.2)) = vs) {cs : Array Value} (hb : P.built t vs = some cs) (k : wpList P ops Q rest (a.put o.dst (.agg cs)) w) : wpList P ops Q (o :: rest) a w := by
  refine wl_run hw ?_ k
  subst hv
  have h1 := run_build (P := P) w t (ps.map fun (x : Nat × Operand) => (x.1, a.eval x.2)) cs (by rw [Array.toList_map]; exact hb)
  unfold execOp
  simp [ho, h1, Result.andThen]
theorem ret_cells {P : Program} {fn : Func} {R : Ending → World → Prop} {w0 w : World} {S : List Nat} {L : List Res} {a : Act} (hs : Tr w0 S w L) {p q : Tmp} {ty1 ty2 : TypeId} (h : fn.results = #[.cell p ty1, .cell q ty2]) (hd : a.defers = []) {d1 d2 : TypeDesc} (hu1 : P.underlying ty1 = some d1) (hr1 : d1.isRow = true) (hu2 : P.underlying ty2 = some d2) (hr2 : d2.isRow = true)
    {b1 b2 : Nat} (hp1 : a.eval (.tmp p) = .pointer (some ⟨b1, 0, none⟩)) (hp2 : a.eval (.tmp q) = .pointer (some ⟨b2, 0, none⟩))
    (i j : Nat) {cs1 cs2 : Array Value} {t1 t2 : TypeId} (hi : L[i]? = some (Res.blk b1 cs1 t1)) (hj : L[j]? = some (Res.blk b2 cs2 t2)) (hn1 : (P.info? ty1).map (·.size) = some cs1.size) (hn2 : (P.info? ty2).map (·.size) = some cs2.size)
    (k : R (.returned (.tuple #[.agg cs1, .agg cs2])) w) : bodyPost P fn R .ret a w := by
  have g1 := run_loadVar_row (P := P) w b1 t1 ty1 cs1 (0, 0) d1 (hs.getB i hi) hu1 (by cases d1 <;> simp_all) hn1
  have g2 := run_loadVar_row (P := P) w b2 t2 ty2 cs2 (0, 0) d2 (hs.getB j hj) hu2 (by cases d2 <;> simp_all) hn2
  have hp' : a.tmps[p]?.getD undef = .pointer (some ⟨b1, 0, none⟩) := by simpa [Act.eval] using hp1
  have hq' : a.tmps[q]?.getD undef = .pointer (some ⟨b2, 0, none⟩) := by simpa [Act.eval] using hp2
  exact bodyPost_ret (by simp [results, h, hp', hq', asAddr, g1, g2]) hd k
def exP1 : Nat → Int := fun i => if i = 1 then 22 else 0
def exP2 : Nat → Int := fun i => if i = 0 then 41 else if i = 31 then 42 else 0
def exP3 : Nat → Int := fun i => if i = 0 then 23 else if i = 31 then 24 else 0
def exX0 : Nat → Int := fun i => if i = 0 then 1 else if i = 16 then 30 else if i = 17 then 40 else 0
def exX1 : Nat → Int := fun i => if i = 4 then 20 else exX0 i
def exX : Nat → Int := fun i => if i = 15 then 21 else exX1 i
theorem built1 : Try.prog.built 69 [(1, .int .i64 22)] = some (rowOf 32 (gI exP1)) := by kernel_rfl
theorem built2 : Try.prog.built 69 [(0, .int .i64 41), (31, .int .i64 42)] = some (rowOf 32 (gI exP2)) := by kernel_rfl
theorem built3 : Try.prog.built 69 [(0, .int .i64 23), (31, .int .i64 24)] = some (rowOf 32 (gI exP3)) := by kernel_rfl
theorem built0 : Try.prog.built 29 [(0, .int .i64 1), (5, .int .i64 30), (6, .int .i64 40)] = some (rowOf 18 (gI exX0)) := by kernel_rfl
theorem built35 (b : Nat) : Try.prog.built 35 [(0, .slice (some ⟨b, 0, none⟩) 64 64), (1, .int .i64 (-1))] = some #[.slice (some ⟨b, 0, none⟩) 64 64, .int .i64 (-1), .int .i64 0] := by kernel_rfl
theorem zero35 : (Try.prog.info? 35).map (·.zero) = some (some (.agg #[.slice none 0 0, .int .i64 0, .int .i64 0])) := by kernel_rfl
theorem info83 : (Try.prog.info? 83).map (fun i => (i.zero, i.size, i.bytes)) = some (some (.agg (rowOf 128 (u8v fun _ => 0))), 128, 128) := by kernel_rfl
theorem zmake83 (n : Nat) : ∀ i, i < n * 128 → (Value.agg (rowOf 128 (u8v fun _ => 0))).cells[i % (Value.agg (rowOf 128 (u8v fun _ => 0))).cells.size]! = u8v (fun _ => 0) i := by
  intro i hi
  have h : i % 128 < 128 := Nat.mod_lt _ (by omega)
  have h2 : (Value.agg (rowOf 128 (u8v fun _ => 0))).cells = rowOf 128 (u8v fun _ => 0) := rfl
  rw [h2, rowOf_size, getElem!_pos _ _ (by rw [rowOf_size]; exact h)]
  have h3 := rowOf_get (f := u8v fun _ => 0) h
  rw [Array.getElem?_eq_getElem (by rw [rowOf_size]; exact h)] at h3
  exact Option.some.inj h3
theorem spliceR (F G : Nat → UInt8) (off : Nat) : ∀ j, j < 64 * 128 → (if off ≤ j ∧ j < off + 128 then u8v G (j - off) else u8v F j) = u8v (spliceF F off 128 G) j := by
  intro j hj
  simp only [u8v, spliceF]
  by_cases h : off ≤ j ∧ j < off + 128
  · rw [if_pos h, if_pos h]
  · rw [if_neg h, if_neg h]
set_option maxRecDepth 100000 in
set_option maxHeartbeats 1000000 in
theorem example_core (P1 P2 P3 Y0 Y1 Y2 : Nat → Int) (w : World) (HB1 : Hid (Try.prog.built 69 [(1, .int .i64 22)] = some (rowOf 32 (gI P1)))) (HB2 : Hid (Try.prog.built 69 [(0, .int .i64 41), (31, .int .i64 42)] = some (rowOf 32 (gI P2))))
    (HB3 : Hid (Try.prog.built 69 [(0, .int .i64 23), (31, .int .i64 24)] = some (rowOf 32 (gI P3)))) (HB0 : Hid (Try.prog.built 29 [(0, .int .i64 1), (5, .int .i64 30), (6, .int .i64 40)] = some (rowOf 18 (gI Y0))))
    (HY1 : Hid (∀ j, j < 18 → (if j = 4 then Value.int .i64 20 else gI Y0 j) = gI Y1 j)) (HY2 : Hid (∀ j, j < 18 → (if j = 15 then Value.int .i64 21 else gI Y1 j) = gI Y2 j))
    (S1 S2 S3 : Nat → UInt8) (HP1 : Hid (∀ w, Calls Try.prog 31 #[.agg (rowOf 32 (gI P1))] w fun e w' => e = .returned (.tuple #[bytesV 128 S1, .int .i64 0]) ∧ Tr w [] w' [])) (HP2 : Hid (∀ w, Calls Try.prog 31 #[.agg (rowOf 32 (gI P2))] w fun e w' => e = .returned (.tuple #[bytesV 128 S2, .int .i64 0]) ∧ Tr w [] w' []))
    (HP3 : Hid (∀ w, Calls Try.prog 31 #[.agg (rowOf 32 (gI P3))] w fun e w' => e = .returned (.tuple #[bytesV 128 S3, .int .i64 0]) ∧ Tr w [] w' [])) (D1 D2 D3 : Nat → UInt8)
    (HD1 : Hid (∀ j, j < 64 * 128 → (if 3840 ≤ j ∧ j < 3840 + 128 then u8v S1 (j - 3840) else u8v (fun _ => 0) j) = u8v D1 j)) (HD2 : Hid (∀ j, j < 64 * 128 → (if 5120 ≤ j ∧ j < 5120 + 128 then u8v S2 (j - 5120) else u8v D1 j) = u8v D2 j)) (HD3 : Hid (∀ j, j < 64 * 128 → (if 5248 ≤ j ∧ j < 5248 + 128 then u8v S3 (j - 5248) else u8v D2 j) = u8v D3 j)) :
    Calls Try.prog 26 #[] w fun e w' => ∃ b, e = .returned (.tuple #[.agg (rowOf 18 (gI Y2)), .agg #[.slice (some ⟨b, 0, none⟩) 64 64, .int .i64 (-1), .int .i64 0]]) ∧ Tr w [] w' [Res.blk b (rowOf (64 * 128) (u8v D3)) 83] := by
  have hs := Tr.refl w []
  go_enter Try.func26, Try.ntmps26
  go_upto_region 1 with (first | ((with_reducible refine (at_alloc (t := 29)) rfl ?_); refine wl_allocA hs rfl rfl zero29 ?_; clear hs; intro w1 ib hs) | ((with_reducible refine (at_alloc (t := 35)) rfl ?_); refine wl_allocA hs rfl rfl zero35 ?_; clear hs; intro w1 sb hs))
  go_upto_region 2 with (first | ((with_reducible refine (at_alloc (t := 29)) rfl ?_); refine wl_allocA hs rfl rfl zero29 ?_; clear hs; intro w1 xb hs) | ((with_reducible refine (at_build (t := 29)) rfl ?_); refine wl_buildP rfl rfl (_) (by rfl) (HB0.out) ?_) | ((with_reducible refine (at_store (t := 29)) rfl ?_); refine wl_storeA hs rfl rfl rfl rfl (size29 _) (oneI 18 _) 0 rfl (by simp only [rowOf_size]) ?_; clear hs; intro w1 hs))
  go_upto_region 3 with (first | ((with_reducible refine (at_store (t := 3)) rfl ?_); refine wl_store1R hs rfl rfl size3 rfl rfl rfl 0 rfl (by omega) (gI (Y1)) (HY1.out) ?_; clear hs; intro w1 hs))
  go_upto_region 4 with (first | ((with_reducible refine (at_store (t := 3)) rfl ?_); refine wl_store1R hs rfl rfl size3 rfl rfl rfl 0 rfl (by omega) (gI (Y2)) (HY2.out) ?_; clear hs; intro w1 hs))
  go_upto_region 5 with (first | ((with_reducible refine at_mk rfl ?_); refine wl_make hs rfl rfl Try.underlying30 info83 64 rfl rfl rfl (by omega) (by omega) (u8v fun _ => 0) (zmake83 _) ?_; clear hs; intro w1 b hs))
  go_upto_region 6 with (first | ((with_reducible refine (at_build (t := 69)) rfl ?_); refine wl_buildP rfl rfl (_) (by rfl) (HB1.out) ?_) | (go_at_call 31; refine (HP1.out _).mono ?_; rintro e w2 ⟨rfl, hc⟩; replace hs := hs.call0 hc; clear hc) | ((with_reducible refine at_index rfl ?_); refine wl_index rfl rfl Try.underlying30 size83 rfl rfl 30 rfl (by omega) rfl ?_) | ((with_reducible refine (at_store (t := 83)) rfl ?_); refine wl_storeM hs rfl rfl rfl rfl size83 (fun _ _ => rfl) 0 rfl (by omega) (u8v D1) HD1.out ?_; clear hs; intro w1 hs))
  go_upto_region 7 with (first | ((with_reducible refine (at_build (t := 69)) rfl ?_); refine wl_buildP rfl rfl (_) (by rfl) (HB2.out) ?_) | (go_at_call 31; refine (HP2.out _).mono ?_; rintro e w2 ⟨rfl, hc⟩; replace hs := hs.call0 hc; clear hc) | ((with_reducible refine at_index rfl ?_); refine wl_index rfl rfl Try.underlying30 size83 rfl rfl 40 rfl (by omega) rfl ?_) | ((with_reducible refine (at_store (t := 83)) rfl ?_); refine wl_storeM hs rfl rfl rfl rfl size83 (fun _ _ => rfl) 0 rfl (by omega) (u8v D2) HD2.out ?_; clear hs; intro w1 hs))
  go_upto_region 8 with (first | ((with_reducible refine (at_build (t := 69)) rfl ?_); refine wl_buildP rfl rfl (_) (by rfl) (HB3.out) ?_) | (go_at_call 31; refine (HP3.out _).mono ?_; rintro e w2 ⟨rfl, hc⟩; replace hs := hs.call0 hc; clear hc) | ((with_reducible refine at_index rfl ?_); refine wl_index rfl rfl Try.underlying30 size83 rfl rfl 41 rfl (by omega) rfl ?_) | ((with_reducible refine (at_store (t := 83)) rfl ?_); refine wl_storeM hs rfl rfl rfl rfl size83 (fun _ _ => rfl) 0 rfl (by omega) (u8v D3) HD3.out ?_; clear hs; intro w1 hs))
  go_wp2_with (first | ((with_reducible refine (at_load (t := 29)) rfl ?_); refine wl_loadA hs rfl rfl Try.underlying29 rfl rfl 1 rfl (size29 _) ?_) | ((with_reducible refine (at_build (t := 35)) rfl ?_); refine wl_buildP rfl rfl (_) (by rfl) ((built35 b)) ?_) | ((with_reducible refine (at_store (t := 29)) rfl ?_); refine wl_storeA hs rfl rfl rfl rfl (size29 _) (oneI 18 _) 3 rfl (by simp only [rowOf_size]) ?_; clear hs; intro w1 hs) | ((with_reducible refine (at_store (t := 35)) rfl ?_); refine wl_storeA hs rfl rfl rfl rfl size35 (by simp [Value.oneCell']) 2 rfl rfl ?_; clear hs; intro w1 hs))
  exact ret_cells hs rfl rfl Try.underlying29 rfl Try.underlying35 rfl rfl rfl 3 2 rfl rfl (size29 _) size35 ⟨b, rfl, hs.sub (List.Sublist.cons_cons _ (List.nil_sublist _))⟩
/-- The example's image, as one row. -/
def exD : Nat → UInt8 := spliceF (spliceF (spliceF (fun _ => 0) 3840 128 (psK exP1 32)) 5120 128 (psK exP2 32)) 5248 128 (psK exP3 32)
theorem bd1 : ∀ i, i < 32 → 0 ≤ exP1 i ∧ exP1 i ≤ 4294967295 := fun i _ => by unfold exP1; split <;> omega
theorem bd2 : ∀ i, i < 32 → 0 ≤ exP2 i ∧ exP2 i ≤ 4294967295 := fun i _ => by unfold exP2; split; omega; split <;> omega
theorem bd3 : ∀ i, i < 32 → 0 ≤ exP3 i ∧ exP3 i ≤ 4294967295 := fun i _ => by unfold exP3; split; omega; split <;> omega
theorem example_any (w : World) : Calls Try.prog 26 #[] w fun e w' => ∃ b, e = .returned (.tuple #[.agg (rowOf 18 (gI exX)), .agg #[.slice (some ⟨b, 0, none⟩) 64 64, .int .i64 (-1), .int .i64 0]]) ∧ Tr w [] w' [Res.blk b (rowOf (64 * 128) (u8v exD)) 83] :=
  example_core exP1 exP2 exP3 exX0 exX1 exX w (Lib.hid built1) (Lib.hid built2) (Lib.hid built3) (Lib.hid built0)
    (Lib.hid fun j _ => by simp only [gI, exX1]; split <;> rfl) (Lib.hid fun j _ => by simp only [gI, exX]; split <;> rfl) _ _ _ (Lib.hid fun w => psec_any exP1 w bd1) (Lib.hid fun w => psec_any exP2 w bd2) (Lib.hid fun w => psec_any exP3 w bd3) _ _ exD
    (Lib.hid (spliceR _ _ 3840)) (Lib.hid (spliceR _ _ 5120)) (Lib.hid (spliceR _ _ 5248))
/-- Its reader. -/
def exS (b : Nat) : Src := { ao := some ⟨b, 0, none⟩, N := 64, c := 64, db := b, doff := 0, im := fun i j => exD (i * 128 + j), bad := -1, code := 0 }
theorem exS_in {w0 w : World} {S : List Nat} {L : List Res} (hs : Tr w0 S w L) (i : Nat) {b : Nat} (hi : L[i]? = some (Res.blk b (rowOf (64 * 128) (u8v exD)) 83)) : (exS b).In w :=
  ⟨Nat.le_refl _, by show 64 ≤ maxLen; unfold maxLen; omega, fun _ => rfl, fun k hk => by
    have h : k < 64 := hk
    have h2 : Rd w b (0 + k * 128) 128 fun j => u8v exD (0 + k * 128 + j) := hs.rd i hi (by omega)
    exact h2.congr fun j _ => by simp only [u8v, exS, Nat.zero_add]⟩
/-! What it tells. -/
theorem exS_tbE (b : Nat) {n : Int} (h0 : 0 ≤ n) (h1 : n < 64) : tbE (exS b) n = 0 := by
  unfold tbE rdE
  by_cases h : n = 0
  · rw [if_pos h]
  · rw [if_neg h, if_neg (by simp only [exS]; omega), if_neg (by simp only [exS]; omega)]
theorem exS_tbF (b : Nat) {n : Int} (h0 : 0 < n) (h1 : n < 64) : tbF (exS b) n = ptF (fun j => exD (n.toNat * 128 + j)) := by
  have e : rdE (exS b) n = 0 := by
    have := exS_tbE b (by omega) h1
    unfold tbE at this
    rwa [if_neg (by omega)] at this
  unfold tbF
  rw [if_neg (by omega), if_neg (by rw [e]; simp)]
  unfold rdF
  rw [if_neg (by simp only [exS]; omega), if_neg (by simp only [exS]; omega)]
  rfl
theorem exD_1 {j : Nat} (h : j < 128) : exD (3840 + j) = psK exP1 32 j := by
  simp only [exD, spliceF]
  rw [if_neg (by omega), if_neg (by omega), if_pos (by omega), show 3840 + j - 3840 = j by omega]
theorem exD_2 {j : Nat} (h : j < 128) : exD (5120 + j) = psK exP2 32 j := by
  simp only [exD, spliceF]
  rw [if_neg (by omega), if_pos (by omega), show 5120 + j - 5120 = j by omega]
theorem exD_3 {j : Nat} (h : j < 128) : exD (5248 + j) = psK exP3 32 j := by
  simp only [exD, spliceF]
  rw [if_pos (by omega), show 5248 + j - 5248 = j by omega]
theorem exD_4 {j : Nat} (h : j < 128) : exD (5376 + j) = 0 := by
  simp only [exD, spliceF]
  rw [if_neg (by omega), if_neg (by omega), if_neg (by omega)]
theorem ptF_cong {F G : Nat → UInt8} (h : ∀ j, j < 128 → F j = G j) {i : Nat} (hi : i < 32) : ptF F i = ptF G i := by
  unfold ptF
  rw [num_congr _ _ fun j h1 h2 => h j (by omega)]
theorem ex_30 (b : Nat) {i : Nat} (hi : i < 32) : tbF (exS b) 30 i = exP1 i := by
  rw [exS_tbF b (by omega) (by omega)]
  exact (ptF_cong (fun j hj => exD_1 hj) hi).trans (ptF_psK bd1 hi)
theorem ex_40 (b : Nat) {i : Nat} (hi : i < 32) : tbF (exS b) 40 i = exP2 i := by
  rw [exS_tbF b (by omega) (by omega)]
  exact (ptF_cong (fun j hj => exD_2 hj) hi).trans (ptF_psK bd2 hi)
theorem ex_41 (b : Nat) {i : Nat} (hi : i < 32) : tbF (exS b) 41 i = exP3 i := by
  rw [exS_tbF b (by omega) (by omega)]
  exact (ptF_cong (fun j hj => exD_3 hj) hi).trans (ptF_psK bd3 hi)
theorem ex_42 (b : Nat) {i : Nat} (hi : i < 32) : tbF (exS b) 42 i = 0 := by
  rw [exS_tbF b (by omega) (by omega)]
  refine (ptF_cong (G := fun _ => 0) (fun j hj => exD_4 hj) hi).trans ?_
  unfold ptF
  have : ∀ n a, num (fun _ => 0) a n = 0 := fun n a => by
    induction n with
    | zero => rfl
    | succ n ih => rw [num_snoc, ih]; rfl
  rw [this]; rfl
def exT (n : Int) : Nat → Int := if n = 41 then exP3 else fun _ => 0
theorem ex_tab (b : Nat) {i j : Nat} (hi : i < 32) (hj : j < 32) : tbF (exS b) (exP2 i) j = exT (exP2 i) j := by
  unfold exP2 exT
  by_cases h0 : i = 0
  · rw [if_pos h0, if_pos rfl]; exact ex_41 b hj
  · rw [if_neg h0]
    by_cases h1 : i = 31
    · rw [if_pos h1, if_neg (by omega)]; exact ex_42 b hj
    · rw [if_neg h1, if_neg (by omega)]; rfl
def exF (k : Nat) : Int := if k < 12 then exX (4 + k) else if k < 44 then exP1 (k - 12) else exT (exP2 ((k - 44) / 32)) ((k - 44) % 32)
theorem exP2_bd (i : Nat) : 0 ≤ exP2 i ∧ exP2 i < 64 := by unfold exP2; split; omega; split <;> omega
theorem ex_fnE (b k : Nat) (hk : k < 1068) : fnE (exS b) exX k = 0 := by
  unfold fnE
  have e1 : tbE (exS b) (exX 16) = 0 := exS_tbE b (n := 30) (by omega) (by omega)
  have e2 : tbE (exS b) (exX 17) = 0 := exS_tbE b (n := 40) (by omega) (by omega)
  split
  · rfl
  · split
    · exact e1
    · rw [if_neg (by rw [e2]; simp), show exX 17 = 40 from rfl, ex_40 b (by omega)]
      exact exS_tbE b (exP2_bd _).1 (exP2_bd _).2
theorem ex_fnF (b k : Nat) (hk : k < 1068) : fnF (exS b) exX k = exF k := by
  unfold fnF exF
  have e2 : tbE (exS b) (exX 17) = 0 := exS_tbE b (n := 40) (by omega) (by omega)
  split
  · rfl
  · split
    · exact ex_30 b (by omega)
    · rw [if_neg (by rw [e2]; simp), show exX 17 = 40 from rfl, ex_40 b (by omega)]
      exact ex_tab b (by omega) (by omega)
end Go.Proofs.Ytdlnfdlgnbkppaa
