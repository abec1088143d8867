/- Spots: the iterator. -/
import Derived.Test.YtdlnfdlgnbkppaaJ
namespace Go.Sp
set_option linter.unusedVariables false
open Go Go.RowKit
theorem ex_indexV {P : Program} {a : Act} {o : Oper} {t e : TypeId} {x y : Operand} (w : World) (ho : o.op = .index t x y) {N : Nat} (hu : P.underlying t = some (.array N e)) (hsz : (P.info? e).map (·.size) = some 1) {d : TypeDesc} (he : P.underlying e = some d) (hd : d.isRow = false) {f : Nat → Value} (hx : a.eval x = .agg (rowOf N f)) {k : IntKind} {iv : Int} (hy : a.eval y = .int k iv)
    (j : Nat) (hj : iv = (j : Int)) (hjn : j < N) : (execOp a.eval o).run P w = .ok (.value (f j)) w := by
  subst hj
  have hagg : (isAgg e).run P w = .ok false w := by
    unfold isAgg
    rw [Sem.run_bind, run_underlying he w]
    cases d <;> simp_all
  cases hq : P.info? e with
  | none => simp [hq] at hsz
  | some i =>
    have hi : i.size = 1 := by simpa [hq] using hsz
    have h1 : (0 : Int) ≤ (j : Int) ∧ (j : Int) < (N : Int) := by omega
    unfold execOp
    simp [ho, hx, hy, Instr.index, asIntOf, run_underlying hu, h1, sizeOf, typeInfo, hq, hi, part, hagg, hjn]
    exact (Array.getElem?_eq_some_iff.1 (rowOf_get hjn)).2
theorem at_idx {P : Program} {w : World} {ops : Array Oper} {Q : Exit → Act → World → Prop} {a : Act} {o : Oper} {rest : List Oper} {t : TypeId} {x y : Operand} (_ : o.op = .index t x y) (h : wpList P ops Q (o :: rest) a w) : wpList P ops Q (o :: rest) a w := h
theorem wl_indexV {P : Program} {w : World} {ops : Array Oper} {Q : Exit → Act → World → Prop} {a : Act} {o : Oper} {rest : List Oper} {t e : TypeId} {x y : Operand} (hw : Region.wanted o (yielded ops a.tmps) = true) (ho : o.op = .index t x y) {N : Nat} (hu : P.underlying t = some (.array N e)) (hsz : (P.info? e).map (·.size) = some 1) {d : TypeDesc} (he : P.underlying e = some d) (hd : d.isRow = false) {f : Nat → Value} (hx : a.eval x = .agg (rowOf N f)) {k : IntKind} {iv : Int} (hy : a.eval y = .int k iv)
    (j : Nat) (hj : iv = (j : Int)) (hjn : j < N) (kk : wpList P ops Q rest (a.put o.dst (f j)) w) : wpList P ops Q (o :: rest) a w := wl_run hw (ex_indexV w ho hu hsz he hd hx hy j hj hjn) kk
end Go.Sp
namespace Go.Proofs.Ytdlnfdlgnbkppaa
set_option linter.unusedVariables false
set_option linter.unusedSimpArgs false
open Go Go.Sp Go.RowKit

/-- The error behind k of the double table's tables, and the list: of the program. -/
def esK (s : Src) (T : Nat → Int) (e0 : Int) : Nat → Int
  | 0 => e0
  | k + 1 => seE s (esK s T e0 k) (T k)
def plK (s : Src) (T : Nat → Int) (e0 : Int) (L0 : List (Int × Int)) : Nat → List (Int × Int)
  | 0 => L0
  | k + 1 => plK s T e0 L0 k ++ nzS (44 + 32 * (k : Int)) (seF s (esK s T e0 k) (T k)) 32
theorem plK_len (s : Src) (T : Nat → Int) (e0 : Int) {L0 : List (Int × Int)} (h : L0.length ≤ 44) : ∀ k, (plK s T e0 L0 k).length ≤ 44 + 32 * k
  | 0 => h
  | k + 1 => by
    have := plK_len s T e0 h k
    have := nzS_len (44 + 32 * (k : Int)) (seF s (esK s T e0 k) (T k)) 32
    simp only [plK, List.length_append]; omega
set_option maxRecDepth 20000 in
set_option maxHeartbeats 2000000 in
theorem iter_core (s : Src) (X T1 T : Nat → Int) (E1 E2 : Int) (SF : Int → Int → Nat → Int) (mb l eb b5 b3 b4 : Nat) (J : List (Int × Int) → List Res → Prop) (ES : Nat → Int) (PL : Nat → List (Int × Int)) (w0 w : World) (L : List Res) (h : Rdr s mb w0) (hY : Yc l J w0) (hJ : J [] L)
    (HE1 : Hid (seE s 0 (X 16) = E1)) (HT1 : Hid (seF s 0 (X 16) = T1)) (HE2 : Hid (seE s E1 (X 17) = E2)) (HT2 : Hid (seF s E1 (X 17) = T)) (HES0 : Hid (ES 0 = E2)) (HES : Hid (∀ k, ES (k + 1) = seE s (ES k) (T k)))
    (HPL0 : Hid (PL 0 = nzS 0 (fun i => X (4 + i)) 12 ++ nzS 12 T1 32)) (HPL : Hid (∀ k, PL (k + 1) = PL k ++ nzS (44 + 32 * (k : Int)) (seF s (ES k) (T k)) 32)) (HLEN : Hid (∀ k, (PL k).length ≤ 44 + 32 * k))
    (hs : Tr w0 [] w (Res.blk eb #[.int .i64 0] 23 :: Res.blk b5 #[.pointer (some ⟨eb, 0, none⟩)] 76 :: Res.blk b3 #[.iface 37 (.pointer (some ⟨mb, 0, none⟩))] 67 :: Res.blk b4 (rowOf 18 (gI X)) 29 :: L)) :
    Calls Try.prog 35 #[.func (.yield l) #[] #[], .pointer (some ⟨b5, 0, none⟩), .pointer (some ⟨b3, 0, none⟩), .pointer (some ⟨b4, 0, none⟩)] w fun e w' => e = .returned (.tuple #[]) ∧ ∃ L', J (PL 32) L' ∧
      Tr w0 [] w' (Res.blk eb #[.int .i64 (ES 32)] 23 :: Res.blk b5 #[.pointer (some ⟨eb, 0, none⟩)] 76 :: Res.blk b3 #[.iface 37 (.pointer (some ⟨mb, 0, none⟩))] 67 :: Res.blk b4 (rowOf 18 (gI X)) 29 :: L') := by
  have H := Lib.hid h
  have HY := Lib.hid hY
  have HJ := Lib.hid hJ
  have hmf : ∀ (fn : Fn) (first cap : Array Value) (w : World), (Instr.makeFunc fn first cap).run Try.prog w = .ok (.func fn first cap) w := fun _ _ _ _ => rfl
  clear h hY hJ
  go_enter Try.func35, Try.ntmps35
  go_upto_region 1 with (first | ((with_reducible refine (at_box (t := 88)) rfl ?_); refine wl_box1 hs rfl rfl rfl rfl ?_; clear hs; intro w1 yb hs))
  have hs3 : Tr w0 [] w1 (Res.blk eb #[.int .i64 0] 23 :: Res.blk b5 #[.pointer (some ⟨eb, 0, none⟩)] 76 :: Res.blk b3 #[.iface 37 (.pointer (some ⟨mb, 0, none⟩))] 67 :: Res.blk b4 (rowOf 18 (gI X)) 29 :: Res.blk yb #[.func (.yield l) #[] #[]] 88 :: L) := hs.perm (List.Perm.append_right L (List.perm_append_comm (l₁ := [Res.blk yb #[.func (.yield l) #[] #[]] 88]) (l₂ := [Res.blk eb #[.int .i64 0] 23, Res.blk b5 #[.pointer (some ⟨eb, 0, none⟩)] 76, Res.blk b3 #[.iface 37 (.pointer (some ⟨mb, 0, none⟩))] 67, Res.blk b4 (rowOf 18 (gI X)) 29])))
  clear hs; have hs := hs3; clear hs3
  go_upto_region 4 with (first | ((with_reducible refine (at_load (t := 3)) rfl ?_); refine wl_load1 hs rfl rfl Try.underlying3 rfl rfl 3 rfl (rowOf_gI (by omega)) ?_) | (go_at_call 37; refine (read_any s (X 16) 0 mb eb b5 b3 w0 _ _ H.out hs).mono ?_; rw [HE1.out, HT1.out]; rintro e w2 ⟨rfl, hc⟩; clear hs; have hs := hc; clear hc) | ((with_reducible refine (at_alloc (t := 69)) rfl ?_); refine wl_allocA hs rfl rfl zero69 ?_; clear hs; intro w1 tb hs) | ((with_reducible refine (at_store (t := 69)) rfl ?_); refine wl_storeA hs rfl rfl rfl rfl (size69 _) (oneI 32 _) 0 rfl (by simp only [rowOf_size]) ?_; clear hs; intro w1 hs))
  have hs3 : Tr w0 [] w1 ([Res.blk tb (rowOf 32 (gI T1)) 69,Res.blk eb #[.int .i64 E1] 23, Res.blk b5 #[.pointer (some ⟨eb, 0, none⟩)] 76, Res.blk b3 #[.iface 37 (.pointer (some ⟨mb, 0, none⟩))] 67, Res.blk b4 (rowOf 18 (gI X)) 29, Res.blk yb #[.func (.yield l) #[] #[]] 88] ++ L) := hs
  clear hs; have hs := hs3; clear hs3
  have hl0 := nzS_len 0 (fun i => X (4 + i)) 12
  go_upto_region 5 with (first
    | ((with_reducible refine (at_slice (t := 27) (lo := none) (hi := none) (mx := none)) rfl ?_); refine wl_sliceA0 rfl rfl Try.underlying27 size3 rfl ?_)
    | ((with_reducible refine (at_slice (t := 69) (lo := none) (hi := none) (mx := none)) rfl ?_); refine wl_sliceA0 rfl rfl Try.underlying69 size3 rfl ?_)
    | (go_at_call_of 36 (Value.int .i64 0); refine (row_any l yb b4 4 18 12 12 29 X (fun i => X (4 + i)) 0 J [] w0 _ _ L HY.out hs HJ.out (by simp) (by simp) (by omega) (fun i _ => rfl) (by omega) (by omega) (by simp)).mono ?_; rintro e w2 ⟨rfl, L1, hJ1, hc⟩; clear hs HJ; have hs := hc; clear hc; have HJ1 := Lib.hid hJ1; clear hJ1)
    | (go_at_call_of 36 (Value.int .i64 12); refine (row_any l yb tb 0 32 32 32 69 T1 T1 12 J ([] ++ nzS 0 (fun i => X (4 + i)) 12) w0 _ _ L1 HY.out hs HJ1.out (by simp) (by simp) (by omega) (fun i _ => by rw [Nat.zero_add]) (by omega) (by omega) (by simp; omega)).mono ?_; rintro e w2 ⟨rfl, L2, hJ2, hc⟩; clear hs HJ1; have hs := hc; clear hc; have HJ2 := Lib.hid hJ2; clear hJ2))
  have hs3 : Tr w0 [] w2 (Res.blk eb #[.int .i64 E1] 23 :: Res.blk b5 #[.pointer (some ⟨eb, 0, none⟩)] 76 :: Res.blk b3 #[.iface 37 (.pointer (some ⟨mb, 0, none⟩))] 67 :: Res.blk b4 (rowOf 18 (gI X)) 29 :: Res.blk yb #[.func (.yield l) #[] #[]] 88 :: L2) := hs.erase 0
  clear hs; have hs := hs3; clear hs3
  have HJ : Hid (J (PL 0) L2) := Lib.hid (by rw [HPL0.out]; have := HJ2.out; rwa [List.nil_append] at this)
  clear HJ2 HPL0
  go_upto_region 6 with (first | ((with_reducible refine (at_load (t := 3)) rfl ?_); refine wl_load1 hs rfl rfl Try.underlying3 rfl rfl 3 rfl (rowOf_gI (by omega)) ?_) | (go_at_call 37; refine (read_any s (X 17) E1 mb eb b5 b3 w0 _ _ H.out hs).mono ?_; rw [HE2.out, HT2.out]; rintro e w2 ⟨rfl, hc⟩; clear hs; have hs := hc; clear hc))
  rw [← HES0.out] at hs
  clear HE1 HT1 HE2 HT2 HES0
  go_loopw [32] (fun i wr => ∃ (k : Nat) (L' : List Res), k ≤ 32 ∧ i = .int .i64 k ∧ J (PL k) L' ∧ Tr w0 [] wr (Res.blk eb #[.int .i64 (ES k)] 23 :: Res.blk b5 #[.pointer (some ⟨eb, 0, none⟩)] 76 :: Res.blk b3 #[.iface 37 (.pointer (some ⟨mb, 0, none⟩))] 67 :: Res.blk b4 (rowOf 18 (gI X)) 29 :: Res.blk yb #[.func (.yield l) #[] #[]] 88 :: L')) (fun i _ => 32 - (intOf i).toNat)
  case atStart => exact ⟨0, L2, by omega, rfl, HJ.out, hs⟩
  case round =>
    clear hs HJ
    obtain ⟨k, L', hk, rfl, hJ, hs⟩ := hrel
    have HJ := Lib.hid hJ
    clear hJ
    by_cases hlt : k < 32
    · have hltI : (k : Int) < 32 := by omega
      have HPk := Lib.hid (HPL.out k)
      have HEk := Lib.hid (HES.out k)
      have hlk := HLEN.out k
      have HRD := Lib.hid (fun w F hs => read_any s (T k) (ES k) mb eb b5 b3 w0 w F H.out hs)
      generalize seE s (ES k) (T k) = Ek at *
      generalize seF s (ES k) (T k) = Uk at *
      go_upto_region 9 with (first | ((with_reducible refine at_idx rfl ?_); refine wl_indexV rfl rfl Try.underlying69 size3 Try.underlying3 rfl rfl rfl k rfl hlt ?_) | (go_at_call 37; refine (HRD.out _ _ hs).mono ?_; rintro e w2 ⟨rfl, hc⟩; clear hs; have hs := hc; clear hc) | ((with_reducible refine (at_alloc (t := 69)) rfl ?_); refine wl_allocA hs rfl rfl zero69 ?_; clear hs; intro w1 ub hs) | ((with_reducible refine (at_store (t := 69)) rfl ?_); refine wl_storeA hs rfl rfl rfl rfl (size69 _) (oneI 32 _) 0 rfl (by simp only [rowOf_size]) ?_; clear hs; intro w1 hs))
      have hs3 : Tr w0 [] w1 ([Res.blk ub (rowOf 32 (gI Uk)) 69,Res.blk eb #[.int .i64 Ek] 23, Res.blk b5 #[.pointer (some ⟨eb, 0, none⟩)] 76, Res.blk b3 #[.iface 37 (.pointer (some ⟨mb, 0, none⟩))] 67, Res.blk b4 (rowOf 18 (gI X)) 29, Res.blk yb #[.func (.yield l) #[] #[]] 88] ++ L') := hs
      clear hs; have hs := hs3; clear hs3
      go_wp2_with (first
        | ((with_reducible refine (at_slice (t := 69) (lo := none) (hi := none) (mx := none)) rfl ?_); refine wl_sliceA0 rfl rfl Try.underlying69 size3 rfl ?_)
        | (go_at_call 36; refine (row_any l yb ub 0 32 32 32 69 Uk Uk (12 + 32 * (1 + (k : Int))) J (PL k) w0 _ _ L' HY.out hs HJ.out (by simp) (by simp) (by omega) (fun i _ => by rw [Nat.zero_add]) (by omega) (by omega) (by omega)).mono ?_; rintro e w2 ⟨rfl, L2, hJ2, hc⟩; clear hs HJ; have hs := hc; clear hc; have HJ := Lib.hid hJ2; clear hJ2))
      go_roundw
      case rel => exact ⟨k + 1, L2, by omega, by go_num, by rw [HPk.out]; have := HJ.out; rwa [show (12 + 32 * (1 + (k : Int))) = 44 + 32 * k by omega] at this, by rw [HEk.out]; exact hs.erase 0⟩
      case measure => simp [intOf]; omega
    · obtain rfl : k = 32 := by omega
      go_wp2_with fail
      exact bodyPost_end (results_none rfl _ _ _) rfl ⟨rfl, L', HJ.out, hs.erase 4⟩
end Go.Proofs.Ytdlnfdlgnbkppaa
