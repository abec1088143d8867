/- Spots: what reads a table behind an error. -/
import Derived.Test.YtdlnfdlgnbkppaaH
namespace Go.Sp
set_option linter.unusedVariables false
open Go Go.RowKit
theorem wt_store1 {P : Program} {l : List Oper} {Q : Exit → Act → World → Prop} {a a' : Act} {w : World} {o : Oper} {t : TypeId} {x y : Operand} {i : Nat} {K : Act → World → Prop} {w0 : World} {S : List Nat} {L : List Res}
    (hs : Tr w0 S w L) (hi : l[i]? = some o) (hw : Region.wanted o (yielded l.toArray a.tmps) = true) (ho : o.op = .store t x y) (hn : (P.info? t).map (·.size) = some 1) {b off : Nat} (hx : a.eval x = .pointer (some ⟨b, off, none⟩)) {v : Value} (hy : a.eval y = v) (h1 : v.oneCell' = true)
    (j : Nat) {cs : Array Value} {bt : TypeId} (hj : L[j]? = some (Res.blk b cs bt)) (hoff : off < cs.size)
    (ha : a.put o.dst undef = a') (k : ∀ w', Tr w0 S w' (L.set j (Res.blk b (cs.setIfInBounds off v) bt)) → K a' w') : wpOp P l.toArray Q i K a w :=
  wt_skip hi hw (ex_store1 ho hn hx hy h1 (hs.getB j hj) hoff) ha (k _ (hs.updB0 j hj _))
end Go.Sp
namespace Go.Proofs.Ytdlnfdlgnbkppaa
set_option linter.unusedVariables false
set_option linter.unusedSimpArgs false
open Go Go.Sp Go.RowKit
theorem size23 : (Try.prog.info? 23).map (·.size) = some 1 := by kernel_rfl
/-- Behind an error there is nothing. -/
def seE (s : Src) (e n : Int) : Int := if e = 0 then tbE s n else e
def seF (s : Src) (e n : Int) : Nat → Int := if e = 0 then tbF s n else fun _ => 0
set_option maxRecDepth 20000 in
theorem read_any (s : Src) (n e : Int) (mb eb b5 b3 : Nat) (w0 w : World) (F : List Res) (h : Rdr s mb w0)
    (hs : Tr w0 [] w (Res.blk eb #[.int .i64 e] 23 :: Res.blk b5 #[.pointer (some ⟨eb, 0, none⟩)] 76 :: Res.blk b3 #[.iface 37 (.pointer (some ⟨mb, 0, none⟩))] 67 :: F)) :
    Calls Try.prog 37 #[.int .i64 n, .pointer (some ⟨b5, 0, none⟩), .pointer (some ⟨b3, 0, none⟩)] w fun r w' => r = .returned (.agg (rowOf 32 (gI (seF s e n)))) ∧
      Tr w0 [] w' (Res.blk eb #[.int .i64 (seE s e n)] 23 :: Res.blk b5 #[.pointer (some ⟨eb, 0, none⟩)] 76 :: Res.blk b3 #[.iface 37 (.pointer (some ⟨mb, 0, none⟩))] 67 :: F) := by
  have H := Lib.hid h
  clear h
  by_cases he : e = 0
  · rw [show seE s e n = tbE s n from if_pos he, show seF s e n = tbF s n from if_pos he]
    subst he
    have HT := Lib.hid (fun w h => table_any s mb n w h)
    generalize tbF s n = T at *
    generalize tbE s n = E at *
    go_enter Try.func37, Try.ntmps37
    go_upto_region 2 with (first | ((with_reducible refine (at_alloc (t := 69)) rfl ?_); refine wl_allocA hs rfl rfl zero69 ?_; clear hs; intro w1 rb hs) | ((with_reducible refine at_load rfl ?_); refine wl_load1 hs rfl rfl Try.underlying76 rfl rfl 2 rfl rfl ?_) | ((with_reducible refine at_load rfl ?_); refine wl_load1 hs rfl rfl Try.underlying23 rfl rfl 1 rfl rfl ?_))
    refine wt_enterS (List.Sublist.cons _ (List.Sublist.cons _ (List.Sublist.refl _))) 10 rfl hs (by kernel_rfl) ?_
    clear hs; intro w1 hC hs
    refine wt_take 0 rfl (by kernel_rfl) (by kernel_rfl) (by kernel_rfl) (fun _ _ _ _ h => h) rfl hC ⟨_, fun w hw => ex_load1 rfl Try.underlying76 rfl rfl (by rw [cell_of_row w _ _ _ _ (0, 0) (hw.getB 0 rfl)]; rfl), fun a1 ha => ?_⟩
    simp only [Act.put, List.setIfInBounds_toArray, List.set_cons_succ, List.set_cons_zero] at ha; subst ha
    refine wt_take 1 rfl (by kernel_rfl) (by kernel_rfl) (by kernel_rfl) (fun _ _ _ _ h => h) rfl hC ⟨_, fun w hw => ex_load1 rfl Try.underlying67 rfl rfl (by rw [cell_of_row w _ _ _ _ (0, 0) (hw.getB 1 rfl)]; rfl), fun a1 ha => ?_⟩
    simp only [Act.put, List.setIfInBounds_toArray, List.set_cons_succ, List.set_cons_zero] at ha; subst ha
    refine wt_take 2 rfl (by kernel_rfl) (by kernel_rfl) (by kernel_rfl) (fun _ _ _ _ h => h) rfl hC ⟨_, fun w hw => by (go_simp; try with_reducible rfl), fun a1 ha => ?_⟩
    simp only [Act.put, List.setIfInBounds_toArray, List.set_cons_succ, List.set_cons_zero] at ha; subst ha
    refine wt_one 3 (by kernel_rfl) ?_
    refine wt_call0 hs rfl rfl (by go_simp) (HT.out _ (H.out.keep hs)) (by simp only [Act.put, List.setIfInBounds_toArray, List.set_cons_succ, List.set_cons_zero]; rfl) ?_
    clear hs; intro w1 hs
    refine wt_and (hs.sub (by repeat (first | exact List.Sublist.refl _ | refine List.Sublist.cons_cons _ ?_ | refine List.Sublist.cons _ ?_))) fun hC => ?_
    refine wt_take 4 rfl (by kernel_rfl) (by kernel_rfl) (by kernel_rfl) (fun _ _ _ _ h => h) rfl hC ⟨_, fun w hw => by (go_simp; try with_reducible rfl), fun a1 ha => ?_⟩
    simp only [Act.put, List.setIfInBounds_toArray, List.set_cons_succ, List.set_cons_zero] at ha; subst ha
    refine wt_take 5 rfl (by kernel_rfl) (by kernel_rfl) (by kernel_rfl) (fun _ _ _ _ h => h) rfl hC ⟨_, fun w hw => by (go_simp; try with_reducible rfl), fun a1 ha => ?_⟩
    simp only [Act.put, List.setIfInBounds_toArray, List.set_cons_succ, List.set_cons_zero] at ha; subst ha
    refine wt_take 6 rfl (by kernel_rfl) (by kernel_rfl) (by kernel_rfl) (fun _ _ _ _ h => h) rfl hC ⟨_, fun w hw => by (go_simp; try with_reducible rfl), fun a1 ha => ?_⟩
    simp only [Act.put, List.setIfInBounds_toArray, List.set_cons_succ, List.set_cons_zero] at ha; subst ha
    refine wt_one 7 (by kernel_rfl) ?_
    refine wt_storeA hs rfl rfl rfl rfl rfl (size69 _) (oneI 32 _) 0 rfl (by simp only [rowOf_size]) (by simp only [Act.put, List.setIfInBounds_toArray, List.set_cons_succ, List.set_cons_zero]; rfl) ?_
    clear hs; intro w1 hs
    refine wt_and (hs.sub (by repeat (first | exact List.Sublist.refl _ | refine List.Sublist.cons_cons _ ?_ | refine List.Sublist.cons _ ?_))) fun hC => ?_
    refine wt_take 8 rfl (by kernel_rfl) (by kernel_rfl) (by kernel_rfl) (fun _ _ _ _ h => h) rfl hC ⟨_, fun w hw => by (go_simp; try with_reducible rfl), fun a1 ha => ?_⟩
    simp only [Act.put, List.setIfInBounds_toArray, List.set_cons_succ, List.set_cons_zero] at ha; subst ha
    refine wt_one 9 (by kernel_rfl) ?_
    refine wt_store1 hs rfl rfl rfl size23 rfl rfl rfl 1 rfl (of_decide_eq_true rfl) (by simp only [Act.put, List.setIfInBounds_toArray, List.set_cons_succ, List.set_cons_zero]; rfl) ?_
    clear hs; intro w1 hs
    refine wt_and (hs.sub (by repeat (first | exact List.Sublist.refl _ | refine List.Sublist.cons_cons _ ?_ | refine List.Sublist.cons _ ?_))) fun hC => ?_
    refine wt_done (by kernel_rfl) ?_
    skip
    clear hC
    go_wp2_with (first | ((with_reducible refine (at_load (t := 69)) rfl ?_); refine wl_loadA hs rfl rfl Try.underlying69 rfl rfl 0 rfl (size69 _) ?_) | ((with_reducible refine (at_store (t := 69)) rfl ?_); refine wl_storeA hs rfl rfl rfl rfl (size69 _) (oneI 32 _) 0 rfl (by simp only [rowOf_size]) ?_; clear hs; intro w1 hs))
    exact ret_cell hs rfl rfl Try.underlying69 rfl rfl 0 rfl (size69 _) ⟨rfl, hs.erase 0⟩
  · rw [show seE s e n = e from if_neg he, show seF s e n = fun _ => 0 from if_neg he]
    have te : (e == 0) = false := by rw [beq_eq_false_iff_ne]; exact he
    clear he
    go_enter Try.func37, Try.ntmps37
    go_wp2_with (first | ((with_reducible refine (at_alloc (t := 69)) rfl ?_); refine wl_allocA hs rfl rfl zero69 ?_; clear hs; intro w1 rb hs) | ((with_reducible refine at_load rfl ?_); refine wl_load1 hs rfl rfl Try.underlying76 rfl rfl 2 rfl rfl ?_) | ((with_reducible refine at_load rfl ?_); refine wl_load1 hs rfl rfl Try.underlying23 rfl rfl 1 rfl rfl ?_) | ((with_reducible refine (at_load (t := 69)) rfl ?_); refine wl_loadA hs rfl rfl Try.underlying69 rfl rfl 0 rfl (size69 _) ?_) | ((with_reducible refine (at_store (t := 69)) rfl ?_); refine wl_storeA hs rfl rfl rfl rfl (size69 _) (oneI 32 _) 0 rfl (by simp only [rowOf_size]) ?_; clear hs; intro w1 hs))
    exact ret_cell hs rfl rfl Try.underlying69 rfl rfl 0 rfl (size69 _) ⟨rfl, hs.erase 0⟩
end Go.Proofs.Ytdlnfdlgnbkppaa
