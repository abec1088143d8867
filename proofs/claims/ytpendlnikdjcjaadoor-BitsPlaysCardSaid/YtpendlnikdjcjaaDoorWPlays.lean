/- BitsPlays: the walk. -/
import Derived.Test.YtpendlnikdjcjaaDoorE
import Derived.Test.YtpendlnikdjcjaaDoorMo
namespace Go.Proofs.YtpendlnikdjcjaaDoor
set_option linter.unusedVariables false
set_option linter.unusedSimpArgs false
open Go Go.Sp Go.RowKit Go.BigFrame

/-- What came in: numbers, three each. -/
def Ops3 (w : World) (db doff n : Nat) (A B C : Nat → Int) : Prop :=
  ∀ i, i < n → (w.cell? ⟨db, doff + i * 3, none⟩ = some (.int .i64 (A i)) ∧ w.cell? ⟨db, doff + i * 3 + 1, none⟩ = some (.int .i64 (B i)) ∧ w.cell? ⟨db, doff + i * 3 + 2, none⟩ = some (.int .i64 (C i))) ∧
    (-9223372036854775808 ≤ A i ∧ A i ≤ 9223372036854775807) ∧ (-9223372036854775808 ≤ B i ∧ B i ≤ 9223372036854775807) ∧ (-9223372036854775808 ≤ C i ∧ C i ≤ 9223372036854775807)

def ptrs (D : Nat → Nat) : Nat → Value := fun j => .pointer (some ⟨D j, 0, none⟩)
def two {α : Type} (a b : α) : Nat → α := fun j => if j = 0 then a else b
@[reducible] noncomputable def prs (D S E T N : Nat → Nat) (F : Nat → Nat → Bool) (k : Nat) : List Res := [bitsR (D k) (S k) (N k) (F k), refR (E k) (T k) (N k) (F k)]
@[reducible] noncomputable def ars (sz bA rA : Nat) (D E N : Nat → Nat) : List Res :=
  [Res.blk sz (rowOf 2 fun j => .int .i64 (N j)) 44, Res.blk bA (rowOf 2 (ptrs D)) 45, Res.blk rA (rowOf 2 (ptrs E)) 46]
def setF (F : Nat → Nat → Bool) (k : Nat) (g : Nat → Bool) : Nat → Nat → Bool := fun j => if j = k then g else F j

theorem pick2 {w0 w : World} {S0 : List Nat} {sz bA rA : Nat} {D S E T N : Nat → Nat} {F : Nat → Nat → Bool} (k : Nat) (hk : k < 2) (h : Tr w0 S0 w (prs D S E T N F 0 ++ prs D S E T N F 1 ++ ars sz bA rA D E N)) :
    Tr w0 S0 w [bitsR (D k) (S k) (N k) (F k), refR (E k) (T k) (N k) (F k), bitsR (D (1 - k)) (S (1 - k)) (N (1 - k)) (F (1 - k)), refR (E (1 - k)) (T (1 - k)) (N (1 - k)) (F (1 - k)), Res.blk sz (rowOf 2 fun j => .int .i64 (N j)) 44, Res.blk bA (rowOf 2 (ptrs D)) 45, Res.blk rA (rowOf 2 (ptrs E)) 46] := by
  rcases (by omega : k = 0 ∨ k = 1) with rfl | rfl
  · exact h
  · exact h.perm (List.Perm.append (List.perm_append_comm (l₁ := prs D S E T N F 0) (l₂ := prs D S E T N F 1)) (List.Perm.refl (ars sz bA rA D E N)))
theorem unpick2 {w0 w : World} {S0 : List Nat} {sz bA rA : Nat} {D S E T N : Nat → Nat} {F : Nat → Nat → Bool} (k : Nat) (hk : k < 2) {g : Nat → Bool}
    (h : Tr w0 S0 w [bitsR (D k) (S k) (N k) g, refR (E k) (T k) (N k) g, bitsR (D (1 - k)) (S (1 - k)) (N (1 - k)) (F (1 - k)), refR (E (1 - k)) (T (1 - k)) (N (1 - k)) (F (1 - k)), Res.blk sz (rowOf 2 fun j => .int .i64 (N j)) 44, Res.blk bA (rowOf 2 (ptrs D)) 45, Res.blk rA (rowOf 2 (ptrs E)) 46]) :
    Tr w0 S0 w (prs D S E T N (setF F k g) 0 ++ prs D S E T N (setF F k g) 1 ++ ars sz bA rA D E N) := by
  rcases (by omega : k = 0 ∨ k = 1) with rfl | rfl
  · exact h
  · have e : Tr w0 S0 w (prs D S E T N (setF F 1 g) 1 ++ prs D S E T N (setF F 1 g) 0 ++ ars sz bA rA D E N) := h
    exact e.perm (List.Perm.append (List.perm_append_comm (l₁ := prs D S E T N (setF F 1 g) 1) (l₂ := prs D S E T N (setF F 1 g) 0)) (List.Perm.refl (ars sz bA rA D E N)))
theorem setF_same (F : Nat → Nat → Bool) (k : Nat) : setF F k (F k) = F := by
  funext j; simp only [setF]; split
  · rename_i h; rw [h]
  · rfl
theorem setF_far {F : Nat → Nat → Bool} {N : Nat → Nat} {k : Nat} {g : Nat → Bool} (h : ∀ q j, N q ≤ j → F q j = false) (hg : ∀ j, N k ≤ j → g j = false) : ∀ q j, N q ≤ j → setF F k g q j = false := by
  intro q j hj
  simp only [setF]
  split
  · rename_i e; subst e; exact hg j hj
  · exact h q j hj

theorem zero44 : (Tryd.prog.info? 44).map (·.zero) = some (some (.agg #[.int .i64 0, .int .i64 0])) := by kernel_rfl
theorem zero45 : (Tryd.prog.info? 45).map (·.zero) = some (some (.agg #[.pointer none, .pointer none])) := by kernel_rfl
theorem zero46 : (Tryd.prog.info? 46).map (·.zero) = some (some (.agg #[.pointer none, .pointer none])) := by kernel_rfl
theorem zero48 : (Tryd.prog.info? 48).map (·.zero) = some (some (.agg #[.int .i64 0, .int .i64 0, .int .i64 0])) := by kernel_rfl
theorem size44 : (Tryd.prog.info? 44).map (·.size) = some 2 := by kernel_rfl
theorem size48 : (Tryd.prog.info? 48).map (·.size) = some 3 := by kernel_rfl
theorem size3 : (Tryd.prog.info? 3).map (·.size) = some 1 := by kernel_rfl
theorem size23 : (Tryd.prog.info? 23).map (·.size) = some 1 := by kernel_rfl
theorem size27 : (Tryd.prog.info? 27).map (·.size) = some 1 := by kernel_rfl

/-- The beginning: k of the two are made. -/
def Begun (w : World) (sz bA rA n0 n1 : Nat) (k : Nat) (wr : World) : Prop :=
  (k = 0 ∧ Tr w [] wr [Res.blk rA #[.pointer none, .pointer none] 46, Res.blk bA #[.pointer none, .pointer none] 45, Res.blk sz #[.int .i64 n0, .int .i64 n1] 44]) ∨
  (k = 1 ∧ ∃ d s e t, Tr w [] wr [refR e t n0 fun _ => false, bitsR d s n0 fun _ => false, Res.blk rA #[.pointer (some ⟨e, 0, none⟩), .pointer none] 46, Res.blk bA #[.pointer (some ⟨d, 0, none⟩), .pointer none] 45, Res.blk sz #[.int .i64 n0, .int .i64 n1] 44]) ∨
  (k = 2 ∧ ∃ d s e t d2 s2 e2 t2, Tr w [] wr [refR e2 t2 n1 fun _ => false, bitsR d2 s2 n1 fun _ => false, refR e t n0 fun _ => false, bitsR d s n0 fun _ => false, Res.blk rA #[.pointer (some ⟨e, 0, none⟩), .pointer (some ⟨e2, 0, none⟩)] 46, Res.blk bA #[.pointer (some ⟨d, 0, none⟩), .pointer (some ⟨d2, 0, none⟩)] 45, Res.blk sz #[.int .i64 n0, .int .i64 n1] 44])
theorem row_two (a b : Value) : (#[a, b] : Array Value) = rowOf 2 (two a b) := by
  refine rowOf_ext rfl fun i hi => ?_
  match i, hi with
  | 0, _ => rfl
  | 1, _ => rfl
theorem begun_ok {w wr : World} {sz bA rA n0 n1 : Nat} (h : Begun w sz bA rA n0 n1 2 wr) : ∃ D S E T : Nat → Nat,
    Tr w [] wr (prs D S E T (two n0 n1) (fun _ _ => false) 0 ++ prs D S E T (two n0 n1) (fun _ _ => false) 1 ++ ars sz bA rA D E (two n0 n1)) := by
  rcases h with ⟨h, _⟩ | ⟨h, _⟩ | ⟨_, d, s, e, t, d2, s2, e2, t2, hs⟩
  · omega
  · omega
  · refine ⟨two d d2, two s s2, two e e2, two t t2, ?_⟩
    have e1 : (#[.pointer (some ⟨e, 0, none⟩), .pointer (some ⟨e2, 0, none⟩)] : Array Value) = rowOf 2 (ptrs (two e e2)) := by
      rw [row_two]; exact rowOf_congr fun i hi => by simp only [two, ptrs]; split <;> rfl
    have e2 : (#[.pointer (some ⟨d, 0, none⟩), .pointer (some ⟨d2, 0, none⟩)] : Array Value) = rowOf 2 (ptrs (two d d2)) := by
      rw [row_two]; exact rowOf_congr fun i hi => by simp only [two, ptrs]; split <;> rfl
    have e3 : (#[.int .i64 n0, .int .i64 n1] : Array Value) = rowOf 2 fun j => .int .i64 ((two n0 n1 j : Nat) : Int) := by
      rw [row_two]; exact rowOf_congr fun i hi => by simp only [two]; split <;> rfl
    rw [e1, e2, e3] at hs
    have p : ∀ (a b c d x y z : Res), [a, b, c, d, x, y, z].Perm [d, c, b, a, z, y, x] := fun a b c d x y z => by
      have := List.reverse_perm [a, b, c, d]
      have h2 := List.reverse_perm [x, y, z]
      exact (this.append h2).symm
    exact hs.perm (p _ _ _ _ _ _ _)

set_option maxRecDepth 100000 in
set_option maxHeartbeats 8000000 in
theorem plays_core (x0 x1 : Int) (n0 n1 M cap : Nat) (A B C : Nat → Int) (ao : Option Addr) (db doff : Nat) (w : World) (hn0 : n0 ≤ 4096) (hn1 : n1 ≤ 4096) (hM : M ≤ 9223372036854775807)
    (hao : 0 < M → ao = some ⟨db, doff, none⟩) (hO : Ops3 w db doff M A B C)
    (P0 : Hid (∀ w, Calls Tryd.prog 16 #[.int .i64 x0, .int .i64 4097] w fun e w' => e = .returned (.int .i64 n0) ∧ w = w'))
    (P1 : Hid (∀ w, Calls Tryd.prog 16 #[.int .i64 x1, .int .i64 4097] w fun e w' => e = .returned (.int .i64 n1) ∧ w = w')) (hR : Rd w 0 0 64 tabV) :
    Calls Tryd.prog 7 #[.int .i64 x0, .int .i64 x1, .slice ao M cap] w fun e w' => e = .returned (.bool true) ∧ Tr w [] w' [] := by
  have hs := Tr.refl w []
  have HR := Lib.hid hR
  have HA := Lib.hid hao
  have HO := Lib.hid hO
  clear hR hao hO
  go_enter Tryd.func7, Tryd.ntmps7
  go_wp2_with (first
    | (go_at_call 9; refine (awake_any _ (HR.out.keep hs)).mono ?_; rintro e w2 ⟨rfl, hc⟩; replace hs := hs.call0 hc; clear hc)
    | (go_at_call_of 16 (Value.int .i64 x0); refine (P0.out _).mono ?_; rintro e w2 ⟨rfl, rfl⟩)
    | (go_at_call 16; refine (P1.out _).mono ?_; rintro e w2 ⟨rfl, rfl⟩)
    | ((with_reducible refine (at_alloc (t := 44)) rfl ?_); refine wl_allocA hs rfl rfl zero44 ?_; clear hs; intro w1 sz hs)
    | ((with_reducible refine (at_alloc (t := 45)) rfl ?_); refine wl_allocA hs rfl rfl zero45 ?_; clear hs; intro w1 bA hs)
    | ((with_reducible refine (at_alloc (t := 46)) rfl ?_); refine wl_allocA hs rfl rfl zero46 ?_; clear hs; intro w1 rA hs)
    | ((with_reducible refine at_store rfl ?_); refine wl_storeA hs rfl rfl rfl rfl size44 (by simp [Value.oneCell']) 0 rfl rfl ?_; clear hs; intro w1 hs))
  go_loopw [11] (fun i wr => ∃ k : Nat, k ≤ 2 ∧ i = .int .i64 k ∧ Begun w sz bA rA n0 n1 k wr) (fun i _ => 2 - (intOf i).toNat)
  case atStart => exact ⟨0, by omega, rfl, Or.inl ⟨rfl, hs⟩⟩
  case round =>
    clear hs
    obtain ⟨k, hk, rfl, hb⟩ := hrel
    rcases hb with ⟨rfl, hs⟩ | ⟨rfl, d, s, e, t, hs⟩ | ⟨rfl, hb⟩
    · go_wp2_with (first
        | ((with_reducible refine at_load rfl ?_); refine wl_load1 hs rfl rfl Tryd.underlying3 rfl rfl 2 rfl rfl ?_)
        | ((with_reducible refine at_load rfl ?_); refine wl_load1 hs rfl rfl Tryd.underlying3 rfl rfl 3 rfl rfl ?_)
        | (go_at_call 10; refine (new_ok n0 _ hn0).mono ?_; rintro e w2 ⟨d, s, rfl, hc⟩; replace hs := hs.call1 hc; clear hc)
        | (go_at_call 11; refine (rnew_ok n0 _ hn0).mono ?_; rintro e w2 ⟨e1, t1, rfl, hc⟩; replace hs := hs.call1 hc; clear hc)
        | ((with_reducible refine at_store rfl ?_); refine wl_store1 hs rfl rfl size23 rfl rfl rfl 3 rfl (of_decide_eq_true rfl) ?_; clear hs; intro w1 hs)
        | ((with_reducible refine at_store rfl ?_); refine wl_store1 hs rfl rfl size27 rfl rfl rfl 2 rfl (of_decide_eq_true rfl) ?_; clear hs; intro w1 hs))
      go_roundw
      case rel => exact ⟨1, by omega, by go_num, Or.inr (Or.inl ⟨rfl, _, _, _, _, hs⟩)⟩
      case measure => simp [intOf]
    · go_wp2_with (first
        | ((with_reducible refine at_load rfl ?_); refine wl_load1 hs rfl rfl Tryd.underlying3 rfl rfl 4 rfl rfl ?_)
        | ((with_reducible refine at_load rfl ?_); refine wl_load1 hs rfl rfl Tryd.underlying3 rfl rfl 5 rfl rfl ?_)
        | (go_at_call 10; refine (new_ok n1 _ hn1).mono ?_; rintro e w2 ⟨d2, s2, rfl, hc⟩; replace hs := hs.call1 hc; clear hc)
        | (go_at_call 11; refine (rnew_ok n1 _ hn1).mono ?_; rintro e w2 ⟨e2, t2, rfl, hc⟩; replace hs := hs.call1 hc; clear hc)
        | ((with_reducible refine at_store rfl ?_); refine wl_store1 hs rfl rfl size23 rfl rfl rfl 5 rfl (of_decide_eq_true rfl) ?_; clear hs; intro w1 hs)
        | ((with_reducible refine at_store rfl ?_); refine wl_store1 hs rfl rfl size27 rfl rfl rfl 4 rfl (of_decide_eq_true rfl) ?_; clear hs; intro w1 hs))
      go_roundw
      case rel => exact ⟨2, by omega, by go_num, Or.inr (Or.inr ⟨rfl, _, _, _, _, _, _, _, _, hs⟩)⟩
      case measure => simp [intOf]
    · obtain ⟨D, S, E, T, hs⟩ := begun_ok (Or.inr (Or.inr ⟨rfl, hb⟩))
      have HN : Hid (∀ q, two n0 n1 q ≤ 4096) := Lib.hid fun q => by simp only [two]; split <;> omega
      have HZ0 : Hid (∀ q j, two n0 n1 q ≤ j → (fun _ _ => false : Nat → Nat → Bool) q j = false) := Lib.hid fun _ _ _ => rfl
      generalize two n0 n1 = N at *
      generalize (fun _ _ => false : Nat → Nat → Bool) = F0 at *
      clear hb hn0 hn1 P0 P1
      rw [show ((2 : Nat) : Int) = 2 from rfl]
      go_wp2_with fail
      go_loopw [16] (fun i wr => ∃ (k : Nat) (F : Nat → Nat → Bool), k ≤ M ∧ i = .int .i64 k ∧ (∀ q j, N q ≤ j → F q j = false) ∧ Tr w [] wr (prs D S E T N F 0 ++ prs D S E T N F 1 ++ ars sz bA rA D E N)) (fun i _ => M - (intOf i).toNat)
      case atStart => exact ⟨0, F0, by omega, rfl, HZ0.out, hs⟩
      case round =>
        clear hs HZ0
        obtain ⟨k, F, hk, rfl, hz, hs⟩ := hrel
        have HZ := Lib.hid hz
        clear hz
        by_cases hlt : k < M
        · have hltI : (k : Int) < M := by omega
          obtain rfl := HA.out (by omega)
          obtain ⟨⟨q0, q1, q2⟩, _, hb, hcc⟩ := HO.out k hlt
          obtain ⟨kk, hp, hkk⟩ : ∃ kk : Nat, pick (B k) 2 = (kk : Int) ∧ kk < 2 := ⟨(pick (B k) 2).toNat, by have := pick_bd (B k) 2 (by omega); omega, by have := pick_bd (B k) 2 (by omega); omega⟩
          have HP := Lib.hid (fun w => pick_any (B k) 2 w (by omega) (by omega) hb.1 hb.2)
          rw [hp] at HP
          have Q0 := Lib.hid q0
          have Q1 := Lib.hid q1
          have Q2 := Lib.hid q2
          have hct : C k ≤ 9223372036854775807 := hcc.2
          have HNk := HN.out kk
          have HZk := Lib.hid (HZ.out kk)
          have hkI : (kk : Int) < 2 := by omega
          clear q0 q1 q2 hb hcc hp
          generalize A k = c at *
          generalize B k = bb at *
          generalize C k = pt at *
          replace hs := pick2 kk hkk hs
          by_cases c1 : c = 1
          · subst c1
            as_aux_lemma =>
              go_upto_region 22 with (first
                  | ((with_reducible refine at_load rfl ?_); refine wl_load3 rfl rfl Tryd.underlying48 rfl size48 rfl (hs.keepCell Q0.out) (hs.keepCell Q1.out) (hs.keepCell Q2.out) ?_)
                  | ((with_reducible refine (at_alloc (t := 48)) rfl ?_); refine wl_allocA hs rfl rfl zero48 ?_; clear hs; intro w1 ob hs)
                  | ((with_reducible refine at_store rfl ?_); refine wl_storeA hs rfl rfl rfl rfl size48 (by simp [Value.oneCell']) 0 rfl rfl ?_; clear hs; intro w1 hs)
                  | ((with_reducible refine at_load rfl ?_); refine wl_load1 hs rfl rfl Tryd.underlying3 rfl rfl 0 rfl rfl ?_)
                  | (go_at_call 16; refine (HP.out _).mono ?_; rintro e w2 ⟨rfl, rfl⟩))
              refine wt_enterS (List.Sublist.cons_cons _ (List.Sublist.cons _ (List.Sublist.cons _ (List.Sublist.cons _ (List.Sublist.cons _ (List.Sublist.refl _)))))) 7 rfl hs (by kernel_rfl) ?_
              clear hs; intro w1 hC hs
              refine wt_take 0 rfl (by kernel_rfl) (by kernel_rfl) (by kernel_rfl) (fun _ _ _ _ h => h) rfl hC ⟨_, fun w hw => by (go_simp; try with_reducible rfl), fun a1 ha => ?_⟩
              simp only [Act.put, List.setIfInBounds_toArray, List.set_cons_succ, List.set_cons_zero] at ha; subst ha
              refine wt_take 1 rfl (by kernel_rfl) (by kernel_rfl) (by kernel_rfl) (fun _ _ _ _ h => h) rfl hC ⟨.pointer (some ⟨bA, kk, none⟩), fun w hw => ex_indexA1 rfl Tryd.underlying45 size23 rfl rfl kk rfl hkk, fun a1 ha => ?_⟩
              simp only [Act.put, List.setIfInBounds_toArray, List.set_cons_succ, List.set_cons_zero] at ha; subst ha
              refine wt_take 2 rfl (by kernel_rfl) (by kernel_rfl) (by kernel_rfl) (fun _ _ _ _ h => h) rfl hC ⟨.pointer (some ⟨D kk, 0, none⟩), fun w hw => ex_load1 rfl Tryd.underlying23 rfl rfl (by rw [cell_of_row w _ _ _ _ (0, 0) (hw.getB 2 rfl)]; exact rowOf_get hkk), fun a1 ha => ?_⟩
              simp only [Act.put, List.setIfInBounds_toArray, List.set_cons_succ, List.set_cons_zero] at ha; subst ha
              refine wt_take 3 rfl (by kernel_rfl) (by kernel_rfl) (by kernel_rfl) (fun _ _ _ _ h => h) rfl hC ⟨_, fun w hw => by (go_simp; try with_reducible rfl), fun a1 ha => ?_⟩
              simp only [Act.put, List.setIfInBounds_toArray, List.set_cons_succ, List.set_cons_zero] at ha; subst ha
              refine wt_take 4 rfl (by kernel_rfl) (by kernel_rfl) (by kernel_rfl) (fun _ _ _ _ h => h) rfl hC ⟨_, fun w hw => ex_load1 rfl Tryd.underlying3 rfl rfl (by rw [cell_of_row w _ _ _ _ (0, 0) (hw.getB 0 rfl)]; rfl), fun a1 ha => ?_⟩
              simp only [Act.put, List.setIfInBounds_toArray, List.set_cons_succ, List.set_cons_zero] at ha; subst ha
              refine wt_one 5 (by kernel_rfl) ?_
              refine wt_callU hs rfl rfl (by go_simp) 1 rfl (set_any pt HNk (hs.get 1 rfl)) (by simp only [Act.put, List.setIfInBounds_toArray, List.set_cons_succ, List.set_cons_zero]; rfl) ?_
              clear hs; intro w1 hs
              refine wt_and (hs.sub (by repeat (first | exact List.Sublist.refl _ | refine List.Sublist.cons_cons _ ?_ | refine List.Sublist.cons _ ?_))) fun hC => ?_
              refine wt_take 6 rfl (by kernel_rfl) (by kernel_rfl) (by kernel_rfl) (fun _ _ _ _ h => h) rfl hC ⟨_, fun w hw => by (go_simp; try with_reducible rfl), fun a1 ha => ?_⟩
              simp only [Act.put, List.setIfInBounds_toArray, List.set_cons_succ, List.set_cons_zero] at ha; subst ha
              refine wt_done (by kernel_rfl) ?_
              skip
              go_upto_region 23 with fail
              refine wt_enterS (List.Sublist.cons_cons _ (List.Sublist.cons _ (List.Sublist.cons _ (List.Sublist.cons _ (List.Sublist.cons _ (List.Sublist.refl _)))))) 9 rfl hs (by kernel_rfl) ?_
              clear hs; intro w1 hC hs
              refine wt_take 0 rfl (by kernel_rfl) (by kernel_rfl) (by kernel_rfl) (fun _ _ _ _ h => h) rfl hC ⟨_, fun w hw => by (go_simp; try with_reducible rfl), fun a1 ha => ?_⟩
              simp only [Act.put, List.setIfInBounds_toArray, List.set_cons_succ, List.set_cons_zero] at ha; subst ha
              refine wt_take 1 rfl (by kernel_rfl) (by kernel_rfl) (by kernel_rfl) (fun _ _ _ _ h => h) rfl hC ⟨_, fun w hw => by (go_simp; try with_reducible rfl), fun a1 ha => ?_⟩
              simp only [Act.put, List.setIfInBounds_toArray, List.set_cons_succ, List.set_cons_zero] at ha; subst ha
              refine wt_take 2 rfl (by kernel_rfl) (by kernel_rfl) (by kernel_rfl) (fun _ _ _ _ h => h) rfl hC ⟨.pointer (some ⟨rA, kk, none⟩), fun w hw => ex_indexA1 rfl Tryd.underlying46 size27 rfl rfl kk rfl hkk, fun a1 ha => ?_⟩
              simp only [Act.put, List.setIfInBounds_toArray, List.set_cons_succ, List.set_cons_zero] at ha; subst ha
              refine wt_take 3 rfl (by kernel_rfl) (by kernel_rfl) (by kernel_rfl) (fun _ _ _ _ h => h) rfl hC ⟨.pointer (some ⟨E kk, 0, none⟩), fun w hw => ex_load1 rfl Tryd.underlying27 rfl rfl (by rw [cell_of_row w _ _ _ _ (0, 0) (hw.getB 3 rfl)]; exact rowOf_get hkk), fun a1 ha => ?_⟩
              simp only [Act.put, List.setIfInBounds_toArray, List.set_cons_succ, List.set_cons_zero] at ha; subst ha
              refine wt_take 4 rfl (by kernel_rfl) (by kernel_rfl) (by kernel_rfl) (fun _ _ _ _ h => h) rfl hC ⟨_, fun w hw => by (go_simp; try with_reducible rfl), fun a1 ha => ?_⟩
              simp only [Act.put, List.setIfInBounds_toArray, List.set_cons_succ, List.set_cons_zero] at ha; subst ha
              refine wt_take 5 rfl (by kernel_rfl) (by kernel_rfl) (by kernel_rfl) (fun _ _ _ _ h => h) rfl hC ⟨_, fun w hw => ex_load1 rfl Tryd.underlying3 rfl rfl (by rw [cell_of_row w _ _ _ _ (0, 0) (hw.getB 0 rfl)]; rfl), fun a1 ha => ?_⟩
              simp only [Act.put, List.setIfInBounds_toArray, List.set_cons_succ, List.set_cons_zero] at ha; subst ha
              refine wt_one 6 (by kernel_rfl) ?_
              refine wt_callU hs rfl rfl (by go_simp) 2 rfl (rset_any pt HNk (hs.get 2 rfl)) (by simp only [Act.put, List.setIfInBounds_toArray, List.set_cons_succ, List.set_cons_zero]; rfl) ?_
              clear hs; intro w1 hs
              refine wt_and (hs.sub (by repeat (first | exact List.Sublist.refl _ | refine List.Sublist.cons_cons _ ?_ | refine List.Sublist.cons _ ?_))) fun hC => ?_
              refine wt_take 7 rfl (by kernel_rfl) (by kernel_rfl) (by kernel_rfl) (fun _ _ _ _ h => h) rfl hC ⟨_, fun w hw => by (go_simp; try with_reducible rfl), fun a1 ha => ?_⟩
              simp only [Act.put, List.setIfInBounds_toArray, List.set_cons_succ, List.set_cons_zero] at ha; subst ha
              refine wt_take 8 rfl (by kernel_rfl) (by kernel_rfl) (by kernel_rfl) (fun _ _ _ _ h => h) rfl hC ⟨_, fun w hw => by (go_simp; try with_reducible rfl), fun a1 ha => ?_⟩
              simp only [Act.put, List.setIfInBounds_toArray, List.set_cons_succ, List.set_cons_zero] at ha; subst ha
              refine wt_done (by kernel_rfl) ?_
              skip
              go_wp2
              go_roundw
              case rel => exact ⟨k + 1, setF F kk (updI (F kk) (N kk) pt true), by omega, by go_num, setF_far HZ.out (updI_far HZk.out), unpick2 kk hkk (hs.erase 0)⟩
              case measure => simp [intOf]; omega
          ·
            by_cases c2 : c = 2
            · subst c2
              clear c1
              as_aux_lemma =>
                go_upto_region 25 with (first
                    | ((with_reducible refine at_load rfl ?_); refine wl_load3 rfl rfl Tryd.underlying48 rfl size48 rfl (hs.keepCell Q0.out) (hs.keepCell Q1.out) (hs.keepCell Q2.out) ?_)
                    | ((with_reducible refine (at_alloc (t := 48)) rfl ?_); refine wl_allocA hs rfl rfl zero48 ?_; clear hs; intro w1 ob hs)
                    | ((with_reducible refine at_store rfl ?_); refine wl_storeA hs rfl rfl rfl rfl size48 (by simp [Value.oneCell']) 0 rfl rfl ?_; clear hs; intro w1 hs)
                    | ((with_reducible refine at_load rfl ?_); refine wl_load1 hs rfl rfl Tryd.underlying3 rfl rfl 0 rfl rfl ?_)
                    | (go_at_call 16; refine (HP.out _).mono ?_; rintro e w2 ⟨rfl, rfl⟩))
                refine wt_enterS (List.Sublist.cons_cons _ (List.Sublist.cons _ (List.Sublist.cons _ (List.Sublist.cons _ (List.Sublist.cons _ (List.Sublist.refl _)))))) 7 rfl hs (by kernel_rfl) ?_
                clear hs; intro w1 hC hs
                refine wt_take 0 rfl (by kernel_rfl) (by kernel_rfl) (by kernel_rfl) (fun _ _ _ _ h => h) rfl hC ⟨_, fun w hw => by (go_simp; try with_reducible rfl), fun a1 ha => ?_⟩
                simp only [Act.put, List.setIfInBounds_toArray, List.set_cons_succ, List.set_cons_zero] at ha; subst ha
                refine wt_take 1 rfl (by kernel_rfl) (by kernel_rfl) (by kernel_rfl) (fun _ _ _ _ h => h) rfl hC ⟨.pointer (some ⟨bA, kk, none⟩), fun w hw => ex_indexA1 rfl Tryd.underlying45 size23 rfl rfl kk rfl hkk, fun a1 ha => ?_⟩
                simp only [Act.put, List.setIfInBounds_toArray, List.set_cons_succ, List.set_cons_zero] at ha; subst ha
                refine wt_take 2 rfl (by kernel_rfl) (by kernel_rfl) (by kernel_rfl) (fun _ _ _ _ h => h) rfl hC ⟨.pointer (some ⟨D kk, 0, none⟩), fun w hw => ex_load1 rfl Tryd.underlying23 rfl rfl (by rw [cell_of_row w _ _ _ _ (0, 0) (hw.getB 2 rfl)]; exact rowOf_get hkk), fun a1 ha => ?_⟩
                simp only [Act.put, List.setIfInBounds_toArray, List.set_cons_succ, List.set_cons_zero] at ha; subst ha
                refine wt_take 3 rfl (by kernel_rfl) (by kernel_rfl) (by kernel_rfl) (fun _ _ _ _ h => h) rfl hC ⟨_, fun w hw => by (go_simp; try with_reducible rfl), fun a1 ha => ?_⟩
                simp only [Act.put, List.setIfInBounds_toArray, List.set_cons_succ, List.set_cons_zero] at ha; subst ha
                refine wt_take 4 rfl (by kernel_rfl) (by kernel_rfl) (by kernel_rfl) (fun _ _ _ _ h => h) rfl hC ⟨_, fun w hw => ex_load1 rfl Tryd.underlying3 rfl rfl (by rw [cell_of_row w _ _ _ _ (0, 0) (hw.getB 0 rfl)]; rfl), fun a1 ha => ?_⟩
                simp only [Act.put, List.setIfInBounds_toArray, List.set_cons_succ, List.set_cons_zero] at ha; subst ha
                refine wt_one 5 (by kernel_rfl) ?_
                refine wt_callU hs rfl rfl (by go_simp) 1 rfl (clear_any pt HNk (hs.get 1 rfl)) (by simp only [Act.put, List.setIfInBounds_toArray, List.set_cons_succ, List.set_cons_zero]; rfl) ?_
                clear hs; intro w1 hs
                refine wt_and (hs.sub (by repeat (first | exact List.Sublist.refl _ | refine List.Sublist.cons_cons _ ?_ | refine List.Sublist.cons _ ?_))) fun hC => ?_
                refine wt_take 6 rfl (by kernel_rfl) (by kernel_rfl) (by kernel_rfl) (fun _ _ _ _ h => h) rfl hC ⟨_, fun w hw => by (go_simp; try with_reducible rfl), fun a1 ha => ?_⟩
                simp only [Act.put, List.setIfInBounds_toArray, List.set_cons_succ, List.set_cons_zero] at ha; subst ha
                refine wt_done (by kernel_rfl) ?_
                skip
                go_upto_region 26 with fail
                refine wt_enterS (List.Sublist.cons_cons _ (List.Sublist.cons _ (List.Sublist.cons _ (List.Sublist.cons _ (List.Sublist.cons _ (List.Sublist.refl _)))))) 9 rfl hs (by kernel_rfl) ?_
                clear hs; intro w1 hC hs
                refine wt_take 0 rfl (by kernel_rfl) (by kernel_rfl) (by kernel_rfl) (fun _ _ _ _ h => h) rfl hC ⟨_, fun w hw => by (go_simp; try with_reducible rfl), fun a1 ha => ?_⟩
                simp only [Act.put, List.setIfInBounds_toArray, List.set_cons_succ, List.set_cons_zero] at ha; subst ha
                refine wt_take 1 rfl (by kernel_rfl) (by kernel_rfl) (by kernel_rfl) (fun _ _ _ _ h => h) rfl hC ⟨_, fun w hw => by (go_simp; try with_reducible rfl), fun a1 ha => ?_⟩
                simp only [Act.put, List.setIfInBounds_toArray, List.set_cons_succ, List.set_cons_zero] at ha; subst ha
                refine wt_take 2 rfl (by kernel_rfl) (by kernel_rfl) (by kernel_rfl) (fun _ _ _ _ h => h) rfl hC ⟨.pointer (some ⟨rA, kk, none⟩), fun w hw => ex_indexA1 rfl Tryd.underlying46 size27 rfl rfl kk rfl hkk, fun a1 ha => ?_⟩
                simp only [Act.put, List.setIfInBounds_toArray, List.set_cons_succ, List.set_cons_zero] at ha; subst ha
                refine wt_take 3 rfl (by kernel_rfl) (by kernel_rfl) (by kernel_rfl) (fun _ _ _ _ h => h) rfl hC ⟨.pointer (some ⟨E kk, 0, none⟩), fun w hw => ex_load1 rfl Tryd.underlying27 rfl rfl (by rw [cell_of_row w _ _ _ _ (0, 0) (hw.getB 3 rfl)]; exact rowOf_get hkk), fun a1 ha => ?_⟩
                simp only [Act.put, List.setIfInBounds_toArray, List.set_cons_succ, List.set_cons_zero] at ha; subst ha
                refine wt_take 4 rfl (by kernel_rfl) (by kernel_rfl) (by kernel_rfl) (fun _ _ _ _ h => h) rfl hC ⟨_, fun w hw => by (go_simp; try with_reducible rfl), fun a1 ha => ?_⟩
                simp only [Act.put, List.setIfInBounds_toArray, List.set_cons_succ, List.set_cons_zero] at ha; subst ha
                refine wt_take 5 rfl (by kernel_rfl) (by kernel_rfl) (by kernel_rfl) (fun _ _ _ _ h => h) rfl hC ⟨_, fun w hw => ex_load1 rfl Tryd.underlying3 rfl rfl (by rw [cell_of_row w _ _ _ _ (0, 0) (hw.getB 0 rfl)]; rfl), fun a1 ha => ?_⟩
                simp only [Act.put, List.setIfInBounds_toArray, List.set_cons_succ, List.set_cons_zero] at ha; subst ha
                refine wt_one 6 (by kernel_rfl) ?_
                refine wt_callU hs rfl rfl (by go_simp) 2 rfl (rclear_any pt HNk (hs.get 2 rfl)) (by simp only [Act.put, List.setIfInBounds_toArray, List.set_cons_succ, List.set_cons_zero]; rfl) ?_
                clear hs; intro w1 hs
                refine wt_and (hs.sub (by repeat (first | exact List.Sublist.refl _ | refine List.Sublist.cons_cons _ ?_ | refine List.Sublist.cons _ ?_))) fun hC => ?_
                refine wt_take 7 rfl (by kernel_rfl) (by kernel_rfl) (by kernel_rfl) (fun _ _ _ _ h => h) rfl hC ⟨_, fun w hw => by (go_simp; try with_reducible rfl), fun a1 ha => ?_⟩
                simp only [Act.put, List.setIfInBounds_toArray, List.set_cons_succ, List.set_cons_zero] at ha; subst ha
                refine wt_take 8 rfl (by kernel_rfl) (by kernel_rfl) (by kernel_rfl) (fun _ _ _ _ h => h) rfl hC ⟨_, fun w hw => by (go_simp; try with_reducible rfl), fun a1 ha => ?_⟩
                simp only [Act.put, List.setIfInBounds_toArray, List.set_cons_succ, List.set_cons_zero] at ha; subst ha
                refine wt_done (by kernel_rfl) ?_
                skip
                go_wp2
                go_roundw
                case rel => exact ⟨k + 1, setF F kk (updI (F kk) (N kk) pt false), by omega, by go_num, setF_far HZ.out (updI_far HZk.out), unpick2 kk hkk (hs.erase 0)⟩
                case measure => simp [intOf]; omega
            ·
              by_cases c3 : c = 3
              · subst c3
                clear c1 c2
                as_aux_lemma =>
                  go_upto_region 28 with (first
                      | ((with_reducible refine at_load rfl ?_); refine wl_load3 rfl rfl Tryd.underlying48 rfl size48 rfl (hs.keepCell Q0.out) (hs.keepCell Q1.out) (hs.keepCell Q2.out) ?_)
                      | ((with_reducible refine (at_alloc (t := 48)) rfl ?_); refine wl_allocA hs rfl rfl zero48 ?_; clear hs; intro w1 ob hs)
                      | ((with_reducible refine at_store rfl ?_); refine wl_storeA hs rfl rfl rfl rfl size48 (by simp [Value.oneCell']) 0 rfl rfl ?_; clear hs; intro w1 hs)
                      | ((with_reducible refine at_load rfl ?_); refine wl_load1 hs rfl rfl Tryd.underlying3 rfl rfl 0 rfl rfl ?_)
                      | (go_at_call 16; refine (HP.out _).mono ?_; rintro e w2 ⟨rfl, rfl⟩))
                  refine wt_enterS (List.Sublist.cons_cons _ (List.Sublist.cons _ (List.Sublist.cons _ (List.Sublist.cons _ (List.Sublist.cons _ (List.Sublist.refl _)))))) 7 rfl hs (by kernel_rfl) ?_
                  clear hs; intro w1 hC hs
                  refine wt_take 0 rfl (by kernel_rfl) (by kernel_rfl) (by kernel_rfl) (fun _ _ _ _ h => h) rfl hC ⟨_, fun w hw => by (go_simp; try with_reducible rfl), fun a1 ha => ?_⟩
                  simp only [Act.put, List.setIfInBounds_toArray, List.set_cons_succ, List.set_cons_zero] at ha; subst ha
                  refine wt_take 1 rfl (by kernel_rfl) (by kernel_rfl) (by kernel_rfl) (fun _ _ _ _ h => h) rfl hC ⟨.pointer (some ⟨bA, kk, none⟩), fun w hw => ex_indexA1 rfl Tryd.underlying45 size23 rfl rfl kk rfl hkk, fun a1 ha => ?_⟩
                  simp only [Act.put, List.setIfInBounds_toArray, List.set_cons_succ, List.set_cons_zero] at ha; subst ha
                  refine wt_take 2 rfl (by kernel_rfl) (by kernel_rfl) (by kernel_rfl) (fun _ _ _ _ h => h) rfl hC ⟨.pointer (some ⟨D kk, 0, none⟩), fun w hw => ex_load1 rfl Tryd.underlying23 rfl rfl (by rw [cell_of_row w _ _ _ _ (0, 0) (hw.getB 2 rfl)]; exact rowOf_get hkk), fun a1 ha => ?_⟩
                  simp only [Act.put, List.setIfInBounds_toArray, List.set_cons_succ, List.set_cons_zero] at ha; subst ha
                  refine wt_take 3 rfl (by kernel_rfl) (by kernel_rfl) (by kernel_rfl) (fun _ _ _ _ h => h) rfl hC ⟨_, fun w hw => by (go_simp; try with_reducible rfl), fun a1 ha => ?_⟩
                  simp only [Act.put, List.setIfInBounds_toArray, List.set_cons_succ, List.set_cons_zero] at ha; subst ha
                  refine wt_take 4 rfl (by kernel_rfl) (by kernel_rfl) (by kernel_rfl) (fun _ _ _ _ h => h) rfl hC ⟨_, fun w hw => ex_load1 rfl Tryd.underlying3 rfl rfl (by rw [cell_of_row w _ _ _ _ (0, 0) (hw.getB 0 rfl)]; rfl), fun a1 ha => ?_⟩
                  simp only [Act.put, List.setIfInBounds_toArray, List.set_cons_succ, List.set_cons_zero] at ha; subst ha
                  refine wt_one 5 (by kernel_rfl) ?_
                  refine wt_call0 hs rfl rfl (by go_simp) (has_any pt HNk (hs.get 1 rfl)) (by simp only [Act.put, List.setIfInBounds_toArray, List.set_cons_succ, List.set_cons_zero]; rfl) ?_
                  clear hs; intro w1 hs
                  refine wt_and (hs.sub (by repeat (first | exact List.Sublist.refl _ | refine List.Sublist.cons_cons _ ?_ | refine List.Sublist.cons _ ?_))) fun hC => ?_
                  refine wt_take 6 rfl (by kernel_rfl) (by kernel_rfl) (by kernel_rfl) (fun _ _ _ _ h => h) rfl hC ⟨_, fun w hw => by (go_simp; try with_reducible rfl), fun a1 ha => ?_⟩
                  simp only [Act.put, List.setIfInBounds_toArray, List.set_cons_succ, List.set_cons_zero] at ha; subst ha
                  refine wt_done (by kernel_rfl) ?_
                  skip
                  go_upto_region 29 with fail
                  refine wt_enterS (List.Sublist.cons_cons _ (List.Sublist.cons _ (List.Sublist.cons _ (List.Sublist.cons _ (List.Sublist.cons _ (List.Sublist.refl _)))))) 9 rfl hs (by kernel_rfl) ?_
                  clear hs; intro w1 hC hs
                  refine wt_take 0 rfl (by kernel_rfl) (by kernel_rfl) (by kernel_rfl) (fun _ _ _ _ h => h) rfl hC ⟨_, fun w hw => by (go_simp; try with_reducible rfl), fun a1 ha => ?_⟩
                  simp only [Act.put, List.setIfInBounds_toArray, List.set_cons_succ, List.set_cons_zero] at ha; subst ha
                  refine wt_take 1 rfl (by kernel_rfl) (by kernel_rfl) (by kernel_rfl) (fun _ _ _ _ h => h) rfl hC ⟨_, fun w hw => by (go_simp; try with_reducible rfl), fun a1 ha => ?_⟩
                  simp only [Act.put, List.setIfInBounds_toArray, List.set_cons_succ, List.set_cons_zero] at ha; subst ha
                  refine wt_take 2 rfl (by kernel_rfl) (by kernel_rfl) (by kernel_rfl) (fun _ _ _ _ h => h) rfl hC ⟨.pointer (some ⟨rA, kk, none⟩), fun w hw => ex_indexA1 rfl Tryd.underlying46 size27 rfl rfl kk rfl hkk, fun a1 ha => ?_⟩
                  simp only [Act.put, List.setIfInBounds_toArray, List.set_cons_succ, List.set_cons_zero] at ha; subst ha
                  refine wt_take 3 rfl (by kernel_rfl) (by kernel_rfl) (by kernel_rfl) (fun _ _ _ _ h => h) rfl hC ⟨.pointer (some ⟨E kk, 0, none⟩), fun w hw => ex_load1 rfl Tryd.underlying27 rfl rfl (by rw [cell_of_row w _ _ _ _ (0, 0) (hw.getB 3 rfl)]; exact rowOf_get hkk), fun a1 ha => ?_⟩
                  simp only [Act.put, List.setIfInBounds_toArray, List.set_cons_succ, List.set_cons_zero] at ha; subst ha
                  refine wt_take 4 rfl (by kernel_rfl) (by kernel_rfl) (by kernel_rfl) (fun _ _ _ _ h => h) rfl hC ⟨_, fun w hw => by (go_simp; try with_reducible rfl), fun a1 ha => ?_⟩
                  simp only [Act.put, List.setIfInBounds_toArray, List.set_cons_succ, List.set_cons_zero] at ha; subst ha
                  refine wt_take 5 rfl (by kernel_rfl) (by kernel_rfl) (by kernel_rfl) (fun _ _ _ _ h => h) rfl hC ⟨_, fun w hw => ex_load1 rfl Tryd.underlying3 rfl rfl (by rw [cell_of_row w _ _ _ _ (0, 0) (hw.getB 0 rfl)]; rfl), fun a1 ha => ?_⟩
                  simp only [Act.put, List.setIfInBounds_toArray, List.set_cons_succ, List.set_cons_zero] at ha; subst ha
                  refine wt_one 6 (by kernel_rfl) ?_
                  refine wt_call0 hs rfl rfl (by go_simp) (rhas_any pt HNk (hs.get 2 rfl)) (by simp only [Act.put, List.setIfInBounds_toArray, List.set_cons_succ, List.set_cons_zero]; rfl) ?_
                  clear hs; intro w1 hs
                  refine wt_and (hs.sub (by repeat (first | exact List.Sublist.refl _ | refine List.Sublist.cons_cons _ ?_ | refine List.Sublist.cons _ ?_))) fun hC => ?_
                  refine wt_take 7 rfl (by kernel_rfl) (by kernel_rfl) (by kernel_rfl) (fun _ _ _ _ h => h) rfl hC ⟨_, fun w hw => by (go_simp; try with_reducible rfl), fun a1 ha => ?_⟩
                  simp only [Act.put, List.setIfInBounds_toArray, List.set_cons_succ, List.set_cons_zero] at ha; subst ha
                  refine wt_take 8 rfl (by kernel_rfl) (by kernel_rfl) (by kernel_rfl) (fun _ _ _ _ h => h) rfl hC ⟨_, fun w hw => by (go_simp; try with_reducible rfl), fun a1 ha => ?_⟩
                  simp only [Act.put, List.setIfInBounds_toArray, List.set_cons_succ, List.set_cons_zero] at ha; subst ha
                  refine wt_done (by kernel_rfl) ?_
                  skip
                  go_wp2
                  go_roundw
                  case rel => exact ⟨k + 1, setF F kk (F kk), by omega, by go_num, setF_far HZ.out HZk.out, unpick2 kk hkk (hs.erase 0)⟩
                  case measure => simp [intOf]; omega
              ·
                by_cases c4 : c = 4
                · subst c4
                  clear c1 c2 c3
                  as_aux_lemma =>
                    go_upto_region 31 with (first
                        | ((with_reducible refine at_load rfl ?_); refine wl_load3 rfl rfl Tryd.underlying48 rfl size48 rfl (hs.keepCell Q0.out) (hs.keepCell Q1.out) (hs.keepCell Q2.out) ?_)
                        | ((with_reducible refine (at_alloc (t := 48)) rfl ?_); refine wl_allocA hs rfl rfl zero48 ?_; clear hs; intro w1 ob hs)
                        | ((with_reducible refine at_store rfl ?_); refine wl_storeA hs rfl rfl rfl rfl size48 (by simp [Value.oneCell']) 0 rfl rfl ?_; clear hs; intro w1 hs)
                        | ((with_reducible refine at_load rfl ?_); refine wl_load1 hs rfl rfl Tryd.underlying3 rfl rfl 0 rfl rfl ?_)
                        | (go_at_call 16; refine (HP.out _).mono ?_; rintro e w2 ⟨rfl, rfl⟩))
                    refine wt_enterS (List.Sublist.cons_cons _ (List.Sublist.cons _ (List.Sublist.cons _ (List.Sublist.cons _ (List.Sublist.cons _ (List.Sublist.refl _)))))) 11 rfl hs (by kernel_rfl) ?_
                    clear hs; intro w1 hC hs
                    refine wt_take 0 rfl (by kernel_rfl) (by kernel_rfl) (by kernel_rfl) (fun _ _ _ _ h => h) rfl hC ⟨_, fun w hw => by (go_simp; try with_reducible rfl), fun a1 ha => ?_⟩
                    simp only [Act.put, List.setIfInBounds_toArray, List.set_cons_succ, List.set_cons_zero] at ha; subst ha
                    refine wt_take 1 rfl (by kernel_rfl) (by kernel_rfl) (by kernel_rfl) (fun _ _ _ _ h => h) rfl hC ⟨.pointer (some ⟨bA, kk, none⟩), fun w hw => ex_indexA1 rfl Tryd.underlying45 size23 rfl rfl kk rfl hkk, fun a1 ha => ?_⟩
                    simp only [Act.put, List.setIfInBounds_toArray, List.set_cons_succ, List.set_cons_zero] at ha; subst ha
                    refine wt_take 2 rfl (by kernel_rfl) (by kernel_rfl) (by kernel_rfl) (fun _ _ _ _ h => h) rfl hC ⟨.pointer (some ⟨D kk, 0, none⟩), fun w hw => ex_load1 rfl Tryd.underlying23 rfl rfl (by rw [cell_of_row w _ _ _ _ (0, 0) (hw.getB 2 rfl)]; exact rowOf_get hkk), fun a1 ha => ?_⟩
                    simp only [Act.put, List.setIfInBounds_toArray, List.set_cons_succ, List.set_cons_zero] at ha; subst ha
                    refine wt_take 3 rfl (by kernel_rfl) (by kernel_rfl) (by kernel_rfl) (fun _ _ _ _ h => h) rfl hC ⟨_, fun w hw => by (go_simp; try with_reducible rfl), fun a1 ha => ?_⟩
                    simp only [Act.put, List.setIfInBounds_toArray, List.set_cons_succ, List.set_cons_zero] at ha; subst ha
                    refine wt_take 4 rfl (by kernel_rfl) (by kernel_rfl) (by kernel_rfl) (fun _ _ _ _ h => h) rfl hC ⟨_, fun w hw => ex_load1 rfl Tryd.underlying3 rfl rfl (by rw [cell_of_row w _ _ _ _ (0, 0) (hw.getB 0 rfl)]; rfl), fun a1 ha => ?_⟩
                    simp only [Act.put, List.setIfInBounds_toArray, List.set_cons_succ, List.set_cons_zero] at ha; subst ha
                    refine wt_one 5 (by kernel_rfl) ?_
                    refine wt_call0 hs rfl rfl (by go_simp) (first_all pt hct HNk HZk.out (HR.out.keep hs) (hs.get 1 rfl)) (by simp only [Act.put, List.setIfInBounds_toArray, List.set_cons_succ, List.set_cons_zero]; rfl) ?_
                    clear hs; intro w1 hs
                    refine wt_and (hs.sub (by repeat (first | exact List.Sublist.refl _ | refine List.Sublist.cons_cons _ ?_ | refine List.Sublist.cons _ ?_))) fun hC => ?_
                    refine wt_take 6 rfl (by kernel_rfl) (by kernel_rfl) (by kernel_rfl) (fun _ _ _ _ h => h) rfl hC ⟨_, fun w hw => by (go_simp; try with_reducible rfl), fun a1 ha => ?_⟩
                    simp only [Act.put, List.setIfInBounds_toArray, List.set_cons_succ, List.set_cons_zero] at ha; subst ha
                    refine wt_take 7 rfl (by kernel_rfl) (by kernel_rfl) (by kernel_rfl) (fun _ _ _ _ h => h) rfl hC ⟨_, fun w hw => by (go_simp; try with_reducible rfl), fun a1 ha => ?_⟩
                    simp only [Act.put, List.setIfInBounds_toArray, List.set_cons_succ, List.set_cons_zero] at ha; subst ha
                    refine wt_take 8 rfl (by kernel_rfl) (by kernel_rfl) (by kernel_rfl) (fun _ _ _ _ h => h) rfl hC ⟨_, fun w hw => by (go_simp; try with_reducible rfl), fun a1 ha => ?_⟩
                    simp only [Act.put, List.setIfInBounds_toArray, List.set_cons_succ, List.set_cons_zero] at ha; subst ha
                    refine wt_take 9 rfl (by kernel_rfl) (by kernel_rfl) (by kernel_rfl) (fun _ _ _ _ h => h) rfl hC ⟨_, fun w hw => by (go_simp; try with_reducible rfl), fun a1 ha => ?_⟩
                    simp only [Act.put, List.setIfInBounds_toArray, List.set_cons_succ, List.set_cons_zero] at ha; subst ha
                    refine wt_take 10 rfl (by kernel_rfl) (by kernel_rfl) (by kernel_rfl) (fun _ _ _ _ h => h) rfl hC ⟨_, fun w hw => by (go_simp; try with_reducible rfl), fun a1 ha => ?_⟩
                    simp only [Act.put, List.setIfInBounds_toArray, List.set_cons_succ, List.set_cons_zero] at ha; subst ha
                    refine wt_done (by kernel_rfl) ?_
                    skip
                    go_upto_region 32 with fail
                    refine wt_enterS (List.Sublist.cons_cons _ (List.Sublist.cons _ (List.Sublist.cons _ (List.Sublist.cons _ (List.Sublist.cons _ (List.Sublist.refl _)))))) 11 rfl hs (by kernel_rfl) ?_
                    clear hs; intro w1 hC hs
                    refine wt_take 0 rfl (by kernel_rfl) (by kernel_rfl) (by kernel_rfl) (fun _ _ _ _ h => h) rfl hC ⟨_, fun w hw => by (go_simp; try with_reducible rfl), fun a1 ha => ?_⟩
                    simp only [Act.put, List.setIfInBounds_toArray, List.set_cons_succ, List.set_cons_zero] at ha; subst ha
                    refine wt_take 1 rfl (by kernel_rfl) (by kernel_rfl) (by kernel_rfl) (fun _ _ _ _ h => h) rfl hC ⟨.pointer (some ⟨rA, kk, none⟩), fun w hw => ex_indexA1 rfl Tryd.underlying46 size27 rfl rfl kk rfl hkk, fun a1 ha => ?_⟩
                    simp only [Act.put, List.setIfInBounds_toArray, List.set_cons_succ, List.set_cons_zero] at ha; subst ha
                    refine wt_take 2 rfl (by kernel_rfl) (by kernel_rfl) (by kernel_rfl) (fun _ _ _ _ h => h) rfl hC ⟨.pointer (some ⟨E kk, 0, none⟩), fun w hw => ex_load1 rfl Tryd.underlying27 rfl rfl (by rw [cell_of_row w _ _ _ _ (0, 0) (hw.getB 3 rfl)]; exact rowOf_get hkk), fun a1 ha => ?_⟩
                    simp only [Act.put, List.setIfInBounds_toArray, List.set_cons_succ, List.set_cons_zero] at ha; subst ha
                    refine wt_take 3 rfl (by kernel_rfl) (by kernel_rfl) (by kernel_rfl) (fun _ _ _ _ h => h) rfl hC ⟨_, fun w hw => by (go_simp; try with_reducible rfl), fun a1 ha => ?_⟩
                    simp only [Act.put, List.setIfInBounds_toArray, List.set_cons_succ, List.set_cons_zero] at ha; subst ha
                    refine wt_take 4 rfl (by kernel_rfl) (by kernel_rfl) (by kernel_rfl) (fun _ _ _ _ h => h) rfl hC ⟨_, fun w hw => ex_load1 rfl Tryd.underlying3 rfl rfl (by rw [cell_of_row w _ _ _ _ (0, 0) (hw.getB 0 rfl)]; rfl), fun a1 ha => ?_⟩
                    simp only [Act.put, List.setIfInBounds_toArray, List.set_cons_succ, List.set_cons_zero] at ha; subst ha
                    refine wt_one 5 (by kernel_rfl) ?_
                    refine wt_call0 hs rfl rfl (by go_simp) (rfirst_all pt hct HNk (hs.get 2 rfl)) (by simp only [Act.put, List.setIfInBounds_toArray, List.set_cons_succ, List.set_cons_zero]; rfl) ?_
                    clear hs; intro w1 hs
                    refine wt_and (hs.sub (by repeat (first | exact List.Sublist.refl _ | refine List.Sublist.cons_cons _ ?_ | refine List.Sublist.cons _ ?_))) fun hC => ?_
                    refine wt_take 6 rfl (by kernel_rfl) (by kernel_rfl) (by kernel_rfl) (fun _ _ _ _ h => h) rfl hC ⟨_, fun w hw => by (go_simp; try with_reducible rfl), fun a1 ha => ?_⟩
                    simp only [Act.put, List.setIfInBounds_toArray, List.set_cons_succ, List.set_cons_zero] at ha; subst ha
                    refine wt_take 7 rfl (by kernel_rfl) (by kernel_rfl) (by kernel_rfl) (fun _ _ _ _ h => h) rfl hC ⟨_, fun w hw => by (go_simp; try with_reducible rfl), fun a1 ha => ?_⟩
                    simp only [Act.put, List.setIfInBounds_toArray, List.set_cons_succ, List.set_cons_zero] at ha; subst ha
                    refine wt_take 8 rfl (by kernel_rfl) (by kernel_rfl) (by kernel_rfl) (fun _ _ _ _ h => h) rfl hC ⟨_, fun w hw => by (go_simp; try with_reducible rfl), fun a1 ha => ?_⟩
                    simp only [Act.put, List.setIfInBounds_toArray, List.set_cons_succ, List.set_cons_zero] at ha; subst ha
                    refine wt_take 9 rfl (by kernel_rfl) (by kernel_rfl) (by kernel_rfl) (fun _ _ _ _ h => h) rfl hC ⟨_, fun w hw => by (go_simp; try with_reducible rfl), fun a1 ha => ?_⟩
                    simp only [Act.put, List.setIfInBounds_toArray, List.set_cons_succ, List.set_cons_zero] at ha; subst ha
                    refine wt_take 10 rfl (by kernel_rfl) (by kernel_rfl) (by kernel_rfl) (fun _ _ _ _ h => h) rfl hC ⟨_, fun w hw => by (go_simp; try with_reducible rfl), fun a1 ha => ?_⟩
                    simp only [Act.put, List.setIfInBounds_toArray, List.set_cons_succ, List.set_cons_zero] at ha; subst ha
                    refine wt_done (by kernel_rfl) ?_
                    skip
                    go_wp2
                    go_roundw
                    case rel => exact ⟨k + 1, setF F kk (F kk), by omega, by go_num, setF_far HZ.out HZk.out, unpick2 kk hkk (hs.erase 0)⟩
                    case measure => simp [intOf]; omega
                ·
                  by_cases c5 : c = 5
                  · subst c5
                    clear c1 c2 c3 c4
                    as_aux_lemma =>
                      go_upto_region 35 with (first
                          | ((with_reducible refine at_load rfl ?_); refine wl_load3 rfl rfl Tryd.underlying48 rfl size48 rfl (hs.keepCell Q0.out) (hs.keepCell Q1.out) (hs.keepCell Q2.out) ?_)
                          | ((with_reducible refine (at_alloc (t := 48)) rfl ?_); refine wl_allocA hs rfl rfl zero48 ?_; clear hs; intro w1 ob hs)
                          | ((with_reducible refine at_store rfl ?_); refine wl_storeA hs rfl rfl rfl rfl size48 (by simp [Value.oneCell']) 0 rfl rfl ?_; clear hs; intro w1 hs)
                          | ((with_reducible refine at_load rfl ?_); refine wl_load1 hs rfl rfl Tryd.underlying3 rfl rfl 0 rfl rfl ?_)
                          | (go_at_call 16; refine (HP.out _).mono ?_; rintro e w2 ⟨rfl, rfl⟩))
                      go_upto_region 36 with (first
                          | ((with_reducible refine at_load rfl ?_); refine wl_load1 (v := .pointer (some ⟨D kk, 0, none⟩)) hs rfl rfl Tryd.underlying23 rfl rfl 6 rfl (rowOf_get hkk) ?_)
                          | (go_at_call 14; refine (count_any HNk HZk.out (hs.get 1 rfl)).mono ?_; rintro e w2 ⟨rfl, hc⟩; replace hs := hs.call0 hc; clear hc))
                      refine wt_enterS (List.Sublist.cons_cons _ (List.Sublist.cons _ (List.Sublist.cons _ (List.Sublist.cons _ (List.Sublist.cons _ (List.Sublist.refl _)))))) 17 rfl hs (by kernel_rfl) ?_
                      clear hs; intro w1 hC hs
                      refine wt_take 0 rfl (by kernel_rfl) (by kernel_rfl) (by kernel_rfl) (fun _ _ _ _ h => h) rfl hC ⟨_, fun w hw => by (go_simp; try with_reducible rfl), fun a1 ha => ?_⟩
                      simp only [Act.put, List.setIfInBounds_toArray, List.set_cons_succ, List.set_cons_zero] at ha; subst ha
                      refine wt_take 1 rfl (by kernel_rfl) (by kernel_rfl) (by kernel_rfl) (fun _ _ _ _ h => h) rfl hC ⟨_, fun w hw => by (go_simp; try with_reducible rfl), fun a1 ha => ?_⟩
                      simp only [Act.put, List.setIfInBounds_toArray, List.set_cons_succ, List.set_cons_zero] at ha; subst ha
                      refine wt_take 2 rfl (by kernel_rfl) (by kernel_rfl) (by kernel_rfl) (fun _ _ _ _ h => h) rfl hC ⟨.pointer (some ⟨rA, kk, none⟩), fun w hw => ex_indexA1 rfl Tryd.underlying46 size27 rfl rfl kk rfl hkk, fun a1 ha => ?_⟩
                      simp only [Act.put, List.setIfInBounds_toArray, List.set_cons_succ, List.set_cons_zero] at ha; subst ha
                      refine wt_take 3 rfl (by kernel_rfl) (by kernel_rfl) (by kernel_rfl) (fun _ _ _ _ h => h) rfl hC ⟨.pointer (some ⟨E kk, 0, none⟩), fun w hw => ex_load1 rfl Tryd.underlying27 rfl rfl (by rw [cell_of_row w _ _ _ _ (0, 0) (hw.getB 3 rfl)]; exact rowOf_get hkk), fun a1 ha => ?_⟩
                      simp only [Act.put, List.setIfInBounds_toArray, List.set_cons_succ, List.set_cons_zero] at ha; subst ha
                      refine wt_one 4 (by kernel_rfl) ?_
                      refine wt_call0 hs rfl rfl (by go_simp) (rcount_any HNk (hs.get 2 rfl)) (by simp only [Act.put, List.setIfInBounds_toArray, List.set_cons_succ, List.set_cons_zero]; rfl) ?_
                      clear hs; intro w1 hs
                      refine wt_and (hs.sub (by repeat (first | exact List.Sublist.refl _ | refine List.Sublist.cons_cons _ ?_ | refine List.Sublist.cons _ ?_))) fun hC => ?_
                      refine wt_take 5 rfl (by kernel_rfl) (by kernel_rfl) (by kernel_rfl) (fun _ _ _ _ h => h) rfl hC ⟨_, fun w hw => by (go_simp; try with_reducible rfl), fun a1 ha => ?_⟩
                      simp only [Act.put, List.setIfInBounds_toArray, List.set_cons_succ, List.set_cons_zero] at ha; subst ha
                      refine wt_take 6 rfl (by kernel_rfl) (by kernel_rfl) (by kernel_rfl) (fun _ _ _ _ h => h) rfl hC ⟨_, fun w hw => by (go_simp; try with_reducible rfl), fun a1 ha => ?_⟩
                      simp only [Act.put, List.setIfInBounds_toArray, List.set_cons_succ, List.set_cons_zero] at ha; subst ha
                      refine wt_take 7 rfl (by kernel_rfl) (by kernel_rfl) (by kernel_rfl) (fun _ _ _ _ h => h) rfl hC ⟨_, fun w hw => by (go_simp; try with_reducible rfl), fun a1 ha => ?_⟩
                      simp only [Act.put, List.setIfInBounds_toArray, List.set_cons_succ, List.set_cons_zero] at ha; subst ha
                      refine wt_take 8 rfl (by kernel_rfl) (by kernel_rfl) (by kernel_rfl) (fun _ _ _ _ h => h) rfl hC ⟨.pointer (some ⟨bA, kk, none⟩), fun w hw => ex_indexA1 rfl Tryd.underlying45 size23 rfl rfl kk rfl hkk, fun a1 ha => ?_⟩
                      simp only [Act.put, List.setIfInBounds_toArray, List.set_cons_succ, List.set_cons_zero] at ha; subst ha
                      refine wt_take 9 rfl (by kernel_rfl) (by kernel_rfl) (by kernel_rfl) (fun _ _ _ _ h => h) rfl hC ⟨.pointer (some ⟨D kk, 0, none⟩), fun w hw => ex_load1 rfl Tryd.underlying23 rfl rfl (by rw [cell_of_row w _ _ _ _ (0, 0) (hw.getB 2 rfl)]; exact rowOf_get hkk), fun a1 ha => ?_⟩
                      simp only [Act.put, List.setIfInBounds_toArray, List.set_cons_succ, List.set_cons_zero] at ha; subst ha
                      refine wt_take 11 rfl (by kernel_rfl) (by kernel_rfl) (by kernel_rfl) (fun _ _ _ _ h => h) rfl hC ⟨_, fun w hw => by (go_simp; try with_reducible rfl), fun a1 ha => ?_⟩
                      simp only [Act.put, List.setIfInBounds_toArray, List.set_cons_succ, List.set_cons_zero] at ha; subst ha
                      refine wt_take 12 rfl (by kernel_rfl) (by kernel_rfl) (by kernel_rfl) (fun _ _ _ _ h => h) rfl hC ⟨.pointer (some ⟨sz, kk, none⟩), fun w hw => ex_indexA1 rfl Tryd.underlying44 size3 rfl rfl kk rfl hkk, fun a1 ha => ?_⟩
                      simp only [Act.put, List.setIfInBounds_toArray, List.set_cons_succ, List.set_cons_zero] at ha; subst ha
                      refine wt_take 13 rfl (by kernel_rfl) (by kernel_rfl) (by kernel_rfl) (fun _ _ _ _ h => h) rfl hC ⟨.int .i64 ((N kk : Nat) : Int), fun w hw => ex_load1 rfl Tryd.underlying3 rfl rfl (by rw [cell_of_row w _ _ _ _ (0, 0) (hw.getB 1 rfl)]; exact rowOf_get hkk), fun a1 ha => ?_⟩
                      simp only [Act.put, List.setIfInBounds_toArray, List.set_cons_succ, List.set_cons_zero] at ha; subst ha
                      refine wt_one 10 (by kernel_rfl) ?_
                      refine wt_call0 hs rfl rfl (by go_simp) (len_any (hs.get 1 rfl)) (by simp only [Act.put, List.setIfInBounds_toArray, List.set_cons_succ, List.set_cons_zero]; rfl) ?_
                      clear hs; intro w1 hs
                      refine wt_and (hs.sub (by repeat (first | exact List.Sublist.refl _ | refine List.Sublist.cons_cons _ ?_ | refine List.Sublist.cons _ ?_))) fun hC => ?_
                      refine wt_take 14 rfl (by kernel_rfl) (by kernel_rfl) (by kernel_rfl) (fun _ _ _ _ h => h) rfl hC ⟨_, fun w hw => by (go_simp; try with_reducible rfl), fun a1 ha => ?_⟩
                      simp only [Act.put, List.setIfInBounds_toArray, List.set_cons_succ, List.set_cons_zero] at ha; subst ha
                      refine wt_take 15 rfl (by kernel_rfl) (by kernel_rfl) (by kernel_rfl) (fun _ _ _ _ h => h) rfl hC ⟨_, fun w hw => by (go_simp; try with_reducible rfl), fun a1 ha => ?_⟩
                      simp only [Act.put, List.setIfInBounds_toArray, List.set_cons_succ, List.set_cons_zero] at ha; subst ha
                      refine wt_take 16 rfl (by kernel_rfl) (by kernel_rfl) (by kernel_rfl) (fun _ _ _ _ h => h) rfl hC ⟨_, fun w hw => by (go_simp; try with_reducible rfl), fun a1 ha => ?_⟩
                      simp only [Act.put, List.setIfInBounds_toArray, List.set_cons_succ, List.set_cons_zero] at ha; subst ha
                      refine wt_done (by kernel_rfl) ?_
                      skip
                      go_wp2
                      go_roundw
                      case rel => exact ⟨k + 1, setF F kk (F kk), by omega, by go_num, setF_far HZ.out HZk.out, unpick2 kk hkk (hs.erase 0)⟩
                      case measure => simp [intOf]; omega
                  ·
                    by_cases c6 : c = 6
                    · subst c6
                      clear c1 c2 c3 c4 c5
                      as_aux_lemma =>
                        go_upto_region 38 with (first
                            | ((with_reducible refine at_load rfl ?_); refine wl_load3 rfl rfl Tryd.underlying48 rfl size48 rfl (hs.keepCell Q0.out) (hs.keepCell Q1.out) (hs.keepCell Q2.out) ?_)
                            | ((with_reducible refine (at_alloc (t := 48)) rfl ?_); refine wl_allocA hs rfl rfl zero48 ?_; clear hs; intro w1 ob hs)
                            | ((with_reducible refine at_store rfl ?_); refine wl_storeA hs rfl rfl rfl rfl size48 (by simp [Value.oneCell']) 0 rfl rfl ?_; clear hs; intro w1 hs)
                            | ((with_reducible refine at_load rfl ?_); refine wl_load1 hs rfl rfl Tryd.underlying3 rfl rfl 0 rfl rfl ?_)
                            | (go_at_call 16; refine (HP.out _).mono ?_; rintro e w2 ⟨rfl, rfl⟩))
                        refine wt_enterS (List.Sublist.cons_cons _ (List.Sublist.cons _ (List.Sublist.cons _ (List.Sublist.cons _ (List.Sublist.cons _ (List.Sublist.refl _)))))) 11 rfl hs (by kernel_rfl) ?_
                        clear hs; intro w1 hC hs
                        refine wt_take 0 rfl (by kernel_rfl) (by kernel_rfl) (by kernel_rfl) (fun _ _ _ _ h => h) rfl hC ⟨_, fun w hw => by (go_simp; try with_reducible rfl), fun a1 ha => ?_⟩
                        simp only [Act.put, List.setIfInBounds_toArray, List.set_cons_succ, List.set_cons_zero] at ha; subst ha
                        refine wt_take 1 rfl (by kernel_rfl) (by kernel_rfl) (by kernel_rfl) (fun _ _ _ _ h => h) rfl hC ⟨.pointer (some ⟨bA, kk, none⟩), fun w hw => ex_indexA1 rfl Tryd.underlying45 size23 rfl rfl kk rfl hkk, fun a1 ha => ?_⟩
                        simp only [Act.put, List.setIfInBounds_toArray, List.set_cons_succ, List.set_cons_zero] at ha; subst ha
                        refine wt_take 2 rfl (by kernel_rfl) (by kernel_rfl) (by kernel_rfl) (fun _ _ _ _ h => h) rfl hC ⟨.pointer (some ⟨D kk, 0, none⟩), fun w hw => ex_load1 rfl Tryd.underlying23 rfl rfl (by rw [cell_of_row w _ _ _ _ (0, 0) (hw.getB 2 rfl)]; exact rowOf_get hkk), fun a1 ha => ?_⟩
                        simp only [Act.put, List.setIfInBounds_toArray, List.set_cons_succ, List.set_cons_zero] at ha; subst ha
                        refine wt_take 3 rfl (by kernel_rfl) (by kernel_rfl) (by kernel_rfl) (fun _ _ _ _ h => h) rfl hC ⟨_, fun w hw => by (go_simp; try with_reducible rfl), fun a1 ha => ?_⟩
                        simp only [Act.put, List.setIfInBounds_toArray, List.set_cons_succ, List.set_cons_zero] at ha; subst ha
                        refine wt_take 4 rfl (by kernel_rfl) (by kernel_rfl) (by kernel_rfl) (fun _ _ _ _ h => h) rfl hC ⟨_, fun w hw => ex_load1 rfl Tryd.underlying3 rfl rfl (by rw [cell_of_row w _ _ _ _ (0, 0) (hw.getB 0 rfl)]; rfl), fun a1 ha => ?_⟩
                        simp only [Act.put, List.setIfInBounds_toArray, List.set_cons_succ, List.set_cons_zero] at ha; subst ha
                        refine wt_one 5 (by kernel_rfl) ?_
                        refine wt_call0 hs rfl rfl (by go_simp) (first_all pt hct HNk HZk.out (HR.out.keep hs) (hs.get 1 rfl)) (by simp only [Act.put, List.setIfInBounds_toArray, List.set_cons_succ, List.set_cons_zero]; rfl) ?_
                        clear hs; intro w1 hs
                        refine wt_and (hs.sub (by repeat (first | exact List.Sublist.refl _ | refine List.Sublist.cons_cons _ ?_ | refine List.Sublist.cons _ ?_))) fun hC => ?_
                        refine wt_take 6 rfl (by kernel_rfl) (by kernel_rfl) (by kernel_rfl) (fun _ _ _ _ h => h) rfl hC ⟨_, fun w hw => by (go_simp; try with_reducible rfl), fun a1 ha => ?_⟩
                        simp only [Act.put, List.setIfInBounds_toArray, List.set_cons_succ, List.set_cons_zero] at ha; subst ha
                        refine wt_take 7 rfl (by kernel_rfl) (by kernel_rfl) (by kernel_rfl) (fun _ _ _ _ h => h) rfl hC ⟨_, fun w hw => by (go_simp; try with_reducible rfl), fun a1 ha => ?_⟩
                        simp only [Act.put, List.setIfInBounds_toArray, List.set_cons_succ, List.set_cons_zero] at ha; subst ha
                        refine wt_take 8 rfl (by kernel_rfl) (by kernel_rfl) (by kernel_rfl) (fun _ _ _ _ h => h) rfl hC ⟨_, fun w hw => by (go_simp; try with_reducible rfl), fun a1 ha => ?_⟩
                        simp only [Act.put, List.setIfInBounds_toArray, List.set_cons_succ, List.set_cons_zero] at ha; subst ha
                        refine wt_take 9 rfl (by kernel_rfl) (by kernel_rfl) (by kernel_rfl) (fun _ _ _ _ h => h) rfl hC ⟨_, fun w hw => by (go_simp; try with_reducible rfl), fun a1 ha => ?_⟩
                        simp only [Act.put, List.setIfInBounds_toArray, List.set_cons_succ, List.set_cons_zero] at ha; subst ha
                        refine wt_take 10 rfl (by kernel_rfl) (by kernel_rfl) (by kernel_rfl) (fun _ _ _ _ h => h) rfl hC ⟨_, fun w hw => by (go_simp; try with_reducible rfl), fun a1 ha => ?_⟩
                        simp only [Act.put, List.setIfInBounds_toArray, List.set_cons_succ, List.set_cons_zero] at ha; subst ha
                        refine wt_done (by kernel_rfl) ?_
                        skip
                        go_upto_region 39 with fail
                        refine wt_enterS (List.Sublist.cons_cons _ (List.Sublist.cons _ (List.Sublist.cons _ (List.Sublist.cons _ (List.Sublist.cons _ (List.Sublist.refl _)))))) 11 rfl hs (by kernel_rfl) ?_
                        clear hs; intro w1 hC hs
                        refine wt_take 0 rfl (by kernel_rfl) (by kernel_rfl) (by kernel_rfl) (fun _ _ _ _ h => h) rfl hC ⟨_, fun w hw => by (go_simp; try with_reducible rfl), fun a1 ha => ?_⟩
                        simp only [Act.put, List.setIfInBounds_toArray, List.set_cons_succ, List.set_cons_zero] at ha; subst ha
                        refine wt_take 1 rfl (by kernel_rfl) (by kernel_rfl) (by kernel_rfl) (fun _ _ _ _ h => h) rfl hC ⟨.pointer (some ⟨rA, kk, none⟩), fun w hw => ex_indexA1 rfl Tryd.underlying46 size27 rfl rfl kk rfl hkk, fun a1 ha => ?_⟩
                        simp only [Act.put, List.setIfInBounds_toArray, List.set_cons_succ, List.set_cons_zero] at ha; subst ha
                        refine wt_take 2 rfl (by kernel_rfl) (by kernel_rfl) (by kernel_rfl) (fun _ _ _ _ h => h) rfl hC ⟨.pointer (some ⟨E kk, 0, none⟩), fun w hw => ex_load1 rfl Tryd.underlying27 rfl rfl (by rw [cell_of_row w _ _ _ _ (0, 0) (hw.getB 3 rfl)]; exact rowOf_get hkk), fun a1 ha => ?_⟩
                        simp only [Act.put, List.setIfInBounds_toArray, List.set_cons_succ, List.set_cons_zero] at ha; subst ha
                        refine wt_take 3 rfl (by kernel_rfl) (by kernel_rfl) (by kernel_rfl) (fun _ _ _ _ h => h) rfl hC ⟨_, fun w hw => by (go_simp; try with_reducible rfl), fun a1 ha => ?_⟩
                        simp only [Act.put, List.setIfInBounds_toArray, List.set_cons_succ, List.set_cons_zero] at ha; subst ha
                        refine wt_take 4 rfl (by kernel_rfl) (by kernel_rfl) (by kernel_rfl) (fun _ _ _ _ h => h) rfl hC ⟨_, fun w hw => ex_load1 rfl Tryd.underlying3 rfl rfl (by rw [cell_of_row w _ _ _ _ (0, 0) (hw.getB 0 rfl)]; rfl), fun a1 ha => ?_⟩
                        simp only [Act.put, List.setIfInBounds_toArray, List.set_cons_succ, List.set_cons_zero] at ha; subst ha
                        refine wt_one 5 (by kernel_rfl) ?_
                        refine wt_call0 hs rfl rfl (by go_simp) (rfirst_all pt hct HNk (hs.get 2 rfl)) (by simp only [Act.put, List.setIfInBounds_toArray, List.set_cons_succ, List.set_cons_zero]; rfl) ?_
                        clear hs; intro w1 hs
                        refine wt_and (hs.sub (by repeat (first | exact List.Sublist.refl _ | refine List.Sublist.cons_cons _ ?_ | refine List.Sublist.cons _ ?_))) fun hC => ?_
                        refine wt_take 6 rfl (by kernel_rfl) (by kernel_rfl) (by kernel_rfl) (fun _ _ _ _ h => h) rfl hC ⟨_, fun w hw => by (go_simp; try with_reducible rfl), fun a1 ha => ?_⟩
                        simp only [Act.put, List.setIfInBounds_toArray, List.set_cons_succ, List.set_cons_zero] at ha; subst ha
                        refine wt_take 7 rfl (by kernel_rfl) (by kernel_rfl) (by kernel_rfl) (fun _ _ _ _ h => h) rfl hC ⟨_, fun w hw => by (go_simp; try with_reducible rfl), fun a1 ha => ?_⟩
                        simp only [Act.put, List.setIfInBounds_toArray, List.set_cons_succ, List.set_cons_zero] at ha; subst ha
                        refine wt_take 8 rfl (by kernel_rfl) (by kernel_rfl) (by kernel_rfl) (fun _ _ _ _ h => h) rfl hC ⟨_, fun w hw => by (go_simp; try with_reducible rfl), fun a1 ha => ?_⟩
                        simp only [Act.put, List.setIfInBounds_toArray, List.set_cons_succ, List.set_cons_zero] at ha; subst ha
                        refine wt_take 9 rfl (by kernel_rfl) (by kernel_rfl) (by kernel_rfl) (fun _ _ _ _ h => h) rfl hC ⟨_, fun w hw => by (go_simp; try with_reducible rfl), fun a1 ha => ?_⟩
                        simp only [Act.put, List.setIfInBounds_toArray, List.set_cons_succ, List.set_cons_zero] at ha; subst ha
                        refine wt_take 10 rfl (by kernel_rfl) (by kernel_rfl) (by kernel_rfl) (fun _ _ _ _ h => h) rfl hC ⟨_, fun w hw => by (go_simp; try with_reducible rfl), fun a1 ha => ?_⟩
                        simp only [Act.put, List.setIfInBounds_toArray, List.set_cons_succ, List.set_cons_zero] at ha; subst ha
                        refine wt_done (by kernel_rfl) ?_
                        skip
                        go_wp2_with (first
                            | ((with_reducible refine at_load rfl ?_); refine wl_load1 (v := .pointer (some ⟨D kk, 0, none⟩)) hs rfl rfl Tryd.underlying23 rfl rfl 6 rfl (rowOf_get hkk) ?_)
                            | ((with_reducible refine at_load rfl ?_); refine wl_load1 (v := .pointer (some ⟨E kk, 0, none⟩)) hs rfl rfl Tryd.underlying27 rfl rfl 7 rfl (rowOf_get hkk) ?_)
                            | (go_at_call 18; refine (set_any _ HNk (hs.get 1 rfl)).mono ?_; rintro e w2 ⟨rfl, hc⟩; replace hs := hs.upd 1 rfl hc; clear hc)
                            | (go_at_call 20; refine (rset_any _ HNk (hs.get 2 rfl)).mono ?_; rintro e w2 ⟨rfl, hc⟩; replace hs := hs.upd 2 rfl hc; clear hc))
                        go_roundw
                        case rel => exact ⟨k + 1, setF F kk (updI (F kk) (N kk) (firstN (F kk) (N kk) pt) true), by omega, by go_num, setF_far HZ.out (updI_far HZk.out), unpick2 kk hkk (hs.erase 0)⟩
                        case measure => simp [intOf]; omega
                    ·
                      have d1 : (c == 1) = false := by rw [beq_eq_false_iff_ne]; exact c1
                      have d2 : (c == 2) = false := by rw [beq_eq_false_iff_ne]; exact c2
                      have d3 : (c == 3) = false := by rw [beq_eq_false_iff_ne]; exact c3
                      have d4 : (c == 4) = false := by rw [beq_eq_false_iff_ne]; exact c4
                      have d5 : (c == 5) = false := by rw [beq_eq_false_iff_ne]; exact c5
                      have d6 : (c == 6) = false := by rw [beq_eq_false_iff_ne]; exact c6
                      clear c1 c2 c3 c4 c5 c6
                      as_aux_lemma =>
                        go_wp2_with (first
                            | ((with_reducible refine at_load rfl ?_); refine wl_load3 rfl rfl Tryd.underlying48 rfl size48 rfl (hs.keepCell Q0.out) (hs.keepCell Q1.out) (hs.keepCell Q2.out) ?_)
                            | ((with_reducible refine (at_alloc (t := 48)) rfl ?_); refine wl_allocA hs rfl rfl zero48 ?_; clear hs; intro w1 ob hs)
                            | ((with_reducible refine at_store rfl ?_); refine wl_storeA hs rfl rfl rfl rfl size48 (by simp [Value.oneCell']) 0 rfl rfl ?_; clear hs; intro w1 hs)
                            | ((with_reducible refine at_load rfl ?_); refine wl_load1 hs rfl rfl Tryd.underlying3 rfl rfl 0 rfl rfl ?_)
                            | (go_at_call 16; refine (HP.out _).mono ?_; rintro e w2 ⟨rfl, rfl⟩))
                        go_roundw
                        case rel => exact ⟨k + 1, setF F kk (F kk), by omega, by go_num, setF_far HZ.out HZk.out, unpick2 kk hkk (hs.erase 0)⟩
                        case measure => simp [intOf]; omega
        · have hltI : ¬ (k : Int) < M := by omega
          as_aux_lemma =>
            go_wp2_with fail
            clear hltI
            go_loopw [34] (fun i wr => ∃ kk : Nat, kk ≤ 2 ∧ i = .int .i64 kk ∧ Tr w [] wr (prs D S E T N F 0 ++ prs D S E T N F 1 ++ ars sz bA rA D E N)) (fun i _ => 2 - (intOf i).toNat)
            case atStart => exact ⟨0, by omega, rfl, hs⟩
            case round =>
              clear hs
              obtain ⟨kk, hk2, rfl, hs⟩ := hrel
              by_cases hkk : kk < 2
              · have hkI : (kk : Int) < 2 := by omega
                have HNk := HN.out kk
                have HZk := Lib.hid (HZ.out kk)
                replace hs := pick2 kk hkk hs
                go_wp2_with fail
                go_loopw [35] (fun i wr => ∃ q : Int, -1 ≤ q ∧ q ≤ N kk + 1 ∧ i = .int .i64 q ∧ Tr w [] wr [bitsR (D kk) (S kk) (N kk) (F kk), refR (E kk) (T kk) (N kk) (F kk), bitsR (D (1 - kk)) (S (1 - kk)) (N (1 - kk)) (F (1 - kk)), refR (E (1 - kk)) (T (1 - kk)) (N (1 - kk)) (F (1 - kk)), Res.blk sz (rowOf 2 fun j => .int .i64 (N j)) 44, Res.blk bA (rowOf 2 (ptrs D)) 45, Res.blk rA (rowOf 2 (ptrs E)) 46]) (fun i _ => ((N kk : Int) + 1 - intOf i).toNat)
                case atStart => exact ⟨-1, by omega, by omega, rfl, hs⟩
                case round =>
                  clear hs
                  obtain ⟨q, hq1, hq2, rfl, hs⟩ := hrel
                  by_cases hlt2 : q ≤ (N kk : Int)
                  · go_wp2_with (first
                      | ((with_reducible refine at_load rfl ?_); refine wl_load1 (v := .int .i64 ((N kk : Nat) : Int)) hs rfl rfl Tryd.underlying3 rfl rfl 4 rfl (rowOf_get hkk) ?_)
                      | ((with_reducible refine at_load rfl ?_); refine wl_load1 (v := .pointer (some ⟨D kk, 0, none⟩)) hs rfl rfl Tryd.underlying23 rfl rfl 5 rfl (rowOf_get hkk) ?_)
                      | ((with_reducible refine at_load rfl ?_); refine wl_load1 (v := .pointer (some ⟨E kk, 0, none⟩)) hs rfl rfl Tryd.underlying27 rfl rfl 6 rfl (rowOf_get hkk) ?_)
                      | (go_at_call 15; refine (has_any q HNk (hs.get 0 rfl)).mono ?_; rintro e w2 ⟨rfl, hc⟩; replace hs := hs.call0 hc; clear hc)
                      | (go_at_call 22; refine (rhas_any q HNk (hs.get 1 rfl)).mono ?_; rintro e w2 ⟨rfl, hc⟩; replace hs := hs.call0 hc; clear hc))
                    go_roundw
                    case rel => exact ⟨q + 1, by omega, by omega, by go_num, hs⟩
                    case measure => simp [intOf]; omega
                  · go_upto_region 54 with (first | ((with_reducible refine at_load rfl ?_); refine wl_load1 (v := .int .i64 ((N kk : Nat) : Int)) hs rfl rfl Tryd.underlying3 rfl rfl 4 rfl (rowOf_get hkk) ?_))
                    refine wt_enterS (List.Sublist.cons _ (List.Sublist.cons _ (List.Sublist.cons _ (List.Sublist.cons _ (List.Sublist.refl _))))) 9 rfl hs (by kernel_rfl) ?_
                    clear hs; intro w1 hC hs
                    refine wt_take 0 rfl (by kernel_rfl) (by kernel_rfl) (by kernel_rfl) (fun _ _ _ _ h => h) rfl hC ⟨_, fun w hw => by (go_simp; try with_reducible rfl), fun a1 ha => ?_⟩
                    simp only [Act.put, List.setIfInBounds_toArray, List.set_cons_succ, List.set_cons_zero] at ha; subst ha
                    refine wt_take 1 rfl (by kernel_rfl) (by kernel_rfl) (by kernel_rfl) (fun _ _ _ _ h => h) rfl hC ⟨.pointer (some ⟨bA, kk, none⟩), fun w hw => ex_indexA1 rfl Tryd.underlying45 size23 rfl rfl kk rfl hkk, fun a1 ha => ?_⟩
                    simp only [Act.put, List.setIfInBounds_toArray, List.set_cons_succ, List.set_cons_zero] at ha; subst ha
                    refine wt_take 2 rfl (by kernel_rfl) (by kernel_rfl) (by kernel_rfl) (fun _ _ _ _ h => h) rfl hC ⟨.pointer (some ⟨D kk, 0, none⟩), fun w hw => ex_load1 rfl Tryd.underlying23 rfl rfl (by rw [cell_of_row w _ _ _ _ (0, 0) (hw.getB 1 rfl)]; exact rowOf_get hkk), fun a1 ha => ?_⟩
                    simp only [Act.put, List.setIfInBounds_toArray, List.set_cons_succ, List.set_cons_zero] at ha; subst ha
                    refine wt_take 4 rfl (by kernel_rfl) (by kernel_rfl) (by kernel_rfl) (fun _ _ _ _ h => h) rfl hC ⟨_, fun w hw => by (go_simp; try with_reducible rfl), fun a1 ha => ?_⟩
                    simp only [Act.put, List.setIfInBounds_toArray, List.set_cons_succ, List.set_cons_zero] at ha; subst ha
                    refine wt_take 5 rfl (by kernel_rfl) (by kernel_rfl) (by kernel_rfl) (fun _ _ _ _ h => h) rfl hC ⟨.pointer (some ⟨rA, kk, none⟩), fun w hw => ex_indexA1 rfl Tryd.underlying46 size27 rfl rfl kk rfl hkk, fun a1 ha => ?_⟩
                    simp only [Act.put, List.setIfInBounds_toArray, List.set_cons_succ, List.set_cons_zero] at ha; subst ha
                    refine wt_take 6 rfl (by kernel_rfl) (by kernel_rfl) (by kernel_rfl) (fun _ _ _ _ h => h) rfl hC ⟨.pointer (some ⟨E kk, 0, none⟩), fun w hw => ex_load1 rfl Tryd.underlying27 rfl rfl (by rw [cell_of_row w _ _ _ _ (0, 0) (hw.getB 2 rfl)]; exact rowOf_get hkk), fun a1 ha => ?_⟩
                    simp only [Act.put, List.setIfInBounds_toArray, List.set_cons_succ, List.set_cons_zero] at ha; subst ha
                    refine wt_one 3 (by kernel_rfl) ?_
                    refine wt_call0 hs rfl rfl (by go_simp) (count_any HNk HZk.out (hs.get 0 rfl)) (by simp only [Act.put, List.setIfInBounds_toArray, List.set_cons_succ, List.set_cons_zero]; rfl) ?_
                    clear hs; intro w1 hs
                    refine wt_and (hs.sub (by repeat (first | exact List.Sublist.refl _ | refine List.Sublist.cons_cons _ ?_ | refine List.Sublist.cons _ ?_))) fun hC => ?_
                    refine wt_one 7 (by kernel_rfl) ?_
                    refine wt_call0 hs rfl rfl (by go_simp) (rcount_any HNk (hs.get 1 rfl)) (by simp only [Act.put, List.setIfInBounds_toArray, List.set_cons_succ, List.set_cons_zero]; rfl) ?_
                    clear hs; intro w1 hs
                    refine wt_and (hs.sub (by repeat (first | exact List.Sublist.refl _ | refine List.Sublist.cons_cons _ ?_ | refine List.Sublist.cons _ ?_))) fun hC => ?_
                    refine wt_take 8 rfl (by kernel_rfl) (by kernel_rfl) (by kernel_rfl) (fun _ _ _ _ h => h) rfl hC ⟨_, fun w hw => by (go_simp; try with_reducible rfl), fun a1 ha => ?_⟩
                    simp only [Act.put, List.setIfInBounds_toArray, List.set_cons_succ, List.set_cons_zero] at ha; subst ha
                    refine wt_done (by kernel_rfl) ?_
                    skip
                    go_wp2
                    go_roundw
                    case rel => exact ⟨kk + 1, by omega, by go_num, by rw [← setF_same F kk]; exact unpick2 kk hkk hs⟩
                    case measure => simp [intOf]; omega
              · have hkI : ¬ (kk : Int) < 2 := by omega
                go_wp2
                go_ret
                exact ⟨rfl, hs.letgo⟩
theorem plays_walk (x0 x1 : Int) (M cap : Nat) (A B C : Nat → Int) (ao : Option Addr) (db doff : Nat) (w : World) (hle : M ≤ cap) (hmx : cap ≤ maxLen)
    (hao : 0 < M → ao = some ⟨db, doff, none⟩) (hO : Ops3 w db doff M A B C)
    (h0 : -9223372036854775808 ≤ x0 ∧ x0 ≤ 9223372036854775807) (h1 : -9223372036854775808 ≤ x1 ∧ x1 ≤ 9223372036854775807) (hR : Rd w 0 0 64 tabV) :
    Calls Tryd.prog 7 #[.int .i64 x0, .int .i64 x1, .slice ao M cap] w fun e w' => e = .returned (.bool true) ∧ Below w.heap.size w w' := by
  unfold maxLen at hmx
  obtain ⟨n0, hp0, hn0⟩ : ∃ n : Nat, pick x0 4097 = (n : Int) ∧ n ≤ 4096 := ⟨(pick x0 4097).toNat, by have := pick_bd x0 4097 (by omega); omega, by have := pick_bd x0 4097 (by omega); omega⟩
  have P0 := Lib.hid (fun w => pick_any x0 4097 w (by omega) (by omega) h0.1 h0.2)
  rw [hp0] at P0
  obtain ⟨n1, hp1, hn1⟩ : ∃ n : Nat, pick x1 4097 = (n : Int) ∧ n ≤ 4096 := ⟨(pick x1 4097).toNat, by have := pick_bd x1 4097 (by omega); omega, by have := pick_bd x1 4097 (by omega); omega⟩
  have P1 := Lib.hid (fun w => pick_any x1 4097 w (by omega) (by omega) h1.1 h1.2)
  rw [hp1] at P1
  exact (plays_core x0 x1 n0 n1 M cap A B C ao db doff w hn0 hn1 (by omega) hao hO P0 P1 hR).mono fun e w' ⟨he, ht⟩ => ⟨he, ht.below⟩
end Go.Proofs.YtpendlnikdjcjaaDoor
