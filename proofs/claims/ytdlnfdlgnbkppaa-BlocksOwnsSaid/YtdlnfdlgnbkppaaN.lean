/- Spots. -/
import Derived.Test.YtdlnfdlgnbkppaaM
import Derived.Shelf.Abstract
namespace Go.Proofs.Ytdlnfdlgnbkppaa
set_option linter.unusedVariables false
set_option linter.unusedSimpArgs false
open Go Go.Sp Go.RowKit

theorem zero44 : (Try.prog.info? 44).map (·.zero) = some (some (.slice none 0 0)) := by kernel_rfl
theorem zero23 : (Try.prog.info? 23).map (·.zero) = some (some (.int .i64 0)) := by kernel_rfl
theorem zero61 : (Try.prog.info? 61).map (·.zero) = some (some (.agg #[.int .i64 0, .int .i64 0])) := by kernel_rfl
theorem size61 : (Try.prog.info? 61).map (·.size) = some 2 := by kernel_rfl
theorem size44 : (Try.prog.info? 44).map (·.size) = some 1 := by kernel_rfl
theorem spots_nil (x : Value) (cs : Array Value) (hx : x = .agg cs) (w : World) : Calls Try.prog 18 #[.nilIface, x] w fun e w' => e = .returned (.tuple #[.slice none 0 0, .int .i64 1]) ∧ Tr w [] w' [] := by
  have hs := Tr.refl w []
  subst hx
  go_enter Try.func18, Try.ntmps18
  go_wp2_with (first | ((with_reducible refine (at_box (t := 29)) rfl ?_); refine wl_boxA hs rfl rfl rfl ?_; clear hs; intro w1 xb hs))
  go_ret2
  exact ⟨rfl, hs.letgo⟩
theorem mkspots_any (v : Value) (X : Nat → Int) (eb : Nat) (p : Option Addr) (hv : v = .iface 37 (.pointer p)) (w : World) : Calls Try.prog 29 #[v, .agg (rowOf 18 (gI X)), .pointer (some ⟨eb, 0, none⟩)] w fun e w' => ∃ b5 b3 b4, e = .returned (.func (.func 35) #[] #[.pointer (some ⟨b5, 0, none⟩), .pointer (some ⟨b3, 0, none⟩), .pointer (some ⟨b4, 0, none⟩)]) ∧
    Tr w [] w' [Res.blk b5 #[.pointer (some ⟨eb, 0, none⟩)] 76, Res.blk b4 (rowOf 18 (gI X)) 29, Res.blk b3 #[v] 67] := by
  have hs := Tr.refl w []
  subst hv
  have hmf : ∀ (fn : Fn) (first cap : Array Value) (w : World), (Instr.makeFunc fn first cap).run Try.prog w = .ok (.func fn first cap) w := fun _ _ _ _ => rfl
  go_enter Try.func29, Try.ntmps29
  go_wp2_with (first | ((with_reducible refine (at_box (t := 67)) rfl ?_); refine wl_box1 hs rfl rfl rfl rfl ?_; clear hs; intro w1 b3 hs) | ((with_reducible refine (at_box (t := 29)) rfl ?_); refine wl_boxA hs rfl rfl rfl ?_; clear hs; intro w1 b4 hs) | ((with_reducible refine (at_box (t := 76)) rfl ?_); refine wl_box1 hs rfl rfl rfl rfl ?_; clear hs; intro w1 b5 hs))
  go_ret
  exact ⟨b5, b3, b4, rfl, hs⟩
theorem own_one {w0 w : World} {S : List Nat} {L : List Res} (hs : Tr w0 S w L) (i : Nat) {e size n : Nat} {v : Value} {xs : List Value} (hi : L[i]? = some (Res.own e size v n xs)) : v.oneCell' = true := by
  obtain ⟨ao, c, rfl, _⟩ := hs.own_shape i hi
  rfl
set_option maxRecDepth 20000 in
set_option maxHeartbeats 2000000 in
theorem spots_core (s : Src) (X : Nat → Int) (mb : Nat) (EF : Int) (PF LF : List (Int × Int)) (w : World) (h : Rdr s mb w)
    (HIT : Hid (∀ (l eb b5 b3 b4 : Nat) (J : List (Int × Int) → List Res → Prop) (w1 : World) (L : List Res), Yc l J w → J [] L → Tr w [] w1 (Res.blk eb #[.int .i64 0] 23 :: Res.blk b5 #[.pointer (some ⟨eb, 0, none⟩)] 76 :: Res.blk b3 #[.iface 37 (.pointer (some ⟨mb, 0, none⟩))] 67 :: Res.blk b4 (rowOf 18 (gI X)) 29 :: L) →
      Calls Try.prog 35 #[.func (.yield l) #[] #[], .pointer (some ⟨b5, 0, none⟩), .pointer (some ⟨b3, 0, none⟩), .pointer (some ⟨b4, 0, none⟩)] w1 fun e w' => e = .returned (.tuple #[]) ∧ ∃ L', J PF L' ∧
      Tr w [] w' (Res.blk eb #[.int .i64 EF] 23 :: Res.blk b5 #[.pointer (some ⟨eb, 0, none⟩)] 76 :: Res.blk b3 #[.iface 37 (.pointer (some ⟨mb, 0, none⟩))] 67 :: Res.blk b4 (rowOf 18 (gI X)) 29 :: L')))
    (HL0 : Hid (EF = 0 → LF = PF)) (HL1 : Hid (EF ≠ 0 → LF = [])) :
    Calls Try.prog 18 #[.iface 37 (.pointer (some ⟨mb, 0, none⟩)), .agg (rowOf 18 (gI X))] w (SpP EF LF w) := by
  have hs := Tr.refl w []
  have H := Lib.hid h
  clear h
  refine (callsIn_wide (n := 3)).1 (callsIn_of_wp_marks Try.func18 rfl trivial (wpIn_wide.2 ?_))
  simp only [Try.ntmps18, List.size_toArray, List.length_cons, List.length_nil, Nat.reduceAdd, Nat.reduceSub, Array.replicate_succ, Array.replicate_zero, List.push_toArray, List.append_toArray, List.nil_append, List.cons_append]
  go_wp2_with (first | ((with_reducible refine (at_box (t := 29)) rfl ?_); refine wl_boxA hs rfl rfl rfl ?_; clear hs; intro w1 xb hs) | ((with_reducible refine (at_alloc (t := 44)) rfl ?_); refine wl_alloc1 hs rfl rfl zero44 rfl ?_; clear hs; intro w1 lb hs) | ((with_reducible refine (at_alloc (t := 23)) rfl ?_); refine wl_alloc1 hs rfl rfl zero23 rfl ?_; clear hs; intro w1 eb hs) | ((with_reducible refine (at_load (t := 29)) rfl ?_); refine wl_loadA hs rfl rfl Try.underlying29 rfl rfl 2 rfl (size29 _) ?_) | (go_at_call 29; refine (mkspots_any _ X eb _ rfl _).mono ?_; rintro e w2 ⟨b5, b3, b4, rfl, hc⟩; replace hs := hs.call hc; clear hc))
  have hs3 : Tr w [] w2 ([Res.blk eb #[.int .i64 0] 23, Res.blk b5 #[.pointer (some ⟨eb, 0, none⟩)] 76, Res.blk b3 #[.iface 37 (.pointer (some ⟨mb, 0, none⟩))] 67, Res.blk b4 (rowOf 18 (gI X)) 29] ++ [Res.blk lb #[.slice none 0 0] 44, Res.own 61 2 (.slice none 0 0) 0 (sps []), Res.blk xb (rowOf 18 (gI X)) 29]) := by
    have h1 := (hs.addNil 61 2)
    have p : ∀ (o a b c d e f : Res), [o, a, b, c, d, e, f].Perm [d, a, c, b, e, o, f] := fun o a b c d e f => by
      have h1 : [o, a, b, c, d, e, f].Perm [a, b, c, d, e, o, f] := (List.perm_append_comm (l₁ := [o]) (l₂ := [a, b, c, d, e])).append_right [f]
      have h2 : [a, b, c, d, e, o, f].Perm [d, a, b, c, e, o, f] := (List.perm_append_comm (l₁ := [a, b, c]) (l₂ := [d])).append_right [e, o, f]
      exact h1.trans (h2.trans (List.Perm.cons d (List.Perm.cons a (List.Perm.swap c b [e, o, f]))))
    exact h1.perm (p _ _ _ _ _ _ _)
  clear hs; have hs := hs3; clear hs3
  refine wp_rangeFunc_tr (gf := 35) (lb := #[.pointer (some ⟨b5, 0, none⟩), .pointer (some ⟨b3, 0, none⟩), .pointer (some ⟨b4, 0, none⟩)]) rfl (enters_of Try.func35 (by kernel_rfl) rfl) rfl (F1 := [Res.blk eb #[.int .i64 EF] 23, Res.blk b5 #[.pointer (some ⟨eb, 0, none⟩)] 76, Res.blk b3 #[.iface 37 (.pointer (some ⟨mb, 0, none⟩))] 67, Res.blk b4 (rowOf 18 (gI X)) 29])
    hs (fun pre L => ∃ v, L = [Res.blk lb #[v] 44, Res.own 61 2 v pre.length (sps pre), Res.blk xb (rowOf 18 (gI X)) 29]) ⟨_, rfl⟩ PF (fun l J2 L2 W hJ2 hY hsW => HIT.out l eb b5 b3 b4 J2 W L2 hY hJ2 hsW) ?_ ?_
  · clear hs HIT
    rintro m l D fn pre x y W G L ⟨v, rfl⟩ hlen hs
    generalize recL fn _ _ _ _ D .ready = R1 at *
    generalize recL fn _ _ _ _ D .busy = R2 at *
    have hs3 : Tr w [] W (Res.obj l R1 :: Res.obj D (.deferred (some [])) :: Res.blk lb #[v] 44 :: Res.own 61 2 v pre.length (sps pre) :: Res.blk xb (rowOf 18 (gI X)) 29 :: G) := hs
    clear hs; have hs := hs3; clear hs3
    simp only [List.zip_toArray, List.foldl_toArray, List.zip_cons_cons, List.zip_nil_right, List.foldl_cons, List.foldl_nil, List.setIfInBounds_toArray, List.set_cons_succ, List.set_cons_zero]
    gi_wp2_with (first
      | ((with_reducible refine iat_alloc (t := 61) rfl ?_); refine wi_allocA (fun _ => trivial) hs rfl rfl zero61 ?_; clear hs; intro w1 nb hs)
      | ((with_reducible refine iat_store (t := 61) rfl ?_); refine wi_storeA (fun _ => trivial) hs rfl rfl rfl rfl size61 (by simp [Value.oneCell']) 0 rfl rfl ?_; clear hs; intro w1 hs))
    refine ⟨[Res.blk nb #[.int .i64 x, .int .i64 y] 61], hs, fun w₂ hs₂ => ?_⟩
    have hs3 : Tr w [] w₂ (Res.blk nb #[.int .i64 x, .int .i64 y] 61 :: Res.obj l R2 :: Res.obj D (.deferred (some [])) :: Res.blk lb #[v] 44 :: Res.own 61 2 v pre.length (sps pre) :: Res.blk xb (rowOf 18 (gI X)) 29 :: G) := hs₂
    clear hs hs₂; have hs := hs3; clear hs3
    gi_wp2_with (first
      | ((with_reducible refine iat_load (t := 44) rfl ?_); refine wi_load1 (fun _ => trivial) hs rfl rfl Try.underlying44 rfl rfl 3 rfl rfl ?_)
      | ((with_reducible refine iat_load (t := 61) rfl ?_); refine wi_loadA (fun _ => trivial) hs rfl rfl Try.underlying61 rfl rfl 0 rfl size61 ?_)
      | ((with_reducible refine iat_buildSlice rfl ?_); refine wi_buildSlice1A (fun _ => trivial) hs rfl rfl Try.underlying44 info61 (by omega) (by omega) (cs := #[.int .i64 x, .int .i64 y]) rfl rfl ?_; clear hs; intro w1 eb2 hs)
      | ((with_reducible refine (iat_bi .append) rfl ?_); refine wi_append1 (fun _ => trivial) hs rfl rfl Try.underlying44 info61 rfl (by omega) 5 rfl rfl 0 rfl rfl rfl (by simp [Value.oneCell']) (by unfold maxLen; omega) (by omega) ?_; clear hs; intro w1 v1 hs)
      | ((with_reducible refine iat_store (t := 44) rfl ?_); refine wi_store1 (fun _ => trivial) hs rfl rfl size44 rfl rfl (own_one hs 5 rfl) 4 rfl (of_decide_eq_true rfl) ?_; clear hs; intro w1 hs))
    refine ⟨_, ⟨v1, rfl⟩, ?_⟩
    have hs3 := (hs.erase 0).erase 0
    rw [← sps_snoc]
    exact hs3
  · clear hs HIT
    rintro D W L' ⟨v, rfl⟩ hs
    have hs3 : Tr w [] W [Res.obj D (.deferred (some [])), Res.blk eb #[.int .i64 EF] 23, Res.blk b5 #[.pointer (some ⟨eb, 0, none⟩)] 76, Res.blk b3 #[.iface 37 (.pointer (some ⟨mb, 0, none⟩))] 67, Res.blk b4 (rowOf 18 (gI X)) 29, Res.blk lb #[v] 44, Res.own 61 2 v PF.length (sps PF), Res.blk xb (rowOf 18 (gI X)) 29] := hs
    clear hs; have hs := hs3; clear hs3
    by_cases hE : EF = 0
    · have HL := Lib.hid (HL0.out hE)
      subst hE
      go_wp2_with (first | ((with_reducible refine at_load rfl ?_); refine wl_load1 hs rfl rfl Try.underlying23 rfl rfl 1 rfl rfl ?_) | ((with_reducible refine at_load rfl ?_); refine wl_load1 hs rfl rfl Try.underlying44 rfl rfl 5 rfl rfl ?_))
      refine ⟨by simp, .inl ⟨_, _, rfl, run_takeDeferred (hs.getObj 0 rfl), ?_⟩⟩
      have hs2 := ((hs.putObj 0 rfl (.deferred none)).perm (List.perm_append_comm (l₁ := [Res.obj D (.deferred none), Res.blk eb #[.int .i64 0] 23, Res.blk b5 #[.pointer (some ⟨eb, 0, none⟩)] 76, Res.blk b3 #[.iface 37 (.pointer (some ⟨mb, 0, none⟩))] 67, Res.blk b4 (rowOf 18 (gI X)) 29, Res.blk lb #[v] 44]) (l₂ := [Res.own 61 2 v PF.length (sps PF), Res.blk xb (rowOf 18 (gI X)) 29])))
      exact ⟨_, results_tmp2 rfl _ _ _, _, rfl, by rw [HL.out]; exact hs2.sub (List.Sublist.cons_cons _ (List.nil_sublist _))⟩
    · have HL := Lib.hid (HL1.out hE)
      have tE : (EF != 0) = true := by simpa using hE
      clear hE
      go_wp2_with (first | ((with_reducible refine at_load rfl ?_); refine wl_load1 hs rfl rfl Try.underlying23 rfl rfl 1 rfl rfl ?_))
      refine wt_enter 3 rfl hs (by kernel_rfl) ?_
      clear hs; intro w1 hs; have hC := hs
      refine wt_all [0, 1] (by kernel_rfl) (by simp) ?_
      refine wt_cons ?_ ?_
      ·
        refine wt_run (v := .int .i64 EF) (w' := w1) rfl rfl (ex_load1 rfl Try.underlying23 rfl rfl (by rw [cell_of_row _ _ _ _ _ (0, 0) (hs.getB 1 rfl)]; rfl)) (by simp only [Act.put, List.setIfInBounds_toArray, List.set_cons_succ, List.set_cons_zero]; rfl) ?_
        refine wt_and (hs.sub (by repeat (first | exact List.Sublist.refl _ | refine List.Sublist.cons_cons _ ?_ | refine List.Sublist.cons _ ?_))) fun hC => ?_
        refine wt_one 1 (by kernel_rfl) ?_
        refine wt_run (v := .slice none 0 0) (w' := w1) rfl rfl (by go_simp) (by simp only [Act.put, List.setIfInBounds_toArray, List.set_cons_succ, List.set_cons_zero]; rfl) ?_
        refine wt_and (hs.sub (by repeat (first | exact List.Sublist.refl _ | refine List.Sublist.cons_cons _ ?_ | refine List.Sublist.cons _ ?_))) fun hC => ?_
        refine wt_one 2 (by kernel_rfl) ?_
        refine wt_run (v := .int .i64 EF) (w' := w1) rfl rfl (by go_simp) (by simp only [Act.put, List.setIfInBounds_toArray, List.set_cons_succ, List.set_cons_zero]; rfl) ?_
        refine wt_and (hs.sub (by repeat (first | exact List.Sublist.refl _ | refine List.Sublist.cons_cons _ ?_ | refine List.Sublist.cons _ ?_))) fun hC => ?_
        refine wt_done (by kernel_rfl) ?_
        go_wp2
        refine ⟨by simp, .inl ⟨_, _, rfl, run_takeDeferred (hs.getObj 0 rfl), ?_⟩⟩
        exact ⟨_, results_tmp2 rfl _ _ _, _, rfl, by rw [HL.out]; exact (hs.putObj 0 rfl (.deferred none)).letgo.addNil 61 2⟩
      refine wt_cons ?_ ?_
      ·
        refine wt_run (v := .slice none 0 0) (w' := w1) rfl rfl (by go_simp) (by simp only [Act.put, List.setIfInBounds_toArray, List.set_cons_succ, List.set_cons_zero]; rfl) ?_
        refine wt_and (hs.sub (by repeat (first | exact List.Sublist.refl _ | refine List.Sublist.cons_cons _ ?_ | refine List.Sublist.cons _ ?_))) fun hC => ?_
        refine wt_one 0 (by kernel_rfl) ?_
        refine wt_run (v := .int .i64 EF) (w' := w1) rfl rfl (ex_load1 rfl Try.underlying23 rfl rfl (by rw [cell_of_row _ _ _ _ _ (0, 0) (hs.getB 1 rfl)]; rfl)) (by simp only [Act.put, List.setIfInBounds_toArray, List.set_cons_succ, List.set_cons_zero]; rfl) ?_
        refine wt_and (hs.sub (by repeat (first | exact List.Sublist.refl _ | refine List.Sublist.cons_cons _ ?_ | refine List.Sublist.cons _ ?_))) fun hC => ?_
        refine wt_one 2 (by kernel_rfl) ?_
        refine wt_run (v := .int .i64 EF) (w' := w1) rfl rfl (by go_simp) (by simp only [Act.put, List.setIfInBounds_toArray, List.set_cons_succ, List.set_cons_zero]; rfl) ?_
        refine wt_and (hs.sub (by repeat (first | exact List.Sublist.refl _ | refine List.Sublist.cons_cons _ ?_ | refine List.Sublist.cons _ ?_))) fun hC => ?_
        refine wt_done (by kernel_rfl) ?_
        go_wp2
        refine ⟨by simp, .inl ⟨_, _, rfl, run_takeDeferred (hs.getObj 0 rfl), ?_⟩⟩
        exact ⟨_, results_tmp2 rfl _ _ _, _, rfl, by rw [HL.out]; exact (hs.putObj 0 rfl (.deferred none)).letgo.addNil 61 2⟩
      exact wt_nil
/-! The two meet. -/
theorem seE_zero (s : Src) (n : Int) : seE s 0 n = tbE s n := if_pos rfl
theorem seF_zero (s : Src) (n : Int) : seF s 0 n = tbF s n := if_pos rfl
theorem esK_err {s : Src} {T : Nat → Int} {e0 : Int} (h : e0 ≠ 0) : ∀ k, esK s T e0 k = e0
  | 0 => rfl
  | k + 1 => by simp only [esK]; rw [esK_err h k]; exact if_neg h
theorem esK_er (s : Src) (T : Nat → Int) : ∀ k, esK s T 0 k = erK (tbE s) T k
  | 0 => rfl
  | k + 1 => by
    simp only [esK, erK]; rw [esK_er s T k]
    by_cases h : erK (tbE s) T k = 0
    · rw [if_neg (by simpa using h), h]; exact seE_zero _ _
    · rw [if_pos h]; exact if_neg h
theorem plK_sp {s : Src} {T : Nat → Int} {L0 : List (Int × Int)} (h : erK (tbE s) T 32 = 0) : ∀ k, k ≤ 32 → plK s T 0 L0 k = spK (tbF s) T L0 k
  | 0, _ => rfl
  | k + 1, hk => by
    simp only [plK, spK]
    rw [plK_sp h k (by omega), esK_er]
    have h0 : erK (tbE s) T k = 0 := by
      by_cases hc : erK (tbE s) T k = 0
      · exact hc
      · have := erK_stays (tbE s) T k (32 - k) hc
        rw [show k + (32 - k) = 32 by omega, h] at this
        exact absurd this.symm hc
    rw [h0, seF_zero]
theorem sp_err (s : Src) (X : Nat → Int) : esK s (seF s (seE s 0 (X 16)) (X 17)) (seE s (seE s 0 (X 16)) (X 17)) 32 = spE s X := by
  rw [seE_zero]
  unfold spE
  by_cases h1 : tbE s (X 16) = 0
  · rw [if_neg (by simpa using h1), h1, seE_zero, seF_zero]
    by_cases h2 : tbE s (X 17) = 0
    · rw [if_neg (by simpa using h2), h2]; exact esK_er _ _ _
    · rw [if_pos h2]; exact esK_err h2 _
  · rw [if_pos h1, show seE s (tbE s (X 16)) (X 17) = tbE s (X 16) from if_neg h1]; exact esK_err h1 _
theorem sp_list {s : Src} {X : Nat → Int} (h : spE s X = 0) : plK s (seF s (seE s 0 (X 16)) (X 17)) (seE s (seE s 0 (X 16)) (X 17)) (nzS 0 (fun i => X (4 + i)) 12 ++ nzS 12 (seF s 0 (X 16)) 32) 32 = spA s X := by
  unfold spE at h
  by_cases h1 : tbE s (X 16) = 0
  · rw [if_neg (by simpa using h1)] at h
    by_cases h2 : tbE s (X 17) = 0
    · rw [if_neg (by simpa using h2)] at h
      rw [seE_zero, h1, seE_zero, seF_zero, seF_zero, h2]
      exact plK_sp h 32 (Nat.le_refl _)
    · rw [if_pos h2] at h; exact absurd h h2
  · rw [if_pos h1] at h; exact absurd h h1
theorem spots_any (s : Src) (X : Nat → Int) (mb : Nat) (w : World) (h : Rdr s mb w) :
    Calls Try.prog 18 #[.iface 37 (.pointer (some ⟨mb, 0, none⟩)), .agg (rowOf 18 (gI X))] w (SpP (spE s X) (spL s X) w) := by
  refine spots_core s X mb (spE s X) (plK s (seF s (seE s 0 (X 16)) (X 17)) (seE s (seE s 0 (X 16)) (X 17)) (nzS 0 (fun i => X (4 + i)) 12 ++ nzS 12 (seF s 0 (X 16)) 32) 32) (spL s X) w h (Lib.hid fun l eb b5 b3 b4 J w1 L hY hJ hs => ?_)
    (Lib.hid fun h => by rw [sp_list h]; exact if_pos h) (Lib.hid fun h => if_neg h)
  have := iter_core s X (seF s 0 (X 16)) (seF s (seE s 0 (X 16)) (X 17)) (seE s 0 (X 16)) (seE s (seE s 0 (X 16)) (X 17)) (seF s) mb l eb b5 b3 b4 J (esK s (seF s (seE s 0 (X 16)) (X 17)) (seE s (seE s 0 (X 16)) (X 17))) (plK s (seF s (seE s 0 (X 16)) (X 17)) (seE s (seE s 0 (X 16)) (X 17)) (nzS 0 (fun i => X (4 + i)) 12 ++ nzS 12 (seF s 0 (X 16)) 32)) w w1 L h hY hJ
    (Lib.hid rfl) (Lib.hid rfl) (Lib.hid rfl) (Lib.hid rfl) (Lib.hid rfl) (Lib.hid fun _ => rfl) (Lib.hid rfl) (Lib.hid fun _ => rfl)
    (Lib.hid fun k => plK_len s _ _ (by have h1 := nzS_len 0 (fun i => X (4 + i)) 12; have h2 := nzS_len 12 (seF s 0 (X 16)) 32; simp only [List.length_append]; omega) k) hs
  rw [sp_err] at this
  exact this
end Go.Proofs.Ytdlnfdlgnbkppaa
