/- SpaceFull: the walk. -/
import Derived.Test.YtfedfdcbhggipaaDoorWGives
namespace Go.Proofs.YtfedfdcbhggipaaDoor
set_option linter.unusedVariables false
set_option linter.unusedSimpArgs false
open Go Go.Sp Go.RowKit Go.BigFrame

def fillB (m j : Nat) : Nat → Nat := fun k => if m < k ∧ k < j then 1 else 0
def laterB (m n j : Nat) : Nat → Nat := fun k => if m + 1 < k ∧ k < j then 2 else fillB m n k
def told (m : Nat) (g : Nat → Nat) : Nat → Nat → Bool
  | 0, _ => false
  | k + 1, b => if b = g k then decide (m + 1 < g k) else told m g k b
def backB (T : Nat → Bool) (D : Nat → Nat) (j : Nat) : Nat → Nat := fun b => if b < j ∧ T b = true then 1 else D b
theorem fillB_start (m : Nat) : fillB m (m + 1) = B0 := by
  funext k; simp only [fillB, B0]; rw [if_neg (by omega)]
theorem fillB_two (m j k : Nat) : fillB m j k ≤ 2 := by simp only [fillB]; split <;> omega
theorem laterB_two (m n j k : Nat) : laterB m n j k ≤ 2 := by
  simp only [laterB]; split
  · omega
  · exact fillB_two _ _ _
theorem fillB_set {m j : Nat} (h : m < j) : setB (fillB m j) j 1 = fillB m (j + 1) := by
  funext k; simp only [setB, fillB]
  by_cases e : k = j
  · subst e; rw [if_pos rfl, if_pos ⟨h, by omega⟩]
  · rw [if_neg e]
    by_cases e2 : m < k ∧ k < j
    · rw [if_pos e2, if_pos (by omega)]
    · rw [if_neg e2, if_neg (by omega)]
theorem laterB_start (m n : Nat) : laterB m n (m + 2) = fillB m n := by
  funext k; simp only [laterB]; rw [if_neg (by omega)]
theorem laterB_set {m n j : Nat} (h : m + 1 < j) : setB (laterB m n j) j 2 = laterB m n (j + 1) := by
  funext k; simp only [setB, laterB]
  by_cases e : k = j
  · subst e; rw [if_pos rfl, if_pos ⟨h, by omega⟩]
  · rw [if_neg e]
    by_cases e2 : m + 1 < k ∧ k < j
    · rw [if_pos e2, if_pos (by omega)]
    · rw [if_neg e2, if_neg (by omega)]
theorem laterB_at {m n j : Nat} (h : m + 1 < j) (hj : j < n) : laterB m n j j = 1 := by
  simp only [laterB, fillB]; rw [if_neg (by omega), if_pos (by omega)]
theorem laterB_ne {m n j i : Nat} (h : m < i) (hj : i < n) : laterB m n j i ≠ 0 := by
  simp only [laterB, fillB]; split
  · omega
  · rw [if_pos ⟨h, hj⟩]; omega
theorem laterB_end {m n i : Nat} (hj : i < n) : laterB m n n i = if m + 1 < i then 2 else if m < i then 1 else 0 := by
  simp only [laterB, fillB]
  by_cases h1 : m + 1 < i
  · rw [if_pos ⟨h1, hj⟩, if_pos h1]
  · rw [if_neg (by omega), if_neg h1]
    by_cases h2 : m < i
    · rw [if_pos ⟨h2, hj⟩, if_pos h2]
    · rw [if_neg (by omega), if_neg h2]
theorem told_low {m : Nat} {g : Nat → Nat} {b : Nat} : ∀ {k}, told m g k b = true → m + 1 < b
  | 0, h => by cases h
  | k + 1, h => by
    simp only [told] at h
    split at h
    · rename_i e; rw [e]; exact of_decide_eq_true h
    · exact told_low h
theorem landS_hit {C : Nat → Nat} {x : Nat} (h : C x = 2) (b : Nat) : landS C x b = if b = x then 0 else C b := by
  have e : landS C x = setB C x 0 := if_pos h
  rw [e]; rfl
theorem landS_miss {C : Nat → Nat} {x : Nat} (h : C x ≠ 2) (b : Nat) : landS C x b = C b := by
  have e : landS C x = C := if_neg h
  rw [e]
theorem landed_told {m n : Nat} {g : Nat → Nat} {N : Nat} (hg : ∀ i, i < N → m < g i ∧ g i < n) : ∀ k, k ≤ N → ∀ b, landB (laterB m n n) (fun i => (g i : Int)) k b = if told m g k b = true then 0 else laterB m n n b
  | 0, _, b => by simp [landB, told]
  | k + 1, hk, b => by
    have ih := landed_told hg k (by omega)
    have hgk := hg k (by omega)
    show landS (landB (laterB m n n) (fun i => (g i : Int)) k) (Int.toNat (g k : Int)) b = _
    rw [Int.toNat_natCast]
    generalize landB (laterB m n n) (fun i => (g i : Int)) k = C at ih ⊢
    have hl := laterB_end (m := m) hgk.2
    have hC := ih (g k)
    have hb := ih b
    have ht : told m g (k + 1) b = if b = g k then decide (m + 1 < g k) else told m g k b := rfl
    rw [ht]
    by_cases h1 : m + 1 < g k
    · rw [if_pos h1] at hl
      rw [decide_eq_true h1]
      by_cases ht : told m g k (g k) = true
      · rw [if_pos ht] at hC
        rw [landS_miss (by omega)]
        by_cases e : b = g k
        · subst e; rw [if_pos rfl, if_pos rfl]; exact hC
        · rw [if_neg e]; exact hb
      · rw [if_neg ht, hl] at hC
        rw [landS_hit hC]
        by_cases e : b = g k
        · rw [if_pos e, if_pos e, if_pos rfl]
        · rw [if_neg e, if_neg e]; exact hb
    · rw [if_neg h1, if_pos hgk.1] at hl
      have ht : ¬ told m g k (g k) = true := fun h => h1 (told_low h)
      rw [if_neg ht, hl] at hC
      rw [landS_miss (by omega), decide_eq_false h1]
      by_cases e : b = g k
      · subst e; rw [if_pos rfl, if_neg (by simp), hC, hl]
      · rw [if_neg e]; exact hb
theorem backB_start (T : Nat → Bool) (D : Nat → Nat) (m : Nat) (h : ∀ b, T b = true → m < b) : backB T D (m + 1) = D := by
  funext b; simp only [backB]
  rw [if_neg fun e => by have := h b e.2; omega]
theorem backB_yes {T : Nat → Bool} {D : Nat → Nat} {j : Nat} (h : T j = true) : setB (backB T D j) j 1 = backB T D (j + 1) := by
  funext b; simp only [setB, backB]
  by_cases e : b = j
  · subst e; rw [if_pos rfl, if_pos ⟨by omega, h⟩]
  · rw [if_neg e]
    by_cases e2 : b < j ∧ T b = true
    · rw [if_pos e2, if_pos ⟨by omega, e2.2⟩]
    · rw [if_neg e2, if_neg fun e3 => e2 ⟨by omega, e3.2⟩]
theorem backB_no {T : Nat → Bool} {D : Nat → Nat} {j : Nat} (h : T j = false) : backB T D j = backB T D (j + 1) := by
  funext b; simp only [backB]
  by_cases e : b = j
  · subst e; rw [if_neg (by omega), if_neg fun e3 => by rw [h] at e3; cases e3.2]
  · by_cases e2 : b < j ∧ T b = true
    · rw [if_pos e2, if_pos ⟨by omega, e2.2⟩]
    · rw [if_neg e2, if_neg fun e3 => e2 ⟨by omega, e3.2⟩]
theorem own_snoc (f : Nat → Value) (k : Nat) : (rowOf k f).toList ++ (rowOf 1 fun _ => f k).toList = (rowOf (k + 1) f).toList := by
  apply List.ext_getElem?
  intro j
  rw [List.getElem?_append]
  simp only [Array.getElem?_toList, rowOf_getElem?, Array.length_toList, rowOf_size]
  by_cases h : j < k
  · rw [if_pos h, if_pos h, if_pos (by omega)]
  · rw [if_neg h]
    by_cases h2 : j = k
    · subst h2; rw [if_pos (by omega), if_pos (by omega)]
    · rw [if_neg (by omega), if_neg (by omega)]
theorem pick_val (x : Int) (N : Nat) (hN : 1 ≤ N) (hb : N ≤ 9223372036854775807) (h : -9223372036854775808 ≤ x ∧ x ≤ 9223372036854775807) : (pick x N).toNat < N ∧
    ∀ w, Calls Tryd.prog 22 #[.int .i64 x, .int .i64 N] w fun e w' => e = .returned (.int .i64 ((pick x N).toNat : Nat)) ∧ w = w' := by
  have hp := pick_bd x N (by omega)
  refine ⟨by omega, fun w => ?_⟩
  have := pick_any x N w (by omega) (by omega) h.1 h.2
  rw [show pick x N = ((pick x N).toNat : Int) by omega] at this
  exact this
section
variable {P : Program} {ops : Array Oper} {Q : Exit → Act → World → Prop} {a : Act} {w : World} {o : Oper} {rest : List Oper}
theorem at_fld {t : TypeId} {x : Operand} {j : Nat} (_ : o.op = .field t x j) (h : wpList P ops Q (o :: rest) a w) : wpList P ops Q (o :: rest) a w := h
theorem wl_fld40 (hw : Region.wanted o (yielded ops a.tmps) = true) {x : Operand} (ho : o.op = .field 40 x 0) {p q r : Value} (hx : a.eval x = .agg #[p, q, r]) (k : wpList Tryd.prog ops Q rest (a.put o.dst p) w) : wpList Tryd.prog ops Q (o :: rest) a w :=
  wl_run hw (show (execOp a.eval o).run Tryd.prog w = .ok (.value p) w by unfold execOp; simp [ho, hx, field40_0]) k
end
def gF (m a : Nat) (G : Nat → Int) : Nat → Nat := fun i => m + 1 + (pick (G i) a).toNat
def toldV (m : Nat) (g : Nat → Nat) (k : Nat) : Nat → Value := fun b => .bool (told m g k b)
def gV (g : Nat → Nat) : Nat → Value := fun i => .int .i64 (g i : Nat)
theorem told_step {m n : Nat} {g : Nat → Nat} {k : Nat} {v : Bool} (h : decide (m + 1 < g k) = v) : ∀ j, j < n → (if j = g k then Value.bool v else toldV m g k j) = toldV m g (k + 1) j := by
  intro j _
  simp only [toldV, told]
  split
  · rw [h]
  · rfl
theorem told_nil (m : Nat) (g : Nat → Nat) (m0 i : Nat) (_ : i < m0) : (Value.bool false).cells[i % (Value.bool false).cells.size]! = toldV m g 0 i := by
  have e : i % (Value.bool false).cells.size = 0 := Nat.mod_one i
  rw [e]; rfl
theorem told_at {m n : Nat} {g : Nat → Nat} {k j : Nat} (h : j < n) {b : Bool} (hb : told m g k j = b) : (rowOf n (toldV m g k))[j]? = some (.bool b) := by
  rw [rowOf_get h, toldV, hb]
theorem rd_one {w : World} {b : Nat} {v : Value} {t : TypeId} (h : w.heap[b]? = some (.cells #[v] t (0, 0))) : Rd w b 0 1 fun _ => v := by
  intro j hj
  obtain rfl : j = 0 := by omega
  rw [Nat.zero_add, cell_of_row _ b 0 _ _ (0, 0) h]; rfl
theorem one_one (x : Int) : ∀ u ∈ (rowOf 1 fun _ => Value.int .i64 x).toList, u.oneCell' = true := by
  intro u hu
  obtain ⟨j, hj⟩ := List.getElem?_of_mem hu
  rw [Array.getElem?_toList, rowOf_getElem?] at hj
  split at hj
  · cases hj; rfl
  · cases hj
theorem own_row0 {w0 w : World} {S : List Nat} {L : List Res} (h : Tr w0 S w L) (e : TypeId) (size : Nat) (f : Nat → Value) : Tr w0 S w (Res.own e size (.slice none 0 0) 0 (rowOf 0 f).toList :: L) := by
  rw [rowOf_nil]; exact h.addNil e size
theorem own_apart {w0 w : World} {S : List Nat} {L : List Res} {r : Res} (hs : Tr w0 S w L) (i j : Nat) (hij : i ≠ j) {b n c : Nat} {e : TypeId} {size : Nat} {xs : List Value} (hi : L[i]? = some (Res.own e size (.slice (some ⟨b, 0, none⟩) n c) n xs)) (hj : L[j]? = some r) : b ∉ r.foot := by
  have h1 := hs.perm (perm_pick L i hi)
  have hn := h1.nodup
  have hm : r ∈ L.eraseIdx i := List.mem_eraseIdx_iff_getElem?.2 ⟨j, fun h => hij h.symm, hj⟩
  intro hb
  simp only [feet, List.flatMap_cons] at hn
  have e1 : (Res.own e size (.slice (some ⟨b, 0, none⟩) n c) n xs).foot = [b] := by simp [Res.own, Value.ownBlock]
  rw [e1, List.singleton_append, List.nodup_cons] at hn
  exact hn.1 (List.mem_flatMap.2 ⟨r, hm, hb⟩)
theorem full_counts {n m : Nat} (hm : m + 2 ≤ n) : cntP (rB n m (fillB m n)) n = 0 := cntP_zero fun j hj => by
  by_cases h : m < j
  · have e : fillB m n j = 1 := by simp only [fillB]; exact if_pos ⟨h, hj⟩
    simp [rB, e]
  · simp [rB, h]
theorem later_counts {n m : Nat} (hm : m + 2 ≤ n) : cntP (rB n m (laterB m n n)) n = n - m - 2 ∧ cntP (fL n m (laterB m n n)) n = n - m - 2 := by
  have h1 : cntP (f1 n m (laterB m n n)) n = 1 := by
    have e : cntP (f1 n m (laterB m n n)) n = cntP (fun j => decide (j = m + 1)) n := cntP_congr fun j hj => by
      have hl := laterB_end (m := m) hj
      by_cases h1 : m + 1 < j
      · rw [if_pos h1] at hl
        rw [decide_eq_false (by omega : ¬ j = m + 1)]; simp [f1, hl]
      · rw [if_neg h1] at hl
        by_cases h2 : m < j
        · rw [if_pos h2] at hl
          rw [decide_eq_true (by omega : j = m + 1)]; simp [f1, hl, h2, hj]
        · rw [if_neg h2] at hl
          rw [decide_eq_false (by omega : ¬ j = m + 1)]; simp [f1, hl]
    rw [e]; exact cnt_one (r := m + 1) (by omega) fun j => rfl
  have h2 := used_room (n := n) (m := m) (B := laterB m n n) n (Nat.le_refl _)
  have h3 := free_none (n := n) (m := m) (B := laterB m n n) (laterB_two m n n) (by omega) fun j a b => laterB_ne a b
  omega

set_option maxRecDepth 100000 in
set_option maxHeartbeats 8000000 in
theorem full_core (n m N cap s : Nat) (x0 x1 : Int) (G : Nat → Int) (ao : Option Addr) (db doff : Nat) (w : World) (hmay : 8 ≤ n ∧ n ≤ 4096 ∧ 1 ≤ m ∧ m ≤ 512 ∧ m + 2 ≤ n)
    (hN : N * 8 ≤ 140737488351232) (hao : 0 < N → ao = some ⟨db, doff, none⟩) (hG : Rd w db doff N fun j => .int .i64 (G j)) (hGb : ∀ j, j < N → -9223372036854775808 ≤ G j ∧ G j ≤ 9223372036854775807)
    (PS : Hid (∀ w, Calls Tryd.prog 22 #[.int .i64 x0, .int .i64 300] w fun e w' => e = .returned (.int .i64 s) ∧ w = w'))
    (HS : Hid (∀ w, Calls Tryd.prog 21 #[.int .i64 s, .int .i64 x1] w fun e w' => e = .returned (.agg #[.int .i64 n, .int .i64 m]) ∧ Tr w [] w' [])) (hR : Rd w 0 0 64 tabV) :
    Calls Tryd.prog 6 #[.int .i64 x0, .int .i64 x1, .slice ao N cap] w fun e w' => e = .returned (.bool true) ∧ Tr w [] w' [] := by
  have hs := Tr.refl w []
  have HR := Lib.hid hR
  have HA := Lib.hid hao
  have HG := Lib.hid hG
  have HB := Lib.hid hGb
  have HMAY := Lib.hid hmay
  obtain ⟨h1, h2, h3, h4, h5⟩ := hmay
  clear hR hao hG hGb
  go_enter Tryd.func6, Tryd.ntmps6
  go_upto_region 6 with (first
    | ((with_reducible refine (at_alloc (t := 23)) rfl ?_); refine wl_allocA hs rfl rfl zero23 ?_; clear hs; intro w1 xb hs)
    | ((with_reducible refine at_store rfl ?_); refine wl_storeA hs rfl rfl rfl rfl size23 (by simp [Value.oneCell']) 0 rfl rfl ?_; clear hs; intro w1 hs)
    | ((with_reducible refine (at_load (t := 23)) rfl ?_); refine wl_loadA hs rfl rfl Tryd.underlying23 rfl rfl 0 rfl size23 ?_)
    | (go_at_call 9; refine (awake_any _ (HR.out.keep hs)).mono ?_; rintro e w2 ⟨rfl, hc⟩; replace hs := hs.call0 hc; clear hc)
    | (go_at_call 22; refine (PS.out _).mono ?_; rintro e w2 ⟨rfl, rfl⟩)
    | (go_at_call 21; refine (HS.out _).mono ?_; rintro e w2 ⟨rfl, hc⟩; replace hs := hs.call0 hc; clear hc)
    | (go_at_call 11; refine (new_nil HMAY.out).mono ?_; rintro e w2 ⟨p, b, bs, ii, is, q, rfl, hc⟩; replace hs := hs.call1 hc; clear hc))
  obtain ⟨ri, hri⟩ : ∃ ri : Nat, cntP (rI I0) (m + 1) = ri := ⟨_, rfl⟩
  have HRI := Lib.hid hri
  clear hri
  go_upto_region 7 with (first | ((with_reducible refine at_load rfl ?_); refine wl_load1 hs rfl rfl Tryd.underlying3 rfl rfl 1 rfl rfl ?_))
  go_loopw [11] (fun i wr => ∃ j : Nat, m + 1 ≤ j ∧ j ≤ n ∧ i = .int .i64 j ∧ Tr w [] wr [spaceR p b bs ii is q n m (fillB m j) I0, Res.blk xb #[.int .i64 n, .int .i64 m] 23]) (fun i _ => n - (intOf i).toNat)
  case atStart => exact ⟨m + 1, Nat.le_refl _, by omega, by go_num, by rw [fillB_start]; exact hs⟩
  case round =>
    clear hs
    obtain ⟨j, hj1, hj2, rfl, hs⟩ := hrel
    by_cases hjn : j < n
    · have hjI : (j : Int) < n := by omega
      have HTK := Lib.hid (fun w hR h => take_yes (p := p) (b := b) (bs := bs) (i := ii) (is := is) (q := q) (n := n) (m := m) (w := w) (B := fillB m j) (I := I0) j h2 hj1 hjn (by simp only [fillB]; rw [if_neg (by omega)]) (fun i a b => by simp only [fillB]; rw [if_pos ⟨a, b⟩]; omega) hR h)
      rw [fillB_set (show m < j by omega)] at HTK
      go_wp2_with (first
        | ((with_reducible refine at_load rfl ?_); refine wl_load1 hs rfl rfl Tryd.underlying3 rfl rfl 1 rfl rfl ?_)
        | (go_at_call 19; refine (HTK.out _ (HR.out.keep hs) (hs.get 0 rfl)).mono ?_; rintro e w2 ⟨rfl, hc⟩; replace hs := hs.upd 0 rfl hc; clear hc))
      go_roundw
      case rel => exact ⟨j + 1, by omega, by omega, by go_num, hs⟩
      case measure => simp [intOf]; omega
    · obtain rfl : j = n := by omega
      clear hjn hj1 hj2
      have HTK := Lib.hid (fun w hR h => take_no (p := p) (b := b) (bs := bs) (i := ii) (is := is) (q := q) (n := j) (m := m) (w := w) (B := fillB m j) (I := I0) h2 (fun i a b => by simp only [fillB]; rw [if_pos ⟨a, b⟩]; omega) hR h)
      have HM := Lib.hid (fun w h => room_any (p := p) (b := b) (bs := bs) (i := ii) (is := is) (q := q) (n := j) (m := m) (w := w) h2 h4 (fillB_two m j) (I := I0) h)
      rw [roomV, full_counts h5, HRI.out] at HM
      generalize cntP (fL j m (fillB m j)) j = lt0 at HM
      go_upto_region 16 with (first
        | ((with_reducible refine at_load rfl ?_); refine wl_load1 hs rfl rfl Tryd.underlying3 rfl rfl 1 rfl rfl ?_)
        | (go_at_call 19; refine (HTK.out _ (HR.out.keep hs) (hs.get 0 rfl)).mono ?_; rintro e w2 ⟨rfl, hc⟩; replace hs := hs.call0 hc; clear hc)
        | (go_at_call 17; refine (HM.out _ (hs.get 0 rfl)).mono ?_; rintro e w2 ⟨rfl, hc⟩; replace hs := hs.call0 hc; clear hc)
        | ((with_reducible refine at_fld rfl ?_); refine wl_fld40 rfl rfl rfl ?_))
      clear HTK HM
      go_loopw [16] (fun i wr => ∃ k : Nat, m + 2 ≤ k ∧ k ≤ j ∧ i = .int .i64 k ∧ Tr w [] wr [spaceR p b bs ii is q j m (laterB m j k) I0, Res.blk xb #[.int .i64 j, .int .i64 m] 23]) (fun i _ => j - (intOf i).toNat)
      case atStart => exact ⟨m + 2, Nat.le_refl _, h5, by go_num, by rw [laterB_start]; exact hs⟩
      case round =>
        clear hs
        obtain ⟨k, hk1, hk2, rfl, hs⟩ := hrel
        by_cases hkn : k < j
        · have hkI : (k : Int) < j := by omega
          have HTK := Lib.hid (fun w h => later_yes (p := p) (b := b) (bs := bs) (i := ii) (is := is) (q := q) (n := j) (m := m) (w := w) (B := laterB m j k) (I := I0) k h2 (by omega) hkn (laterB_at (by omega) hkn) h)
          rw [laterB_set (show m + 1 < k by omega)] at HTK
          go_wp2_with (first
            | ((with_reducible refine at_load rfl ?_); refine wl_load1 hs rfl rfl Tryd.underlying3 rfl rfl 1 rfl rfl ?_)
            | (go_at_call 25; refine (HTK.out _ (hs.get 0 rfl)).mono ?_; rintro e w2 ⟨rfl, hc⟩; replace hs := hs.upd 0 rfl hc; clear hc))
          go_roundw
          case rel => exact ⟨k + 1, by omega, by omega, by go_num, hs⟩
          case measure => simp [intOf]; omega
        · obtain rfl : k = j := by omega
          clear hkn hk1 hk2
          have HTK := Lib.hid (fun w hR h => take_no (p := p) (b := b) (bs := bs) (i := ii) (is := is) (q := q) (n := k) (m := m) (w := w) (B := laterB m k k) (I := I0) h2 (fun i a b => laterB_ne a b) hR h)
          have HM := Lib.hid (fun w h => room_any (p := p) (b := b) (bs := bs) (i := ii) (is := is) (q := q) (n := k) (m := m) (w := w) h2 h4 (laterB_two m k k) (I := I0) h)
          obtain ⟨c, hc⟩ : ∃ c, k - m - 2 = c := ⟨_, rfl⟩
          have hcI : (k : Int) - m - 2 = c := by omega
          rw [roomV, (later_counts h5).1, (later_counts h5).2, HRI.out, hc] at HM
          clear hc
          go_upto_region 22 with (first
            | ((with_reducible refine at_load rfl ?_); refine wl_load1 hs rfl rfl Tryd.underlying3 rfl rfl 1 rfl rfl ?_)
            | (go_at_call 19; refine (HTK.out _ (HR.out.keep hs) (hs.get 0 rfl)).mono ?_; rintro e w2 ⟨rfl, hc⟩; replace hs := hs.call0 hc; clear hc))
          refine wt_enter 23 rfl hs (by kernel_rfl) ?_
          clear hs; intro w1 hs; have hC := hs
          refine wt_take 0 rfl (by kernel_rfl) (by kernel_rfl) (by kernel_rfl) (fun _ _ _ _ h => h) rfl hC ⟨_, fun w hw => by (go_simp; try with_reducible rfl), fun a1 ha => ?_⟩
          simp only [Act.put, List.setIfInBounds_toArray, List.set_cons_succ, List.set_cons_zero] at ha; subst ha
          refine wt_take 1 rfl (by kernel_rfl) (by kernel_rfl) (by kernel_rfl) (fun _ _ _ _ h => h) rfl hC ⟨_, fun w hw => by (go_simp; try with_reducible rfl), fun a1 ha => ?_⟩
          simp only [Act.put, List.setIfInBounds_toArray, List.set_cons_succ, List.set_cons_zero] at ha; subst ha
          refine wt_take 2 rfl (by kernel_rfl) (by kernel_rfl) (by kernel_rfl) (fun _ _ _ _ h => h) rfl hC ⟨_, fun w hw => by (go_simp; try with_reducible rfl), fun a1 ha => ?_⟩
          simp only [Act.put, List.setIfInBounds_toArray, List.set_cons_succ, List.set_cons_zero] at ha; subst ha
          refine wt_take 3 rfl (by kernel_rfl) (by kernel_rfl) (by kernel_rfl) (fun _ _ _ _ h => h) rfl hC ⟨_, fun w hw => by (go_simp; try with_reducible rfl), fun a1 ha => ?_⟩
          simp only [Act.put, List.setIfInBounds_toArray, List.set_cons_succ, List.set_cons_zero] at ha; subst ha
          refine wt_take 6 rfl (by kernel_rfl) (by kernel_rfl) (by kernel_rfl) (fun _ _ _ _ h => h) rfl hC ⟨_, fun w hw => by (go_simp; try with_reducible rfl), fun a1 ha => ?_⟩
          simp only [Act.put, List.setIfInBounds_toArray, List.set_cons_succ, List.set_cons_zero] at ha; subst ha
          refine wt_take 7 rfl (by kernel_rfl) (by kernel_rfl) (by kernel_rfl) (fun _ _ _ _ h => h) rfl hC ⟨_, fun w hw => ex_load1 rfl Tryd.underlying3 rfl rfl (by rw [cell_of_row w _ _ _ _ (0, 0) (hw.getB 1 rfl)]; rfl), fun a1 ha => ?_⟩
          simp only [Act.put, List.setIfInBounds_toArray, List.set_cons_succ, List.set_cons_zero] at ha; subst ha
          refine wt_take 8 rfl (by kernel_rfl) (by kernel_rfl) (by kernel_rfl) (fun _ _ _ _ h => h) rfl hC ⟨_, fun w hw => by (go_simp; try with_reducible rfl), fun a1 ha => ?_⟩
          simp only [Act.put, List.setIfInBounds_toArray, List.set_cons_succ, List.set_cons_zero] at ha; subst ha
          refine wt_take 9 rfl (by kernel_rfl) (by kernel_rfl) (by kernel_rfl) (fun _ _ _ _ h => h) rfl hC ⟨_, fun w hw => ex_load1 rfl Tryd.underlying3 rfl rfl (by rw [cell_of_row w _ _ _ _ (0, 0) (hw.getB 1 rfl)]; rfl), fun a1 ha => ?_⟩
          simp only [Act.put, List.setIfInBounds_toArray, List.set_cons_succ, List.set_cons_zero] at ha; subst ha
          refine wt_take 10 rfl (by kernel_rfl) (by kernel_rfl) (by kernel_rfl) (fun _ _ _ _ h => h) rfl hC ⟨.int .i64 ((k : Int) - m), fun w hw => by (go_simp; first | done | exact wrap_in (by omega) | go_num), fun a1 ha => ?_⟩
          simp only [Act.put, List.setIfInBounds_toArray, List.set_cons_succ, List.set_cons_zero] at ha; subst ha
          refine wt_take 11 rfl (by kernel_rfl) (by kernel_rfl) (by kernel_rfl) (fun _ _ _ _ h => h) rfl hC ⟨.int .i64 ((c : Nat) : Int), fun w hw => by (go_simp; exact (wrap_in (by omega)).trans (by omega)), fun a1 ha => ?_⟩
          simp only [Act.put, List.setIfInBounds_toArray, List.set_cons_succ, List.set_cons_zero] at ha; subst ha
          refine wt_one 4 (by kernel_rfl) ?_
          refine wt_call0 hs rfl rfl (by go_simp) (HM.out _ (hs.get 0 rfl)) (by simp only [Act.put, List.setIfInBounds_toArray, List.set_cons_succ, List.set_cons_zero]; rfl) ?_
          clear hs; intro w1 hs
          refine wt_and (hs.sub (by repeat (first | exact List.Sublist.refl _ | refine List.Sublist.cons_cons _ ?_ | refine List.Sublist.cons _ ?_))) fun hC => ?_
          refine wt_take 5 rfl (by kernel_rfl) (by kernel_rfl) (by kernel_rfl) (fun _ _ _ _ h => h) rfl hC ⟨.int .i64 ((c : Nat) : Int), fun w hw => by (go_simp; rw [field40_0]; rfl), fun a1 ha => ?_⟩
          simp only [Act.put, List.setIfInBounds_toArray, List.set_cons_succ, List.set_cons_zero] at ha; subst ha
          refine wt_take 12 rfl (by kernel_rfl) (by kernel_rfl) (by kernel_rfl) (fun _ _ _ _ h => h) rfl hC ⟨.bool false, fun w hw => by (go_simp; try simp), fun a1 ha => ?_⟩
          simp only [Act.put, List.setIfInBounds_toArray, List.set_cons_succ, List.set_cons_zero] at ha; subst ha
          refine wt_take 13 rfl (by kernel_rfl) (by kernel_rfl) (by kernel_rfl) (fun _ _ _ _ h => h) rfl hC ⟨_, fun w hw => by (go_simp; try with_reducible rfl), fun a1 ha => ?_⟩
          simp only [Act.put, List.setIfInBounds_toArray, List.set_cons_succ, List.set_cons_zero] at ha; subst ha
          refine wt_take 14 rfl (by kernel_rfl) (by kernel_rfl) (by kernel_rfl) (fun _ _ _ _ h => h) rfl hC ⟨_, fun w hw => by (go_simp; try with_reducible rfl), fun a1 ha => ?_⟩
          simp only [Act.put, List.setIfInBounds_toArray, List.set_cons_succ, List.set_cons_zero] at ha; subst ha
          refine wt_take 15 rfl (by kernel_rfl) (by kernel_rfl) (by kernel_rfl) (fun _ _ _ _ h => h) rfl hC ⟨_, fun w hw => by (go_simp; try with_reducible rfl), fun a1 ha => ?_⟩
          simp only [Act.put, List.setIfInBounds_toArray, List.set_cons_succ, List.set_cons_zero] at ha; subst ha
          refine wt_take 18 rfl (by kernel_rfl) (by kernel_rfl) (by kernel_rfl) (fun _ _ _ _ h => h) rfl hC ⟨_, fun w hw => by (go_simp; try with_reducible rfl), fun a1 ha => ?_⟩
          simp only [Act.put, List.setIfInBounds_toArray, List.set_cons_succ, List.set_cons_zero] at ha; subst ha
          refine wt_one 16 (by kernel_rfl) ?_
          refine wt_call0 hs rfl rfl (by go_simp) (HM.out _ (hs.get 0 rfl)) (by simp only [Act.put, List.setIfInBounds_toArray, List.set_cons_succ, List.set_cons_zero]; rfl) ?_
          clear hs; intro w1 hs
          refine wt_and (hs.sub (by repeat (first | exact List.Sublist.refl _ | refine List.Sublist.cons_cons _ ?_ | refine List.Sublist.cons _ ?_))) fun hC => ?_
          refine wt_take 17 rfl (by kernel_rfl) (by kernel_rfl) (by kernel_rfl) (fun _ _ _ _ h => h) rfl hC ⟨.int .i64 ((c : Nat) : Int), fun w hw => by (go_simp; rw [field40_1]; rfl), fun a1 ha => ?_⟩
          simp only [Act.put, List.setIfInBounds_toArray, List.set_cons_succ, List.set_cons_zero] at ha; subst ha
          refine wt_one 19 (by kernel_rfl) ?_
          refine wt_call0 hs rfl rfl (by go_simp) (HM.out _ (hs.get 0 rfl)) (by simp only [Act.put, List.setIfInBounds_toArray, List.set_cons_succ, List.set_cons_zero]; rfl) ?_
          clear hs; intro w1 hs
          refine wt_and (hs.sub (by repeat (first | exact List.Sublist.refl _ | refine List.Sublist.cons_cons _ ?_ | refine List.Sublist.cons _ ?_))) fun hC => ?_
          refine wt_take 20 rfl (by kernel_rfl) (by kernel_rfl) (by kernel_rfl) (fun _ _ _ _ h => h) rfl hC ⟨.int .i64 ((c : Nat) : Int), fun w hw => by (go_simp; rw [field40_0]; rfl), fun a1 ha => ?_⟩
          simp only [Act.put, List.setIfInBounds_toArray, List.set_cons_succ, List.set_cons_zero] at ha; subst ha
          refine wt_take 21 rfl (by kernel_rfl) (by kernel_rfl) (by kernel_rfl) (fun _ _ _ _ h => h) rfl hC ⟨.bool false, fun w hw => by (go_simp; try simp), fun a1 ha => ?_⟩
          simp only [Act.put, List.setIfInBounds_toArray, List.set_cons_succ, List.set_cons_zero] at ha; subst ha
          refine wt_take 22 rfl (by kernel_rfl) (by kernel_rfl) (by kernel_rfl) (fun _ _ _ _ h => h) rfl hC ⟨_, fun w hw => by (go_simp; try with_reducible rfl), fun a1 ha => ?_⟩
          simp only [Act.put, List.setIfInBounds_toArray, List.set_cons_succ, List.set_cons_zero] at ha; subst ha
          refine wt_done (by kernel_rfl) ?_
          skip
          clear hC HTK HM hcI
          obtain ⟨a, ha, haI⟩ : ∃ a : Nat, 1 ≤ a ∧ (k : Int) - m - 1 = a := ⟨k - m - 1, by omega, by omega⟩
          obtain ⟨g, hg⟩ : ∃ g, gF m a G = g := ⟨_, rfl⟩
          go_upto_region 27 with (first
            | ((with_reducible refine at_load rfl ?_); refine wl_load1 hs rfl rfl Tryd.underlying3 rfl rfl 1 rfl rfl ?_)
            | ((with_reducible refine at_mk rfl ?_); refine wl_make hs rfl rfl Tryd.underlying46 info4 k rfl rfl rfl (by omega) (by omega) (toldV m g 0) (told_nil m g _) ?_; rw [Nat.mul_one]; clear hs; intro w1 tb hs))
          replace hs := own_row0 hs 3 1 (gV g)
          have HGD := Lib.hid hg
          clear hg
          have HGB : Hid (∀ i, i < N → m < g i ∧ g i < k) := Lib.hid fun i hi => by
            rw [← HGD.out, gF]
            have := (pick_val (G i) a ha (by omega) (HB.out i hi)).1
            omega
          go_loopw [18, 19] (fun v i wr => ∃ (t : Nat) (va : Value), va = v ∧ t ≤ N ∧ i = .int .i64 t ∧ Tr w [] wr [Res.own 3 1 va t (rowOf t (gV g)).toList, Res.blk tb (rowOf k (toldV m g t)) 4, spaceR p b bs ii is q k m (laterB m k k) I0, Res.blk xb #[.int .i64 k, .int .i64 m] 23]) (fun _ i _ => N - (intOf i).toNat)
          case atStart => exact ⟨0, _, rfl, Nat.zero_le _, rfl, hs⟩
          case round =>
            clear hs
            obtain ⟨t, va, rfl, ht, rfl, hs⟩ := hrel
            by_cases htN : t < N
            · have htI : (t : Int) < N := by omega
              obtain rfl := HA.out (by omega)
              have HX : Hid (∀ {w1 : World} {L : List Res}, Tr w [] w1 L → w1.cell? ⟨db, doff + t, none⟩ = some (.int .i64 (G t))) := Lib.hid fun h => HG.out.keep h t htN
              obtain ⟨hp1, HT⟩ := pick_val (G t) a ha (by omega) (HB.out t htN)
              have HT := Lib.hid HT
              have hgt : m + 1 + (pick (G t) a).toNat = g t := by rw [← HGD.out]; rfl
              have hgb := HGB.out t htN
              generalize (pick (G t) a).toNat = y at *
              obtain ⟨f, hf⟩ : ∃ f, g t = f := ⟨_, rfl⟩
              rw [hf] at hgt hgb
              have HF := Lib.hid hf
              have HSN := Lib.hid (own_snoc (gV g) t)
              have hgv : gV g t = .int .i64 (f : Nat) := by rw [gV, hf]
              rw [hgv] at HSN
              have hfb : (f : Int) < k := by omega
              have hfm := hgb.1
              have hfk := hgb.2
              clear hf hgv hgb
              generalize G t = x at *
              go_upto_region 29 with fail
              refine wt_enter 16 rfl hs (by kernel_rfl) ?_
              clear hs; intro w1 hs; have hC := hs
              refine wt_take 0 rfl (by kernel_rfl) (by kernel_rfl) (by kernel_rfl) (fun _ _ _ _ h => h) rfl hC ⟨_, fun w hw => by (go_simp; try with_reducible rfl), fun a1 ha => ?_⟩
              simp only [Act.put, List.setIfInBounds_toArray, List.set_cons_succ, List.set_cons_zero] at ha; subst ha
              refine wt_take 1 rfl (by kernel_rfl) (by kernel_rfl) (by kernel_rfl) (fun _ _ _ _ h => h) rfl hC ⟨_, fun w hw => ex_load1 rfl Tryd.underlying3 rfl rfl (by rw [cell_of_row w _ _ _ _ (0, 0) (hw.getB 3 rfl)]; rfl), fun a1 ha => ?_⟩
              simp only [Act.put, List.setIfInBounds_toArray, List.set_cons_succ, List.set_cons_zero] at ha; subst ha
              refine wt_take 2 rfl (by kernel_rfl) (by kernel_rfl) (by kernel_rfl) (fun _ _ _ _ h => h) rfl hC ⟨.int .i64 ((m : Int) + 1), fun w hw => by (go_simp; first | done | exact wrap_in (by omega) | go_num), fun a1 ha => ?_⟩
              simp only [Act.put, List.setIfInBounds_toArray, List.set_cons_succ, List.set_cons_zero] at ha; subst ha
              refine wt_take 3 rfl (by kernel_rfl) (by kernel_rfl) (by kernel_rfl) (fun _ _ _ _ h => h) rfl hC ⟨_, fun w hw => by (go_simp; try with_reducible rfl), fun a1 ha => ?_⟩
              simp only [Act.put, List.setIfInBounds_toArray, List.set_cons_succ, List.set_cons_zero] at ha; subst ha
              refine wt_take 4 rfl (by kernel_rfl) (by kernel_rfl) (by kernel_rfl) (fun _ _ _ _ h => h) rfl hC ⟨_, fun w hw => by (go_simp; try with_reducible rfl), fun a1 ha => ?_⟩
              simp only [Act.put, List.setIfInBounds_toArray, List.set_cons_succ, List.set_cons_zero] at ha; subst ha
              refine wt_take 5 rfl (by kernel_rfl) (by kernel_rfl) (by kernel_rfl) (fun _ _ _ _ h => h) rfl hC ⟨_, fun w hw => ex_indexS rfl Tryd.underlying24 size3 rfl rfl t rfl htN rfl, fun a1 ha => ?_⟩
              simp only [Act.put, List.setIfInBounds_toArray, List.set_cons_succ, List.set_cons_zero] at ha; subst ha
              refine wt_take 6 rfl (by kernel_rfl) (by kernel_rfl) (by kernel_rfl) (fun _ _ _ _ h => h) rfl hC ⟨.int .i64 x, fun w hw => ex_load1 rfl Tryd.underlying3 rfl rfl (by rw [Nat.mul_one]; exact HX.out hw), fun a1 ha => ?_⟩
              simp only [Act.put, List.setIfInBounds_toArray, List.set_cons_succ, List.set_cons_zero] at ha; subst ha
              refine wt_take 7 rfl (by kernel_rfl) (by kernel_rfl) (by kernel_rfl) (fun _ _ _ _ h => h) rfl hC ⟨_, fun w hw => by (go_simp; try with_reducible rfl), fun a1 ha => ?_⟩
              simp only [Act.put, List.setIfInBounds_toArray, List.set_cons_succ, List.set_cons_zero] at ha; subst ha
              refine wt_take 8 rfl (by kernel_rfl) (by kernel_rfl) (by kernel_rfl) (fun _ _ _ _ h => h) rfl hC ⟨_, fun w hw => ex_load1 rfl Tryd.underlying3 rfl rfl (by rw [cell_of_row w _ _ _ _ (0, 0) (hw.getB 3 rfl)]; rfl), fun a1 ha => ?_⟩
              simp only [Act.put, List.setIfInBounds_toArray, List.set_cons_succ, List.set_cons_zero] at ha; subst ha
              refine wt_take 9 rfl (by kernel_rfl) (by kernel_rfl) (by kernel_rfl) (fun _ _ _ _ h => h) rfl hC ⟨_, fun w hw => by (go_simp; try with_reducible rfl), fun a1 ha => ?_⟩
              simp only [Act.put, List.setIfInBounds_toArray, List.set_cons_succ, List.set_cons_zero] at ha; subst ha
              refine wt_take 10 rfl (by kernel_rfl) (by kernel_rfl) (by kernel_rfl) (fun _ _ _ _ h => h) rfl hC ⟨_, fun w hw => ex_load1 rfl Tryd.underlying3 rfl rfl (by rw [cell_of_row w _ _ _ _ (0, 0) (hw.getB 3 rfl)]; rfl), fun a1 ha => ?_⟩
              simp only [Act.put, List.setIfInBounds_toArray, List.set_cons_succ, List.set_cons_zero] at ha; subst ha
              refine wt_take 11 rfl (by kernel_rfl) (by kernel_rfl) (by kernel_rfl) (fun _ _ _ _ h => h) rfl hC ⟨.int .i64 ((k : Int) - m), fun w hw => by (go_simp; first | done | exact wrap_in (by omega) | go_num), fun a1 ha => ?_⟩
              simp only [Act.put, List.setIfInBounds_toArray, List.set_cons_succ, List.set_cons_zero] at ha; subst ha
              refine wt_take 12 rfl (by kernel_rfl) (by kernel_rfl) (by kernel_rfl) (fun _ _ _ _ h => h) rfl hC ⟨.int .i64 ((a : Nat) : Int), fun w hw => by (go_simp; exact (wrap_in (by omega)).trans (by omega)), fun a1 ha => ?_⟩
              simp only [Act.put, List.setIfInBounds_toArray, List.set_cons_succ, List.set_cons_zero] at ha; subst ha
              refine wt_one 13 (by kernel_rfl) ?_
              refine wt_callE hs rfl rfl (by go_simp) (HT.out _) (by simp only [Act.put, List.setIfInBounds_toArray, List.set_cons_succ, List.set_cons_zero]; rfl) ?_
              clear hs; intro w1 hs
              refine wt_and (hs.sub (by repeat (first | exact List.Sublist.refl _ | refine List.Sublist.cons_cons _ ?_ | refine List.Sublist.cons _ ?_))) fun hC => ?_
              refine wt_take 14 rfl (by kernel_rfl) (by kernel_rfl) (by kernel_rfl) (fun _ _ _ _ h => h) rfl hC ⟨.int .i64 ((f : Nat) : Int), fun w hw => by (go_simp; exact (wrap_in (by omega)).trans (by omega)), fun a1 ha => ?_⟩
              simp only [Act.put, List.setIfInBounds_toArray, List.set_cons_succ, List.set_cons_zero] at ha; subst ha
              refine wt_take 15 rfl (by kernel_rfl) (by kernel_rfl) (by kernel_rfl) (fun _ _ _ _ h => h) rfl hC ⟨_, fun w hw => by (go_simp; try with_reducible rfl), fun a1 ha => ?_⟩
              simp only [Act.put, List.setIfInBounds_toArray, List.set_cons_succ, List.set_cons_zero] at ha; subst ha
              refine wt_done (by kernel_rfl) ?_
              skip
              clear hC hgt
              go_upto_region 31 with (first
                | ((with_reducible refine at_buildSlice rfl ?_); refine wl_buildSliceV hs rfl rfl Tryd.underlying24 info3 (by omega) (by omega) [.int .i64 ((f : Nat) : Int)] rfl rfl (by simp [Value.oneCell']) ?_; clear hs; intro w1 lb hs)
                | ((with_reducible refine (at_bi .append) rfl ?_); refine wl_append hs rfl rfl Tryd.underlying24 info3 rfl (by omega) 1 rfl rfl rfl lb 0 rfl (rowOf 1 fun _ => .int .i64 ((f : Nat) : Int)).toList (by simp) (Rd.news (rd_one (hs.getB 0 rfl))) (one_one _) (by unfold maxLen; omega) (by omega) ?_; rw [HSN.out]; clear hs; intro w1 v' hs hnil; clear hnil))
              replace hs := hs.sub (List.Sublist.cons _ (List.Sublist.refl _))
              by_cases hgt1 : m + 1 < f
              · have d1 : (m : Int) + 1 < f := by omega
                have HST := Lib.hid (told_step (n := k) (g := g) (k := t) (v := true) (by rw [HF.out]; exact decide_eq_true hgt1))
                rw [HF.out] at HST
                go_wp2_with (first
                  | ((with_reducible refine at_load rfl ?_); refine wl_load1 hs rfl rfl Tryd.underlying3 rfl rfl 3 rfl rfl ?_)
                  | ((with_reducible refine at_store rfl ?_); refine wl_store1R hs rfl rfl size4 rfl rfl rfl 1 rfl hfk (toldV m g (t + 1)) HST.out ?_; clear hs; intro w1 hs))
                go_roundw
                case rel => exact ⟨t + 1, _, rfl, by omega, by go_num, hs⟩
                case measure => simp [intOf]; omega
              · have d1 : decide ((m : Int) + 1 < f) = false := decide_eq_false (by omega)
                have d2 : decide (m + 1 < f) = false := decide_eq_false hgt1
                have d3 : (f : Int) ≤ m + 1 := by omega
                have HST := Lib.hid (told_step (n := k) (g := g) (k := t) (v := false) (by rw [HF.out]; exact decide_eq_false hgt1))
                rw [HF.out] at HST
                go_wp2_with (first
                  | ((with_reducible refine at_load rfl ?_); refine wl_load1 hs rfl rfl Tryd.underlying3 rfl rfl 3 rfl rfl ?_)
                  | ((with_reducible refine at_store rfl ?_); refine wl_store1R hs rfl rfl size4 rfl rfl rfl 1 rfl hfk (toldV m g (t + 1)) HST.out ?_; clear hs; intro w1 hs))
                go_roundw
                case rel => exact ⟨t + 1, _, rfl, by omega, by go_num, hs⟩
                case measure => simp [intOf]; omega
            · obtain rfl : t = N := by omega
              obtain ⟨aoL, cL, gL, rfl, hcL, hcLm, haoL, hc0L⟩ := hs.own_open 0 rfl
              have HRD := Lib.hid (hs.own_rdx 0 rfl haoL)
              have HNE := Lib.hid (fun h : 0 < t => by
                obtain rfl := haoL h
                exact own_apart hs 0 2 (by decide) rfl rfl)
              have HAL := Lib.hid haoL
              clear haoL hc0L
              have HLT := Lib.hid (funext (landed_told HGB.out t (Nat.le_refl _)))
              have HTW : Hid (∀ b, told m g t b = true → m < b) := Lib.hid fun b h => by have := told_low h; omega
              obtain ⟨T, hT⟩ : ∃ T, told m g t = T := ⟨_, rfl⟩
              obtain ⟨D, hD⟩ : ∃ D : Nat → Nat, (fun b => if told m g t b = true then 0 else laterB m k k b) = D := ⟨_, rfl⟩
              rw [hD] at HLT
              have HDE : Hid (∀ b, D b = if T b = true then 0 else laterB m k k b) := Lib.hid fun b => by rw [← hD, ← hT]
              rw [hT] at HTW
              have HTT := Lib.hid hT
              clear hT hD
              go_upto_region 33 with (first
                | (go_at_call 26; refine (landed_yes t cL gL 0 _ (fun i => (g i : Int)) h2 (by omega) HAL.out HRD.out HNE.out (fun j hj => inD_in (HGB.out j hj).1 (HGB.out j hj).2) (hs.get 2 rfl)).mono ?_; rintro e w2 ⟨rfl, hc⟩; rw [HLT.out] at hc; replace hs := hs.upd 2 rfl hc; clear hc))
              go_upto_region 36 with (first | ((with_reducible refine at_load rfl ?_); refine wl_load1 hs rfl rfl Tryd.underlying3 rfl rfl 3 rfl rfl ?_))
              replace hs := hs.sub (List.Sublist.cons _ (List.Sublist.refl _))
              go_loopw [21] (fun i wr => ∃ j : Nat, m + 1 ≤ j ∧ j ≤ k ∧ i = .int .i64 j ∧ Tr w [] wr [Res.blk tb (rowOf k (toldV m g t)) 4, spaceR p b bs ii is q k m (backB T D j) I0, Res.blk xb #[.int .i64 k, .int .i64 m] 23]) (fun i _ => k - (intOf i).toNat)
              case atStart => exact ⟨m + 1, Nat.le_refl _, by omega, by go_num, by rw [backB_start T D m HTW.out]; exact hs⟩
              case round =>
                clear hs
                obtain ⟨j, hj1, hj2, rfl, hs⟩ := hrel
                have hne : ∀ i, m < i → i < k → i < j → backB T D j i ≠ 0 := fun i a b c => by
                  simp only [backB]
                  by_cases e : T i = true
                  · rw [if_pos ⟨c, e⟩]; omega
                  · rw [if_neg fun h => e h.2, HDE.out, if_neg e]; exact laterB_ne a b
                by_cases hjn : j < k
                · have hjI : (j : Int) < k := by omega
                  cases hTj : T j
                  · have HJ := Lib.hid (told_at (m := m) (g := g) (k := t) (b := false) hjn (by rw [HTT.out]; exact hTj))
                    have HBK := Lib.hid (backB_no (D := D) hTj)
                    clear hTj hne
                    go_wp2_with (first
                      | ((with_reducible refine at_load rfl ?_); refine wl_load1 hs rfl rfl Tryd.underlying3 rfl rfl 2 rfl rfl ?_)
                      | ((with_reducible refine (at_load (t := 4)) rfl ?_); refine wl_load1 hs rfl rfl Tryd.underlying4 rfl rfl 0 rfl HJ.out ?_))
                    go_roundw
                    case rel => exact ⟨j + 1, by omega, by omega, by go_num, by rw [← HBK.out]; exact hs⟩
                    case measure => simp [intOf]; omega
                  · have HJ := Lib.hid (told_at (m := m) (g := g) (k := t) (b := true) hjn (by rw [HTT.out]; exact hTj))
                    have h0 : backB T D j j = 0 := by
                      simp only [backB]; rw [if_neg (by omega), HDE.out, if_pos hTj]
                    have HTK := Lib.hid (fun w hR h => take_yes (p := p) (b := b) (bs := bs) (i := ii) (is := is) (q := q) (n := k) (m := m) (w := w) (B := backB T D j) (I := I0) j h2 hj1 hjn h0 (fun i a b => hne i a (by omega) b) hR h)
                    rw [backB_yes hTj] at HTK
                    clear hTj hne h0
                    go_wp2_with (first
                      | ((with_reducible refine at_load rfl ?_); refine wl_load1 hs rfl rfl Tryd.underlying3 rfl rfl 2 rfl rfl ?_)
                      | ((with_reducible refine (at_load (t := 4)) rfl ?_); refine wl_load1 hs rfl rfl Tryd.underlying4 rfl rfl 0 rfl HJ.out ?_)
                      | (go_at_call 19; refine (HTK.out _ (HR.out.keep hs) (hs.get 1 rfl)).mono ?_; rintro e w2 ⟨rfl, hc⟩; replace hs := hs.upd 1 rfl hc; clear hc))
                    go_roundw
                    case rel => exact ⟨j + 1, by omega, by omega, by go_num, hs⟩
                    case measure => simp [intOf]; omega
                · obtain rfl : j = k := by omega
                  have HTK := Lib.hid (fun w hR h => take_no (p := p) (b := b) (bs := bs) (i := ii) (is := is) (q := q) (n := j) (m := m) (w := w) (B := backB T D j) (I := I0) h2 (fun i a b => hne i a b b) hR h)
                  clear hne hjn
                  go_wp2_with (first
                    | ((with_reducible refine at_load rfl ?_); refine wl_load1 hs rfl rfl Tryd.underlying3 rfl rfl 2 rfl rfl ?_)
                    | (go_at_call 19; refine (HTK.out _ (HR.out.keep hs) (hs.get 1 rfl)).mono ?_; rintro e w2 ⟨rfl, hc⟩; replace hs := hs.call0 hc; clear hc))
                  go_ret
                  exact ⟨rfl, hs.letgo⟩
theorem full_walk (x0 x1 : Int) (N cap : Nat) (G : Nat → Int) (ao : Option Addr) (db doff : Nat) (w : World) (hN : N * 8 ≤ 140737488351232)
    (hao : 0 < N → ao = some ⟨db, doff, none⟩) (hrd : Rd w db doff N fun j => .int .i64 (G j)) (hb : ∀ j, j < N → -9223372036854775808 ≤ G j ∧ G j ≤ 9223372036854775807)
    (h0 : -9223372036854775808 ≤ x0 ∧ x0 ≤ 9223372036854775807) (h1 : -9223372036854775808 ≤ x1 ∧ x1 ≤ 9223372036854775807) (hR : Rd w 0 0 64 tabV) :
    Calls Tryd.prog 6 #[.int .i64 x0, .int .i64 x1, .slice ao N cap] w fun e w' => e = .returned (.bool true) ∧ Below w.heap.size w w' := by
  obtain ⟨s, hs, HP⟩ := pick_nat x0 300 (by omega) (by omega) h0 300 rfl
  obtain ⟨n, m, hmay, HS⟩ := super_any (s : Int) x1 (by omega) h1
  exact (full_core n m N cap s x0 x1 G ao db doff w hmay hN hao hrd hb HP (Lib.hid HS) hR).mono fun e w' ⟨he, ht⟩ => ⟨he, ht.below⟩
end Go.Proofs.YtfedfdcbhggipaaDoor
