/- Spaces: a call on a space and on the document's: one answer, one turn, whatever is asked. -/
import Derived.Test.YtfedfdcbhggipaaDoorWNews
import Derived.Test.YtfedfdcbhggipaaDoorWInodes
namespace Go.Proofs.YtfedfdcbhggipaaDoor
set_option linter.unusedVariables false
set_option linter.unusedSimpArgs false
open Go Go.Sp Go.RowKit Go.BigFrame

def May (n m : Nat) : Prop := 8 ≤ n ∧ n ≤ 4096 ∧ 1 ≤ m ∧ m ≤ 512 ∧ m + 2 ≤ n
def Inv (B : Nat → Nat) (I : Nat → Bool) : Prop := (∀ j, B j ≤ 2) ∧ I 1 = true
/-- One call: what it answers, and what it leaves, of a space and of the document's. -/
structure Play (n m : Nat) (B : Nat → Nat) (I : Nat → Bool) (B' : Nat → Nat) (I' : Nat → Bool) (fs fr : FuncId) (av : List Value) (v : Value) : Prop where
  s : ∀ (w : World) (p b bs i is q : Nat), Rd w 0 0 64 tabV → (spaceR p b bs i is q n m B I).holds w →
    Calls Tryd.prog fs (List.toArray (.pointer (some ⟨p, 0, none⟩) :: av)) w fun e w' => e = .returned v ∧ Tr w (spaceR p b bs i is q n m B I).foot w' [spaceR p b bs i is q n m B' I']
  r : ∀ (w : World) (p b i : Nat), (refS p b i n m B I).holds w →
    Calls Tryd.prog fr (List.toArray (.pointer (some ⟨p, 0, none⟩) :: av)) w fun e w' => e = .returned v ∧ Tr w (refS p b i n m B I).foot w' [refS p b i n m B' I']

theorem idle2 {f : FuncId} {av : Array Value} {w : World} {v : Value} {r1 r2 : Res} (h : (Res.both r1 r2).holds w) (hc : Calls Tryd.prog f av w fun e w' => e = .returned v ∧ Tr w [] w' []) :
    Calls Tryd.prog f av w fun e w' => e = .returned v ∧ Tr w (Res.both r1 r2).foot w' [Res.both r1 r2] := hc.mono fun e w' ⟨he, ht⟩ => ⟨he, Tr.idle2 h ht⟩

section
variable {n m : Nat} {B : Nat → Nat} {I : Nat → Bool}
theorem Inv.set (h : Inv B I) {k v : Nat} (hv : v ≤ 2) : Inv (setB B k v) I := ⟨setB_two h.1 hv, h.2⟩
theorem play_take (hmay : May n m) (h : Inv B I) : ∃ (r e : Int) (B' : Nat → Nat), Inv B' I ∧ Play n m B I B' I 19 20 [] (.tuple #[.int .i64 r, .int .i64 e]) := by
  obtain ⟨h1, h2, h3, h4, h5⟩ := hmay
  rcases free_ex n m B with ⟨f, hf1, hf2, hf0, hfu⟩ | hall
  · refine ⟨f, 0, setB B f 1, h.set (by omega), ⟨fun w p b bs i is q hR hh => take_yes f h2 hf1 hf2 hf0 hfu hR hh, fun w p b i hh => ?_⟩⟩
    exact (rtake_any h2 (by omega) f hf1 (by omega) hfu (fun _ => hf0) hh).mono fun e w' hp => hp.1 hf2
  · refine ⟨0, 80, B, h, ⟨fun w p b bs i is q hR hh => idle2 hh (take_no h2 hall hR hh), fun w p b i hh => ?_⟩⟩
    exact (rtake_any h2 (by omega) n (by omega) (Nat.le_refl _) hall (fun h => by omega) hh).mono fun e w' hp => hp.2 rfl
theorem play_takei (hmay : May n m) (h : Inv B I) : ∃ (r e : Int) (I' : Nat → Bool), Inv B I' ∧ Play n m B I B I' 23 27 [] (.tuple #[.int .i64 r, .int .i64 e]) := by
  obtain ⟨h1, h2, h3, h4, h5⟩ := hmay
  obtain ⟨R, hR2, hRm, hall, hfree⟩ := least_ex m h3 I h.2
  by_cases hr : R ≤ m
  · refine ⟨R, 0, updP I R true, ⟨h.1, ?_⟩, ⟨fun w p b bs i is q hR hh => takei_yes R h4 (by omega) hr (hfree hr) hall hR hh, fun w p b i hh => ?_⟩⟩
    · rw [updP_off (by omega)]; exact h.2
    · exact (rtakei_any h4 h3 R hR2 hRm (fun j a b => hall j (by omega) b) hfree hh).mono fun e w' hp => hp.1 hr
  · obtain rfl : R = m + 1 := by omega
    refine ⟨0, 81, I, h, ⟨fun w p b bs i is q hR hh => idle2 hh (takei_no h4 (fun j a b => hall j a (by omega)) hR hh), fun w p b i hh => ?_⟩⟩
    exact (rtakei_any h4 h3 (m + 1) hR2 hRm (fun j a b => hall j (by omega) b) hfree hh).mono fun e w' hp => hp.2 rfl
theorem play_free (hmay : May n m) (h : Inv B I) (x : Int) : ∃ (e : Int) (I' : Nat → Bool), Inv B I' ∧ Play n m B I B I' 24 28 [.int .i64 x] (.int .i64 e) := by
  obtain ⟨h1, h2, h3, h4, h5⟩ := hmay
  by_cases hx : 1 < x ∧ usedI m I x = true
  · obtain ⟨hx1, hu⟩ := hx
    have hin : 1 ≤ x ∧ x ≤ m := by
      by_cases hc : 1 ≤ x ∧ x ≤ m
      · exact hc
      · rw [usedI, if_neg hc] at hu; cases hu
    obtain ⟨k, rfl⟩ : ∃ k : Nat, x = (k : Int) := ⟨x.toNat, by omega⟩
    rw [usedI, if_pos hin, Int.toNat_natCast] at hu
    refine ⟨0, updP I k false, ⟨h.1, ?_⟩, ⟨fun w p b bs i is q hR hh => freei_yes k h4 (by omega) (by omega) hu hh, fun w p b i hh => rfreei_yes k (by omega) (by omega) h4 hu hh⟩⟩
    rw [updP_off (by omega)]; exact h.2
  · have hx' : x ≤ 1 ∨ usedI m I x = false := by
      rcases Int.lt_or_le 1 x with h | h
      · right
        cases hu : usedI m I x
        · rfl
        · exact absurd ⟨h, hu⟩ hx
      · exact Or.inl h
    exact ⟨82, I, h, ⟨fun w p b bs i is q hR hh => idle2 hh (freei_no x h4 hx' hh), fun w p b i hh => idle2 hh (rfreei_no x hx' hh)⟩⟩
theorem play_later (hmay : May n m) (h : Inv B I) (x : Int) (hxb : -9223372036854775808 ≤ x ∧ x ≤ 9223372036854775807) : ∃ (e : Int) (B' : Nat → Nat), Inv B' I ∧ Play n m B I B' I 25 29 [.int .i64 x] (.int .i64 e) := by
  obtain ⟨h1, h2, h3, h4, h5⟩ := hmay
  have no : (inD n m x = false ∨ B x.toNat ≠ 1) → ∃ (e : Int) (B' : Nat → Nat), Inv B' I ∧ Play n m B I B' I 25 29 [.int .i64 x] (.int .i64 e) := fun hn =>
    ⟨82, B, h, ⟨fun w p b bs i is q hR hh => idle2 hh (later_no x h2 h.1 hn hxb hh), fun w p b i hh => idle2 hh (rlater_no x h2 hn hh)⟩⟩
  rcases inD_or n m x with ⟨k, rfl, hk1, hk2⟩ | hx
  · by_cases hk : B k = 1
    · exact ⟨0, setB B k 2, h.set (by omega), ⟨fun w p b bs i is q hR hh => later_yes k h2 hk1 hk2 hk hh, fun w p b i hh => rlater_yes k h2 hk1 hk2 hk hh⟩⟩
    · exact no (Or.inr (by rw [Int.toNat_natCast]; exact hk))
  · exact no (Or.inl (inD_out hx))
theorem play_used (hmay : May n m) (x : Int) : Play n m B I B I 15 16 [.int .i64 x] (.bool (usedI m I x)) :=
  ⟨fun w p b bs i is q hR hh => idle2 hh (used_any x hmay.2.2.2.1 hh), fun w p b i hh => idle2 hh (rused_any x hh)⟩
theorem play_room (hmay : May n m) (h : Inv B I) : ∃ a b c : Int, Play n m B I B I 17 18 [] (.agg #[.int .i64 a, .int .i64 b, .int .i64 c]) :=
  ⟨_, _, _, ⟨fun w p b bs i is q hR hh => idle2 hh (room_any hmay.2.1 hmay.2.2.2.1 h.1 hh), fun w p b i hh => idle2 hh (rroom_any hmay.2.1 hmay.2.2.2.1 (by have := hmay.2.2.2.2; omega) h.1 hh)⟩⟩
/-- Landed of lists. -/
theorem play_landed (hmay : May n m) (h : Inv B I) (N : Nat) (G : Nat → Int) (hN : N ≤ 9223372036854775807) : ∃ (e : Int) (B' : Nat → Nat), Inv B' I ∧
    (∀ (w : World) (p b bs i is q cap db doff : Nat) (ao : Option Addr), (0 < N → ao = some ⟨db, doff, none⟩) → (Rd w db doff N fun j => .int .i64 (G j)) → (0 < N → db ∉ (spaceR p b bs i is q n m B I).foot) → (spaceR p b bs i is q n m B I).holds w →
      Calls Tryd.prog 26 #[.pointer (some ⟨p, 0, none⟩), .slice ao N cap] w fun er w' => er = .returned (.int .i64 e) ∧ Tr w (spaceR p b bs i is q n m B I).foot w' [spaceR p b bs i is q n m B' I]) ∧
    (∀ (w : World) (p b i cap db doff : Nat) (ao : Option Addr), (0 < N → ao = some ⟨db, doff, none⟩) → (Rd w db doff N fun j => .int .i64 (G j)) → (0 < N → db ∉ (refS p b i n m B I).foot) → (refS p b i n m B I).holds w →
      Calls Tryd.prog 30 #[.pointer (some ⟨p, 0, none⟩), .slice ao N cap] w fun er w' => er = .returned (.int .i64 e) ∧ Tr w (refS p b i n m B I).foot w' [refS p b i n m B' I]) := by
  obtain ⟨h1, h2, h3, h4, h5⟩ := hmay
  by_cases hbad : ∃ j, j < N ∧ inD n m (G j) = false
  · exact ⟨82, B, h, fun w p b bs i is q cap db doff ao ha hr _ hh => idle2 hh (landed_no N cap db doff ao G hN ha hr hbad hh), fun w p b i cap db doff ao ha hr _ hh => idle2 hh (rlanded_no N cap db doff ao G hN ha hr hbad hh)⟩
  · have hgood : ∀ j, j < N → inD n m (G j) = true := fun j hj => by
      cases hc : inD n m (G j)
      · exact absurd ⟨j, hj, hc⟩ hbad
      · rfl
    exact ⟨0, landB B G N, ⟨landB_two h.1 N, h.2⟩, fun w p b bs i is q cap db doff ao ha hr hne hh => landed_yes N cap db doff ao G h2 hN ha hr hne hgood hh, fun w p b i cap db doff ao ha hr hne hh => rlanded_yes N cap db doff ao G h2 hN ha hr hne hgood hh⟩
end

/-! ### Two of each. -/
structure Ad where
  (p b bs i is q rp rb ri : Nat)
def setK {α : Type} (F : Nat → α) (k : Nat) (g : α) : Nat → α := fun j => if j = k then g else F j
theorem setK_same {α : Type} (F : Nat → α) (k : Nat) : setK F k (F k) = F := by
  funext j; simp only [setK]; split
  · rename_i h; rw [h]
  · rfl
@[reducible] noncomputable def spR (a : Ad) (n m : Nat) (B : Nat → Nat) (I : Nat → Bool) : Res := spaceR a.p a.b a.bs a.i a.is a.q n m B I
@[reducible] noncomputable def rfR (a : Ad) (n m : Nat) (B : Nat → Nat) (I : Nat → Bool) : Res := refS a.rp a.rb a.ri n m B I
def ptS (A : Nat → Ad) : Nat → Value := fun j => .pointer (some ⟨(A j).p, 0, none⟩)
def ptR (A : Nat → Ad) : Nat → Value := fun j => .pointer (some ⟨(A j).rp, 0, none⟩)
@[reducible] noncomputable def prs (A : Nat → Ad) (n m : Nat) (B : Nat → Nat → Nat) (I : Nat → Nat → Bool) (k : Nat) : List Res := [spR (A k) n m (B k) (I k), rfR (A k) n m (B k) (I k)]
@[reducible] noncomputable def ars (sA rA xb n m : Nat) (A : Nat → Ad) : List Res := [Res.blk sA (rowOf 2 (ptS A)) 52, Res.blk rA (rowOf 2 (ptR A)) 53, Res.blk xb #[.int .i64 n, .int .i64 m] 23]
section
variable {w0 w : World} {S0 : List Nat} {sA rA xb n m : Nat} {A : Nat → Ad} {B : Nat → Nat → Nat} {I : Nat → Nat → Bool}
theorem pick2 (k : Nat) (hk : k < 2) (h : Tr w0 S0 w (prs A n m B I 0 ++ prs A n m B I 1 ++ ars sA rA xb n m A)) :
    Tr w0 S0 w [spR (A k) n m (B k) (I k), rfR (A k) n m (B k) (I k), spR (A (1 - k)) n m (B (1 - k)) (I (1 - k)), rfR (A (1 - k)) n m (B (1 - k)) (I (1 - k)), Res.blk sA (rowOf 2 (ptS A)) 52, Res.blk rA (rowOf 2 (ptR A)) 53, Res.blk xb #[.int .i64 n, .int .i64 m] 23] := by
  rcases (by omega : k = 0 ∨ k = 1) with rfl | rfl
  · exact h
  · exact h.perm (List.Perm.append (List.perm_append_comm (l₁ := prs A n m B I 0) (l₂ := prs A n m B I 1)) (List.Perm.refl (ars sA rA xb n m A)))
theorem unpick2 (k : Nat) (hk : k < 2) {b : Nat → Nat} {i : Nat → Bool}
    (h : Tr w0 S0 w [spR (A k) n m b i, rfR (A k) n m b i, spR (A (1 - k)) n m (B (1 - k)) (I (1 - k)), rfR (A (1 - k)) n m (B (1 - k)) (I (1 - k)), Res.blk sA (rowOf 2 (ptS A)) 52, Res.blk rA (rowOf 2 (ptR A)) 53, Res.blk xb #[.int .i64 n, .int .i64 m] 23]) :
    Tr w0 S0 w (prs A n m (setK B k b) (setK I k i) 0 ++ prs A n m (setK B k b) (setK I k i) 1 ++ ars sA rA xb n m A) := by
  rcases (by omega : k = 0 ∨ k = 1) with rfl | rfl
  · exact h
  · have e : Tr w0 S0 w (prs A n m (setK B 1 b) (setK I 1 i) 1 ++ prs A n m (setK B 1 b) (setK I 1 i) 0 ++ ars sA rA xb n m A) := h
    exact e.perm (List.Perm.append (List.perm_append_comm (l₁ := prs A n m (setK B 1 b) (setK I 1 i) 1) (l₂ := prs A n m (setK B 1 b) (setK I 1 i) 0)) (List.Perm.refl (ars sA rA xb n m A)))
theorem inv_set {k : Nat} {b : Nat → Nat} {i : Nat → Bool} (h : ∀ j, Inv (B j) (I j)) (hb : Inv b i) : ∀ j, Inv (setK B k b j) (setK I k i j) := fun j => by
  simp only [setK]; split
  · exact hb
  · exact h j
end
theorem row_two (a b : Value) : (#[a, b] : Array Value) = rowOf 2 (fun j => if j = 0 then a else b) := by
  refine rowOf_ext rfl fun i hi => ?_
  match i, hi with
  | 0, _ => rfl
  | 1, _ => rfl
theorem newB_nil (G : Nat → Int) : newB G 0 = B0 := by funext j; rfl
theorem newI_nil (G : Nat → Int) : newI G 0 = I0 := by funext j; rfl
section
variable {P : Program} {w0 w : World} {S : List Nat} {L : List Res} {ops : Array Oper} {Q : Exit → Act → World → Prop} {a : Act} {o : Oper} {rest : List Oper} {t e : TypeId} {x y : Operand}
theorem ex_load4 (ho : o.op = .load t x) {d : TypeDesc} (hu : P.underlying t = some d) (hd : d.isRow = true) {b off : Nat} (hn : (P.info? t).map (·.size) = some 4) (hx : a.eval x = .pointer (some ⟨b, off, none⟩))
    {v0 v1 v2 v3 : Value} (h0 : w.cell? ⟨b, off, none⟩ = some v0) (h1 : w.cell? ⟨b, off + 1, none⟩ = some v1) (h2 : w.cell? ⟨b, off + 2, none⟩ = some v2) (h3 : w.cell? ⟨b, off + 3, none⟩ = some v3) : (execOp a.eval o).run P w = .ok (.value (.agg #[v0, v1, v2, v3])) w := by
  have h := ex_loadA (f := fun j => if j = 0 then v0 else if j = 1 then v1 else if j = 2 then v2 else v3) ho hu hd hn hx (fun j hj => by
    match j, hj with
    | 0, _ => exact h0
    | 1, _ => exact h1
    | 2, _ => exact h2
    | 3, _ => exact h3)
  have e : (#[v0, v1, v2, v3] : Array Value) = rowOf 4 (fun j => if j = 0 then v0 else if j = 1 then v1 else if j = 2 then v2 else v3) := rowOf_ext rfl fun i hi => by
    match i, hi with
    | 0, _ => rfl
    | 1, _ => rfl
    | 2, _ => rfl
    | 3, _ => rfl
  rw [h, e]
theorem wl_load4 (hw : Region.wanted o (yielded ops a.tmps) = true) (ho : o.op = .load t x) {d : TypeDesc} (hu : P.underlying t = some d) (hd : d.isRow = true) (hn : (P.info? t).map (·.size) = some 4) {b off : Nat} (hx : a.eval x = .pointer (some ⟨b, off, none⟩))
    {v0 v1 v2 v3 : Value} (h0 : w.cell? ⟨b, off, none⟩ = some v0) (h1 : w.cell? ⟨b, off + 1, none⟩ = some v1) (h2 : w.cell? ⟨b, off + 2, none⟩ = some v2) (h3 : w.cell? ⟨b, off + 3, none⟩ = some v3) (k : wpList P ops Q rest (a.put o.dst (.agg #[v0, v1, v2, v3])) w) : wpList P ops Q (o :: rest) a w :=
  wl_run hw (ex_load4 ho hu hd hn hx h0 h1 h2 h3) k
end
theorem zero52 : (Tryd.prog.info? 52).map (·.zero) = some (some (.agg #[.pointer none, .pointer none])) := by kernel_rfl
theorem zero53 : (Tryd.prog.info? 53).map (·.zero) = some (some (.agg #[.pointer none, .pointer none])) := by kernel_rfl
theorem zero55 : (Tryd.prog.info? 55).map (·.zero) = some (some (.agg #[.int .i64 0, .int .i64 0, .int .i64 0, .slice none 0 0])) := by kernel_rfl
theorem size55 : (Tryd.prog.info? 55).map (·.size) = some 4 := by kernel_rfl
theorem size29 : (Tryd.prog.info? 29).map (·.size) = some 1 := by kernel_rfl
theorem size34 : (Tryd.prog.info? 34).map (·.size) = some 1 := by kernel_rfl
/-- What came in. -/
structure OpAt (w : World) (b o : Nat) (K O N : Int) (la : Option Addr) (ln lc lb lo : Nat) (lg : Nat → Int) : Prop where
  c0 : w.cell? ⟨b, o, none⟩ = some (.int .i64 K)
  c1 : w.cell? ⟨b, o + 1, none⟩ = some (.int .i64 O)
  c2 : w.cell? ⟨b, o + 2, none⟩ = some (.int .i64 N)
  c3 : w.cell? ⟨b, o + 3, none⟩ = some (.slice la ln lc)
  bO : -9223372036854775808 ≤ O ∧ O ≤ 9223372036854775807
  bN : -9223372036854775808 ≤ N ∧ N ≤ 9223372036854775807
  l : Ints w (.slice la ln lc) la ln lc lb lo lg
  sz : ln * 8 ≤ 140737488351232
def Script (w : World) (b o M : Nat) : Prop := ∀ k, k < M → ∃ K O N la ln lc lb lo lg, OpAt w b (o + k * 4) K O N la ln lc lb lo lg
/-- The beginning: k of the two are made. -/
def Begun (w : World) (sA rA xb n m : Nat) (k : Nat) (wr : World) : Prop :=
  (k = 0 ∧ Tr w [] wr [Res.blk rA #[.pointer none, .pointer none] 53, Res.blk sA #[.pointer none, .pointer none] 52, Res.blk xb #[.int .i64 n, .int .i64 m] 23]) ∨
  (k = 1 ∧ ∃ a : Ad, Tr w [] wr [rfR a n m B0 I0, spR a n m B0 I0, Res.blk rA #[.pointer (some ⟨a.rp, 0, none⟩), .pointer none] 53, Res.blk sA #[.pointer (some ⟨a.p, 0, none⟩), .pointer none] 52, Res.blk xb #[.int .i64 n, .int .i64 m] 23]) ∨
  (k = 2 ∧ ∃ a b : Ad, Tr w [] wr [rfR b n m B0 I0, spR b n m B0 I0, rfR a n m B0 I0, spR a n m B0 I0, Res.blk rA #[.pointer (some ⟨a.rp, 0, none⟩), .pointer (some ⟨b.rp, 0, none⟩)] 53, Res.blk sA #[.pointer (some ⟨a.p, 0, none⟩), .pointer (some ⟨b.p, 0, none⟩)] 52, Res.blk xb #[.int .i64 n, .int .i64 m] 23])
theorem begun_ok {w wr : World} {sA rA xb n m : Nat} (h : Begun w sA rA xb n m 2 wr) : ∃ A : Nat → Ad,
    Tr w [] wr (prs A n m (fun _ => B0) (fun _ => I0) 0 ++ prs A n m (fun _ => B0) (fun _ => I0) 1 ++ ars sA rA xb n m A) := by
  rcases h with ⟨h, _⟩ | ⟨h, _⟩ | ⟨_, a, b, hs⟩
  · omega
  · omega
  · refine ⟨fun j => if j = 0 then a else b, ?_⟩
    have e1 : (#[.pointer (some ⟨a.rp, 0, none⟩), .pointer (some ⟨b.rp, 0, none⟩)] : Array Value) = rowOf 2 (ptR fun j => if j = 0 then a else b) := by
      rw [row_two]; exact rowOf_congr fun i hi => by simp only [ptR]; split <;> rfl
    have e2 : (#[.pointer (some ⟨a.p, 0, none⟩), .pointer (some ⟨b.p, 0, none⟩)] : Array Value) = rowOf 2 (ptS fun j => if j = 0 then a else b) := by
      rw [row_two]; exact rowOf_congr fun i hi => by simp only [ptS]; split <;> rfl
    rw [e1, e2] at hs
    have p : ∀ (a b c d x y z : Res), [a, b, c, d, x, y, z].Perm [d, c, b, a, y, x, z] := fun a b c d x y z =>
      ((List.reverse_perm [a, b, c, d]).symm).append (List.Perm.swap _ _ _)
    exact hs.perm (p _ _ _ _ _ _ _)
theorem inv_nil : Inv B0 I0 := ⟨B0_two, rfl⟩
end Go.Proofs.YtfedfdcbhggipaaDoor
