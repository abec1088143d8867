/- Spaces: awake, super. -/
import Derived.Test.YtfedfdcbhggipaaDoorQ2
namespace Go.Proofs.YtfedfdcbhggipaaDoor
set_option linter.unusedVariables false
set_option linter.unusedSimpArgs false
open Go Go.Sp Go.RowKit Go.BigFrame

theorem zero23 : (Tryd.prog.info? 23).map (·.zero) = some (some (.agg #[.int .i64 0, .int .i64 0])) := by kernel_rfl
theorem info3 : (Tryd.prog.info? 3).map (fun i => (i.zero, i.size, i.bytes)) = some (some (.int .i64 0), 1, 8) := by kernel_rfl
def aG1 : Nat → Int := fun _ => 1
def aG2 : Nat → Int := fun i => if i = 0 then 4 else 6
theorem a_ok1 : ∀ k, k < 1 → okF (3 + 1) 1 (stF (fun _ => false) aG1 k) (aG1 k) := fun k hk => by
  obtain rfl : k = 0 := by omega
  exact ⟨by decide, by decide, rfl⟩
theorem a_ok2 : ∀ k, k < 2 → okF 12 (3 + 1) (stF (fun _ => false) aG2 k) (aG2 k) := fun k hk => by
  rcases (by omega : k = 0 ∨ k = 1) with rfl | rfl
  · exact ⟨by decide, by decide, rfl⟩
  · exact ⟨by decide, by decide, rfl⟩
theorem a_room : roomV 12 3 (newB aG2 2) (newI aG1 1) = .agg #[.int .i64 6, .int .i64 0, .int .i64 2] := by
  have h1 : cntP (rB 12 3 (newB aG2 2)) 12 = 6 := by decide
  have h2 : cntP (fL 12 3 (newB aG2 2)) 12 = 0 := by decide
  have h3 : cntP (rI (newI aG1 1)) (3 + 1) = 2 := by decide
  rw [roomV, h1, h2, h3]; rfl
theorem ints_of_blk {w : World} {b n : Nat} {G : Nat → Int} {cs : Array Value} {t : TypeId} (h : w.heap[b]? = some (.cells cs t (0, 0))) (hcs : cs = rowOf n fun i => .int .i64 (G i)) (hn : n ≤ maxLen) (hG : ∀ i, i < n → -9223372036854775808 ≤ G i ∧ G i ≤ 9223372036854775807) :
    Ints w (.slice (some ⟨b, 0, none⟩) n n) (some ⟨b, 0, none⟩) n n b 0 G :=
  ⟨rfl, Nat.le_refl _, hn, fun _ => rfl, fun j hj => by rw [Nat.zero_add, cell_of_row w b j cs t (0, 0) h, hcs, rowOf_get hj], hG⟩
theorem Tr.ext0 {w0 w w' : World} {L R : List Res} (hs : Tr w0 [] w L) (h : Tr w [] w' R) : Tr w0 [] w' (R ++ L) := hs.call h

set_option maxHeartbeats 1000000 in
theorem awake_any (w : World) (hR : Rd w 0 0 64 tabV) : Calls Tryd.prog 9 #[] w fun e w' => e = .returned (.bool true) ∧ Tr w [] w' [] := by
  have hs := Tr.refl w []
  have HR := Lib.hid hR
  clear hR
  go_enter Tryd.func9, Tryd.ntmps9
  go_upto_region 4 with (first
    | ((with_reducible refine (at_buildSlice (n := 1)) rfl ?_); refine wl_buildSliceV hs rfl rfl Tryd.underlying24 info3 (by omega) (by omega) [.int .i64 1] rfl rfl (by simp [Value.oneCell']) ?_; clear hs; intro w1 b1 hs)
    | ((with_reducible refine (at_buildSlice (n := 2)) rfl ?_); refine wl_buildSliceV hs rfl rfl Tryd.underlying24 info3 (by omega) (by omega) [.int .i64 4, .int .i64 6] rfl rfl (by simp [Value.oneCell']) ?_; clear hs; intro w1 b2 hs))
  have J1 : Ints w1 (.slice (some ⟨b1, 0, none⟩) 1 1) (some ⟨b1, 0, none⟩) 1 1 b1 0 aG1 := ints_of_blk (hs.getB 1 rfl) (rowOf_ext rfl fun i hi => by (obtain rfl : i = 0 := by omega); rfl) (by unfold maxLen; omega) (fun i hi => by simp only [aG1]; omega)
  have J2 : Ints w1 (.slice (some ⟨b2, 0, none⟩) 2 2) (some ⟨b2, 0, none⟩) 2 2 b2 0 aG2 := ints_of_blk (hs.getB 0 rfl) (rowOf_ext rfl fun i hi => by (rcases (by omega : i = 0 ∨ i = 1) with rfl | rfl) <;> rfl) (by unfold maxLen; omega) (fun i hi => by simp only [aG2]; split <;> omega)
  have HN := Lib.hid (snew_yes (n := 12) (m := 3) (by omega) J1 J2 a_ok1 a_ok2)
  clear J1 J2
  go_at_call 11
  refine HN.out.mono ?_
  rintro e w2 ⟨p, b, bs, i, is, q, rfl, hc⟩
  replace hs := hs.call1 hc
  clear hc HN
  go_upto_region 4 with fail
  have HM := Lib.hid (fun w h => room_any (p := p) (b := b) (bs := bs) (i := i) (is := is) (q := q) (n := 12) (m := 3) (w := w) (by omega) (by omega) (newB_two aG2 2) (I := newI aG1 1) h)
  rw [a_room] at HM
  have HT := Lib.hid (fun w hR h => take_yes (p := p) (b := b) (bs := bs) (i := i) (is := is) (q := q) (n := 12) (m := 3) (w := w) (B := newB aG2 2) (I := newI aG1 1) 5 (by omega) (by omega) (by omega) (by decide) (fun j h1 h2 => by (obtain rfl : j = 4 := by omega); decide) hR h)
  have HI := Lib.hid (fun w hR h => takei_yes (p := p) (b := b) (bs := bs) (i := i) (is := is) (q := q) (n := 12) (m := 3) (w := w) (B := setB (newB aG2 2) 5 1) (I := newI aG1 1) 2 (by omega) (by omega) (by omega) (by decide) (fun j h1 h2 => by (obtain rfl : j = 1 := by omega); decide) hR h)
  go_upto_region 7 with (first
    | ((with_reducible refine at_alloc rfl ?_); refine wl_allocA hs rfl rfl zero40 ?_; clear hs; intro w1 rb hs)
    | ((with_reducible refine at_store rfl ?_); refine wl_storeA hs rfl rfl rfl rfl size40 (by simp [Value.oneCell']) 0 rfl rfl ?_; clear hs; intro w1 hs)
    | (go_at_call 17; refine (HM.out _ (hs.get 0 rfl)).mono ?_; rintro e w2 ⟨rfl, hc⟩; replace hs := hs.call0 hc; clear hc)
    | (go_at_call 19; refine (HT.out _ (HR.out.keep hs) (hs.get 1 rfl)).mono ?_; rintro e w2 ⟨rfl, hc⟩; replace hs := hs.upd 1 rfl hc; clear hc)
    | (go_at_call 23; refine (HI.out _ (HR.out.keep hs) (hs.get 1 rfl)).mono ?_; rintro e w2 ⟨rfl, hc⟩; replace hs := hs.upd 1 rfl hc; clear hc))
  go_wp2_with (first
    | ((with_reducible refine (at_load (t := 40)) rfl ?_); refine wl_loadA hs rfl rfl Tryd.underlying40 rfl rfl 0 rfl size40 ?_))
  go_ret
  exact ⟨rfl, hs.letgo⟩
theorem super_any (x y : Int) (hx : -9223372036854775808 ≤ x ∧ x ≤ 9223372036854775807) (hy : -9223372036854775808 ≤ y ∧ y ≤ 9223372036854775807) : ∃ n m : Nat, (8 ≤ n ∧ n ≤ 4096 ∧ 1 ≤ m ∧ m ≤ 512 ∧ m + 2 ≤ n) ∧
    ∀ w, Calls Tryd.prog 21 #[.int .i64 x, .int .i64 y] w fun e w' => e = .returned (.agg #[.int .i64 n, .int .i64 m]) ∧ Tr w [] w' [] := by
  obtain ⟨a, ha, ha2⟩ : ∃ a : Nat, pick x 4089 = (a : Int) ∧ a < 4089 := ⟨(pick x 4089).toNat, by have := pick_bd x 4089 (by omega); omega, by have := pick_bd x 4089 (by omega); omega⟩
  have P0 := Lib.hid (fun w => pick_any x 4089 w (by omega) (by omega) hx.1 hx.2)
  rw [ha] at P0
  obtain ⟨t, ht⟩ : ∃ t : Nat, t = if 512 ≤ a + 6 then 512 else a + 6 := ⟨_, rfl⟩
  have ht1 : 1 ≤ t ∧ t ≤ 512 ∧ t ≤ a + 6 := by rw [ht]; split <;> omega
  obtain ⟨b, hb, hb2⟩ : ∃ b : Nat, pick y (t : Int) = (b : Int) ∧ b < t := ⟨(pick y t).toNat, by have := pick_bd y t (by omega); omega, by have := pick_bd y t (by omega); omega⟩
  have P1 := Lib.hid (fun w => pick_any y (t : Int) w (by omega) (by omega) hy.1 hy.2)
  rw [hb] at P1
  have e1 : ((8 + a : Nat) : Int) = 8 + (a : Int) := by omega
  have e2 : ((1 + b : Nat) : Int) = 1 + (b : Int) := by omega
  refine ⟨8 + a, 1 + b, by omega, fun w => ?_⟩
  rw [e1, e2]
  clear e1 e2
  have hs := Tr.refl w []
  by_cases h512 : 512 ≤ a + 6
  · rw [if_pos h512] at ht
    subst ht
    have t1 : (512 : Int) ≤ (a : Int) + 6 := by omega
    go_enter Tryd.func21, Tryd.ntmps21
    go_wp2_with (first
      | ((with_reducible refine at_alloc rfl ?_); refine wl_allocA hs rfl rfl zero23 ?_; clear hs; intro w1 rb hs)
      | (go_at_call_of 22 (Value.int .i64 x); refine (P0.out _).mono ?_; rintro e w2 ⟨rfl, rfl⟩)
      | (go_at_call 22; refine (P1.out _).mono ?_; rintro e w2 ⟨rfl, rfl⟩)
      | ((with_reducible refine at_store rfl ?_); refine wl_storeA hs rfl rfl rfl rfl size23 (by simp [Value.oneCell']) 0 rfl rfl ?_; clear hs; intro w1 hs))
    exact ret_cell hs rfl rfl Tryd.underlying23 rfl rfl 0 rfl size23 ⟨rfl, hs.letgo⟩
  · rw [if_neg h512] at ht
    subst ht
    have t1 : 8 + (a : Int) - 2 < 512 := by omega
    have e1 : ((a + 6 : Nat) : Int) = 8 + (a : Int) - 2 := by omega
    rw [e1] at P1
    clear e1
    go_enter Tryd.func21, Tryd.ntmps21
    go_wp2_with (first
      | ((with_reducible refine at_alloc rfl ?_); refine wl_allocA hs rfl rfl zero23 ?_; clear hs; intro w1 rb hs)
      | (go_at_call_of 22 (Value.int .i64 x); refine (P0.out _).mono ?_; rintro e w2 ⟨rfl, rfl⟩)
      | (go_at_call 22; refine (P1.out _).mono ?_; rintro e w2 ⟨rfl, rfl⟩)
      | ((with_reducible refine at_store rfl ?_); refine wl_storeA hs rfl rfl rfl rfl size23 (by simp [Value.oneCell']) 0 rfl rfl ?_; clear hs; intro w1 hs))
    exact ret_cell hs rfl rfl Tryd.underlying23 rfl rfl 0 rfl size23 ⟨rfl, hs.letgo⟩
end Go.Proofs.YtfedfdcbhggipaaDoor
