/- BitsCounts: the walk. -/
import Derived.Test.YtpendlnikdjcjaaDoorWFills
namespace Go.Proofs.YtpendlnikdjcjaaDoor
set_option linter.unusedVariables false
set_option linter.unusedSimpArgs false
open Go Go.Sp Go.RowKit Go.BigFrame

/-- The first k of what f tells. -/
def upto (f : Nat → Bool) (k : Nat) : Nat → Value := fun j => .bool (decide (j < k) && f j)
theorem upto_nil (f : Nat → Bool) (n : Nat) : rowOf n (fun i => .bool ((fun _ : Nat => false) i)) = rowOf n (upto f 0) := rowOf_congr fun i hi => by simp [upto]
theorem zmakeU (f : Nat → Bool) (m i : Nat) (_ : i < m) : (Value.bool false).cells[i % (Value.bool false).cells.size]! = upto f 0 i := by
  have e : i % (Value.bool false).cells.size = 0 := Nat.mod_one i
  rw [e]
  simp [upto]
  rfl
theorem upto_succ (f : Nat → Bool) (k n : Nat) : ∀ j, j < n → (if j = k then Value.bool (f k) else upto f k j) = upto f (k + 1) j := by
  intro j hj
  simp only [upto]
  by_cases h : j = k
  · subst h; simp
  · rw [if_neg h]
    by_cases h2 : j < k
    · have : j < k + 1 := by omega
      simp [h2, this]
    · have : ¬ j < k + 1 := by omega
      simp [h2, this]
theorem upto_get {f : Nat → Bool} {k j : Nat} (h : j < k) : upto f k j = .bool (f j) := by simp [upto, h]
theorem updP_twice (f : Nat → Bool) (i : Nat) (b c : Bool) : updP (updP f i b) i c = updP f i c := by
  funext j; simp only [updP]; split <;> rfl
theorem turn_counts (f : Nat → Bool) {n p c : Nat} (h : p < n) (hc : cntP f n = c + (f p).toNat) : cntP (updP f p true) n = c + 1 ∧ cntP (updP f p false) n = c := by
  have h1 := cntP_upd f p true n
  have h2 := cntP_upd f p false n
  rw [if_pos h, if_pos h] at h1 h2
  simp at h1 h2
  omega
theorem has_cnt {f : Nat → Bool} {n p : Nat} (h : p < n) (hf : f p = true) : 1 ≤ cntP f n := by
  have h1 := cntP_upd f p false n
  rw [if_pos h, if_pos h, hf] at h1
  simp at h1
  omega

theorem upto_at {f : Nat → Bool} {k m n : Nat} (hk : k < m) (hlt : k < n) {b : Bool} (hb : f k = b) : (rowOf n (upto f m))[k]? = some (.bool b) := by rw [rowOf_get hlt, upto_get hk, hb]
theorem upto_set {f : Nat → Bool} {k n : Nat} {b : Bool} (hb : f k = b) : ∀ j, j < n → (if j = k then Value.bool b else upto f k j) = upto f (k + 1) j := by rw [← hb]; exact upto_succ f k n
set_option maxRecDepth 100000 in
set_option maxHeartbeats 4000000 in
theorem counts_core (x0 x2 : Int) (m N1 c1 p : Nat) (G1 : Nat → Int) (ao1 : Option Addr) (db1 do1 : Nat) (w : World) (hn : m + 1 ≤ 4096) (hN1 : N1 ≤ 9223372036854775807)
    (hao1 : 0 < N1 → ao1 = some ⟨db1, do1, none⟩) (hR1 : Rd w db1 do1 N1 fun i => .int .i64 (G1 i)) (hW1 : ∀ i, i < N1 → -9223372036854775808 ≤ G1 i ∧ G1 i ≤ 9223372036854775807)
    (P0 : Hid (∀ w, Calls Tryd.prog 16 #[.int .i64 x0, .int .i64 4096] w fun e w' => e = .returned (.int .i64 m) ∧ w = w'))
    (P1 : Hid (∀ w, Calls Tryd.prog 16 #[.int .i64 x2, .int .i64 (m + 1 : Nat)] w fun e w' => e = .returned (.int .i64 p) ∧ w = w')) (hp : p < m + 1) (hR : Rd w 0 0 64 tabV) :
    Calls Tryd.prog 5 #[.int .i64 x0, .slice ao1 N1 c1, .int .i64 x2] w fun e w' => e = .returned (.bool true) ∧ Tr w [] w' [] := by
  have hs := Tr.refl w []
  have HR := Lib.hid hR
  have A1 := Lib.hid hao1
  have R1 := Lib.hid hR1
  have W1 := Lib.hid hW1
  clear hao1 hR1 hW1 hR
  have hnm : IntKind.i64.wrap (1 + (m : Int)) = ((m + 1 : Nat) : Int) := by rw [wrap_in (by omega)]; omega
  go_enter Tryd.func5, Tryd.ntmps5
  go_upto_region 3 with (first
    | (go_at_call 9; refine (awake_any _ (HR.out.keep hs)).mono ?_; rintro e w2 ⟨rfl, hc⟩; replace hs := hs.call0 hc; clear hc)
    | (go_at_call 16; refine (P0.out _).mono ?_; rintro e w2 ⟨rfl, rfl⟩))
  have e1 : ((m : Int) + 1) = ((m + 1 : Nat) : Int) := by omega
  have e2 : (1 + (m : Int)) = ((m + 1 : Nat) : Int) := by omega
  first | rw [e2] | rw [e1] | skip
  clear hnm e1 e2
  obtain ⟨n, hnn⟩ : ∃ n, n = m + 1 := ⟨_, rfl⟩
  rw [← hnn] at hn P1 hp ⊢
  have hn1 : 1 ≤ n := by omega
  clear hnn P0
  go_upto_region 7 with (first
    | (go_at_call 17; refine (row_any n N1 0 G1 (fun _ => 0) ao1 none c1 0 db1 do1 0 0 _ hn hN1 (by omega) A1.out (fun h => by omega) (R1.out.keep hs) (rd_nil _ _) W1.out (fun i h => by omega)).mono ?_; rintro e w2 ⟨d, s, f, rfl, hz, hc⟩; replace hs := hs.call1 hc; clear hc))
  have HZ := Lib.hid hz
  clear hz
  go_upto_region 9 with (first
    | ((with_reducible refine at_mk rfl ?_); refine wl_make hs rfl rfl Tryd.underlying40 info4 n rfl rfl rfl (by omega) (by omega) (upto f 0) (zmakeU f _) ?_; rw [Nat.mul_one]; clear hs; intro w1 wb hs))
  go_loopw [9, 11] (fun c i wr => ∃ k : Nat, k ≤ n ∧ i = .int .i64 k ∧ c = .int .i64 ((cntP f k : Nat) : Int) ∧ Tr w [] wr [Res.blk wb (rowOf n (upto f k)) 4, bitsR d s n f]) (fun _ i _ => n - (intOf i).toNat)
  case atStart => exact ⟨0, Nat.zero_le _, rfl, rfl, hs⟩
  case round =>
    clear hs
    obtain ⟨k, hk, rfl, rfl, hs⟩ := hrel
    by_cases hlt : k < n
    · have hltI : (k : Int) < n := by omega
      have hcl := cntP_le f k
      have HC1 : Hid (cntP f (k + 1) = cntP f k + (f k).toNat) := Lib.hid rfl
      have HH := Lib.hid (fun w h => has_yes (d := d) (s := s) (w := w) (n := n) (f := f) k hlt hn h)
      obtain ⟨b, hb⟩ : ∃ b, f k = b := ⟨_, rfl⟩
      have HU := Lib.hid (upto_set (n := n) hb)
      have HG := Lib.hid (upto_at (m := k + 1) (by omega) hlt hb)
      rw [hb] at HH HC1
      clear hb
      cases b
      all_goals
        go_wp2_with (first
          | (go_at_call 15; refine (HH.out _ (hs.get 1 rfl)).mono ?_; rintro e w2 ⟨rfl, hc⟩; replace hs := hs.call0 hc; clear hc)
          | ((with_reducible refine at_store rfl ?_); refine wl_store1R hs rfl rfl size4 rfl rfl rfl 0 rfl hlt (upto f (k + 1)) HU.out ?_; clear hs; intro w1 hs)
          | ((with_reducible refine at_load rfl ?_); refine wl_load1 hs rfl rfl Tryd.underlying4 rfl rfl 0 rfl HG.out ?_))
        go_roundw
        case rel => exact ⟨k + 1, by omega, by go_num, by rw [HC1.out]; go_num, hs⟩
        case measure => simp [intOf]; omega
    · obtain rfl : k = n := by omega
      have HC := Lib.hid (fun w h => count_any (d := d) (s := s) (n := k) (f := f) (w := w) hn HZ.out h)
      obtain ⟨c, hc⟩ : ∃ c, cntP f k = c + (f p).toNat := by
        cases hf : f p
        · exact ⟨_, rfl⟩
        · exact ⟨cntP f k - 1, by have := has_cnt hp hf; simp; omega⟩
      have HT := Lib.hid (turn_counts f hp hc)
      have hcl := cntP_le f k
      have z1 : ∀ i, k ≤ i → updP f p true i = false := fun i hi => by rw [updP_off (by omega)]; exact HZ.out i hi
      have z0 : ∀ i, k ≤ i → updP f p false i = false := fun i hi => by rw [updP_off (by omega)]; exact HZ.out i hi
      have C1 := Lib.hid (fun w h => count_any (d := d) (s := s) (n := k) (f := updP f p true) (w := w) hn z1 h)
      have C0 := Lib.hid (fun w h => count_any (d := d) (s := s) (n := k) (f := updP f p false) (w := w) hn z0 h)
      rw [HT.out.1] at C1
      rw [HT.out.2] at C0
      clear z1 z0 HT hlt
      obtain ⟨b, hb⟩ : ∃ b, f p = b := ⟨_, rfl⟩
      have HG := Lib.hid (upto_at (m := k) (by omega) hp hb)
      rw [hb] at hc
      have HB := Lib.hid hb
      have HCE := Lib.hid hc
      clear hb hc
      rw [HCE.out] at hcl HC ⊢
      go_upto_region 18 with (first
        | (go_at_call 14; refine (HC.out _ (hs.get 1 rfl)).mono ?_; rintro e w2 ⟨rfl, hc⟩; replace hs := hs.call0 hc; clear hc)
        | (go_at_call 16; refine (P1.out _).mono ?_; rintro e w2 ⟨rfl, rfl⟩)
        | (go_at_call 18; refine (set_yes p hp hn (hs.get 1 rfl)).mono ?_; rintro e w2 ⟨rfl, hc⟩; replace hs := hs.upd 1 rfl hc; clear hc))
      have hs1 : Tr w [] w2 [Res.blk wb (rowOf k (upto f k)) 4, bitsR d s k (updP f p true)] := hs
      clear hs; have hs := hs1; clear hs1
      go_upto_region 20 with (first
        | (go_at_call 14; refine (C1.out _ (hs.get 1 rfl)).mono ?_; rintro e w2 ⟨rfl, hc⟩; replace hs := hs.call0 hc; clear hc)
        | (go_at_call 18; refine (set_yes p hp hn (hs.get 1 rfl)).mono ?_; rintro e w2 ⟨rfl, hc⟩; replace hs := hs.upd 1 rfl hc; clear hc))
      have hs1 : Tr w [] w2 [Res.blk wb (rowOf k (upto f k)) 4, bitsR d s k (updP f p true)] := by rw [← updP_twice f p true true]; exact hs
      clear hs; have hs := hs1; clear hs1
      go_upto_region 22 with (first
        | (go_at_call 14; refine (C1.out _ (hs.get 1 rfl)).mono ?_; rintro e w2 ⟨rfl, hc⟩; replace hs := hs.call0 hc; clear hc)
        | (go_at_call 19; refine (clear_yes p hp hn (hs.get 1 rfl)).mono ?_; rintro e w2 ⟨rfl, hc⟩; replace hs := hs.upd 1 rfl hc; clear hc))
      have hs1 : Tr w [] w2 [Res.blk wb (rowOf k (upto f k)) 4, bitsR d s k (updP f p false)] := by rw [← updP_twice f p true false]; exact hs
      clear hs; have hs := hs1; clear hs1
      go_upto_region 24 with (first
        | (go_at_call 14; refine (C0.out _ (hs.get 1 rfl)).mono ?_; rintro e w2 ⟨rfl, hc⟩; replace hs := hs.call0 hc; clear hc)
        | (go_at_call 19; refine (clear_yes p hp hn (hs.get 1 rfl)).mono ?_; rintro e w2 ⟨rfl, hc⟩; replace hs := hs.upd 1 rfl hc; clear hc))
      have hs1 : Tr w [] w2 [Res.blk wb (rowOf k (upto f k)) 4, bitsR d s k (updP f p false)] := by rw [← updP_twice f p false false]; exact hs
      clear hs; have hs := hs1; clear hs1
      obtain ⟨n, hn'⟩ : ∃ n, n = k := ⟨_, rfl⟩
      rw [← hn'] at hs hn hp hn1 hcl C0 HZ HG ⊢
      clear hn' C1 HC P1 HCE
      cases b
      all_goals
        go_upto_region 26 with (first
          | ((with_reducible refine at_load rfl ?_); refine wl_load1 hs rfl rfl Tryd.underlying4 rfl rfl 0 rfl HG.out ?_))
        go_wp2_with fail
        go_loopw [19] (fun i wr => ∃ k : Nat, k ≤ n ∧ i = .int .i64 k ∧ Tr w [] wr [Res.blk wb (rowOf n (upto f n)) 4, bitsR d s n (updP f p false)]) (fun i _ => n - (intOf i).toNat)
        case atStart => exact ⟨0, Nat.zero_le _, rfl, hs⟩
        case round =>
          clear hs
          obtain ⟨k, hk, rfl, hs⟩ := hrel
          by_cases hlt : k < n
          · have hltI : (k : Int) < n := by omega
            have HH := Lib.hid (fun w h => has_yes (d := d) (s := s) (w := w) (n := n) (f := updP f p false) k hlt hn h)
            by_cases hkp : k = p
            · subst hkp
              rw [updP_at] at HH
              go_wp2_with (first
                | (go_at_call 15; refine (HH.out _ (hs.get 1 rfl)).mono ?_; rintro e w2 ⟨rfl, hc⟩; replace hs := hs.call0 hc; clear hc)
                | ((with_reducible refine at_load rfl ?_); refine wl_load1 hs rfl rfl Tryd.underlying4 rfl rfl 0 rfl HG.out ?_))
              go_roundw
              case rel => exact ⟨k + 1, by omega, by go_num, hs⟩
              case measure => simp [intOf]; omega
            · rw [updP_off hkp] at HH
              obtain ⟨b2, hb2⟩ : ∃ b2, f k = b2 := ⟨_, rfl⟩
              have HG2 := Lib.hid (upto_at (m := n) hlt hlt hb2)
              rw [hb2] at HH
              clear hb2
              have hne : ((k : Int) == (p : Int)) = false := by rw [beq_eq_false_iff_ne]; omega
              have hne2 : ((k : Int) != (p : Int)) = true := by rw [bne_iff_ne]; omega
              clear hkp
              cases b2
              all_goals
                go_wp2_with (first
                  | (go_at_call 15; refine (HH.out _ (hs.get 1 rfl)).mono ?_; rintro e w2 ⟨rfl, hc⟩; replace hs := hs.call0 hc; clear hc)
                  | ((with_reducible refine at_load rfl ?_); refine wl_load1 hs rfl rfl Tryd.underlying4 rfl rfl 0 rfl HG2.out ?_))
                go_roundw
                case rel => exact ⟨k + 1, by omega, by go_num, hs⟩
                case measure => simp [intOf]; omega
          · have hltI : ¬ (k : Int) < n := by omega
            go_wp2_with (first
              | (go_at_call 14; refine (C0.out _ (hs.get 1 rfl)).mono ?_; rintro e w2 ⟨rfl, hc⟩; replace hs := hs.call0 hc; clear hc))
            go_ret
            exact ⟨rfl, hs.letgo⟩
theorem counts_walk (x0 x2 : Int) (N1 c1 : Nat) (G1 : Nat → Int) (ao1 : Option Addr) (db1 do1 : Nat) (w : World) (hN1 : N1 ≤ 9223372036854775807)
    (hao1 : 0 < N1 → ao1 = some ⟨db1, do1, none⟩) (hR1 : Rd w db1 do1 N1 fun i => .int .i64 (G1 i)) (hW1 : ∀ i, i < N1 → -9223372036854775808 ≤ G1 i ∧ G1 i ≤ 9223372036854775807)
    (h0 : -9223372036854775808 ≤ x0 ∧ x0 ≤ 9223372036854775807) (h2 : -9223372036854775808 ≤ x2 ∧ x2 ≤ 9223372036854775807) (hR : Rd w 0 0 64 tabV) :
    Calls Tryd.prog 5 #[.int .i64 x0, .slice ao1 N1 c1, .int .i64 x2] w fun e w' => e = .returned (.bool true) ∧ Below w.heap.size w w' := by
  obtain ⟨m, hp, hm⟩ : ∃ m : Nat, pick x0 4096 = (m : Int) ∧ m < 4096 := ⟨(pick x0 4096).toNat, by have := pick_bd x0 4096 (by omega); omega, by have := pick_bd x0 4096 (by omega); omega⟩
  have P0 := Lib.hid (fun w => pick_any x0 4096 w (by omega) (by omega) h0.1 h0.2)
  rw [hp] at P0
  obtain ⟨p, hq, hp2⟩ : ∃ p : Nat, pick x2 ((m + 1 : Nat) : Int) = (p : Int) ∧ p < m + 1 := ⟨(pick x2 ((m + 1 : Nat) : Int)).toNat, by have := pick_bd x2 ((m + 1 : Nat) : Int) (by omega); omega, by have := pick_bd x2 ((m + 1 : Nat) : Int) (by omega); omega⟩
  have P1 := Lib.hid (fun w => pick_any x2 ((m + 1 : Nat) : Int) w (by omega) (by omega) h2.1 h2.2)
  rw [hq] at P1
  exact (counts_core x0 x2 m N1 c1 p G1 ao1 db1 do1 w (by omega) hN1 hao1 hR1 hW1 P0 P1 hp2 hR).mono fun e w' ⟨he, ht⟩ => ⟨he, ht.below⟩
end Go.Proofs.YtpendlnikdjcjaaDoor
