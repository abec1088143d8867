/- Readers: what they tell; tables. -/
import Derived.Test.YtdlnfdlgnbkppaaA
import Derived.Test.YtdlnfdlgnbkppaaDk
import Derived.Test.YtdlnfdlgnbkppaaOpen4
namespace Go.Proofs.Ytdlnfdlgnbkppaa
set_option linter.unusedVariables false
set_option linter.unusedSimpArgs false
open Go Go.Sp Go.RowKit

/-- A reader's sectors. -/
structure Src where
  (ao : Option Addr) (N c db doff : Nat) (im : Nat → Nat → UInt8) (bad code : Int)
@[reducible] def Src.cs (s : Src) : Array Value := #[.slice s.ao s.N s.c, .int .i64 s.bad, .int .i64 s.code]
structure Src.In (s : Src) (w : World) : Prop where
  le : s.N ≤ s.c
  mx : s.c ≤ maxLen
  ao : 0 < s.N → s.ao = some ⟨s.db, s.doff, none⟩
  rd : ∀ i, i < s.N → Rd w s.db (s.doff + i * 128) 128 (u8v (s.im i))
theorem Src.In.keep {s : Src} {w w' : World} {L : List Res} (h : s.In w) (hs : Tr w [] w' L) : s.In w' := ⟨h.le, h.mx, h.ao, fun i hi => (h.rd i hi).keep hs⟩
/-- The reader behind a pointer. -/
structure Rdr (s : Src) (mb : Nat) (w : World) : Prop where
  m : (Res.blk mb s.cs 39).holds w
  i : s.In w
theorem Res.keep {r : Res} {w w' : World} {L : List Res} (h : r.holds w) (hs : Tr w [] w' L) : r.holds w' := r.stays w w' (fun k hk => hs.keep k (r.live w h k hk) (by simp)) h
theorem Res.cellAt {w w' : World} {L : List Res} {b off : Nat} {cs : Array Value} {t : TypeId} {v : Value} (h : (Res.blk b cs t).holds w) (hs : Tr w [] w' L) (hv : cs[off]? = some v) : w'.cell? ⟨b, off, none⟩ = some v := by
  have h2 : w'.heap[b]? = some (.cells cs t (0, 0)) := by simpa [Res.blk] using Res.keep h hs
  rw [cell_of_row w' b off cs t (0, 0) h2]; exact hv
theorem Rdr.keep {s : Src} {mb : Nat} {w w' : World} {L : List Res} (h : Rdr s mb w) (hs : Tr w [] w' L) : Rdr s mb w' := ⟨Res.keep h.m hs, h.i.keep hs⟩

def rdE (s : Src) (n : Int) : Int := if n = s.bad ∧ 0 ≤ n then s.code else if n < 0 ∨ (s.N : Int) ≤ n then 40 else 0
def rdF (s : Src) (n : Int) : Nat → UInt8 := if n = s.bad ∧ 0 ≤ n then fun _ => 0 else if n < 0 ∨ (s.N : Int) ≤ n then fun _ => 0 else s.im n.toNat

theorem size35 : (Try.prog.info? 35).map (·.size) = some 3 := by kernel_rfl
theorem sread_any (s : Src) (n : Int) (w : World) (hI : s.In w) :
    Calls Try.prog 33 #[.agg #[.slice s.ao s.N s.c, .int .i64 s.bad, .int .i64 s.code], .int .i64 n] w fun e w' => e = .returned (.tuple #[bytesV 128 (rdF s n), .int .i64 (rdE s n)]) ∧ Tr w [] w' [] := by
  have hs := Tr.refl w []
  have HI := Lib.hid hI
  clear hI
  obtain ⟨ao, N, c, db, doff, im, bad, code⟩ := s
  by_cases hb : n = bad ∧ 0 ≤ n
  · have t1 : (n == bad) = true := by rw [beq_iff_eq]; exact hb.1
    have t2 : 0 ≤ n := hb.2
    rw [show rdE ⟨ao, N, c, db, doff, im, bad, code⟩ n = code from if_pos hb, show rdF ⟨ao, N, c, db, doff, im, bad, code⟩ n = fun _ => 0 from if_pos hb]
    clear hb
    go_enter Try.func33, Try.ntmps33
    go_upto_region 2 with (first | ((with_reducible refine (at_box (t := 35)) rfl ?_); refine wl_boxA hs rfl rfl rfl ?_; clear hs; intro w1 sb hs) | ((with_reducible refine (at_alloc (t := 83)) rfl ?_); refine wl_allocA hs rfl rfl zero83 ?_; clear hs; intro w1 rb hs) | ((with_reducible refine at_load rfl ?_); refine wl_load1 hs rfl rfl Try.underlying3 rfl rfl 1 rfl rfl ?_))
    refine wt_enterS (List.Sublist.cons _ (List.Sublist.refl _)) 5 rfl hs (by kernel_rfl) ?_
    clear hs; intro w1 hC hs
    refine wt_take 0 rfl (by kernel_rfl) (by kernel_rfl) (by kernel_rfl) (fun _ _ _ _ h => h) rfl hC ⟨bytesV 128 fun _ => 0, fun w hw => ex_build0B rfl Try.underlying83 zero83 isz5, fun a1 ha => ?_⟩
    simp only [Act.put, List.setIfInBounds_toArray, List.set_cons_succ, List.set_cons_zero] at ha; subst ha
    refine wt_take 1 rfl (by kernel_rfl) (by kernel_rfl) (by kernel_rfl) (fun _ _ _ _ h => h) rfl hC ⟨_, fun w hw => by (go_simp; try with_reducible rfl), fun a1 ha => ?_⟩
    simp only [Act.put, List.setIfInBounds_toArray, List.set_cons_succ, List.set_cons_zero] at ha; subst ha
    refine wt_take 2 rfl (by kernel_rfl) (by kernel_rfl) (by kernel_rfl) (fun _ _ _ _ h => h) rfl hC ⟨_, fun w hw => ex_load1 rfl Try.underlying23 rfl rfl (by rw [cell_of_row w _ _ _ _ (0, 0) (hw.getB 0 rfl)]; rfl), fun a1 ha => ?_⟩
    simp only [Act.put, List.setIfInBounds_toArray, List.set_cons_succ, List.set_cons_zero] at ha; subst ha
    refine wt_one 3 (by kernel_rfl) ?_
    refine wt_storeA hs rfl rfl rfl rfl rfl (size83r _) (one83 _) 0 rfl (by simp only [rowOf_size]) (by simp only [Act.put, List.setIfInBounds_toArray, List.set_cons_succ, List.set_cons_zero]; rfl) ?_
    clear hs; intro w1 hs
    refine wt_and (hs.sub (by repeat (first | exact List.Sublist.refl _ | refine List.Sublist.cons_cons _ ?_ | refine List.Sublist.cons _ ?_))) fun hC => ?_
    refine wt_take 4 rfl (by kernel_rfl) (by kernel_rfl) (by kernel_rfl) (fun _ _ _ _ h => h) rfl hC ⟨_, fun w hw => by (go_simp; try with_reducible rfl), fun a1 ha => ?_⟩
    simp only [Act.put, List.setIfInBounds_toArray, List.set_cons_succ, List.set_cons_zero] at ha; subst ha
    refine wt_done (by kernel_rfl) ?_
    skip
    clear hC
    go_wp2
    exact ret_cell2 hs rfl rfl Try.underlying83 rfl rfl rfl 0 rfl (size83r _) ⟨rfl, hs.letgo⟩
  · have key : (n < 0 ∨ (N : Int) ≤ n) ∨ (0 ≤ n ∧ n < N) := by omega
    have e1 : rdE ⟨ao, N, c, db, doff, im, bad, code⟩ n = if n < 0 ∨ (N : Int) ≤ n then 40 else 0 := if_neg hb
    have e2 : rdF ⟨ao, N, c, db, doff, im, bad, code⟩ n = if n < 0 ∨ (N : Int) ≤ n then fun _ => 0 else im n.toNat := if_neg hb
    rw [e1, e2]
    clear e1 e2
    by_cases hn : n < 0
    · rw [if_pos (Or.inl hn), if_pos (Or.inl hn)]
      have t2 : ¬ 0 ≤ n := by omega
      have t3 : decide (0 ≤ n) = false := decide_eq_false t2
      have hsplit : (n == bad) = true ∨ (n == bad) = false := by cases (n == bad) <;> simp
      clear hb key
      rcases hsplit with t1 | t1
      all_goals
        go_enter Try.func33, Try.ntmps33
        go_wp2_with (first | ((with_reducible refine (at_box (t := 35)) rfl ?_); refine wl_boxA hs rfl rfl rfl ?_; clear hs; intro w1 sb hs) | ((with_reducible refine (at_alloc (t := 83)) rfl ?_); refine wl_allocA hs rfl rfl zero83 ?_; clear hs; intro w1 rb hs) | ((with_reducible refine at_load rfl ?_); refine wl_load1 hs rfl rfl Try.underlying3 rfl rfl 1 rfl rfl ?_) | ((with_reducible refine (at_build (t := 83)) rfl ?_); refine wl_build0B rfl rfl Try.underlying83 (F := fun _ => 0) zero83 isz5 ?_) | ((with_reducible refine (at_store (t := 83)) rfl ?_); refine wl_storeA hs rfl rfl rfl rfl (size83r _) (one83 _) 0 rfl (by simp only [rowOf_size]) ?_; clear hs; intro w1 hs))
        exact ret_cell2 hs rfl rfl Try.underlying83 rfl rfl rfl 0 rfl (size83r _) ⟨rfl, hs.letgo⟩
    · have t1 : (n == bad) = false := by rw [beq_eq_false_iff_ne]; intro h; exact hb ⟨h, by omega⟩
      clear hb key
      by_cases hN : (N : Int) ≤ n
      · rw [if_pos (Or.inr hN), if_pos (Or.inr hN)]
        go_enter Try.func33, Try.ntmps33
        go_wp2_with (first | ((with_reducible refine (at_box (t := 35)) rfl ?_); refine wl_boxA hs rfl rfl rfl ?_; clear hs; intro w1 sb hs) | ((with_reducible refine (at_alloc (t := 83)) rfl ?_); refine wl_allocA hs rfl rfl zero83 ?_; clear hs; intro w1 rb hs) | ((with_reducible refine at_load rfl ?_); refine wl_load1 hs rfl rfl Try.underlying3 rfl rfl 1 rfl rfl ?_) | ((with_reducible refine at_load rfl ?_); refine wl_load1 hs rfl rfl Try.underlying30 rfl rfl 1 rfl rfl ?_) | ((with_reducible refine (at_build (t := 83)) rfl ?_); refine wl_build0B rfl rfl Try.underlying83 (F := fun _ => 0) zero83 isz5 ?_) | ((with_reducible refine (at_store (t := 83)) rfl ?_); refine wl_storeA hs rfl rfl rfl rfl (size83r _) (one83 _) 0 rfl (by simp only [rowOf_size]) ?_; clear hs; intro w1 hs))
        exact ret_cell2 hs rfl rfl Try.underlying83 rfl rfl rfl 0 rfl (size83r _) ⟨rfl, hs.letgo⟩
      · rw [if_neg (by omega), if_neg (by omega)]
        obtain ⟨k, rfl⟩ : ∃ k : Nat, n = (k : Int) := ⟨n.toNat, by omega⟩
        have hk : k < N := by omega
        have HA := HI.out.ao (show 0 < N by omega)
        obtain rfl : ao = some ⟨db, doff, none⟩ := HA
        have hR := Lib.hid (HI.out.rd k hk)
        rw [Int.toNat_natCast]
        change Hid (Rd w db (doff + k * 128) 128 (u8v (im k))) at hR
        go_enter Try.func33, Try.ntmps33
        go_wp2_with (first | ((with_reducible refine (at_box (t := 35)) rfl ?_); refine wl_boxA hs rfl rfl rfl ?_; clear hs; intro w1 sb hs) | ((with_reducible refine (at_alloc (t := 83)) rfl ?_); refine wl_allocA hs rfl rfl zero83 ?_; clear hs; intro w1 rb hs) | ((with_reducible refine at_load rfl ?_); refine wl_load1 hs rfl rfl Try.underlying3 rfl rfl 1 rfl rfl ?_) | ((with_reducible refine at_load rfl ?_); refine wl_load1 hs rfl rfl Try.underlying30 rfl rfl 1 rfl rfl ?_) | ((with_reducible refine at_index rfl ?_); refine wl_index rfl rfl Try.underlying30 size83 rfl rfl k rfl hk rfl ?_) | ((with_reducible refine (at_load (t := 83)) rfl ?_); refine wl_loadMB rfl rfl Try.underlying83 size83 rfl (hR.out.keep hs) ?_) | ((with_reducible refine (at_store (t := 83)) rfl ?_); refine wl_storeA hs rfl rfl rfl rfl (size83r _) (one83 _) 0 rfl (by simp only [rowOf_size]) ?_; clear hs; intro w1 hs))
        exact ret_cell2 hs rfl rfl Try.underlying83 rfl rfl rfl 0 rfl (size83r _) ⟨rfl, hs.letgo⟩
theorem mread_any (s : Src) (mb : Nat) (n : Int) (w : World) (h : Rdr s mb w) :
    Calls Try.prog 60 #[.pointer (some ⟨mb, 0, none⟩), .int .i64 n] w fun e w' => e = .returned (.tuple #[bytesV 128 (rdF s n), .int .i64 (rdE s n)]) ∧ Tr w [] w' [] := by
  have hs := Tr.refl w []
  have H := Lib.hid h
  have HS := Lib.hid (fun w h => sread_any s n w h)
  clear h
  generalize rdF s n = F at *
  generalize rdE s n = E at *
  go_enter Try.func60, Try.ntmps60
  go_wp2_with (first | ((with_reducible refine (at_alloc (t := 83)) rfl ?_); refine wl_allocA hs rfl rfl zero83 ?_; clear hs; intro w1 rb hs) | ((with_reducible refine (at_load (t := 35)) rfl ?_); refine wl_load3 rfl rfl Try.underlying35 rfl size35 rfl (Res.cellAt H.out.m hs rfl) (Res.cellAt H.out.m hs rfl) (Res.cellAt H.out.m hs rfl) ?_) | (go_at_call 33; refine (HS.out _ (H.out.i.keep hs)).mono ?_; rintro e w2 ⟨rfl, hc⟩; replace hs := hs.call0 hc; clear hc) | ((with_reducible refine (at_store (t := 83)) rfl ?_); refine wl_storeA hs rfl rfl rfl rfl (size83r _) (one83 _) 0 rfl (by simp only [rowOf_size]) ?_; clear hs; intro w1 hs))
  exact ret_cell2 hs rfl rfl Try.underlying83 rfl rfl rfl 0 rfl (size83r _) ⟨rfl, hs.letgo⟩

def tbE (s : Src) (n : Int) : Int := if n = 0 then 0 else rdE s n
def tbF (s : Src) (n : Int) : Nat → Int := if n = 0 then fun _ => 0 else if rdE s n ≠ 0 then fun _ => 0 else ptF (rdF s n)
theorem nil_ahead (a : Addr) (w : World) : (nilAhead 214 37 (.pointer (some a)) "Read").run Try.prog w = .ok (some false) w := by kernel_rfl
theorem method_read (a : Addr) (w : World) : (method 214 37 (.pointer (some a)) "Read").run Try.prog w = .ok (60, .pointer (some a)) w := by kernel_rfl
theorem table_any (s : Src) (mb : Nat) (n : Int) (w : World) (h : Rdr s mb w) :
    Calls Try.prog 27 #[.iface 37 (.pointer (some ⟨mb, 0, none⟩)), .int .i64 n] w fun e w' => e = .returned (.tuple #[.agg (rowOf 32 (gI (tbF s n))), .int .i64 (tbE s n)]) ∧ Tr w [] w' [] := by
  have hs := Tr.refl w []
  have H := Lib.hid h
  have HS := Lib.hid (fun w h => mread_any s mb n w h)
  clear h
  by_cases h0 : n = 0
  · rw [show tbE s n = 0 from if_pos h0, show tbF s n = fun _ => 0 from if_pos h0]
    subst h0
    go_enter Try.func27, Try.ntmps27
    go_wp2_with (first | ((with_reducible refine (at_alloc (t := 69)) rfl ?_); refine wl_allocA hs rfl rfl zero69 ?_; clear hs; intro w1 rb hs) | ((with_reducible refine (at_build (t := 69)) rfl ?_); refine wl_build0 rfl rfl Try.underlying69 zero69 isz3 ?_) | ((with_reducible refine (at_store (t := 69)) rfl ?_); refine wl_storeA hs rfl rfl rfl rfl (size69 _) (oneI 32 _) 0 rfl (by simp only [rowOf_size]) ?_; clear hs; intro w1 hs))
    exact ret_cell2 hs rfl rfl Try.underlying69 rfl rfl rfl 0 rfl (size69 _) ⟨rfl, hs.letgo⟩
  · have t0 : (n == 0) = false := by rw [beq_eq_false_iff_ne]; exact h0
    rw [show tbE s n = rdE s n from if_neg h0, show tbF s n = if rdE s n ≠ 0 then fun _ => 0 else ptF (rdF s n) from if_neg h0]
    have hm := method_read
    have hna := nil_ahead
    by_cases he : rdE s n = 0
    · rw [if_neg (by simpa using he)]
      generalize rdF s n = F at *
      generalize rdE s n = E at *
      subst he
      go_enter Try.func27, Try.ntmps27
      go_wp2_with (first | ((with_reducible refine (at_alloc (t := 69)) rfl ?_); refine wl_allocA hs rfl rfl zero69 ?_; clear hs; intro w1 rb hs) | ((with_reducible refine (at_alloc (t := 83)) rfl ?_); refine wl_allocA hs rfl rfl zero83 ?_; clear hs; intro w1 xb hs) | (go_at_call 60; refine (HS.out _ (H.out.keep hs)).mono ?_; rintro e w2 ⟨rfl, hc⟩; replace hs := hs.call0 hc; clear hc) | ((with_reducible refine (at_store (t := 83)) rfl ?_); refine wl_storeA hs rfl rfl rfl rfl (size83r _) (one83 _) 0 rfl (by simp only [rowOf_size]) ?_; clear hs; intro w1 hs) | ((with_reducible refine (at_load (t := 83)) rfl ?_); refine wl_loadB hs rfl rfl Try.underlying83 rfl 0 rfl size83 ?_) | (go_at_call 32; refine (readp_any F _).mono ?_; rintro e w2 ⟨rfl, hc⟩; replace hs := hs.call0 hc; clear hc) | ((with_reducible refine (at_store (t := 69)) rfl ?_); refine wl_storeA hs rfl rfl rfl rfl (size69 _) (oneI 32 _) 1 rfl (by simp only [rowOf_size]) ?_; clear hs; intro w1 hs))
      exact ret_cell2 hs rfl rfl Try.underlying69 rfl rfl rfl 1 rfl (size69 _) ⟨rfl, hs.letgo⟩
    · rw [if_pos he]
      have t1 : (rdE s n != 0) = true := by simpa using he
      generalize rdE s n = E at *
      generalize rdF s n = F at *
      clear he
      go_enter Try.func27, Try.ntmps27
      go_wp2_with (first | ((with_reducible refine (at_alloc (t := 69)) rfl ?_); refine wl_allocA hs rfl rfl zero69 ?_; clear hs; intro w1 rb hs) | ((with_reducible refine (at_alloc (t := 83)) rfl ?_); refine wl_allocA hs rfl rfl zero83 ?_; clear hs; intro w1 xb hs) | (go_at_call 60; refine (HS.out _ (H.out.keep hs)).mono ?_; rintro e w2 ⟨rfl, hc⟩; replace hs := hs.call0 hc; clear hc) | ((with_reducible refine (at_store (t := 83)) rfl ?_); refine wl_storeA hs rfl rfl rfl rfl (size83r _) (one83 _) 0 rfl (by simp only [rowOf_size]) ?_; clear hs; intro w1 hs) | ((with_reducible refine (at_build (t := 69)) rfl ?_); refine wl_build0 rfl rfl Try.underlying69 zero69 isz3 ?_) | ((with_reducible refine (at_store (t := 69)) rfl ?_); refine wl_storeA hs rfl rfl rfl rfl (size69 _) (oneI 32 _) 1 rfl (by simp only [rowOf_size]) ?_; clear hs; intro w1 hs))
      exact ret_cell2 hs rfl rfl Try.underlying69 rfl rfl rfl 1 rfl (size69 _) ⟨rfl, hs.letgo⟩
theorem rtable_any (s : Src) (n : Int) (w : World) (h : s.In w) :
    Calls Try.prog 28 #[.agg #[.slice s.ao s.N s.c, .int .i64 s.bad, .int .i64 s.code], .int .i64 n] w fun e w' => e = .returned (.tuple #[.agg (rowOf 32 (gI (tbF s n))), .int .i64 (tbE s n)]) ∧ Tr w [] w' [] := by
  have hs := Tr.refl w []
  have H := Lib.hid h
  have HS := Lib.hid (fun w h => sread_any s n w h)
  clear h
  by_cases h0 : n = 0
  · rw [show tbE s n = 0 from if_pos h0, show tbF s n = fun _ => 0 from if_pos h0]
    subst h0
    go_enter Try.func28, Try.ntmps28
    go_wp2_with (first | ((with_reducible refine (at_box (t := 35)) rfl ?_); refine wl_boxA hs rfl rfl rfl ?_; clear hs; intro w1 sb hs) | ((with_reducible refine (at_alloc (t := 69)) rfl ?_); refine wl_allocA hs rfl rfl zero69 ?_; clear hs; intro w1 rb hs) | ((with_reducible refine (at_build (t := 69)) rfl ?_); refine wl_build0 rfl rfl Try.underlying69 zero69 isz3 ?_) | ((with_reducible refine (at_store (t := 69)) rfl ?_); refine wl_storeA hs rfl rfl rfl rfl (size69 _) (oneI 32 _) 0 rfl (by simp only [rowOf_size]) ?_; clear hs; intro w1 hs))
    exact ret_cell2 hs rfl rfl Try.underlying69 rfl rfl rfl 0 rfl (size69 _) ⟨rfl, hs.letgo⟩
  · have t0 : (n == 0) = false := by rw [beq_eq_false_iff_ne]; exact h0
    rw [show tbE s n = rdE s n from if_neg h0, show tbF s n = if rdE s n ≠ 0 then fun _ => 0 else ptF (rdF s n) from if_neg h0]
    by_cases he : rdE s n = 0
    · rw [if_neg (by simpa using he)]
      generalize rdF s n = F at *
      generalize rdE s n = E at *
      subst he
      go_enter Try.func28, Try.ntmps28
      go_wp2_with (first | ((with_reducible refine (at_box (t := 35)) rfl ?_); refine wl_boxA hs rfl rfl rfl ?_; clear hs; intro w1 sb hs) | ((with_reducible refine (at_alloc (t := 69)) rfl ?_); refine wl_allocA hs rfl rfl zero69 ?_; clear hs; intro w1 rb hs) | ((with_reducible refine (at_alloc (t := 83)) rfl ?_); refine wl_allocA hs rfl rfl zero83 ?_; clear hs; intro w1 xb hs) | ((with_reducible refine (at_load (t := 35)) rfl ?_); refine wl_loadA hs rfl rfl Try.underlying35 rfl rfl 1 rfl size35 ?_) | (go_at_call 33; refine (HS.out _ (H.out.keep hs)).mono ?_; rintro e w2 ⟨rfl, hc⟩; replace hs := hs.call0 hc; clear hc) | ((with_reducible refine (at_store (t := 83)) rfl ?_); refine wl_storeA hs rfl rfl rfl rfl (size83r _) (one83 _) 0 rfl (by simp only [rowOf_size]) ?_; clear hs; intro w1 hs) | ((with_reducible refine (at_load (t := 83)) rfl ?_); refine wl_loadB hs rfl rfl Try.underlying83 rfl 0 rfl size83 ?_) | (go_at_call 34; refine (rreadp_any F _).mono ?_; rintro e w2 ⟨rfl, hc⟩; replace hs := hs.call0 hc; clear hc) | ((with_reducible refine (at_store (t := 69)) rfl ?_); refine wl_storeA hs rfl rfl rfl rfl (size69 _) (oneI 32 _) 1 rfl (by simp only [rowOf_size]) ?_; clear hs; intro w1 hs))
      exact ret_cell2 hs rfl rfl Try.underlying69 rfl rfl rfl 1 rfl (size69 _) ⟨rfl, hs.letgo⟩
    · rw [if_pos he]
      have t1 : (rdE s n != 0) = true := by simpa using he
      generalize rdE s n = E at *
      generalize rdF s n = F at *
      clear he
      go_enter Try.func28, Try.ntmps28
      go_wp2_with (first | ((with_reducible refine (at_box (t := 35)) rfl ?_); refine wl_boxA hs rfl rfl rfl ?_; clear hs; intro w1 sb hs) | ((with_reducible refine (at_alloc (t := 69)) rfl ?_); refine wl_allocA hs rfl rfl zero69 ?_; clear hs; intro w1 rb hs) | ((with_reducible refine (at_alloc (t := 83)) rfl ?_); refine wl_allocA hs rfl rfl zero83 ?_; clear hs; intro w1 xb hs) | ((with_reducible refine (at_load (t := 35)) rfl ?_); refine wl_loadA hs rfl rfl Try.underlying35 rfl rfl 1 rfl size35 ?_) | (go_at_call 33; refine (HS.out _ (H.out.keep hs)).mono ?_; rintro e w2 ⟨rfl, hc⟩; replace hs := hs.call0 hc; clear hc) | ((with_reducible refine (at_store (t := 83)) rfl ?_); refine wl_storeA hs rfl rfl rfl rfl (size83r _) (one83 _) 0 rfl (by simp only [rowOf_size]) ?_; clear hs; intro w1 hs) | ((with_reducible refine (at_build (t := 69)) rfl ?_); refine wl_build0 rfl rfl Try.underlying69 zero69 isz3 ?_) | ((with_reducible refine (at_store (t := 69)) rfl ?_); refine wl_storeA hs rfl rfl rfl rfl (size69 _) (oneI 32 _) 1 rfl (by simp only [rowOf_size]) ?_; clear hs; intro w1 hs))
      exact ret_cell2 hs rfl rfl Try.underlying69 rfl rfl rfl 1 rfl (size69 _) ⟨rfl, hs.letgo⟩
end Go.Proofs.Ytdlnfdlgnbkppaa
