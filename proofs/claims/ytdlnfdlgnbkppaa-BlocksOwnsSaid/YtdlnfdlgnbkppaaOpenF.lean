/- Inodes and files, opened. -/
import Derived.Test.YtdlnfdlgnbkppaaB
import Derived.Test.YtdlnfdlgnbkppaaOpen5
namespace Go.Proofs.Ytdlnfdlgnbkppaa
set_option linter.unusedVariables false
set_option linter.unusedSimpArgs false
open Go Go.Sp Go.RowKit Go.ChangeShapes Go.WideShapes Go.Joins Go.Deep

section
variable {H : Type} {enc : TypeId × Value → H} {w : World} {base : Nat} {spare : Nat → Bool} {held : Bool} {fuel : Nat} {x : DataW H × List MemPlace}
theorem take_one {cs : List Value} {j : Nat} (hj : j < cs.length) : (cs.drop j).take 1 = [cs[j]] := by
  rw [List.drop_eq_getElem_cons hj]; rfl
theorem file_int {t : TypeId} {fs : Array Field} {cs : List Value} (hs : Try.prog.underlying t = some (.struct fs)) (h : DataW.trod enc Try.prog w base spare held fuel t cs = some x) (j : Nat) {f : Field} (hj : fs[j]? = some f) {off : Nat} (ho : f.offset = off) (hn : Try.prog.cellsOf f.type = 1) (hu : Try.prog.underlying f.type = some (.int .i64)) (hl : off < cs.length) :
    ∃ a : Int, cs[off]? = some (.int .i64 a) := by
  obtain ⟨y, m, h1, _⟩ := open_fieldW hs h j hj ho hn
  rw [take_one hl] at h1
  obtain ⟨a, ha, _⟩ := open_int1 hu h1
  exact ⟨a, by rw [List.getElem?_eq_getElem hl, ha]⟩
theorem cells_27 {m : Nat} {cs : List Value} {y : DataW H × List MemPlace} (h : DataW.trod enc Try.prog w base spare held m 27 cs = some y) (hl : cs.length = 12) : ∀ i, i < 12 → ∃ a : Int, cs[i]? = some (.int .i64 a) := by
  obtain ⟨xs, m, _, _, _, hxl, hf⟩ := DataW.trod_array Try.underlying27 h
  intro i hi
  have h1 := hf i hi
  rw [show Try.prog.cellsOf 3 = 1 by kernel_rfl, Nat.mul_one, List.getElem?_eq_getElem (by omega)] at h1
  obtain ⟨k, hk, _, hw⟩ := DataW.trod_int Try.underlying3 h1
  refine ⟨k, ?_⟩
  have := congrArg (fun l => l[0]?) hk
  simpa [List.getElem?_take, List.getElem?_drop] using this
theorem cells_29 {cs : List Value} (hl : cs.length = 18) (h : DataW.trod enc Try.prog w base spare held fuel 29 cs = some x) : ∀ i, i < 18 → ∃ a : Int, cs[i]? = some (.int .i64 a) := by
  have c3 : Try.prog.cellsOf 3 = 1 := by kernel_rfl
  obtain ⟨y, m, h1, _⟩ := open_fieldW Try.underlying29 h 4 rfl (off := 4) (n := 12) rfl (by kernel_rfl)
  have h2 := cells_27 h1 (by rw [List.length_take, List.length_drop]; omega)
  intro i hi
  rcases (by omega : i = 0 ∨ i = 1 ∨ i = 2 ∨ i = 3 ∨ (4 ≤ i ∧ i < 16) ∨ i = 16 ∨ i = 17) with rfl | rfl | rfl | rfl | hh | rfl | rfl
  · exact file_int Try.underlying29 h 0 rfl rfl c3 Try.underlying3 (by omega)
  · exact file_int Try.underlying29 h 1 rfl rfl c3 Try.underlying3 (by omega)
  · exact file_int Try.underlying29 h 2 rfl rfl c3 Try.underlying3 (by omega)
  · exact file_int Try.underlying29 h 3 rfl rfl c3 Try.underlying3 (by omega)
  · obtain ⟨a, ha⟩ := h2 (i - 4) (by omega)
    refine ⟨a, ?_⟩
    rw [List.getElem?_take, if_pos (by omega), List.getElem?_drop, show 4 + (i - 4) = i by omega] at ha
    exact ha
  · exact file_int Try.underlying29 h 5 rfl rfl c3 Try.underlying3 (by omega)
  · exact file_int Try.underlying29 h 6 rfl rfl c3 Try.underlying3 (by omega)
theorem ints_fun {cs : List Value} {n : Nat} (h : ∀ i, i < n → ∃ a : Int, cs[i]? = some (.int .i64 a)) : ∃ X : Nat → Int, ∀ i, i < n → cs[i]? = some (.int .i64 (X i)) :=
  ⟨fun i => if hi : i < n then (h i hi).choose else 0, fun i hi => by simp only [hi, dif_pos]; exact (h i hi).choose_spec⟩
theorem open_inode {r : Reach} {b0 : Nat} {v : Value} {d : DataW H} {p : List MemPlace} (hv : Value.okWide Try.prog w r b0 29 v) (h : DataW.Trod enc Try.prog w base spare held 29 v d p) : ∃ X : Nat → Int, v = .agg (rowOf 18 (gI X)) := by
  obtain ⟨cs, fuel, rfl, hl, hf⟩ := open_struct Try.underlying29 hv h
  have hl : cs.toList.length = 18 := hl.trans (by kernel_rfl)
  obtain ⟨X, hX⟩ := ints_fun (cells_29 hl hf)
  refine ⟨X, ?_⟩
  rw [rowOf_ext (cs := cs) (f := gI X) (by simpa using hl) fun i hi => by rw [← Array.getElem?_toList]; exact hX i hi]
/-- A file's cells. -/
def fileC (X : Nat → Int) (s : Src) : Nat → Value := fun i => if i < 18 then .int .i64 (X i) else if i = 18 then .slice s.ao s.N s.c else if i = 19 then .int .i64 s.bad else .int .i64 s.code
theorem open_file {r : Reach} {b0 : Nat} {v : Value} {d : DataW H} {p : List MemPlace} (hv : Value.okWide Try.prog w r b0 32 v) (h : DataW.Trod enc Try.prog w base spare held 32 v d p) : ∃ (X : Nat → Int) (s : Src), v = .agg (rowOf 21 (fileC X s)) ∧ s.In w := by
  have c3 : Try.prog.cellsOf 3 = 1 := by kernel_rfl
  have c23 : Try.prog.cellsOf 23 = 1 := by kernel_rfl
  have c83 : Try.prog.cellsOf 83 = 128 := by kernel_rfl
  obtain ⟨cs, fuel, rfl, hl, hf⟩ := open_struct Try.underlying32 hv h
  have hl : cs.toList.length = 21 := hl.trans (by kernel_rfl)
  obtain ⟨y, m, h1, _⟩ := open_fieldW Try.underlying32 hf 0 rfl (off := 0) (n := 18) rfl (by kernel_rfl)
  obtain ⟨X, hX⟩ := ints_fun (cells_29 (by rw [List.length_take, List.length_drop]; omega) h1)
  obtain ⟨y2, m2, h2, _⟩ := open_fieldW Try.underlying32 hf 1 rfl (off := 18) (n := 1) rfl (by kernel_rfl)
  rw [take_one (by omega)] at h2
  obtain ⟨bad, hb⟩ := file_int Try.underlying32 hf 2 rfl rfl c3 Try.underlying3 (by show 19 < _; omega)
  obtain ⟨code, hcode⟩ := file_int Try.underlying32 hf 3 rfl rfl c23 Try.underlying23 (by show 20 < _; omega)
  obtain ⟨ao, n, cap, db, doff, hv2, hle, hmx, hao, _, hel⟩ := open_elems Try.underlying30 (by rw [c83]; omega) h2
  have each : ∀ i, i < n → ∃ F : Nat → UInt8, Rd w db (doff + i * 128) 128 (u8v F) := fun i hi => by
    obtain ⟨es, y3, m3, hle3, hc3, ht3⟩ := hel i hi
    rw [c83] at hle3 hc3
    obtain ⟨F, hF⟩ := cells_bytes Try.underlying83 Try.underlying5 (by kernel_rfl) ht3 hle3
    refine ⟨F, fun j hj => hc3 j _ ?_⟩
    have := congrArg (fun l => l[j]?) hF
    simp only [List.getElem?_toArray] at this
    rw [this]; exact rowOf_get hj
  refine ⟨X, { ao := ao, N := n, c := cap, db := db, doff := doff, im := fun i => if hi : i < n then (each i hi).choose else fun _ => 0, bad := bad, code := code }, ?_, hle, hmx, hao, fun i hi => by
    have hi2 : i < n := hi
    simp only [hi2, dif_pos]
    exact (each i hi2).choose_spec⟩
  rw [rowOf_ext (cs := cs) (f := fileC X _) (by simpa using hl) fun i hi => ?_]
  rw [← Array.getElem?_toList]
  unfold fileC
  by_cases h18 : i < 18
  · rw [if_pos h18]
    have := hX i h18
    rwa [List.getElem?_take, if_pos h18, List.getElem?_drop, Nat.zero_add] at this
  · rw [if_neg h18]
    rcases (by omega : i = 18 ∨ i = 19 ∨ i = 20) with rfl | rfl | rfl
    · rw [if_pos rfl, List.getElem?_eq_getElem (by omega), hv2]
    · exact hb
    · exact hcode
end
end Go.Proofs.Ytdlnfdlgnbkppaa
