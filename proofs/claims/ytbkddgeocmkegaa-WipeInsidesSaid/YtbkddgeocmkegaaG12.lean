/- Lemmas on the way to this seat's statements; they bear no condition of their own. -/
import Derived.Test.YtbkddgeocmkegaaG11
namespace Go.Proofs.Ytbkddgeocmkegaa
open Go.RowKit Go.Shelf
set_option linter.unusedSimpArgs false
set_option linter.unusedVariables false
set_option maxHeartbeats 2000000
attribute [local go_sem ↓] run_start run_byte run_cols

theorem caretHome_any {w : World} {g b cap : Nat} {P : Pl} (h : PL w g b cap P) (i0 : 0 ≤ P.home) (i1 : P.home < (P.cells.length : Int)) :
    Calls Try.prog 46 #[.pointer (some ⟨g, 0, none⟩)] w fun e w' => e = .returned (.int .i64 P.home) ∧ PL w' g b cap (P.point P.home) ∧ Chg (· = g) w w' := by
  go_enter Try.func46, Try.ntmps46
  go_wp2_with fail
  refine (Home_any h).mono ?_
  rintro e w1 ⟨rfl, hb1⟩
  have hz1 := hb1.size
  try simp only [World.size_alloc, World.size_drew, World.size_setCell] at hz1
  obtain ⟨hc1, hf1⟩ := bcell hb1
  go_wp2_with fail
  refine (to_in (h.below hb1) _ i0 i1).mono ?_
  rintro e w3 ⟨rfl, hP, hk⟩
  go_wp2
  go_ret
  exact ⟨rfl, hP, chg_bel hb1 hk⟩


def Pl.new (r c : Int) : Pl := ⟨r, c, List.replicate (r * c).toNat Cell.zero, 0⟩
theorem Pl.new_ok {r c : Int} (h1 : 1 ≤ r) (h2 : r ≤ 43) (h3 : 1 ≤ c) (h4 : c ≤ 132) (h5 : r * c ≤ 4096) : (Pl.new r c).ok := by
  have h0 : 0 < r * c := Int.mul_pos (by omega) (by omega)
  exact ⟨h1, h2, h3, h4, h5, by simp [Pl.new]; omega, by simp [Pl.new], by simpa [Pl.new] using h0, fun d hd => by
    have := List.eq_of_mem_replicate hd; subst this; exact Cell.zero_ok⟩

theorem made_flat (n : Nat) : madeCells (Value.agg #[.int .u8 0, .bool false, .bool false, .int .u8 0, .int .u8 0]).cells (n * 5) = (flat (List.replicate n Cell.zero)).toArray := by
  apply Array.ext'
  simp only [madeCells]
  apply List.ext_getElem
  · simp [flat_len]; omega
  · intro i h1 h2
    have hi : i < n * 5 := by simpa using h1
    have e : i = i / 5 * 5 + i % 5 := by omega
    have hk := flat_get (List.replicate n Cell.zero) (i / 5) (by simp; omega) (i % 5) (by omega)
    rw [← e] at hk
    have h2' : i < (flat (List.replicate n Cell.zero)).length := by simpa using h2
    rw [List.getElem?_eq_getElem h2'] at hk
    simp only [List.getElem_replicate] at hk
    simp only [Array.getElem_toList, Array.getElem_map, Array.getElem_range]
    have hm : i % 5 < 5 := by omega
    revert hk hm
    generalize (flat (List.replicate n Cell.zero))[i] = v
    generalize hj : i % 5 = j
    intro hk hm
    have hsz : (Value.agg #[.int .u8 0, .bool false, .bool false, .int .u8 0, .int .u8 0]).cells.size = 5 := rfl
    rw [hsz, hj]
    match j, hm with
    | 0, _ => simpa [Cell.vals, Cell.zero, Value.cells] using hk.symm
    | 1, _ => simpa [Cell.vals, Cell.zero, Value.cells] using hk.symm
    | 2, _ => simpa [Cell.vals, Cell.zero, Value.cells] using hk.symm
    | 3, _ => simpa [Cell.vals, Cell.zero, Value.cells] using hk.symm
    | 4, _ => simpa [Cell.vals, Cell.zero, Value.cells] using hk.symm

def NewPost (r c : Int) (w : World) (e : Ending) (w' : World) : Prop :=
  ∃ g b cap : Nat, e = .returned (.tuple #[.pointer (some ⟨g, 0, none⟩), .int .i64 0]) ∧ PL w' g b cap (Pl.new r c) ∧ w.heap.size ≤ g ∧ w.heap.size ≤ b ∧ Below w.heap.size w w'

theorem info_cell : (Try.prog.info? 96).map (fun i => (i.zero, i.size, i.bytes)) = some (some (.agg #[.int .u8 0, .bool false, .bool false, .int .u8 0, .int .u8 0]), 5, 5) := by kernel_rfl

theorem New_in {w : World} (r c : Int) (h1 : 1 ≤ r) (h2 : r ≤ 43) (h3 : 1 ≤ c) (h4 : c ≤ 132) (h5 : r * c ≤ 4096) :
    Calls Try.prog 91 #[.agg #[.int .i64 r, .int .i64 c]] w (NewPost r c w) := by
  have h0 : 0 < r * c := Int.mul_pos (by omega) (by omega)
  obtain ⟨i0, hi, hz0, hz1, hz2⟩ := info_parts info_cell
  have hmk : ∀ W : World, (Instr.makeSlice 75 (.int .i64 (r * c)) (.int .i64 (r * c))).run Try.prog W = .ok (.slice (some ⟨W.heap.size, 0, none⟩) (r * c).toNat (r * c).toNat) (W.alloc (.cells (flat (List.replicate (r * c).toNat Cell.zero)).toArray 96)) := by
    intro W
    have := run_make (P := Try.prog) W 75 96 i0 _ Try.underlying75 hi hz0 .i64 .i64 (r * c) (r * c) (by omega) (Int.le_refl _) (by rw [hz2]; omega) (by omega)
    rw [this, hz1, made_flat]
  clear hi hz0 hz1 hz2
  go_enter Try.func91, Try.ntmps91
  go_wp2_with fail
  refine (Cells_in _ _ _ h1 h2 h3 h4 h5).mono ?_
  rintro e w1 ⟨rfl, hb1⟩
  have hz1 := hb1.size
  try simp only [World.size_alloc, World.size_drew, World.size_setCell] at hz1
  obtain ⟨hc1, hf1⟩ := bcell hb1
  have s0 : w1.cell? ⟨w.heap.size, 0, none⟩ = some (.int .i64 r) := by rw [hc1 _ _ (by simp)]; simp [go_sem]
  have s1 : w1.cell? ⟨w.heap.size, 1, none⟩ = some (.int .i64 c) := by rw [hc1 _ _ (by simp)]; simp [go_sem]
  clear hc1 hf1
  have hlt : w.heap.size < w1.heap.size := by omega
  go_wp2
  go_region
  go_wp2
  go_ret2
  refine ⟨w1.heap.size + 1, w1.heap.size, (r * c).toNat, rfl, ⟨?_, ⟨[], ?_⟩, by omega, Pl.new_ok h1 h2 h3 h4 h5⟩, by omega, by omega, by with_reducible (repeat (first | exact Below.refl _ _ | assumption | (refine Below.setCell ?_ (by first | omega | (simp; done) | (simp; omega)) _) | (refine Below.alloc ?_ (by first | omega | (simp; done) | (simp; omega)) _) | (refine below_drewN ?_ _) | (refine Below.drew ?_) | (refine Below.trans ?_ (Below.mono hb (by first | omega | (simp; done) | (simp; omega)))) | (refine Below.trans ?_ (Below.mono hb1 (by first | omega | (simp; done) | (simp; omega)))) | (refine Below.trans ?_ (Below.mono hb2 (by first | omega | (simp; done) | (simp; omega)))) | (refine Below.trans ?_ (Below.mono hb3 (by first | omega | (simp; done) | (simp; omega)))) | (refine Below.trans ?_ (Below.mono hb4 (by first | omega | (simp; done) | (simp; omega)))) | (refine Below.trans ?_ (Below.mono hb5 (by first | omega | (simp; done) | (simp; omega)))) | (refine Below.trans ?_ (Below.mono hb6 (by first | omega | (simp; done) | (simp; omega)))) | (refine Below.trans ?_ (Below.mono hb7 (by first | omega | (simp; done) | (simp; omega)))) | (refine Below.trans ?_ (Below.mono hb8 (by first | omega | (simp; done) | (simp; omega)))) | (refine Below.trans ?_ (Below.mono hb9 (by first | omega | (simp; done) | (simp; omega)))) | (refine Below.trans ?_ (Below.mono hb10 (by first | omega | (simp; done) | (simp; omega)))) | (refine Below.trans ?_ (Below.mono hb11 (by first | omega | (simp; done) | (simp; omega)))) | (refine Below.trans ?_ (Below.mono hb12 (by first | omega | (simp; done) | (simp; omega))))))⟩
  · have := World.alloc_heap_new (w1.alloc (.cells (flat (List.replicate (r * c).toNat Cell.zero)).toArray 96)) (.cells #[.int .i64 r, .int .i64 c, .slice (some ⟨w1.heap.size, 0, none⟩) (r * c).toNat (r * c).toNat, .int .i64 0] 132)
    rw [World.size_alloc] at this
    rw [show (Pl.new r c).cells.length = (r * c).toNat by simp [Pl.new]]
    exact this
  · have := (Below.heap_alloc (w1.alloc (.cells (flat (List.replicate (r * c).toNat Cell.zero)).toArray 96)) (.cells #[.int .i64 r, .int .i64 c, .slice (some ⟨w1.heap.size, 0, none⟩) (r * c).toNat (r * c).toNat, .int .i64 0] 132) w1.heap.size (by simp)).trans (World.alloc_heap_new w1 _)
    rw [List.append_nil]
    exact this
end Go.Proofs.Ytbkddgeocmkegaa
