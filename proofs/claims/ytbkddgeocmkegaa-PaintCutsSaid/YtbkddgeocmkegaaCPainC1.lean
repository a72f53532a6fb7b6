/- Lemmas on the way to this seat's statements; they bear no condition of their own. -/
import Derived.Test.YtbkddgeocmkegaaCPainC0
import Derived.Deep.RegionHeld3
import Derived.IntWalk
import Derived.RangeFuncNested
import Derived.RangeFuncBound
import Derived.RangeFuncCalls
import Derived.RangeFuncLeaves
import Derived.Shelf.Abstract
import Derived.Shelf.RegionOpen
import Derived.WalkKit
import Derived.OwnWalkIn
import Derived.TacticsInMore
import Derived.LoopNIn
import Derived.LoopIn
namespace Go.Proofs.Ytbkddgeocmkegaa
open Go.RowKit
set_option linter.unusedSimpArgs false
set_option linter.unusedVariables false
set_option maxHeartbeats 800000
attribute [local go_sem ↓] run_start run_byte run_cols

def Pl.move (P : Pl) (rows cols : Int) : Int := (P.cursor + rows.tmod P.rows * P.cols + cols) % (P.cells.length : Int)

theorem mul_small {P : Pl} (h : P.ok) (rows : Int) : IntKind.i64.wrap (rows.tmod P.rows * P.cols) = rows.tmod P.rows * P.cols := by
  have h1 := h.r1
  have h2 := h.c1
  have h3 := h.n2
  have t := tmod_lt' (a := rows) (n := P.rows) (by omega)
  have a : rows.tmod P.rows * P.cols ≤ P.rows * P.cols := Int.mul_le_mul_of_nonneg_right (by omega) (by omega)
  have b : -P.rows * P.cols ≤ rows.tmod P.rows * P.cols := Int.mul_le_mul_of_nonneg_right (by omega) (by omega)
  rw [Int.neg_mul] at b
  exact IntWalk.i64_in _ (by omega)

theorem cell_keep {W w2 : World} {a : Addr} {v : Value} (h : W.cell? a = some v) (hb : Below W.heap.size W w2) : w2.cell? a = some v :=
  (hb.cell (World.block_lt_of_cell? W a h)).trans h
theorem cell_keepC {S : Nat → Prop} {W w2 : World} {a : Addr} {v : Value} (h : W.cell? a = some v) (hb : Chg S W w2) (hs : ¬ S a.block) : w2.cell? a = some v :=
  (World.cell?_of_block (w := W) (hb.block a.block (World.block_lt_of_cell? W a h) hs)).trans h

theorem keep2 {W w2 : World} {a b : Addr} {v u : Value} (h : W.cell? a = some v ∧ W.cell? b = some u) (hb : Below W.heap.size W w2) : w2.cell? a = some v ∧ w2.cell? b = some u := ⟨cell_keep h.1 hb, cell_keep h.2 hb⟩

theorem keep2C {S : Nat → Prop} {W w2 : World} {a b : Addr} {v u : Value} (h : W.cell? a = some v ∧ W.cell? b = some u) (hb : Chg S W w2) (ha : ¬ S a.block) (hbb : ¬ S b.block) : w2.cell? a = some v ∧ w2.cell? b = some u := ⟨cell_keepC h.1 hb ha, cell_keepC h.2 hb hbb⟩

theorem caretMove_any {w : World} {g b cap : Nat} {P : Pl} (h : PL w g b cap P) (rows cols : Int) :
    Calls Try.prog 42 #[.pointer (some ⟨g, 0, none⟩), .int .i64 rows, .int .i64 cols] w fun e w' => e = .returned (.int .i64 (P.move rows cols)) ∧ PL w' g b cap (P.point (P.move rows cols)) ∧ Chg (· = g) w w' := by
  have hr1 := h.ok.r1
  have hn := Pl.N_pos h.ok
  have i0 : 0 ≤ P.move rows cols := Int.emod_nonneg _ (by omega)
  have i1 : P.move rows cols < (P.cells.length : Int) := Int.emod_lt_of_pos _ (by omega)
  have hr0 : 0 < P.rows := by omega
  have hr3 : P.rows ≠ 0 := by omega
  go_enter Try.func42, Try.ntmps42
  go_wp2_with fail
  refine (Size_any h).mono ?_
  rintro e w1 ⟨rfl, hb1⟩
  have hz1 := hb1.size
  try simp only [World.size_alloc, World.size_drew, World.size_setCell] at hz1
  obtain ⟨hc1, hf1⟩ := bcell hb1
  go_wp2
  have hB := hb1
  have hM := mul_small h.ok rows
  go_region_held3 (fun w' => w'.cell? ⟨w1.heap.size, 0, none⟩ = some (.int .i64 P.rows) ∧ w'.cell? ⟨w1.heap.size, 1, none⟩ = some (.int .i64 P.cols)) (first | exact keep2 (by assumption) hb2 | exact keep2C (by assumption) hk3 (fun e => by have e' : w1.heap.size = g := e; have := h.gl; omega) (fun e => by have e' : w1.heap.size = g := e; have := h.gl; omega) | go_keep)
    (first
      | (go_at_call 48; refine (Cursor_any (h.below (by with_reducible (repeat (first | exact Below.refl _ _ | assumption | (refine Below.setCell ?_ (by first | omega | (simp; done) | (simp; omega)) _) | (refine Below.alloc ?_ (by first | omega | (simp; done) | (simp; omega)) _) | (refine below_drewN ?_ _) | (refine Below.drew ?_) | (refine Below.trans ?_ (Below.mono hb (by first | omega | (simp; done) | (simp; omega)))) | (refine Below.trans ?_ (Below.mono hb1 (by first | omega | (simp; done) | (simp; omega)))) | (refine Below.trans ?_ (Below.mono hb2 (by first | omega | (simp; done) | (simp; omega)))) | (refine Below.trans ?_ (Below.mono hb3 (by first | omega | (simp; done) | (simp; omega)))) | (refine Below.trans ?_ (Below.mono hb4 (by first | omega | (simp; done) | (simp; omega)))) | (refine Below.trans ?_ (Below.mono hb5 (by first | omega | (simp; done) | (simp; omega)))) | (refine Below.trans ?_ (Below.mono hb6 (by first | omega | (simp; done) | (simp; omega)))) | (refine Below.trans ?_ (Below.mono hb7 (by first | omega | (simp; done) | (simp; omega)))) | (refine Below.trans ?_ (Below.mono hb8 (by first | omega | (simp; done) | (simp; omega)))) | (refine Below.trans ?_ (Below.mono hb9 (by first | omega | (simp; done) | (simp; omega)))) | (refine Below.trans ?_ (Below.mono hb10 (by first | omega | (simp; done) | (simp; omega)))) | (refine Below.trans ?_ (Below.mono hb11 (by first | omega | (simp; done) | (simp; omega)))) | (refine Below.trans ?_ (Below.mono hb12 (by first | omega | (simp; done) | (simp; omega))))))))).mono ?_; rintro e w2 ⟨rfl, hb2⟩; obtain ⟨hc2, hf2⟩ := bcell hb2; have hB2 : Below w.heap.size w w2 := (by with_reducible (repeat (first | exact Below.refl _ _ | assumption | (refine Below.setCell ?_ (by first | omega | (simp; done) | (simp; omega)) _) | (refine Below.alloc ?_ (by first | omega | (simp; done) | (simp; omega)) _) | (refine below_drewN ?_ _) | (refine Below.drew ?_) | (refine Below.trans ?_ (Below.mono hb (by first | omega | (simp; done) | (simp; omega)))) | (refine Below.trans ?_ (Below.mono hb1 (by first | omega | (simp; done) | (simp; omega)))) | (refine Below.trans ?_ (Below.mono hb2 (by first | omega | (simp; done) | (simp; omega)))) | (refine Below.trans ?_ (Below.mono hb3 (by first | omega | (simp; done) | (simp; omega)))) | (refine Below.trans ?_ (Below.mono hb4 (by first | omega | (simp; done) | (simp; omega)))) | (refine Below.trans ?_ (Below.mono hb5 (by first | omega | (simp; done) | (simp; omega)))) | (refine Below.trans ?_ (Below.mono hb6 (by first | omega | (simp; done) | (simp; omega)))) | (refine Below.trans ?_ (Below.mono hb7 (by first | omega | (simp; done) | (simp; omega)))) | (refine Below.trans ?_ (Below.mono hb8 (by first | omega | (simp; done) | (simp; omega)))) | (refine Below.trans ?_ (Below.mono hb9 (by first | omega | (simp; done) | (simp; omega)))) | (refine Below.trans ?_ (Below.mono hb10 (by first | omega | (simp; done) | (simp; omega)))) | (refine Below.trans ?_ (Below.mono hb11 (by first | omega | (simp; done) | (simp; omega)))) | (refine Below.trans ?_ (Below.mono hb12 (by first | omega | (simp; done) | (simp; omega))))))); have hz2 := hB2.size)
      | (go_at_call 103; refine (by_any (h.below (by with_reducible (repeat (first | exact Below.refl _ _ | assumption | (refine Below.setCell ?_ (by first | omega | (simp; done) | (simp; omega)) _) | (refine Below.alloc ?_ (by first | omega | (simp; done) | (simp; omega)) _) | (refine below_drewN ?_ _) | (refine Below.drew ?_) | (refine Below.trans ?_ (Below.mono hb (by first | omega | (simp; done) | (simp; omega)))) | (refine Below.trans ?_ (Below.mono hb1 (by first | omega | (simp; done) | (simp; omega)))) | (refine Below.trans ?_ (Below.mono hb2 (by first | omega | (simp; done) | (simp; omega)))) | (refine Below.trans ?_ (Below.mono hb3 (by first | omega | (simp; done) | (simp; omega)))) | (refine Below.trans ?_ (Below.mono hb4 (by first | omega | (simp; done) | (simp; omega)))) | (refine Below.trans ?_ (Below.mono hb5 (by first | omega | (simp; done) | (simp; omega)))) | (refine Below.trans ?_ (Below.mono hb6 (by first | omega | (simp; done) | (simp; omega)))) | (refine Below.trans ?_ (Below.mono hb7 (by first | omega | (simp; done) | (simp; omega)))) | (refine Below.trans ?_ (Below.mono hb8 (by first | omega | (simp; done) | (simp; omega)))) | (refine Below.trans ?_ (Below.mono hb9 (by first | omega | (simp; done) | (simp; omega)))) | (refine Below.trans ?_ (Below.mono hb10 (by first | omega | (simp; done) | (simp; omega)))) | (refine Below.trans ?_ (Below.mono hb11 (by first | omega | (simp; done) | (simp; omega)))) | (refine Below.trans ?_ (Below.mono hb12 (by first | omega | (simp; done) | (simp; omega)))))))) _ _).mono ?_; rintro e w2 ⟨rfl, hb2⟩; obtain ⟨hc2, hf2⟩ := bcell hb2; have hB2 : Below w.heap.size w w2 := (by with_reducible (repeat (first | exact Below.refl _ _ | assumption | (refine Below.setCell ?_ (by first | omega | (simp; done) | (simp; omega)) _) | (refine Below.alloc ?_ (by first | omega | (simp; done) | (simp; omega)) _) | (refine below_drewN ?_ _) | (refine Below.drew ?_) | (refine Below.trans ?_ (Below.mono hb (by first | omega | (simp; done) | (simp; omega)))) | (refine Below.trans ?_ (Below.mono hb1 (by first | omega | (simp; done) | (simp; omega)))) | (refine Below.trans ?_ (Below.mono hb2 (by first | omega | (simp; done) | (simp; omega)))) | (refine Below.trans ?_ (Below.mono hb3 (by first | omega | (simp; done) | (simp; omega)))) | (refine Below.trans ?_ (Below.mono hb4 (by first | omega | (simp; done) | (simp; omega)))) | (refine Below.trans ?_ (Below.mono hb5 (by first | omega | (simp; done) | (simp; omega)))) | (refine Below.trans ?_ (Below.mono hb6 (by first | omega | (simp; done) | (simp; omega)))) | (refine Below.trans ?_ (Below.mono hb7 (by first | omega | (simp; done) | (simp; omega)))) | (refine Below.trans ?_ (Below.mono hb8 (by first | omega | (simp; done) | (simp; omega)))) | (refine Below.trans ?_ (Below.mono hb9 (by first | omega | (simp; done) | (simp; omega)))) | (refine Below.trans ?_ (Below.mono hb10 (by first | omega | (simp; done) | (simp; omega)))) | (refine Below.trans ?_ (Below.mono hb11 (by first | omega | (simp; done) | (simp; omega)))) | (refine Below.trans ?_ (Below.mono hb12 (by first | omega | (simp; done) | (simp; omega))))))); have hz2 := hB2.size)
      | (go_at_call 102; refine (to_in (h.below (by with_reducible (repeat (first | exact Below.refl _ _ | assumption | (refine Below.setCell ?_ (by first | omega | (simp; done) | (simp; omega)) _) | (refine Below.alloc ?_ (by first | omega | (simp; done) | (simp; omega)) _) | (refine below_drewN ?_ _) | (refine Below.drew ?_) | (refine Below.trans ?_ (Below.mono hb (by first | omega | (simp; done) | (simp; omega)))) | (refine Below.trans ?_ (Below.mono hb1 (by first | omega | (simp; done) | (simp; omega)))) | (refine Below.trans ?_ (Below.mono hb2 (by first | omega | (simp; done) | (simp; omega)))) | (refine Below.trans ?_ (Below.mono hb3 (by first | omega | (simp; done) | (simp; omega)))) | (refine Below.trans ?_ (Below.mono hb4 (by first | omega | (simp; done) | (simp; omega)))) | (refine Below.trans ?_ (Below.mono hb5 (by first | omega | (simp; done) | (simp; omega)))) | (refine Below.trans ?_ (Below.mono hb6 (by first | omega | (simp; done) | (simp; omega)))) | (refine Below.trans ?_ (Below.mono hb7 (by first | omega | (simp; done) | (simp; omega)))) | (refine Below.trans ?_ (Below.mono hb8 (by first | omega | (simp; done) | (simp; omega)))) | (refine Below.trans ?_ (Below.mono hb9 (by first | omega | (simp; done) | (simp; omega)))) | (refine Below.trans ?_ (Below.mono hb10 (by first | omega | (simp; done) | (simp; omega)))) | (refine Below.trans ?_ (Below.mono hb11 (by first | omega | (simp; done) | (simp; omega)))) | (refine Below.trans ?_ (Below.mono hb12 (by first | omega | (simp; done) | (simp; omega)))))))) (P.move rows cols) i0 i1).mono ?_; rintro e w3 ⟨rfl, hP3, hk3⟩; have hk3' := Chg.trans (S := (· = g)) (Chg.of_below hB2) hk3))
  go_wp2
  go_ret
  exact ⟨rfl, hP3, hk3'⟩

theorem Pl.emod_range {P : Pl} (h : P.ok) (x : Int) : 0 ≤ x % (P.cells.length : Int) ∧ x % (P.cells.length : Int) < (P.cells.length : Int) := by
  have hn := Pl.N_pos h
  exact ⟨Int.emod_nonneg _ (by omega), Int.emod_lt_of_pos _ (by omega)⟩
theorem chg_bel {S : Nat → Prop} {w w1 w2 : World} (hB : Below w.heap.size w w1) (hk : Chg S w1 w2) : Chg S w w2 := (Chg.of_below hB).trans hk
def Pl.tab (P : Pl) : Int := P.seek P.cursor 1
theorem Tab_any {w : World} {g b cap : Nat} {P : Pl} (h : PL w g b cap P) :
    Calls Try.prog 43 #[.pointer (some ⟨g, 0, none⟩)] w fun e w' => e = .returned (.int .i64 P.tab) ∧ PL w' g b cap (P.point P.tab) ∧ Chg (· = g) w w' := by
  obtain ⟨i0, i1⟩ := Pl.seek_range h.ok P.cursor 1
  go_enter Try.func43, Try.ntmps43
  go_wp2_with fail
  refine (Cursor_any h).mono ?_
  rintro e w1 ⟨rfl, hb1⟩
  have hz1 := hb1.size
  try simp only [World.size_alloc, World.size_drew, World.size_setCell] at hz1
  obtain ⟨hc1, hf1⟩ := bcell hb1
  go_wp2_with fail
  refine (seek_any (h.below hb1) _ _ (.inl rfl)).mono ?_
  rintro e w2 ⟨rfl, hb2⟩
  replace hb2 := Below.trans hb1 (Below.mono hb2 hb1.size)
  clear hc1 hf1
  have hz2 := hb2.size
  try simp only [World.size_alloc, World.size_drew, World.size_setCell] at hz2
  obtain ⟨hc2, hf2⟩ := bcell hb2
  go_wp2_with fail
  refine (to_in (h.below (by with_reducible (repeat (first | exact Below.refl _ _ | assumption | (refine Below.setCell ?_ (by first | omega | (simp; done) | (simp; omega)) _) | (refine Below.alloc ?_ (by first | omega | (simp; done) | (simp; omega)) _) | (refine below_drewN ?_ _) | (refine Below.drew ?_) | (refine Below.trans ?_ (Below.mono hb (by first | omega | (simp; done) | (simp; omega)))) | (refine Below.trans ?_ (Below.mono hb1 (by first | omega | (simp; done) | (simp; omega)))) | (refine Below.trans ?_ (Below.mono hb2 (by first | omega | (simp; done) | (simp; omega)))) | (refine Below.trans ?_ (Below.mono hb3 (by first | omega | (simp; done) | (simp; omega)))) | (refine Below.trans ?_ (Below.mono hb4 (by first | omega | (simp; done) | (simp; omega)))) | (refine Below.trans ?_ (Below.mono hb5 (by first | omega | (simp; done) | (simp; omega)))) | (refine Below.trans ?_ (Below.mono hb6 (by first | omega | (simp; done) | (simp; omega)))) | (refine Below.trans ?_ (Below.mono hb7 (by first | omega | (simp; done) | (simp; omega)))) | (refine Below.trans ?_ (Below.mono hb8 (by first | omega | (simp; done) | (simp; omega)))) | (refine Below.trans ?_ (Below.mono hb9 (by first | omega | (simp; done) | (simp; omega)))) | (refine Below.trans ?_ (Below.mono hb10 (by first | omega | (simp; done) | (simp; omega)))) | (refine Below.trans ?_ (Below.mono hb11 (by first | omega | (simp; done) | (simp; omega)))) | (refine Below.trans ?_ (Below.mono hb12 (by first | omega | (simp; done) | (simp; omega)))))))) _ i0 i1).mono ?_
  rintro e w3 ⟨rfl, hP, hk⟩
  go_wp2
  go_ret
  exact ⟨rfl, hP, chg_bel hb2 hk⟩

def Pl.back (P : Pl) : Int :=
  let f := P.ofF P.cursor
  if P.ofB P.cursor && (P.opens f.start && (P.cursor != f.start && P.cursor != (f.start + 1) % (P.cells.length : Int))) then (f.start + 1) % (P.cells.length : Int)
  else P.seek ((P.cursor + -2) % (P.cells.length : Int)) (-1)
theorem Back_any {w : World} {g b cap : Nat} {P : Pl} (h : PL w g b cap P) :
    Calls Try.prog 44 #[.pointer (some ⟨g, 0, none⟩)] w fun e w' => e = .returned (.int .i64 P.back) ∧ PL w' g b cap (P.point P.back) ∧ Chg (· = g) w w' := by
  obtain ⟨i0, i1⟩ := Pl.seek_range h.ok ((P.cursor + -2) % (P.cells.length : Int)) (-1)
  obtain ⟨j0, j1⟩ := Pl.emod_range h.ok ((P.ofF P.cursor).start + 1)
  cases hB : P.ofB P.cursor
  · have E := Lib.hid (show P.back = P.seek ((P.cursor + -2) % (P.cells.length : Int)) (-1) by unfold Pl.back; simp [hB])
    go_enter Try.func44, Try.ntmps44
    go_wp2_with fail
    refine (Cursor_any h).mono ?_
    rintro e w1 ⟨rfl, hb1⟩
    have hz1 := hb1.size
    try simp only [World.size_alloc, World.size_drew, World.size_setCell] at hz1
    obtain ⟨hc1, hf1⟩ := bcell hb1
    go_wp2_with fail
    refine (Of_any (h.below hb1) _).mono ?_
    rintro e w2 ⟨rfl, hb2⟩
    replace hb2 := Below.trans hb1 (Below.mono hb2 hb1.size)
    clear hc1 hf1
    have hz2 := hb2.size
    try simp only [World.size_alloc, World.size_drew, World.size_setCell] at hz2
    obtain ⟨hc2, hf2⟩ := bcell hb2
    go_wp2_with fail
    refine (by_any (h.below (by with_reducible (repeat (first | exact Below.refl _ _ | assumption | (refine Below.setCell ?_ (by first | omega | (simp; done) | (simp; omega)) _) | (refine Below.alloc ?_ (by first | omega | (simp; done) | (simp; omega)) _) | (refine below_drewN ?_ _) | (refine Below.drew ?_) | (refine Below.trans ?_ (Below.mono hb (by first | omega | (simp; done) | (simp; omega)))) | (refine Below.trans ?_ (Below.mono hb1 (by first | omega | (simp; done) | (simp; omega)))) | (refine Below.trans ?_ (Below.mono hb2 (by first | omega | (simp; done) | (simp; omega)))) | (refine Below.trans ?_ (Below.mono hb3 (by first | omega | (simp; done) | (simp; omega)))) | (refine Below.trans ?_ (Below.mono hb4 (by first | omega | (simp; done) | (simp; omega)))) | (refine Below.trans ?_ (Below.mono hb5 (by first | omega | (simp; done) | (simp; omega)))) | (refine Below.trans ?_ (Below.mono hb6 (by first | omega | (simp; done) | (simp; omega)))) | (refine Below.trans ?_ (Below.mono hb7 (by first | omega | (simp; done) | (simp; omega)))) | (refine Below.trans ?_ (Below.mono hb8 (by first | omega | (simp; done) | (simp; omega)))) | (refine Below.trans ?_ (Below.mono hb9 (by first | omega | (simp; done) | (simp; omega)))) | (refine Below.trans ?_ (Below.mono hb10 (by first | omega | (simp; done) | (simp; omega)))) | (refine Below.trans ?_ (Below.mono hb11 (by first | omega | (simp; done) | (simp; omega)))) | (refine Below.trans ?_ (Below.mono hb12 (by first | omega | (simp; done) | (simp; omega)))))))) _ _).mono ?_
    rintro e w4 ⟨rfl, hb4⟩
    have hz4 := hb4.size
    try simp only [World.size_alloc, World.size_drew, World.size_setCell] at hz4
    obtain ⟨hc4, hf4⟩ := bcell hb4
    go_wp2_with fail
    refine (seek_any (h.below (by with_reducible (repeat (first | exact Below.refl _ _ | assumption | (refine Below.setCell ?_ (by first | omega | (simp; done) | (simp; omega)) _) | (refine Below.alloc ?_ (by first | omega | (simp; done) | (simp; omega)) _) | (refine below_drewN ?_ _) | (refine Below.drew ?_) | (refine Below.trans ?_ (Below.mono hb (by first | omega | (simp; done) | (simp; omega)))) | (refine Below.trans ?_ (Below.mono hb1 (by first | omega | (simp; done) | (simp; omega)))) | (refine Below.trans ?_ (Below.mono hb2 (by first | omega | (simp; done) | (simp; omega)))) | (refine Below.trans ?_ (Below.mono hb3 (by first | omega | (simp; done) | (simp; omega)))) | (refine Below.trans ?_ (Below.mono hb4 (by first | omega | (simp; done) | (simp; omega)))) | (refine Below.trans ?_ (Below.mono hb5 (by first | omega | (simp; done) | (simp; omega)))) | (refine Below.trans ?_ (Below.mono hb6 (by first | omega | (simp; done) | (simp; omega)))) | (refine Below.trans ?_ (Below.mono hb7 (by first | omega | (simp; done) | (simp; omega)))) | (refine Below.trans ?_ (Below.mono hb8 (by first | omega | (simp; done) | (simp; omega)))) | (refine Below.trans ?_ (Below.mono hb9 (by first | omega | (simp; done) | (simp; omega)))) | (refine Below.trans ?_ (Below.mono hb10 (by first | omega | (simp; done) | (simp; omega)))) | (refine Below.trans ?_ (Below.mono hb11 (by first | omega | (simp; done) | (simp; omega)))) | (refine Below.trans ?_ (Below.mono hb12 (by first | omega | (simp; done) | (simp; omega)))))))) _ _ (.inr rfl)).mono ?_
    rintro e w5 ⟨rfl, hb5⟩
    replace hb5 := Below.trans hb4 (Below.mono hb5 hb4.size)
    clear hc4 hf4
    have hz5 := hb5.size
    try simp only [World.size_alloc, World.size_drew, World.size_setCell] at hz5
    obtain ⟨hc5, hf5⟩ := bcell hb5
    go_wp2_with fail
    refine (to_in (h.below (by with_reducible (repeat (first | exact Below.refl _ _ | assumption | (refine Below.setCell ?_ (by first | omega | (simp; done) | (simp; omega)) _) | (refine Below.alloc ?_ (by first | omega | (simp; done) | (simp; omega)) _) | (refine below_drewN ?_ _) | (refine Below.drew ?_) | (refine Below.trans ?_ (Below.mono hb (by first | omega | (simp; done) | (simp; omega)))) | (refine Below.trans ?_ (Below.mono hb1 (by first | omega | (simp; done) | (simp; omega)))) | (refine Below.trans ?_ (Below.mono hb2 (by first | omega | (simp; done) | (simp; omega)))) | (refine Below.trans ?_ (Below.mono hb3 (by first | omega | (simp; done) | (simp; omega)))) | (refine Below.trans ?_ (Below.mono hb4 (by first | omega | (simp; done) | (simp; omega)))) | (refine Below.trans ?_ (Below.mono hb5 (by first | omega | (simp; done) | (simp; omega)))) | (refine Below.trans ?_ (Below.mono hb6 (by first | omega | (simp; done) | (simp; omega)))) | (refine Below.trans ?_ (Below.mono hb7 (by first | omega | (simp; done) | (simp; omega)))) | (refine Below.trans ?_ (Below.mono hb8 (by first | omega | (simp; done) | (simp; omega)))) | (refine Below.trans ?_ (Below.mono hb9 (by first | omega | (simp; done) | (simp; omega)))) | (refine Below.trans ?_ (Below.mono hb10 (by first | omega | (simp; done) | (simp; omega)))) | (refine Below.trans ?_ (Below.mono hb11 (by first | omega | (simp; done) | (simp; omega)))) | (refine Below.trans ?_ (Below.mono hb12 (by first | omega | (simp; done) | (simp; omega)))))))) _ i0 i1).mono ?_
    rintro e w6 ⟨rfl, hP, hk⟩
    go_wp2
    go_ret
    exact ⟨by rw [E.out]; rfl, by rw [E.out]; exact hP, chg_bel (by with_reducible (repeat (first | exact Below.refl _ _ | assumption | (refine Below.setCell ?_ (by first | omega | (simp; done) | (simp; omega)) _) | (refine Below.alloc ?_ (by first | omega | (simp; done) | (simp; omega)) _) | (refine below_drewN ?_ _) | (refine Below.drew ?_) | (refine Below.trans ?_ (Below.mono hb (by first | omega | (simp; done) | (simp; omega)))) | (refine Below.trans ?_ (Below.mono hb1 (by first | omega | (simp; done) | (simp; omega)))) | (refine Below.trans ?_ (Below.mono hb2 (by first | omega | (simp; done) | (simp; omega)))) | (refine Below.trans ?_ (Below.mono hb3 (by first | omega | (simp; done) | (simp; omega)))) | (refine Below.trans ?_ (Below.mono hb4 (by first | omega | (simp; done) | (simp; omega)))) | (refine Below.trans ?_ (Below.mono hb5 (by first | omega | (simp; done) | (simp; omega)))) | (refine Below.trans ?_ (Below.mono hb6 (by first | omega | (simp; done) | (simp; omega)))) | (refine Below.trans ?_ (Below.mono hb7 (by first | omega | (simp; done) | (simp; omega)))) | (refine Below.trans ?_ (Below.mono hb8 (by first | omega | (simp; done) | (simp; omega)))) | (refine Below.trans ?_ (Below.mono hb9 (by first | omega | (simp; done) | (simp; omega)))) | (refine Below.trans ?_ (Below.mono hb10 (by first | omega | (simp; done) | (simp; omega)))) | (refine Below.trans ?_ (Below.mono hb11 (by first | omega | (simp; done) | (simp; omega)))) | (refine Below.trans ?_ (Below.mono hb12 (by first | omega | (simp; done) | (simp; omega))))))) hk⟩
  · cases hO : P.opens (P.ofF P.cursor).start
    · have E := Lib.hid (show P.back = P.seek ((P.cursor + -2) % (P.cells.length : Int)) (-1) by unfold Pl.back; simp [hB, hO])
      go_enter Try.func44, Try.ntmps44
      go_wp2_with fail
      refine (Cursor_any h).mono ?_
      rintro e w1 ⟨rfl, hb1⟩
      have hz1 := hb1.size
      try simp only [World.size_alloc, World.size_drew, World.size_setCell] at hz1
      obtain ⟨hc1, hf1⟩ := bcell hb1
      go_wp2_with fail
      refine (Of_any (h.below hb1) _).mono ?_
      rintro e w2 ⟨rfl, hb2⟩
      replace hb2 := Below.trans hb1 (Below.mono hb2 hb1.size)
      clear hc1 hf1
      have hz2 := hb2.size
      try simp only [World.size_alloc, World.size_drew, World.size_setCell] at hz2
      obtain ⟨hc2, hf2⟩ := bcell hb2
      go_wp2_with fail
      refine (opens_any (h.below (by with_reducible (repeat (first | exact Below.refl _ _ | assumption | (refine Below.setCell ?_ (by first | omega | (simp; done) | (simp; omega)) _) | (refine Below.alloc ?_ (by first | omega | (simp; done) | (simp; omega)) _) | (refine below_drewN ?_ _) | (refine Below.drew ?_) | (refine Below.trans ?_ (Below.mono hb (by first | omega | (simp; done) | (simp; omega)))) | (refine Below.trans ?_ (Below.mono hb1 (by first | omega | (simp; done) | (simp; omega)))) | (refine Below.trans ?_ (Below.mono hb2 (by first | omega | (simp; done) | (simp; omega)))) | (refine Below.trans ?_ (Below.mono hb3 (by first | omega | (simp; done) | (simp; omega)))) | (refine Below.trans ?_ (Below.mono hb4 (by first | omega | (simp; done) | (simp; omega)))) | (refine Below.trans ?_ (Below.mono hb5 (by first | omega | (simp; done) | (simp; omega)))) | (refine Below.trans ?_ (Below.mono hb6 (by first | omega | (simp; done) | (simp; omega)))) | (refine Below.trans ?_ (Below.mono hb7 (by first | omega | (simp; done) | (simp; omega)))) | (refine Below.trans ?_ (Below.mono hb8 (by first | omega | (simp; done) | (simp; omega)))) | (refine Below.trans ?_ (Below.mono hb9 (by first | omega | (simp; done) | (simp; omega)))) | (refine Below.trans ?_ (Below.mono hb10 (by first | omega | (simp; done) | (simp; omega)))) | (refine Below.trans ?_ (Below.mono hb11 (by first | omega | (simp; done) | (simp; omega)))) | (refine Below.trans ?_ (Below.mono hb12 (by first | omega | (simp; done) | (simp; omega)))))))) _).mono ?_
      rintro e w3 ⟨rfl, hb3⟩
      have hz3 := hb3.size
      try simp only [World.size_alloc, World.size_drew, World.size_setCell] at hz3
      obtain ⟨hc3, hf3⟩ := bcell hb3
      go_wp2_with fail
      refine (by_any (h.below (by with_reducible (repeat (first | exact Below.refl _ _ | assumption | (refine Below.setCell ?_ (by first | omega | (simp; done) | (simp; omega)) _) | (refine Below.alloc ?_ (by first | omega | (simp; done) | (simp; omega)) _) | (refine below_drewN ?_ _) | (refine Below.drew ?_) | (refine Below.trans ?_ (Below.mono hb (by first | omega | (simp; done) | (simp; omega)))) | (refine Below.trans ?_ (Below.mono hb1 (by first | omega | (simp; done) | (simp; omega)))) | (refine Below.trans ?_ (Below.mono hb2 (by first | omega | (simp; done) | (simp; omega)))) | (refine Below.trans ?_ (Below.mono hb3 (by first | omega | (simp; done) | (simp; omega)))) | (refine Below.trans ?_ (Below.mono hb4 (by first | omega | (simp; done) | (simp; omega)))) | (refine Below.trans ?_ (Below.mono hb5 (by first | omega | (simp; done) | (simp; omega)))) | (refine Below.trans ?_ (Below.mono hb6 (by first | omega | (simp; done) | (simp; omega)))) | (refine Below.trans ?_ (Below.mono hb7 (by first | omega | (simp; done) | (simp; omega)))) | (refine Below.trans ?_ (Below.mono hb8 (by first | omega | (simp; done) | (simp; omega)))) | (refine Below.trans ?_ (Below.mono hb9 (by first | omega | (simp; done) | (simp; omega)))) | (refine Below.trans ?_ (Below.mono hb10 (by first | omega | (simp; done) | (simp; omega)))) | (refine Below.trans ?_ (Below.mono hb11 (by first | omega | (simp; done) | (simp; omega)))) | (refine Below.trans ?_ (Below.mono hb12 (by first | omega | (simp; done) | (simp; omega)))))))) _ _).mono ?_
      rintro e w4 ⟨rfl, hb4⟩
      replace hb4 := Below.trans hb3 (Below.mono hb4 hb3.size)
      clear hc3 hf3
      have hz4 := hb4.size
      try simp only [World.size_alloc, World.size_drew, World.size_setCell] at hz4
      obtain ⟨hc4, hf4⟩ := bcell hb4
      go_wp2_with fail
      refine (seek_any (h.below (by with_reducible (repeat (first | exact Below.refl _ _ | assumption | (refine Below.setCell ?_ (by first | omega | (simp; done) | (simp; omega)) _) | (refine Below.alloc ?_ (by first | omega | (simp; done) | (simp; omega)) _) | (refine below_drewN ?_ _) | (refine Below.drew ?_) | (refine Below.trans ?_ (Below.mono hb (by first | omega | (simp; done) | (simp; omega)))) | (refine Below.trans ?_ (Below.mono hb1 (by first | omega | (simp; done) | (simp; omega)))) | (refine Below.trans ?_ (Below.mono hb2 (by first | omega | (simp; done) | (simp; omega)))) | (refine Below.trans ?_ (Below.mono hb3 (by first | omega | (simp; done) | (simp; omega)))) | (refine Below.trans ?_ (Below.mono hb4 (by first | omega | (simp; done) | (simp; omega)))) | (refine Below.trans ?_ (Below.mono hb5 (by first | omega | (simp; done) | (simp; omega)))) | (refine Below.trans ?_ (Below.mono hb6 (by first | omega | (simp; done) | (simp; omega)))) | (refine Below.trans ?_ (Below.mono hb7 (by first | omega | (simp; done) | (simp; omega)))) | (refine Below.trans ?_ (Below.mono hb8 (by first | omega | (simp; done) | (simp; omega)))) | (refine Below.trans ?_ (Below.mono hb9 (by first | omega | (simp; done) | (simp; omega)))) | (refine Below.trans ?_ (Below.mono hb10 (by first | omega | (simp; done) | (simp; omega)))) | (refine Below.trans ?_ (Below.mono hb11 (by first | omega | (simp; done) | (simp; omega)))) | (refine Below.trans ?_ (Below.mono hb12 (by first | omega | (simp; done) | (simp; omega)))))))) _ _ (.inr rfl)).mono ?_
      rintro e w5 ⟨rfl, hb5⟩
      replace hb5 := Below.trans hb4 (Below.mono hb5 hb4.size)
      clear hc4 hf4
      have hz5 := hb5.size
      try simp only [World.size_alloc, World.size_drew, World.size_setCell] at hz5
      obtain ⟨hc5, hf5⟩ := bcell hb5
      go_wp2_with fail
      refine (to_in (h.below (by with_reducible (repeat (first | exact Below.refl _ _ | assumption | (refine Below.setCell ?_ (by first | omega | (simp; done) | (simp; omega)) _) | (refine Below.alloc ?_ (by first | omega | (simp; done) | (simp; omega)) _) | (refine below_drewN ?_ _) | (refine Below.drew ?_) | (refine Below.trans ?_ (Below.mono hb (by first | omega | (simp; done) | (simp; omega)))) | (refine Below.trans ?_ (Below.mono hb1 (by first | omega | (simp; done) | (simp; omega)))) | (refine Below.trans ?_ (Below.mono hb2 (by first | omega | (simp; done) | (simp; omega)))) | (refine Below.trans ?_ (Below.mono hb3 (by first | omega | (simp; done) | (simp; omega)))) | (refine Below.trans ?_ (Below.mono hb4 (by first | omega | (simp; done) | (simp; omega)))) | (refine Below.trans ?_ (Below.mono hb5 (by first | omega | (simp; done) | (simp; omega)))) | (refine Below.trans ?_ (Below.mono hb6 (by first | omega | (simp; done) | (simp; omega)))) | (refine Below.trans ?_ (Below.mono hb7 (by first | omega | (simp; done) | (simp; omega)))) | (refine Below.trans ?_ (Below.mono hb8 (by first | omega | (simp; done) | (simp; omega)))) | (refine Below.trans ?_ (Below.mono hb9 (by first | omega | (simp; done) | (simp; omega)))) | (refine Below.trans ?_ (Below.mono hb10 (by first | omega | (simp; done) | (simp; omega)))) | (refine Below.trans ?_ (Below.mono hb11 (by first | omega | (simp; done) | (simp; omega)))) | (refine Below.trans ?_ (Below.mono hb12 (by first | omega | (simp; done) | (simp; omega)))))))) _ i0 i1).mono ?_
      rintro e w6 ⟨rfl, hP, hk⟩
      go_wp2
      go_ret
      exact ⟨by rw [E.out]; rfl, by rw [E.out]; exact hP, chg_bel (by with_reducible (repeat (first | exact Below.refl _ _ | assumption | (refine Below.setCell ?_ (by first | omega | (simp; done) | (simp; omega)) _) | (refine Below.alloc ?_ (by first | omega | (simp; done) | (simp; omega)) _) | (refine below_drewN ?_ _) | (refine Below.drew ?_) | (refine Below.trans ?_ (Below.mono hb (by first | omega | (simp; done) | (simp; omega)))) | (refine Below.trans ?_ (Below.mono hb1 (by first | omega | (simp; done) | (simp; omega)))) | (refine Below.trans ?_ (Below.mono hb2 (by first | omega | (simp; done) | (simp; omega)))) | (refine Below.trans ?_ (Below.mono hb3 (by first | omega | (simp; done) | (simp; omega)))) | (refine Below.trans ?_ (Below.mono hb4 (by first | omega | (simp; done) | (simp; omega)))) | (refine Below.trans ?_ (Below.mono hb5 (by first | omega | (simp; done) | (simp; omega)))) | (refine Below.trans ?_ (Below.mono hb6 (by first | omega | (simp; done) | (simp; omega)))) | (refine Below.trans ?_ (Below.mono hb7 (by first | omega | (simp; done) | (simp; omega)))) | (refine Below.trans ?_ (Below.mono hb8 (by first | omega | (simp; done) | (simp; omega)))) | (refine Below.trans ?_ (Below.mono hb9 (by first | omega | (simp; done) | (simp; omega)))) | (refine Below.trans ?_ (Below.mono hb10 (by first | omega | (simp; done) | (simp; omega)))) | (refine Below.trans ?_ (Below.mono hb11 (by first | omega | (simp; done) | (simp; omega)))) | (refine Below.trans ?_ (Below.mono hb12 (by first | omega | (simp; done) | (simp; omega))))))) hk⟩
    · cases h1 : (P.cursor != (P.ofF P.cursor).start)
      · have E := Lib.hid (show P.back = P.seek ((P.cursor + -2) % (P.cells.length : Int)) (-1) by unfold Pl.back; simp [hB, hO, h1])
        go_enter Try.func44, Try.ntmps44
        go_wp2_with fail
        refine (Cursor_any h).mono ?_
        rintro e w1 ⟨rfl, hb1⟩
        have hz1 := hb1.size
        try simp only [World.size_alloc, World.size_drew, World.size_setCell] at hz1
        obtain ⟨hc1, hf1⟩ := bcell hb1
        go_wp2_with fail
        refine (Of_any (h.below hb1) _).mono ?_
        rintro e w2 ⟨rfl, hb2⟩
        replace hb2 := Below.trans hb1 (Below.mono hb2 hb1.size)
        clear hc1 hf1
        have hz2 := hb2.size
        try simp only [World.size_alloc, World.size_drew, World.size_setCell] at hz2
        obtain ⟨hc2, hf2⟩ := bcell hb2
        go_wp2_with fail
        refine (opens_any (h.below (by with_reducible (repeat (first | exact Below.refl _ _ | assumption | (refine Below.setCell ?_ (by first | omega | (simp; done) | (simp; omega)) _) | (refine Below.alloc ?_ (by first | omega | (simp; done) | (simp; omega)) _) | (refine below_drewN ?_ _) | (refine Below.drew ?_) | (refine Below.trans ?_ (Below.mono hb (by first | omega | (simp; done) | (simp; omega)))) | (refine Below.trans ?_ (Below.mono hb1 (by first | omega | (simp; done) | (simp; omega)))) | (refine Below.trans ?_ (Below.mono hb2 (by first | omega | (simp; done) | (simp; omega)))) | (refine Below.trans ?_ (Below.mono hb3 (by first | omega | (simp; done) | (simp; omega)))) | (refine Below.trans ?_ (Below.mono hb4 (by first | omega | (simp; done) | (simp; omega)))) | (refine Below.trans ?_ (Below.mono hb5 (by first | omega | (simp; done) | (simp; omega)))) | (refine Below.trans ?_ (Below.mono hb6 (by first | omega | (simp; done) | (simp; omega)))) | (refine Below.trans ?_ (Below.mono hb7 (by first | omega | (simp; done) | (simp; omega)))) | (refine Below.trans ?_ (Below.mono hb8 (by first | omega | (simp; done) | (simp; omega)))) | (refine Below.trans ?_ (Below.mono hb9 (by first | omega | (simp; done) | (simp; omega)))) | (refine Below.trans ?_ (Below.mono hb10 (by first | omega | (simp; done) | (simp; omega)))) | (refine Below.trans ?_ (Below.mono hb11 (by first | omega | (simp; done) | (simp; omega)))) | (refine Below.trans ?_ (Below.mono hb12 (by first | omega | (simp; done) | (simp; omega)))))))) _).mono ?_
        rintro e w3 ⟨rfl, hb3⟩
        have hz3 := hb3.size
        try simp only [World.size_alloc, World.size_drew, World.size_setCell] at hz3
        obtain ⟨hc3, hf3⟩ := bcell hb3
        go_wp2_with fail
        refine (by_any (h.below (by with_reducible (repeat (first | exact Below.refl _ _ | assumption | (refine Below.setCell ?_ (by first | omega | (simp; done) | (simp; omega)) _) | (refine Below.alloc ?_ (by first | omega | (simp; done) | (simp; omega)) _) | (refine below_drewN ?_ _) | (refine Below.drew ?_) | (refine Below.trans ?_ (Below.mono hb (by first | omega | (simp; done) | (simp; omega)))) | (refine Below.trans ?_ (Below.mono hb1 (by first | omega | (simp; done) | (simp; omega)))) | (refine Below.trans ?_ (Below.mono hb2 (by first | omega | (simp; done) | (simp; omega)))) | (refine Below.trans ?_ (Below.mono hb3 (by first | omega | (simp; done) | (simp; omega)))) | (refine Below.trans ?_ (Below.mono hb4 (by first | omega | (simp; done) | (simp; omega)))) | (refine Below.trans ?_ (Below.mono hb5 (by first | omega | (simp; done) | (simp; omega)))) | (refine Below.trans ?_ (Below.mono hb6 (by first | omega | (simp; done) | (simp; omega)))) | (refine Below.trans ?_ (Below.mono hb7 (by first | omega | (simp; done) | (simp; omega)))) | (refine Below.trans ?_ (Below.mono hb8 (by first | omega | (simp; done) | (simp; omega)))) | (refine Below.trans ?_ (Below.mono hb9 (by first | omega | (simp; done) | (simp; omega)))) | (refine Below.trans ?_ (Below.mono hb10 (by first | omega | (simp; done) | (simp; omega)))) | (refine Below.trans ?_ (Below.mono hb11 (by first | omega | (simp; done) | (simp; omega)))) | (refine Below.trans ?_ (Below.mono hb12 (by first | omega | (simp; done) | (simp; omega)))))))) _ _).mono ?_
        rintro e w4 ⟨rfl, hb4⟩
        replace hb4 := Below.trans hb3 (Below.mono hb4 hb3.size)
        clear hc3 hf3
        have hz4 := hb4.size
        try simp only [World.size_alloc, World.size_drew, World.size_setCell] at hz4
        obtain ⟨hc4, hf4⟩ := bcell hb4
        go_wp2_with fail
        refine (seek_any (h.below (by with_reducible (repeat (first | exact Below.refl _ _ | assumption | (refine Below.setCell ?_ (by first | omega | (simp; done) | (simp; omega)) _) | (refine Below.alloc ?_ (by first | omega | (simp; done) | (simp; omega)) _) | (refine below_drewN ?_ _) | (refine Below.drew ?_) | (refine Below.trans ?_ (Below.mono hb (by first | omega | (simp; done) | (simp; omega)))) | (refine Below.trans ?_ (Below.mono hb1 (by first | omega | (simp; done) | (simp; omega)))) | (refine Below.trans ?_ (Below.mono hb2 (by first | omega | (simp; done) | (simp; omega)))) | (refine Below.trans ?_ (Below.mono hb3 (by first | omega | (simp; done) | (simp; omega)))) | (refine Below.trans ?_ (Below.mono hb4 (by first | omega | (simp; done) | (simp; omega)))) | (refine Below.trans ?_ (Below.mono hb5 (by first | omega | (simp; done) | (simp; omega)))) | (refine Below.trans ?_ (Below.mono hb6 (by first | omega | (simp; done) | (simp; omega)))) | (refine Below.trans ?_ (Below.mono hb7 (by first | omega | (simp; done) | (simp; omega)))) | (refine Below.trans ?_ (Below.mono hb8 (by first | omega | (simp; done) | (simp; omega)))) | (refine Below.trans ?_ (Below.mono hb9 (by first | omega | (simp; done) | (simp; omega)))) | (refine Below.trans ?_ (Below.mono hb10 (by first | omega | (simp; done) | (simp; omega)))) | (refine Below.trans ?_ (Below.mono hb11 (by first | omega | (simp; done) | (simp; omega)))) | (refine Below.trans ?_ (Below.mono hb12 (by first | omega | (simp; done) | (simp; omega)))))))) _ _ (.inr rfl)).mono ?_
        rintro e w5 ⟨rfl, hb5⟩
        replace hb5 := Below.trans hb4 (Below.mono hb5 hb4.size)
        clear hc4 hf4
        have hz5 := hb5.size
        try simp only [World.size_alloc, World.size_drew, World.size_setCell] at hz5
        obtain ⟨hc5, hf5⟩ := bcell hb5
        go_wp2_with fail
        refine (to_in (h.below (by with_reducible (repeat (first | exact Below.refl _ _ | assumption | (refine Below.setCell ?_ (by first | omega | (simp; done) | (simp; omega)) _) | (refine Below.alloc ?_ (by first | omega | (simp; done) | (simp; omega)) _) | (refine below_drewN ?_ _) | (refine Below.drew ?_) | (refine Below.trans ?_ (Below.mono hb (by first | omega | (simp; done) | (simp; omega)))) | (refine Below.trans ?_ (Below.mono hb1 (by first | omega | (simp; done) | (simp; omega)))) | (refine Below.trans ?_ (Below.mono hb2 (by first | omega | (simp; done) | (simp; omega)))) | (refine Below.trans ?_ (Below.mono hb3 (by first | omega | (simp; done) | (simp; omega)))) | (refine Below.trans ?_ (Below.mono hb4 (by first | omega | (simp; done) | (simp; omega)))) | (refine Below.trans ?_ (Below.mono hb5 (by first | omega | (simp; done) | (simp; omega)))) | (refine Below.trans ?_ (Below.mono hb6 (by first | omega | (simp; done) | (simp; omega)))) | (refine Below.trans ?_ (Below.mono hb7 (by first | omega | (simp; done) | (simp; omega)))) | (refine Below.trans ?_ (Below.mono hb8 (by first | omega | (simp; done) | (simp; omega)))) | (refine Below.trans ?_ (Below.mono hb9 (by first | omega | (simp; done) | (simp; omega)))) | (refine Below.trans ?_ (Below.mono hb10 (by first | omega | (simp; done) | (simp; omega)))) | (refine Below.trans ?_ (Below.mono hb11 (by first | omega | (simp; done) | (simp; omega)))) | (refine Below.trans ?_ (Below.mono hb12 (by first | omega | (simp; done) | (simp; omega)))))))) _ i0 i1).mono ?_
        rintro e w6 ⟨rfl, hP, hk⟩
        go_wp2
        go_ret
        exact ⟨by rw [E.out]; rfl, by rw [E.out]; exact hP, chg_bel (by with_reducible (repeat (first | exact Below.refl _ _ | assumption | (refine Below.setCell ?_ (by first | omega | (simp; done) | (simp; omega)) _) | (refine Below.alloc ?_ (by first | omega | (simp; done) | (simp; omega)) _) | (refine below_drewN ?_ _) | (refine Below.drew ?_) | (refine Below.trans ?_ (Below.mono hb (by first | omega | (simp; done) | (simp; omega)))) | (refine Below.trans ?_ (Below.mono hb1 (by first | omega | (simp; done) | (simp; omega)))) | (refine Below.trans ?_ (Below.mono hb2 (by first | omega | (simp; done) | (simp; omega)))) | (refine Below.trans ?_ (Below.mono hb3 (by first | omega | (simp; done) | (simp; omega)))) | (refine Below.trans ?_ (Below.mono hb4 (by first | omega | (simp; done) | (simp; omega)))) | (refine Below.trans ?_ (Below.mono hb5 (by first | omega | (simp; done) | (simp; omega)))) | (refine Below.trans ?_ (Below.mono hb6 (by first | omega | (simp; done) | (simp; omega)))) | (refine Below.trans ?_ (Below.mono hb7 (by first | omega | (simp; done) | (simp; omega)))) | (refine Below.trans ?_ (Below.mono hb8 (by first | omega | (simp; done) | (simp; omega)))) | (refine Below.trans ?_ (Below.mono hb9 (by first | omega | (simp; done) | (simp; omega)))) | (refine Below.trans ?_ (Below.mono hb10 (by first | omega | (simp; done) | (simp; omega)))) | (refine Below.trans ?_ (Below.mono hb11 (by first | omega | (simp; done) | (simp; omega)))) | (refine Below.trans ?_ (Below.mono hb12 (by first | omega | (simp; done) | (simp; omega))))))) hk⟩
      · cases h2 : (P.cursor != ((P.ofF P.cursor).start + 1) % (P.cells.length : Int))
        · have E := Lib.hid (show P.back = P.seek ((P.cursor + -2) % (P.cells.length : Int)) (-1) by unfold Pl.back; simp [hB, hO, h1, h2])
          go_enter Try.func44, Try.ntmps44
          go_wp2_with fail
          refine (Cursor_any h).mono ?_
          rintro e w1 ⟨rfl, hb1⟩
          have hz1 := hb1.size
          try simp only [World.size_alloc, World.size_drew, World.size_setCell] at hz1
          obtain ⟨hc1, hf1⟩ := bcell hb1
          go_wp2_with fail
          refine (Of_any (h.below hb1) _).mono ?_
          rintro e w2 ⟨rfl, hb2⟩
          replace hb2 := Below.trans hb1 (Below.mono hb2 hb1.size)
          clear hc1 hf1
          have hz2 := hb2.size
          try simp only [World.size_alloc, World.size_drew, World.size_setCell] at hz2
          obtain ⟨hc2, hf2⟩ := bcell hb2
          go_wp2_with fail
          refine (opens_any (h.below (by with_reducible (repeat (first | exact Below.refl _ _ | assumption | (refine Below.setCell ?_ (by first | omega | (simp; done) | (simp; omega)) _) | (refine Below.alloc ?_ (by first | omega | (simp; done) | (simp; omega)) _) | (refine below_drewN ?_ _) | (refine Below.drew ?_) | (refine Below.trans ?_ (Below.mono hb (by first | omega | (simp; done) | (simp; omega)))) | (refine Below.trans ?_ (Below.mono hb1 (by first | omega | (simp; done) | (simp; omega)))) | (refine Below.trans ?_ (Below.mono hb2 (by first | omega | (simp; done) | (simp; omega)))) | (refine Below.trans ?_ (Below.mono hb3 (by first | omega | (simp; done) | (simp; omega)))) | (refine Below.trans ?_ (Below.mono hb4 (by first | omega | (simp; done) | (simp; omega)))) | (refine Below.trans ?_ (Below.mono hb5 (by first | omega | (simp; done) | (simp; omega)))) | (refine Below.trans ?_ (Below.mono hb6 (by first | omega | (simp; done) | (simp; omega)))) | (refine Below.trans ?_ (Below.mono hb7 (by first | omega | (simp; done) | (simp; omega)))) | (refine Below.trans ?_ (Below.mono hb8 (by first | omega | (simp; done) | (simp; omega)))) | (refine Below.trans ?_ (Below.mono hb9 (by first | omega | (simp; done) | (simp; omega)))) | (refine Below.trans ?_ (Below.mono hb10 (by first | omega | (simp; done) | (simp; omega)))) | (refine Below.trans ?_ (Below.mono hb11 (by first | omega | (simp; done) | (simp; omega)))) | (refine Below.trans ?_ (Below.mono hb12 (by first | omega | (simp; done) | (simp; omega)))))))) _).mono ?_
          rintro e w3 ⟨rfl, hb3⟩
          have hz3 := hb3.size
          try simp only [World.size_alloc, World.size_drew, World.size_setCell] at hz3
          obtain ⟨hc3, hf3⟩ := bcell hb3
          go_wp2_with fail
          refine (by_any (h.below (by with_reducible (repeat (first | exact Below.refl _ _ | assumption | (refine Below.setCell ?_ (by first | omega | (simp; done) | (simp; omega)) _) | (refine Below.alloc ?_ (by first | omega | (simp; done) | (simp; omega)) _) | (refine below_drewN ?_ _) | (refine Below.drew ?_) | (refine Below.trans ?_ (Below.mono hb (by first | omega | (simp; done) | (simp; omega)))) | (refine Below.trans ?_ (Below.mono hb1 (by first | omega | (simp; done) | (simp; omega)))) | (refine Below.trans ?_ (Below.mono hb2 (by first | omega | (simp; done) | (simp; omega)))) | (refine Below.trans ?_ (Below.mono hb3 (by first | omega | (simp; done) | (simp; omega)))) | (refine Below.trans ?_ (Below.mono hb4 (by first | omega | (simp; done) | (simp; omega)))) | (refine Below.trans ?_ (Below.mono hb5 (by first | omega | (simp; done) | (simp; omega)))) | (refine Below.trans ?_ (Below.mono hb6 (by first | omega | (simp; done) | (simp; omega)))) | (refine Below.trans ?_ (Below.mono hb7 (by first | omega | (simp; done) | (simp; omega)))) | (refine Below.trans ?_ (Below.mono hb8 (by first | omega | (simp; done) | (simp; omega)))) | (refine Below.trans ?_ (Below.mono hb9 (by first | omega | (simp; done) | (simp; omega)))) | (refine Below.trans ?_ (Below.mono hb10 (by first | omega | (simp; done) | (simp; omega)))) | (refine Below.trans ?_ (Below.mono hb11 (by first | omega | (simp; done) | (simp; omega)))) | (refine Below.trans ?_ (Below.mono hb12 (by first | omega | (simp; done) | (simp; omega)))))))) _ _).mono ?_
          rintro e w4 ⟨rfl, hb4⟩
          replace hb4 := Below.trans hb3 (Below.mono hb4 hb3.size)
          clear hc3 hf3
          have hz4 := hb4.size
          try simp only [World.size_alloc, World.size_drew, World.size_setCell] at hz4
          obtain ⟨hc4, hf4⟩ := bcell hb4
          go_wp2_with fail
          refine (by_any (h.below (by with_reducible (repeat (first | exact Below.refl _ _ | assumption | (refine Below.setCell ?_ (by first | omega | (simp; done) | (simp; omega)) _) | (refine Below.alloc ?_ (by first | omega | (simp; done) | (simp; omega)) _) | (refine below_drewN ?_ _) | (refine Below.drew ?_) | (refine Below.trans ?_ (Below.mono hb (by first | omega | (simp; done) | (simp; omega)))) | (refine Below.trans ?_ (Below.mono hb1 (by first | omega | (simp; done) | (simp; omega)))) | (refine Below.trans ?_ (Below.mono hb2 (by first | omega | (simp; done) | (simp; omega)))) | (refine Below.trans ?_ (Below.mono hb3 (by first | omega | (simp; done) | (simp; omega)))) | (refine Below.trans ?_ (Below.mono hb4 (by first | omega | (simp; done) | (simp; omega)))) | (refine Below.trans ?_ (Below.mono hb5 (by first | omega | (simp; done) | (simp; omega)))) | (refine Below.trans ?_ (Below.mono hb6 (by first | omega | (simp; done) | (simp; omega)))) | (refine Below.trans ?_ (Below.mono hb7 (by first | omega | (simp; done) | (simp; omega)))) | (refine Below.trans ?_ (Below.mono hb8 (by first | omega | (simp; done) | (simp; omega)))) | (refine Below.trans ?_ (Below.mono hb9 (by first | omega | (simp; done) | (simp; omega)))) | (refine Below.trans ?_ (Below.mono hb10 (by first | omega | (simp; done) | (simp; omega)))) | (refine Below.trans ?_ (Below.mono hb11 (by first | omega | (simp; done) | (simp; omega)))) | (refine Below.trans ?_ (Below.mono hb12 (by first | omega | (simp; done) | (simp; omega)))))))) _ _).mono ?_
          rintro e w5 ⟨rfl, hb5⟩
          replace hb5 := Below.trans hb4 (Below.mono hb5 hb4.size)
          clear hc4 hf4
          have hz5 := hb5.size
          try simp only [World.size_alloc, World.size_drew, World.size_setCell] at hz5
          obtain ⟨hc5, hf5⟩ := bcell hb5
          go_wp2_with fail
          refine (seek_any (h.below (by with_reducible (repeat (first | exact Below.refl _ _ | assumption | (refine Below.setCell ?_ (by first | omega | (simp; done) | (simp; omega)) _) | (refine Below.alloc ?_ (by first | omega | (simp; done) | (simp; omega)) _) | (refine below_drewN ?_ _) | (refine Below.drew ?_) | (refine Below.trans ?_ (Below.mono hb (by first | omega | (simp; done) | (simp; omega)))) | (refine Below.trans ?_ (Below.mono hb1 (by first | omega | (simp; done) | (simp; omega)))) | (refine Below.trans ?_ (Below.mono hb2 (by first | omega | (simp; done) | (simp; omega)))) | (refine Below.trans ?_ (Below.mono hb3 (by first | omega | (simp; done) | (simp; omega)))) | (refine Below.trans ?_ (Below.mono hb4 (by first | omega | (simp; done) | (simp; omega)))) | (refine Below.trans ?_ (Below.mono hb5 (by first | omega | (simp; done) | (simp; omega)))) | (refine Below.trans ?_ (Below.mono hb6 (by first | omega | (simp; done) | (simp; omega)))) | (refine Below.trans ?_ (Below.mono hb7 (by first | omega | (simp; done) | (simp; omega)))) | (refine Below.trans ?_ (Below.mono hb8 (by first | omega | (simp; done) | (simp; omega)))) | (refine Below.trans ?_ (Below.mono hb9 (by first | omega | (simp; done) | (simp; omega)))) | (refine Below.trans ?_ (Below.mono hb10 (by first | omega | (simp; done) | (simp; omega)))) | (refine Below.trans ?_ (Below.mono hb11 (by first | omega | (simp; done) | (simp; omega)))) | (refine Below.trans ?_ (Below.mono hb12 (by first | omega | (simp; done) | (simp; omega)))))))) _ _ (.inr rfl)).mono ?_
          rintro e w6 ⟨rfl, hb6⟩
          replace hb6 := Below.trans hb5 (Below.mono hb6 hb5.size)
          clear hc5 hf5
          have hz6 := hb6.size
          try simp only [World.size_alloc, World.size_drew, World.size_setCell] at hz6
          obtain ⟨hc6, hf6⟩ := bcell hb6
          go_wp2_with fail
          refine (to_in (h.below (by with_reducible (repeat (first | exact Below.refl _ _ | assumption | (refine Below.setCell ?_ (by first | omega | (simp; done) | (simp; omega)) _) | (refine Below.alloc ?_ (by first | omega | (simp; done) | (simp; omega)) _) | (refine below_drewN ?_ _) | (refine Below.drew ?_) | (refine Below.trans ?_ (Below.mono hb (by first | omega | (simp; done) | (simp; omega)))) | (refine Below.trans ?_ (Below.mono hb1 (by first | omega | (simp; done) | (simp; omega)))) | (refine Below.trans ?_ (Below.mono hb2 (by first | omega | (simp; done) | (simp; omega)))) | (refine Below.trans ?_ (Below.mono hb3 (by first | omega | (simp; done) | (simp; omega)))) | (refine Below.trans ?_ (Below.mono hb4 (by first | omega | (simp; done) | (simp; omega)))) | (refine Below.trans ?_ (Below.mono hb5 (by first | omega | (simp; done) | (simp; omega)))) | (refine Below.trans ?_ (Below.mono hb6 (by first | omega | (simp; done) | (simp; omega)))) | (refine Below.trans ?_ (Below.mono hb7 (by first | omega | (simp; done) | (simp; omega)))) | (refine Below.trans ?_ (Below.mono hb8 (by first | omega | (simp; done) | (simp; omega)))) | (refine Below.trans ?_ (Below.mono hb9 (by first | omega | (simp; done) | (simp; omega)))) | (refine Below.trans ?_ (Below.mono hb10 (by first | omega | (simp; done) | (simp; omega)))) | (refine Below.trans ?_ (Below.mono hb11 (by first | omega | (simp; done) | (simp; omega)))) | (refine Below.trans ?_ (Below.mono hb12 (by first | omega | (simp; done) | (simp; omega)))))))) _ i0 i1).mono ?_
          rintro e w7 ⟨rfl, hP, hk⟩
          go_wp2
          go_ret
          exact ⟨by rw [E.out]; rfl, by rw [E.out]; exact hP, chg_bel (by with_reducible (repeat (first | exact Below.refl _ _ | assumption | (refine Below.setCell ?_ (by first | omega | (simp; done) | (simp; omega)) _) | (refine Below.alloc ?_ (by first | omega | (simp; done) | (simp; omega)) _) | (refine below_drewN ?_ _) | (refine Below.drew ?_) | (refine Below.trans ?_ (Below.mono hb (by first | omega | (simp; done) | (simp; omega)))) | (refine Below.trans ?_ (Below.mono hb1 (by first | omega | (simp; done) | (simp; omega)))) | (refine Below.trans ?_ (Below.mono hb2 (by first | omega | (simp; done) | (simp; omega)))) | (refine Below.trans ?_ (Below.mono hb3 (by first | omega | (simp; done) | (simp; omega)))) | (refine Below.trans ?_ (Below.mono hb4 (by first | omega | (simp; done) | (simp; omega)))) | (refine Below.trans ?_ (Below.mono hb5 (by first | omega | (simp; done) | (simp; omega)))) | (refine Below.trans ?_ (Below.mono hb6 (by first | omega | (simp; done) | (simp; omega)))) | (refine Below.trans ?_ (Below.mono hb7 (by first | omega | (simp; done) | (simp; omega)))) | (refine Below.trans ?_ (Below.mono hb8 (by first | omega | (simp; done) | (simp; omega)))) | (refine Below.trans ?_ (Below.mono hb9 (by first | omega | (simp; done) | (simp; omega)))) | (refine Below.trans ?_ (Below.mono hb10 (by first | omega | (simp; done) | (simp; omega)))) | (refine Below.trans ?_ (Below.mono hb11 (by first | omega | (simp; done) | (simp; omega)))) | (refine Below.trans ?_ (Below.mono hb12 (by first | omega | (simp; done) | (simp; omega))))))) hk⟩
        · have E := Lib.hid (show P.back = ((P.ofF P.cursor).start + 1) % (P.cells.length : Int) by unfold Pl.back; simp [hB, hO, h1, h2])
          go_enter Try.func44, Try.ntmps44
          go_wp2_with fail
          refine (Cursor_any h).mono ?_
          rintro e w1 ⟨rfl, hb1⟩
          have hz1 := hb1.size
          try simp only [World.size_alloc, World.size_drew, World.size_setCell] at hz1
          obtain ⟨hc1, hf1⟩ := bcell hb1
          go_wp2_with fail
          refine (Of_any (h.below hb1) _).mono ?_
          rintro e w2 ⟨rfl, hb2⟩
          replace hb2 := Below.trans hb1 (Below.mono hb2 hb1.size)
          clear hc1 hf1
          have hz2 := hb2.size
          try simp only [World.size_alloc, World.size_drew, World.size_setCell] at hz2
          obtain ⟨hc2, hf2⟩ := bcell hb2
          go_wp2_with fail
          refine (opens_any (h.below (by with_reducible (repeat (first | exact Below.refl _ _ | assumption | (refine Below.setCell ?_ (by first | omega | (simp; done) | (simp; omega)) _) | (refine Below.alloc ?_ (by first | omega | (simp; done) | (simp; omega)) _) | (refine below_drewN ?_ _) | (refine Below.drew ?_) | (refine Below.trans ?_ (Below.mono hb (by first | omega | (simp; done) | (simp; omega)))) | (refine Below.trans ?_ (Below.mono hb1 (by first | omega | (simp; done) | (simp; omega)))) | (refine Below.trans ?_ (Below.mono hb2 (by first | omega | (simp; done) | (simp; omega)))) | (refine Below.trans ?_ (Below.mono hb3 (by first | omega | (simp; done) | (simp; omega)))) | (refine Below.trans ?_ (Below.mono hb4 (by first | omega | (simp; done) | (simp; omega)))) | (refine Below.trans ?_ (Below.mono hb5 (by first | omega | (simp; done) | (simp; omega)))) | (refine Below.trans ?_ (Below.mono hb6 (by first | omega | (simp; done) | (simp; omega)))) | (refine Below.trans ?_ (Below.mono hb7 (by first | omega | (simp; done) | (simp; omega)))) | (refine Below.trans ?_ (Below.mono hb8 (by first | omega | (simp; done) | (simp; omega)))) | (refine Below.trans ?_ (Below.mono hb9 (by first | omega | (simp; done) | (simp; omega)))) | (refine Below.trans ?_ (Below.mono hb10 (by first | omega | (simp; done) | (simp; omega)))) | (refine Below.trans ?_ (Below.mono hb11 (by first | omega | (simp; done) | (simp; omega)))) | (refine Below.trans ?_ (Below.mono hb12 (by first | omega | (simp; done) | (simp; omega)))))))) _).mono ?_
          rintro e w3 ⟨rfl, hb3⟩
          have hz3 := hb3.size
          try simp only [World.size_alloc, World.size_drew, World.size_setCell] at hz3
          obtain ⟨hc3, hf3⟩ := bcell hb3
          go_wp2_with fail
          refine (by_any (h.below (by with_reducible (repeat (first | exact Below.refl _ _ | assumption | (refine Below.setCell ?_ (by first | omega | (simp; done) | (simp; omega)) _) | (refine Below.alloc ?_ (by first | omega | (simp; done) | (simp; omega)) _) | (refine below_drewN ?_ _) | (refine Below.drew ?_) | (refine Below.trans ?_ (Below.mono hb (by first | omega | (simp; done) | (simp; omega)))) | (refine Below.trans ?_ (Below.mono hb1 (by first | omega | (simp; done) | (simp; omega)))) | (refine Below.trans ?_ (Below.mono hb2 (by first | omega | (simp; done) | (simp; omega)))) | (refine Below.trans ?_ (Below.mono hb3 (by first | omega | (simp; done) | (simp; omega)))) | (refine Below.trans ?_ (Below.mono hb4 (by first | omega | (simp; done) | (simp; omega)))) | (refine Below.trans ?_ (Below.mono hb5 (by first | omega | (simp; done) | (simp; omega)))) | (refine Below.trans ?_ (Below.mono hb6 (by first | omega | (simp; done) | (simp; omega)))) | (refine Below.trans ?_ (Below.mono hb7 (by first | omega | (simp; done) | (simp; omega)))) | (refine Below.trans ?_ (Below.mono hb8 (by first | omega | (simp; done) | (simp; omega)))) | (refine Below.trans ?_ (Below.mono hb9 (by first | omega | (simp; done) | (simp; omega)))) | (refine Below.trans ?_ (Below.mono hb10 (by first | omega | (simp; done) | (simp; omega)))) | (refine Below.trans ?_ (Below.mono hb11 (by first | omega | (simp; done) | (simp; omega)))) | (refine Below.trans ?_ (Below.mono hb12 (by first | omega | (simp; done) | (simp; omega)))))))) _ _).mono ?_
          rintro e w4 ⟨rfl, hb4⟩
          replace hb4 := Below.trans hb3 (Below.mono hb4 hb3.size)
          clear hc3 hf3
          have hz4 := hb4.size
          try simp only [World.size_alloc, World.size_drew, World.size_setCell] at hz4
          obtain ⟨hc4, hf4⟩ := bcell hb4
          go_wp2_with fail
          refine (by_any (h.below (by with_reducible (repeat (first | exact Below.refl _ _ | assumption | (refine Below.setCell ?_ (by first | omega | (simp; done) | (simp; omega)) _) | (refine Below.alloc ?_ (by first | omega | (simp; done) | (simp; omega)) _) | (refine below_drewN ?_ _) | (refine Below.drew ?_) | (refine Below.trans ?_ (Below.mono hb (by first | omega | (simp; done) | (simp; omega)))) | (refine Below.trans ?_ (Below.mono hb1 (by first | omega | (simp; done) | (simp; omega)))) | (refine Below.trans ?_ (Below.mono hb2 (by first | omega | (simp; done) | (simp; omega)))) | (refine Below.trans ?_ (Below.mono hb3 (by first | omega | (simp; done) | (simp; omega)))) | (refine Below.trans ?_ (Below.mono hb4 (by first | omega | (simp; done) | (simp; omega)))) | (refine Below.trans ?_ (Below.mono hb5 (by first | omega | (simp; done) | (simp; omega)))) | (refine Below.trans ?_ (Below.mono hb6 (by first | omega | (simp; done) | (simp; omega)))) | (refine Below.trans ?_ (Below.mono hb7 (by first | omega | (simp; done) | (simp; omega)))) | (refine Below.trans ?_ (Below.mono hb8 (by first | omega | (simp; done) | (simp; omega)))) | (refine Below.trans ?_ (Below.mono hb9 (by first | omega | (simp; done) | (simp; omega)))) | (refine Below.trans ?_ (Below.mono hb10 (by first | omega | (simp; done) | (simp; omega)))) | (refine Below.trans ?_ (Below.mono hb11 (by first | omega | (simp; done) | (simp; omega)))) | (refine Below.trans ?_ (Below.mono hb12 (by first | omega | (simp; done) | (simp; omega)))))))) _ _).mono ?_
          rintro e w5 ⟨rfl, hb5⟩
          replace hb5 := Below.trans hb4 (Below.mono hb5 hb4.size)
          clear hc4 hf4
          have hz5 := hb5.size
          try simp only [World.size_alloc, World.size_drew, World.size_setCell] at hz5
          obtain ⟨hc5, hf5⟩ := bcell hb5
          go_wp2_with fail
          refine (to_in (h.below (by with_reducible (repeat (first | exact Below.refl _ _ | assumption | (refine Below.setCell ?_ (by first | omega | (simp; done) | (simp; omega)) _) | (refine Below.alloc ?_ (by first | omega | (simp; done) | (simp; omega)) _) | (refine below_drewN ?_ _) | (refine Below.drew ?_) | (refine Below.trans ?_ (Below.mono hb (by first | omega | (simp; done) | (simp; omega)))) | (refine Below.trans ?_ (Below.mono hb1 (by first | omega | (simp; done) | (simp; omega)))) | (refine Below.trans ?_ (Below.mono hb2 (by first | omega | (simp; done) | (simp; omega)))) | (refine Below.trans ?_ (Below.mono hb3 (by first | omega | (simp; done) | (simp; omega)))) | (refine Below.trans ?_ (Below.mono hb4 (by first | omega | (simp; done) | (simp; omega)))) | (refine Below.trans ?_ (Below.mono hb5 (by first | omega | (simp; done) | (simp; omega)))) | (refine Below.trans ?_ (Below.mono hb6 (by first | omega | (simp; done) | (simp; omega)))) | (refine Below.trans ?_ (Below.mono hb7 (by first | omega | (simp; done) | (simp; omega)))) | (refine Below.trans ?_ (Below.mono hb8 (by first | omega | (simp; done) | (simp; omega)))) | (refine Below.trans ?_ (Below.mono hb9 (by first | omega | (simp; done) | (simp; omega)))) | (refine Below.trans ?_ (Below.mono hb10 (by first | omega | (simp; done) | (simp; omega)))) | (refine Below.trans ?_ (Below.mono hb11 (by first | omega | (simp; done) | (simp; omega)))) | (refine Below.trans ?_ (Below.mono hb12 (by first | omega | (simp; done) | (simp; omega)))))))) _ j0 j1).mono ?_
          rintro e w7 ⟨rfl, hP, hk⟩
          go_wp2
          go_ret
          exact ⟨by rw [E.out]; rfl, by rw [E.out]; exact hP, chg_bel (by with_reducible (repeat (first | exact Below.refl _ _ | assumption | (refine Below.setCell ?_ (by first | omega | (simp; done) | (simp; omega)) _) | (refine Below.alloc ?_ (by first | omega | (simp; done) | (simp; omega)) _) | (refine below_drewN ?_ _) | (refine Below.drew ?_) | (refine Below.trans ?_ (Below.mono hb (by first | omega | (simp; done) | (simp; omega)))) | (refine Below.trans ?_ (Below.mono hb1 (by first | omega | (simp; done) | (simp; omega)))) | (refine Below.trans ?_ (Below.mono hb2 (by first | omega | (simp; done) | (simp; omega)))) | (refine Below.trans ?_ (Below.mono hb3 (by first | omega | (simp; done) | (simp; omega)))) | (refine Below.trans ?_ (Below.mono hb4 (by first | omega | (simp; done) | (simp; omega)))) | (refine Below.trans ?_ (Below.mono hb5 (by first | omega | (simp; done) | (simp; omega)))) | (refine Below.trans ?_ (Below.mono hb6 (by first | omega | (simp; done) | (simp; omega)))) | (refine Below.trans ?_ (Below.mono hb7 (by first | omega | (simp; done) | (simp; omega)))) | (refine Below.trans ?_ (Below.mono hb8 (by first | omega | (simp; done) | (simp; omega)))) | (refine Below.trans ?_ (Below.mono hb9 (by first | omega | (simp; done) | (simp; omega)))) | (refine Below.trans ?_ (Below.mono hb10 (by first | omega | (simp; done) | (simp; omega)))) | (refine Below.trans ?_ (Below.mono hb11 (by first | omega | (simp; done) | (simp; omega)))) | (refine Below.trans ?_ (Below.mono hb12 (by first | omega | (simp; done) | (simp; omega))))))) hk⟩

def Pl.on (P : Pl) : Int :=
  let a := (P.cursor + 1) % (P.cells.length : Int)
  if (P.at a).start then (if prot (P.at a).byte && nume (P.at a).byte then P.seek a 1 else (a + 1) % (P.cells.length : Int)) else a
end Go.Proofs.Ytbkddgeocmkegaa

namespace Go.Proofs.Ytbkddgeocmkegaa
open Go.RowKit
set_option linter.unusedSimpArgs false
set_option linter.unusedVariables false
set_option maxHeartbeats 800000
attribute [local go_sem ↓] run_start run_byte run_cols

theorem Pl.point_at (P : Pl) (i j : Int) : (P.point i).at j = P.at j := rfl
theorem Pl.point_len (P : Pl) (i : Int) : (P.point i).cells.length = P.cells.length := rfl
theorem Pl.point_point (P : Pl) (i j : Int) : (P.point i).point j = P.point j := rfl
theorem Pl.point_seek (P : Pl) (i a s : Int) : (P.point i).seek a s = P.seek a s := rfl

theorem On_any {w : World} {g b cap : Nat} {P : Pl} (h : PL w g b cap P) :
    Calls Try.prog 47 #[.pointer (some ⟨g, 0, none⟩)] w fun e w' => e = .returned (.int .i64 P.on) ∧ PL w' g b cap (P.point P.on) ∧ Chg (· = g) w w' := by
  obtain ⟨i0, i1⟩ := Pl.emod_range h.ok (P.cursor + 1)
  have hby := (Pl.at_ok h.ok ((P.cursor + 1) % (P.cells.length : Int))).1
  cases hS : (P.at ((P.cursor + 1) % (P.cells.length : Int))).start
  · have E := Lib.hid (show P.on = (P.cursor + 1) % (P.cells.length : Int) by unfold Pl.on; simp [hS])
    go_enter Try.func47, Try.ntmps47
    go_wp2_with fail
    refine (Cursor_any h).mono ?_
    rintro e w1 ⟨rfl, hb1⟩
    have hz1 := hb1.size
    try simp only [World.size_alloc, World.size_drew, World.size_setCell] at hz1
    obtain ⟨hc1, hf1⟩ := bcell hb1
    go_wp2_with fail
    refine (by_any (h.below hb1) _ _).mono ?_
    rintro e w2 ⟨rfl, hb2⟩
    replace hb2 := Below.trans hb1 (Below.mono hb2 hb1.size)
    clear hc1 hf1
    have hz2 := hb2.size
    try simp only [World.size_alloc, World.size_drew, World.size_setCell] at hz2
    obtain ⟨hc2, hf2⟩ := bcell hb2
    go_wp2_with fail
    refine (to_in (h.below (by with_reducible (repeat (first | exact Below.refl _ _ | assumption | (refine Below.setCell ?_ (by first | omega | (simp; done) | (simp; omega)) _) | (refine Below.alloc ?_ (by first | omega | (simp; done) | (simp; omega)) _) | (refine below_drewN ?_ _) | (refine Below.drew ?_) | (refine Below.trans ?_ (Below.mono hb (by first | omega | (simp; done) | (simp; omega)))) | (refine Below.trans ?_ (Below.mono hb1 (by first | omega | (simp; done) | (simp; omega)))) | (refine Below.trans ?_ (Below.mono hb2 (by first | omega | (simp; done) | (simp; omega)))) | (refine Below.trans ?_ (Below.mono hb3 (by first | omega | (simp; done) | (simp; omega)))) | (refine Below.trans ?_ (Below.mono hb4 (by first | omega | (simp; done) | (simp; omega)))) | (refine Below.trans ?_ (Below.mono hb5 (by first | omega | (simp; done) | (simp; omega)))) | (refine Below.trans ?_ (Below.mono hb6 (by first | omega | (simp; done) | (simp; omega)))) | (refine Below.trans ?_ (Below.mono hb7 (by first | omega | (simp; done) | (simp; omega)))) | (refine Below.trans ?_ (Below.mono hb8 (by first | omega | (simp; done) | (simp; omega)))) | (refine Below.trans ?_ (Below.mono hb9 (by first | omega | (simp; done) | (simp; omega)))) | (refine Below.trans ?_ (Below.mono hb10 (by first | omega | (simp; done) | (simp; omega)))) | (refine Below.trans ?_ (Below.mono hb11 (by first | omega | (simp; done) | (simp; omega)))) | (refine Below.trans ?_ (Below.mono hb12 (by first | omega | (simp; done) | (simp; omega)))))))) _ i0 i1).mono ?_
    rintro e w3 ⟨rfl, hP3, hk3⟩
    go_wp2_with fail
    refine (At_any hP3 _).mono ?_
    rintro e w4 ⟨rfl, hb4⟩
    have hz4 := hb4.size
    try simp only [World.size_alloc, World.size_drew, World.size_setCell] at hz4
    obtain ⟨hc4, hf4⟩ := bcell hb4
    simp only [Pl.point_at, hS] at *
    go_wp2
    go_ret
    have hB4 : Below w3.heap.size w3 w4 := hb4
    exact ⟨by rw [E.out]; rfl, by rw [E.out]; exact hP3.below (by with_reducible (repeat (first | exact Below.refl _ _ | assumption | (refine Below.setCell ?_ (by first | omega | (simp; done) | (simp; omega)) _) | (refine Below.alloc ?_ (by first | omega | (simp; done) | (simp; omega)) _) | (refine below_drewN ?_ _) | (refine Below.drew ?_) | (refine Below.trans ?_ (Below.mono hb (by first | omega | (simp; done) | (simp; omega)))) | (refine Below.trans ?_ (Below.mono hb1 (by first | omega | (simp; done) | (simp; omega)))) | (refine Below.trans ?_ (Below.mono hb2 (by first | omega | (simp; done) | (simp; omega)))) | (refine Below.trans ?_ (Below.mono hb3 (by first | omega | (simp; done) | (simp; omega)))) | (refine Below.trans ?_ (Below.mono hb4 (by first | omega | (simp; done) | (simp; omega)))) | (refine Below.trans ?_ (Below.mono hb5 (by first | omega | (simp; done) | (simp; omega)))) | (refine Below.trans ?_ (Below.mono hb6 (by first | omega | (simp; done) | (simp; omega)))) | (refine Below.trans ?_ (Below.mono hb7 (by first | omega | (simp; done) | (simp; omega)))) | (refine Below.trans ?_ (Below.mono hb8 (by first | omega | (simp; done) | (simp; omega)))) | (refine Below.trans ?_ (Below.mono hb9 (by first | omega | (simp; done) | (simp; omega)))) | (refine Below.trans ?_ (Below.mono hb10 (by first | omega | (simp; done) | (simp; omega)))) | (refine Below.trans ?_ (Below.mono hb11 (by first | omega | (simp; done) | (simp; omega)))) | (refine Below.trans ?_ (Below.mono hb12 (by first | omega | (simp; done) | (simp; omega))))))), ((chg_bel hb2 hk3).trans (Chg.of_below (by with_reducible (repeat (first | exact Below.refl _ _ | assumption | (refine Below.setCell ?_ (by first | omega | (simp; done) | (simp; omega)) _) | (refine Below.alloc ?_ (by first | omega | (simp; done) | (simp; omega)) _) | (refine below_drewN ?_ _) | (refine Below.drew ?_) | (refine Below.trans ?_ (Below.mono hb (by first | omega | (simp; done) | (simp; omega)))) | (refine Below.trans ?_ (Below.mono hb1 (by first | omega | (simp; done) | (simp; omega)))) | (refine Below.trans ?_ (Below.mono hb2 (by first | omega | (simp; done) | (simp; omega)))) | (refine Below.trans ?_ (Below.mono hb3 (by first | omega | (simp; done) | (simp; omega)))) | (refine Below.trans ?_ (Below.mono hb4 (by first | omega | (simp; done) | (simp; omega)))) | (refine Below.trans ?_ (Below.mono hb5 (by first | omega | (simp; done) | (simp; omega)))) | (refine Below.trans ?_ (Below.mono hb6 (by first | omega | (simp; done) | (simp; omega)))) | (refine Below.trans ?_ (Below.mono hb7 (by first | omega | (simp; done) | (simp; omega)))) | (refine Below.trans ?_ (Below.mono hb8 (by first | omega | (simp; done) | (simp; omega)))) | (refine Below.trans ?_ (Below.mono hb9 (by first | omega | (simp; done) | (simp; omega)))) | (refine Below.trans ?_ (Below.mono hb10 (by first | omega | (simp; done) | (simp; omega)))) | (refine Below.trans ?_ (Below.mono hb11 (by first | omega | (simp; done) | (simp; omega)))) | (refine Below.trans ?_ (Below.mono hb12 (by first | omega | (simp; done) | (simp; omega)))))))))⟩
  · cases hK : (prot (P.at ((P.cursor + 1) % (P.cells.length : Int))).byte && nume (P.at ((P.cursor + 1) % (P.cells.length : Int))).byte)
    · obtain ⟨j0, j1⟩ := Pl.emod_range h.ok (P.cursor + 1 + 1)
      have E := Lib.hid (show P.on = (P.cursor + 1 + 1) % (P.cells.length : Int) by unfold Pl.on; simp [hS, hK])
      go_enter Try.func47, Try.ntmps47
      go_wp2_with fail
      refine (Cursor_any h).mono ?_
      rintro e w1 ⟨rfl, hb1⟩
      have hz1 := hb1.size
      try simp only [World.size_alloc, World.size_drew, World.size_setCell] at hz1
      obtain ⟨hc1, hf1⟩ := bcell hb1
      go_wp2_with fail
      refine (by_any (h.below hb1) _ _).mono ?_
      rintro e w2 ⟨rfl, hb2⟩
      replace hb2 := Below.trans hb1 (Below.mono hb2 hb1.size)
      clear hc1 hf1
      have hz2 := hb2.size
      try simp only [World.size_alloc, World.size_drew, World.size_setCell] at hz2
      obtain ⟨hc2, hf2⟩ := bcell hb2
      go_wp2_with fail
      refine (to_in (h.below (by with_reducible (repeat (first | exact Below.refl _ _ | assumption | (refine Below.setCell ?_ (by first | omega | (simp; done) | (simp; omega)) _) | (refine Below.alloc ?_ (by first | omega | (simp; done) | (simp; omega)) _) | (refine below_drewN ?_ _) | (refine Below.drew ?_) | (refine Below.trans ?_ (Below.mono hb (by first | omega | (simp; done) | (simp; omega)))) | (refine Below.trans ?_ (Below.mono hb1 (by first | omega | (simp; done) | (simp; omega)))) | (refine Below.trans ?_ (Below.mono hb2 (by first | omega | (simp; done) | (simp; omega)))) | (refine Below.trans ?_ (Below.mono hb3 (by first | omega | (simp; done) | (simp; omega)))) | (refine Below.trans ?_ (Below.mono hb4 (by first | omega | (simp; done) | (simp; omega)))) | (refine Below.trans ?_ (Below.mono hb5 (by first | omega | (simp; done) | (simp; omega)))) | (refine Below.trans ?_ (Below.mono hb6 (by first | omega | (simp; done) | (simp; omega)))) | (refine Below.trans ?_ (Below.mono hb7 (by first | omega | (simp; done) | (simp; omega)))) | (refine Below.trans ?_ (Below.mono hb8 (by first | omega | (simp; done) | (simp; omega)))) | (refine Below.trans ?_ (Below.mono hb9 (by first | omega | (simp; done) | (simp; omega)))) | (refine Below.trans ?_ (Below.mono hb10 (by first | omega | (simp; done) | (simp; omega)))) | (refine Below.trans ?_ (Below.mono hb11 (by first | omega | (simp; done) | (simp; omega)))) | (refine Below.trans ?_ (Below.mono hb12 (by first | omega | (simp; done) | (simp; omega)))))))) _ i0 i1).mono ?_
      rintro e w3 ⟨rfl, hP3, hk3⟩
      go_wp2_with fail
      refine (At_any hP3 _).mono ?_
      rintro e w4 ⟨rfl, hb4⟩
      have hz4 := hb4.size
      try simp only [World.size_alloc, World.size_drew, World.size_setCell] at hz4
      obtain ⟨hc4, hf4⟩ := bcell hb4
      simp only [Pl.point_at, hS] at *
      go_wp2_with fail
      refine (Skip_any _ _ hby).mono ?_
      rintro e w5 ⟨rfl, hb5⟩
      have hz5 := hb5.size
      try simp only [World.size_alloc, World.size_drew, World.size_setCell] at hz5
      obtain ⟨hc5, hf5⟩ := bcell hb5
      go_wp2_with fail
      refine (by_any (hP3.below (by with_reducible (repeat (first | exact Below.refl _ _ | assumption | (refine Below.setCell ?_ (by first | omega | (simp; done) | (simp; omega)) _) | (refine Below.alloc ?_ (by first | omega | (simp; done) | (simp; omega)) _) | (refine below_drewN ?_ _) | (refine Below.drew ?_) | (refine Below.trans ?_ (Below.mono hb (by first | omega | (simp; done) | (simp; omega)))) | (refine Below.trans ?_ (Below.mono hb1 (by first | omega | (simp; done) | (simp; omega)))) | (refine Below.trans ?_ (Below.mono hb2 (by first | omega | (simp; done) | (simp; omega)))) | (refine Below.trans ?_ (Below.mono hb3 (by first | omega | (simp; done) | (simp; omega)))) | (refine Below.trans ?_ (Below.mono hb4 (by first | omega | (simp; done) | (simp; omega)))) | (refine Below.trans ?_ (Below.mono hb5 (by first | omega | (simp; done) | (simp; omega)))) | (refine Below.trans ?_ (Below.mono hb6 (by first | omega | (simp; done) | (simp; omega)))) | (refine Below.trans ?_ (Below.mono hb7 (by first | omega | (simp; done) | (simp; omega)))) | (refine Below.trans ?_ (Below.mono hb8 (by first | omega | (simp; done) | (simp; omega)))) | (refine Below.trans ?_ (Below.mono hb9 (by first | omega | (simp; done) | (simp; omega)))) | (refine Below.trans ?_ (Below.mono hb10 (by first | omega | (simp; done) | (simp; omega)))) | (refine Below.trans ?_ (Below.mono hb11 (by first | omega | (simp; done) | (simp; omega)))) | (refine Below.trans ?_ (Below.mono hb12 (by first | omega | (simp; done) | (simp; omega)))))))) _ _).mono ?_
      rintro e w6 ⟨rfl, hb6⟩
      replace hb6 := Below.trans hb5 (Below.mono hb6 hb5.size)
      clear hc5 hf5
      have hz6 := hb6.size
      try simp only [World.size_alloc, World.size_drew, World.size_setCell] at hz6
      obtain ⟨hc6, hf6⟩ := bcell hb6
      simp only [Pl.point_len] at *
      go_wp2_with fail
      refine (to_in (hP3.below (by with_reducible (repeat (first | exact Below.refl _ _ | assumption | (refine Below.setCell ?_ (by first | omega | (simp; done) | (simp; omega)) _) | (refine Below.alloc ?_ (by first | omega | (simp; done) | (simp; omega)) _) | (refine below_drewN ?_ _) | (refine Below.drew ?_) | (refine Below.trans ?_ (Below.mono hb (by first | omega | (simp; done) | (simp; omega)))) | (refine Below.trans ?_ (Below.mono hb1 (by first | omega | (simp; done) | (simp; omega)))) | (refine Below.trans ?_ (Below.mono hb2 (by first | omega | (simp; done) | (simp; omega)))) | (refine Below.trans ?_ (Below.mono hb3 (by first | omega | (simp; done) | (simp; omega)))) | (refine Below.trans ?_ (Below.mono hb4 (by first | omega | (simp; done) | (simp; omega)))) | (refine Below.trans ?_ (Below.mono hb5 (by first | omega | (simp; done) | (simp; omega)))) | (refine Below.trans ?_ (Below.mono hb6 (by first | omega | (simp; done) | (simp; omega)))) | (refine Below.trans ?_ (Below.mono hb7 (by first | omega | (simp; done) | (simp; omega)))) | (refine Below.trans ?_ (Below.mono hb8 (by first | omega | (simp; done) | (simp; omega)))) | (refine Below.trans ?_ (Below.mono hb9 (by first | omega | (simp; done) | (simp; omega)))) | (refine Below.trans ?_ (Below.mono hb10 (by first | omega | (simp; done) | (simp; omega)))) | (refine Below.trans ?_ (Below.mono hb11 (by first | omega | (simp; done) | (simp; omega)))) | (refine Below.trans ?_ (Below.mono hb12 (by first | omega | (simp; done) | (simp; omega)))))))) _ j0 j1).mono ?_
      rintro e w7 ⟨rfl, hP7, hk7⟩
      go_wp2
      go_ret
      exact ⟨by rw [E.out]; rfl, by rw [E.out]; exact hP7, ((chg_bel hb2 hk3).trans (chg_bel (by with_reducible (repeat (first | exact Below.refl _ _ | assumption | (refine Below.setCell ?_ (by first | omega | (simp; done) | (simp; omega)) _) | (refine Below.alloc ?_ (by first | omega | (simp; done) | (simp; omega)) _) | (refine below_drewN ?_ _) | (refine Below.drew ?_) | (refine Below.trans ?_ (Below.mono hb (by first | omega | (simp; done) | (simp; omega)))) | (refine Below.trans ?_ (Below.mono hb1 (by first | omega | (simp; done) | (simp; omega)))) | (refine Below.trans ?_ (Below.mono hb2 (by first | omega | (simp; done) | (simp; omega)))) | (refine Below.trans ?_ (Below.mono hb3 (by first | omega | (simp; done) | (simp; omega)))) | (refine Below.trans ?_ (Below.mono hb4 (by first | omega | (simp; done) | (simp; omega)))) | (refine Below.trans ?_ (Below.mono hb5 (by first | omega | (simp; done) | (simp; omega)))) | (refine Below.trans ?_ (Below.mono hb6 (by first | omega | (simp; done) | (simp; omega)))) | (refine Below.trans ?_ (Below.mono hb7 (by first | omega | (simp; done) | (simp; omega)))) | (refine Below.trans ?_ (Below.mono hb8 (by first | omega | (simp; done) | (simp; omega)))) | (refine Below.trans ?_ (Below.mono hb9 (by first | omega | (simp; done) | (simp; omega)))) | (refine Below.trans ?_ (Below.mono hb10 (by first | omega | (simp; done) | (simp; omega)))) | (refine Below.trans ?_ (Below.mono hb11 (by first | omega | (simp; done) | (simp; omega)))) | (refine Below.trans ?_ (Below.mono hb12 (by first | omega | (simp; done) | (simp; omega))))))) hk7))⟩
    · obtain ⟨j0, j1⟩ := Pl.seek_range h.ok ((P.cursor + 1) % (P.cells.length : Int)) 1
      have E := Lib.hid (show P.on = P.seek ((P.cursor + 1) % (P.cells.length : Int)) 1 by unfold Pl.on; simp [hS, hK])
      go_enter Try.func47, Try.ntmps47
      go_wp2_with fail
      refine (Cursor_any h).mono ?_
      rintro e w1 ⟨rfl, hb1⟩
      have hz1 := hb1.size
      try simp only [World.size_alloc, World.size_drew, World.size_setCell] at hz1
      obtain ⟨hc1, hf1⟩ := bcell hb1
      go_wp2_with fail
      refine (by_any (h.below hb1) _ _).mono ?_
      rintro e w2 ⟨rfl, hb2⟩
      replace hb2 := Below.trans hb1 (Below.mono hb2 hb1.size)
      clear hc1 hf1
      have hz2 := hb2.size
      try simp only [World.size_alloc, World.size_drew, World.size_setCell] at hz2
      obtain ⟨hc2, hf2⟩ := bcell hb2
      go_wp2_with fail
      refine (to_in (h.below (by with_reducible (repeat (first | exact Below.refl _ _ | assumption | (refine Below.setCell ?_ (by first | omega | (simp; done) | (simp; omega)) _) | (refine Below.alloc ?_ (by first | omega | (simp; done) | (simp; omega)) _) | (refine below_drewN ?_ _) | (refine Below.drew ?_) | (refine Below.trans ?_ (Below.mono hb (by first | omega | (simp; done) | (simp; omega)))) | (refine Below.trans ?_ (Below.mono hb1 (by first | omega | (simp; done) | (simp; omega)))) | (refine Below.trans ?_ (Below.mono hb2 (by first | omega | (simp; done) | (simp; omega)))) | (refine Below.trans ?_ (Below.mono hb3 (by first | omega | (simp; done) | (simp; omega)))) | (refine Below.trans ?_ (Below.mono hb4 (by first | omega | (simp; done) | (simp; omega)))) | (refine Below.trans ?_ (Below.mono hb5 (by first | omega | (simp; done) | (simp; omega)))) | (refine Below.trans ?_ (Below.mono hb6 (by first | omega | (simp; done) | (simp; omega)))) | (refine Below.trans ?_ (Below.mono hb7 (by first | omega | (simp; done) | (simp; omega)))) | (refine Below.trans ?_ (Below.mono hb8 (by first | omega | (simp; done) | (simp; omega)))) | (refine Below.trans ?_ (Below.mono hb9 (by first | omega | (simp; done) | (simp; omega)))) | (refine Below.trans ?_ (Below.mono hb10 (by first | omega | (simp; done) | (simp; omega)))) | (refine Below.trans ?_ (Below.mono hb11 (by first | omega | (simp; done) | (simp; omega)))) | (refine Below.trans ?_ (Below.mono hb12 (by first | omega | (simp; done) | (simp; omega)))))))) _ i0 i1).mono ?_
      rintro e w3 ⟨rfl, hP3, hk3⟩
      go_wp2_with fail
      refine (At_any hP3 _).mono ?_
      rintro e w4 ⟨rfl, hb4⟩
      have hz4 := hb4.size
      try simp only [World.size_alloc, World.size_drew, World.size_setCell] at hz4
      obtain ⟨hc4, hf4⟩ := bcell hb4
      simp only [Pl.point_at, hS] at *
      go_wp2_with fail
      refine (Skip_any _ _ hby).mono ?_
      rintro e w5 ⟨rfl, hb5⟩
      have hz5 := hb5.size
      try simp only [World.size_alloc, World.size_drew, World.size_setCell] at hz5
      obtain ⟨hc5, hf5⟩ := bcell hb5
      go_wp2_with fail
      refine (Tab_any (hP3.below (by with_reducible (repeat (first | exact Below.refl _ _ | assumption | (refine Below.setCell ?_ (by first | omega | (simp; done) | (simp; omega)) _) | (refine Below.alloc ?_ (by first | omega | (simp; done) | (simp; omega)) _) | (refine below_drewN ?_ _) | (refine Below.drew ?_) | (refine Below.trans ?_ (Below.mono hb (by first | omega | (simp; done) | (simp; omega)))) | (refine Below.trans ?_ (Below.mono hb1 (by first | omega | (simp; done) | (simp; omega)))) | (refine Below.trans ?_ (Below.mono hb2 (by first | omega | (simp; done) | (simp; omega)))) | (refine Below.trans ?_ (Below.mono hb3 (by first | omega | (simp; done) | (simp; omega)))) | (refine Below.trans ?_ (Below.mono hb4 (by first | omega | (simp; done) | (simp; omega)))) | (refine Below.trans ?_ (Below.mono hb5 (by first | omega | (simp; done) | (simp; omega)))) | (refine Below.trans ?_ (Below.mono hb6 (by first | omega | (simp; done) | (simp; omega)))) | (refine Below.trans ?_ (Below.mono hb7 (by first | omega | (simp; done) | (simp; omega)))) | (refine Below.trans ?_ (Below.mono hb8 (by first | omega | (simp; done) | (simp; omega)))) | (refine Below.trans ?_ (Below.mono hb9 (by first | omega | (simp; done) | (simp; omega)))) | (refine Below.trans ?_ (Below.mono hb10 (by first | omega | (simp; done) | (simp; omega)))) | (refine Below.trans ?_ (Below.mono hb11 (by first | omega | (simp; done) | (simp; omega)))) | (refine Below.trans ?_ (Below.mono hb12 (by first | omega | (simp; done) | (simp; omega))))))))).mono ?_
      rintro e w7 ⟨rfl, hP7, hk7⟩
      go_wp2
      go_ret
      exact ⟨by rw [E.out]; rfl, by rw [E.out]; exact hP7, ((chg_bel hb2 hk3).trans (chg_bel (by with_reducible (repeat (first | exact Below.refl _ _ | assumption | (refine Below.setCell ?_ (by first | omega | (simp; done) | (simp; omega)) _) | (refine Below.alloc ?_ (by first | omega | (simp; done) | (simp; omega)) _) | (refine below_drewN ?_ _) | (refine Below.drew ?_) | (refine Below.trans ?_ (Below.mono hb (by first | omega | (simp; done) | (simp; omega)))) | (refine Below.trans ?_ (Below.mono hb1 (by first | omega | (simp; done) | (simp; omega)))) | (refine Below.trans ?_ (Below.mono hb2 (by first | omega | (simp; done) | (simp; omega)))) | (refine Below.trans ?_ (Below.mono hb3 (by first | omega | (simp; done) | (simp; omega)))) | (refine Below.trans ?_ (Below.mono hb4 (by first | omega | (simp; done) | (simp; omega)))) | (refine Below.trans ?_ (Below.mono hb5 (by first | omega | (simp; done) | (simp; omega)))) | (refine Below.trans ?_ (Below.mono hb6 (by first | omega | (simp; done) | (simp; omega)))) | (refine Below.trans ?_ (Below.mono hb7 (by first | omega | (simp; done) | (simp; omega)))) | (refine Below.trans ?_ (Below.mono hb8 (by first | omega | (simp; done) | (simp; omega)))) | (refine Below.trans ?_ (Below.mono hb9 (by first | omega | (simp; done) | (simp; omega)))) | (refine Below.trans ?_ (Below.mono hb10 (by first | omega | (simp; done) | (simp; omega)))) | (refine Below.trans ?_ (Below.mono hb11 (by first | omega | (simp; done) | (simp; omega)))) | (refine Below.trans ?_ (Below.mono hb12 (by first | omega | (simp; done) | (simp; omega))))))) hk7))⟩

def Pl.newline (P : Pl) : Int :=
  match srch P.cells.length (fun i => P.openAt (((P.cursor / P.cols + 1) * P.cols + (i : Int)) % (P.cells.length : Int))) with
  | some i => ((P.cursor / P.cols + 1) * P.cols + (i : Int)) % (P.cells.length : Int)
  | none => 0

set_option maxRecDepth 100000 in
theorem Newline_any {w : World} {g b cap : Nat} {P : Pl} (h : PL w g b cap P) :
    Calls Try.prog 45 #[.pointer (some ⟨g, 0, none⟩)] w fun e w' => e = .returned (.int .i64 P.newline) ∧ PL w' g b cap (P.point P.newline) ∧ Chg (· = g) w w' := by
  have hok := h.ok
  have hn := Pl.N_pos h.ok
  have hm := Pl.N_le h.ok
  have c1 := h.ok.c1
  have c2 := h.ok.c2
  have q0 : 0 ≤ P.cursor / P.cols := Int.ediv_nonneg h.ok.k1 (by omega)
  have q1 : P.cursor / P.cols < P.rows := Int.ediv_lt_of_lt_mul (by omega) h.ok.k2
  have hr2 := h.ok.r2
  have m0 : 0 ≤ (P.cursor / P.cols + 1) * P.cols := Int.mul_nonneg (by omega) (by omega)
  have m1 : (P.cursor / P.cols + 1) * P.cols ≤ P.rows * P.cols := Int.mul_le_mul_of_nonneg_right (by omega) (by omega)
  have m2 := h.ok.n2
  go_enter Try.func45, Try.ntmps45
  go_wp2_with fail
  refine (Size_any h).mono ?_
  rintro e w1 ⟨rfl, hb1⟩
  have hz1 := hb1.size
  try simp only [World.size_alloc, World.size_drew, World.size_setCell] at hz1
  obtain ⟨hc1, hf1⟩ := bcell hb1
  go_wp2_with fail
  refine (Cursor_any (h.below hb1)).mono ?_
  rintro e w2 ⟨rfl, hb2⟩
  replace hb2 := Below.trans hb1 (Below.mono hb2 hb1.size)
  clear hc1 hf1
  have hz2 := hb2.size
  try simp only [World.size_alloc, World.size_drew, World.size_setCell] at hz2
  obtain ⟨hc2, hf2⟩ := bcell hb2
  go_wp2_with fail
  refine (Split_in _ _ _ _ h.ok.r1 h.ok.r2 h.ok.c1 h.ok.c2 h.ok.n2 h.ok.k1 h.ok.k2).mono ?_
  rintro e w3 ⟨rfl, hb3⟩
  replace hb3 := Below.trans hb2 (Below.mono hb3 hb2.size)
  clear hc2 hf2
  have hz3 := hb3.size
  try simp only [World.size_alloc, World.size_drew, World.size_setCell] at hz3
  obtain ⟨hc3, hf3⟩ := bcell hb3
  go_wp2_with fail
  refine (Size_any (h.below hb3)).mono ?_
  rintro e w4 ⟨rfl, hb4⟩
  replace hb4 := Below.trans hb3 (Below.mono hb4 hb3.size)
  clear hc3 hf3
  have hz4 := hb4.size
  try simp only [World.size_alloc, World.size_drew, World.size_setCell] at hz4
  obtain ⟨hc4, hf4⟩ := bcell hb4
  go_wp2_with fail
  refine (by_any (h.below hb4) _ _).mono ?_
  rintro e w5 ⟨rfl, hb5⟩
  replace hb5 := Below.trans hb4 (Below.mono hb5 hb4.size)
  clear hc4 hf4
  have hz5 := hb5.size
  try simp only [World.size_alloc, World.size_drew, World.size_setCell] at hz5
  obtain ⟨hc5, hf5⟩ := bcell hb5
  go_wp2_with fail
  refine (Len_any (h.below hb5)).mono ?_
  rintro e w6 ⟨rfl, hb6⟩
  replace hb6 := Below.trans hb5 (Below.mono hb6 hb5.size)
  clear hc5 hf5
  have hz6 := hb6.size
  try simp only [World.size_alloc, World.size_drew, World.size_setCell] at hz6
  obtain ⟨hc6, hf6⟩ := bcell hb6
  have hB6 := hb6
  clear hc6 hf6 hb6
  go_wp2
  go_loopw [28] (fun i wr => ∃ k : Nat, k ≤ P.cells.length ∧ i = .int .i64 (k : Int) ∧ Below w.heap.size w wr ∧ ∀ j, j < k → P.openAt (((P.cursor / P.cols + 1) * P.cols + (j : Int)) % (P.cells.length : Int)) = false) (fun i _ => P.cells.length - (intOf i).toNat)
  case atStart => exact ⟨0, Nat.zero_le _, rfl, hB6, fun j hj => absurd hj (Nat.not_lt_zero _)⟩
  case round =>
    obtain ⟨k, hk, rfl, hB, hf⟩ := hrel
    have HF := Lib.hid hf
    clear hf
    have hzB := hB.size
    by_cases hlt : k < P.cells.length
    · go_wp2_with fail
      refine (by_any (h.below hB) _ _).mono ?_
      rintro e w7 ⟨rfl, hb7⟩
      have hz7 := hb7.size
      try simp only [World.size_alloc, World.size_drew, World.size_setCell] at hz7
      obtain ⟨hc7, hf7⟩ := bcell hb7
      go_wp2_with fail
      refine (Open_any (h.below (by with_reducible (repeat (first | exact Below.refl _ _ | assumption | (refine Below.setCell ?_ (by first | omega | (simp; done) | (simp; omega)) _) | (refine Below.alloc ?_ (by first | omega | (simp; done) | (simp; omega)) _) | (refine below_drewN ?_ _) | (refine Below.drew ?_) | (refine Below.trans ?_ (Below.mono hb (by first | omega | (simp; done) | (simp; omega)))) | (refine Below.trans ?_ (Below.mono hb1 (by first | omega | (simp; done) | (simp; omega)))) | (refine Below.trans ?_ (Below.mono hb2 (by first | omega | (simp; done) | (simp; omega)))) | (refine Below.trans ?_ (Below.mono hb3 (by first | omega | (simp; done) | (simp; omega)))) | (refine Below.trans ?_ (Below.mono hb4 (by first | omega | (simp; done) | (simp; omega)))) | (refine Below.trans ?_ (Below.mono hb5 (by first | omega | (simp; done) | (simp; omega)))) | (refine Below.trans ?_ (Below.mono hb6 (by first | omega | (simp; done) | (simp; omega)))) | (refine Below.trans ?_ (Below.mono hb7 (by first | omega | (simp; done) | (simp; omega)))) | (refine Below.trans ?_ (Below.mono hb8 (by first | omega | (simp; done) | (simp; omega)))) | (refine Below.trans ?_ (Below.mono hb9 (by first | omega | (simp; done) | (simp; omega)))) | (refine Below.trans ?_ (Below.mono hb10 (by first | omega | (simp; done) | (simp; omega)))) | (refine Below.trans ?_ (Below.mono hb11 (by first | omega | (simp; done) | (simp; omega)))) | (refine Below.trans ?_ (Below.mono hb12 (by first | omega | (simp; done) | (simp; omega)))))))) _).mono ?_
      rintro e w8 ⟨rfl, hb8⟩
      replace hb8 := Below.trans hb7 (Below.mono hb8 hb7.size)
      clear hc7 hf7
      have hz8 := hb8.size
      try simp only [World.size_alloc, World.size_drew, World.size_setCell] at hz8
      obtain ⟨hc8, hf8⟩ := bcell hb8
      have hB8 : Below w.heap.size w w8 := by with_reducible (repeat (first | exact Below.refl _ _ | assumption | (refine Below.setCell ?_ (by first | omega | (simp; done) | (simp; omega)) _) | (refine Below.alloc ?_ (by first | omega | (simp; done) | (simp; omega)) _) | (refine below_drewN ?_ _) | (refine Below.drew ?_) | (refine Below.trans ?_ (Below.mono hb (by first | omega | (simp; done) | (simp; omega)))) | (refine Below.trans ?_ (Below.mono hb1 (by first | omega | (simp; done) | (simp; omega)))) | (refine Below.trans ?_ (Below.mono hb2 (by first | omega | (simp; done) | (simp; omega)))) | (refine Below.trans ?_ (Below.mono hb3 (by first | omega | (simp; done) | (simp; omega)))) | (refine Below.trans ?_ (Below.mono hb4 (by first | omega | (simp; done) | (simp; omega)))) | (refine Below.trans ?_ (Below.mono hb5 (by first | omega | (simp; done) | (simp; omega)))) | (refine Below.trans ?_ (Below.mono hb6 (by first | omega | (simp; done) | (simp; omega)))) | (refine Below.trans ?_ (Below.mono hb7 (by first | omega | (simp; done) | (simp; omega)))) | (refine Below.trans ?_ (Below.mono hb8 (by first | omega | (simp; done) | (simp; omega)))) | (refine Below.trans ?_ (Below.mono hb9 (by first | omega | (simp; done) | (simp; omega)))) | (refine Below.trans ?_ (Below.mono hb10 (by first | omega | (simp; done) | (simp; omega)))) | (refine Below.trans ?_ (Below.mono hb11 (by first | omega | (simp; done) | (simp; omega)))) | (refine Below.trans ?_ (Below.mono hb12 (by first | omega | (simp; done) | (simp; omega))))))
      clear hc8 hf8
      cases hst : P.openAt (((P.cursor / P.cols + 1) * P.cols + (k : Int)) % (P.cells.length : Int))
      · go_wp2
        go_roundw
        case rel => exact ⟨k + 1, by omega, by go_num, hB8, fun j hj => by rcases Nat.lt_succ_iff_lt_or_eq.1 hj with hj | rfl; exact HF.out j hj; exact hst⟩
        case measure => simp [intOf]; omega
      · obtain ⟨i0, i1⟩ := Pl.emod_range hok ((P.cursor / P.cols + 1) * P.cols + (k : Int))
        have HS := Lib.hid hst
        have E := Lib.hid (show P.newline = ((P.cursor / P.cols + 1) * P.cols + (k : Int)) % (P.cells.length : Int) by unfold Pl.newline; rw [srch_some hlt hst HF.out])
        go_wp2_with fail
        refine (to_in (h.below hB8) _ i0 i1).mono ?_
        rintro e w9 ⟨rfl, hP9, hk9⟩
        clear hst
        go_wp2
        go_ret
        exact ⟨by rw [E.out]; rfl, by rw [E.out]; exact hP9, chg_bel hB8 hk9⟩
    · have E := Lib.hid (show P.newline = 0 by unfold Pl.newline; rw [srch_none (fun j hj => HF.out j (by omega))])
      go_wp2_with fail
      refine (to_in (h.below hB) _ (Int.le_refl 0) (by omega)).mono ?_
      rintro e w9 ⟨rfl, hP9, hk9⟩
      go_wp2
      go_ret
      exact ⟨by rw [E.out]; rfl, by rw [E.out]; exact hP9, chg_bel hB hk9⟩
end Go.Proofs.Ytbkddgeocmkegaa

/-! A range over a function whose values are a known row: one law for the caller, one form of the iterator's contract. -/
namespace Go.Proofs.Ytbkddgeocmkegaa
open Go.RowKit Go.Shelf

/-- What new blocks, and turns of blocks from B on that are no cells, leave. -/
structure Aux (B : Nat) (W W' : World) : Prop where
  os : W'.os = W.os
  tape : W'.tape = W.tape
  output : W'.output = W.output
  size : W.heap.size ≤ W'.heap.size
  block : ∀ k, k < W.heap.size → (k < B ∨ ∃ o, W.heap[k]? = some o ∧ o.isCells = true) → W'.heap[k]? = W.heap[k]?
theorem Aux.of_below {B : Nat} {W W' : World} (h : Below W.heap.size W W') : Aux B W W' := ⟨h.os, h.tape, h.output, h.size, fun k hk _ => h.block k hk⟩
theorem Aux.put {B : Nat} {W : World} {l : Nat} {o : Obj} (o' : Obj) (hB : B ≤ l) (hl : W.heap[l]? = some o) (ho : o.isCells = false) : Aux B W (W.putObj l o') :=
  ⟨rfl, rfl, rfl, by simp, fun k _ h => World.putObj_heap_other (fun e => by
    subst e
    rcases h with h | ⟨p, hp, hc⟩
    · omega
    · rw [hl] at hp; cases hp; rw [ho] at hc; cases hc)⟩
theorem Aux.cell {B : Nat} {W W' : World} (h : Aux B W W') {a : Addr} {v : Value} (hc : W.cell? a = some v) : W'.cell? a = some v := by
  have hlt := World.block_lt_of_cell? W a hc
  refine (World.cell?_of_block (w := W) (h.block a.block hlt (.inr ?_))).trans hc
  refine ⟨W.heap[a.block], Array.getElem?_eq_getElem hlt, ?_⟩
  unfold World.cell? at hc
  rw [Array.getElem?_eq_getElem hlt] at hc
  revert hc
  generalize W.heap[a.block] = o
  cases o <;> simp [Obj.isCells]
theorem Aux.cells {B : Nat} {W W' : World} (h : Aux B W W') {g : Nat} {c : Array Value} {T : TypeId} {z : Nat × Nat} (hg : W.heap[g]? = some (.cells c T z)) : W'.heap[g]? = some (.cells c T z) :=
  (h.block g (Array.getElem?_eq_some_iff.1 hg).1 (.inr ⟨_, hg, rfl⟩)).trans hg
theorem Aux.frozen {B : Nat} {W W' : World} (h : Aux B W W') {a : Addr} {v : Value} (hc : W.cell? a = some v) : W'.frozen? a = W.frozen? a := by
  have hlt := World.block_lt_of_cell? W a hc
  refine World.frozen?_of_block (w := W) (h.block a.block hlt (.inr ?_))
  refine ⟨W.heap[a.block], Array.getElem?_eq_getElem hlt, ?_⟩
  unfold World.cell? at hc
  rw [Array.getElem?_eq_getElem hlt] at hc
  revert hc
  generalize W.heap[a.block] = o
  cases o <;> simp [Obj.isCells]
theorem Aux.below {B n : Nat} {w W W' : World} (hb : Below n w W) (hn : n ≤ B) (hs : n ≤ w.heap.size) (h : Aux B W W') : Below n w W' :=
  ⟨h.os.trans hb.os, h.tape.trans hb.tape, h.output.trans hb.output, Nat.le_trans hb.size h.size, fun k hk => (h.block k (by have := hb.size; omega) (.inl (by omega))).trans (hb.block k hk)⟩

/-- THE ITERATOR's CONTRACT: it yields the row L. Rd k W: what it reads in W, k of them having come. -/
def SeqL (P : Program) (g : Nat) (lb : Array Value) (L : List (Array Value)) (Rd : Nat → World → Prop) : Prop :=
  ∀ (l : Nat) (J Jx : Nat → World → Prop) (W : World), (∀ k W, J k W → Rd k W) → (∀ k W W', J k W → Below W.heap.size W W' → J k W') → (∀ k W W', Jx k W → Below W.heap.size W W' → Jx k W') →
    (∀ k W1 (hk : k < L.length), J k W1 → YieldAt Fence.wide 0 P l L[k] W1 fun e W' =>
      (e = .returned (.bool true) ∧ J (k + 1) W') ∨ (e = .returned (.bool false) ∧ Jx (k + 1) W')) →
    J 0 W →
    CallsIn Fence.wide 0 P g (#[.func (.yield l) #[] #[]] ++ lb) W fun e W' => (∃ v, e = .returned v) ∧ (J L.length W' ∨ ∃ k, k ≤ L.length ∧ Jx k W')

/-- How the body of a round may be left. -/
def ownPostL (B : Nat) (I : Nat → World → Prop) (Ix : Code → Nat → World → Prop) (k : Nat) (W : World) : Exit → Act → World → Prop
  | .normal, _, W' => KeepsFrom B W W' ∧ I k W'
  | .ret, _, W' => KeepsFrom B W W' ∧ Ix .ret k W'
  | .exit id, _, W' => KeepsFrom B W W' ∧ Ix (.exit id) k W'
  | .goto t, _, W' => KeepsFrom B W W' ∧ Ix (.goto t) k W'
  | .panic _, _, _ => False
  | .outgrown, _, _ => False

variable {P : Program}
theorem wpIn_rangeL {g : Operand} {ps : Array Tmp} {assign body : Code} {Q : Exit → Act → World → Prop} {a : Act} {w : World}
    {gf : Nat} {lb : Array Value} (hg : a.eval g = .func (.func gf) #[] lb) (eg : ∀ args w, (callFunc gf args).run P w = .ok (.enter gf args) w)
    {L : List (Array Value)} {Rd : Nat → World → Prop} (hseq : SeqL P gf lb L Rd) (hps : ∀ v ∈ L, v.size = ps.size)
    (I : Nat → World → Prop) (Ix : Code → Nat → World → Prop) (M : Nat → Act → World → Prop)
    (hR : ∀ k W, I k W → Rd k W)
    (hI : ∀ k W W', I k W → Aux w.heap.size W W' → I k W') (hIx : ∀ c k W W', Ix c k W → Aux w.heap.size W W' → Ix c k W')
    (hM : ∀ k a W W', M k a W → Aux w.heap.size W W' → M k a W') (h0 : I 0 w)
    (hassign : ∀ (l k : Nat) (W : World) (hk : k < L.length), I k W →
      assign.wpIn (Fence.wide.inRound l) 0 P (Exit.then (fun a1 W1 => M k a1 W1 ∧ KeepsFrom w.heap.size W W1) (fun _ _ _ => False)) { tmps := (ps.zip L[k]).foldl (fun t (p, v) => t.setIfInBounds p v) a.tmps, defers := [] } W)
    (hbody : ∀ (l k : Nat) (a1 : Act) (W : World), k < L.length → M k a1 W → body.wpIn (Fence.wide.inRound l) 0 P (ownPostL w.heap.size I Ix (k + 1) W) a1 W)
    (hdone : ∀ (D : Nat) (W : World), w.heap.size ≤ D → I L.length W → W.heap[D]? = some (.deferred (some [])) → Q .normal { a with defers := { target := .collected D, args := #[] } :: a.defers } W)
    (hstop : ∀ (D : Nat) (c : Code) (k : Nat) (W : World), w.heap.size ≤ D → k ≤ L.length → Ix c k W → W.heap[D]? = some (.deferred (some [])) → c.wpIn Fence.wide 0 P Q { a with defers := { target := .collected D, args := #[] } :: a.defers } W) :
    (Code.rangeFunc g ps assign body).wpIn Fence.wide 0 P Q a w := by
  refine wpIn_rangeFunc ?_
  intro fn hfn
  obtain ⟨rec, hrec⟩ : ∃ rec : LoopState → Option Code → Loop, rec = fun st pe => { state := st, pending := pe, fn, tmps := a.tmps, params := ps, assign, body, defers := w.heap.size } := ⟨_, rfl⟩
  obtain ⟨W1, hW1⟩ : ∃ W1, (w.alloc (.deferred (some []))).alloc (.loop (rec .ready none)) = W1 := ⟨_, rfl⟩
  have hL1 : W1.heap[w.heap.size + 1]? = some (.loop (rec .ready none)) := by
    rw [← hW1]; have := World.alloc_heap_new (w.alloc (.deferred (some []))) (.loop (rec .ready none)); rwa [World.size_alloc] at this
  have hK1 : W1.heap[w.heap.size]? = some (.deferred (some [])) := by
    rw [← hW1]; exact (Below.heap_alloc _ _ _ (by simp)).trans (World.alloc_heap_new w _)
  have hb1 : Below w.heap.size w W1 := by
    rw [← hW1]; exact (((Below.refl _ w).alloc (Nat.le_refl _) _).alloc (by simp) _)
  have hI1 : I 0 W1 := hI _ _ _ h0 (.of_below hb1)
  refine ⟨w.heap.size + 1, [{ target := .collected w.heap.size, args := #[] }], W1, { target := .fn (.func gf) lb, args := #[.func (.yield (w.heap.size + 1)) #[] #[]] }, W1, gf,
    #[.func (.yield (w.heap.size + 1)) #[] #[]] ++ lb, W1, ?_, ?_, ?_, ?_, fun h => by simp [Fence.wide] at h, ?_⟩
  · rw [← hW1, hrec]; exact run_enterLoop_outer _ _ _ _ _
  · simp only [resolve, hg]
    simp [go_sem]
  · intro f' hf'; trivial
  · simp [invoke, go_sem, eg]
  · have hge : ∀ {k : Nat} {o : Obj} {A C : World}, A.heap[k]? = some o → Below A.heap.size A C → C.heap[k]? = some o := fun hk hb => (hb.block _ (Array.getElem?_eq_some_iff.1 hk).1).trans hk
    refine (hseq (w.heap.size + 1)
      (fun k W => I k W ∧ W.heap[w.heap.size + 1]? = some (.loop (rec .ready none)) ∧ W.heap[w.heap.size]? = some (.deferred (some [])))
      (fun k W => ∃ c, Ix c k W ∧ W.heap[w.heap.size + 1]? = some (.loop (rec .done (some c))) ∧ W.heap[w.heap.size]? = some (.deferred (some [])))
      W1 (fun k W h => hR k W h.1)
      (fun k A C h hb => ⟨hI _ _ _ h.1 (.of_below hb), hge h.2.1 hb, hge h.2.2 hb⟩)
      (fun k A C ⟨c, h⟩ hb => ⟨c, hIx _ _ _ _ h.1 (.of_below hb), hge h.2.1 hb, hge h.2.2 hb⟩)
      ?_ ⟨hI1, hL1, hK1⟩).mono ?_
    · -- one round
      rintro k W hk ⟨hi, hl, hdf⟩
      have hlt : w.heap.size + 1 < W.heap.size := (Array.getElem?_eq_some_iff.1 hl).1
      have hy := run_yield (P := P) (args := L[k]) hl (by rw [hrec]; exact hps _ (List.getElem_mem _))
      rw [hrec] at hy
      refine ⟨fn, _, assign, body, hy, roundIn_of_wpIn hfn (wpIn_mono (hassign _ k W hk hi) ?_)⟩
      rintro e a1 Wa hp
      cases e with
      | normal =>
        obtain ⟨hm, hka⟩ := hp
        have hla := hka.same _ _ (by omega) hl rfl
        have hda := hka.same _ _ (Nat.le_refl _) hdf rfl
        have hlta : w.heap.size + 1 < Wa.heap.size := (Array.getElem?_eq_some_iff.1 hla).1
        refine ⟨_, run_beginRound hla (by rw [hrec]), ?_⟩
        have hl2 : (Wa.putObj (w.heap.size + 1) (.loop { rec .ready none with state := .busy })).heap[w.heap.size + 1]? = some (.loop { rec .ready none with state := .busy }) := World.putObj_heap_same hlta
        have hk2 : (Wa.putObj (w.heap.size + 1) (.loop { rec .ready none with state := .busy })).heap[w.heap.size]? = some (.deferred (some [])) := (World.putObj_heap_other (by omega)).trans hda
        refine wpIn_mono (hbody (w.heap.size + 1) k a1 _ hk (hM _ _ _ _ hm (Aux.put _ (by omega) hla rfl))) ?_
        have fin : ∀ (jump : Option Code) (W3 : World), KeepsFrom w.heap.size (Wa.putObj (w.heap.size + 1) (.loop { rec .ready none with state := .busy })) W3 →
            (Instr.endRound (w.heap.size + 1) jump).run P W3 = .ok (.bool jump.isNone) (W3.putObj (w.heap.size + 1) (.loop (rec (if jump.isNone then .ready else .done) jump))) ∧
            W3.heap[w.heap.size + 1]? = some (.loop { rec .ready none with state := .busy }) ∧
            (W3.putObj (w.heap.size + 1) (.loop (rec (if jump.isNone then .ready else .done) jump))).heap[w.heap.size + 1]? = some (.loop (rec (if jump.isNone then .ready else .done) jump)) ∧
            (W3.putObj (w.heap.size + 1) (.loop (rec (if jump.isNone then .ready else .done) jump))).heap[w.heap.size]? = some (.deferred (some [])) := fun jump W3 hk3 => by
          have hl3 := hk3.same _ _ (by omega) hl2 rfl
          have := run_endRound (P := P) jump hl3
          rw [hrec] at this ⊢
          exact ⟨this, by rw [hrec] at hl3; exact hl3, World.putObj_heap_same (Array.getElem?_eq_some_iff.1 hl3).1, (World.putObj_heap_other (by omega)).trans (hk3.same _ _ (Nat.le_refl _) hk2 rfl)⟩
        rintro e a3 W3 hp
        cases e with
        | normal =>
          obtain ⟨hk3, hi3⟩ := hp
          obtain ⟨hr, hl3, hl4, hk4⟩ := fin none W3 hk3
          exact ⟨_, _, hr, .inl ⟨rfl, hI _ _ _ hi3 (Aux.put _ (by omega) hl3 rfl), hl4, hk4⟩⟩
        | ret =>
          obtain ⟨hk3, hi3⟩ := hp
          obtain ⟨hr, hl3, hl4, hk4⟩ := fin (some .ret) W3 hk3
          exact ⟨_, _, hr, .inr ⟨rfl, .ret, hIx _ _ _ _ hi3 (Aux.put _ (by omega) hl3 rfl), hl4, hk4⟩⟩
        | exit id =>
          obtain ⟨hk3, hi3⟩ := hp
          obtain ⟨hr, hl3, hl4, hk4⟩ := fin (some (.exit id)) W3 hk3
          exact ⟨_, _, hr, .inr ⟨rfl, .exit id, hIx _ _ _ _ hi3 (Aux.put _ (by omega) hl3 rfl), hl4, hk4⟩⟩
        | goto t =>
          obtain ⟨hk3, hi3⟩ := hp
          obtain ⟨hr, hl3, hl4, hk4⟩ := fin (some (.goto t)) W3 hk3
          exact ⟨_, _, hr, .inr ⟨rfl, .goto t, hIx _ _ _ _ hi3 (Aux.put _ (by omega) hl3 rfl), hl4, hk4⟩⟩
        | panic ch => exact hp.elim
        | outgrown => exact hp.elim
      | ret => exact hp.elim
      | exit id => exact hp.elim
      | goto t => exact hp.elim
      | panic ch => exact hp.elim
      | outgrown => exact hp.elim
    · rintro e W2 ⟨⟨v, rfl⟩, (⟨hi, hl, hk⟩ | ⟨k, hkl, c, hi, hl, hk⟩)⟩
      · exact ⟨none, _, by have := run_endLoop (P := P) hl (by rw [hrec]; simp); rw [hrec] at this; exact this, hdone _ _ (Nat.le_refl _) (hI _ _ _ hi (Aux.put _ (by omega) hl rfl)) ((World.putObj_heap_other (by omega)).trans hk)⟩
      · exact ⟨some c, _, by have := run_endLoop (P := P) hl (by rw [hrec]; simp); rw [hrec] at this; exact this, hstop _ c k _ (Nat.le_refl _) hkl (hIx _ _ _ _ hi (Aux.put _ (by omega) hl rfl)) ((World.putObj_heap_other (by omega)).trans hk)⟩
end Go.Proofs.Ytbkddgeocmkegaa

namespace Go.Proofs.Ytbkddgeocmkegaa
open Go.RowKit Go.Shelf
set_option linter.unusedSimpArgs false
set_option linter.unusedVariables false
set_option maxHeartbeats 800000
attribute [local go_sem ↓] run_start run_byte run_cols
attribute [local go_sem] Oper.semAt_some

def btwN (n a b : Int) : Nat := (if a < b then b - a else b - a + n).toNat
def btw (n a b : Int) : List Int := List.map (fun (i : Nat) => (a + (i : Int)) % n) (List.range (btwN n a b))
theorem btw_len (n a b : Int) : (btw n a b).length = btwN n a b := by simp [btw]
theorem btw_get (n a b : Int) (k : Nat) (h : k < (btw n a b).length) : (btw n a b)[k] = (a + (k : Int)) % n := by simp [btw]
theorem btwN_pos {n a b : Int} (ha : 0 ≤ a ∧ a < n) (hb : 0 ≤ b ∧ b < n) : 0 < btwN n a b ∧ (btwN n a b : Int) ≤ n := by unfold btwN; split <;> omega
theorem btw_end {n a b : Int} (ha : 0 ≤ a ∧ a < n) (hb : 0 ≤ b ∧ b < n) (k : Nat) (hk : k < btwN n a b) : ((a + (k : Int) + 1) % n = b) ↔ k + 1 = btwN n a b := by
  have hN := btwN_pos ha hb
  by_cases hlt : a + (k : Int) + 1 < n
  · rw [Int.emod_eq_of_lt (by omega) hlt]
    unfold btwN at *
    split at hk <;> split <;> omega
  · by_cases hw : a + (k : Int) + 1 < 2 * n
    · have : (a + (k : Int) + 1) % n = a + (k : Int) + 1 - n := by
        rw [← Int.sub_emod_right, Int.emod_eq_of_lt (by omega) (by omega)]
      rw [this]
      unfold btwN at *
      split at hk <;> split <;> omega
    · omega

theorem Cells_P {P : Pl} (h : P.ok) (w : World) :
    Calls Try.prog 78 #[.agg #[.int .i64 P.rows, .int .i64 P.cols]] w fun e w' => e = .returned (.int .i64 (P.cells.length : Int)) ∧ Below w.heap.size w w' := by
  rw [h.len]
  exact Cells_in _ _ _ h.r1 h.r2 h.c1 h.c2 h.n2

theorem btwN_step {n x b : Int} (hx : 0 ≤ x ∧ x < n) (hb : 0 ≤ b ∧ b < n) (hne : (x + 1) % n ≠ b) : btwN n ((x + 1) % n) b < btwN n x b := by
  by_cases h : x + 1 < n
  · rw [Int.emod_eq_of_lt (by omega) h] at *
    unfold btwN
    split <;> split <;> omega
  · have h0 : (x + 1) % n = 0 := by rw [show x + 1 = n by omega, Int.emod_self]
    rw [h0] at hne ⊢
    unfold btwN
    split <;> split <;> omega

def RdB (B1 B2 B3 : Nat) (r c a b : Int) (_ : Nat) (W : World) : Prop :=
  W.cell? ⟨B1, 0, none⟩ = some (.int .i64 r) ∧ W.cell? ⟨B1, 1, none⟩ = some (.int .i64 c) ∧ W.cell? ⟨B2, 0, none⟩ = some (.int .i64 a) ∧ W.cell? ⟨B3, 0, none⟩ = some (.int .i64 b)

set_option maxRecDepth 100000 in
theorem Between_seq {P : Pl} (hok : P.ok) (B1 B2 B3 : Nat) (a b : Int) (ha : 0 ≤ a ∧ a < (P.cells.length : Int)) (hb : 0 ≤ b ∧ b < (P.cells.length : Int)) :
    SeqL Try.prog 202 #[.pointer (some ⟨B1, 0, none⟩), .pointer (some ⟨B2, 0, none⟩), .pointer (some ⟨B3, 0, none⟩)] ((btw (P.cells.length : Int) a b).map fun x => #[.int .i64 x]) (RdB B1 B2 B3 P.rows P.cols a b) := by
  intro l J Jx W hR hJ hJx hY h0
  have hn := Lib.hid hok.len
  obtain ⟨ha0, ha1⟩ := ha
  obtain ⟨hb0, hb1⟩ := hb
  obtain ⟨c0, c1, c2, c3⟩ := hR 0 W h0
  refine callsIn_of_wp Try.func202 rfl trivial ?_ rfl
  simp only [Try.ntmps202, List.size_toArray, List.length_cons, List.length_nil, Nat.reduceAdd, Nat.reduceSub, Array.replicate_succ, Array.replicate_zero, List.push_toArray, List.append_toArray, List.nil_append, List.cons_append]
  gi_wp2_with fail
  refine ⟨trivial, rfl, CallsIn.mono (callsIn_wide.2 (Cells_P hok _)) ?_⟩
  rintro e w1 ⟨rfl, hb1⟩
  have hz1 := hb1.size
  try simp only [World.size_alloc, World.size_drew, World.size_setCell] at hz1
  obtain ⟨hc1, hf1⟩ := bcell hb1
  have hJ1 := hJ 0 _ _ h0 hb1
  clear hc1 hf1 hb1 c0 c1 c2 c3
  obtain ⟨c0, c1, c2, c3⟩ := hR 0 _ hJ1
  gi_wp2
  gi_loopw [6] (fun x wr => ∃ k : Nat, k < btwN (P.cells.length : Int) a b ∧ x = .int .i64 ((a + (k : Int)) % (P.cells.length : Int)) ∧ J k wr) (fun x _ => btwN (P.cells.length : Int) (intOf x) b)
  case atStart => exact ⟨0, (btwN_pos ⟨ha0, ha1⟩ ⟨hb0, hb1⟩).1, by rw [Int.emod_eq_of_lt (by omega) (by omega)]; simp, hJ1⟩
  case round =>
    obtain ⟨k, hk, rfl, hJk⟩ := hrel
    clear c0 c1 c2 c3
    obtain ⟨c0, c1, c2, c3⟩ := hR k _ hJk
    have hx := Pl.emod_range hok (a + (k : Int))
    have hy0 := hY k wr (by simpa [btw] using hk) hJk
    have E := Lib.hid (btw_end ⟨ha0, ha1⟩ ⟨hb0, hb1⟩ k hk)
    have S := Lib.hid (btwN_step (n := (P.cells.length : Int)) hx ⟨hb0, hb1⟩)
    simp only [List.getElem_map, btw_get] at hy0
    obtain ⟨fn, tmps, assign, body, hy, hRd⟩ := hy0
    gi_wp2
    refine ⟨rfl, hRd.mono ?_⟩
    rintro e W3 (⟨rfl, hJ3⟩ | ⟨rfl, hJx3⟩)
    · clear c0 c1 c2 c3 hy
      obtain ⟨c0, c1, c2, c3⟩ := hR _ _ hJ3
      gi_wp2_with fail
      refine ⟨trivial, rfl, CallsIn.mono (callsIn_wide.2 (Move_P hok _ _ _)) ?_⟩
      rintro e w4 ⟨rfl, hb4⟩
      have hz4 := hb4.size
      try simp only [World.size_alloc, World.size_drew, World.size_setCell] at hz4
      obtain ⟨hc4, hf4⟩ := bcell hb4
      have hJ4 := hJ _ _ _ hJ3 hb4
      clear hc4 hf4 hb4 c0 c1 c2 c3
      obtain ⟨c0, c1, c2, c3⟩ := hR _ _ hJ4
      cases hd : ((a + (k : Int) + 1) % (P.cells.length : Int) == b)
      · have hne : (a + (k : Int) + 1) % (P.cells.length : Int) ≠ b := by simpa using hd
        have hk1 : k + 1 ≠ btwN (P.cells.length : Int) a b := fun e => hne (E.out.2 e)
        have HN := Lib.hid hne
        clear hne
        gi_wp2
        go_roundw
        case rel => exact ⟨k + 1, by omega, by congr 2; push_cast; omega, hJ4⟩
        case measure =>
          simp only [intOf]
          have := S.out (by rw [Int.emod_add_emod]; exact HN.out)
          rw [Int.emod_add_emod] at this
          exact this
      · have hk1 : k + 1 = btwN (P.cells.length : Int) a b := E.out.1 (by simpa using hd)
        have HK := Lib.hid hk1
        clear hk1
        gi_wp2
        refine bodyPost_ret (results_none rfl _ _ _) rfl ?_
        exact ⟨⟨_, rfl⟩, .inl (by simp only [List.length_map, btw_len]; rw [← HK.out]; exact hJ4)⟩
    · gi_wp2
      go_end0
      exact ⟨⟨_, rfl⟩, .inr ⟨k + 1, by simp only [List.length_map, btw_len]; omega, hJx3⟩⟩
end Go.Proofs.Ytbkddgeocmkegaa
