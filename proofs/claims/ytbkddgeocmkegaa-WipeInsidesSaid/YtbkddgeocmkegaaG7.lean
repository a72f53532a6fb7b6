/- Lemmas on the way to this seat's statements; they bear no condition of their own. -/
import Derived.Test.YtbkddgeocmkegaaG6
namespace Go.Proofs.Ytbkddgeocmkegaa
open Go.RowKit
set_option linter.unusedSimpArgs false
set_option linter.unusedVariables false
set_option maxHeartbeats 800000
attribute [local go_sem ↓] run_start run_byte run_cols

theorem Pl.point_at (P : Pl) (i j : Int) : (P.point i).at j = P.at j := rfl
theorem Pl.point_len (P : Pl) (i : Int) : (P.point i).cells.length = P.cells.length := rfl
theorem Pl.point_point (P : Pl) (i j : Int) : (P.point i).point j = P.point j := rfl
theorem Pl.point_seek (P : Pl) (i a s : Int) : (P.point i).seek a s = P.seek a s := rfl

theorem On_any {w : World} {g b cap : Nat} {P : Pl} (h : PL w g b cap P) :
    Calls Try.prog 47 #[.pointer (some ⟨g, 0, none⟩)] w fun e w' => e = .returned (.int .i64 P.on) ∧ PL w' g b cap (P.point P.on) ∧ Chg (· = g) w w' := by
  obtain ⟨i0, i1⟩ := Pl.emod_range h.ok (P.cursor + 1)
  have hby := (Pl.at_ok h.ok ((P.cursor + 1) % (P.cells.length : Int))).1
  cases hS : (P.at ((P.cursor + 1) % (P.cells.length : Int))).start
  · have E := Lib.hid (show P.on = (P.cursor + 1) % (P.cells.length : Int) by unfold Pl.on; simp [hS])
    go_enter Try.func47, Try.ntmps47
    go_wp2_with fail
    refine (Cursor_any h).mono ?_
    rintro e w1 ⟨rfl, hb1⟩
    have hz1 := hb1.size
    try simp only [World.size_alloc, World.size_drew, World.size_setCell] at hz1
    obtain ⟨hc1, hf1⟩ := bcell hb1
    go_wp2_with fail
    refine (by_any (h.below hb1) _ _).mono ?_
    rintro e w2 ⟨rfl, hb2⟩
    replace hb2 := Below.trans hb1 (Below.mono hb2 hb1.size)
    clear hc1 hf1
    have hz2 := hb2.size
    try simp only [World.size_alloc, World.size_drew, World.size_setCell] at hz2
    obtain ⟨hc2, hf2⟩ := bcell hb2
    go_wp2_with fail
    refine (to_in (h.below (by with_reducible (repeat (first | exact Below.refl _ _ | assumption | (refine Below.setCell ?_ (by first | omega | (simp; done) | (simp; omega)) _) | (refine Below.alloc ?_ (by first | omega | (simp; done) | (simp; omega)) _) | (refine below_drewN ?_ _) | (refine Below.drew ?_) | (refine Below.trans ?_ (Below.mono hb (by first | omega | (simp; done) | (simp; omega)))) | (refine Below.trans ?_ (Below.mono hb1 (by first | omega | (simp; done) | (simp; omega)))) | (refine Below.trans ?_ (Below.mono hb2 (by first | omega | (simp; done) | (simp; omega)))) | (refine Below.trans ?_ (Below.mono hb3 (by first | omega | (simp; done) | (simp; omega)))) | (refine Below.trans ?_ (Below.mono hb4 (by first | omega | (simp; done) | (simp; omega)))) | (refine Below.trans ?_ (Below.mono hb5 (by first | omega | (simp; done) | (simp; omega)))) | (refine Below.trans ?_ (Below.mono hb6 (by first | omega | (simp; done) | (simp; omega)))) | (refine Below.trans ?_ (Below.mono hb7 (by first | omega | (simp; done) | (simp; omega)))) | (refine Below.trans ?_ (Below.mono hb8 (by first | omega | (simp; done) | (simp; omega)))) | (refine Below.trans ?_ (Below.mono hb9 (by first | omega | (simp; done) | (simp; omega)))) | (refine Below.trans ?_ (Below.mono hb10 (by first | omega | (simp; done) | (simp; omega)))) | (refine Below.trans ?_ (Below.mono hb11 (by first | omega | (simp; done) | (simp; omega)))) | (refine Below.trans ?_ (Below.mono hb12 (by first | omega | (simp; done) | (simp; omega)))))))) _ i0 i1).mono ?_
    rintro e w3 ⟨rfl, hP3, hk3⟩
    go_wp2_with fail
    refine (At_any hP3 _).mono ?_
    rintro e w4 ⟨rfl, hb4⟩
    have hz4 := hb4.size
    try simp only [World.size_alloc, World.size_drew, World.size_setCell] at hz4
    obtain ⟨hc4, hf4⟩ := bcell hb4
    simp only [Pl.point_at, hS] at *
    go_wp2
    go_ret
    have hB4 : Below w3.heap.size w3 w4 := hb4
    exact ⟨by rw [E.out]; rfl, by rw [E.out]; exact hP3.below (by with_reducible (repeat (first | exact Below.refl _ _ | assumption | (refine Below.setCell ?_ (by first | omega | (simp; done) | (simp; omega)) _) | (refine Below.alloc ?_ (by first | omega | (simp; done) | (simp; omega)) _) | (refine below_drewN ?_ _) | (refine Below.drew ?_) | (refine Below.trans ?_ (Below.mono hb (by first | omega | (simp; done) | (simp; omega)))) | (refine Below.trans ?_ (Below.mono hb1 (by first | omega | (simp; done) | (simp; omega)))) | (refine Below.trans ?_ (Below.mono hb2 (by first | omega | (simp; done) | (simp; omega)))) | (refine Below.trans ?_ (Below.mono hb3 (by first | omega | (simp; done) | (simp; omega)))) | (refine Below.trans ?_ (Below.mono hb4 (by first | omega | (simp; done) | (simp; omega)))) | (refine Below.trans ?_ (Below.mono hb5 (by first | omega | (simp; done) | (simp; omega)))) | (refine Below.trans ?_ (Below.mono hb6 (by first | omega | (simp; done) | (simp; omega)))) | (refine Below.trans ?_ (Below.mono hb7 (by first | omega | (simp; done) | (simp; omega)))) | (refine Below.trans ?_ (Below.mono hb8 (by first | omega | (simp; done) | (simp; omega)))) | (refine Below.trans ?_ (Below.mono hb9 (by first | omega | (simp; done) | (simp; omega)))) | (refine Below.trans ?_ (Below.mono hb10 (by first | omega | (simp; done) | (simp; omega)))) | (refine Below.trans ?_ (Below.mono hb11 (by first | omega | (simp; done) | (simp; omega)))) | (refine Below.trans ?_ (Below.mono hb12 (by first | omega | (simp; done) | (simp; omega))))))), ((chg_bel hb2 hk3).trans (Chg.of_below (by with_reducible (repeat (first | exact Below.refl _ _ | assumption | (refine Below.setCell ?_ (by first | omega | (simp; done) | (simp; omega)) _) | (refine Below.alloc ?_ (by first | omega | (simp; done) | (simp; omega)) _) | (refine below_drewN ?_ _) | (refine Below.drew ?_) | (refine Below.trans ?_ (Below.mono hb (by first | omega | (simp; done) | (simp; omega)))) | (refine Below.trans ?_ (Below.mono hb1 (by first | omega | (simp; done) | (simp; omega)))) | (refine Below.trans ?_ (Below.mono hb2 (by first | omega | (simp; done) | (simp; omega)))) | (refine Below.trans ?_ (Below.mono hb3 (by first | omega | (simp; done) | (simp; omega)))) | (refine Below.trans ?_ (Below.mono hb4 (by first | omega | (simp; done) | (simp; omega)))) | (refine Below.trans ?_ (Below.mono hb5 (by first | omega | (simp; done) | (simp; omega)))) | (refine Below.trans ?_ (Below.mono hb6 (by first | omega | (simp; done) | (simp; omega)))) | (refine Below.trans ?_ (Below.mono hb7 (by first | omega | (simp; done) | (simp; omega)))) | (refine Below.trans ?_ (Below.mono hb8 (by first | omega | (simp; done) | (simp; omega)))) | (refine Below.trans ?_ (Below.mono hb9 (by first | omega | (simp; done) | (simp; omega)))) | (refine Below.trans ?_ (Below.mono hb10 (by first | omega | (simp; done) | (simp; omega)))) | (refine Below.trans ?_ (Below.mono hb11 (by first | omega | (simp; done) | (simp; omega)))) | (refine Below.trans ?_ (Below.mono hb12 (by first | omega | (simp; done) | (simp; omega)))))))))⟩
  · cases hK : (prot (P.at ((P.cursor + 1) % (P.cells.length : Int))).byte && nume (P.at ((P.cursor + 1) % (P.cells.length : Int))).byte)
    · obtain ⟨j0, j1⟩ := Pl.emod_range h.ok (P.cursor + 1 + 1)
      have E := Lib.hid (show P.on = (P.cursor + 1 + 1) % (P.cells.length : Int) by unfold Pl.on; simp [hS, hK])
      go_enter Try.func47, Try.ntmps47
      go_wp2_with fail
      refine (Cursor_any h).mono ?_
      rintro e w1 ⟨rfl, hb1⟩
      have hz1 := hb1.size
      try simp only [World.size_alloc, World.size_drew, World.size_setCell] at hz1
      obtain ⟨hc1, hf1⟩ := bcell hb1
      go_wp2_with fail
      refine (by_any (h.below hb1) _ _).mono ?_
      rintro e w2 ⟨rfl, hb2⟩
      replace hb2 := Below.trans hb1 (Below.mono hb2 hb1.size)
      clear hc1 hf1
      have hz2 := hb2.size
      try simp only [World.size_alloc, World.size_drew, World.size_setCell] at hz2
      obtain ⟨hc2, hf2⟩ := bcell hb2
      go_wp2_with fail
      refine (to_in (h.below (by with_reducible (repeat (first | exact Below.refl _ _ | assumption | (refine Below.setCell ?_ (by first | omega | (simp; done) | (simp; omega)) _) | (refine Below.alloc ?_ (by first | omega | (simp; done) | (simp; omega)) _) | (refine below_drewN ?_ _) | (refine Below.drew ?_) | (refine Below.trans ?_ (Below.mono hb (by first | omega | (simp; done) | (simp; omega)))) | (refine Below.trans ?_ (Below.mono hb1 (by first | omega | (simp; done) | (simp; omega)))) | (refine Below.trans ?_ (Below.mono hb2 (by first | omega | (simp; done) | (simp; omega)))) | (refine Below.trans ?_ (Below.mono hb3 (by first | omega | (simp; done) | (simp; omega)))) | (refine Below.trans ?_ (Below.mono hb4 (by first | omega | (simp; done) | (simp; omega)))) | (refine Below.trans ?_ (Below.mono hb5 (by first | omega | (simp; done) | (simp; omega)))) | (refine Below.trans ?_ (Below.mono hb6 (by first | omega | (simp; done) | (simp; omega)))) | (refine Below.trans ?_ (Below.mono hb7 (by first | omega | (simp; done) | (simp; omega)))) | (refine Below.trans ?_ (Below.mono hb8 (by first | omega | (simp; done) | (simp; omega)))) | (refine Below.trans ?_ (Below.mono hb9 (by first | omega | (simp; done) | (simp; omega)))) | (refine Below.trans ?_ (Below.mono hb10 (by first | omega | (simp; done) | (simp; omega)))) | (refine Below.trans ?_ (Below.mono hb11 (by first | omega | (simp; done) | (simp; omega)))) | (refine Below.trans ?_ (Below.mono hb12 (by first | omega | (simp; done) | (simp; omega)))))))) _ i0 i1).mono ?_
      rintro e w3 ⟨rfl, hP3, hk3⟩
      go_wp2_with fail
      refine (At_any hP3 _).mono ?_
      rintro e w4 ⟨rfl, hb4⟩
      have hz4 := hb4.size
      try simp only [World.size_alloc, World.size_drew, World.size_setCell] at hz4
      obtain ⟨hc4, hf4⟩ := bcell hb4
      simp only [Pl.point_at, hS] at *
      go_wp2_with fail
      refine (Skip_any _ _ hby).mono ?_
      rintro e w5 ⟨rfl, hb5⟩
      have hz5 := hb5.size
      try simp only [World.size_alloc, World.size_drew, World.size_setCell] at hz5
      obtain ⟨hc5, hf5⟩ := bcell hb5
      go_wp2_with fail
      refine (by_any (hP3.below (by with_reducible (repeat (first | exact Below.refl _ _ | assumption | (refine Below.setCell ?_ (by first | omega | (simp; done) | (simp; omega)) _) | (refine Below.alloc ?_ (by first | omega | (simp; done) | (simp; omega)) _) | (refine below_drewN ?_ _) | (refine Below.drew ?_) | (refine Below.trans ?_ (Below.mono hb (by first | omega | (simp; done) | (simp; omega)))) | (refine Below.trans ?_ (Below.mono hb1 (by first | omega | (simp; done) | (simp; omega)))) | (refine Below.trans ?_ (Below.mono hb2 (by first | omega | (simp; done) | (simp; omega)))) | (refine Below.trans ?_ (Below.mono hb3 (by first | omega | (simp; done) | (simp; omega)))) | (refine Below.trans ?_ (Below.mono hb4 (by first | omega | (simp; done) | (simp; omega)))) | (refine Below.trans ?_ (Below.mono hb5 (by first | omega | (simp; done) | (simp; omega)))) | (refine Below.trans ?_ (Below.mono hb6 (by first | omega | (simp; done) | (simp; omega)))) | (refine Below.trans ?_ (Below.mono hb7 (by first | omega | (simp; done) | (simp; omega)))) | (refine Below.trans ?_ (Below.mono hb8 (by first | omega | (simp; done) | (simp; omega)))) | (refine Below.trans ?_ (Below.mono hb9 (by first | omega | (simp; done) | (simp; omega)))) | (refine Below.trans ?_ (Below.mono hb10 (by first | omega | (simp; done) | (simp; omega)))) | (refine Below.trans ?_ (Below.mono hb11 (by first | omega | (simp; done) | (simp; omega)))) | (refine Below.trans ?_ (Below.mono hb12 (by first | omega | (simp; done) | (simp; omega)))))))) _ _).mono ?_
      rintro e w6 ⟨rfl, hb6⟩
      replace hb6 := Below.trans hb5 (Below.mono hb6 hb5.size)
      clear hc5 hf5
      have hz6 := hb6.size
      try simp only [World.size_alloc, World.size_drew, World.size_setCell] at hz6
      obtain ⟨hc6, hf6⟩ := bcell hb6
      simp only [Pl.point_len] at *
      go_wp2_with fail
      refine (to_in (hP3.below (by with_reducible (repeat (first | exact Below.refl _ _ | assumption | (refine Below.setCell ?_ (by first | omega | (simp; done) | (simp; omega)) _) | (refine Below.alloc ?_ (by first | omega | (simp; done) | (simp; omega)) _) | (refine below_drewN ?_ _) | (refine Below.drew ?_) | (refine Below.trans ?_ (Below.mono hb (by first | omega | (simp; done) | (simp; omega)))) | (refine Below.trans ?_ (Below.mono hb1 (by first | omega | (simp; done) | (simp; omega)))) | (refine Below.trans ?_ (Below.mono hb2 (by first | omega | (simp; done) | (simp; omega)))) | (refine Below.trans ?_ (Below.mono hb3 (by first | omega | (simp; done) | (simp; omega)))) | (refine Below.trans ?_ (Below.mono hb4 (by first | omega | (simp; done) | (simp; omega)))) | (refine Below.trans ?_ (Below.mono hb5 (by first | omega | (simp; done) | (simp; omega)))) | (refine Below.trans ?_ (Below.mono hb6 (by first | omega | (simp; done) | (simp; omega)))) | (refine Below.trans ?_ (Below.mono hb7 (by first | omega | (simp; done) | (simp; omega)))) | (refine Below.trans ?_ (Below.mono hb8 (by first | omega | (simp; done) | (simp; omega)))) | (refine Below.trans ?_ (Below.mono hb9 (by first | omega | (simp; done) | (simp; omega)))) | (refine Below.trans ?_ (Below.mono hb10 (by first | omega | (simp; done) | (simp; omega)))) | (refine Below.trans ?_ (Below.mono hb11 (by first | omega | (simp; done) | (simp; omega)))) | (refine Below.trans ?_ (Below.mono hb12 (by first | omega | (simp; done) | (simp; omega)))))))) _ j0 j1).mono ?_
      rintro e w7 ⟨rfl, hP7, hk7⟩
      go_wp2
      go_ret
      exact ⟨by rw [E.out]; rfl, by rw [E.out]; exact hP7, ((chg_bel hb2 hk3).trans (chg_bel (by with_reducible (repeat (first | exact Below.refl _ _ | assumption | (refine Below.setCell ?_ (by first | omega | (simp; done) | (simp; omega)) _) | (refine Below.alloc ?_ (by first | omega | (simp; done) | (simp; omega)) _) | (refine below_drewN ?_ _) | (refine Below.drew ?_) | (refine Below.trans ?_ (Below.mono hb (by first | omega | (simp; done) | (simp; omega)))) | (refine Below.trans ?_ (Below.mono hb1 (by first | omega | (simp; done) | (simp; omega)))) | (refine Below.trans ?_ (Below.mono hb2 (by first | omega | (simp; done) | (simp; omega)))) | (refine Below.trans ?_ (Below.mono hb3 (by first | omega | (simp; done) | (simp; omega)))) | (refine Below.trans ?_ (Below.mono hb4 (by first | omega | (simp; done) | (simp; omega)))) | (refine Below.trans ?_ (Below.mono hb5 (by first | omega | (simp; done) | (simp; omega)))) | (refine Below.trans ?_ (Below.mono hb6 (by first | omega | (simp; done) | (simp; omega)))) | (refine Below.trans ?_ (Below.mono hb7 (by first | omega | (simp; done) | (simp; omega)))) | (refine Below.trans ?_ (Below.mono hb8 (by first | omega | (simp; done) | (simp; omega)))) | (refine Below.trans ?_ (Below.mono hb9 (by first | omega | (simp; done) | (simp; omega)))) | (refine Below.trans ?_ (Below.mono hb10 (by first | omega | (simp; done) | (simp; omega)))) | (refine Below.trans ?_ (Below.mono hb11 (by first | omega | (simp; done) | (simp; omega)))) | (refine Below.trans ?_ (Below.mono hb12 (by first | omega | (simp; done) | (simp; omega))))))) hk7))⟩
    · obtain ⟨j0, j1⟩ := Pl.seek_range h.ok ((P.cursor + 1) % (P.cells.length : Int)) 1
      have E := Lib.hid (show P.on = P.seek ((P.cursor + 1) % (P.cells.length : Int)) 1 by unfold Pl.on; simp [hS, hK])
      go_enter Try.func47, Try.ntmps47
      go_wp2_with fail
      refine (Cursor_any h).mono ?_
      rintro e w1 ⟨rfl, hb1⟩
      have hz1 := hb1.size
      try simp only [World.size_alloc, World.size_drew, World.size_setCell] at hz1
      obtain ⟨hc1, hf1⟩ := bcell hb1
      go_wp2_with fail
      refine (by_any (h.below hb1) _ _).mono ?_
      rintro e w2 ⟨rfl, hb2⟩
      replace hb2 := Below.trans hb1 (Below.mono hb2 hb1.size)
      clear hc1 hf1
      have hz2 := hb2.size
      try simp only [World.size_alloc, World.size_drew, World.size_setCell] at hz2
      obtain ⟨hc2, hf2⟩ := bcell hb2
      go_wp2_with fail
      refine (to_in (h.below (by with_reducible (repeat (first | exact Below.refl _ _ | assumption | (refine Below.setCell ?_ (by first | omega | (simp; done) | (simp; omega)) _) | (refine Below.alloc ?_ (by first | omega | (simp; done) | (simp; omega)) _) | (refine below_drewN ?_ _) | (refine Below.drew ?_) | (refine Below.trans ?_ (Below.mono hb (by first | omega | (simp; done) | (simp; omega)))) | (refine Below.trans ?_ (Below.mono hb1 (by first | omega | (simp; done) | (simp; omega)))) | (refine Below.trans ?_ (Below.mono hb2 (by first | omega | (simp; done) | (simp; omega)))) | (refine Below.trans ?_ (Below.mono hb3 (by first | omega | (simp; done) | (simp; omega)))) | (refine Below.trans ?_ (Below.mono hb4 (by first | omega | (simp; done) | (simp; omega)))) | (refine Below.trans ?_ (Below.mono hb5 (by first | omega | (simp; done) | (simp; omega)))) | (refine Below.trans ?_ (Below.mono hb6 (by first | omega | (simp; done) | (simp; omega)))) | (refine Below.trans ?_ (Below.mono hb7 (by first | omega | (simp; done) | (simp; omega)))) | (refine Below.trans ?_ (Below.mono hb8 (by first | omega | (simp; done) | (simp; omega)))) | (refine Below.trans ?_ (Below.mono hb9 (by first | omega | (simp; done) | (simp; omega)))) | (refine Below.trans ?_ (Below.mono hb10 (by first | omega | (simp; done) | (simp; omega)))) | (refine Below.trans ?_ (Below.mono hb11 (by first | omega | (simp; done) | (simp; omega)))) | (refine Below.trans ?_ (Below.mono hb12 (by first | omega | (simp; done) | (simp; omega)))))))) _ i0 i1).mono ?_
      rintro e w3 ⟨rfl, hP3, hk3⟩
      go_wp2_with fail
      refine (At_any hP3 _).mono ?_
      rintro e w4 ⟨rfl, hb4⟩
      have hz4 := hb4.size
      try simp only [World.size_alloc, World.size_drew, World.size_setCell] at hz4
      obtain ⟨hc4, hf4⟩ := bcell hb4
      simp only [Pl.point_at, hS] at *
      go_wp2_with fail
      refine (Skip_any _ _ hby).mono ?_
      rintro e w5 ⟨rfl, hb5⟩
      have hz5 := hb5.size
      try simp only [World.size_alloc, World.size_drew, World.size_setCell] at hz5
      obtain ⟨hc5, hf5⟩ := bcell hb5
      go_wp2_with fail
      refine (Tab_any (hP3.below (by with_reducible (repeat (first | exact Below.refl _ _ | assumption | (refine Below.setCell ?_ (by first | omega | (simp; done) | (simp; omega)) _) | (refine Below.alloc ?_ (by first | omega | (simp; done) | (simp; omega)) _) | (refine below_drewN ?_ _) | (refine Below.drew ?_) | (refine Below.trans ?_ (Below.mono hb (by first | omega | (simp; done) | (simp; omega)))) | (refine Below.trans ?_ (Below.mono hb1 (by first | omega | (simp; done) | (simp; omega)))) | (refine Below.trans ?_ (Below.mono hb2 (by first | omega | (simp; done) | (simp; omega)))) | (refine Below.trans ?_ (Below.mono hb3 (by first | omega | (simp; done) | (simp; omega)))) | (refine Below.trans ?_ (Below.mono hb4 (by first | omega | (simp; done) | (simp; omega)))) | (refine Below.trans ?_ (Below.mono hb5 (by first | omega | (simp; done) | (simp; omega)))) | (refine Below.trans ?_ (Below.mono hb6 (by first | omega | (simp; done) | (simp; omega)))) | (refine Below.trans ?_ (Below.mono hb7 (by first | omega | (simp; done) | (simp; omega)))) | (refine Below.trans ?_ (Below.mono hb8 (by first | omega | (simp; done) | (simp; omega)))) | (refine Below.trans ?_ (Below.mono hb9 (by first | omega | (simp; done) | (simp; omega)))) | (refine Below.trans ?_ (Below.mono hb10 (by first | omega | (simp; done) | (simp; omega)))) | (refine Below.trans ?_ (Below.mono hb11 (by first | omega | (simp; done) | (simp; omega)))) | (refine Below.trans ?_ (Below.mono hb12 (by first | omega | (simp; done) | (simp; omega))))))))).mono ?_
      rintro e w7 ⟨rfl, hP7, hk7⟩
      go_wp2
      go_ret
      exact ⟨by rw [E.out]; rfl, by rw [E.out]; exact hP7, ((chg_bel hb2 hk3).trans (chg_bel (by with_reducible (repeat (first | exact Below.refl _ _ | assumption | (refine Below.setCell ?_ (by first | omega | (simp; done) | (simp; omega)) _) | (refine Below.alloc ?_ (by first | omega | (simp; done) | (simp; omega)) _) | (refine below_drewN ?_ _) | (refine Below.drew ?_) | (refine Below.trans ?_ (Below.mono hb (by first | omega | (simp; done) | (simp; omega)))) | (refine Below.trans ?_ (Below.mono hb1 (by first | omega | (simp; done) | (simp; omega)))) | (refine Below.trans ?_ (Below.mono hb2 (by first | omega | (simp; done) | (simp; omega)))) | (refine Below.trans ?_ (Below.mono hb3 (by first | omega | (simp; done) | (simp; omega)))) | (refine Below.trans ?_ (Below.mono hb4 (by first | omega | (simp; done) | (simp; omega)))) | (refine Below.trans ?_ (Below.mono hb5 (by first | omega | (simp; done) | (simp; omega)))) | (refine Below.trans ?_ (Below.mono hb6 (by first | omega | (simp; done) | (simp; omega)))) | (refine Below.trans ?_ (Below.mono hb7 (by first | omega | (simp; done) | (simp; omega)))) | (refine Below.trans ?_ (Below.mono hb8 (by first | omega | (simp; done) | (simp; omega)))) | (refine Below.trans ?_ (Below.mono hb9 (by first | omega | (simp; done) | (simp; omega)))) | (refine Below.trans ?_ (Below.mono hb10 (by first | omega | (simp; done) | (simp; omega)))) | (refine Below.trans ?_ (Below.mono hb11 (by first | omega | (simp; done) | (simp; omega)))) | (refine Below.trans ?_ (Below.mono hb12 (by first | omega | (simp; done) | (simp; omega))))))) hk7))⟩

def Pl.newline (P : Pl) : Int :=
  match srch P.cells.length (fun i => P.openAt (((P.cursor / P.cols + 1) * P.cols + (i : Int)) % (P.cells.length : Int))) with
  | some i => ((P.cursor / P.cols + 1) * P.cols + (i : Int)) % (P.cells.length : Int)
  | none => 0

set_option maxRecDepth 100000 in
theorem Newline_any {w : World} {g b cap : Nat} {P : Pl} (h : PL w g b cap P) :
    Calls Try.prog 45 #[.pointer (some ⟨g, 0, none⟩)] w fun e w' => e = .returned (.int .i64 P.newline) ∧ PL w' g b cap (P.point P.newline) ∧ Chg (· = g) w w' := by
  have hok := h.ok
  have hn := Pl.N_pos h.ok
  have hm := Pl.N_le h.ok
  have c1 := h.ok.c1
  have c2 := h.ok.c2
  have q0 : 0 ≤ P.cursor / P.cols := Int.ediv_nonneg h.ok.k1 (by omega)
  have q1 : P.cursor / P.cols < P.rows := Int.ediv_lt_of_lt_mul (by omega) h.ok.k2
  have hr2 := h.ok.r2
  have m0 : 0 ≤ (P.cursor / P.cols + 1) * P.cols := Int.mul_nonneg (by omega) (by omega)
  have m1 : (P.cursor / P.cols + 1) * P.cols ≤ P.rows * P.cols := Int.mul_le_mul_of_nonneg_right (by omega) (by omega)
  have m2 := h.ok.n2
  go_enter Try.func45, Try.ntmps45
  go_wp2_with fail
  refine (Size_any h).mono ?_
  rintro e w1 ⟨rfl, hb1⟩
  have hz1 := hb1.size
  try simp only [World.size_alloc, World.size_drew, World.size_setCell] at hz1
  obtain ⟨hc1, hf1⟩ := bcell hb1
  go_wp2_with fail
  refine (Cursor_any (h.below hb1)).mono ?_
  rintro e w2 ⟨rfl, hb2⟩
  replace hb2 := Below.trans hb1 (Below.mono hb2 hb1.size)
  clear hc1 hf1
  have hz2 := hb2.size
  try simp only [World.size_alloc, World.size_drew, World.size_setCell] at hz2
  obtain ⟨hc2, hf2⟩ := bcell hb2
  go_wp2_with fail
  refine (Split_in _ _ _ _ h.ok.r1 h.ok.r2 h.ok.c1 h.ok.c2 h.ok.n2 h.ok.k1 h.ok.k2).mono ?_
  rintro e w3 ⟨rfl, hb3⟩
  replace hb3 := Below.trans hb2 (Below.mono hb3 hb2.size)
  clear hc2 hf2
  have hz3 := hb3.size
  try simp only [World.size_alloc, World.size_drew, World.size_setCell] at hz3
  obtain ⟨hc3, hf3⟩ := bcell hb3
  go_wp2_with fail
  refine (Size_any (h.below hb3)).mono ?_
  rintro e w4 ⟨rfl, hb4⟩
  replace hb4 := Below.trans hb3 (Below.mono hb4 hb3.size)
  clear hc3 hf3
  have hz4 := hb4.size
  try simp only [World.size_alloc, World.size_drew, World.size_setCell] at hz4
  obtain ⟨hc4, hf4⟩ := bcell hb4
  go_wp2_with fail
  refine (by_any (h.below hb4) _ _).mono ?_
  rintro e w5 ⟨rfl, hb5⟩
  replace hb5 := Below.trans hb4 (Below.mono hb5 hb4.size)
  clear hc4 hf4
  have hz5 := hb5.size
  try simp only [World.size_alloc, World.size_drew, World.size_setCell] at hz5
  obtain ⟨hc5, hf5⟩ := bcell hb5
  go_wp2_with fail
  refine (Len_any (h.below hb5)).mono ?_
  rintro e w6 ⟨rfl, hb6⟩
  replace hb6 := Below.trans hb5 (Below.mono hb6 hb5.size)
  clear hc5 hf5
  have hz6 := hb6.size
  try simp only [World.size_alloc, World.size_drew, World.size_setCell] at hz6
  obtain ⟨hc6, hf6⟩ := bcell hb6
  have hB6 := hb6
  clear hc6 hf6 hb6
  go_wp2
  go_loopw [28] (fun i wr => ∃ k : Nat, k ≤ P.cells.length ∧ i = .int .i64 (k : Int) ∧ Below w.heap.size w wr ∧ ∀ j, j < k → P.openAt (((P.cursor / P.cols + 1) * P.cols + (j : Int)) % (P.cells.length : Int)) = false) (fun i _ => P.cells.length - (intOf i).toNat)
  case atStart => exact ⟨0, Nat.zero_le _, rfl, hB6, fun j hj => absurd hj (Nat.not_lt_zero _)⟩
  case round =>
    obtain ⟨k, hk, rfl, hB, hf⟩ := hrel
    have HF := Lib.hid hf
    clear hf
    have hzB := hB.size
    by_cases hlt : k < P.cells.length
    · go_wp2_with fail
      refine (by_any (h.below hB) _ _).mono ?_
      rintro e w7 ⟨rfl, hb7⟩
      have hz7 := hb7.size
      try simp only [World.size_alloc, World.size_drew, World.size_setCell] at hz7
      obtain ⟨hc7, hf7⟩ := bcell hb7
      go_wp2_with fail
      refine (Open_any (h.below (by with_reducible (repeat (first | exact Below.refl _ _ | assumption | (refine Below.setCell ?_ (by first | omega | (simp; done) | (simp; omega)) _) | (refine Below.alloc ?_ (by first | omega | (simp; done) | (simp; omega)) _) | (refine below_drewN ?_ _) | (refine Below.drew ?_) | (refine Below.trans ?_ (Below.mono hb (by first | omega | (simp; done) | (simp; omega)))) | (refine Below.trans ?_ (Below.mono hb1 (by first | omega | (simp; done) | (simp; omega)))) | (refine Below.trans ?_ (Below.mono hb2 (by first | omega | (simp; done) | (simp; omega)))) | (refine Below.trans ?_ (Below.mono hb3 (by first | omega | (simp; done) | (simp; omega)))) | (refine Below.trans ?_ (Below.mono hb4 (by first | omega | (simp; done) | (simp; omega)))) | (refine Below.trans ?_ (Below.mono hb5 (by first | omega | (simp; done) | (simp; omega)))) | (refine Below.trans ?_ (Below.mono hb6 (by first | omega | (simp; done) | (simp; omega)))) | (refine Below.trans ?_ (Below.mono hb7 (by first | omega | (simp; done) | (simp; omega)))) | (refine Below.trans ?_ (Below.mono hb8 (by first | omega | (simp; done) | (simp; omega)))) | (refine Below.trans ?_ (Below.mono hb9 (by first | omega | (simp; done) | (simp; omega)))) | (refine Below.trans ?_ (Below.mono hb10 (by first | omega | (simp; done) | (simp; omega)))) | (refine Below.trans ?_ (Below.mono hb11 (by first | omega | (simp; done) | (simp; omega)))) | (refine Below.trans ?_ (Below.mono hb12 (by first | omega | (simp; done) | (simp; omega)))))))) _).mono ?_
      rintro e w8 ⟨rfl, hb8⟩
      replace hb8 := Below.trans hb7 (Below.mono hb8 hb7.size)
      clear hc7 hf7
      have hz8 := hb8.size
      try simp only [World.size_alloc, World.size_drew, World.size_setCell] at hz8
      obtain ⟨hc8, hf8⟩ := bcell hb8
      have hB8 : Below w.heap.size w w8 := by with_reducible (repeat (first | exact Below.refl _ _ | assumption | (refine Below.setCell ?_ (by first | omega | (simp; done) | (simp; omega)) _) | (refine Below.alloc ?_ (by first | omega | (simp; done) | (simp; omega)) _) | (refine below_drewN ?_ _) | (refine Below.drew ?_) | (refine Below.trans ?_ (Below.mono hb (by first | omega | (simp; done) | (simp; omega)))) | (refine Below.trans ?_ (Below.mono hb1 (by first | omega | (simp; done) | (simp; omega)))) | (refine Below.trans ?_ (Below.mono hb2 (by first | omega | (simp; done) | (simp; omega)))) | (refine Below.trans ?_ (Below.mono hb3 (by first | omega | (simp; done) | (simp; omega)))) | (refine Below.trans ?_ (Below.mono hb4 (by first | omega | (simp; done) | (simp; omega)))) | (refine Below.trans ?_ (Below.mono hb5 (by first | omega | (simp; done) | (simp; omega)))) | (refine Below.trans ?_ (Below.mono hb6 (by first | omega | (simp; done) | (simp; omega)))) | (refine Below.trans ?_ (Below.mono hb7 (by first | omega | (simp; done) | (simp; omega)))) | (refine Below.trans ?_ (Below.mono hb8 (by first | omega | (simp; done) | (simp; omega)))) | (refine Below.trans ?_ (Below.mono hb9 (by first | omega | (simp; done) | (simp; omega)))) | (refine Below.trans ?_ (Below.mono hb10 (by first | omega | (simp; done) | (simp; omega)))) | (refine Below.trans ?_ (Below.mono hb11 (by first | omega | (simp; done) | (simp; omega)))) | (refine Below.trans ?_ (Below.mono hb12 (by first | omega | (simp; done) | (simp; omega))))))
      clear hc8 hf8
      cases hst : P.openAt (((P.cursor / P.cols + 1) * P.cols + (k : Int)) % (P.cells.length : Int))
      · go_wp2
        go_roundw
        case rel => exact ⟨k + 1, by omega, by go_num, hB8, fun j hj => by rcases Nat.lt_succ_iff_lt_or_eq.1 hj with hj | rfl; exact HF.out j hj; exact hst⟩
        case measure => simp [intOf]; omega
      · obtain ⟨i0, i1⟩ := Pl.emod_range hok ((P.cursor / P.cols + 1) * P.cols + (k : Int))
        have HS := Lib.hid hst
        have E := Lib.hid (show P.newline = ((P.cursor / P.cols + 1) * P.cols + (k : Int)) % (P.cells.length : Int) by unfold Pl.newline; rw [srch_some hlt hst HF.out])
        go_wp2_with fail
        refine (to_in (h.below hB8) _ i0 i1).mono ?_
        rintro e w9 ⟨rfl, hP9, hk9⟩
        clear hst
        go_wp2
        go_ret
        exact ⟨by rw [E.out]; rfl, by rw [E.out]; exact hP9, chg_bel hB8 hk9⟩
    · have E := Lib.hid (show P.newline = 0 by unfold Pl.newline; rw [srch_none (fun j hj => HF.out j (by omega))])
      go_wp2_with fail
      refine (to_in (h.below hB) _ (Int.le_refl 0) (by omega)).mono ?_
      rintro e w9 ⟨rfl, hP9, hk9⟩
      go_wp2
      go_ret
      exact ⟨by rw [E.out]; rfl, by rw [E.out]; exact hP9, chg_bel hB hk9⟩
end Go.Proofs.Ytbkddgeocmkegaa
