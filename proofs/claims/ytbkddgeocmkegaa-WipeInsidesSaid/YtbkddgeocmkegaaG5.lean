/- Lemmas on the way to this seat's statements; they bear no condition of their own. -/
import Derived.Test.YtbkddgeocmkegaaG4
namespace Go.Proofs.Ytbkddgeocmkegaa
open Go.RowKit
set_option linter.unusedSimpArgs false
set_option linter.unusedVariables false
set_option maxHeartbeats 800000
attribute [local go_sem ↓] run_start run_byte run_cols

theorem Open_any {w : World} {g b cap : Nat} {P : Pl} (h : PL w g b cap P) (i : Int) :
    Calls Try.prog 58 #[.pointer (some ⟨g, 0, none⟩), .int .i64 i] w fun e w' => e = .returned (.bool (P.openAt i)) ∧ Below w.heap.size w w' := by
  have ha := P.ofF_attr i
  cases hB : P.ofB i
  · have E := Lib.hid (show P.openAt i = decide (0 ≤ i ∧ i < (P.cells.length : Int)) by unfold Pl.openAt; rw [hB]; rfl)
    by_cases h0 : 0 ≤ i
    · go_enter Try.func58, Try.ntmps58
      go_wp2_with fail
      refine (Of_any h _).mono ?_
      rintro e w1 ⟨rfl, hb1⟩
      have hz1 := hb1.size
      try simp only [World.size_alloc, World.size_drew, World.size_setCell] at hz1
      obtain ⟨hc1, hf1⟩ := bcell hb1
      go_wp2_with fail
      refine (Len_any (h.below (by with_reducible (repeat (first | exact Below.refl _ _ | assumption | (refine Below.setCell ?_ (by first | omega | (simp; done) | (simp; omega)) _) | (refine Below.alloc ?_ (by first | omega | (simp; done) | (simp; omega)) _) | (refine below_drewN ?_ _) | (refine Below.drew ?_) | (refine Below.trans ?_ (Below.mono hb (by first | omega | (simp; done) | (simp; omega)))) | (refine Below.trans ?_ (Below.mono hb1 (by first | omega | (simp; done) | (simp; omega)))) | (refine Below.trans ?_ (Below.mono hb2 (by first | omega | (simp; done) | (simp; omega)))) | (refine Below.trans ?_ (Below.mono hb3 (by first | omega | (simp; done) | (simp; omega)))) | (refine Below.trans ?_ (Below.mono hb4 (by first | omega | (simp; done) | (simp; omega)))) | (refine Below.trans ?_ (Below.mono hb5 (by first | omega | (simp; done) | (simp; omega)))) | (refine Below.trans ?_ (Below.mono hb6 (by first | omega | (simp; done) | (simp; omega)))) | (refine Below.trans ?_ (Below.mono hb7 (by first | omega | (simp; done) | (simp; omega)))) | (refine Below.trans ?_ (Below.mono hb8 (by first | omega | (simp; done) | (simp; omega)))) | (refine Below.trans ?_ (Below.mono hb9 (by first | omega | (simp; done) | (simp; omega)))) | (refine Below.trans ?_ (Below.mono hb10 (by first | omega | (simp; done) | (simp; omega)))) | (refine Below.trans ?_ (Below.mono hb11 (by first | omega | (simp; done) | (simp; omega)))) | (refine Below.trans ?_ (Below.mono hb12 (by first | omega | (simp; done) | (simp; omega))))))))).mono ?_
      rintro e w2 ⟨rfl, hb2⟩
      have hz2 := hb2.size
      try simp only [World.size_alloc, World.size_drew, World.size_setCell] at hz2
      obtain ⟨hc2, hf2⟩ := bcell hb2
      go_wp2
      go_ret
      exact ⟨by rw [E.out]; simp [h0], by with_reducible (repeat (first | exact Below.refl _ _ | assumption | (refine Below.setCell ?_ (by first | omega | (simp; done) | (simp; omega)) _) | (refine Below.alloc ?_ (by first | omega | (simp; done) | (simp; omega)) _) | (refine below_drewN ?_ _) | (refine Below.drew ?_) | (refine Below.trans ?_ (Below.mono hb (by first | omega | (simp; done) | (simp; omega)))) | (refine Below.trans ?_ (Below.mono hb1 (by first | omega | (simp; done) | (simp; omega)))) | (refine Below.trans ?_ (Below.mono hb2 (by first | omega | (simp; done) | (simp; omega)))) | (refine Below.trans ?_ (Below.mono hb3 (by first | omega | (simp; done) | (simp; omega)))) | (refine Below.trans ?_ (Below.mono hb4 (by first | omega | (simp; done) | (simp; omega)))) | (refine Below.trans ?_ (Below.mono hb5 (by first | omega | (simp; done) | (simp; omega)))) | (refine Below.trans ?_ (Below.mono hb6 (by first | omega | (simp; done) | (simp; omega)))) | (refine Below.trans ?_ (Below.mono hb7 (by first | omega | (simp; done) | (simp; omega)))) | (refine Below.trans ?_ (Below.mono hb8 (by first | omega | (simp; done) | (simp; omega)))) | (refine Below.trans ?_ (Below.mono hb9 (by first | omega | (simp; done) | (simp; omega)))) | (refine Below.trans ?_ (Below.mono hb10 (by first | omega | (simp; done) | (simp; omega)))) | (refine Below.trans ?_ (Below.mono hb11 (by first | omega | (simp; done) | (simp; omega)))) | (refine Below.trans ?_ (Below.mono hb12 (by first | omega | (simp; done) | (simp; omega))))))⟩
    · go_enter Try.func58, Try.ntmps58
      go_wp2_with fail
      refine (Of_any h _).mono ?_
      rintro e w1 ⟨rfl, hb1⟩
      have hz1 := hb1.size
      try simp only [World.size_alloc, World.size_drew, World.size_setCell] at hz1
      obtain ⟨hc1, hf1⟩ := bcell hb1
      go_wp2
      go_ret
      exact ⟨by rw [E.out]; simp; omega, by with_reducible (repeat (first | exact Below.refl _ _ | assumption | (refine Below.setCell ?_ (by first | omega | (simp; done) | (simp; omega)) _) | (refine Below.alloc ?_ (by first | omega | (simp; done) | (simp; omega)) _) | (refine below_drewN ?_ _) | (refine Below.drew ?_) | (refine Below.trans ?_ (Below.mono hb (by first | omega | (simp; done) | (simp; omega)))) | (refine Below.trans ?_ (Below.mono hb1 (by first | omega | (simp; done) | (simp; omega)))) | (refine Below.trans ?_ (Below.mono hb2 (by first | omega | (simp; done) | (simp; omega)))) | (refine Below.trans ?_ (Below.mono hb3 (by first | omega | (simp; done) | (simp; omega)))) | (refine Below.trans ?_ (Below.mono hb4 (by first | omega | (simp; done) | (simp; omega)))) | (refine Below.trans ?_ (Below.mono hb5 (by first | omega | (simp; done) | (simp; omega)))) | (refine Below.trans ?_ (Below.mono hb6 (by first | omega | (simp; done) | (simp; omega)))) | (refine Below.trans ?_ (Below.mono hb7 (by first | omega | (simp; done) | (simp; omega)))) | (refine Below.trans ?_ (Below.mono hb8 (by first | omega | (simp; done) | (simp; omega)))) | (refine Below.trans ?_ (Below.mono hb9 (by first | omega | (simp; done) | (simp; omega)))) | (refine Below.trans ?_ (Below.mono hb10 (by first | omega | (simp; done) | (simp; omega)))) | (refine Below.trans ?_ (Below.mono hb11 (by first | omega | (simp; done) | (simp; omega)))) | (refine Below.trans ?_ (Below.mono hb12 (by first | omega | (simp; done) | (simp; omega))))))⟩
  · have E := Lib.hid (show P.openAt i = ((P.ofF i).start != i && !prot (P.ofF i).attr) by unfold Pl.openAt; rw [hB]; rfl)
    by_cases hs : (P.ofF i).start = i
    · have hs' : ((P.ofF i).start != i) = false := by rw [hs]; simp
      have HS := Lib.hid hs
      clear hs
      go_enter Try.func58, Try.ntmps58
      go_wp2_with fail
      refine (Of_any h _).mono ?_
      rintro e w1 ⟨rfl, hb1⟩
      have hz1 := hb1.size
      try simp only [World.size_alloc, World.size_drew, World.size_setCell] at hz1
      obtain ⟨hc1, hf1⟩ := bcell hb1
      go_wp2
      go_ret
      exact ⟨by rw [E.out, hs']; rfl, by with_reducible (repeat (first | exact Below.refl _ _ | assumption | (refine Below.setCell ?_ (by first | omega | (simp; done) | (simp; omega)) _) | (refine Below.alloc ?_ (by first | omega | (simp; done) | (simp; omega)) _) | (refine below_drewN ?_ _) | (refine Below.drew ?_) | (refine Below.trans ?_ (Below.mono hb (by first | omega | (simp; done) | (simp; omega)))) | (refine Below.trans ?_ (Below.mono hb1 (by first | omega | (simp; done) | (simp; omega)))) | (refine Below.trans ?_ (Below.mono hb2 (by first | omega | (simp; done) | (simp; omega)))) | (refine Below.trans ?_ (Below.mono hb3 (by first | omega | (simp; done) | (simp; omega)))) | (refine Below.trans ?_ (Below.mono hb4 (by first | omega | (simp; done) | (simp; omega)))) | (refine Below.trans ?_ (Below.mono hb5 (by first | omega | (simp; done) | (simp; omega)))) | (refine Below.trans ?_ (Below.mono hb6 (by first | omega | (simp; done) | (simp; omega)))) | (refine Below.trans ?_ (Below.mono hb7 (by first | omega | (simp; done) | (simp; omega)))) | (refine Below.trans ?_ (Below.mono hb8 (by first | omega | (simp; done) | (simp; omega)))) | (refine Below.trans ?_ (Below.mono hb9 (by first | omega | (simp; done) | (simp; omega)))) | (refine Below.trans ?_ (Below.mono hb10 (by first | omega | (simp; done) | (simp; omega)))) | (refine Below.trans ?_ (Below.mono hb11 (by first | omega | (simp; done) | (simp; omega)))) | (refine Below.trans ?_ (Below.mono hb12 (by first | omega | (simp; done) | (simp; omega))))))⟩
    · have hs' : ((P.ofF i).start != i) = true := by simpa using hs
      go_enter Try.func58, Try.ntmps58
      go_wp2_with fail
      refine (Of_any h _).mono ?_
      rintro e w1 ⟨rfl, hb1⟩
      have hz1 := hb1.size
      try simp only [World.size_alloc, World.size_drew, World.size_setCell] at hz1
      obtain ⟨hc1, hf1⟩ := bcell hb1
      go_wp2_with fail
      refine (Protected_any _ _ ha).mono ?_
      rintro e w2 ⟨rfl, hb2⟩
      have hz2 := hb2.size
      try simp only [World.size_alloc, World.size_drew, World.size_setCell] at hz2
      obtain ⟨hc2, hf2⟩ := bcell hb2
      go_wp2
      go_ret
      exact ⟨by rw [E.out, hs']; rfl, by with_reducible (repeat (first | exact Below.refl _ _ | assumption | (refine Below.setCell ?_ (by first | omega | (simp; done) | (simp; omega)) _) | (refine Below.alloc ?_ (by first | omega | (simp; done) | (simp; omega)) _) | (refine below_drewN ?_ _) | (refine Below.drew ?_) | (refine Below.trans ?_ (Below.mono hb (by first | omega | (simp; done) | (simp; omega)))) | (refine Below.trans ?_ (Below.mono hb1 (by first | omega | (simp; done) | (simp; omega)))) | (refine Below.trans ?_ (Below.mono hb2 (by first | omega | (simp; done) | (simp; omega)))) | (refine Below.trans ?_ (Below.mono hb3 (by first | omega | (simp; done) | (simp; omega)))) | (refine Below.trans ?_ (Below.mono hb4 (by first | omega | (simp; done) | (simp; omega)))) | (refine Below.trans ?_ (Below.mono hb5 (by first | omega | (simp; done) | (simp; omega)))) | (refine Below.trans ?_ (Below.mono hb6 (by first | omega | (simp; done) | (simp; omega)))) | (refine Below.trans ?_ (Below.mono hb7 (by first | omega | (simp; done) | (simp; omega)))) | (refine Below.trans ?_ (Below.mono hb8 (by first | omega | (simp; done) | (simp; omega)))) | (refine Below.trans ?_ (Below.mono hb9 (by first | omega | (simp; done) | (simp; omega)))) | (refine Below.trans ?_ (Below.mono hb10 (by first | omega | (simp; done) | (simp; omega)))) | (refine Below.trans ?_ (Below.mono hb11 (by first | omega | (simp; done) | (simp; omega)))) | (refine Below.trans ?_ (Below.mono hb12 (by first | omega | (simp; done) | (simp; omega))))))⟩

theorem opens_any {w : World} {g b cap : Nat} {P : Pl} (h : PL w g b cap P) (i : Int) :
    Calls Try.prog 105 #[.pointer (some ⟨g, 0, none⟩), .int .i64 i] w fun e w' => e = .returned (.bool (P.opens i)) ∧ Below w.heap.size w w' := by
  have ha := P.ofF_attr i
  have E := Lib.hid (show P.opens i = (P.ofB i && ((P.ofF i).start == i && (decide (0 < (P.ofF i).len) && !prot (P.ofF i).attr))) from rfl)
  cases hB : P.ofB i
  · go_enter Try.func105, Try.ntmps105
    go_wp2_with fail
    refine (Of_any h _).mono ?_
    rintro e w1 ⟨rfl, hb1⟩
    have hz1 := hb1.size
    try simp only [World.size_alloc, World.size_drew, World.size_setCell] at hz1
    obtain ⟨hc1, hf1⟩ := bcell hb1
    go_wp2
    go_ret
    exact ⟨by rw [E.out, hB]; rfl, by with_reducible (repeat (first | exact Below.refl _ _ | assumption | (refine Below.setCell ?_ (by first | omega | (simp; done) | (simp; omega)) _) | (refine Below.alloc ?_ (by first | omega | (simp; done) | (simp; omega)) _) | (refine below_drewN ?_ _) | (refine Below.drew ?_) | (refine Below.trans ?_ (Below.mono hb (by first | omega | (simp; done) | (simp; omega)))) | (refine Below.trans ?_ (Below.mono hb1 (by first | omega | (simp; done) | (simp; omega)))) | (refine Below.trans ?_ (Below.mono hb2 (by first | omega | (simp; done) | (simp; omega)))) | (refine Below.trans ?_ (Below.mono hb3 (by first | omega | (simp; done) | (simp; omega)))) | (refine Below.trans ?_ (Below.mono hb4 (by first | omega | (simp; done) | (simp; omega)))) | (refine Below.trans ?_ (Below.mono hb5 (by first | omega | (simp; done) | (simp; omega)))) | (refine Below.trans ?_ (Below.mono hb6 (by first | omega | (simp; done) | (simp; omega)))) | (refine Below.trans ?_ (Below.mono hb7 (by first | omega | (simp; done) | (simp; omega)))) | (refine Below.trans ?_ (Below.mono hb8 (by first | omega | (simp; done) | (simp; omega)))) | (refine Below.trans ?_ (Below.mono hb9 (by first | omega | (simp; done) | (simp; omega)))) | (refine Below.trans ?_ (Below.mono hb10 (by first | omega | (simp; done) | (simp; omega)))) | (refine Below.trans ?_ (Below.mono hb11 (by first | omega | (simp; done) | (simp; omega)))) | (refine Below.trans ?_ (Below.mono hb12 (by first | omega | (simp; done) | (simp; omega))))))⟩
  · cases hs : (P.ofF i).start == i
    · go_enter Try.func105, Try.ntmps105
      go_wp2_with fail
      refine (Of_any h _).mono ?_
      rintro e w1 ⟨rfl, hb1⟩
      have hz1 := hb1.size
      try simp only [World.size_alloc, World.size_drew, World.size_setCell] at hz1
      obtain ⟨hc1, hf1⟩ := bcell hb1
      go_wp2
      go_ret
      exact ⟨by rw [E.out, hB, hs]; rfl, by with_reducible (repeat (first | exact Below.refl _ _ | assumption | (refine Below.setCell ?_ (by first | omega | (simp; done) | (simp; omega)) _) | (refine Below.alloc ?_ (by first | omega | (simp; done) | (simp; omega)) _) | (refine below_drewN ?_ _) | (refine Below.drew ?_) | (refine Below.trans ?_ (Below.mono hb (by first | omega | (simp; done) | (simp; omega)))) | (refine Below.trans ?_ (Below.mono hb1 (by first | omega | (simp; done) | (simp; omega)))) | (refine Below.trans ?_ (Below.mono hb2 (by first | omega | (simp; done) | (simp; omega)))) | (refine Below.trans ?_ (Below.mono hb3 (by first | omega | (simp; done) | (simp; omega)))) | (refine Below.trans ?_ (Below.mono hb4 (by first | omega | (simp; done) | (simp; omega)))) | (refine Below.trans ?_ (Below.mono hb5 (by first | omega | (simp; done) | (simp; omega)))) | (refine Below.trans ?_ (Below.mono hb6 (by first | omega | (simp; done) | (simp; omega)))) | (refine Below.trans ?_ (Below.mono hb7 (by first | omega | (simp; done) | (simp; omega)))) | (refine Below.trans ?_ (Below.mono hb8 (by first | omega | (simp; done) | (simp; omega)))) | (refine Below.trans ?_ (Below.mono hb9 (by first | omega | (simp; done) | (simp; omega)))) | (refine Below.trans ?_ (Below.mono hb10 (by first | omega | (simp; done) | (simp; omega)))) | (refine Below.trans ?_ (Below.mono hb11 (by first | omega | (simp; done) | (simp; omega)))) | (refine Below.trans ?_ (Below.mono hb12 (by first | omega | (simp; done) | (simp; omega))))))⟩
    · cases hl : decide (0 < (P.ofF i).len)
      · go_enter Try.func105, Try.ntmps105
        go_wp2_with fail
        refine (Of_any h _).mono ?_
        rintro e w1 ⟨rfl, hb1⟩
        have hz1 := hb1.size
        try simp only [World.size_alloc, World.size_drew, World.size_setCell] at hz1
        obtain ⟨hc1, hf1⟩ := bcell hb1
        go_wp2
        go_ret
        exact ⟨by rw [E.out, hB, hs, hl]; rfl, by with_reducible (repeat (first | exact Below.refl _ _ | assumption | (refine Below.setCell ?_ (by first | omega | (simp; done) | (simp; omega)) _) | (refine Below.alloc ?_ (by first | omega | (simp; done) | (simp; omega)) _) | (refine below_drewN ?_ _) | (refine Below.drew ?_) | (refine Below.trans ?_ (Below.mono hb (by first | omega | (simp; done) | (simp; omega)))) | (refine Below.trans ?_ (Below.mono hb1 (by first | omega | (simp; done) | (simp; omega)))) | (refine Below.trans ?_ (Below.mono hb2 (by first | omega | (simp; done) | (simp; omega)))) | (refine Below.trans ?_ (Below.mono hb3 (by first | omega | (simp; done) | (simp; omega)))) | (refine Below.trans ?_ (Below.mono hb4 (by first | omega | (simp; done) | (simp; omega)))) | (refine Below.trans ?_ (Below.mono hb5 (by first | omega | (simp; done) | (simp; omega)))) | (refine Below.trans ?_ (Below.mono hb6 (by first | omega | (simp; done) | (simp; omega)))) | (refine Below.trans ?_ (Below.mono hb7 (by first | omega | (simp; done) | (simp; omega)))) | (refine Below.trans ?_ (Below.mono hb8 (by first | omega | (simp; done) | (simp; omega)))) | (refine Below.trans ?_ (Below.mono hb9 (by first | omega | (simp; done) | (simp; omega)))) | (refine Below.trans ?_ (Below.mono hb10 (by first | omega | (simp; done) | (simp; omega)))) | (refine Below.trans ?_ (Below.mono hb11 (by first | omega | (simp; done) | (simp; omega)))) | (refine Below.trans ?_ (Below.mono hb12 (by first | omega | (simp; done) | (simp; omega))))))⟩
      · go_enter Try.func105, Try.ntmps105
        go_wp2_with fail
        refine (Of_any h _).mono ?_
        rintro e w1 ⟨rfl, hb1⟩
        have hz1 := hb1.size
        try simp only [World.size_alloc, World.size_drew, World.size_setCell] at hz1
        obtain ⟨hc1, hf1⟩ := bcell hb1
        go_wp2_with fail
        refine (Protected_any _ _ ha).mono ?_
        rintro e w2 ⟨rfl, hb2⟩
        have hz2 := hb2.size
        try simp only [World.size_alloc, World.size_drew, World.size_setCell] at hz2
        obtain ⟨hc2, hf2⟩ := bcell hb2
        go_wp2
        go_ret
        exact ⟨by rw [E.out, hB, hs, hl]; rfl, by with_reducible (repeat (first | exact Below.refl _ _ | assumption | (refine Below.setCell ?_ (by first | omega | (simp; done) | (simp; omega)) _) | (refine Below.alloc ?_ (by first | omega | (simp; done) | (simp; omega)) _) | (refine below_drewN ?_ _) | (refine Below.drew ?_) | (refine Below.trans ?_ (Below.mono hb (by first | omega | (simp; done) | (simp; omega)))) | (refine Below.trans ?_ (Below.mono hb1 (by first | omega | (simp; done) | (simp; omega)))) | (refine Below.trans ?_ (Below.mono hb2 (by first | omega | (simp; done) | (simp; omega)))) | (refine Below.trans ?_ (Below.mono hb3 (by first | omega | (simp; done) | (simp; omega)))) | (refine Below.trans ?_ (Below.mono hb4 (by first | omega | (simp; done) | (simp; omega)))) | (refine Below.trans ?_ (Below.mono hb5 (by first | omega | (simp; done) | (simp; omega)))) | (refine Below.trans ?_ (Below.mono hb6 (by first | omega | (simp; done) | (simp; omega)))) | (refine Below.trans ?_ (Below.mono hb7 (by first | omega | (simp; done) | (simp; omega)))) | (refine Below.trans ?_ (Below.mono hb8 (by first | omega | (simp; done) | (simp; omega)))) | (refine Below.trans ?_ (Below.mono hb9 (by first | omega | (simp; done) | (simp; omega)))) | (refine Below.trans ?_ (Below.mono hb10 (by first | omega | (simp; done) | (simp; omega)))) | (refine Below.trans ?_ (Below.mono hb11 (by first | omega | (simp; done) | (simp; omega)))) | (refine Below.trans ?_ (Below.mono hb12 (by first | omega | (simp; done) | (simp; omega))))))⟩

theorem by_any {w : World} {g b cap : Nat} {P : Pl} (h : PL w g b cap P) (x y : Int) :
    Calls Try.prog 103 #[.pointer (some ⟨g, 0, none⟩), .int .i64 x, .int .i64 y] w fun e w' => e = .returned (.int .i64 ((x + y) % (P.cells.length : Int))) ∧ Below w.heap.size w w' := by
  go_enter Try.func103, Try.ntmps103
  go_wp2_with fail
  refine (Size_any h).mono ?_
  rintro e w1 ⟨rfl, hb1⟩
  have hz1 := hb1.size
  try simp only [World.size_alloc, World.size_drew, World.size_setCell] at hz1
  obtain ⟨hc1, hf1⟩ := bcell hb1
  go_wp2_with fail
  refine (Move_P h.ok _ _ _).mono ?_
  rintro e w2 ⟨rfl, hb2⟩
  replace hb2 := Below.trans hb1 (Below.mono hb2 hb1.size)
  clear hc1 hf1
  have hz2 := hb2.size
  try simp only [World.size_alloc, World.size_drew, World.size_setCell] at hz2
  obtain ⟨hc2, hf2⟩ := bcell hb2
  go_wp2
  go_ret
  exact ⟨rfl, by with_reducible (repeat (first | exact Below.refl _ _ | assumption | (refine Below.setCell ?_ (by first | omega | (simp; done) | (simp; omega)) _) | (refine Below.alloc ?_ (by first | omega | (simp; done) | (simp; omega)) _) | (refine below_drewN ?_ _) | (refine Below.drew ?_) | (refine Below.trans ?_ (Below.mono hb (by first | omega | (simp; done) | (simp; omega)))) | (refine Below.trans ?_ (Below.mono hb1 (by first | omega | (simp; done) | (simp; omega)))) | (refine Below.trans ?_ (Below.mono hb2 (by first | omega | (simp; done) | (simp; omega)))) | (refine Below.trans ?_ (Below.mono hb3 (by first | omega | (simp; done) | (simp; omega)))) | (refine Below.trans ?_ (Below.mono hb4 (by first | omega | (simp; done) | (simp; omega)))) | (refine Below.trans ?_ (Below.mono hb5 (by first | omega | (simp; done) | (simp; omega)))) | (refine Below.trans ?_ (Below.mono hb6 (by first | omega | (simp; done) | (simp; omega)))) | (refine Below.trans ?_ (Below.mono hb7 (by first | omega | (simp; done) | (simp; omega)))) | (refine Below.trans ?_ (Below.mono hb8 (by first | omega | (simp; done) | (simp; omega)))) | (refine Below.trans ?_ (Below.mono hb9 (by first | omega | (simp; done) | (simp; omega)))) | (refine Below.trans ?_ (Below.mono hb10 (by first | omega | (simp; done) | (simp; omega)))) | (refine Below.trans ?_ (Below.mono hb11 (by first | omega | (simp; done) | (simp; omega)))) | (refine Below.trans ?_ (Below.mono hb12 (by first | omega | (simp; done) | (simp; omega))))))⟩

theorem to_in {w : World} {g b cap : Nat} {P : Pl} (h : PL w g b cap P) (i : Int) (i0 : 0 ≤ i) (i1 : i < (P.cells.length : Int)) :
    Calls Try.prog 102 #[.pointer (some ⟨g, 0, none⟩), .int .i64 i] w fun e w' => e = .returned (.int .i64 i) ∧ PL w' g b cap (P.point i) ∧ Chg (· = g) w w' := by
  go_enter Try.func102, Try.ntmps102
  go_wp2_with fail
  refine (Point_in h _ i0 i1).mono ?_
  rintro e w1 ⟨rfl, hP, hk⟩
  go_wp2
  go_ret
  exact ⟨rfl, hP, hk⟩

/-- The first place of an open field, looked for from a place on. -/
def Pl.seek (P : Pl) (a s : Int) : Int :=
  match srch P.cells.length (fun i => P.opens ((a + (i : Int) * s) % (P.cells.length : Int))) with
  | some i => (a + (i : Int) * s + 1) % (P.cells.length : Int)
  | none => 0
theorem Pl.seek_range {P : Pl} (hok : P.ok) (a s : Int) : 0 ≤ P.seek a s ∧ P.seek a s < (P.cells.length : Int) := by
  have hn := Pl.N_pos hok
  unfold Pl.seek
  split
  · exact ⟨Int.emod_nonneg _ (by omega), Int.emod_lt_of_pos _ (by omega)⟩
  · omega

set_option maxRecDepth 100000 in
theorem seek_any {w : World} {g b cap : Nat} {P : Pl} (h : PL w g b cap P) (a s : Int) (hs : s = 1 ∨ s = -1) :
    Calls Try.prog 104 #[.pointer (some ⟨g, 0, none⟩), .int .i64 a, .int .i64 s] w fun e w' => e = .returned (.int .i64 (P.seek a s)) ∧ Below w.heap.size w w' := by
  have hm := Pl.N_le h.ok
  go_enter Try.func104, Try.ntmps104
  go_wp2_with fail
  refine (Len_any h).mono ?_
  rintro e w1 ⟨rfl, hb1⟩
  have hz1 := hb1.size
  try simp only [World.size_alloc, World.size_drew, World.size_setCell] at hz1
  obtain ⟨hc1, hf1⟩ := bcell hb1
  have hB1 := hb1
  clear hc1 hf1 hb1
  go_wp2
  go_loopw [11] (fun i wr => ∃ k : Nat, k ≤ P.cells.length ∧ i = .int .i64 (k : Int) ∧ Below w.heap.size w wr ∧ ∀ j, j < k → P.opens ((a + (j : Int) * s) % (P.cells.length : Int)) = false) (fun i _ => P.cells.length - (intOf i).toNat)
  case atStart => exact ⟨0, Nat.zero_le _, rfl, hB1, fun j hj => absurd hj (Nat.not_lt_zero _)⟩
  case round =>
    obtain ⟨k, hk, rfl, hB, hf⟩ := hrel
    have HF := Lib.hid hf
    clear hf
    have hzB := hB.size
    by_cases hlt : k < P.cells.length
    · have hmul : wrap64 ((k : Int) * s) = (k : Int) * s := by rcases hs with rfl | rfl <;> exact wrap_in (by omega) (by omega)
      go_wp2_with fail
      refine (by_any (h.below hB) _ _).mono ?_
      rintro e w3 ⟨rfl, hb3⟩
      have hz3 := hb3.size
      try simp only [World.size_alloc, World.size_drew, World.size_setCell] at hz3
      obtain ⟨hc3, hf3⟩ := bcell hb3
      clear hmul
      go_wp2_with fail
      refine (opens_any (h.below (by with_reducible (repeat (first | exact Below.refl _ _ | assumption | (refine Below.setCell ?_ (by first | omega | (simp; done) | (simp; omega)) _) | (refine Below.alloc ?_ (by first | omega | (simp; done) | (simp; omega)) _) | (refine below_drewN ?_ _) | (refine Below.drew ?_) | (refine Below.trans ?_ (Below.mono hb (by first | omega | (simp; done) | (simp; omega)))) | (refine Below.trans ?_ (Below.mono hb1 (by first | omega | (simp; done) | (simp; omega)))) | (refine Below.trans ?_ (Below.mono hb2 (by first | omega | (simp; done) | (simp; omega)))) | (refine Below.trans ?_ (Below.mono hb3 (by first | omega | (simp; done) | (simp; omega)))) | (refine Below.trans ?_ (Below.mono hb4 (by first | omega | (simp; done) | (simp; omega)))) | (refine Below.trans ?_ (Below.mono hb5 (by first | omega | (simp; done) | (simp; omega)))) | (refine Below.trans ?_ (Below.mono hb6 (by first | omega | (simp; done) | (simp; omega)))) | (refine Below.trans ?_ (Below.mono hb7 (by first | omega | (simp; done) | (simp; omega)))) | (refine Below.trans ?_ (Below.mono hb8 (by first | omega | (simp; done) | (simp; omega)))) | (refine Below.trans ?_ (Below.mono hb9 (by first | omega | (simp; done) | (simp; omega)))) | (refine Below.trans ?_ (Below.mono hb10 (by first | omega | (simp; done) | (simp; omega)))) | (refine Below.trans ?_ (Below.mono hb11 (by first | omega | (simp; done) | (simp; omega)))) | (refine Below.trans ?_ (Below.mono hb12 (by first | omega | (simp; done) | (simp; omega)))))))) _).mono ?_
      rintro e w4 ⟨rfl, hb4⟩
      replace hb4 := Below.trans hb3 (Below.mono hb4 hb3.size)
      clear hc3 hf3
      have hz4 := hb4.size
      try simp only [World.size_alloc, World.size_drew, World.size_setCell] at hz4
      obtain ⟨hc4, hf4⟩ := bcell hb4
      have hB5 : Below w.heap.size w w4 := by with_reducible (repeat (first | exact Below.refl _ _ | assumption | (refine Below.setCell ?_ (by first | omega | (simp; done) | (simp; omega)) _) | (refine Below.alloc ?_ (by first | omega | (simp; done) | (simp; omega)) _) | (refine below_drewN ?_ _) | (refine Below.drew ?_) | (refine Below.trans ?_ (Below.mono hb (by first | omega | (simp; done) | (simp; omega)))) | (refine Below.trans ?_ (Below.mono hb1 (by first | omega | (simp; done) | (simp; omega)))) | (refine Below.trans ?_ (Below.mono hb2 (by first | omega | (simp; done) | (simp; omega)))) | (refine Below.trans ?_ (Below.mono hb3 (by first | omega | (simp; done) | (simp; omega)))) | (refine Below.trans ?_ (Below.mono hb4 (by first | omega | (simp; done) | (simp; omega)))) | (refine Below.trans ?_ (Below.mono hb5 (by first | omega | (simp; done) | (simp; omega)))) | (refine Below.trans ?_ (Below.mono hb6 (by first | omega | (simp; done) | (simp; omega)))) | (refine Below.trans ?_ (Below.mono hb7 (by first | omega | (simp; done) | (simp; omega)))) | (refine Below.trans ?_ (Below.mono hb8 (by first | omega | (simp; done) | (simp; omega)))) | (refine Below.trans ?_ (Below.mono hb9 (by first | omega | (simp; done) | (simp; omega)))) | (refine Below.trans ?_ (Below.mono hb10 (by first | omega | (simp; done) | (simp; omega)))) | (refine Below.trans ?_ (Below.mono hb11 (by first | omega | (simp; done) | (simp; omega)))) | (refine Below.trans ?_ (Below.mono hb12 (by first | omega | (simp; done) | (simp; omega))))))
      clear hc4 hf4
      cases hst : P.opens ((a + (k : Int) * s) % (P.cells.length : Int))
      · go_wp2
        go_roundw
        case rel => exact ⟨k + 1, by omega, by go_num, hB5, fun j hj => by rcases Nat.lt_succ_iff_lt_or_eq.1 hj with hj | rfl; exact HF.out j hj; exact hst⟩
        case measure => simp [intOf]; omega
      · go_wp2_with fail
        refine (by_any (h.below hB5) _ _).mono ?_
        rintro e w5 ⟨rfl, hb5⟩
        have hz5 := hb5.size
        try simp only [World.size_alloc, World.size_drew, World.size_setCell] at hz5
        obtain ⟨hc5, hf5⟩ := bcell hb5
        have HS := Lib.hid hst
        clear hst
        go_wp2
        go_ret
        exact ⟨by unfold Pl.seek; rw [srch_some hlt HS.out HF.out]; rfl, by with_reducible (repeat (first | exact Below.refl _ _ | assumption | (refine Below.setCell ?_ (by first | omega | (simp; done) | (simp; omega)) _) | (refine Below.alloc ?_ (by first | omega | (simp; done) | (simp; omega)) _) | (refine below_drewN ?_ _) | (refine Below.drew ?_) | (refine Below.trans ?_ (Below.mono hb (by first | omega | (simp; done) | (simp; omega)))) | (refine Below.trans ?_ (Below.mono hb1 (by first | omega | (simp; done) | (simp; omega)))) | (refine Below.trans ?_ (Below.mono hb2 (by first | omega | (simp; done) | (simp; omega)))) | (refine Below.trans ?_ (Below.mono hb3 (by first | omega | (simp; done) | (simp; omega)))) | (refine Below.trans ?_ (Below.mono hb4 (by first | omega | (simp; done) | (simp; omega)))) | (refine Below.trans ?_ (Below.mono hb5 (by first | omega | (simp; done) | (simp; omega)))) | (refine Below.trans ?_ (Below.mono hb6 (by first | omega | (simp; done) | (simp; omega)))) | (refine Below.trans ?_ (Below.mono hb7 (by first | omega | (simp; done) | (simp; omega)))) | (refine Below.trans ?_ (Below.mono hb8 (by first | omega | (simp; done) | (simp; omega)))) | (refine Below.trans ?_ (Below.mono hb9 (by first | omega | (simp; done) | (simp; omega)))) | (refine Below.trans ?_ (Below.mono hb10 (by first | omega | (simp; done) | (simp; omega)))) | (refine Below.trans ?_ (Below.mono hb11 (by first | omega | (simp; done) | (simp; omega)))) | (refine Below.trans ?_ (Below.mono hb12 (by first | omega | (simp; done) | (simp; omega))))))⟩
    · go_wp2
      go_ret
      exact ⟨by unfold Pl.seek; rw [srch_none (fun j hj => HF.out j (by omega))]; rfl, hB⟩
end Go.Proofs.Ytbkddgeocmkegaa
