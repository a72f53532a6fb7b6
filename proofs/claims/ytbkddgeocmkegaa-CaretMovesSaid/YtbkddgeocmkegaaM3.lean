/- Lemmas on the way to this seat's statements; they bear no condition of their own. -/
import Derived.Test.YtbkddgeocmkegaaM2
namespace Go.Proofs.Ytbkddgeocmkegaa
open Go.RowKit Go.Shelf
set_option linter.unusedSimpArgs false
set_option linter.unusedVariables false
set_option maxHeartbeats 8000000
attribute [local go_sem ↓] run_start run_byte run_cols

theorem samePl_point (P : Pl) (i : Int) : SamePl P ((P.point i).point P.cursor) = true := by
  unfold SamePl
  simp [Pl.point]
theorem home_range {P : Pl} (hok : P.ok) : 0 ≤ P.home ∧ P.home < (P.cells.length : Int) := by
  have hn := Pl.N_pos hok
  unfold Pl.home
  split
  · exact Pl.emod_range hok _
  · omega
theorem not_good {r c : Int} (h : ¬ (goodSize r c = true ∧ r * c ≤ 60)) : goodSize r c = false ∨ (goodSize r c = true ∧ 60 < r * c) := by
  cases e : goodSize r c
  · exact .inl rfl
  · exact .inr ⟨rfl, by rw [e] at h; simp at h; exact h⟩

set_option maxRecDepth 100000 in
theorem caretMoves_walk (w : World) (r c a rows cols : Int) (ao : Option Addr) (cs : List Cell) (cap0 : Nat) (hA : ARow w ao cs) :
    Calls Try.prog 6 #[.agg #[.int .i64 r, .int .i64 c], .slice ao cs.length cap0, .int .i64 a, .int .i64 rows, .int .i64 cols] w fun e w' => e = .returned (.bool true) ∧ Below w.heap.size w w' := by
  by_cases h : goodSize r c = true ∧ r * c ≤ 60
  · obtain ⟨h1, h2⟩ := h
    obtain ⟨P, hP⟩ : ∃ P, ((Pl.new r c).fill cs).point (a % 256 % (r * c)) = P := ⟨_, rfl⟩
    go_enter Try.func6, Try.ntmps6
    go_wp2_with fail
    refine (alive19_any _).mono ?_
    rintro e w1 ⟨rfl, hb1⟩
    have hB1 : Below w.heap.size w w1 := by with_reducible (repeat (first | exact Below.refl _ _ | assumption | (refine Below.setCell ?_ (by first | omega | (simp; done) | (simp; omega)) _) | (refine Below.alloc ?_ (by first | omega | (simp; done) | (simp; omega)) _) | (refine below_drewN ?_ _) | (refine Below.drew ?_) | (refine Below.trans ?_ (Below.mono hb (by first | omega | (simp; done) | (simp; omega)))) | (refine Below.trans ?_ (Below.mono hb1 (by first | omega | (simp; done) | (simp; omega)))) | (refine Below.trans ?_ (Below.mono hb2 (by first | omega | (simp; done) | (simp; omega)))) | (refine Below.trans ?_ (Below.mono hb3 (by first | omega | (simp; done) | (simp; omega)))) | (refine Below.trans ?_ (Below.mono hb4 (by first | omega | (simp; done) | (simp; omega)))) | (refine Below.trans ?_ (Below.mono hb5 (by first | omega | (simp; done) | (simp; omega)))) | (refine Below.trans ?_ (Below.mono hb6 (by first | omega | (simp; done) | (simp; omega)))) | (refine Below.trans ?_ (Below.mono hb7 (by first | omega | (simp; done) | (simp; omega)))) | (refine Below.trans ?_ (Below.mono hb8 (by first | omega | (simp; done) | (simp; omega)))) | (refine Below.trans ?_ (Below.mono hb9 (by first | omega | (simp; done) | (simp; omega)))) | (refine Below.trans ?_ (Below.mono hb10 (by first | omega | (simp; done) | (simp; omega)))) | (refine Below.trans ?_ (Below.mono hb11 (by first | omega | (simp; done) | (simp; omega)))) | (refine Below.trans ?_ (Below.mono hb12 (by first | omega | (simp; done) | (simp; omega))))))
    have s0 : w1.cell? ⟨w.heap.size, 0, none⟩ = some (.int .i64 r) := (hb1.cell (by simp)).trans (by simp [go_sem])
    have s1 : w1.cell? ⟨w.heap.size, 1, none⟩ = some (.int .i64 c) := (hb1.cell (by simp)).trans (by simp [go_sem])
    have hA1 := hA.below hB1
    clear hb1
    go_wp2_with fail
    refine (made19_in r c a ao cs cap0 hA1 h1 h2).mono ?_
    rw [hP]
    rintro e w2 ⟨g, b, cap, b', cap', rfl, hP2, hR2, hgg, hgb, hgb', hn1, hn2, hb2⟩
    have hB2 : Below w.heap.size w w2 := hB1.trans (hb2.mono hB1.size)
    have hok := hP2.ok
    obtain ⟨hh0, hh1⟩ := home_range hok
    have hk1 := hok.k1
    have hk2 := hok.k2
    rw [← hok.len] at hk2
    clear s0 s1 hA1 hB1 hb2 hP
    go_wp2
    obtain ⟨W, hW⟩ : ∃ W, w2.alloc (.cells #[.int .i64 P.rows, .int .i64 P.cols, .slice (some ⟨b', 0, none⟩) P.cells.length cap', .int .i64 P.cursor] 77) = W := ⟨_, rfl⟩
    have hBW : Below w2.heap.size w2 W := by rw [← hW]; exact (Below.refl _ _).alloc (Nat.le_refl _) _
    have hzW : W.heap.size = w2.heap.size + 1 := by rw [← hW]; simp
    have X := Box4.new w2 (.int .i64 P.rows) (.int .i64 P.cols) (.slice (some ⟨b', 0, none⟩) P.cells.length cap') (.int .i64 P.cursor) 77
    rw [hW] at X ⊢
    obtain ⟨c0, c1, c2, c3, -, -, -, -⟩ := X
    have hPW := hP2.below hBW
    have hRW := hR2.below hBW
    have hBw : Below w.heap.size w W := hB2.trans (hBW.mono hB2.size)
    clear hP2 hR2 hBW hW
    go_region_held3 (fun w' => w'.cell? ⟨w2.heap.size, 0, none⟩ = some (.int .i64 P.rows) ∧ w'.cell? ⟨w2.heap.size, 1, none⟩ = some (.int .i64 P.cols) ∧ w'.cell? ⟨w2.heap.size, 2, none⟩ = some (.slice (some ⟨b', 0, none⟩) P.cells.length cap') ∧ w'.cell? ⟨w2.heap.size, 3, none⟩ = some (.int .i64 P.cursor))
      (first | exact keep4 (by assumption) hb6 | exact keep4 (by assumption) hb5 | exact keep4 (by assumption) hb4 | exact keep4 (by assumption) hb3 | exact keep4 (by assumption) hb2 | exact keep4 (by assumption) hb1 | go_keep)
      (first
        | (go_at_call 35; refine (rMove19_any (hRW.below (by with_reducible (repeat (first | exact Below.refl _ _ | assumption | (refine Below.setCell ?_ (by first | omega | (simp; done) | (simp; omega)) _) | (refine Below.alloc ?_ (by first | omega | (simp; done) | (simp; omega)) _) | (refine below_drewN ?_ _) | (refine Below.drew ?_) | (refine Below.trans ?_ (Below.mono hb (by first | omega | (simp; done) | (simp; omega)))) | (refine Below.trans ?_ (Below.mono hb1 (by first | omega | (simp; done) | (simp; omega)))) | (refine Below.trans ?_ (Below.mono hb2 (by first | omega | (simp; done) | (simp; omega)))) | (refine Below.trans ?_ (Below.mono hb3 (by first | omega | (simp; done) | (simp; omega)))) | (refine Below.trans ?_ (Below.mono hb4 (by first | omega | (simp; done) | (simp; omega)))) | (refine Below.trans ?_ (Below.mono hb5 (by first | omega | (simp; done) | (simp; omega)))) | (refine Below.trans ?_ (Below.mono hb6 (by first | omega | (simp; done) | (simp; omega)))) | (refine Below.trans ?_ (Below.mono hb7 (by first | omega | (simp; done) | (simp; omega)))) | (refine Below.trans ?_ (Below.mono hb8 (by first | omega | (simp; done) | (simp; omega)))) | (refine Below.trans ?_ (Below.mono hb9 (by first | omega | (simp; done) | (simp; omega)))) | (refine Below.trans ?_ (Below.mono hb10 (by first | omega | (simp; done) | (simp; omega)))) | (refine Below.trans ?_ (Below.mono hb11 (by first | omega | (simp; done) | (simp; omega)))) | (refine Below.trans ?_ (Below.mono hb12 (by first | omega | (simp; done) | (simp; omega)))))))) _ _).mono ?_; rintro e w11 ⟨rfl, hb1⟩; have hBx1 : Below W.heap.size W w11 := (by with_reducible (repeat (first | exact Below.refl _ _ | assumption | (refine Below.setCell ?_ (by first | omega | (simp; done) | (simp; omega)) _) | (refine Below.alloc ?_ (by first | omega | (simp; done) | (simp; omega)) _) | (refine below_drewN ?_ _) | (refine Below.drew ?_) | (refine Below.trans ?_ (Below.mono hb (by first | omega | (simp; done) | (simp; omega)))) | (refine Below.trans ?_ (Below.mono hb1 (by first | omega | (simp; done) | (simp; omega)))) | (refine Below.trans ?_ (Below.mono hb2 (by first | omega | (simp; done) | (simp; omega)))) | (refine Below.trans ?_ (Below.mono hb3 (by first | omega | (simp; done) | (simp; omega)))) | (refine Below.trans ?_ (Below.mono hb4 (by first | omega | (simp; done) | (simp; omega)))) | (refine Below.trans ?_ (Below.mono hb5 (by first | omega | (simp; done) | (simp; omega)))) | (refine Below.trans ?_ (Below.mono hb6 (by first | omega | (simp; done) | (simp; omega)))) | (refine Below.trans ?_ (Below.mono hb7 (by first | omega | (simp; done) | (simp; omega)))) | (refine Below.trans ?_ (Below.mono hb8 (by first | omega | (simp; done) | (simp; omega)))) | (refine Below.trans ?_ (Below.mono hb9 (by first | omega | (simp; done) | (simp; omega)))) | (refine Below.trans ?_ (Below.mono hb10 (by first | omega | (simp; done) | (simp; omega)))) | (refine Below.trans ?_ (Below.mono hb11 (by first | omega | (simp; done) | (simp; omega)))) | (refine Below.trans ?_ (Below.mono hb12 (by first | omega | (simp; done) | (simp; omega))))))); have hz1 := hBx1.size)
        | (go_at_call 36; refine (rTab_in (hRW.below (by with_reducible (repeat (first | exact Below.refl _ _ | assumption | (refine Below.setCell ?_ (by first | omega | (simp; done) | (simp; omega)) _) | (refine Below.alloc ?_ (by first | omega | (simp; done) | (simp; omega)) _) | (refine below_drewN ?_ _) | (refine Below.drew ?_) | (refine Below.trans ?_ (Below.mono hb (by first | omega | (simp; done) | (simp; omega)))) | (refine Below.trans ?_ (Below.mono hb1 (by first | omega | (simp; done) | (simp; omega)))) | (refine Below.trans ?_ (Below.mono hb2 (by first | omega | (simp; done) | (simp; omega)))) | (refine Below.trans ?_ (Below.mono hb3 (by first | omega | (simp; done) | (simp; omega)))) | (refine Below.trans ?_ (Below.mono hb4 (by first | omega | (simp; done) | (simp; omega)))) | (refine Below.trans ?_ (Below.mono hb5 (by first | omega | (simp; done) | (simp; omega)))) | (refine Below.trans ?_ (Below.mono hb6 (by first | omega | (simp; done) | (simp; omega)))) | (refine Below.trans ?_ (Below.mono hb7 (by first | omega | (simp; done) | (simp; omega)))) | (refine Below.trans ?_ (Below.mono hb8 (by first | omega | (simp; done) | (simp; omega)))) | (refine Below.trans ?_ (Below.mono hb9 (by first | omega | (simp; done) | (simp; omega)))) | (refine Below.trans ?_ (Below.mono hb10 (by first | omega | (simp; done) | (simp; omega)))) | (refine Below.trans ?_ (Below.mono hb11 (by first | omega | (simp; done) | (simp; omega)))) | (refine Below.trans ?_ (Below.mono hb12 (by first | omega | (simp; done) | (simp; omega)))))))) _ hk1 hk2).mono ?_; rw [show P.seek P.cursor 1 = P.tab from rfl]; rintro e w12 ⟨rfl, hb2⟩; have hBx2 : Below W.heap.size W w12 := (by with_reducible (repeat (first | exact Below.refl _ _ | assumption | (refine Below.setCell ?_ (by first | omega | (simp; done) | (simp; omega)) _) | (refine Below.alloc ?_ (by first | omega | (simp; done) | (simp; omega)) _) | (refine below_drewN ?_ _) | (refine Below.drew ?_) | (refine Below.trans ?_ (Below.mono hb (by first | omega | (simp; done) | (simp; omega)))) | (refine Below.trans ?_ (Below.mono hb1 (by first | omega | (simp; done) | (simp; omega)))) | (refine Below.trans ?_ (Below.mono hb2 (by first | omega | (simp; done) | (simp; omega)))) | (refine Below.trans ?_ (Below.mono hb3 (by first | omega | (simp; done) | (simp; omega)))) | (refine Below.trans ?_ (Below.mono hb4 (by first | omega | (simp; done) | (simp; omega)))) | (refine Below.trans ?_ (Below.mono hb5 (by first | omega | (simp; done) | (simp; omega)))) | (refine Below.trans ?_ (Below.mono hb6 (by first | omega | (simp; done) | (simp; omega)))) | (refine Below.trans ?_ (Below.mono hb7 (by first | omega | (simp; done) | (simp; omega)))) | (refine Below.trans ?_ (Below.mono hb8 (by first | omega | (simp; done) | (simp; omega)))) | (refine Below.trans ?_ (Below.mono hb9 (by first | omega | (simp; done) | (simp; omega)))) | (refine Below.trans ?_ (Below.mono hb10 (by first | omega | (simp; done) | (simp; omega)))) | (refine Below.trans ?_ (Below.mono hb11 (by first | omega | (simp; done) | (simp; omega)))) | (refine Below.trans ?_ (Below.mono hb12 (by first | omega | (simp; done) | (simp; omega))))))); have hz2 := hBx2.size)
        | (go_at_call 37; refine (rBack_any (hRW.below (by with_reducible (repeat (first | exact Below.refl _ _ | assumption | (refine Below.setCell ?_ (by first | omega | (simp; done) | (simp; omega)) _) | (refine Below.alloc ?_ (by first | omega | (simp; done) | (simp; omega)) _) | (refine below_drewN ?_ _) | (refine Below.drew ?_) | (refine Below.trans ?_ (Below.mono hb (by first | omega | (simp; done) | (simp; omega)))) | (refine Below.trans ?_ (Below.mono hb1 (by first | omega | (simp; done) | (simp; omega)))) | (refine Below.trans ?_ (Below.mono hb2 (by first | omega | (simp; done) | (simp; omega)))) | (refine Below.trans ?_ (Below.mono hb3 (by first | omega | (simp; done) | (simp; omega)))) | (refine Below.trans ?_ (Below.mono hb4 (by first | omega | (simp; done) | (simp; omega)))) | (refine Below.trans ?_ (Below.mono hb5 (by first | omega | (simp; done) | (simp; omega)))) | (refine Below.trans ?_ (Below.mono hb6 (by first | omega | (simp; done) | (simp; omega)))) | (refine Below.trans ?_ (Below.mono hb7 (by first | omega | (simp; done) | (simp; omega)))) | (refine Below.trans ?_ (Below.mono hb8 (by first | omega | (simp; done) | (simp; omega)))) | (refine Below.trans ?_ (Below.mono hb9 (by first | omega | (simp; done) | (simp; omega)))) | (refine Below.trans ?_ (Below.mono hb10 (by first | omega | (simp; done) | (simp; omega)))) | (refine Below.trans ?_ (Below.mono hb11 (by first | omega | (simp; done) | (simp; omega)))) | (refine Below.trans ?_ (Below.mono hb12 (by first | omega | (simp; done) | (simp; omega))))))))).mono ?_; rintro e w13 ⟨rfl, hb3⟩; have hBx3 : Below W.heap.size W w13 := (by with_reducible (repeat (first | exact Below.refl _ _ | assumption | (refine Below.setCell ?_ (by first | omega | (simp; done) | (simp; omega)) _) | (refine Below.alloc ?_ (by first | omega | (simp; done) | (simp; omega)) _) | (refine below_drewN ?_ _) | (refine Below.drew ?_) | (refine Below.trans ?_ (Below.mono hb (by first | omega | (simp; done) | (simp; omega)))) | (refine Below.trans ?_ (Below.mono hb1 (by first | omega | (simp; done) | (simp; omega)))) | (refine Below.trans ?_ (Below.mono hb2 (by first | omega | (simp; done) | (simp; omega)))) | (refine Below.trans ?_ (Below.mono hb3 (by first | omega | (simp; done) | (simp; omega)))) | (refine Below.trans ?_ (Below.mono hb4 (by first | omega | (simp; done) | (simp; omega)))) | (refine Below.trans ?_ (Below.mono hb5 (by first | omega | (simp; done) | (simp; omega)))) | (refine Below.trans ?_ (Below.mono hb6 (by first | omega | (simp; done) | (simp; omega)))) | (refine Below.trans ?_ (Below.mono hb7 (by first | omega | (simp; done) | (simp; omega)))) | (refine Below.trans ?_ (Below.mono hb8 (by first | omega | (simp; done) | (simp; omega)))) | (refine Below.trans ?_ (Below.mono hb9 (by first | omega | (simp; done) | (simp; omega)))) | (refine Below.trans ?_ (Below.mono hb10 (by first | omega | (simp; done) | (simp; omega)))) | (refine Below.trans ?_ (Below.mono hb11 (by first | omega | (simp; done) | (simp; omega)))) | (refine Below.trans ?_ (Below.mono hb12 (by first | omega | (simp; done) | (simp; omega))))))); have hz3 := hBx3.size)
        | (go_at_call 38; refine (rNewline_any (hRW.below (by with_reducible (repeat (first | exact Below.refl _ _ | assumption | (refine Below.setCell ?_ (by first | omega | (simp; done) | (simp; omega)) _) | (refine Below.alloc ?_ (by first | omega | (simp; done) | (simp; omega)) _) | (refine below_drewN ?_ _) | (refine Below.drew ?_) | (refine Below.trans ?_ (Below.mono hb (by first | omega | (simp; done) | (simp; omega)))) | (refine Below.trans ?_ (Below.mono hb1 (by first | omega | (simp; done) | (simp; omega)))) | (refine Below.trans ?_ (Below.mono hb2 (by first | omega | (simp; done) | (simp; omega)))) | (refine Below.trans ?_ (Below.mono hb3 (by first | omega | (simp; done) | (simp; omega)))) | (refine Below.trans ?_ (Below.mono hb4 (by first | omega | (simp; done) | (simp; omega)))) | (refine Below.trans ?_ (Below.mono hb5 (by first | omega | (simp; done) | (simp; omega)))) | (refine Below.trans ?_ (Below.mono hb6 (by first | omega | (simp; done) | (simp; omega)))) | (refine Below.trans ?_ (Below.mono hb7 (by first | omega | (simp; done) | (simp; omega)))) | (refine Below.trans ?_ (Below.mono hb8 (by first | omega | (simp; done) | (simp; omega)))) | (refine Below.trans ?_ (Below.mono hb9 (by first | omega | (simp; done) | (simp; omega)))) | (refine Below.trans ?_ (Below.mono hb10 (by first | omega | (simp; done) | (simp; omega)))) | (refine Below.trans ?_ (Below.mono hb11 (by first | omega | (simp; done) | (simp; omega)))) | (refine Below.trans ?_ (Below.mono hb12 (by first | omega | (simp; done) | (simp; omega))))))))).mono ?_; rintro e w14 ⟨rfl, hb4⟩; have hBx4 : Below W.heap.size W w14 := (by with_reducible (repeat (first | exact Below.refl _ _ | assumption | (refine Below.setCell ?_ (by first | omega | (simp; done) | (simp; omega)) _) | (refine Below.alloc ?_ (by first | omega | (simp; done) | (simp; omega)) _) | (refine below_drewN ?_ _) | (refine Below.drew ?_) | (refine Below.trans ?_ (Below.mono hb (by first | omega | (simp; done) | (simp; omega)))) | (refine Below.trans ?_ (Below.mono hb1 (by first | omega | (simp; done) | (simp; omega)))) | (refine Below.trans ?_ (Below.mono hb2 (by first | omega | (simp; done) | (simp; omega)))) | (refine Below.trans ?_ (Below.mono hb3 (by first | omega | (simp; done) | (simp; omega)))) | (refine Below.trans ?_ (Below.mono hb4 (by first | omega | (simp; done) | (simp; omega)))) | (refine Below.trans ?_ (Below.mono hb5 (by first | omega | (simp; done) | (simp; omega)))) | (refine Below.trans ?_ (Below.mono hb6 (by first | omega | (simp; done) | (simp; omega)))) | (refine Below.trans ?_ (Below.mono hb7 (by first | omega | (simp; done) | (simp; omega)))) | (refine Below.trans ?_ (Below.mono hb8 (by first | omega | (simp; done) | (simp; omega)))) | (refine Below.trans ?_ (Below.mono hb9 (by first | omega | (simp; done) | (simp; omega)))) | (refine Below.trans ?_ (Below.mono hb10 (by first | omega | (simp; done) | (simp; omega)))) | (refine Below.trans ?_ (Below.mono hb11 (by first | omega | (simp; done) | (simp; omega)))) | (refine Below.trans ?_ (Below.mono hb12 (by first | omega | (simp; done) | (simp; omega))))))); have hz4 := hBx4.size)
        | (go_at_call 39; refine (rHome_any (hRW.below (by with_reducible (repeat (first | exact Below.refl _ _ | assumption | (refine Below.setCell ?_ (by first | omega | (simp; done) | (simp; omega)) _) | (refine Below.alloc ?_ (by first | omega | (simp; done) | (simp; omega)) _) | (refine below_drewN ?_ _) | (refine Below.drew ?_) | (refine Below.trans ?_ (Below.mono hb (by first | omega | (simp; done) | (simp; omega)))) | (refine Below.trans ?_ (Below.mono hb1 (by first | omega | (simp; done) | (simp; omega)))) | (refine Below.trans ?_ (Below.mono hb2 (by first | omega | (simp; done) | (simp; omega)))) | (refine Below.trans ?_ (Below.mono hb3 (by first | omega | (simp; done) | (simp; omega)))) | (refine Below.trans ?_ (Below.mono hb4 (by first | omega | (simp; done) | (simp; omega)))) | (refine Below.trans ?_ (Below.mono hb5 (by first | omega | (simp; done) | (simp; omega)))) | (refine Below.trans ?_ (Below.mono hb6 (by first | omega | (simp; done) | (simp; omega)))) | (refine Below.trans ?_ (Below.mono hb7 (by first | omega | (simp; done) | (simp; omega)))) | (refine Below.trans ?_ (Below.mono hb8 (by first | omega | (simp; done) | (simp; omega)))) | (refine Below.trans ?_ (Below.mono hb9 (by first | omega | (simp; done) | (simp; omega)))) | (refine Below.trans ?_ (Below.mono hb10 (by first | omega | (simp; done) | (simp; omega)))) | (refine Below.trans ?_ (Below.mono hb11 (by first | omega | (simp; done) | (simp; omega)))) | (refine Below.trans ?_ (Below.mono hb12 (by first | omega | (simp; done) | (simp; omega))))))))).mono ?_; rintro e w15 ⟨rfl, hb5⟩; have hBx5 : Below W.heap.size W w15 := (by with_reducible (repeat (first | exact Below.refl _ _ | assumption | (refine Below.setCell ?_ (by first | omega | (simp; done) | (simp; omega)) _) | (refine Below.alloc ?_ (by first | omega | (simp; done) | (simp; omega)) _) | (refine below_drewN ?_ _) | (refine Below.drew ?_) | (refine Below.trans ?_ (Below.mono hb (by first | omega | (simp; done) | (simp; omega)))) | (refine Below.trans ?_ (Below.mono hb1 (by first | omega | (simp; done) | (simp; omega)))) | (refine Below.trans ?_ (Below.mono hb2 (by first | omega | (simp; done) | (simp; omega)))) | (refine Below.trans ?_ (Below.mono hb3 (by first | omega | (simp; done) | (simp; omega)))) | (refine Below.trans ?_ (Below.mono hb4 (by first | omega | (simp; done) | (simp; omega)))) | (refine Below.trans ?_ (Below.mono hb5 (by first | omega | (simp; done) | (simp; omega)))) | (refine Below.trans ?_ (Below.mono hb6 (by first | omega | (simp; done) | (simp; omega)))) | (refine Below.trans ?_ (Below.mono hb7 (by first | omega | (simp; done) | (simp; omega)))) | (refine Below.trans ?_ (Below.mono hb8 (by first | omega | (simp; done) | (simp; omega)))) | (refine Below.trans ?_ (Below.mono hb9 (by first | omega | (simp; done) | (simp; omega)))) | (refine Below.trans ?_ (Below.mono hb10 (by first | omega | (simp; done) | (simp; omega)))) | (refine Below.trans ?_ (Below.mono hb11 (by first | omega | (simp; done) | (simp; omega)))) | (refine Below.trans ?_ (Below.mono hb12 (by first | omega | (simp; done) | (simp; omega))))))); have hz5 := hBx5.size)
        | (go_at_call 40; refine (rOn_any (hRW.below (by with_reducible (repeat (first | exact Below.refl _ _ | assumption | (refine Below.setCell ?_ (by first | omega | (simp; done) | (simp; omega)) _) | (refine Below.alloc ?_ (by first | omega | (simp; done) | (simp; omega)) _) | (refine below_drewN ?_ _) | (refine Below.drew ?_) | (refine Below.trans ?_ (Below.mono hb (by first | omega | (simp; done) | (simp; omega)))) | (refine Below.trans ?_ (Below.mono hb1 (by first | omega | (simp; done) | (simp; omega)))) | (refine Below.trans ?_ (Below.mono hb2 (by first | omega | (simp; done) | (simp; omega)))) | (refine Below.trans ?_ (Below.mono hb3 (by first | omega | (simp; done) | (simp; omega)))) | (refine Below.trans ?_ (Below.mono hb4 (by first | omega | (simp; done) | (simp; omega)))) | (refine Below.trans ?_ (Below.mono hb5 (by first | omega | (simp; done) | (simp; omega)))) | (refine Below.trans ?_ (Below.mono hb6 (by first | omega | (simp; done) | (simp; omega)))) | (refine Below.trans ?_ (Below.mono hb7 (by first | omega | (simp; done) | (simp; omega)))) | (refine Below.trans ?_ (Below.mono hb8 (by first | omega | (simp; done) | (simp; omega)))) | (refine Below.trans ?_ (Below.mono hb9 (by first | omega | (simp; done) | (simp; omega)))) | (refine Below.trans ?_ (Below.mono hb10 (by first | omega | (simp; done) | (simp; omega)))) | (refine Below.trans ?_ (Below.mono hb11 (by first | omega | (simp; done) | (simp; omega)))) | (refine Below.trans ?_ (Below.mono hb12 (by first | omega | (simp; done) | (simp; omega))))))))).mono ?_; rintro e w16 ⟨rfl, hb6⟩; have hBx6 : Below W.heap.size W w16 := (by with_reducible (repeat (first | exact Below.refl _ _ | assumption | (refine Below.setCell ?_ (by first | omega | (simp; done) | (simp; omega)) _) | (refine Below.alloc ?_ (by first | omega | (simp; done) | (simp; omega)) _) | (refine below_drewN ?_ _) | (refine Below.drew ?_) | (refine Below.trans ?_ (Below.mono hb (by first | omega | (simp; done) | (simp; omega)))) | (refine Below.trans ?_ (Below.mono hb1 (by first | omega | (simp; done) | (simp; omega)))) | (refine Below.trans ?_ (Below.mono hb2 (by first | omega | (simp; done) | (simp; omega)))) | (refine Below.trans ?_ (Below.mono hb3 (by first | omega | (simp; done) | (simp; omega)))) | (refine Below.trans ?_ (Below.mono hb4 (by first | omega | (simp; done) | (simp; omega)))) | (refine Below.trans ?_ (Below.mono hb5 (by first | omega | (simp; done) | (simp; omega)))) | (refine Below.trans ?_ (Below.mono hb6 (by first | omega | (simp; done) | (simp; omega)))) | (refine Below.trans ?_ (Below.mono hb7 (by first | omega | (simp; done) | (simp; omega)))) | (refine Below.trans ?_ (Below.mono hb8 (by first | omega | (simp; done) | (simp; omega)))) | (refine Below.trans ?_ (Below.mono hb9 (by first | omega | (simp; done) | (simp; omega)))) | (refine Below.trans ?_ (Below.mono hb10 (by first | omega | (simp; done) | (simp; omega)))) | (refine Below.trans ?_ (Below.mono hb11 (by first | omega | (simp; done) | (simp; omega)))) | (refine Below.trans ?_ (Below.mono hb12 (by first | omega | (simp; done) | (simp; omega))))))); have hz6 := hBx6.size))
    have hzx : w2.heap.size + 1 ≤ w16.heap.size := by omega
    go_wp2
    obtain ⟨V, hV⟩ : ∃ V, w16.alloc (.cells #[.int .i64 (P.move rows cols), .int .i64 P.tab, .int .i64 P.back, .int .i64 P.newline, .int .i64 P.home, .int .i64 P.on] 3) = V := ⟨_, rfl⟩
    have l0 : V.cell? ⟨w16.heap.size, 0, none⟩ = some (.int .i64 (P.move rows cols)) := by rw [← hV]; simp [go_sem]
    have l1 : V.cell? ⟨w16.heap.size, 1, none⟩ = some (.int .i64 P.tab) := by rw [← hV]; simp [go_sem]
    have l2 : V.cell? ⟨w16.heap.size, 2, none⟩ = some (.int .i64 P.back) := by rw [← hV]; simp [go_sem]
    have l3 : V.cell? ⟨w16.heap.size, 3, none⟩ = some (.int .i64 P.newline) := by rw [← hV]; simp [go_sem]
    have l4 : V.cell? ⟨w16.heap.size, 4, none⟩ = some (.int .i64 P.home) := by rw [← hV]; simp [go_sem]
    have l5 : V.cell? ⟨w16.heap.size, 5, none⟩ = some (.int .i64 P.on) := by rw [← hV]; simp [go_sem]
    have hBV : Below W.heap.size W V := by rw [← hV]; exact hBx6.alloc hz6 _
    have hPV := hPW.below hBV
    have hBVw : Below w.heap.size w V := hBw.trans (hBV.mono hBw.size)
    rw [hV]
    have HL := Lib.hid (And.intro l0 (And.intro l1 (And.intro l2 (And.intro l3 (And.intro l4 l5)))))
    clear l0 l1 l2 l3 l4 l5 hV hPW hRW hBw hBV hBx1 hBx2 hBx3 hBx4 hBx5 hBx6 hb1 hb2 hb3 hb4 hb5 hb6 c0 c1 c2 c3
    go_loopw [50] (fun i wr => ∃ k : Nat, k ≤ 6 ∧ i = .int .i64 (k : Int) ∧ Below V.heap.size V wr) (fun i _ => 6 - (intOf i).toNat)
    case atStart => exact ⟨0, by omega, rfl, Below.refl _ _⟩
    case round =>
      obtain ⟨k, hk, rfl, hB⟩ := hrel
      have hz := hB.size
      have hPr := hPV.below hB
      obtain ⟨l0, l1, l2, l3, l4, l5⟩ := HL.out
      replace l0 := cell_keep l0 hB
      replace l1 := cell_keep l1 hB
      replace l2 := cell_keep l2 hB
      replace l3 := cell_keep l3 hB
      replace l4 := cell_keep l4 hB
      replace l5 := cell_keep l5 hB
      rcases (show k = 0 ∨ k = 1 ∨ k = 2 ∨ k = 3 ∨ k = 4 ∨ k = 5 ∨ k = 6 by omega) with rfl | rfl | rfl | rfl | rfl | rfl | rfl
      · have lk := l0
        go_wp2_with fail
        refine (Clone_any hPr).mono ?_
        rintro e w5 ⟨gq, bq, capq, rfl, hPq, hgq, hbq, hb5⟩
        have hP5 := hPr.below hb5
        have lk5 := cell_keep lk hb5
        have hBw5 : Below V.heap.size V w5 := hB.trans (hb5.mono hz)
        have hgl5 := hPr.gl
        have hbl5 := hPr.bl
        clear hb5 l0 l1 l2 l3 l4 l5 lk
        go_wp2_with fail
        refine (caretMove_any hPq rows cols).mono ?_
        rintro e w6 ⟨rfl, hPq6, hk6⟩
        have hP6 := hP5.chg hk6 (by show ¬ g = gq; omega) (by show ¬ b = gq; omega)
        have hB6 := hBw5.trans (hk6.below (by have := hk6.size; have := hBw5.size; omega) (fun j hj => by have := hPr.gl; omega) : Below V.heap.size w5 w6)
        clear hk6 hPq hBw5
        go_wp2_with fail
        refine (Cursor_any hPq6).mono ?_
        rintro e w7 ⟨rfl, hb7⟩
        have hPq7 := hPq6.below hb7
        have hP7 := hP6.below hb7
        have hB7 := hB6.trans (hb7.mono hB6.size)
        clear hb7 hPq6 hP6 hB6
        rw [show (P.point (P.move rows cols)).cursor = (P.move rows cols) from rfl]
        go_wp2_with fail
        refine (Cursor_any hP7).mono ?_
        rintro e w8 ⟨rfl, hb8⟩
        have hPq8 := hPq7.below hb8
        have hP8 := hP7.below hb8
        have hB8 := hB7.trans (hb8.mono hB7.size)
        clear hb8 hPq7 hP7 hB7
        go_wp2_with fail
        refine (Point_in hPq8 P.cursor hk1 hk2).mono ?_
        rintro e w9 ⟨rfl, hPq9, hk9⟩
        have hP9 := hP8.chg hk9 (by show ¬ g = gq; omega) (by show ¬ b = gq; omega)
        have hB9 := hB8.trans (hk9.below (by have := hB8.size; omega) (fun j hj => by omega) : Below V.heap.size w8 w9)
        clear hk9 hPq8 hP8 hB8
        go_wp2_with fail
        refine (Same_any hP9 hPq9).mono ?_
        rintro e w10 ⟨rfl, hb10⟩
        rw [samePl_point P (P.move rows cols)]
        have hB10 := hB9.trans (hb10.mono hB9.size)
        clear hb10 hP9 hPq9 hB9
        go_wp2
        go_roundw
        case rel => exact ⟨0+1, by omega, rfl, hB10⟩
        case measure => simp [intOf]
      · have lk := l1
        go_wp2_with fail
        refine (Clone_any hPr).mono ?_
        rintro e w5 ⟨gq, bq, capq, rfl, hPq, hgq, hbq, hb5⟩
        have hP5 := hPr.below hb5
        have lk5 := cell_keep lk hb5
        have hBw5 : Below V.heap.size V w5 := hB.trans (hb5.mono hz)
        have hgl5 := hPr.gl
        have hbl5 := hPr.bl
        clear hb5 l0 l1 l2 l3 l4 l5 lk
        go_wp2_with fail
        refine (Tab_any hPq).mono ?_
        rintro e w6 ⟨rfl, hPq6, hk6⟩
        have hP6 := hP5.chg hk6 (by show ¬ g = gq; omega) (by show ¬ b = gq; omega)
        have hB6 := hBw5.trans (hk6.below (by have := hk6.size; have := hBw5.size; omega) (fun j hj => by have := hPr.gl; omega) : Below V.heap.size w5 w6)
        clear hk6 hPq hBw5
        go_wp2_with fail
        refine (Cursor_any hPq6).mono ?_
        rintro e w7 ⟨rfl, hb7⟩
        have hPq7 := hPq6.below hb7
        have hP7 := hP6.below hb7
        have hB7 := hB6.trans (hb7.mono hB6.size)
        clear hb7 hPq6 hP6 hB6
        rw [show (P.point P.tab).cursor = P.tab from rfl]
        go_wp2_with fail
        refine (Cursor_any hP7).mono ?_
        rintro e w8 ⟨rfl, hb8⟩
        have hPq8 := hPq7.below hb8
        have hP8 := hP7.below hb8
        have hB8 := hB7.trans (hb8.mono hB7.size)
        clear hb8 hPq7 hP7 hB7
        go_wp2_with fail
        refine (Point_in hPq8 P.cursor hk1 hk2).mono ?_
        rintro e w9 ⟨rfl, hPq9, hk9⟩
        have hP9 := hP8.chg hk9 (by show ¬ g = gq; omega) (by show ¬ b = gq; omega)
        have hB9 := hB8.trans (hk9.below (by have := hB8.size; omega) (fun j hj => by omega) : Below V.heap.size w8 w9)
        clear hk9 hPq8 hP8 hB8
        go_wp2_with fail
        refine (Same_any hP9 hPq9).mono ?_
        rintro e w10 ⟨rfl, hb10⟩
        rw [samePl_point P P.tab]
        have hB10 := hB9.trans (hb10.mono hB9.size)
        clear hb10 hP9 hPq9 hB9
        go_wp2
        go_roundw
        case rel => exact ⟨1+1, by omega, rfl, hB10⟩
        case measure => simp [intOf]
      · have lk := l2
        go_wp2_with fail
        refine (Clone_any hPr).mono ?_
        rintro e w5 ⟨gq, bq, capq, rfl, hPq, hgq, hbq, hb5⟩
        have hP5 := hPr.below hb5
        have lk5 := cell_keep lk hb5
        have hBw5 : Below V.heap.size V w5 := hB.trans (hb5.mono hz)
        have hgl5 := hPr.gl
        have hbl5 := hPr.bl
        clear hb5 l0 l1 l2 l3 l4 l5 lk
        go_wp2_with fail
        refine (Back_any hPq).mono ?_
        rintro e w6 ⟨rfl, hPq6, hk6⟩
        have hP6 := hP5.chg hk6 (by show ¬ g = gq; omega) (by show ¬ b = gq; omega)
        have hB6 := hBw5.trans (hk6.below (by have := hk6.size; have := hBw5.size; omega) (fun j hj => by have := hPr.gl; omega) : Below V.heap.size w5 w6)
        clear hk6 hPq hBw5
        go_wp2_with fail
        refine (Cursor_any hPq6).mono ?_
        rintro e w7 ⟨rfl, hb7⟩
        have hPq7 := hPq6.below hb7
        have hP7 := hP6.below hb7
        have hB7 := hB6.trans (hb7.mono hB6.size)
        clear hb7 hPq6 hP6 hB6
        rw [show (P.point P.back).cursor = P.back from rfl]
        go_wp2_with fail
        refine (Cursor_any hP7).mono ?_
        rintro e w8 ⟨rfl, hb8⟩
        have hPq8 := hPq7.below hb8
        have hP8 := hP7.below hb8
        have hB8 := hB7.trans (hb8.mono hB7.size)
        clear hb8 hPq7 hP7 hB7
        go_wp2_with fail
        refine (Point_in hPq8 P.cursor hk1 hk2).mono ?_
        rintro e w9 ⟨rfl, hPq9, hk9⟩
        have hP9 := hP8.chg hk9 (by show ¬ g = gq; omega) (by show ¬ b = gq; omega)
        have hB9 := hB8.trans (hk9.below (by have := hB8.size; omega) (fun j hj => by omega) : Below V.heap.size w8 w9)
        clear hk9 hPq8 hP8 hB8
        go_wp2_with fail
        refine (Same_any hP9 hPq9).mono ?_
        rintro e w10 ⟨rfl, hb10⟩
        rw [samePl_point P P.back]
        have hB10 := hB9.trans (hb10.mono hB9.size)
        clear hb10 hP9 hPq9 hB9
        go_wp2
        go_roundw
        case rel => exact ⟨2+1, by omega, rfl, hB10⟩
        case measure => simp [intOf]
      · have lk := l3
        go_wp2_with fail
        refine (Clone_any hPr).mono ?_
        rintro e w5 ⟨gq, bq, capq, rfl, hPq, hgq, hbq, hb5⟩
        have hP5 := hPr.below hb5
        have lk5 := cell_keep lk hb5
        have hBw5 : Below V.heap.size V w5 := hB.trans (hb5.mono hz)
        have hgl5 := hPr.gl
        have hbl5 := hPr.bl
        clear hb5 l0 l1 l2 l3 l4 l5 lk
        go_wp2_with fail
        refine (Newline_any hPq).mono ?_
        rintro e w6 ⟨rfl, hPq6, hk6⟩
        have hP6 := hP5.chg hk6 (by show ¬ g = gq; omega) (by show ¬ b = gq; omega)
        have hB6 := hBw5.trans (hk6.below (by have := hk6.size; have := hBw5.size; omega) (fun j hj => by have := hPr.gl; omega) : Below V.heap.size w5 w6)
        clear hk6 hPq hBw5
        go_wp2_with fail
        refine (Cursor_any hPq6).mono ?_
        rintro e w7 ⟨rfl, hb7⟩
        have hPq7 := hPq6.below hb7
        have hP7 := hP6.below hb7
        have hB7 := hB6.trans (hb7.mono hB6.size)
        clear hb7 hPq6 hP6 hB6
        rw [show (P.point P.newline).cursor = P.newline from rfl]
        go_wp2_with fail
        refine (Cursor_any hP7).mono ?_
        rintro e w8 ⟨rfl, hb8⟩
        have hPq8 := hPq7.below hb8
        have hP8 := hP7.below hb8
        have hB8 := hB7.trans (hb8.mono hB7.size)
        clear hb8 hPq7 hP7 hB7
        go_wp2_with fail
        refine (Point_in hPq8 P.cursor hk1 hk2).mono ?_
        rintro e w9 ⟨rfl, hPq9, hk9⟩
        have hP9 := hP8.chg hk9 (by show ¬ g = gq; omega) (by show ¬ b = gq; omega)
        have hB9 := hB8.trans (hk9.below (by have := hB8.size; omega) (fun j hj => by omega) : Below V.heap.size w8 w9)
        clear hk9 hPq8 hP8 hB8
        go_wp2_with fail
        refine (Same_any hP9 hPq9).mono ?_
        rintro e w10 ⟨rfl, hb10⟩
        rw [samePl_point P P.newline]
        have hB10 := hB9.trans (hb10.mono hB9.size)
        clear hb10 hP9 hPq9 hB9
        go_wp2
        go_roundw
        case rel => exact ⟨3+1, by omega, rfl, hB10⟩
        case measure => simp [intOf]
      · have lk := l4
        go_wp2_with fail
        refine (Clone_any hPr).mono ?_
        rintro e w5 ⟨gq, bq, capq, rfl, hPq, hgq, hbq, hb5⟩
        have hP5 := hPr.below hb5
        have lk5 := cell_keep lk hb5
        have hBw5 : Below V.heap.size V w5 := hB.trans (hb5.mono hz)
        have hgl5 := hPr.gl
        have hbl5 := hPr.bl
        clear hb5 l0 l1 l2 l3 l4 l5 lk
        go_wp2_with fail
        refine (caretHome_any hPq hh0 hh1).mono ?_
        rintro e w6 ⟨rfl, hPq6, hk6⟩
        have hP6 := hP5.chg hk6 (by show ¬ g = gq; omega) (by show ¬ b = gq; omega)
        have hB6 := hBw5.trans (hk6.below (by have := hk6.size; have := hBw5.size; omega) (fun j hj => by have := hPr.gl; omega) : Below V.heap.size w5 w6)
        clear hk6 hPq hBw5
        go_wp2_with fail
        refine (Cursor_any hPq6).mono ?_
        rintro e w7 ⟨rfl, hb7⟩
        have hPq7 := hPq6.below hb7
        have hP7 := hP6.below hb7
        have hB7 := hB6.trans (hb7.mono hB6.size)
        clear hb7 hPq6 hP6 hB6
        rw [show (P.point P.home).cursor = P.home from rfl]
        go_wp2_with fail
        refine (Cursor_any hP7).mono ?_
        rintro e w8 ⟨rfl, hb8⟩
        have hPq8 := hPq7.below hb8
        have hP8 := hP7.below hb8
        have hB8 := hB7.trans (hb8.mono hB7.size)
        clear hb8 hPq7 hP7 hB7
        go_wp2_with fail
        refine (Point_in hPq8 P.cursor hk1 hk2).mono ?_
        rintro e w9 ⟨rfl, hPq9, hk9⟩
        have hP9 := hP8.chg hk9 (by show ¬ g = gq; omega) (by show ¬ b = gq; omega)
        have hB9 := hB8.trans (hk9.below (by have := hB8.size; omega) (fun j hj => by omega) : Below V.heap.size w8 w9)
        clear hk9 hPq8 hP8 hB8
        go_wp2_with fail
        refine (Same_any hP9 hPq9).mono ?_
        rintro e w10 ⟨rfl, hb10⟩
        rw [samePl_point P P.home]
        have hB10 := hB9.trans (hb10.mono hB9.size)
        clear hb10 hP9 hPq9 hB9
        go_wp2
        go_roundw
        case rel => exact ⟨4+1, by omega, rfl, hB10⟩
        case measure => simp [intOf]
      · have lk := l5
        go_wp2_with fail
        refine (Clone_any hPr).mono ?_
        rintro e w5 ⟨gq, bq, capq, rfl, hPq, hgq, hbq, hb5⟩
        have hP5 := hPr.below hb5
        have lk5 := cell_keep lk hb5
        have hBw5 : Below V.heap.size V w5 := hB.trans (hb5.mono hz)
        have hgl5 := hPr.gl
        have hbl5 := hPr.bl
        clear hb5 l0 l1 l2 l3 l4 l5 lk
        go_wp2_with fail
        refine (On_any hPq).mono ?_
        rintro e w6 ⟨rfl, hPq6, hk6⟩
        have hP6 := hP5.chg hk6 (by show ¬ g = gq; omega) (by show ¬ b = gq; omega)
        have hB6 := hBw5.trans (hk6.below (by have := hk6.size; have := hBw5.size; omega) (fun j hj => by have := hPr.gl; omega) : Below V.heap.size w5 w6)
        clear hk6 hPq hBw5
        go_wp2_with fail
        refine (Cursor_any hPq6).mono ?_
        rintro e w7 ⟨rfl, hb7⟩
        have hPq7 := hPq6.below hb7
        have hP7 := hP6.below hb7
        have hB7 := hB6.trans (hb7.mono hB6.size)
        clear hb7 hPq6 hP6 hB6
        rw [show (P.point P.on).cursor = P.on from rfl]
        go_wp2_with fail
        refine (Cursor_any hP7).mono ?_
        rintro e w8 ⟨rfl, hb8⟩
        have hPq8 := hPq7.below hb8
        have hP8 := hP7.below hb8
        have hB8 := hB7.trans (hb8.mono hB7.size)
        clear hb8 hPq7 hP7 hB7
        go_wp2_with fail
        refine (Point_in hPq8 P.cursor hk1 hk2).mono ?_
        rintro e w9 ⟨rfl, hPq9, hk9⟩
        have hP9 := hP8.chg hk9 (by show ¬ g = gq; omega) (by show ¬ b = gq; omega)
        have hB9 := hB8.trans (hk9.below (by have := hB8.size; omega) (fun j hj => by omega) : Below V.heap.size w8 w9)
        clear hk9 hPq8 hP8 hB8
        go_wp2_with fail
        refine (Same_any hP9 hPq9).mono ?_
        rintro e w10 ⟨rfl, hb10⟩
        rw [samePl_point P P.on]
        have hB10 := hB9.trans (hb10.mono hB9.size)
        clear hb10 hP9 hPq9 hB9
        go_wp2
        go_roundw
        case rel => exact ⟨5+1, by omega, rfl, hB10⟩
        case measure => simp [intOf]
      · go_wp2
        go_ret
        exact ⟨by rfl, hBVw.trans (hB.mono hBVw.size)⟩
  · have hbad := not_good h
    go_enter Try.func6, Try.ntmps6
    go_wp2_with fail
    refine (alive19_any _).mono ?_
    rintro e w1 ⟨rfl, hb1⟩
    have hB1 : Below w.heap.size w w1 := by with_reducible (repeat (first | exact Below.refl _ _ | assumption | (refine Below.setCell ?_ (by first | omega | (simp; done) | (simp; omega)) _) | (refine Below.alloc ?_ (by first | omega | (simp; done) | (simp; omega)) _) | (refine below_drewN ?_ _) | (refine Below.drew ?_) | (refine Below.trans ?_ (Below.mono hb (by first | omega | (simp; done) | (simp; omega)))) | (refine Below.trans ?_ (Below.mono hb1 (by first | omega | (simp; done) | (simp; omega)))) | (refine Below.trans ?_ (Below.mono hb2 (by first | omega | (simp; done) | (simp; omega)))) | (refine Below.trans ?_ (Below.mono hb3 (by first | omega | (simp; done) | (simp; omega)))) | (refine Below.trans ?_ (Below.mono hb4 (by first | omega | (simp; done) | (simp; omega)))) | (refine Below.trans ?_ (Below.mono hb5 (by first | omega | (simp; done) | (simp; omega)))) | (refine Below.trans ?_ (Below.mono hb6 (by first | omega | (simp; done) | (simp; omega)))) | (refine Below.trans ?_ (Below.mono hb7 (by first | omega | (simp; done) | (simp; omega)))) | (refine Below.trans ?_ (Below.mono hb8 (by first | omega | (simp; done) | (simp; omega)))) | (refine Below.trans ?_ (Below.mono hb9 (by first | omega | (simp; done) | (simp; omega)))) | (refine Below.trans ?_ (Below.mono hb10 (by first | omega | (simp; done) | (simp; omega)))) | (refine Below.trans ?_ (Below.mono hb11 (by first | omega | (simp; done) | (simp; omega)))) | (refine Below.trans ?_ (Below.mono hb12 (by first | omega | (simp; done) | (simp; omega))))))
    have s0 : w1.cell? ⟨w.heap.size, 0, none⟩ = some (.int .i64 r) := (hb1.cell (by simp)).trans (by simp [go_sem])
    have s1 : w1.cell? ⟨w.heap.size, 1, none⟩ = some (.int .i64 c) := (hb1.cell (by simp)).trans (by simp [go_sem])
    clear hb1
    go_wp2_with fail
    refine (made19_bad r c a _ hbad).mono ?_
    rintro e w2 ⟨x0, x1, x3, so, sn, sm, rfl, hb2⟩
    have hB2 := hB1.trans (hb2.mono hB1.size)
    have hz2 := hB2.size
    clear s0 s1
    go_wp2
    go_ret
    exact ⟨by rfl, by with_reducible (repeat (first | exact Below.refl _ _ | assumption | (refine Below.setCell ?_ (by first | omega | (simp; done) | (simp; omega)) _) | (refine Below.alloc ?_ (by first | omega | (simp; done) | (simp; omega)) _) | (refine below_drewN ?_ _) | (refine Below.drew ?_) | (refine Below.trans ?_ (Below.mono hb (by first | omega | (simp; done) | (simp; omega)))) | (refine Below.trans ?_ (Below.mono hb1 (by first | omega | (simp; done) | (simp; omega)))) | (refine Below.trans ?_ (Below.mono hb2 (by first | omega | (simp; done) | (simp; omega)))) | (refine Below.trans ?_ (Below.mono hb3 (by first | omega | (simp; done) | (simp; omega)))) | (refine Below.trans ?_ (Below.mono hb4 (by first | omega | (simp; done) | (simp; omega)))) | (refine Below.trans ?_ (Below.mono hb5 (by first | omega | (simp; done) | (simp; omega)))) | (refine Below.trans ?_ (Below.mono hb6 (by first | omega | (simp; done) | (simp; omega)))) | (refine Below.trans ?_ (Below.mono hb7 (by first | omega | (simp; done) | (simp; omega)))) | (refine Below.trans ?_ (Below.mono hb8 (by first | omega | (simp; done) | (simp; omega)))) | (refine Below.trans ?_ (Below.mono hb9 (by first | omega | (simp; done) | (simp; omega)))) | (refine Below.trans ?_ (Below.mono hb10 (by first | omega | (simp; done) | (simp; omega)))) | (refine Below.trans ?_ (Below.mono hb11 (by first | omega | (simp; done) | (simp; omega)))) | (refine Below.trans ?_ (Below.mono hb12 (by first | omega | (simp; done) | (simp; omega))))))⟩
end Go.Proofs.Ytbkddgeocmkegaa
