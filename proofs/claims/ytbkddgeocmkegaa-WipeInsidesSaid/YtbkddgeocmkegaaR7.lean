/- Lemmas on the way to this seat's statements; they bear no condition of their own. -/
import Derived.Test.YtbkddgeocmkegaaPb
namespace Go.Proofs.Ytbkddgeocmkegaa
open Go.RowKit Go.Shelf
set_option linter.unusedSimpArgs false
set_option linter.unusedVariables false
set_option maxHeartbeats 2000000
attribute [local go_sem ↓] run_start run_byte run_cols

theorem rMove19_any {w : World} {b cap : Nat} {P : Pl} (h : RC w b P) (rows cols : Int) :
    Calls Try.prog 35 #[.agg #[.int .i64 P.rows, .int .i64 P.cols, .slice (some ⟨b, 0, none⟩) P.cells.length cap, .int .i64 P.cursor], .int .i64 rows, .int .i64 cols] w fun e w' => e = .returned (.int .i64 (P.move rows cols)) ∧ Below w.heap.size w w' := by
  have hok := h.ok
  have hr0 : P.rows ≠ 0 := by have := hok.r1; omega
  have hmul := mul_small hok rows
  go_enter Try.func35, Try.ntmps35
  go_wp2
  go_region_held3 (fun W => W.cell? ⟨w.heap.size, 0, none⟩ = some (.int .i64 P.rows) ∧ W.cell? ⟨w.heap.size, 1, none⟩ = some (.int .i64 P.cols) ∧ W.cell? ⟨w.heap.size, 2, none⟩ = some (.slice (some ⟨b, 0, none⟩) P.cells.length cap) ∧ W.cell? ⟨w.heap.size, 3, none⟩ = some (.int .i64 P.cursor))
    (first | exact keep4 (by assumption) hb1 | go_keep) (first | (go_at_call 94; refine (rMove_P hok _ _ _).mono ?_; rintro e w1 ⟨rfl, hb1⟩))
  have x0 : w1.cell? ⟨w.heap.size, 0, none⟩ = some (.int .i64 P.rows) := by rw [hb1.cell (by simp)]; simp [go_sem]
  have x1 : w1.cell? ⟨w.heap.size, 1, none⟩ = some (.int .i64 P.cols) := by rw [hb1.cell (by simp)]; simp [go_sem]
  clear hmul
  have hz1 := hb1.size
  simp only [World.size_alloc, World.size_drew] at hz1
  go_wp2_with fail
  refine (rMove_P hok _ _ _).mono ?_
  rintro e w2 ⟨rfl, hb2⟩
  go_wp2
  go_ret
  exact ⟨rfl, by with_reducible (repeat (first | exact Below.refl _ _ | assumption | (refine Below.setCell ?_ (by first | omega | (simp; done) | (simp; omega)) _) | (refine Below.alloc ?_ (by first | omega | (simp; done) | (simp; omega)) _) | (refine below_drewN ?_ _) | (refine Below.drew ?_) | (refine Below.trans ?_ (Below.mono hb (by first | omega | (simp; done) | (simp; omega)))) | (refine Below.trans ?_ (Below.mono hb1 (by first | omega | (simp; done) | (simp; omega)))) | (refine Below.trans ?_ (Below.mono hb2 (by first | omega | (simp; done) | (simp; omega)))) | (refine Below.trans ?_ (Below.mono hb3 (by first | omega | (simp; done) | (simp; omega)))) | (refine Below.trans ?_ (Below.mono hb4 (by first | omega | (simp; done) | (simp; omega)))) | (refine Below.trans ?_ (Below.mono hb5 (by first | omega | (simp; done) | (simp; omega)))) | (refine Below.trans ?_ (Below.mono hb6 (by first | omega | (simp; done) | (simp; omega)))) | (refine Below.trans ?_ (Below.mono hb7 (by first | omega | (simp; done) | (simp; omega)))) | (refine Below.trans ?_ (Below.mono hb8 (by first | omega | (simp; done) | (simp; omega)))) | (refine Below.trans ?_ (Below.mono hb9 (by first | omega | (simp; done) | (simp; omega)))) | (refine Below.trans ?_ (Below.mono hb10 (by first | omega | (simp; done) | (simp; omega)))) | (refine Below.trans ?_ (Below.mono hb11 (by first | omega | (simp; done) | (simp; omega)))) | (refine Below.trans ?_ (Below.mono hb12 (by first | omega | (simp; done) | (simp; omega))))))⟩

theorem bestUp_range {P : Pl} (hok : P.ok) {a : Int} (hne : 0 < (P.opl P.flds.length).length) (i : Nat) : 0 ≤ bestUp (P.opl P.flds.length) a (P.opl P.flds.length)[0] i ∧ bestUp (P.opl P.flds.length) a (P.opl P.flds.length)[0] i < (P.cells.length : Int) := by
  unfold bestUp
  cases hf : ((P.opl P.flds.length).drop i).find? (fun x => decide (a ≤ x)) with
  | none => exact opl_range hok _ (List.getElem_mem hne)
  | some x => exact opl_range hok x (List.mem_of_mem_drop (List.mem_of_find?_eq_some hf))

set_option maxRecDepth 100000 in
theorem rTab_list {w : World} {b cap : Nat} {P : Pl} (h : RC w b P) (a : Int) (a0 : 0 ≤ a) (a1 : a < (P.cells.length : Int)) (L : List Int) (HL : Hid (P.opl P.flds.length = L)) (hne : 0 < L.length) (hol : L.length ≤ P.flds.length)
    (E : Hid (P.seek a 1 = (bestUp L a L[0] 0 + 1) % (P.cells.length : Int))) (HR : Hid (∀ i, 0 ≤ bestUp L a L[0] i ∧ bestUp L a L[0] i < (P.cells.length : Int))) :
    Calls Try.prog 36 #[.agg #[.int .i64 P.rows, .int .i64 P.cols, .slice (some ⟨b, 0, none⟩) P.cells.length cap, .int .i64 P.cursor], .int .i64 a] w fun e w' => e = .returned (.int .i64 (P.seek a 1)) ∧ Below w.heap.size w w' := by
  have hn := Pl.N_pos h.ok
  have hm := Pl.N_le h.ok
  have hsn := starts_le_n P
  rw [← flds_len] at hsn
  have HST := Lib.hid (fun i hi => bestUp_step L a L[0] i hi)
  have HEN := Lib.hid (bestUp_end L a L[0])
  go_enter Try.func36, Try.ntmps36
  go_wp2_with fail
  refine (rOpens_any (h.below (by with_reducible (repeat (first | exact Below.refl _ _ | assumption | (refine Below.setCell ?_ (by first | omega | (simp; done) | (simp; omega)) _) | (refine Below.alloc ?_ (by first | omega | (simp; done) | (simp; omega)) _) | (refine below_drewN ?_ _) | (refine Below.drew ?_) | (refine Below.trans ?_ (Below.mono hb (by first | omega | (simp; done) | (simp; omega)))) | (refine Below.trans ?_ (Below.mono hb1 (by first | omega | (simp; done) | (simp; omega)))) | (refine Below.trans ?_ (Below.mono hb2 (by first | omega | (simp; done) | (simp; omega)))) | (refine Below.trans ?_ (Below.mono hb3 (by first | omega | (simp; done) | (simp; omega)))) | (refine Below.trans ?_ (Below.mono hb4 (by first | omega | (simp; done) | (simp; omega)))) | (refine Below.trans ?_ (Below.mono hb5 (by first | omega | (simp; done) | (simp; omega)))) | (refine Below.trans ?_ (Below.mono hb6 (by first | omega | (simp; done) | (simp; omega)))) | (refine Below.trans ?_ (Below.mono hb7 (by first | omega | (simp; done) | (simp; omega)))) | (refine Below.trans ?_ (Below.mono hb8 (by first | omega | (simp; done) | (simp; omega)))) | (refine Below.trans ?_ (Below.mono hb9 (by first | omega | (simp; done) | (simp; omega)))) | (refine Below.trans ?_ (Below.mono hb10 (by first | omega | (simp; done) | (simp; omega)))) | (refine Below.trans ?_ (Below.mono hb11 (by first | omega | (simp; done) | (simp; omega)))) | (refine Below.trans ?_ (Below.mono hb12 (by first | omega | (simp; done) | (simp; omega))))))))).mono ?_
  rintro e w3 ⟨gl, cl, rl, rfl, hl, hge, hb3⟩
  rw [HL.out] at hl ⊢
  have hB3 : Below w.heap.size w w3 := by with_reducible (repeat (first | exact Below.refl _ _ | assumption | (refine Below.setCell ?_ (by first | omega | (simp; done) | (simp; omega)) _) | (refine Below.alloc ?_ (by first | omega | (simp; done) | (simp; omega)) _) | (refine below_drewN ?_ _) | (refine Below.drew ?_) | (refine Below.trans ?_ (Below.mono hb (by first | omega | (simp; done) | (simp; omega)))) | (refine Below.trans ?_ (Below.mono hb1 (by first | omega | (simp; done) | (simp; omega)))) | (refine Below.trans ?_ (Below.mono hb2 (by first | omega | (simp; done) | (simp; omega)))) | (refine Below.trans ?_ (Below.mono hb3 (by first | omega | (simp; done) | (simp; omega)))) | (refine Below.trans ?_ (Below.mono hb4 (by first | omega | (simp; done) | (simp; omega)))) | (refine Below.trans ?_ (Below.mono hb5 (by first | omega | (simp; done) | (simp; omega)))) | (refine Below.trans ?_ (Below.mono hb6 (by first | omega | (simp; done) | (simp; omega)))) | (refine Below.trans ?_ (Below.mono hb7 (by first | omega | (simp; done) | (simp; omega)))) | (refine Below.trans ?_ (Below.mono hb8 (by first | omega | (simp; done) | (simp; omega)))) | (refine Below.trans ?_ (Below.mono hb9 (by first | omega | (simp; done) | (simp; omega)))) | (refine Below.trans ?_ (Below.mono hb10 (by first | omega | (simp; done) | (simp; omega)))) | (refine Below.trans ?_ (Below.mono hb11 (by first | omega | (simp; done) | (simp; omega)))) | (refine Below.trans ?_ (Below.mono hb12 (by first | omega | (simp; done) | (simp; omega))))))
  have hz3 := hb3.size
  obtain ⟨x0, x1, x2, x3⟩ := box4k hb3
  simp only [World.size_alloc] at hge hz3
  clear hb3
  have hgl := lt_of_block hl
  have hne' : ((L.length : Int) == 0) = false := beq_eq_false_iff_ne.2 (by omega)
  have hpos : (0 : Int) < (L.length : Int) := by omega
  have l0 := ints_get hl 0 hne
  clear x0 x1 x3
  go_wp2
  go_loopw [6, 7] (fun v i wr => ∃ k : Nat, k ≤ L.length ∧ i = .int .i64 ((k : Int) - 1) ∧ v = .int .i64 (bestUp L a L[0] k) ∧ Below w3.heap.size w3 wr) (fun _ i _ => (intOf i + 1).toNat)
  case atStart => exact ⟨L.length, Nat.le_refl _, rfl, by rw [HEN.out], Below.refl _ _⟩
  case round =>
    obtain ⟨k, hk, rfl, rfl, hB⟩ := hrel
    have hzB := hB.size
    have hBw : Below w.heap.size w wr := hB3.trans (hB.mono (by omega))
    by_cases hlt : 0 < k
    · obtain ⟨m, rfl⟩ : ∃ m, k = m + 1 := ⟨k - 1, by omega⟩
      have c := ints_get ((hB.block gl hgl).trans hl) m (by omega)
      have hs := HST.out m (by omega)
      obtain ⟨x, hx⟩ : ∃ x, L[m] = x := ⟨_, rfl⟩
      rw [hx] at c hs
      have HS := Lib.hid hs
      clear hs hx
      have hm0 : (0 : Int) ≤ ((m + 1 : Nat) : Int) - 1 := by omega
      have hm1 : (((m + 1 : Nat) : Int) - 1).toNat = m := by omega
      have hm2 : ((m + 1 : Nat) : Int) - 1 < (L.length : Int) := by omega
      by_cases hax : a ≤ x
      · go_wp2
        go_roundw
        case rel => exact ⟨m, by omega, by go_num, by rw [HS.out, if_pos hax], hB⟩
        case measure => simp [intOf]
      · go_wp2
        go_roundw
        case rel => exact ⟨m, by omega, by go_num, by rw [HS.out, if_neg hax], hB⟩
        case measure => simp [intOf]
    · have e : k = 0 := by omega
      subst e
      obtain ⟨r0, r1⟩ := HR.out 0
      replace x2 := cell_keep x2 hB
      go_wp2
      go_ret
      exact ⟨by rw [E.out]; rfl, hBw⟩

theorem rTab_in {w : World} {b cap : Nat} {P : Pl} (h : RC w b P) (a : Int) (a0 : 0 ≤ a) (a1 : a < (P.cells.length : Int)) :
    Calls Try.prog 36 #[.agg #[.int .i64 P.rows, .int .i64 P.cols, .slice (some ⟨b, 0, none⟩) P.cells.length cap, .int .i64 P.cursor], .int .i64 a] w fun e w' => e = .returned (.int .i64 (P.seek a 1)) ∧ Below w.heap.size w w' := by
  by_cases hne : 0 < (P.opl P.flds.length).length
  · exact rTab_list h a a0 a1 _ (Lib.hid rfl) hne (P.opl_len _) (Lib.hid (opl_seek_up h.ok a0 a1 hne)) (Lib.hid (fun i => bestUp_range h.ok hne i))
  · have E := Lib.hid (opl_seek_none h.ok a 1 (by omega))
    have hz : (P.opl P.flds.length).length = 0 := by omega
    have HZ := Lib.hid hz
    clear hz
    go_enter Try.func36, Try.ntmps36
    go_wp2_with fail
    refine (rOpens_any (h.below (by with_reducible (repeat (first | exact Below.refl _ _ | assumption | (refine Below.setCell ?_ (by first | omega | (simp; done) | (simp; omega)) _) | (refine Below.alloc ?_ (by first | omega | (simp; done) | (simp; omega)) _) | (refine below_drewN ?_ _) | (refine Below.drew ?_) | (refine Below.trans ?_ (Below.mono hb (by first | omega | (simp; done) | (simp; omega)))) | (refine Below.trans ?_ (Below.mono hb1 (by first | omega | (simp; done) | (simp; omega)))) | (refine Below.trans ?_ (Below.mono hb2 (by first | omega | (simp; done) | (simp; omega)))) | (refine Below.trans ?_ (Below.mono hb3 (by first | omega | (simp; done) | (simp; omega)))) | (refine Below.trans ?_ (Below.mono hb4 (by first | omega | (simp; done) | (simp; omega)))) | (refine Below.trans ?_ (Below.mono hb5 (by first | omega | (simp; done) | (simp; omega)))) | (refine Below.trans ?_ (Below.mono hb6 (by first | omega | (simp; done) | (simp; omega)))) | (refine Below.trans ?_ (Below.mono hb7 (by first | omega | (simp; done) | (simp; omega)))) | (refine Below.trans ?_ (Below.mono hb8 (by first | omega | (simp; done) | (simp; omega)))) | (refine Below.trans ?_ (Below.mono hb9 (by first | omega | (simp; done) | (simp; omega)))) | (refine Below.trans ?_ (Below.mono hb10 (by first | omega | (simp; done) | (simp; omega)))) | (refine Below.trans ?_ (Below.mono hb11 (by first | omega | (simp; done) | (simp; omega)))) | (refine Below.trans ?_ (Below.mono hb12 (by first | omega | (simp; done) | (simp; omega))))))))).mono ?_
    rintro e w3 ⟨gl, cl, rl, rfl, hl, hge, hb3⟩
    rw [HZ.out]
    clear hl
    go_wp2
    go_ret
    exact ⟨by rw [E.out]; rfl, by with_reducible (repeat (first | exact Below.refl _ _ | assumption | (refine Below.setCell ?_ (by first | omega | (simp; done) | (simp; omega)) _) | (refine Below.alloc ?_ (by first | omega | (simp; done) | (simp; omega)) _) | (refine below_drewN ?_ _) | (refine Below.drew ?_) | (refine Below.trans ?_ (Below.mono hb (by first | omega | (simp; done) | (simp; omega)))) | (refine Below.trans ?_ (Below.mono hb1 (by first | omega | (simp; done) | (simp; omega)))) | (refine Below.trans ?_ (Below.mono hb2 (by first | omega | (simp; done) | (simp; omega)))) | (refine Below.trans ?_ (Below.mono hb3 (by first | omega | (simp; done) | (simp; omega)))) | (refine Below.trans ?_ (Below.mono hb4 (by first | omega | (simp; done) | (simp; omega)))) | (refine Below.trans ?_ (Below.mono hb5 (by first | omega | (simp; done) | (simp; omega)))) | (refine Below.trans ?_ (Below.mono hb6 (by first | omega | (simp; done) | (simp; omega)))) | (refine Below.trans ?_ (Below.mono hb7 (by first | omega | (simp; done) | (simp; omega)))) | (refine Below.trans ?_ (Below.mono hb8 (by first | omega | (simp; done) | (simp; omega)))) | (refine Below.trans ?_ (Below.mono hb9 (by first | omega | (simp; done) | (simp; omega)))) | (refine Below.trans ?_ (Below.mono hb10 (by first | omega | (simp; done) | (simp; omega)))) | (refine Below.trans ?_ (Below.mono hb11 (by first | omega | (simp; done) | (simp; omega)))) | (refine Below.trans ?_ (Below.mono hb12 (by first | omega | (simp; done) | (simp; omega))))))⟩
end Go.Proofs.Ytbkddgeocmkegaa
