/- Lemmas on the way to this seat's statements; they bear no condition of their own. -/
import Derived.Test.YtbkddgeocmkegaaR8
namespace Go.Proofs.Ytbkddgeocmkegaa
open Go.RowKit Go.Shelf
set_option linter.unusedSimpArgs false
set_option linter.unusedVariables false
set_option maxHeartbeats 2000000
attribute [local go_sem ↓] run_start run_byte run_cols


set_option maxRecDepth 100000 in
theorem rBack_list {w : World} {b cap : Nat} {P : Pl} (h : RC w b P) (L : List Int) (HL : Hid (P.opl P.flds.length = L)) (hne : L.length - 1 < L.length) (hol : L.length ≤ P.flds.length) (f : Fld) (ok : Bool) (HF : Hid (P.ofF P.cursor = f)) (HO : Hid (P.ofB P.cursor = ok))
    (f0 : 0 ≤ f.start) (f1 : f.start < (P.cells.length : Int)) (S : Int)
    (SD : Hid (S = (bestDn L ((P.cursor + -2) % (P.cells.length : Int)) L[L.length - 1] L.length + 1) % (P.cells.length : Int))) (HR : Hid (0 ≤ bestDn L ((P.cursor + -2) % (P.cells.length : Int)) L[L.length - 1] L.length ∧ bestDn L ((P.cursor + -2) % (P.cells.length : Int)) L[L.length - 1] L.length < (P.cells.length : Int)))
    (BK : Hid (P.back = if ok && (decide (f.start ∈ L) && (P.cursor != f.start && P.cursor != (f.start + 1) % (P.cells.length : Int))) then (f.start + 1) % (P.cells.length : Int) else S)) :
    Calls Try.prog 37 #[.agg #[.int .i64 P.rows, .int .i64 P.cols, .slice (some ⟨b, 0, none⟩) P.cells.length cap, .int .i64 P.cursor]] w fun e w' => e = .returned (.int .i64 P.back) ∧ Below w.heap.size w w' := by
  have hn := Pl.N_pos h.ok
  have hm := Pl.N_le h.ok
  have hsn := starts_le_n P
  rw [← flds_len] at hsn
  have hk1 := h.ok.k1
  have hk2 := h.ok.k2
  rw [← h.ok.len] at hk2
  have hn' : (0 : Int) < (P.cells.length : Int) := by omega
  have hne1 : P.cells ≠ [] := fun e => by rw [e] at hn; exact absurd hn (Nat.lt_irrefl 0)
  have hLne : L ≠ [] := fun e => by rw [e] at hne; exact absurd hne (Nat.lt_irrefl 0)
  go_enter Try.func37, Try.ntmps37
  go_wp2_with fail
  refine (rOpens_any (h.below (by with_reducible (repeat (first | exact Below.refl _ _ | assumption | (refine Below.setCell ?_ (by first | omega | (simp; done) | (simp; omega)) _) | (refine Below.alloc ?_ (by first | omega | (simp; done) | (simp; omega)) _) | (refine below_drewN ?_ _) | (refine Below.drew ?_) | (refine Below.trans ?_ (Below.mono hb (by first | omega | (simp; done) | (simp; omega)))) | (refine Below.trans ?_ (Below.mono hb1 (by first | omega | (simp; done) | (simp; omega)))) | (refine Below.trans ?_ (Below.mono hb2 (by first | omega | (simp; done) | (simp; omega)))) | (refine Below.trans ?_ (Below.mono hb3 (by first | omega | (simp; done) | (simp; omega)))) | (refine Below.trans ?_ (Below.mono hb4 (by first | omega | (simp; done) | (simp; omega)))) | (refine Below.trans ?_ (Below.mono hb5 (by first | omega | (simp; done) | (simp; omega)))) | (refine Below.trans ?_ (Below.mono hb6 (by first | omega | (simp; done) | (simp; omega)))) | (refine Below.trans ?_ (Below.mono hb7 (by first | omega | (simp; done) | (simp; omega)))) | (refine Below.trans ?_ (Below.mono hb8 (by first | omega | (simp; done) | (simp; omega)))) | (refine Below.trans ?_ (Below.mono hb9 (by first | omega | (simp; done) | (simp; omega)))) | (refine Below.trans ?_ (Below.mono hb10 (by first | omega | (simp; done) | (simp; omega)))) | (refine Below.trans ?_ (Below.mono hb11 (by first | omega | (simp; done) | (simp; omega)))) | (refine Below.trans ?_ (Below.mono hb12 (by first | omega | (simp; done) | (simp; omega))))))))).mono ?_
  rintro e w3 ⟨gl, cl, rl, rfl, hl, hge, hb3⟩
  rw [HL.out] at hl ⊢
  have hB3 : Below w.heap.size w w3 := by with_reducible (repeat (first | exact Below.refl _ _ | assumption | (refine Below.setCell ?_ (by first | omega | (simp; done) | (simp; omega)) _) | (refine Below.alloc ?_ (by first | omega | (simp; done) | (simp; omega)) _) | (refine below_drewN ?_ _) | (refine Below.drew ?_) | (refine Below.trans ?_ (Below.mono hb (by first | omega | (simp; done) | (simp; omega)))) | (refine Below.trans ?_ (Below.mono hb1 (by first | omega | (simp; done) | (simp; omega)))) | (refine Below.trans ?_ (Below.mono hb2 (by first | omega | (simp; done) | (simp; omega)))) | (refine Below.trans ?_ (Below.mono hb3 (by first | omega | (simp; done) | (simp; omega)))) | (refine Below.trans ?_ (Below.mono hb4 (by first | omega | (simp; done) | (simp; omega)))) | (refine Below.trans ?_ (Below.mono hb5 (by first | omega | (simp; done) | (simp; omega)))) | (refine Below.trans ?_ (Below.mono hb6 (by first | omega | (simp; done) | (simp; omega)))) | (refine Below.trans ?_ (Below.mono hb7 (by first | omega | (simp; done) | (simp; omega)))) | (refine Below.trans ?_ (Below.mono hb8 (by first | omega | (simp; done) | (simp; omega)))) | (refine Below.trans ?_ (Below.mono hb9 (by first | omega | (simp; done) | (simp; omega)))) | (refine Below.trans ?_ (Below.mono hb10 (by first | omega | (simp; done) | (simp; omega)))) | (refine Below.trans ?_ (Below.mono hb11 (by first | omega | (simp; done) | (simp; omega)))) | (refine Below.trans ?_ (Below.mono hb12 (by first | omega | (simp; done) | (simp; omega))))))
  have hz3 := hb3.size
  obtain ⟨x0, x1, x2, x3⟩ := box4k hb3
  simp only [World.size_alloc] at hge hz3
  clear hb3
  go_wp2_with fail
  refine (rOf_any (h.below (by with_reducible (repeat (first | exact Below.refl _ _ | assumption | (refine Below.setCell ?_ (by first | omega | (simp; done) | (simp; omega)) _) | (refine Below.alloc ?_ (by first | omega | (simp; done) | (simp; omega)) _) | (refine below_drewN ?_ _) | (refine Below.drew ?_) | (refine Below.trans ?_ (Below.mono hb (by first | omega | (simp; done) | (simp; omega)))) | (refine Below.trans ?_ (Below.mono hb1 (by first | omega | (simp; done) | (simp; omega)))) | (refine Below.trans ?_ (Below.mono hb2 (by first | omega | (simp; done) | (simp; omega)))) | (refine Below.trans ?_ (Below.mono hb3 (by first | omega | (simp; done) | (simp; omega)))) | (refine Below.trans ?_ (Below.mono hb4 (by first | omega | (simp; done) | (simp; omega)))) | (refine Below.trans ?_ (Below.mono hb5 (by first | omega | (simp; done) | (simp; omega)))) | (refine Below.trans ?_ (Below.mono hb6 (by first | omega | (simp; done) | (simp; omega)))) | (refine Below.trans ?_ (Below.mono hb7 (by first | omega | (simp; done) | (simp; omega)))) | (refine Below.trans ?_ (Below.mono hb8 (by first | omega | (simp; done) | (simp; omega)))) | (refine Below.trans ?_ (Below.mono hb9 (by first | omega | (simp; done) | (simp; omega)))) | (refine Below.trans ?_ (Below.mono hb10 (by first | omega | (simp; done) | (simp; omega)))) | (refine Below.trans ?_ (Below.mono hb11 (by first | omega | (simp; done) | (simp; omega)))) | (refine Below.trans ?_ (Below.mono hb12 (by first | omega | (simp; done) | (simp; omega)))))))) _).mono ?_
  rintro e w4 ⟨rfl, hb4⟩
  rw [HF.out, HO.out]
  replace x0 := cell_keep x0 hb4
  replace x1 := cell_keep x1 hb4
  replace x3 := cell_keep x3 hb4
  replace x2 := cell_keep x2 hb4
  replace hl := (hb4.block gl (lt_of_block hl)).trans hl
  have hB4 : Below w.heap.size w w4 := by with_reducible (repeat (first | exact Below.refl _ _ | assumption | (refine Below.setCell ?_ (by first | omega | (simp; done) | (simp; omega)) _) | (refine Below.alloc ?_ (by first | omega | (simp; done) | (simp; omega)) _) | (refine below_drewN ?_ _) | (refine Below.drew ?_) | (refine Below.trans ?_ (Below.mono hb (by first | omega | (simp; done) | (simp; omega)))) | (refine Below.trans ?_ (Below.mono hb1 (by first | omega | (simp; done) | (simp; omega)))) | (refine Below.trans ?_ (Below.mono hb2 (by first | omega | (simp; done) | (simp; omega)))) | (refine Below.trans ?_ (Below.mono hb3 (by first | omega | (simp; done) | (simp; omega)))) | (refine Below.trans ?_ (Below.mono hb4 (by first | omega | (simp; done) | (simp; omega)))) | (refine Below.trans ?_ (Below.mono hb5 (by first | omega | (simp; done) | (simp; omega)))) | (refine Below.trans ?_ (Below.mono hb6 (by first | omega | (simp; done) | (simp; omega)))) | (refine Below.trans ?_ (Below.mono hb7 (by first | omega | (simp; done) | (simp; omega)))) | (refine Below.trans ?_ (Below.mono hb8 (by first | omega | (simp; done) | (simp; omega)))) | (refine Below.trans ?_ (Below.mono hb9 (by first | omega | (simp; done) | (simp; omega)))) | (refine Below.trans ?_ (Below.mono hb10 (by first | omega | (simp; done) | (simp; omega)))) | (refine Below.trans ?_ (Below.mono hb11 (by first | omega | (simp; done) | (simp; omega)))) | (refine Below.trans ?_ (Below.mono hb12 (by first | omega | (simp; done) | (simp; omega))))))
  have hz4 := hB4.size
  have hz4' := hb4.size
  clear hb4
  obtain ⟨W, hW⟩ : ∃ W, w4.alloc (.cells #[.int .i64 f.start, .int .i64 f.len, .int .u8 f.attr] 153) = W := ⟨_, rfl⟩
  have hBa : Below w4.heap.size w4 W := by rw [← hW]; exact (Below.refl _ _).alloc (Nat.le_refl _) _
  have hBW : Below w.heap.size w W := hB4.trans (hBa.mono hz4)
  have hzW : W.heap.size = w4.heap.size + 1 := by rw [← hW]; simp
  replace x0 := cell_keep x0 hBa
  replace x1 := cell_keep x1 hBa
  replace x3 := cell_keep x3 hBa
  replace x2 := cell_keep x2 hBa
  replace hl := (hBa.block gl (lt_of_block hl)).trans hl
  have y0 : W.cell? ⟨w4.heap.size, 0, none⟩ = some (.int .i64 f.start) := by rw [← hW]; simp [go_sem]
  have HX := Lib.hid (And.intro (And.intro x0 (And.intro x1 (And.intro x2 x3))) hl)
  have HY := Lib.hid y0
  have HW := Lib.hid hW
  clear x0 x1 x2 x3 hl y0 hBa hW
  cases ok
  · have NF : Hid (P.back = S) := Lib.hid (by rw [BK.out]; rfl)
    go_wp2
    simp only [HW.out]
    go_loopw [7] (fun i wr => i = .int .i64 0 ∧ Below W.heap.size W wr) (fun i _ => 0)
    case atStart => exact ⟨rfl, Below.refl _ _⟩
    case round =>
      obtain ⟨rfl, hB5⟩ := hrel
      have hpos0 : (0 : Int) < (L.length : Int) := by omega
      have hz5 := hB5.size
      obtain ⟨⟨x0, x1, x2, x3⟩, hlW⟩ := HX.out
      replace x0 := cell_keep x0 hB5
      replace x1 := cell_keep x1 hB5
      replace x3 := cell_keep x3 hB5
      replace x2 := cell_keep x2 hB5
      have hl5 := (hB5.block gl (lt_of_block hlW)).trans hlW
      have hBw5 : Below w.heap.size w _ := hBW.trans (hB5.mono (by omega))
      have hz5' := hBw5.size
      go_wp2_with fail
      refine (rMove_P h.ok _ _ _).mono ?_
      rintro e w6 ⟨rfl, hb6⟩
      have hl6 := (hb6.block gl (lt_of_block hl5)).trans hl5
      have hBw6 : Below w.heap.size w w6 := hBw5.trans (hb6.mono hz5')
      have hz6 := hBw6.size
      have hl0 := ints_get hl6 (L.length - 1) hne
      have hpos : (0 : Int) ≤ (L.length : Int) - 1 := by omega
      have hlt1 : (L.length : Int) - 1 < (L.length : Int) := by omega
      have htn : ((L.length : Int) - 1).toNat = L.length - 1 := by omega
      clear hb6 x0 x1 x2 x3 hl5
      go_wp2
      go_loopw [9, 10] (fun v i wr => ∃ k : Nat, k ≤ L.length ∧ i = .int .i64 (k : Int) ∧ v = .int .i64 (bestDn L ((P.cursor + -2) % (P.cells.length : Int)) L[L.length - 1] k) ∧ Below w6.heap.size w6 wr) (fun _ i _ => L.length - (intOf i).toNat)
      case atStart => exact ⟨0, Nat.zero_le _, rfl, by rw [bestDn_zero], Below.refl _ _⟩
      case round =>
        obtain ⟨k, hk, rfl, rfl, hB⟩ := hrel
        have hzB := hB.size
        by_cases hlt : k < L.length
        · have c := ints_get ((hB.block gl (lt_of_block hl6)).trans hl6) k hlt
          have hs := bestDn_step L ((P.cursor + -2) % (P.cells.length : Int)) L[L.length - 1] k hlt
          obtain ⟨x, hx⟩ : ∃ x, L[k] = x := ⟨_, rfl⟩
          rw [hx] at c hs
          have HSS := Lib.hid hs
          clear hs hx
          by_cases hax : x ≤ ((P.cursor + -2) % (P.cells.length : Int))
          · go_wp2
            go_roundw
            case rel => exact ⟨k + 1, by omega, by go_num, by rw [HSS.out, if_pos hax], hB⟩
            case measure => simp [intOf]; omega
          · go_wp2
            go_roundw
            case rel => exact ⟨k + 1, by omega, by go_num, by rw [HSS.out, if_neg hax], hB⟩
            case measure => simp [intOf]; omega
        · have e : k = L.length := by omega
          subst e
          obtain ⟨r0, r1⟩ := HR.out
          go_wp2
          go_ret
          exact ⟨by rw [NF.out, SD.out]; rfl, hBw6.trans (hB.mono hz6)⟩
  · go_wp2
    simp only [HW.out]
    go_loopw [7] (fun i wr => ∃ k : Nat, k ≤ L.length ∧ i = .int .i64 (k : Int) ∧ Below W.heap.size W wr ∧ ∀ (j : Nat) (hj : j < L.length), j < k → ¬ (L[j] = f.start ∧ (P.cursor != f.start && P.cursor != (f.start + 1) % (P.cells.length : Int)) = true)) (fun i _ => L.length - (intOf i).toNat)
    case atStart => exact ⟨0, Nat.zero_le _, rfl, Below.refl _ _, fun j _ hj => absurd hj (Nat.not_lt_zero _)⟩
    case round =>
      obtain ⟨k, hk, rfl, hB5, hf⟩ := hrel
      have HFF := Lib.hid hf
      clear hf
      by_cases hlt : k < L.length
      · have hlt' : (k : Int) < (L.length : Int) := by omega
        have hz5 := hB5.size
        obtain ⟨⟨x0, x1, x2, x3⟩, hlW⟩ := HX.out
        replace x3 := cell_keep x3 hB5
        have y0 := cell_keep HY.out hB5
        have c := ints_get ((hB5.block gl (lt_of_block hlW)).trans hlW) k hlt
        obtain ⟨x, hx⟩ : ∃ x, L[k] = x := ⟨_, rfl⟩
        rw [hx] at c
        have HXX := Lib.hid hx
        clear hx x0 x1 x2
        have e1 : IntKind.i64.wrap (f.start + 1) = f.start + 1 := IntWalk.i64_in _ (by omega)
        have hf1' : 0 ≤ f.start + 1 := by omega
        have hBr : Below w.heap.size w wr := hBW.trans (hB5.mono (by omega))
        cases d1 : (x == f.start)
        · go_wp2
          go_quiet (fail)
          clear e1
          go_wp2
          go_roundw
          case rel => exact ⟨k + 1, by omega, by go_num, below_drewN hB5 _, fun j hj hjk => by
            rcases Nat.lt_succ_iff_lt_or_eq.1 hjk with hjk | rfl
            · exact HFF.out j hj hjk
            · rintro ⟨e, _⟩; rw [HXX.out] at e; rw [e] at d1; simp at d1⟩
          case measure => simp [intOf]; omega
        · cases d2 : (P.cursor != f.start)
          · go_wp2
            go_quiet (fail)
            clear e1
            go_wp2
            go_roundw
            case rel => exact ⟨k + 1, by omega, by go_num, below_drewN hB5 _, fun j hj hjk => by
              rcases Nat.lt_succ_iff_lt_or_eq.1 hjk with hjk | rfl
              · have := HFF.out j hj hjk; rw [d2] at this; exact this
              · rintro ⟨_, e⟩; simp at e⟩
            case measure => simp [intOf]; omega
          · cases d3 : (P.cursor != (f.start + 1) % (P.cells.length : Int))
            · go_wp2
              go_quiet (fail)
              clear e1
              go_wp2
              go_roundw
              case rel => exact ⟨k + 1, by omega, by go_num, below_drewN hB5 _, fun j hj hjk => by
                rcases Nat.lt_succ_iff_lt_or_eq.1 hjk with hjk | rfl
                · have := HFF.out j hj hjk; rw [d2, d3] at this; exact this
                · rintro ⟨_, e⟩; simp at e⟩
              case measure => simp [intOf]; omega
            · have HB : Hid (P.back = (f.start + 1) % (P.cells.length : Int)) := Lib.hid (by
                rw [BK.out, d2, d3, decide_eq_true (show f.start ∈ L by
                  have : x = f.start := by simpa using d1
                  rw [← this, ← HXX.out]; exact List.getElem_mem hlt)]
                rfl)
              go_wp2
              go_quiet (fail)
              clear e1
              go_wp2
              go_ret
              exact ⟨by rw [HB.out]; rfl, below_drewN hBr _⟩
      · have hnm : ¬ (f.start ∈ L ∧ (P.cursor != f.start && P.cursor != (f.start + 1) % (P.cells.length : Int)) = true) := by
          rintro ⟨hm1, hm2⟩
          obtain ⟨j, hj, e⟩ := List.getElem_of_mem hm1
          exact HFF.out j hj (by omega) ⟨e, hm2⟩
        have NF : Hid (P.back = S) := Lib.hid (by
          rw [BK.out, if_neg]
          intro hh
          simp only [Bool.true_and, Bool.and_eq_true, decide_eq_true_eq] at hh
          exact hnm ⟨hh.1, by simpa using hh.2⟩)
        clear hnm
        have hz5 := hB5.size
        obtain ⟨⟨x0, x1, x2, x3⟩, hlW⟩ := HX.out
        replace x0 := cell_keep x0 hB5
        replace x1 := cell_keep x1 hB5
        replace x3 := cell_keep x3 hB5
        replace x2 := cell_keep x2 hB5
        have hl5 := (hB5.block gl (lt_of_block hlW)).trans hlW
        have hBw5 : Below w.heap.size w _ := hBW.trans (hB5.mono (by omega))
        have hz5' := hBw5.size
        go_wp2_with fail
        refine (rMove_P h.ok _ _ _).mono ?_
        rintro e w6 ⟨rfl, hb6⟩
        have hl6 := (hb6.block gl (lt_of_block hl5)).trans hl5
        have hBw6 : Below w.heap.size w w6 := hBw5.trans (hb6.mono hz5')
        have hz6 := hBw6.size
        have hl0 := ints_get hl6 (L.length - 1) hne
        have hpos : (0 : Int) ≤ (L.length : Int) - 1 := by omega
        have hlt1 : (L.length : Int) - 1 < (L.length : Int) := by omega
        have htn : ((L.length : Int) - 1).toNat = L.length - 1 := by omega
        clear hb6 x0 x1 x2 x3 hl5
        go_wp2
        go_loopw [9, 10] (fun v i wr => ∃ k : Nat, k ≤ L.length ∧ i = .int .i64 (k : Int) ∧ v = .int .i64 (bestDn L ((P.cursor + -2) % (P.cells.length : Int)) L[L.length - 1] k) ∧ Below w6.heap.size w6 wr) (fun _ i _ => L.length - (intOf i).toNat)
        case atStart => exact ⟨0, Nat.zero_le _, rfl, by rw [bestDn_zero], Below.refl _ _⟩
        case round =>
          obtain ⟨k, hk, rfl, rfl, hB⟩ := hrel
          have hzB := hB.size
          by_cases hlt : k < L.length
          · have c := ints_get ((hB.block gl (lt_of_block hl6)).trans hl6) k hlt
            have hs := bestDn_step L ((P.cursor + -2) % (P.cells.length : Int)) L[L.length - 1] k hlt
            obtain ⟨x, hx⟩ : ∃ x, L[k] = x := ⟨_, rfl⟩
            rw [hx] at c hs
            have HSS := Lib.hid hs
            clear hs hx
            by_cases hax : x ≤ ((P.cursor + -2) % (P.cells.length : Int))
            · go_wp2
              go_roundw
              case rel => exact ⟨k + 1, by omega, by go_num, by rw [HSS.out, if_pos hax], hB⟩
              case measure => simp [intOf]; omega
            · go_wp2
              go_roundw
              case rel => exact ⟨k + 1, by omega, by go_num, by rw [HSS.out, if_neg hax], hB⟩
              case measure => simp [intOf]; omega
          · have e : k = L.length := by omega
            subst e
            obtain ⟨r0, r1⟩ := HR.out
            go_wp2
            go_ret
            exact ⟨by rw [NF.out, SD.out]; rfl, hBw6.trans (hB.mono hz6)⟩

theorem bestDn_range {P : Pl} (hok : P.ok) {a : Int} (hne : (P.opl P.flds.length).length - 1 < (P.opl P.flds.length).length) (i : Nat) : 0 ≤ bestDn (P.opl P.flds.length) a (P.opl P.flds.length)[(P.opl P.flds.length).length - 1] i ∧ bestDn (P.opl P.flds.length) a (P.opl P.flds.length)[(P.opl P.flds.length).length - 1] i < (P.cells.length : Int) := by
  unfold bestDn
  cases hf : ((P.opl P.flds.length).take i).reverse.find? (fun x => decide (x ≤ a)) with
  | none => exact opl_range hok _ (List.getElem_mem hne)
  | some x => exact opl_range hok x (List.mem_of_mem_take (List.mem_reverse.1 (List.mem_of_find?_eq_some hf)))
theorem ofF_range {P : Pl} (hok : P.ok) (i : Int) : 0 ≤ (P.ofF i).start ∧ (P.ofF i).start < (P.cells.length : Int) := by
  have hn := Pl.N_pos hok
  have hr := Pl.look_range hok i (-1)
  unfold Pl.ofF
  split
  · rename_i h0; exact ⟨h0, hr.2⟩
  · exact ⟨Int.le_refl _, by show (0 : Int) < _; omega⟩

theorem rBack_any {w : World} {b cap : Nat} {P : Pl} (h : RC w b P) :
    Calls Try.prog 37 #[.agg #[.int .i64 P.rows, .int .i64 P.cols, .slice (some ⟨b, 0, none⟩) P.cells.length cap, .int .i64 P.cursor]] w fun e w' => e = .returned (.int .i64 P.back) ∧ Below w.heap.size w w' := by
  obtain ⟨f0, f1⟩ := ofF_range h.ok P.cursor
  have hd : ∀ x, P.opens x = decide (x ∈ P.opl P.flds.length) := fun x => by
    cases e : P.opens x
    · exact (decide_eq_false (fun hm => by rw [(opens_iff h.ok x).2 hm] at e; cases e)).symm
    · exact (decide_eq_true ((opens_iff h.ok x).1 e)).symm
  by_cases hne : (P.opl P.flds.length).length - 1 < (P.opl P.flds.length).length
  · exact rBack_list h _ (Lib.hid rfl) hne (P.opl_len _) _ _ (Lib.hid rfl) (Lib.hid rfl) f0 f1 _ (Lib.hid rfl) (Lib.hid (bestDn_range h.ok hne _)) (Lib.hid (by
      unfold Pl.back
      simp only [hd]
      rw [opl_seek_dn h.ok (Pl.emod_range h.ok _).1 (Pl.emod_range h.ok _).2 hne]))
  · have hz : (P.opl P.flds.length).length = 0 := by omega
    have HZ := Lib.hid hz
    have E : Hid (P.back = 0) := Lib.hid (by
      unfold Pl.back
      simp only [hd]
      rw [opl_seek_none h.ok _ _ hz, List.eq_nil_of_length_eq_zero hz]
      simp)
    clear hz
    go_enter Try.func37, Try.ntmps37
    go_wp2_with fail
    refine (rOpens_any (h.below (by with_reducible (repeat (first | exact Below.refl _ _ | assumption | (refine Below.setCell ?_ (by first | omega | (simp; done) | (simp; omega)) _) | (refine Below.alloc ?_ (by first | omega | (simp; done) | (simp; omega)) _) | (refine below_drewN ?_ _) | (refine Below.drew ?_) | (refine Below.trans ?_ (Below.mono hb (by first | omega | (simp; done) | (simp; omega)))) | (refine Below.trans ?_ (Below.mono hb1 (by first | omega | (simp; done) | (simp; omega)))) | (refine Below.trans ?_ (Below.mono hb2 (by first | omega | (simp; done) | (simp; omega)))) | (refine Below.trans ?_ (Below.mono hb3 (by first | omega | (simp; done) | (simp; omega)))) | (refine Below.trans ?_ (Below.mono hb4 (by first | omega | (simp; done) | (simp; omega)))) | (refine Below.trans ?_ (Below.mono hb5 (by first | omega | (simp; done) | (simp; omega)))) | (refine Below.trans ?_ (Below.mono hb6 (by first | omega | (simp; done) | (simp; omega)))) | (refine Below.trans ?_ (Below.mono hb7 (by first | omega | (simp; done) | (simp; omega)))) | (refine Below.trans ?_ (Below.mono hb8 (by first | omega | (simp; done) | (simp; omega)))) | (refine Below.trans ?_ (Below.mono hb9 (by first | omega | (simp; done) | (simp; omega)))) | (refine Below.trans ?_ (Below.mono hb10 (by first | omega | (simp; done) | (simp; omega)))) | (refine Below.trans ?_ (Below.mono hb11 (by first | omega | (simp; done) | (simp; omega)))) | (refine Below.trans ?_ (Below.mono hb12 (by first | omega | (simp; done) | (simp; omega))))))))).mono ?_
    rintro e w3 ⟨gl, cl, rl, rfl, hl, hge, hb3⟩
    rw [HZ.out]
    clear hl
    obtain ⟨x0, x1, x2, x3⟩ := box4k hb3
    go_wp2
    go_ret
    exact ⟨by rw [E.out]; rfl, by with_reducible (repeat (first | exact Below.refl _ _ | assumption | (refine Below.setCell ?_ (by first | omega | (simp; done) | (simp; omega)) _) | (refine Below.alloc ?_ (by first | omega | (simp; done) | (simp; omega)) _) | (refine below_drewN ?_ _) | (refine Below.drew ?_) | (refine Below.trans ?_ (Below.mono hb (by first | omega | (simp; done) | (simp; omega)))) | (refine Below.trans ?_ (Below.mono hb1 (by first | omega | (simp; done) | (simp; omega)))) | (refine Below.trans ?_ (Below.mono hb2 (by first | omega | (simp; done) | (simp; omega)))) | (refine Below.trans ?_ (Below.mono hb3 (by first | omega | (simp; done) | (simp; omega)))) | (refine Below.trans ?_ (Below.mono hb4 (by first | omega | (simp; done) | (simp; omega)))) | (refine Below.trans ?_ (Below.mono hb5 (by first | omega | (simp; done) | (simp; omega)))) | (refine Below.trans ?_ (Below.mono hb6 (by first | omega | (simp; done) | (simp; omega)))) | (refine Below.trans ?_ (Below.mono hb7 (by first | omega | (simp; done) | (simp; omega)))) | (refine Below.trans ?_ (Below.mono hb8 (by first | omega | (simp; done) | (simp; omega)))) | (refine Below.trans ?_ (Below.mono hb9 (by first | omega | (simp; done) | (simp; omega)))) | (refine Below.trans ?_ (Below.mono hb10 (by first | omega | (simp; done) | (simp; omega)))) | (refine Below.trans ?_ (Below.mono hb11 (by first | omega | (simp; done) | (simp; omega)))) | (refine Below.trans ?_ (Below.mono hb12 (by first | omega | (simp; done) | (simp; omega))))))⟩
end Go.Proofs.Ytbkddgeocmkegaa
