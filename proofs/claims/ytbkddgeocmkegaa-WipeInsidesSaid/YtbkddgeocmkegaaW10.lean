/- Lemmas on the way to this seat's statements; they bear no condition of their own. -/
import Derived.Test.YtbkddgeocmkegaaW9
namespace Go.Proofs.Ytbkddgeocmkegaa
open Go.RowKit Go.Shelf
set_option linter.unusedSimpArgs false
set_option linter.unusedVariables false
set_option maxHeartbeats 8000000
attribute [local go_sem ↓] run_start run_byte run_cols run_neq_cell run_eql_cell run_eql_size

theorem not_good17 {r c : Int} (h : ¬ (goodSize r c = true ∧ r * c ≤ 60)) : goodSize r c = false ∨ (goodSize r c = true ∧ 60 < r * c) := by
  cases e : goodSize r c
  · exact .inl rfl
  · exact .inr ⟨rfl, by rw [e] at h; simp at h; exact h⟩


set_option maxRecDepth 100000 in
theorem wipeInsides_walk (w : World) (r c a : Int) (ao : Option Addr) (cs : List Cell) (cap0 : Nat) (hA : ARow w ao cs) :
    Calls Try.prog 7 #[.agg #[.int .i64 r, .int .i64 c], .slice ao cs.length cap0, .int .i64 a] w fun e w' => e = .returned (.bool true) ∧ Below w.heap.size w w' := by
  by_cases h : goodSize r c = true ∧ r * c ≤ 60
  · obtain ⟨h1, h2⟩ := h
    obtain ⟨P, hP⟩ : ∃ P, (Pl.new r c).fill cs = P := ⟨_, rfl⟩
    go_enter Try.func7, Try.ntmps7
    go_wp2_with fail
    refine (alive17_any _).mono ?_
    rintro e w1 ⟨rfl, hb1⟩
    have hB1 : Below w.heap.size w w1 := by with_reducible (repeat (first | exact Below.refl _ _ | assumption | (refine Below.setCell ?_ (by first | omega | (simp; done) | (simp; omega)) _) | (refine Below.alloc ?_ (by first | omega | (simp; done) | (simp; omega)) _) | (refine below_drewN ?_ _) | (refine Below.drew ?_) | (refine Below.trans ?_ (Below.mono hb (by first | omega | (simp; done) | (simp; omega)))) | (refine Below.trans ?_ (Below.mono hb1 (by first | omega | (simp; done) | (simp; omega)))) | (refine Below.trans ?_ (Below.mono hb2 (by first | omega | (simp; done) | (simp; omega)))) | (refine Below.trans ?_ (Below.mono hb3 (by first | omega | (simp; done) | (simp; omega)))) | (refine Below.trans ?_ (Below.mono hb4 (by first | omega | (simp; done) | (simp; omega)))) | (refine Below.trans ?_ (Below.mono hb5 (by first | omega | (simp; done) | (simp; omega)))) | (refine Below.trans ?_ (Below.mono hb6 (by first | omega | (simp; done) | (simp; omega)))) | (refine Below.trans ?_ (Below.mono hb7 (by first | omega | (simp; done) | (simp; omega)))) | (refine Below.trans ?_ (Below.mono hb8 (by first | omega | (simp; done) | (simp; omega)))) | (refine Below.trans ?_ (Below.mono hb9 (by first | omega | (simp; done) | (simp; omega)))) | (refine Below.trans ?_ (Below.mono hb10 (by first | omega | (simp; done) | (simp; omega)))) | (refine Below.trans ?_ (Below.mono hb11 (by first | omega | (simp; done) | (simp; omega)))) | (refine Below.trans ?_ (Below.mono hb12 (by first | omega | (simp; done) | (simp; omega))))))
    have s0 : w1.cell? ⟨w.heap.size, 0, none⟩ = some (.int .i64 r) := (hb1.cell (by simp)).trans (by simp [go_sem])
    have s1 : w1.cell? ⟨w.heap.size, 1, none⟩ = some (.int .i64 c) := (hb1.cell (by simp)).trans (by simp [go_sem])
    have hA1 := hA.below hB1
    clear hb1
    go_wp2_with fail
    refine (made17_in r c ao cs cap0 hA1 h1 h2).mono ?_
    rw [hP]
    rintro e w2 ⟨g, b, cap, b', cap', rfl, hP2, hR2, hgg, hgb, hgb', hn1, hn2, hb2⟩
    have hB2 : Below w.heap.size w w2 := hB1.trans (hb2.mono hB1.size)
    have hok := hP2.ok
    have hn := Pl.N_pos hok
    have hm := Pl.N_le hok
    clear s0 s1 hA1 hB1 hb2 hP hR2
    have hNp : (0 : Int) < (P.cells.length : Int) := by omega
    have hNe : P.cells ≠ [] := fun e => by rw [e] at hn; exact absurd hn (Nat.lt_irrefl 0)
    have hmod : (a % 256).tmod (P.cells.length : Int) = a % 256 % (P.cells.length : Int) := Int.tmod_eq_emod_of_nonneg (by omega)
    have hband := i64_and255 a
    have ha0 : 0 ≤ a % 256 := by omega
    obtain ⟨t, ht⟩ : ∃ t, a % 256 % (P.cells.length : Int) = t := ⟨_, rfl⟩
    have ht0 : 0 ≤ t ∧ t < (P.cells.length : Int) := by rw [← ht]; exact ⟨Int.emod_nonneg _ (by omega), Int.emod_lt_of_pos _ hNp⟩
    rw [ht] at hmod
    have HT := Lib.hid ht
    clear ht
    obtain ⟨t0, t1⟩ := ht0
    go_wp2_with fail
    refine (Len_any (hP2.below (by with_reducible (repeat (first | exact Below.refl _ _ | assumption | (refine Below.setCell ?_ (by first | omega | (simp; done) | (simp; omega)) _) | (refine Below.alloc ?_ (by first | omega | (simp; done) | (simp; omega)) _) | (refine below_drewN ?_ _) | (refine Below.drew ?_) | (refine Below.trans ?_ (Below.mono hb (by first | omega | (simp; done) | (simp; omega)))) | (refine Below.trans ?_ (Below.mono hb1 (by first | omega | (simp; done) | (simp; omega)))) | (refine Below.trans ?_ (Below.mono hb2 (by first | omega | (simp; done) | (simp; omega)))) | (refine Below.trans ?_ (Below.mono hb3 (by first | omega | (simp; done) | (simp; omega)))) | (refine Below.trans ?_ (Below.mono hb4 (by first | omega | (simp; done) | (simp; omega)))) | (refine Below.trans ?_ (Below.mono hb5 (by first | omega | (simp; done) | (simp; omega)))) | (refine Below.trans ?_ (Below.mono hb6 (by first | omega | (simp; done) | (simp; omega)))) | (refine Below.trans ?_ (Below.mono hb7 (by first | omega | (simp; done) | (simp; omega)))) | (refine Below.trans ?_ (Below.mono hb8 (by first | omega | (simp; done) | (simp; omega)))) | (refine Below.trans ?_ (Below.mono hb9 (by first | omega | (simp; done) | (simp; omega)))) | (refine Below.trans ?_ (Below.mono hb10 (by first | omega | (simp; done) | (simp; omega)))) | (refine Below.trans ?_ (Below.mono hb11 (by first | omega | (simp; done) | (simp; omega)))) | (refine Below.trans ?_ (Below.mono hb12 (by first | omega | (simp; done) | (simp; omega))))))))).mono ?_
    rintro e w3 ⟨rfl, hb3⟩
    have hz2 := hB2.size
    have hB3 : Below w.heap.size w w3 := by with_reducible (repeat (first | exact Below.refl _ _ | assumption | (refine Below.setCell ?_ (by first | omega | (simp; done) | (simp; omega)) _) | (refine Below.alloc ?_ (by first | omega | (simp; done) | (simp; omega)) _) | (refine below_drewN ?_ _) | (refine Below.drew ?_) | (refine Below.trans ?_ (Below.mono hb (by first | omega | (simp; done) | (simp; omega)))) | (refine Below.trans ?_ (Below.mono hb1 (by first | omega | (simp; done) | (simp; omega)))) | (refine Below.trans ?_ (Below.mono hb2 (by first | omega | (simp; done) | (simp; omega)))) | (refine Below.trans ?_ (Below.mono hb3 (by first | omega | (simp; done) | (simp; omega)))) | (refine Below.trans ?_ (Below.mono hb4 (by first | omega | (simp; done) | (simp; omega)))) | (refine Below.trans ?_ (Below.mono hb5 (by first | omega | (simp; done) | (simp; omega)))) | (refine Below.trans ?_ (Below.mono hb6 (by first | omega | (simp; done) | (simp; omega)))) | (refine Below.trans ?_ (Below.mono hb7 (by first | omega | (simp; done) | (simp; omega)))) | (refine Below.trans ?_ (Below.mono hb8 (by first | omega | (simp; done) | (simp; omega)))) | (refine Below.trans ?_ (Below.mono hb9 (by first | omega | (simp; done) | (simp; omega)))) | (refine Below.trans ?_ (Below.mono hb10 (by first | omega | (simp; done) | (simp; omega)))) | (refine Below.trans ?_ (Below.mono hb11 (by first | omega | (simp; done) | (simp; omega)))) | (refine Below.trans ?_ (Below.mono hb12 (by first | omega | (simp; done) | (simp; omega))))))
    have hP3 : PL w3 g b cap P := hP2.below (by with_reducible (repeat (first | exact Below.refl _ _ | assumption | (refine Below.setCell ?_ (by first | omega | (simp; done) | (simp; omega)) _) | (refine Below.alloc ?_ (by first | omega | (simp; done) | (simp; omega)) _) | (refine below_drewN ?_ _) | (refine Below.drew ?_) | (refine Below.trans ?_ (Below.mono hb (by first | omega | (simp; done) | (simp; omega)))) | (refine Below.trans ?_ (Below.mono hb1 (by first | omega | (simp; done) | (simp; omega)))) | (refine Below.trans ?_ (Below.mono hb2 (by first | omega | (simp; done) | (simp; omega)))) | (refine Below.trans ?_ (Below.mono hb3 (by first | omega | (simp; done) | (simp; omega)))) | (refine Below.trans ?_ (Below.mono hb4 (by first | omega | (simp; done) | (simp; omega)))) | (refine Below.trans ?_ (Below.mono hb5 (by first | omega | (simp; done) | (simp; omega)))) | (refine Below.trans ?_ (Below.mono hb6 (by first | omega | (simp; done) | (simp; omega)))) | (refine Below.trans ?_ (Below.mono hb7 (by first | omega | (simp; done) | (simp; omega)))) | (refine Below.trans ?_ (Below.mono hb8 (by first | omega | (simp; done) | (simp; omega)))) | (refine Below.trans ?_ (Below.mono hb9 (by first | omega | (simp; done) | (simp; omega)))) | (refine Below.trans ?_ (Below.mono hb10 (by first | omega | (simp; done) | (simp; omega)))) | (refine Below.trans ?_ (Below.mono hb11 (by first | omega | (simp; done) | (simp; omega)))) | (refine Below.trans ?_ (Below.mono hb12 (by first | omega | (simp; done) | (simp; omega)))))))
    clear hb3 hP2
    go_wp2_with fail
    refine (Of_any hP3 _).mono ?_
    clear hmod hband ha0
    cases hB : P.ofB t
    · rintro e w4 ⟨rfl, hb4⟩
      have hB4 := hB3.trans (hb4.mono hB3.size)
      have hz4 := hB4.size
      clear hb4
      go_wp2
      go_ret
      exact ⟨by rfl, by with_reducible (repeat (first | exact Below.refl _ _ | assumption | (refine Below.setCell ?_ (by first | omega | (simp; done) | (simp; omega)) _) | (refine Below.alloc ?_ (by first | omega | (simp; done) | (simp; omega)) _) | (refine below_drewN ?_ _) | (refine Below.drew ?_) | (refine Below.trans ?_ (Below.mono hb (by first | omega | (simp; done) | (simp; omega)))) | (refine Below.trans ?_ (Below.mono hb1 (by first | omega | (simp; done) | (simp; omega)))) | (refine Below.trans ?_ (Below.mono hb2 (by first | omega | (simp; done) | (simp; omega)))) | (refine Below.trans ?_ (Below.mono hb3 (by first | omega | (simp; done) | (simp; omega)))) | (refine Below.trans ?_ (Below.mono hb4 (by first | omega | (simp; done) | (simp; omega)))) | (refine Below.trans ?_ (Below.mono hb5 (by first | omega | (simp; done) | (simp; omega)))) | (refine Below.trans ?_ (Below.mono hb6 (by first | omega | (simp; done) | (simp; omega)))) | (refine Below.trans ?_ (Below.mono hb7 (by first | omega | (simp; done) | (simp; omega)))) | (refine Below.trans ?_ (Below.mono hb8 (by first | omega | (simp; done) | (simp; omega)))) | (refine Below.trans ?_ (Below.mono hb9 (by first | omega | (simp; done) | (simp; omega)))) | (refine Below.trans ?_ (Below.mono hb10 (by first | omega | (simp; done) | (simp; omega)))) | (refine Below.trans ?_ (Below.mono hb11 (by first | omega | (simp; done) | (simp; omega)))) | (refine Below.trans ?_ (Below.mono hb12 (by first | omega | (simp; done) | (simp; omega))))))⟩
    · obtain ⟨s, hs, hst, hF, hbef, -⟩ := ofF_fld hok hB
      have hl := fld_len hok hs hst
      obtain ⟨f, hf⟩ : ∃ f, P.fld (s : Int) = f := ⟨_, rfl⟩
      have hfs : f.start = (s : Int) := by rw [← hf]; rfl
      rw [hf] at hl
      have HFS := Lib.hid hfs
      have HF := Lib.hid hf
      have HFT := Lib.hid hF
      rw [hF, hf]
      clear hf hF hbef hfs
      rintro e w4 ⟨rfl, hb4⟩
      have hB4 := hB3.trans (hb4.mono hB3.size)
      have hP4 := hP3.below hb4
      have hz4 := hB4.size
      clear hb4 hP3 hB3
      obtain ⟨W, hW⟩ : ∃ W, w4.alloc (.cells #[.int .i64 f.start, .int .i64 f.len, .int .u8 f.attr] 89) = W := ⟨_, rfl⟩
      have hbW : Below w4.heap.size w4 W := by rw [← hW]; with_reducible (repeat (first | exact Below.refl _ _ | assumption | (refine Below.setCell ?_ (by first | omega | (simp; done) | (simp; omega)) _) | (refine Below.alloc ?_ (by first | omega | (simp; done) | (simp; omega)) _) | (refine below_drewN ?_ _) | (refine Below.drew ?_) | (refine Below.trans ?_ (Below.mono hb (by first | omega | (simp; done) | (simp; omega)))) | (refine Below.trans ?_ (Below.mono hb1 (by first | omega | (simp; done) | (simp; omega)))) | (refine Below.trans ?_ (Below.mono hb2 (by first | omega | (simp; done) | (simp; omega)))) | (refine Below.trans ?_ (Below.mono hb3 (by first | omega | (simp; done) | (simp; omega)))) | (refine Below.trans ?_ (Below.mono hb4 (by first | omega | (simp; done) | (simp; omega)))) | (refine Below.trans ?_ (Below.mono hb5 (by first | omega | (simp; done) | (simp; omega)))) | (refine Below.trans ?_ (Below.mono hb6 (by first | omega | (simp; done) | (simp; omega)))) | (refine Below.trans ?_ (Below.mono hb7 (by first | omega | (simp; done) | (simp; omega)))) | (refine Below.trans ?_ (Below.mono hb8 (by first | omega | (simp; done) | (simp; omega)))) | (refine Below.trans ?_ (Below.mono hb9 (by first | omega | (simp; done) | (simp; omega)))) | (refine Below.trans ?_ (Below.mono hb10 (by first | omega | (simp; done) | (simp; omega)))) | (refine Below.trans ?_ (Below.mono hb11 (by first | omega | (simp; done) | (simp; omega)))) | (refine Below.trans ?_ (Below.mono hb12 (by first | omega | (simp; done) | (simp; omega))))))
      have hBW := hB4.trans (hbW.mono hz4)
      have hPW := hP4.below hbW
      have hzW : W.heap.size = w4.heap.size + 1 := by rw [← hW]; simp
      have y0 : W.cell? ⟨w4.heap.size, 0, none⟩ = some (.int .i64 f.start) := by rw [← hW]; simp [go_sem]
      have y1 : W.cell? ⟨w4.heap.size, 1, none⟩ = some (.int .i64 f.len) := by rw [← hW]; simp [go_sem]
      have y2 : W.cell? ⟨w4.heap.size, 2, none⟩ = some (.int .u8 f.attr) := by rw [← hW]; simp [go_sem]
      have HW := Lib.hid hW
      clear hW hbW hP4
      go_wp2_with fail
      rw [HW.out]
      refine (Clone_any hPW).mono ?_
      rintro e w5 ⟨gq, bq, capq, rfl, hQ5, hgq, hbq, hb5⟩
      have hP5 := hPW.below hb5
      have hB5 := hBW.trans (hb5.mono hBW.size)
      replace y0 := cell_keep y0 hb5
      replace y1 := cell_keep y1 hb5
      replace y2 := cell_keep y2 hb5
      have hz5 := hb5.size
      have hgl := hPW.gl
      have hbl := hPW.bl
      clear hb5
      go_wp2_with fail
      refine (Clone_any hP5).mono ?_
      rintro e w6 ⟨gr, br, capr, rfl, hR6, hgr, hbr, hb6⟩
      have hP6 := hP5.below hb6
      have hQ6 := hQ5.below hb6
      have hB6 := hB5.trans (hb6.mono hB5.size)
      replace y0 := cell_keep y0 hb6
      replace y1 := cell_keep y1 hb6
      replace y2 := cell_keep y2 hb6
      have hz6 := hb6.size
      have hglq := hQ5.gl
      have hblq := hQ5.bl
      clear hb6 hP5 hQ5 hB5
      go_wp2_with fail
      have hIn := Inside_P hQ6 hs hst
      rw [HF.out] at hIn
      refine hIn.mono ?_
      rintro e w7 ⟨rfl, hQ7, hk7⟩
      have hP7 := hP6.chg hk7 (by show ¬ g = bq; omega) (by show ¬ b = bq; omega)
      have hR7 := hR6.chg hk7 (by show ¬ gr = bq; omega) (by show ¬ br = bq; omega)
      have hB7 := hB6.trans (hk7.below hB6.size (fun j hj => by omega))
      have hz7 := hk7.size
      replace y0 := cell_keepC y0 hk7 (by show ¬ w4.heap.size = bq; omega)
      replace y1 := cell_keepC y1 hk7 (by show ¬ w4.heap.size = bq; omega)
      replace y2 := cell_keepC y2 hk7 (by show ¬ w4.heap.size = bq; omega)
      clear hk7 hP6 hR6 hQ6 hB6 hIn
      go_wp2_with fail
      have hRe := Rest_P hR7 hs hst ⟨t0, t1⟩ HFT.out
      unfold RestPost at hRe
      obtain ⟨op, hop⟩ : ∃ op, P.openAt t = op := ⟨_, rfl⟩
      simp only [hop] at hRe
      clear hop
      refine hRe.mono ?_
      rintro e w8 ⟨R, m, rfl, hR8, hk8, hmm, hRR⟩
      rw [HF.out] at hmm
      have hP8 := hP7.chg hk8 (by show ¬ g = br; omega) (by show ¬ b = br; omega)
      have hQ8 := hQ7.chg hk8 (by show ¬ gq = br; omega) (by show ¬ bq = br; omega)
      have hB8 := hB7.trans (hk8.below hB7.size (fun j hj => by omega))
      have hz8 := hk8.size
      replace y0 := cell_keepC y0 hk8 (by show ¬ w4.heap.size = br; omega)
      replace y1 := cell_keepC y1 hk8 (by show ¬ w4.heap.size = br; omega)
      replace y2 := cell_keepC y2 hk8 (by show ¬ w4.heap.size = br; omega)
      clear hk8 hP7 hR7 hQ7 hB7 hRe
      have HRR := Lib.hid hRR
      have HMM := Lib.hid hmm
      clear hRR hmm
      go_wp2_with fail
      refine (Len_any hP8).mono ?_
      rintro e w9 ⟨rfl, hb9⟩
      have hP9 := hP8.below hb9
      have hQ9 := hQ8.below hb9
      have hR9 := hR8.below hb9
      have hB9 := hB8.trans (hb9.mono hB8.size)
      have hz9 := hb9.size
      replace y0 := cell_keep y0 hb9
      replace y1 := cell_keep y1 hb9
      replace y2 := cell_keep y2 hb9
      clear hb9 hP8 hQ8 hR8 hB8
      go_wp2
      cases op
      · go_loopw [61] (fun i wr => ∃ k : Nat, k ≤ P.cells.length ∧ i = .int .i64 (k : Int) ∧ Below w9.heap.size w9 wr) (fun i _ => P.cells.length - (intOf i).toNat)
        case atStart => exact ⟨0, Nat.zero_le _, rfl, Below.refl _ _⟩
        case round =>
          obtain ⟨k, hk, rfl, hBr⟩ := hrel
          have hPr := hP9.below hBr
          have hQr := hQ9.below hBr
          have hRr := hR9.below hBr
          have hzr := hBr.size
          replace y0 := cell_keep y0 hBr
          replace y1 := cell_keep y1 hBr
          replace y2 := cell_keep y2 hBr
          by_cases hlt : k < P.cells.length
          · have hlt' : (k : Int) < (P.cells.length : Int) := by omega
            have hmI := inside_at hok hs hst (i := (k : Int)) ⟨by omega, hlt'⟩
            rw [HF.out] at hmI
            have hRk := HRR.out (k : Int) (by omega) hlt'
            have hmB : mineB P (s : Int) (k : Int) = ((P.ofF (k : Int)).start == f.start && (k : Int) != f.start) := by rw [HFS.out]; rfl
            go_wp2_with fail
            refine (Of_any hPr _).mono ?_
            obtain ⟨gg, hgg⟩ : ∃ gg, P.ofF (k : Int) = gg := ⟨_, rfl⟩
            rw [hgg] at hmB ⊢
            clear hgg
            rintro e w10 ⟨rfl, hb10⟩
            have hBa := hBr.trans (hb10.mono hzr)
            have hPa := hPr.below hb10
            have hQa := hQr.below hb10
            have hRa := hRr.below hb10
            have hza := hb10.size
            have z0 := cell_keep y0 hb10
            clear hb10 hPr hQr hRr y0 y1 y2
            have hlb : w4.heap.size < w10.heap.size := by omega
            obtain ⟨W1, hW1⟩ : ∃ W1, w10.alloc (.cells #[.int .i64 gg.start, .int .i64 gg.len, .int .u8 gg.attr] 89) = W1 := ⟨_, rfl⟩
            have hbW1 : Below w10.heap.size w10 W1 := by rw [← hW1]; with_reducible (repeat (first | exact Below.refl _ _ | assumption | (refine Below.setCell ?_ (by first | omega | (simp; done) | (simp; omega)) _) | (refine Below.alloc ?_ (by first | omega | (simp; done) | (simp; omega)) _) | (refine below_drewN ?_ _) | (refine Below.drew ?_) | (refine Below.trans ?_ (Below.mono hb (by first | omega | (simp; done) | (simp; omega)))) | (refine Below.trans ?_ (Below.mono hb1 (by first | omega | (simp; done) | (simp; omega)))) | (refine Below.trans ?_ (Below.mono hb2 (by first | omega | (simp; done) | (simp; omega)))) | (refine Below.trans ?_ (Below.mono hb3 (by first | omega | (simp; done) | (simp; omega)))) | (refine Below.trans ?_ (Below.mono hb4 (by first | omega | (simp; done) | (simp; omega)))) | (refine Below.trans ?_ (Below.mono hb5 (by first | omega | (simp; done) | (simp; omega)))) | (refine Below.trans ?_ (Below.mono hb6 (by first | omega | (simp; done) | (simp; omega)))) | (refine Below.trans ?_ (Below.mono hb7 (by first | omega | (simp; done) | (simp; omega)))) | (refine Below.trans ?_ (Below.mono hb8 (by first | omega | (simp; done) | (simp; omega)))) | (refine Below.trans ?_ (Below.mono hb9 (by first | omega | (simp; done) | (simp; omega)))) | (refine Below.trans ?_ (Below.mono hb10 (by first | omega | (simp; done) | (simp; omega)))) | (refine Below.trans ?_ (Below.mono hb11 (by first | omega | (simp; done) | (simp; omega)))) | (refine Below.trans ?_ (Below.mono hb12 (by first | omega | (simp; done) | (simp; omega))))))
            have q0 : W1.cell? ⟨w10.heap.size, 0, none⟩ = some (.int .i64 gg.start) := by rw [← hW1]; simp [go_sem]
            have z1 := cell_keep z0 hbW1
            have hP1 := hPa.below hbW1
            have hQ1 := hQa.below hbW1
            have hR1 := hRa.below hbW1
            have hB1 := hBa.trans (hbW1.mono (by omega))
            have hzW1 := hbW1.size
            clear hbW1 hPa hQa hRa hBa z0
            cases d1 : (gg.start == f.start)
            · have hm : mineB P (s : Int) (k : Int) = false := by rw [hmB, d1]; rfl
              rw [hm, if_neg (by simp)] at hmI
              go_wp2
              go_quiet (fail)
              go_wp2_with fail
              refine (At_any (hQ1.below (by with_reducible (repeat (first | exact Below.refl _ _ | assumption | (refine Below.setCell ?_ (by first | omega | (simp; done) | (simp; omega)) _) | (refine Below.alloc ?_ (by first | omega | (simp; done) | (simp; omega)) _) | (refine below_drewN ?_ _) | (refine Below.drew ?_) | (refine Below.trans ?_ (Below.mono hb (by first | omega | (simp; done) | (simp; omega)))) | (refine Below.trans ?_ (Below.mono hb1 (by first | omega | (simp; done) | (simp; omega)))) | (refine Below.trans ?_ (Below.mono hb2 (by first | omega | (simp; done) | (simp; omega)))) | (refine Below.trans ?_ (Below.mono hb3 (by first | omega | (simp; done) | (simp; omega)))) | (refine Below.trans ?_ (Below.mono hb4 (by first | omega | (simp; done) | (simp; omega)))) | (refine Below.trans ?_ (Below.mono hb5 (by first | omega | (simp; done) | (simp; omega)))) | (refine Below.trans ?_ (Below.mono hb6 (by first | omega | (simp; done) | (simp; omega)))) | (refine Below.trans ?_ (Below.mono hb7 (by first | omega | (simp; done) | (simp; omega)))) | (refine Below.trans ?_ (Below.mono hb8 (by first | omega | (simp; done) | (simp; omega)))) | (refine Below.trans ?_ (Below.mono hb9 (by first | omega | (simp; done) | (simp; omega)))) | (refine Below.trans ?_ (Below.mono hb10 (by first | omega | (simp; done) | (simp; omega)))) | (refine Below.trans ?_ (Below.mono hb11 (by first | omega | (simp; done) | (simp; omega)))) | (refine Below.trans ?_ (Below.mono hb12 (by first | omega | (simp; done) | (simp; omega)))))))) _).mono ?_
              rw [hmI]
              obtain ⟨x, hx⟩ : ∃ x, P.at (k : Int) = x := ⟨_, rfl⟩
              have HXK := Lib.hid hx
              rw [hx]
              rw [hm] at hRk
              have hRe := hRk.2
              have HRE := Lib.hid hRe
              clear hx hmI hRk hRe
              rintro e v1 ⟨rfl, c1⟩
              have b1 : Below W1.heap.size W1 v1 := by first | exact c1 | exact (below_drewN (Below.refl _ _) _).trans (c1.mono (by simp))
              have zb1 := b1.size
              have z2 := cell_keep z1 b1
              clear c1
              go_wp2_with fail
              refine (At_any (hP1.below b1) _).mono ?_
              rw [HXK.out]
              rintro e v2 ⟨rfl, b2⟩
              have b12 := b1.trans (b2.mono zb1)
              have zb2 := b12.size
              have z3 := cell_keep z2 b2
              clear b2 z2 b1
              go_wp2_with fail
              refine (At_any (hR1.below b12) _).mono ?_
              rw [HRE.out (by first | exact .inl rfl | exact .inl trivial), HXK.out]
              rintro e v3 ⟨rfl, b3⟩
              have b13 := b12.trans (b3.mono zb2)
              have zb3 := b13.size
              clear b3 b12
              go_wp2_with fail
              refine (At_any (hP1.below b13) _).mono ?_
              rw [HXK.out]
              rintro e v4 ⟨rfl, b4⟩
              have b14 := b13.trans (b4.mono zb3)
              clear b4
              go_wp2
              go_roundw
              case rel => exact ⟨k + 1, by omega, by go_num, hB1.trans (b14.mono (by omega))⟩
              case measure => simp [intOf]; omega
            · cases d2 : ((k : Int) != f.start)
              · have hm : mineB P (s : Int) (k : Int) = false := by rw [hmB, d1, d2]; rfl
                rw [hm, if_neg (by simp)] at hmI
                go_wp2
                go_quiet (fail)
                go_wp2_with fail
                refine (At_any (hQ1.below (by with_reducible (repeat (first | exact Below.refl _ _ | assumption | (refine Below.setCell ?_ (by first | omega | (simp; done) | (simp; omega)) _) | (refine Below.alloc ?_ (by first | omega | (simp; done) | (simp; omega)) _) | (refine below_drewN ?_ _) | (refine Below.drew ?_) | (refine Below.trans ?_ (Below.mono hb (by first | omega | (simp; done) | (simp; omega)))) | (refine Below.trans ?_ (Below.mono hb1 (by first | omega | (simp; done) | (simp; omega)))) | (refine Below.trans ?_ (Below.mono hb2 (by first | omega | (simp; done) | (simp; omega)))) | (refine Below.trans ?_ (Below.mono hb3 (by first | omega | (simp; done) | (simp; omega)))) | (refine Below.trans ?_ (Below.mono hb4 (by first | omega | (simp; done) | (simp; omega)))) | (refine Below.trans ?_ (Below.mono hb5 (by first | omega | (simp; done) | (simp; omega)))) | (refine Below.trans ?_ (Below.mono hb6 (by first | omega | (simp; done) | (simp; omega)))) | (refine Below.trans ?_ (Below.mono hb7 (by first | omega | (simp; done) | (simp; omega)))) | (refine Below.trans ?_ (Below.mono hb8 (by first | omega | (simp; done) | (simp; omega)))) | (refine Below.trans ?_ (Below.mono hb9 (by first | omega | (simp; done) | (simp; omega)))) | (refine Below.trans ?_ (Below.mono hb10 (by first | omega | (simp; done) | (simp; omega)))) | (refine Below.trans ?_ (Below.mono hb11 (by first | omega | (simp; done) | (simp; omega)))) | (refine Below.trans ?_ (Below.mono hb12 (by first | omega | (simp; done) | (simp; omega)))))))) _).mono ?_
                rw [hmI]
                obtain ⟨x, hx⟩ : ∃ x, P.at (k : Int) = x := ⟨_, rfl⟩
                have HXK := Lib.hid hx
                rw [hx]
                rw [hm] at hRk
                have hRe := hRk.2
                have HRE := Lib.hid hRe
                clear hx hmI hRk hRe
                rintro e v1 ⟨rfl, c1⟩
                have b1 : Below W1.heap.size W1 v1 := by first | exact c1 | exact (below_drewN (Below.refl _ _) _).trans (c1.mono (by simp))
                have zb1 := b1.size
                have z2 := cell_keep z1 b1
                clear c1
                go_wp2_with fail
                refine (At_any (hP1.below b1) _).mono ?_
                rw [HXK.out]
                rintro e v2 ⟨rfl, b2⟩
                have b12 := b1.trans (b2.mono zb1)
                have zb2 := b12.size
                have z3 := cell_keep z2 b2
                clear b2 z2 b1
                go_wp2_with fail
                refine (At_any (hR1.below b12) _).mono ?_
                rw [HRE.out (by first | exact .inl rfl | exact .inl trivial), HXK.out]
                rintro e v3 ⟨rfl, b3⟩
                have b13 := b12.trans (b3.mono zb2)
                have zb3 := b13.size
                clear b3 b12
                go_wp2_with fail
                refine (At_any (hP1.below b13) _).mono ?_
                rw [HXK.out]
                rintro e v4 ⟨rfl, b4⟩
                have b14 := b13.trans (b4.mono zb3)
                clear b4
                go_wp2
                go_roundw
                case rel => exact ⟨k + 1, by omega, by go_num, hB1.trans (b14.mono (by omega))⟩
                case measure => simp [intOf]; omega
              · have hm : mineB P (s : Int) (k : Int) = true := by rw [hmB, d1, d2]; rfl
                rw [hm, if_pos rfl] at hmI
                have hks : (k : Int) ≠ (s : Int) := by rw [← HFS.out]; exact bne_iff_ne.1 d2
                have e1 : IntKind.i64.wrap ((k : Int) - f.start) = (k : Int) - f.start := IntWalk.i64_in _ (by have := HFS.out; omega)
                have e2 : IntKind.i64.wrap ((k : Int) - f.start + (P.cells.length : Int)) = (k : Int) - f.start + (P.cells.length : Int) := IntWalk.i64_in _ (by have := HFS.out; omega)
                have e3 : IntKind.i64.wrap (t - f.start) = t - f.start := IntWalk.i64_in _ (by have := HFS.out; omega)
                have e4 : IntKind.i64.wrap (t - f.start + (P.cells.length : Int)) = t - f.start + (P.cells.length : Int) := IntWalk.i64_in _ (by have := HFS.out; omega)
                obtain ⟨dk, hdk⟩ : ∃ dk, dst (P.cells.length : Int) (s : Int) (k : Int) = dk := ⟨_, rfl⟩
                obtain ⟨dt, hdt⟩ : ∃ dt, dst (P.cells.length : Int) (s : Int) t = dt := ⟨_, rfl⟩
                rw [hdk, hdt, hm] at hRk
                have e5 : ((k : Int) - f.start + (P.cells.length : Int)).tmod (P.cells.length : Int) = dk := by rw [← hdk, Int.tmod_eq_emod_of_nonneg (by have := HFS.out; omega), HFS.out]; rfl
                have e6 : (t - f.start + (P.cells.length : Int)).tmod (P.cells.length : Int) = dt := by rw [← hdt, Int.tmod_eq_emod_of_nonneg (by have := HFS.out; omega), HFS.out]; rfl
                obtain ⟨x, hx⟩ : ∃ x, P.at (k : Int) = x := ⟨_, rfl⟩
                have HXK := Lib.hid hx
                have HRK := Lib.hid hRk
                clear hx hRk hdk hdt
                by_cases hbd : dt ≤ dk
                · go_wp2
                  go_quiet ((go_at_call 25; exact Calls.quiet_of_same (Len_sm (hP1.drewN _))))
                  clear e1 e2 e3 e4 e5 e6
                  go_wp2_with fail
                  refine (At_any (hQ1.below (by with_reducible (repeat (first | exact Below.refl _ _ | assumption | (refine Below.setCell ?_ (by first | omega | (simp; done) | (simp; omega)) _) | (refine Below.alloc ?_ (by first | omega | (simp; done) | (simp; omega)) _) | (refine below_drewN ?_ _) | (refine Below.drew ?_) | (refine Below.trans ?_ (Below.mono hb (by first | omega | (simp; done) | (simp; omega)))) | (refine Below.trans ?_ (Below.mono hb1 (by first | omega | (simp; done) | (simp; omega)))) | (refine Below.trans ?_ (Below.mono hb2 (by first | omega | (simp; done) | (simp; omega)))) | (refine Below.trans ?_ (Below.mono hb3 (by first | omega | (simp; done) | (simp; omega)))) | (refine Below.trans ?_ (Below.mono hb4 (by first | omega | (simp; done) | (simp; omega)))) | (refine Below.trans ?_ (Below.mono hb5 (by first | omega | (simp; done) | (simp; omega)))) | (refine Below.trans ?_ (Below.mono hb6 (by first | omega | (simp; done) | (simp; omega)))) | (refine Below.trans ?_ (Below.mono hb7 (by first | omega | (simp; done) | (simp; omega)))) | (refine Below.trans ?_ (Below.mono hb8 (by first | omega | (simp; done) | (simp; omega)))) | (refine Below.trans ?_ (Below.mono hb9 (by first | omega | (simp; done) | (simp; omega)))) | (refine Below.trans ?_ (Below.mono hb10 (by first | omega | (simp; done) | (simp; omega)))) | (refine Below.trans ?_ (Below.mono hb11 (by first | omega | (simp; done) | (simp; omega)))) | (refine Below.trans ?_ (Below.mono hb12 (by first | omega | (simp; done) | (simp; omega)))))))) _).mono ?_
                  rw [hmI]
                  rintro e v1 ⟨rfl, c1⟩
                  have b12 : Below W1.heap.size W1 v1 := by first | exact c1 | exact (below_drewN (Below.refl _ _) _).trans (c1.mono (by simp))
                  have zb2 := b12.size
                  have z3 := cell_keep z1 b12
                  clear c1
                  have HRE := Lib.hid HRK.out.2
                  go_wp2_with fail
                  refine (At_any (hR1.below b12) _).mono ?_
                  rw [HRE.out (by first | exact .inl rfl | exact .inl trivial), HXK.out]
                  rintro e v3 ⟨rfl, b3⟩
                  have b13 := b12.trans (b3.mono zb2)
                  have zb3 := b13.size
                  clear b3 b12
                  go_wp2_with fail
                  refine (At_any (hP1.below b13) _).mono ?_
                  rw [HXK.out]
                  rintro e v4 ⟨rfl, b4⟩
                  have b14 := b13.trans (b4.mono zb3)
                  clear b4
                  go_wp2
                  go_roundw
                  case rel => exact ⟨k + 1, by omega, by go_num, hB1.trans (b14.mono (by omega))⟩
                  case measure => simp [intOf]; omega
                · go_wp2
                  go_quiet ((go_at_call 25; exact Calls.quiet_of_same (Len_sm (hP1.drewN _))))
                  clear e1 e2 e3 e4 e5 e6
                  go_wp2_with fail
                  refine (At_any (hQ1.below (by with_reducible (repeat (first | exact Below.refl _ _ | assumption | (refine Below.setCell ?_ (by first | omega | (simp; done) | (simp; omega)) _) | (refine Below.alloc ?_ (by first | omega | (simp; done) | (simp; omega)) _) | (refine below_drewN ?_ _) | (refine Below.drew ?_) | (refine Below.trans ?_ (Below.mono hb (by first | omega | (simp; done) | (simp; omega)))) | (refine Below.trans ?_ (Below.mono hb1 (by first | omega | (simp; done) | (simp; omega)))) | (refine Below.trans ?_ (Below.mono hb2 (by first | omega | (simp; done) | (simp; omega)))) | (refine Below.trans ?_ (Below.mono hb3 (by first | omega | (simp; done) | (simp; omega)))) | (refine Below.trans ?_ (Below.mono hb4 (by first | omega | (simp; done) | (simp; omega)))) | (refine Below.trans ?_ (Below.mono hb5 (by first | omega | (simp; done) | (simp; omega)))) | (refine Below.trans ?_ (Below.mono hb6 (by first | omega | (simp; done) | (simp; omega)))) | (refine Below.trans ?_ (Below.mono hb7 (by first | omega | (simp; done) | (simp; omega)))) | (refine Below.trans ?_ (Below.mono hb8 (by first | omega | (simp; done) | (simp; omega)))) | (refine Below.trans ?_ (Below.mono hb9 (by first | omega | (simp; done) | (simp; omega)))) | (refine Below.trans ?_ (Below.mono hb10 (by first | omega | (simp; done) | (simp; omega)))) | (refine Below.trans ?_ (Below.mono hb11 (by first | omega | (simp; done) | (simp; omega)))) | (refine Below.trans ?_ (Below.mono hb12 (by first | omega | (simp; done) | (simp; omega)))))))) _).mono ?_
                  rw [hmI]
                  rintro e v1 ⟨rfl, c1⟩
                  have b12 : Below W1.heap.size W1 v1 := by first | exact c1 | exact (below_drewN (Below.refl _ _) _).trans (c1.mono (by simp))
                  have zb2 := b12.size
                  have z3 := cell_keep z1 b12
                  clear c1
                  have HRE := Lib.hid HRK.out.2
                  go_wp2_with fail
                  refine (At_any (hR1.below b12) _).mono ?_
                  rw [HRE.out (by first | exact .inl rfl | exact .inl trivial), HXK.out]
                  rintro e v3 ⟨rfl, b3⟩
                  have b13 := b12.trans (b3.mono zb2)
                  have zb3 := b13.size
                  clear b3 b12
                  go_wp2_with fail
                  refine (At_any (hP1.below b13) _).mono ?_
                  rw [HXK.out]
                  rintro e v4 ⟨rfl, b4⟩
                  have b14 := b13.trans (b4.mono zb3)
                  clear b4
                  go_wp2
                  go_roundw
                  case rel => exact ⟨k + 1, by omega, by go_num, hB1.trans (b14.mono (by omega))⟩
                  case measure => simp [intOf]; omega
          · have hge : (P.cells.length : Int) ≤ (k : Int) := by omega
            clear hQr hRr
            clear HMM
            go_wp2
            go_quiet (fail)
            go_wp2
            go_ret
            exact ⟨by first | rfl | simp, hB9.trans ((hBr.trans (by with_reducible (repeat (first | exact Below.refl _ _ | assumption | (refine Below.setCell ?_ (by first | omega | (simp; done) | (simp; omega)) _) | (refine Below.alloc ?_ (by first | omega | (simp; done) | (simp; omega)) _) | (refine below_drewN ?_ _) | (refine Below.drew ?_) | (refine Below.trans ?_ (Below.mono hb (by first | omega | (simp; done) | (simp; omega)))) | (refine Below.trans ?_ (Below.mono hb1 (by first | omega | (simp; done) | (simp; omega)))) | (refine Below.trans ?_ (Below.mono hb2 (by first | omega | (simp; done) | (simp; omega)))) | (refine Below.trans ?_ (Below.mono hb3 (by first | omega | (simp; done) | (simp; omega)))) | (refine Below.trans ?_ (Below.mono hb4 (by first | omega | (simp; done) | (simp; omega)))) | (refine Below.trans ?_ (Below.mono hb5 (by first | omega | (simp; done) | (simp; omega)))) | (refine Below.trans ?_ (Below.mono hb6 (by first | omega | (simp; done) | (simp; omega)))) | (refine Below.trans ?_ (Below.mono hb7 (by first | omega | (simp; done) | (simp; omega)))) | (refine Below.trans ?_ (Below.mono hb8 (by first | omega | (simp; done) | (simp; omega)))) | (refine Below.trans ?_ (Below.mono hb9 (by first | omega | (simp; done) | (simp; omega)))) | (refine Below.trans ?_ (Below.mono hb10 (by first | omega | (simp; done) | (simp; omega)))) | (refine Below.trans ?_ (Below.mono hb11 (by first | omega | (simp; done) | (simp; omega)))) | (refine Below.trans ?_ (Below.mono hb12 (by first | omega | (simp; done) | (simp; omega)))))))).mono hB9.size)⟩
      · go_loopw [61] (fun i wr => ∃ k : Nat, k ≤ P.cells.length ∧ i = .int .i64 (k : Int) ∧ Below w9.heap.size w9 wr) (fun i _ => P.cells.length - (intOf i).toNat)
        case atStart => exact ⟨0, Nat.zero_le _, rfl, Below.refl _ _⟩
        case round =>
          obtain ⟨k, hk, rfl, hBr⟩ := hrel
          have hPr := hP9.below hBr
          have hQr := hQ9.below hBr
          have hRr := hR9.below hBr
          have hzr := hBr.size
          replace y0 := cell_keep y0 hBr
          replace y1 := cell_keep y1 hBr
          replace y2 := cell_keep y2 hBr
          by_cases hlt : k < P.cells.length
          · have hlt' : (k : Int) < (P.cells.length : Int) := by omega
            have hmI := inside_at hok hs hst (i := (k : Int)) ⟨by omega, hlt'⟩
            rw [HF.out] at hmI
            have hRk := HRR.out (k : Int) (by omega) hlt'
            have hmB : mineB P (s : Int) (k : Int) = ((P.ofF (k : Int)).start == f.start && (k : Int) != f.start) := by rw [HFS.out]; rfl
            go_wp2_with fail
            refine (Of_any hPr _).mono ?_
            obtain ⟨gg, hgg⟩ : ∃ gg, P.ofF (k : Int) = gg := ⟨_, rfl⟩
            rw [hgg] at hmB ⊢
            clear hgg
            rintro e w10 ⟨rfl, hb10⟩
            have hBa := hBr.trans (hb10.mono hzr)
            have hPa := hPr.below hb10
            have hQa := hQr.below hb10
            have hRa := hRr.below hb10
            have hza := hb10.size
            have z0 := cell_keep y0 hb10
            clear hb10 hPr hQr hRr y0 y1 y2
            have hlb : w4.heap.size < w10.heap.size := by omega
            obtain ⟨W1, hW1⟩ : ∃ W1, w10.alloc (.cells #[.int .i64 gg.start, .int .i64 gg.len, .int .u8 gg.attr] 89) = W1 := ⟨_, rfl⟩
            have hbW1 : Below w10.heap.size w10 W1 := by rw [← hW1]; with_reducible (repeat (first | exact Below.refl _ _ | assumption | (refine Below.setCell ?_ (by first | omega | (simp; done) | (simp; omega)) _) | (refine Below.alloc ?_ (by first | omega | (simp; done) | (simp; omega)) _) | (refine below_drewN ?_ _) | (refine Below.drew ?_) | (refine Below.trans ?_ (Below.mono hb (by first | omega | (simp; done) | (simp; omega)))) | (refine Below.trans ?_ (Below.mono hb1 (by first | omega | (simp; done) | (simp; omega)))) | (refine Below.trans ?_ (Below.mono hb2 (by first | omega | (simp; done) | (simp; omega)))) | (refine Below.trans ?_ (Below.mono hb3 (by first | omega | (simp; done) | (simp; omega)))) | (refine Below.trans ?_ (Below.mono hb4 (by first | omega | (simp; done) | (simp; omega)))) | (refine Below.trans ?_ (Below.mono hb5 (by first | omega | (simp; done) | (simp; omega)))) | (refine Below.trans ?_ (Below.mono hb6 (by first | omega | (simp; done) | (simp; omega)))) | (refine Below.trans ?_ (Below.mono hb7 (by first | omega | (simp; done) | (simp; omega)))) | (refine Below.trans ?_ (Below.mono hb8 (by first | omega | (simp; done) | (simp; omega)))) | (refine Below.trans ?_ (Below.mono hb9 (by first | omega | (simp; done) | (simp; omega)))) | (refine Below.trans ?_ (Below.mono hb10 (by first | omega | (simp; done) | (simp; omega)))) | (refine Below.trans ?_ (Below.mono hb11 (by first | omega | (simp; done) | (simp; omega)))) | (refine Below.trans ?_ (Below.mono hb12 (by first | omega | (simp; done) | (simp; omega))))))
            have q0 : W1.cell? ⟨w10.heap.size, 0, none⟩ = some (.int .i64 gg.start) := by rw [← hW1]; simp [go_sem]
            have z1 := cell_keep z0 hbW1
            have hP1 := hPa.below hbW1
            have hQ1 := hQa.below hbW1
            have hR1 := hRa.below hbW1
            have hB1 := hBa.trans (hbW1.mono (by omega))
            have hzW1 := hbW1.size
            clear hbW1 hPa hQa hRa hBa z0
            cases d1 : (gg.start == f.start)
            · have hm : mineB P (s : Int) (k : Int) = false := by rw [hmB, d1]; rfl
              rw [hm, if_neg (by simp)] at hmI
              go_wp2
              go_quiet (fail)
              go_wp2_with fail
              refine (At_any (hQ1.below (by with_reducible (repeat (first | exact Below.refl _ _ | assumption | (refine Below.setCell ?_ (by first | omega | (simp; done) | (simp; omega)) _) | (refine Below.alloc ?_ (by first | omega | (simp; done) | (simp; omega)) _) | (refine below_drewN ?_ _) | (refine Below.drew ?_) | (refine Below.trans ?_ (Below.mono hb (by first | omega | (simp; done) | (simp; omega)))) | (refine Below.trans ?_ (Below.mono hb1 (by first | omega | (simp; done) | (simp; omega)))) | (refine Below.trans ?_ (Below.mono hb2 (by first | omega | (simp; done) | (simp; omega)))) | (refine Below.trans ?_ (Below.mono hb3 (by first | omega | (simp; done) | (simp; omega)))) | (refine Below.trans ?_ (Below.mono hb4 (by first | omega | (simp; done) | (simp; omega)))) | (refine Below.trans ?_ (Below.mono hb5 (by first | omega | (simp; done) | (simp; omega)))) | (refine Below.trans ?_ (Below.mono hb6 (by first | omega | (simp; done) | (simp; omega)))) | (refine Below.trans ?_ (Below.mono hb7 (by first | omega | (simp; done) | (simp; omega)))) | (refine Below.trans ?_ (Below.mono hb8 (by first | omega | (simp; done) | (simp; omega)))) | (refine Below.trans ?_ (Below.mono hb9 (by first | omega | (simp; done) | (simp; omega)))) | (refine Below.trans ?_ (Below.mono hb10 (by first | omega | (simp; done) | (simp; omega)))) | (refine Below.trans ?_ (Below.mono hb11 (by first | omega | (simp; done) | (simp; omega)))) | (refine Below.trans ?_ (Below.mono hb12 (by first | omega | (simp; done) | (simp; omega)))))))) _).mono ?_
              rw [hmI]
              obtain ⟨x, hx⟩ : ∃ x, P.at (k : Int) = x := ⟨_, rfl⟩
              have HXK := Lib.hid hx
              rw [hx]
              rw [hm] at hRk
              have hRe := hRk.2
              have HRE := Lib.hid hRe
              clear hx hmI hRk hRe
              rintro e v1 ⟨rfl, c1⟩
              have b1 : Below W1.heap.size W1 v1 := by first | exact c1 | exact (below_drewN (Below.refl _ _) _).trans (c1.mono (by simp))
              have zb1 := b1.size
              have z2 := cell_keep z1 b1
              clear c1
              go_wp2_with fail
              refine (At_any (hP1.below b1) _).mono ?_
              rw [HXK.out]
              rintro e v2 ⟨rfl, b2⟩
              have b12 := b1.trans (b2.mono zb1)
              have zb2 := b12.size
              have z3 := cell_keep z2 b2
              clear b2 z2 b1
              cases d2 : ((k : Int) != f.start)
              · go_wp2
                go_roundw
                case rel => exact ⟨k + 1, by omega, by go_num, hB1.trans (b12.mono (by omega))⟩
                case measure => simp [intOf]; omega
              · have hks : (k : Int) ≠ (s : Int) := by rw [← HFS.out]; exact bne_iff_ne.1 d2
                go_wp2_with fail
                refine (At_any (hR1.below b12) _).mono ?_
                rw [HRE.out (.inr ⟨fun e => by simp at e, hks⟩), HXK.out]
                rintro e v3 ⟨rfl, b3⟩
                have b13 := b12.trans (b3.mono zb2)
                have zb3 := b13.size
                clear b3 b12
                go_wp2_with fail
                refine (At_any (hP1.below b13) _).mono ?_
                rw [HXK.out]
                rintro e v4 ⟨rfl, b4⟩
                have b14 := b13.trans (b4.mono zb3)
                clear b4
                go_wp2
                go_roundw
                case rel => exact ⟨k + 1, by omega, by go_num, hB1.trans (b14.mono (by omega))⟩
                case measure => simp [intOf]; omega
            · cases d2 : ((k : Int) != f.start)
              · have hm : mineB P (s : Int) (k : Int) = false := by rw [hmB, d1, d2]; rfl
                rw [hm, if_neg (by simp)] at hmI
                go_wp2
                go_quiet (fail)
                go_wp2_with fail
                refine (At_any (hQ1.below (by with_reducible (repeat (first | exact Below.refl _ _ | assumption | (refine Below.setCell ?_ (by first | omega | (simp; done) | (simp; omega)) _) | (refine Below.alloc ?_ (by first | omega | (simp; done) | (simp; omega)) _) | (refine below_drewN ?_ _) | (refine Below.drew ?_) | (refine Below.trans ?_ (Below.mono hb (by first | omega | (simp; done) | (simp; omega)))) | (refine Below.trans ?_ (Below.mono hb1 (by first | omega | (simp; done) | (simp; omega)))) | (refine Below.trans ?_ (Below.mono hb2 (by first | omega | (simp; done) | (simp; omega)))) | (refine Below.trans ?_ (Below.mono hb3 (by first | omega | (simp; done) | (simp; omega)))) | (refine Below.trans ?_ (Below.mono hb4 (by first | omega | (simp; done) | (simp; omega)))) | (refine Below.trans ?_ (Below.mono hb5 (by first | omega | (simp; done) | (simp; omega)))) | (refine Below.trans ?_ (Below.mono hb6 (by first | omega | (simp; done) | (simp; omega)))) | (refine Below.trans ?_ (Below.mono hb7 (by first | omega | (simp; done) | (simp; omega)))) | (refine Below.trans ?_ (Below.mono hb8 (by first | omega | (simp; done) | (simp; omega)))) | (refine Below.trans ?_ (Below.mono hb9 (by first | omega | (simp; done) | (simp; omega)))) | (refine Below.trans ?_ (Below.mono hb10 (by first | omega | (simp; done) | (simp; omega)))) | (refine Below.trans ?_ (Below.mono hb11 (by first | omega | (simp; done) | (simp; omega)))) | (refine Below.trans ?_ (Below.mono hb12 (by first | omega | (simp; done) | (simp; omega)))))))) _).mono ?_
                rw [hmI]
                obtain ⟨x, hx⟩ : ∃ x, P.at (k : Int) = x := ⟨_, rfl⟩
                have HXK := Lib.hid hx
                rw [hx]
                rw [hm] at hRk
                have hRe := hRk.2
                have HRE := Lib.hid hRe
                clear hx hmI hRk hRe
                rintro e v1 ⟨rfl, c1⟩
                have b1 : Below W1.heap.size W1 v1 := by first | exact c1 | exact (below_drewN (Below.refl _ _) _).trans (c1.mono (by simp))
                have zb1 := b1.size
                have z2 := cell_keep z1 b1
                clear c1
                go_wp2_with fail
                refine (At_any (hP1.below b1) _).mono ?_
                rw [HXK.out]
                rintro e v2 ⟨rfl, b2⟩
                have b12 := b1.trans (b2.mono zb1)
                have zb2 := b12.size
                have z3 := cell_keep z2 b2
                clear b2 z2 b1
                go_wp2
                go_roundw
                case rel => exact ⟨k + 1, by omega, by go_num, hB1.trans (b12.mono (by omega))⟩
                case measure => simp [intOf]; omega
              · have hm : mineB P (s : Int) (k : Int) = true := by rw [hmB, d1, d2]; rfl
                rw [hm, if_pos rfl] at hmI
                have hks : (k : Int) ≠ (s : Int) := by rw [← HFS.out]; exact bne_iff_ne.1 d2
                have e1 : IntKind.i64.wrap ((k : Int) - f.start) = (k : Int) - f.start := IntWalk.i64_in _ (by have := HFS.out; omega)
                have e2 : IntKind.i64.wrap ((k : Int) - f.start + (P.cells.length : Int)) = (k : Int) - f.start + (P.cells.length : Int) := IntWalk.i64_in _ (by have := HFS.out; omega)
                have e3 : IntKind.i64.wrap (t - f.start) = t - f.start := IntWalk.i64_in _ (by have := HFS.out; omega)
                have e4 : IntKind.i64.wrap (t - f.start + (P.cells.length : Int)) = t - f.start + (P.cells.length : Int) := IntWalk.i64_in _ (by have := HFS.out; omega)
                obtain ⟨dk, hdk⟩ : ∃ dk, dst (P.cells.length : Int) (s : Int) (k : Int) = dk := ⟨_, rfl⟩
                obtain ⟨dt, hdt⟩ : ∃ dt, dst (P.cells.length : Int) (s : Int) t = dt := ⟨_, rfl⟩
                rw [hdk, hdt, hm] at hRk
                have e5 : ((k : Int) - f.start + (P.cells.length : Int)).tmod (P.cells.length : Int) = dk := by rw [← hdk, Int.tmod_eq_emod_of_nonneg (by have := HFS.out; omega), HFS.out]; rfl
                have e6 : (t - f.start + (P.cells.length : Int)).tmod (P.cells.length : Int) = dt := by rw [← hdt, Int.tmod_eq_emod_of_nonneg (by have := HFS.out; omega), HFS.out]; rfl
                obtain ⟨x, hx⟩ : ∃ x, P.at (k : Int) = x := ⟨_, rfl⟩
                have HXK := Lib.hid hx
                have HRK := Lib.hid hRk
                clear hx hRk hdk hdt
                by_cases hbd : dt ≤ dk
                · go_wp2
                  go_quiet ((go_at_call 25; exact Calls.quiet_of_same (Len_sm (hP1.drewN _))))
                  clear e1 e2 e3 e4 e5 e6
                  go_wp2_with fail
                  refine (At_any (hQ1.below (by with_reducible (repeat (first | exact Below.refl _ _ | assumption | (refine Below.setCell ?_ (by first | omega | (simp; done) | (simp; omega)) _) | (refine Below.alloc ?_ (by first | omega | (simp; done) | (simp; omega)) _) | (refine below_drewN ?_ _) | (refine Below.drew ?_) | (refine Below.trans ?_ (Below.mono hb (by first | omega | (simp; done) | (simp; omega)))) | (refine Below.trans ?_ (Below.mono hb1 (by first | omega | (simp; done) | (simp; omega)))) | (refine Below.trans ?_ (Below.mono hb2 (by first | omega | (simp; done) | (simp; omega)))) | (refine Below.trans ?_ (Below.mono hb3 (by first | omega | (simp; done) | (simp; omega)))) | (refine Below.trans ?_ (Below.mono hb4 (by first | omega | (simp; done) | (simp; omega)))) | (refine Below.trans ?_ (Below.mono hb5 (by first | omega | (simp; done) | (simp; omega)))) | (refine Below.trans ?_ (Below.mono hb6 (by first | omega | (simp; done) | (simp; omega)))) | (refine Below.trans ?_ (Below.mono hb7 (by first | omega | (simp; done) | (simp; omega)))) | (refine Below.trans ?_ (Below.mono hb8 (by first | omega | (simp; done) | (simp; omega)))) | (refine Below.trans ?_ (Below.mono hb9 (by first | omega | (simp; done) | (simp; omega)))) | (refine Below.trans ?_ (Below.mono hb10 (by first | omega | (simp; done) | (simp; omega)))) | (refine Below.trans ?_ (Below.mono hb11 (by first | omega | (simp; done) | (simp; omega)))) | (refine Below.trans ?_ (Below.mono hb12 (by first | omega | (simp; done) | (simp; omega)))))))) _).mono ?_
                  rw [hmI]
                  rintro e v1 ⟨rfl, c1⟩
                  have b12 : Below W1.heap.size W1 v1 := by first | exact c1 | exact (below_drewN (Below.refl _ _) _).trans (c1.mono (by simp))
                  have zb2 := b12.size
                  have z3 := cell_keep z1 b12
                  clear c1
                  go_wp2_with fail
                  refine (At_any (hR1.below b12) _).mono ?_
                  rw [show R.at (k : Int) = Cell.zero by first | exact HRK.out.1 rfl rfl hbd | exact HRK.out.1 trivial trivial hbd | exact HRK.out.1 rfl trivial hbd | exact HRK.out.1 trivial rfl hbd | exact HRK.out.1 hbd]
                  rintro e v3 ⟨rfl, b3⟩
                  have b14 := b12.trans (b3.mono zb2)
                  clear b3
                  go_wp2
                  go_roundw
                  case rel => exact ⟨k + 1, by omega, by go_num, hB1.trans (b14.mono (by omega))⟩
                  case measure => simp [intOf]; omega
                · go_wp2
                  go_quiet ((go_at_call 25; exact Calls.quiet_of_same (Len_sm (hP1.drewN _))))
                  clear e1 e2 e3 e4 e5 e6
                  go_wp2_with fail
                  refine (At_any (hQ1.below (by with_reducible (repeat (first | exact Below.refl _ _ | assumption | (refine Below.setCell ?_ (by first | omega | (simp; done) | (simp; omega)) _) | (refine Below.alloc ?_ (by first | omega | (simp; done) | (simp; omega)) _) | (refine below_drewN ?_ _) | (refine Below.drew ?_) | (refine Below.trans ?_ (Below.mono hb (by first | omega | (simp; done) | (simp; omega)))) | (refine Below.trans ?_ (Below.mono hb1 (by first | omega | (simp; done) | (simp; omega)))) | (refine Below.trans ?_ (Below.mono hb2 (by first | omega | (simp; done) | (simp; omega)))) | (refine Below.trans ?_ (Below.mono hb3 (by first | omega | (simp; done) | (simp; omega)))) | (refine Below.trans ?_ (Below.mono hb4 (by first | omega | (simp; done) | (simp; omega)))) | (refine Below.trans ?_ (Below.mono hb5 (by first | omega | (simp; done) | (simp; omega)))) | (refine Below.trans ?_ (Below.mono hb6 (by first | omega | (simp; done) | (simp; omega)))) | (refine Below.trans ?_ (Below.mono hb7 (by first | omega | (simp; done) | (simp; omega)))) | (refine Below.trans ?_ (Below.mono hb8 (by first | omega | (simp; done) | (simp; omega)))) | (refine Below.trans ?_ (Below.mono hb9 (by first | omega | (simp; done) | (simp; omega)))) | (refine Below.trans ?_ (Below.mono hb10 (by first | omega | (simp; done) | (simp; omega)))) | (refine Below.trans ?_ (Below.mono hb11 (by first | omega | (simp; done) | (simp; omega)))) | (refine Below.trans ?_ (Below.mono hb12 (by first | omega | (simp; done) | (simp; omega)))))))) _).mono ?_
                  rw [hmI]
                  rintro e v1 ⟨rfl, c1⟩
                  have b12 : Below W1.heap.size W1 v1 := by first | exact c1 | exact (below_drewN (Below.refl _ _) _).trans (c1.mono (by simp))
                  have zb2 := b12.size
                  have z3 := cell_keep z1 b12
                  clear c1
                  have HRE := Lib.hid HRK.out.2
                  go_wp2_with fail
                  refine (At_any (hR1.below b12) _).mono ?_
                  rw [HRE.out (.inr ⟨fun e => by have h9 := e.2; omega, hks⟩), HXK.out]
                  rintro e v3 ⟨rfl, b3⟩
                  have b13 := b12.trans (b3.mono zb2)
                  have zb3 := b13.size
                  clear b3 b12
                  go_wp2_with fail
                  refine (At_any (hP1.below b13) _).mono ?_
                  rw [HXK.out]
                  rintro e v4 ⟨rfl, b4⟩
                  have b14 := b13.trans (b4.mono zb3)
                  clear b4
                  go_wp2
                  go_roundw
                  case rel => exact ⟨k + 1, by omega, by go_num, hB1.trans (b14.mono (by omega))⟩
                  case measure => simp [intOf]; omega
          · have hge : (P.cells.length : Int) ≤ (k : Int) := by omega
            clear hQr hRr
            have hmt : m = f.len + 1 - dst (P.cells.length : Int) (s : Int) t := by first | exact HMM.out rfl | exact HMM.out trivial
            obtain ⟨dt, hdt⟩ : ∃ dt, dst (P.cells.length : Int) (s : Int) t = dt := ⟨_, rfl⟩
            have hdr : 0 ≤ dt ∧ dt < (P.cells.length : Int) := by rw [← hdt]; exact dst_range hNp
            rw [hdt] at hmt
            have e3 : IntKind.i64.wrap (t - f.start) = t - f.start := IntWalk.i64_in _ (by have := HFS.out; omega)
            have e4 : IntKind.i64.wrap (t - f.start + (P.cells.length : Int)) = t - f.start + (P.cells.length : Int) := IntWalk.i64_in _ (by have := HFS.out; omega)
            have e6 : (t - f.start + (P.cells.length : Int)).tmod (P.cells.length : Int) = dt := by rw [← hdt, Int.tmod_eq_emod_of_nonneg (by have := HFS.out; omega), HFS.out]; rfl
            have e7 : IntKind.i64.wrap (f.len + 1) = f.len + 1 := IntWalk.i64_in _ (by omega)
            have e8 : IntKind.i64.wrap (f.len + 1 - dt) = f.len + 1 - dt := IntWalk.i64_in _ (by omega)
            obtain rfl : m = f.len + 1 - dt := hmt
            clear hdt
            go_wp2
            go_quiet ((go_at_call 25; exact Calls.quiet_of_same (Len_sm (hPr.drewN _))))
            go_wp2
            go_ret
            exact ⟨by first | rfl | simp, hB9.trans ((hBr.trans (by with_reducible (repeat (first | exact Below.refl _ _ | assumption | (refine Below.setCell ?_ (by first | omega | (simp; done) | (simp; omega)) _) | (refine Below.alloc ?_ (by first | omega | (simp; done) | (simp; omega)) _) | (refine below_drewN ?_ _) | (refine Below.drew ?_) | (refine Below.trans ?_ (Below.mono hb (by first | omega | (simp; done) | (simp; omega)))) | (refine Below.trans ?_ (Below.mono hb1 (by first | omega | (simp; done) | (simp; omega)))) | (refine Below.trans ?_ (Below.mono hb2 (by first | omega | (simp; done) | (simp; omega)))) | (refine Below.trans ?_ (Below.mono hb3 (by first | omega | (simp; done) | (simp; omega)))) | (refine Below.trans ?_ (Below.mono hb4 (by first | omega | (simp; done) | (simp; omega)))) | (refine Below.trans ?_ (Below.mono hb5 (by first | omega | (simp; done) | (simp; omega)))) | (refine Below.trans ?_ (Below.mono hb6 (by first | omega | (simp; done) | (simp; omega)))) | (refine Below.trans ?_ (Below.mono hb7 (by first | omega | (simp; done) | (simp; omega)))) | (refine Below.trans ?_ (Below.mono hb8 (by first | omega | (simp; done) | (simp; omega)))) | (refine Below.trans ?_ (Below.mono hb9 (by first | omega | (simp; done) | (simp; omega)))) | (refine Below.trans ?_ (Below.mono hb10 (by first | omega | (simp; done) | (simp; omega)))) | (refine Below.trans ?_ (Below.mono hb11 (by first | omega | (simp; done) | (simp; omega)))) | (refine Below.trans ?_ (Below.mono hb12 (by first | omega | (simp; done) | (simp; omega)))))))).mono hB9.size)⟩
  · have hbad := not_good17 h
    go_enter Try.func7, Try.ntmps7
    go_wp2_with fail
    refine (alive17_any _).mono ?_
    rintro e w1 ⟨rfl, hb1⟩
    have hB1 : Below w.heap.size w w1 := by with_reducible (repeat (first | exact Below.refl _ _ | assumption | (refine Below.setCell ?_ (by first | omega | (simp; done) | (simp; omega)) _) | (refine Below.alloc ?_ (by first | omega | (simp; done) | (simp; omega)) _) | (refine below_drewN ?_ _) | (refine Below.drew ?_) | (refine Below.trans ?_ (Below.mono hb (by first | omega | (simp; done) | (simp; omega)))) | (refine Below.trans ?_ (Below.mono hb1 (by first | omega | (simp; done) | (simp; omega)))) | (refine Below.trans ?_ (Below.mono hb2 (by first | omega | (simp; done) | (simp; omega)))) | (refine Below.trans ?_ (Below.mono hb3 (by first | omega | (simp; done) | (simp; omega)))) | (refine Below.trans ?_ (Below.mono hb4 (by first | omega | (simp; done) | (simp; omega)))) | (refine Below.trans ?_ (Below.mono hb5 (by first | omega | (simp; done) | (simp; omega)))) | (refine Below.trans ?_ (Below.mono hb6 (by first | omega | (simp; done) | (simp; omega)))) | (refine Below.trans ?_ (Below.mono hb7 (by first | omega | (simp; done) | (simp; omega)))) | (refine Below.trans ?_ (Below.mono hb8 (by first | omega | (simp; done) | (simp; omega)))) | (refine Below.trans ?_ (Below.mono hb9 (by first | omega | (simp; done) | (simp; omega)))) | (refine Below.trans ?_ (Below.mono hb10 (by first | omega | (simp; done) | (simp; omega)))) | (refine Below.trans ?_ (Below.mono hb11 (by first | omega | (simp; done) | (simp; omega)))) | (refine Below.trans ?_ (Below.mono hb12 (by first | omega | (simp; done) | (simp; omega))))))
    have s0 : w1.cell? ⟨w.heap.size, 0, none⟩ = some (.int .i64 r) := (hb1.cell (by simp)).trans (by simp [go_sem])
    have s1 : w1.cell? ⟨w.heap.size, 1, none⟩ = some (.int .i64 c) := (hb1.cell (by simp)).trans (by simp [go_sem])
    clear hb1
    go_wp2_with fail
    refine (made17_bad r c _ hbad).mono ?_
    rintro e w2 ⟨x0, x1, x3, so, sn, sm, rfl, hb2⟩
    have hB2 := hB1.trans (hb2.mono hB1.size)
    have hz2 := hB2.size
    clear s0 s1
    go_wp2
    go_ret
    exact ⟨by rfl, by with_reducible (repeat (first | exact Below.refl _ _ | assumption | (refine Below.setCell ?_ (by first | omega | (simp; done) | (simp; omega)) _) | (refine Below.alloc ?_ (by first | omega | (simp; done) | (simp; omega)) _) | (refine below_drewN ?_ _) | (refine Below.drew ?_) | (refine Below.trans ?_ (Below.mono hb (by first | omega | (simp; done) | (simp; omega)))) | (refine Below.trans ?_ (Below.mono hb1 (by first | omega | (simp; done) | (simp; omega)))) | (refine Below.trans ?_ (Below.mono hb2 (by first | omega | (simp; done) | (simp; omega)))) | (refine Below.trans ?_ (Below.mono hb3 (by first | omega | (simp; done) | (simp; omega)))) | (refine Below.trans ?_ (Below.mono hb4 (by first | omega | (simp; done) | (simp; omega)))) | (refine Below.trans ?_ (Below.mono hb5 (by first | omega | (simp; done) | (simp; omega)))) | (refine Below.trans ?_ (Below.mono hb6 (by first | omega | (simp; done) | (simp; omega)))) | (refine Below.trans ?_ (Below.mono hb7 (by first | omega | (simp; done) | (simp; omega)))) | (refine Below.trans ?_ (Below.mono hb8 (by first | omega | (simp; done) | (simp; omega)))) | (refine Below.trans ?_ (Below.mono hb9 (by first | omega | (simp; done) | (simp; omega)))) | (refine Below.trans ?_ (Below.mono hb10 (by first | omega | (simp; done) | (simp; omega)))) | (refine Below.trans ?_ (Below.mono hb11 (by first | omega | (simp; done) | (simp; omega)))) | (refine Below.trans ?_ (Below.mono hb12 (by first | omega | (simp; done) | (simp; omega))))))⟩
end Go.Proofs.Ytbkddgeocmkegaa
