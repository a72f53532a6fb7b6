/- Lemmas on the way to this seat's statements; they bear no condition of their own. -/
import Derived.Test.YtbkddgeocmkegaaM1
namespace Go.Proofs.Ytbkddgeocmkegaa
open Go.RowKit Go.Shelf
set_option linter.unusedSimpArgs false
set_option linter.unusedVariables false
set_option maxHeartbeats 4000000
attribute [local go_sem ↓] run_start run_byte run_cols

set_option maxRecDepth 100000 in
theorem made17_bad {w : World} (r c : Int) (v : Value) (h : goodSize r c = false ∨ (goodSize r c = true ∧ 60 < r * c)) :
    Calls Try.prog 51 #[.agg #[.int .i64 r, .int .i64 c], v] w (MadeBad w) := by
  rcases h with h | ⟨h, h60⟩
  · go_enter Try.func51, Try.ntmps51
    go_wp2_with fail
    refine (rNew_bad r c h).mono ?_
    rintro e w1 ⟨rfl, hb1⟩
    have hB1 : Below w.heap.size w w1 := by with_reducible (repeat (first | exact Below.refl _ _ | assumption | (refine Below.setCell ?_ (by first | omega | (simp; done) | (simp; omega)) _) | (refine Below.alloc ?_ (by first | omega | (simp; done) | (simp; omega)) _) | (refine below_drewN ?_ _) | (refine Below.drew ?_) | (refine Below.trans ?_ (Below.mono hb (by first | omega | (simp; done) | (simp; omega)))) | (refine Below.trans ?_ (Below.mono hb1 (by first | omega | (simp; done) | (simp; omega)))) | (refine Below.trans ?_ (Below.mono hb2 (by first | omega | (simp; done) | (simp; omega)))) | (refine Below.trans ?_ (Below.mono hb3 (by first | omega | (simp; done) | (simp; omega)))) | (refine Below.trans ?_ (Below.mono hb4 (by first | omega | (simp; done) | (simp; omega)))) | (refine Below.trans ?_ (Below.mono hb5 (by first | omega | (simp; done) | (simp; omega)))) | (refine Below.trans ?_ (Below.mono hb6 (by first | omega | (simp; done) | (simp; omega)))) | (refine Below.trans ?_ (Below.mono hb7 (by first | omega | (simp; done) | (simp; omega)))) | (refine Below.trans ?_ (Below.mono hb8 (by first | omega | (simp; done) | (simp; omega)))) | (refine Below.trans ?_ (Below.mono hb9 (by first | omega | (simp; done) | (simp; omega)))) | (refine Below.trans ?_ (Below.mono hb10 (by first | omega | (simp; done) | (simp; omega)))) | (refine Below.trans ?_ (Below.mono hb11 (by first | omega | (simp; done) | (simp; omega)))) | (refine Below.trans ?_ (Below.mono hb12 (by first | omega | (simp; done) | (simp; omega))))))
    have hz1 := hb1.size
    simp only [World.size_alloc] at hz1
    have X7 := ((Box4.new (w.alloc (.cells #[.int .i64 r, .int .i64 c] 48)) (.int .i64 0) (.int .i64 0) (.slice none 0 0) (.int .i64 0) 77).below hb1)
    rw [World.size_alloc] at X7
    obtain ⟨c0, c1, c2, c3, f0, f1, f2, f3⟩ := X7
    clear hb1
    have hlt1 : w.heap.size + 1 < w1.heap.size := by omega
    go_wp2
    go_region
    go_wp2
    exact bodyPost_ret (v := .tuple #[.pointer none, .agg #[.int .i64 0, .int .i64 0, .slice none 0 0, .int .i64 0], .bool false]) (by simp [results, Try.results51, go_sem, c0, c1, c2, c3, hlt1]) rfl ⟨_, _, _, _, _, _, rfl, by with_reducible (repeat (first | exact Below.refl _ _ | assumption | (refine Below.setCell ?_ (by first | omega | (simp; done) | (simp; omega)) _) | (refine Below.alloc ?_ (by first | omega | (simp; done) | (simp; omega)) _) | (refine below_drewN ?_ _) | (refine Below.drew ?_) | (refine Below.trans ?_ (Below.mono hb (by first | omega | (simp; done) | (simp; omega)))) | (refine Below.trans ?_ (Below.mono hb1 (by first | omega | (simp; done) | (simp; omega)))) | (refine Below.trans ?_ (Below.mono hb2 (by first | omega | (simp; done) | (simp; omega)))) | (refine Below.trans ?_ (Below.mono hb3 (by first | omega | (simp; done) | (simp; omega)))) | (refine Below.trans ?_ (Below.mono hb4 (by first | omega | (simp; done) | (simp; omega)))) | (refine Below.trans ?_ (Below.mono hb5 (by first | omega | (simp; done) | (simp; omega)))) | (refine Below.trans ?_ (Below.mono hb6 (by first | omega | (simp; done) | (simp; omega)))) | (refine Below.trans ?_ (Below.mono hb7 (by first | omega | (simp; done) | (simp; omega)))) | (refine Below.trans ?_ (Below.mono hb8 (by first | omega | (simp; done) | (simp; omega)))) | (refine Below.trans ?_ (Below.mono hb9 (by first | omega | (simp; done) | (simp; omega)))) | (refine Below.trans ?_ (Below.mono hb10 (by first | omega | (simp; done) | (simp; omega)))) | (refine Below.trans ?_ (Below.mono hb11 (by first | omega | (simp; done) | (simp; omega)))) | (refine Below.trans ?_ (Below.mono hb12 (by first | omega | (simp; done) | (simp; omega))))))⟩
  · have hlen := new_len r c
    have h60' : (60 : Int) < ((Pl.new r c).cells.length : Int) := by rw [hlen]; omega
    go_enter Try.func51, Try.ntmps51
    go_wp2_with fail
    refine (rNew_in r c h).mono ?_
    rintro e w1 ⟨b, cap, rfl, hrc, hge, hb1⟩
    have hB1 : Below w.heap.size w w1 := by with_reducible (repeat (first | exact Below.refl _ _ | assumption | (refine Below.setCell ?_ (by first | omega | (simp; done) | (simp; omega)) _) | (refine Below.alloc ?_ (by first | omega | (simp; done) | (simp; omega)) _) | (refine below_drewN ?_ _) | (refine Below.drew ?_) | (refine Below.trans ?_ (Below.mono hb (by first | omega | (simp; done) | (simp; omega)))) | (refine Below.trans ?_ (Below.mono hb1 (by first | omega | (simp; done) | (simp; omega)))) | (refine Below.trans ?_ (Below.mono hb2 (by first | omega | (simp; done) | (simp; omega)))) | (refine Below.trans ?_ (Below.mono hb3 (by first | omega | (simp; done) | (simp; omega)))) | (refine Below.trans ?_ (Below.mono hb4 (by first | omega | (simp; done) | (simp; omega)))) | (refine Below.trans ?_ (Below.mono hb5 (by first | omega | (simp; done) | (simp; omega)))) | (refine Below.trans ?_ (Below.mono hb6 (by first | omega | (simp; done) | (simp; omega)))) | (refine Below.trans ?_ (Below.mono hb7 (by first | omega | (simp; done) | (simp; omega)))) | (refine Below.trans ?_ (Below.mono hb8 (by first | omega | (simp; done) | (simp; omega)))) | (refine Below.trans ?_ (Below.mono hb9 (by first | omega | (simp; done) | (simp; omega)))) | (refine Below.trans ?_ (Below.mono hb10 (by first | omega | (simp; done) | (simp; omega)))) | (refine Below.trans ?_ (Below.mono hb11 (by first | omega | (simp; done) | (simp; omega)))) | (refine Below.trans ?_ (Below.mono hb12 (by first | omega | (simp; done) | (simp; omega))))))
    have hz1 := hb1.size
    simp only [World.size_alloc] at hz1
    have X7 := ((Box4.new (w.alloc (.cells #[.int .i64 r, .int .i64 c] 48)) (.int .i64 0) (.int .i64 0) (.slice none 0 0) (.int .i64 0) 77).below hb1)
    rw [World.size_alloc] at X7
    obtain ⟨c0, c1, c2, c3, f0, f1, f2, f3⟩ := X7
    clear hb1
    have hlt1 : w.heap.size + 1 < w1.heap.size := by omega
    obtain ⟨N, hN⟩ : ∃ N, Pl.new r c = N := ⟨_, rfl⟩
    rw [hN] at h60' ⊢
    clear hN hlen hrc
    go_wp2
    go_region
    go_wp2
    exact bodyPost_ret (v := .tuple #[.pointer none, .agg #[.int .i64 N.rows, .int .i64 N.cols, .slice (some ⟨b, 0, none⟩) N.cells.length cap, .int .i64 N.cursor], .bool false]) (by simp [results, Try.results51, go_sem, c0, c1, c2, c3, hlt1]) rfl ⟨_, _, _, _, _, _, rfl, by with_reducible (repeat (first | exact Below.refl _ _ | assumption | (refine Below.setCell ?_ (by first | omega | (simp; done) | (simp; omega)) _) | (refine Below.alloc ?_ (by first | omega | (simp; done) | (simp; omega)) _) | (refine below_drewN ?_ _) | (refine Below.drew ?_) | (refine Below.trans ?_ (Below.mono hb (by first | omega | (simp; done) | (simp; omega)))) | (refine Below.trans ?_ (Below.mono hb1 (by first | omega | (simp; done) | (simp; omega)))) | (refine Below.trans ?_ (Below.mono hb2 (by first | omega | (simp; done) | (simp; omega)))) | (refine Below.trans ?_ (Below.mono hb3 (by first | omega | (simp; done) | (simp; omega)))) | (refine Below.trans ?_ (Below.mono hb4 (by first | omega | (simp; done) | (simp; omega)))) | (refine Below.trans ?_ (Below.mono hb5 (by first | omega | (simp; done) | (simp; omega)))) | (refine Below.trans ?_ (Below.mono hb6 (by first | omega | (simp; done) | (simp; omega)))) | (refine Below.trans ?_ (Below.mono hb7 (by first | omega | (simp; done) | (simp; omega)))) | (refine Below.trans ?_ (Below.mono hb8 (by first | omega | (simp; done) | (simp; omega)))) | (refine Below.trans ?_ (Below.mono hb9 (by first | omega | (simp; done) | (simp; omega)))) | (refine Below.trans ?_ (Below.mono hb10 (by first | omega | (simp; done) | (simp; omega)))) | (refine Below.trans ?_ (Below.mono hb11 (by first | omega | (simp; done) | (simp; omega)))) | (refine Below.trans ?_ (Below.mono hb12 (by first | omega | (simp; done) | (simp; omega))))))⟩

set_option maxRecDepth 100000 in
theorem made17_in {w : World} (r c : Int) (ao : Option Addr) (cs : List Cell) (cap0 : Nat) (hA : ARow w ao cs) (h : goodSize r c = true) (h60 : r * c ≤ 60) :
    Calls Try.prog 51 #[.agg #[.int .i64 r, .int .i64 c], .slice ao cs.length cap0] w (MadePost ((Pl.new r c).fill cs) w) := by
  obtain ⟨h1, h2, h3, h4, h5⟩ := goodSize_out h
  have h0 : 0 < r * c := Int.mul_pos (by omega) (by omega)
  have hlen := new_len r c
  have hok := Pl.new_ok h1 h2 h3 h4 h5
  have hNl : ((Pl.new r c).cells.length : Int) = r * c := by omega
  go_enter Try.func51, Try.ntmps51
  go_wp2_with fail
  refine (rNew_in r c h).mono ?_
  rintro e w1 ⟨b2, cap2, rfl, hrc, hge, hb1⟩
  have hB1 : Below w.heap.size w w1 := by with_reducible (repeat (first | exact Below.refl _ _ | assumption | (refine Below.setCell ?_ (by first | omega | (simp; done) | (simp; omega)) _) | (refine Below.alloc ?_ (by first | omega | (simp; done) | (simp; omega)) _) | (refine below_drewN ?_ _) | (refine Below.drew ?_) | (refine Below.trans ?_ (Below.mono hb (by first | omega | (simp; done) | (simp; omega)))) | (refine Below.trans ?_ (Below.mono hb1 (by first | omega | (simp; done) | (simp; omega)))) | (refine Below.trans ?_ (Below.mono hb2 (by first | omega | (simp; done) | (simp; omega)))) | (refine Below.trans ?_ (Below.mono hb3 (by first | omega | (simp; done) | (simp; omega)))) | (refine Below.trans ?_ (Below.mono hb4 (by first | omega | (simp; done) | (simp; omega)))) | (refine Below.trans ?_ (Below.mono hb5 (by first | omega | (simp; done) | (simp; omega)))) | (refine Below.trans ?_ (Below.mono hb6 (by first | omega | (simp; done) | (simp; omega)))) | (refine Below.trans ?_ (Below.mono hb7 (by first | omega | (simp; done) | (simp; omega)))) | (refine Below.trans ?_ (Below.mono hb8 (by first | omega | (simp; done) | (simp; omega)))) | (refine Below.trans ?_ (Below.mono hb9 (by first | omega | (simp; done) | (simp; omega)))) | (refine Below.trans ?_ (Below.mono hb10 (by first | omega | (simp; done) | (simp; omega)))) | (refine Below.trans ?_ (Below.mono hb11 (by first | omega | (simp; done) | (simp; omega)))) | (refine Below.trans ?_ (Below.mono hb12 (by first | omega | (simp; done) | (simp; omega))))))
  have hz1 := hb1.size
  simp only [World.size_alloc] at hz1 hge
  have X7 := ((Box4.new (w.alloc (.cells #[.int .i64 r, .int .i64 c] 48)) (.int .i64 0) (.int .i64 0) (.slice none 0 0) (.int .i64 0) 77).below hb1)
  rw [World.size_alloc] at X7
  have s0 : w1.cell? ⟨w.heap.size, 0, none⟩ = some (.int .i64 r) := (hb1.cell (by simp; omega)).trans (by simp [go_sem])
  have s1 : w1.cell? ⟨w.heap.size, 1, none⟩ = some (.int .i64 c) := (hb1.cell (by simp; omega)).trans (by simp [go_sem])
  have hlt0 : w.heap.size < w1.heap.size := by omega
  have hlt1 : w.heap.size + 1 < w1.heap.size := by omega
  have HX7 := Lib.hid X7
  clear X7 hb1
  obtain ⟨N, hN⟩ : ∃ N, Pl.new r c = N := ⟨_, rfl⟩
  rw [hN] at hrc hok hNl ⊢
  have hNl' : (N.cells.length : Int) ≤ 60 := by omega
  have HN := Lib.hid hN
  have HNL := Lib.hid hNl
  clear hN hlen hNl
  go_wp2_with fail
  refine (New_in r c h1 h2 h3 h4 h5).mono ?_
  rintro e w3 ⟨g, b, cap, rfl, hP, hgg, hgb, hb3⟩
  rw [HN.out] at hP
  have hB3a : Below w1.heap.size w1 w3 := ((Below.refl _ _).alloc (Nat.le_refl _) _).trans (hb3.mono (by simp))
  have XX := ((Box4.new w1 (.int .i64 N.rows) (.int .i64 N.cols) (.slice (some ⟨b2, 0, none⟩) N.cells.length cap2) (.int .i64 N.cursor) 77).below hb3)
  have X7 := HX7.out.below hB3a
  have hrc3 := hrc.below hB3a
  have hB3 : Below w.heap.size w w3 := hB1.trans (hB3a.mono (by omega))
  have hA3 := hA.below hB3
  have hz3 := hB3a.size
  have hz3b := hb3.size
  have hb2l := hrc.bl
  simp only [World.size_alloc] at hgg hgb hz3b
  have HXX := Lib.hid (And.intro XX X7)
  have HAA := Lib.hid hA3
  have HA0 := Lib.hid hA
  have hcl : cs.length ≤ maxLen := hA.1
  have hcl2 : (cs.length : Int) ≤ 9223372036854775807 := by unfold maxLen at hcl; omega
  clear XX X7 hb3 hB3a hrc s0 s1 hA hA3
  go_wp2
  go_loopw [34] (fun i wr => ∃ k : Nat, k ≤ cs.length ∧ i = .int .i64 (k : Int) ∧ PL wr g b cap (N.fillK cs k) ∧ RC wr b2 (N.fillK cs k) ∧ Chg (fun j => j = b ∨ j = b2) w3 wr) (fun i _ => cs.length - (intOf i).toNat)
  case atStart => exact ⟨0, Nat.zero_le _, rfl, hP, hrc3, Chg.refl _ _⟩
  case round =>
    obtain ⟨k, hk, rfl, hPk, hRk, hC⟩ := hrel
    have hlenk := N.fillK_len cs k
    have hzr := hC.size
    obtain ⟨X9, X7⟩ := HXX.out
    have X9' := X9.chg hC (by show ¬ (w1.heap.size = b ∨ w1.heap.size = b2); omega)
    have hXc := X9'
    obtain ⟨c0, c1, c2, c3, f0, f1, f2, f3⟩ := hXc
    by_cases hlt : k < cs.length
    · have hlt' : (k : Int) < (cs.length : Int) := by omega
      have hAk := HAA.out.2 k hlt
      have hstep := N.fillK_step cs k hlt
      obtain ⟨x, hx⟩ : ∃ x, cs[k] = x := ⟨_, rfl⟩
      rw [hx] at hAk hstep
      clear hx
      obtain ⟨hcok, ab, off, rfl, hal, a0, a1, a2, a3, a4⟩ := hAk
      have hal0 : ab < w.heap.size := by
        obtain ⟨_, b', o', e, hl, _⟩ := HA0.out.2 k hlt
        cases e
        exact hl
      have hS : ¬ (ab = b ∨ ab = b2) := by omega
      replace a0 := cell_keepC a0 hC hS
      replace a1 := cell_keepC a1 hC hS
      replace a2 := cell_keepC a2 hC hS
      replace a3 := cell_keepC a3 hC hS
      replace a4 := cell_keepC a4 hC hS
      have HST := Lib.hid hstep
      clear hstep
      have hkl : (k : Int) < (cs.length : Int) := by omega
      have hxl : w1.heap.size < wr.heap.size := by omega
      by_cases hkn : k < N.cells.length
      · have hkn' : (k : Int) < (N.cells.length : Int) := by omega
        have hBa : Below wr.heap.size wr (wr.alloc (.cells #[.int .u8 x.byte, .bool x.ge, .bool x.start, .int .u8 x.light, .int .u8 x.color] 96)) := (Below.refl _ _).alloc (Nat.le_refl _) _
        go_wp2_with fail
        refine (Set_in (hPk.below hBa) (k : Int) x (by omega) (by rw [hlenk]; exact hkn') hcok).mono ?_
        rintro e w5 ⟨rfl, hP5, hk5⟩
        have hCa : Chg (fun j => j = b ∨ j = b2) w3 w5 := (hC.alloc _).trans (chgBA hk5)
        have hz5 := hk5.size
        simp only [World.size_alloc] at hz5
        have X95 := ((X9'.below hBa).chg hk5 (by show ¬ w1.heap.size = b; omega))
        obtain ⟨c0, c1, c2, c3, f0, f1, f2, f3⟩ := X95
        have hR5 := (hRk.below hBa).chg hk5 (by show ¬ b2 = b; omega)
        have hsb : ¬ wr.heap.size = b := by have := hPk.bl; omega
        have y0 : w5.cell? ⟨wr.heap.size, 0, none⟩ = some (.int .u8 x.byte) := cell_keepC (by simp [go_sem]) hk5 hsb
        have y1 : w5.cell? ⟨wr.heap.size, 1, none⟩ = some (.bool x.ge) := cell_keepC (by simp [go_sem]) hk5 hsb
        have y2 : w5.cell? ⟨wr.heap.size, 2, none⟩ = some (.bool x.start) := cell_keepC (by simp [go_sem]) hk5 hsb
        have y3 : w5.cell? ⟨wr.heap.size, 3, none⟩ = some (.int .u8 x.light) := cell_keepC (by simp [go_sem]) hk5 hsb
        have y4 : w5.cell? ⟨wr.heap.size, 4, none⟩ = some (.int .u8 x.color) := cell_keepC (by simp [go_sem]) hk5 hsb
        obtain ⟨k0, k1, k2, k3, k4⟩ := hR5.row5 k (by omega)
        have fz := hR5.fz
        clear hPk hRk hk5 hBa a0 a1 a2 a3 a4 hS
        go_wp2
        go_roundw
        case rel =>
          have hp := hR5.put (i := (k : Int)) (by omega) (by rw [hlenk]; exact hkn') hcok
          have hkp := putC_chg (S := (· = b2)) (Chg.refl _ w5) (.inl rfl) (k * 5) x
          rw [← HST.out] at hp hP5
          rw [Int.toNat_natCast] at hp
          exact ⟨k + 1, by omega, by go_num, hP5.chg hkp (by show ¬ g = b2; omega) (by show ¬ b = b2; omega), hp, hCa.trans (chgAB hkp)⟩
        case measure => simp [intOf]; omega
      · go_wp2
        go_roundw
        case rel =>
          have e := N.fillK_skip cs k (by omega)
          have hBa : Below wr.heap.size wr (wr.alloc (.cells #[.int .u8 x.byte, .bool x.ge, .bool x.start, .int .u8 x.light, .int .u8 x.color] 96)) := (Below.refl _ _).alloc (Nat.le_refl _) _
          rw [← e] at hPk hRk
          exact ⟨k + 1, by omega, by go_num, hPk.below hBa, hRk.below hBa, hC.alloc _⟩
        case measure => simp [intOf]; omega
    · have e : k = cs.length := by omega
      subst e
      have hX7 := X7.chg hC (by show ¬ (w.heap.size + 1 = b ∨ w.heap.size + 1 = b2); omega)
      have hB5 : Below w.heap.size w wr := hB3.trans (hC.below (by omega) (fun j hj => by rcases hj with hj | hj <;> omega))
      have hl5 := hX7.lt
      obtain ⟨d0, d1, d2, d3, g0, g1, g2, g3⟩ := hX7
      have hfin : Hid ((Pl.new r c).fill cs = N.fillK cs cs.length) := Lib.hid (by rw [HN.out]; rfl)
      have hcur : Hid ((N.fillK cs cs.length).cursor = N.cursor) := Lib.hid rfl
      clear X9 X7 X9'
      go_wp2
      go_region
      go_wp2
      have hk6 := ((((Chg.setCell (a := ⟨w.heap.size + 1, 0, none⟩) (Chg.refl (· = w.heap.size + 1) wr) (.inl rfl) (.int .i64 N.rows)).setCell (a := ⟨w.heap.size + 1, 1, none⟩) (.inl rfl) (.int .i64 N.cols)).setCell (a := ⟨w.heap.size + 1, 2, none⟩) (.inl rfl) (.slice (some ⟨b2, 0, none⟩) N.cells.length cap2)).setCell (a := ⟨w.heap.size + 1, 3, none⟩) (.inl rfl) (.int .i64 N.cursor)).drew
      refine bodyPost_ret (v := .tuple #[.pointer (some ⟨g, 0, none⟩), .agg #[.int .i64 N.rows, .int .i64 N.cols, .slice (some ⟨b2, 0, none⟩) N.cells.length cap2, .int .i64 N.cursor], .bool true]) (by simp [results, Try.results51, go_sem, d0, d1, d2, d3]) rfl ?_
      rw [hfin.out]
      refine ⟨g, b, cap, b2, cap2, by rw [← N.fillK_len cs cs.length]; rfl, hPk.chg hk6 (by show ¬ g = w.heap.size + 1; omega) (by show ¬ b = w.heap.size + 1; omega), hRk.chg hk6 (by show ¬ b2 = w.heap.size + 1; omega), by omega, by omega, by omega, by omega, by omega, hB5.trans (hk6.below (by omega) (fun j hj => by omega))⟩
end Go.Proofs.Ytbkddgeocmkegaa
