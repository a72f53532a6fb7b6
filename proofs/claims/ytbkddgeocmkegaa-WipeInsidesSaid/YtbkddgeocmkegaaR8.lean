/- Lemmas on the way to this seat's statements; they bear no condition of their own. -/
import Derived.Test.YtbkddgeocmkegaaR7
namespace Go.Proofs.Ytbkddgeocmkegaa
open Go.RowKit Go.Shelf
set_option linter.unusedSimpArgs false
set_option linter.unusedVariables false
set_option maxHeartbeats 2000000
attribute [local go_sem ↓] run_start run_byte run_cols

set_option maxRecDepth 100000 in
theorem rNewline_any {w : World} {b cap : Nat} {P : Pl} (h : RC w b P) :
    Calls Try.prog 38 #[.agg #[.int .i64 P.rows, .int .i64 P.cols, .slice (some ⟨b, 0, none⟩) P.cells.length cap, .int .i64 P.cursor]] w fun e w' => e = .returned (.int .i64 P.newline) ∧ Below w.heap.size w w' := by
  have hok := h.ok
  have hn := Pl.N_pos h.ok
  have hm := Pl.N_le h.ok
  have hc1 := hok.c1
  have hc2 := hok.c2
  have hk1 := hok.k1
  have hk2 := hok.k2
  rw [← hok.len] at hk2
  have hq0 : 0 ≤ P.cursor / P.cols := Int.ediv_nonneg hk1 (by omega)
  have hq1 : P.cursor / P.cols ≤ P.cursor := Int.ediv_le_self _ hk1
  have hd : P.cursor.tdiv P.cols = P.cursor / P.cols := Int.tdiv_eq_ediv_of_nonneg hk1
  have hF0 : 0 ≤ (P.cursor / P.cols + 1) * P.cols := Int.mul_nonneg (by omega) (by omega)
  have hF1 : (P.cursor / P.cols + 1) * P.cols ≤ 8192 := by
    have h1 := Int.mul_ediv_add_emod P.cursor P.cols
    have h2 := Int.emod_nonneg P.cursor (show P.cols ≠ 0 by omega)
    rw [Int.add_mul, Int.mul_comm, Int.one_mul]
    omega
  have EN := Lib.hid (show P.newline = (match srch P.cells.length (fun i => P.openAt (((P.cursor / P.cols + 1) * P.cols + (i : Int)) % (P.cells.length : Int))) with | some i => ((P.cursor / P.cols + 1) * P.cols + (i : Int)) % (P.cells.length : Int) | none => 0) from rfl)
  have hcne : P.cols ≠ 0 := by omega
  have hcp : 0 < P.cols := by omega
  have x1 : IntKind.i64.wrap (P.cursor / P.cols + 1) = P.cursor / P.cols + 1 := IntWalk.i64_in _ (by omega)
  have x2 : IntKind.i64.wrap ((P.cursor / P.cols + 1) * P.cols) = (P.cursor / P.cols + 1) * P.cols := IntWalk.i64_in _ (by omega)
  have x3 : IntKind.i64.wrap (P.cursor / P.cols) = P.cursor / P.cols := IntWalk.i64_in _ (by omega)
  go_enter Try.func38, Try.ntmps38
  go_wp2
  go_quiet (fail)
  clear x1 x2 x3
  go_wp2
  obtain ⟨F, hF⟩ : ∃ F, (P.cursor / P.cols + 1) * P.cols = F := ⟨_, rfl⟩
  rw [hF] at hF0 hF1 EN ⊢
  clear hq0 hq1 hd hcne hcp hF
  go_loopw [5] (fun i wr => ∃ k : Nat, k ≤ P.cells.length ∧ i = .int .i64 (k : Int) ∧ Below (w.heap.size + 1) (w.alloc (.cells #[.int .i64 P.rows, .int .i64 P.cols, .slice (some ⟨b, 0, none⟩) P.cells.length cap, .int .i64 P.cursor] 77)) wr ∧ ∀ j : Nat, j < k → P.openAt ((F + (j : Int)) % (P.cells.length : Int)) = false) (fun i _ => P.cells.length - (intOf i).toNat)
  case atStart => exact ⟨0, Nat.zero_le _, rfl, below_drewN (Below.refl _ _) _, fun j hj => absurd hj (Nat.not_lt_zero _)⟩
  case round =>
    obtain ⟨k, hk, rfl, hB, hf⟩ := hrel
    have HF := Lib.hid hf
    clear hf
    obtain ⟨x0, x1, x2, x3⟩ := box4 hB
    have hzB := hB.size
    have hBw := below_of_box hB
    simp only [World.size_alloc] at hzB
    by_cases hlt : k < P.cells.length
    · have hn' : (0 : Int) < (P.cells.length : Int) := by omega
      have hs0 : 0 ≤ F + (k : Int) := by omega
      have e1 : IntKind.i64.wrap (F + (k : Int)) = F + (k : Int) := IntWalk.i64_in _ (by omega)
      have hne0 : (P.cells.length : Int) ≠ 0 := by omega
      have hne1 : P.cells ≠ [] := fun e => by rw [e] at hn; exact absurd hn (Nat.lt_irrefl 0)
      have hne2 : P.cells.length ≠ 0 := by omega
      have e4 : (F + (k : Int)).tmod (P.cells.length : Int) = (F + (k : Int)) % (P.cells.length : Int) := Int.tmod_eq_emod_of_nonneg hs0
      go_wp2
      go_region_held3 (fun W => W.cell? ⟨w.heap.size, 0, none⟩ = some (.int .i64 P.rows) ∧ W.cell? ⟨w.heap.size, 1, none⟩ = some (.int .i64 P.cols) ∧ W.cell? ⟨w.heap.size, 2, none⟩ = some (.slice (some ⟨b, 0, none⟩) P.cells.length cap) ∧ W.cell? ⟨w.heap.size, 3, none⟩ = some (.int .i64 P.cursor))
        (first | exact keep4 (by assumption) hb1 | go_keep) (first | (go_at_call 97; refine (rOpen_any (h.below (by with_reducible (repeat (first | exact Below.refl _ _ | assumption | (refine Below.setCell ?_ (by first | omega | (simp; done) | (simp; omega)) _) | (refine Below.alloc ?_ (by first | omega | (simp; done) | (simp; omega)) _) | (refine below_drewN ?_ _) | (refine Below.drew ?_) | (refine Below.trans ?_ (Below.mono hb (by first | omega | (simp; done) | (simp; omega)))) | (refine Below.trans ?_ (Below.mono hb1 (by first | omega | (simp; done) | (simp; omega)))) | (refine Below.trans ?_ (Below.mono hb2 (by first | omega | (simp; done) | (simp; omega)))) | (refine Below.trans ?_ (Below.mono hb3 (by first | omega | (simp; done) | (simp; omega)))) | (refine Below.trans ?_ (Below.mono hb4 (by first | omega | (simp; done) | (simp; omega)))) | (refine Below.trans ?_ (Below.mono hb5 (by first | omega | (simp; done) | (simp; omega)))) | (refine Below.trans ?_ (Below.mono hb6 (by first | omega | (simp; done) | (simp; omega)))) | (refine Below.trans ?_ (Below.mono hb7 (by first | omega | (simp; done) | (simp; omega)))) | (refine Below.trans ?_ (Below.mono hb8 (by first | omega | (simp; done) | (simp; omega)))) | (refine Below.trans ?_ (Below.mono hb9 (by first | omega | (simp; done) | (simp; omega)))) | (refine Below.trans ?_ (Below.mono hb10 (by first | omega | (simp; done) | (simp; omega)))) | (refine Below.trans ?_ (Below.mono hb11 (by first | omega | (simp; done) | (simp; omega)))) | (refine Below.trans ?_ (Below.mono hb12 (by first | omega | (simp; done) | (simp; omega)))))))) ((F + (k : Int)) % (P.cells.length : Int))).mono ?_; rintro e w1 ⟨rfl, hb1⟩))
      clear e1 e4
      have hB1 : Below (w.heap.size + 1) (w.alloc (.cells #[.int .i64 P.rows, .int .i64 P.cols, .slice (some ⟨b, 0, none⟩) P.cells.length cap, .int .i64 P.cursor] 77)) w1 := by with_reducible (repeat (first | exact Below.refl _ _ | assumption | (refine Below.setCell ?_ (by first | omega | (simp; done) | (simp; omega)) _) | (refine Below.alloc ?_ (by first | omega | (simp; done) | (simp; omega)) _) | (refine below_drewN ?_ _) | (refine Below.drew ?_) | (refine Below.trans ?_ (Below.mono hb (by first | omega | (simp; done) | (simp; omega)))) | (refine Below.trans ?_ (Below.mono hb1 (by first | omega | (simp; done) | (simp; omega)))) | (refine Below.trans ?_ (Below.mono hb2 (by first | omega | (simp; done) | (simp; omega)))) | (refine Below.trans ?_ (Below.mono hb3 (by first | omega | (simp; done) | (simp; omega)))) | (refine Below.trans ?_ (Below.mono hb4 (by first | omega | (simp; done) | (simp; omega)))) | (refine Below.trans ?_ (Below.mono hb5 (by first | omega | (simp; done) | (simp; omega)))) | (refine Below.trans ?_ (Below.mono hb6 (by first | omega | (simp; done) | (simp; omega)))) | (refine Below.trans ?_ (Below.mono hb7 (by first | omega | (simp; done) | (simp; omega)))) | (refine Below.trans ?_ (Below.mono hb8 (by first | omega | (simp; done) | (simp; omega)))) | (refine Below.trans ?_ (Below.mono hb9 (by first | omega | (simp; done) | (simp; omega)))) | (refine Below.trans ?_ (Below.mono hb10 (by first | omega | (simp; done) | (simp; omega)))) | (refine Below.trans ?_ (Below.mono hb11 (by first | omega | (simp; done) | (simp; omega)))) | (refine Below.trans ?_ (Below.mono hb12 (by first | omega | (simp; done) | (simp; omega))))))
      clear hb1
      cases hst : P.openAt ((F + (k : Int)) % (P.cells.length : Int))
      · go_wp2
        go_roundw
        case rel => exact ⟨k + 1, by omega, by go_num, hB1, fun j hj => by rcases Nat.lt_succ_iff_lt_or_eq.1 hj with hj | rfl; exact HF.out j hj; exact hst⟩
        case measure => simp [intOf]; omega
      · have HS := Lib.hid hst
        clear hst
        go_wp2
        go_ret
        exact ⟨by rw [EN.out, srch_some hlt HS.out HF.out]; rfl, below_of_box hB1⟩
    · go_wp2
      go_ret
      exact ⟨by rw [EN.out, srch_none (fun j hj => HF.out j (by omega))]; rfl, hBw⟩

theorem rOn_any {w : World} {b cap : Nat} {P : Pl} (h : RC w b P) :
    Calls Try.prog 40 #[.agg #[.int .i64 P.rows, .int .i64 P.cols, .slice (some ⟨b, 0, none⟩) P.cells.length cap, .int .i64 P.cursor]] w fun e w' => e = .returned (.int .i64 P.on) ∧ Below w.heap.size w w' := by
  have hok := h.ok
  have hn := Pl.N_pos h.ok
  have hm := Pl.N_le h.ok
  have hk1 := hok.k1
  have hk2 := hok.k2
  rw [← hok.len] at hk2
  have hbl := h.bl
  obtain ⟨a0, a1⟩ := Pl.emod_range hok (P.cursor + 1)
  have EN := Lib.hid (show P.on = (if (P.at ((P.cursor + 1) % (P.cells.length : Int))).start then (if prot (P.at ((P.cursor + 1) % (P.cells.length : Int))).byte && nume (P.at ((P.cursor + 1) % (P.cells.length : Int))).byte then P.seek ((P.cursor + 1) % (P.cells.length : Int)) 1 else (((P.cursor + 1) % (P.cells.length : Int)) + 1) % (P.cells.length : Int)) else (P.cursor + 1) % (P.cells.length : Int)) from rfl)
  obtain ⟨a, ha⟩ : ∃ a, (P.cursor + 1) % (P.cells.length : Int) = a := ⟨_, rfl⟩
  have HA := Lib.hid ha
  rw [ha] at a0 a1 EN
  have hrow := h.row5 a.toNat (by omega)
  have hat : P.at a = P.cells[a.toNat] := by have := Pl.at_get (P := P) (i := a.toNat) (by omega); rwa [Int.toNat_of_nonneg a0] at this
  rw [← hat] at hrow
  have hby := (Pl.at_ok hok a).1
  obtain ⟨c, hc⟩ : ∃ c, P.at a = c := ⟨_, rfl⟩
  rw [hc] at hrow EN hby
  clear hat hc
  obtain ⟨k0, k1, k2, k3, k4⟩ := hrow
  cases hs : c.start
  · rw [hs] at k2
    go_enter Try.func40, Try.ntmps40
    go_wp2
    go_ret
    exact ⟨by rw [EN.out, hs, ← HA.out]; rfl, by with_reducible (repeat (first | exact Below.refl _ _ | assumption | (refine Below.setCell ?_ (by first | omega | (simp; done) | (simp; omega)) _) | (refine Below.alloc ?_ (by first | omega | (simp; done) | (simp; omega)) _) | (refine below_drewN ?_ _) | (refine Below.drew ?_) | (refine Below.trans ?_ (Below.mono hb (by first | omega | (simp; done) | (simp; omega)))) | (refine Below.trans ?_ (Below.mono hb1 (by first | omega | (simp; done) | (simp; omega)))) | (refine Below.trans ?_ (Below.mono hb2 (by first | omega | (simp; done) | (simp; omega)))) | (refine Below.trans ?_ (Below.mono hb3 (by first | omega | (simp; done) | (simp; omega)))) | (refine Below.trans ?_ (Below.mono hb4 (by first | omega | (simp; done) | (simp; omega)))) | (refine Below.trans ?_ (Below.mono hb5 (by first | omega | (simp; done) | (simp; omega)))) | (refine Below.trans ?_ (Below.mono hb6 (by first | omega | (simp; done) | (simp; omega)))) | (refine Below.trans ?_ (Below.mono hb7 (by first | omega | (simp; done) | (simp; omega)))) | (refine Below.trans ?_ (Below.mono hb8 (by first | omega | (simp; done) | (simp; omega)))) | (refine Below.trans ?_ (Below.mono hb9 (by first | omega | (simp; done) | (simp; omega)))) | (refine Below.trans ?_ (Below.mono hb10 (by first | omega | (simp; done) | (simp; omega)))) | (refine Below.trans ?_ (Below.mono hb11 (by first | omega | (simp; done) | (simp; omega)))) | (refine Below.trans ?_ (Below.mono hb12 (by first | omega | (simp; done) | (simp; omega))))))⟩
  · rw [hs] at k2
    cases hp : prot c.byte
    · go_enter Try.func40, Try.ntmps40
      go_wp2_with fail
      refine (rBit_in _ _ _ hby (by omega)).mono ?_
      rintro e w5 ⟨rfl, hb5⟩
      have hz5 := hb5.size
      try simp only [World.size_alloc, World.size_drew, World.size_setCell] at hz5
      obtain ⟨hc5, hf5⟩ := bcell hb5
      rw [bit_prot, hp]
      go_wp2
      go_ret
      exact ⟨by rw [EN.out, hs, hp, ← HA.out]; rfl, by with_reducible (repeat (first | exact Below.refl _ _ | assumption | (refine Below.setCell ?_ (by first | omega | (simp; done) | (simp; omega)) _) | (refine Below.alloc ?_ (by first | omega | (simp; done) | (simp; omega)) _) | (refine below_drewN ?_ _) | (refine Below.drew ?_) | (refine Below.trans ?_ (Below.mono hb (by first | omega | (simp; done) | (simp; omega)))) | (refine Below.trans ?_ (Below.mono hb1 (by first | omega | (simp; done) | (simp; omega)))) | (refine Below.trans ?_ (Below.mono hb2 (by first | omega | (simp; done) | (simp; omega)))) | (refine Below.trans ?_ (Below.mono hb3 (by first | omega | (simp; done) | (simp; omega)))) | (refine Below.trans ?_ (Below.mono hb4 (by first | omega | (simp; done) | (simp; omega)))) | (refine Below.trans ?_ (Below.mono hb5 (by first | omega | (simp; done) | (simp; omega)))) | (refine Below.trans ?_ (Below.mono hb6 (by first | omega | (simp; done) | (simp; omega)))) | (refine Below.trans ?_ (Below.mono hb7 (by first | omega | (simp; done) | (simp; omega)))) | (refine Below.trans ?_ (Below.mono hb8 (by first | omega | (simp; done) | (simp; omega)))) | (refine Below.trans ?_ (Below.mono hb9 (by first | omega | (simp; done) | (simp; omega)))) | (refine Below.trans ?_ (Below.mono hb10 (by first | omega | (simp; done) | (simp; omega)))) | (refine Below.trans ?_ (Below.mono hb11 (by first | omega | (simp; done) | (simp; omega)))) | (refine Below.trans ?_ (Below.mono hb12 (by first | omega | (simp; done) | (simp; omega))))))⟩
    · cases hu : nume c.byte
      · go_enter Try.func40, Try.ntmps40
        go_wp2_with fail
        refine (rBit_in _ _ _ hby (by omega)).mono ?_
        rintro e w5 ⟨rfl, hb5⟩
        have hz5 := hb5.size
        try simp only [World.size_alloc, World.size_drew, World.size_setCell] at hz5
        obtain ⟨hc5, hf5⟩ := bcell hb5
        rw [bit_prot, hp]
        go_wp2_with fail
        refine (rBit_in _ _ _ hby (by omega)).mono ?_
        rintro e w6 ⟨rfl, hb6⟩
        have hz6 := hb6.size
        try simp only [World.size_alloc, World.size_drew, World.size_setCell] at hz6
        obtain ⟨hc6, hf6⟩ := bcell hb6
        rw [bit_nume, hu]
        go_wp2
        go_ret
        exact ⟨by rw [EN.out, hs, hp, hu, ← HA.out]; rfl, by with_reducible (repeat (first | exact Below.refl _ _ | assumption | (refine Below.setCell ?_ (by first | omega | (simp; done) | (simp; omega)) _) | (refine Below.alloc ?_ (by first | omega | (simp; done) | (simp; omega)) _) | (refine below_drewN ?_ _) | (refine Below.drew ?_) | (refine Below.trans ?_ (Below.mono hb (by first | omega | (simp; done) | (simp; omega)))) | (refine Below.trans ?_ (Below.mono hb1 (by first | omega | (simp; done) | (simp; omega)))) | (refine Below.trans ?_ (Below.mono hb2 (by first | omega | (simp; done) | (simp; omega)))) | (refine Below.trans ?_ (Below.mono hb3 (by first | omega | (simp; done) | (simp; omega)))) | (refine Below.trans ?_ (Below.mono hb4 (by first | omega | (simp; done) | (simp; omega)))) | (refine Below.trans ?_ (Below.mono hb5 (by first | omega | (simp; done) | (simp; omega)))) | (refine Below.trans ?_ (Below.mono hb6 (by first | omega | (simp; done) | (simp; omega)))) | (refine Below.trans ?_ (Below.mono hb7 (by first | omega | (simp; done) | (simp; omega)))) | (refine Below.trans ?_ (Below.mono hb8 (by first | omega | (simp; done) | (simp; omega)))) | (refine Below.trans ?_ (Below.mono hb9 (by first | omega | (simp; done) | (simp; omega)))) | (refine Below.trans ?_ (Below.mono hb10 (by first | omega | (simp; done) | (simp; omega)))) | (refine Below.trans ?_ (Below.mono hb11 (by first | omega | (simp; done) | (simp; omega)))) | (refine Below.trans ?_ (Below.mono hb12 (by first | omega | (simp; done) | (simp; omega))))))⟩
      · go_enter Try.func40, Try.ntmps40
        go_wp2_with fail
        refine (rBit_in _ _ _ hby (by omega)).mono ?_
        rintro e w5 ⟨rfl, hb5⟩
        have hz5 := hb5.size
        try simp only [World.size_alloc, World.size_drew, World.size_setCell] at hz5
        obtain ⟨hc5, hf5⟩ := bcell hb5
        rw [bit_prot, hp]
        go_wp2_with fail
        refine (rBit_in _ _ _ hby (by omega)).mono ?_
        rintro e w6 ⟨rfl, hb6⟩
        replace hb6 := Below.trans hb5 (Below.mono hb6 hb5.size)
        clear hc5 hf5
        have hz6 := hb6.size
        try simp only [World.size_alloc, World.size_drew, World.size_setCell] at hz6
        obtain ⟨hc6, hf6⟩ := bcell hb6
        rw [bit_nume, hu]
        have x0 : w6.cell? ⟨w.heap.size, 0, none⟩ = some (.int .i64 P.rows) := (hb6.cell (by simp; omega)).trans (by simp [go_sem])
        have x1 : w6.cell? ⟨w.heap.size, 1, none⟩ = some (.int .i64 P.cols) := (hb6.cell (by simp; omega)).trans (by simp [go_sem])
        have x2 : w6.cell? ⟨w.heap.size, 2, none⟩ = some (.slice (some ⟨b, 0, none⟩) P.cells.length cap) := (hb6.cell (by simp; omega)).trans (by simp [go_sem])
        have x3 : w6.cell? ⟨w.heap.size, 3, none⟩ = some (.int .i64 P.cursor) := (hb6.cell (by simp; omega)).trans (by simp [go_sem])
        clear hc6 hf6
        have HA2 := HA.out
        go_wp2_with fail
        refine (rTab_in (h.below (by with_reducible (repeat (first | exact Below.refl _ _ | assumption | (refine Below.setCell ?_ (by first | omega | (simp; done) | (simp; omega)) _) | (refine Below.alloc ?_ (by first | omega | (simp; done) | (simp; omega)) _) | (refine below_drewN ?_ _) | (refine Below.drew ?_) | (refine Below.trans ?_ (Below.mono hb (by first | omega | (simp; done) | (simp; omega)))) | (refine Below.trans ?_ (Below.mono hb1 (by first | omega | (simp; done) | (simp; omega)))) | (refine Below.trans ?_ (Below.mono hb2 (by first | omega | (simp; done) | (simp; omega)))) | (refine Below.trans ?_ (Below.mono hb3 (by first | omega | (simp; done) | (simp; omega)))) | (refine Below.trans ?_ (Below.mono hb4 (by first | omega | (simp; done) | (simp; omega)))) | (refine Below.trans ?_ (Below.mono hb5 (by first | omega | (simp; done) | (simp; omega)))) | (refine Below.trans ?_ (Below.mono hb6 (by first | omega | (simp; done) | (simp; omega)))) | (refine Below.trans ?_ (Below.mono hb7 (by first | omega | (simp; done) | (simp; omega)))) | (refine Below.trans ?_ (Below.mono hb8 (by first | omega | (simp; done) | (simp; omega)))) | (refine Below.trans ?_ (Below.mono hb9 (by first | omega | (simp; done) | (simp; omega)))) | (refine Below.trans ?_ (Below.mono hb10 (by first | omega | (simp; done) | (simp; omega)))) | (refine Below.trans ?_ (Below.mono hb11 (by first | omega | (simp; done) | (simp; omega)))) | (refine Below.trans ?_ (Below.mono hb12 (by first | omega | (simp; done) | (simp; omega)))))))) _ (HA.out ▸ a0) (HA.out ▸ a1)).mono ?_
        rintro e w7 ⟨rfl, hb7⟩
        go_wp2
        go_ret
        exact ⟨by rw [EN.out, hs, hp, hu, ← HA.out]; rfl, by with_reducible (repeat (first | exact Below.refl _ _ | assumption | (refine Below.setCell ?_ (by first | omega | (simp; done) | (simp; omega)) _) | (refine Below.alloc ?_ (by first | omega | (simp; done) | (simp; omega)) _) | (refine below_drewN ?_ _) | (refine Below.drew ?_) | (refine Below.trans ?_ (Below.mono hb (by first | omega | (simp; done) | (simp; omega)))) | (refine Below.trans ?_ (Below.mono hb1 (by first | omega | (simp; done) | (simp; omega)))) | (refine Below.trans ?_ (Below.mono hb2 (by first | omega | (simp; done) | (simp; omega)))) | (refine Below.trans ?_ (Below.mono hb3 (by first | omega | (simp; done) | (simp; omega)))) | (refine Below.trans ?_ (Below.mono hb4 (by first | omega | (simp; done) | (simp; omega)))) | (refine Below.trans ?_ (Below.mono hb5 (by first | omega | (simp; done) | (simp; omega)))) | (refine Below.trans ?_ (Below.mono hb6 (by first | omega | (simp; done) | (simp; omega)))) | (refine Below.trans ?_ (Below.mono hb7 (by first | omega | (simp; done) | (simp; omega)))) | (refine Below.trans ?_ (Below.mono hb8 (by first | omega | (simp; done) | (simp; omega)))) | (refine Below.trans ?_ (Below.mono hb9 (by first | omega | (simp; done) | (simp; omega)))) | (refine Below.trans ?_ (Below.mono hb10 (by first | omega | (simp; done) | (simp; omega)))) | (refine Below.trans ?_ (Below.mono hb11 (by first | omega | (simp; done) | (simp; omega)))) | (refine Below.trans ?_ (Below.mono hb12 (by first | omega | (simp; done) | (simp; omega))))))⟩
end Go.Proofs.Ytbkddgeocmkegaa
