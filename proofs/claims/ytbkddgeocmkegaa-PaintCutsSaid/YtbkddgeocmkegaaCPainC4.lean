/- Lemmas on the way to this seat's statements; they bear no condition of their own. -/
import Derived.Test.YtbkddgeocmkegaaCPainC3
import Derived.Test.YtbkddgeocmkegaaRows
import Derived.WalkKit
import Derived.ProofKit
import Derived.OpenShut
import Derived.ShutString
import Derived.ChangeOld
import Derived.Below
import Derived.Deep.Slices
import Derived.Deep.Fields
import Derived.ChangeSame
import Derived.Lib.SmallJoins
import Derived.Lib.SliceRun
import Derived.BigFrame
namespace Go.Proofs.Ytbkddgeocmkegaa
open Go.RowKit Go.Shelf
set_option linter.unusedSimpArgs false
set_option linter.unusedVariables false
set_option maxHeartbeats 2000000
attribute [local go_sem ↓] run_start run_byte run_cols

set_option maxRecDepth 100000 in
theorem rNewline_any {w : World} {b cap : Nat} {P : Pl} (h : RC w b P) :
    Calls Try.prog 38 #[.agg #[.int .i64 P.rows, .int .i64 P.cols, .slice (some ⟨b, 0, none⟩) P.cells.length cap, .int .i64 P.cursor]] w fun e w' => e = .returned (.int .i64 P.newline) ∧ Below w.heap.size w w' := by
  have hok := h.ok
  have hn := Pl.N_pos h.ok
  have hm := Pl.N_le h.ok
  have hc1 := hok.c1
  have hc2 := hok.c2
  have hk1 := hok.k1
  have hk2 := hok.k2
  rw [← hok.len] at hk2
  have hq0 : 0 ≤ P.cursor / P.cols := Int.ediv_nonneg hk1 (by omega)
  have hq1 : P.cursor / P.cols ≤ P.cursor := Int.ediv_le_self _ hk1
  have hd : P.cursor.tdiv P.cols = P.cursor / P.cols := Int.tdiv_eq_ediv_of_nonneg hk1
  have hF0 : 0 ≤ (P.cursor / P.cols + 1) * P.cols := Int.mul_nonneg (by omega) (by omega)
  have hF1 : (P.cursor / P.cols + 1) * P.cols ≤ 8192 := by
    have h1 := Int.mul_ediv_add_emod P.cursor P.cols
    have h2 := Int.emod_nonneg P.cursor (show P.cols ≠ 0 by omega)
    rw [Int.add_mul, Int.mul_comm, Int.one_mul]
    omega
  have EN := Lib.hid (show P.newline = (match srch P.cells.length (fun i => P.openAt (((P.cursor / P.cols + 1) * P.cols + (i : Int)) % (P.cells.length : Int))) with | some i => ((P.cursor / P.cols + 1) * P.cols + (i : Int)) % (P.cells.length : Int) | none => 0) from rfl)
  have hcne : P.cols ≠ 0 := by omega
  have hcp : 0 < P.cols := by omega
  have x1 : IntKind.i64.wrap (P.cursor / P.cols + 1) = P.cursor / P.cols + 1 := IntWalk.i64_in _ (by omega)
  have x2 : IntKind.i64.wrap ((P.cursor / P.cols + 1) * P.cols) = (P.cursor / P.cols + 1) * P.cols := IntWalk.i64_in _ (by omega)
  have x3 : IntKind.i64.wrap (P.cursor / P.cols) = P.cursor / P.cols := IntWalk.i64_in _ (by omega)
  go_enter Try.func38, Try.ntmps38
  go_wp2
  go_quiet (fail)
  clear x1 x2 x3
  go_wp2
  obtain ⟨F, hF⟩ : ∃ F, (P.cursor / P.cols + 1) * P.cols = F := ⟨_, rfl⟩
  rw [hF] at hF0 hF1 EN ⊢
  clear hq0 hq1 hd hcne hcp hF
  go_loopw [5] (fun i wr => ∃ k : Nat, k ≤ P.cells.length ∧ i = .int .i64 (k : Int) ∧ Below (w.heap.size + 1) (w.alloc (.cells #[.int .i64 P.rows, .int .i64 P.cols, .slice (some ⟨b, 0, none⟩) P.cells.length cap, .int .i64 P.cursor] 77)) wr ∧ ∀ j : Nat, j < k → P.openAt ((F + (j : Int)) % (P.cells.length : Int)) = false) (fun i _ => P.cells.length - (intOf i).toNat)
  case atStart => exact ⟨0, Nat.zero_le _, rfl, below_drewN (Below.refl _ _) _, fun j hj => absurd hj (Nat.not_lt_zero _)⟩
  case round =>
    obtain ⟨k, hk, rfl, hB, hf⟩ := hrel
    have HF := Lib.hid hf
    clear hf
    obtain ⟨x0, x1, x2, x3⟩ := box4 hB
    have hzB := hB.size
    have hBw := below_of_box hB
    simp only [World.size_alloc] at hzB
    by_cases hlt : k < P.cells.length
    · have hn' : (0 : Int) < (P.cells.length : Int) := by omega
      have hs0 : 0 ≤ F + (k : Int) := by omega
      have e1 : IntKind.i64.wrap (F + (k : Int)) = F + (k : Int) := IntWalk.i64_in _ (by omega)
      have hne0 : (P.cells.length : Int) ≠ 0 := by omega
      have hne1 : P.cells ≠ [] := fun e => by rw [e] at hn; exact absurd hn (Nat.lt_irrefl 0)
      have hne2 : P.cells.length ≠ 0 := by omega
      have e4 : (F + (k : Int)).tmod (P.cells.length : Int) = (F + (k : Int)) % (P.cells.length : Int) := Int.tmod_eq_emod_of_nonneg hs0
      go_wp2
      go_region_held3 (fun W => W.cell? ⟨w.heap.size, 0, none⟩ = some (.int .i64 P.rows) ∧ W.cell? ⟨w.heap.size, 1, none⟩ = some (.int .i64 P.cols) ∧ W.cell? ⟨w.heap.size, 2, none⟩ = some (.slice (some ⟨b, 0, none⟩) P.cells.length cap) ∧ W.cell? ⟨w.heap.size, 3, none⟩ = some (.int .i64 P.cursor))
        (first | exact keep4 (by assumption) hb1 | go_keep) (first | (go_at_call 97; refine (rOpen_any (h.below (by with_reducible (repeat (first | exact Below.refl _ _ | assumption | (refine Below.setCell ?_ (by first | omega | (simp; done) | (simp; omega)) _) | (refine Below.alloc ?_ (by first | omega | (simp; done) | (simp; omega)) _) | (refine below_drewN ?_ _) | (refine Below.drew ?_) | (refine Below.trans ?_ (Below.mono hb (by first | omega | (simp; done) | (simp; omega)))) | (refine Below.trans ?_ (Below.mono hb1 (by first | omega | (simp; done) | (simp; omega)))) | (refine Below.trans ?_ (Below.mono hb2 (by first | omega | (simp; done) | (simp; omega)))) | (refine Below.trans ?_ (Below.mono hb3 (by first | omega | (simp; done) | (simp; omega)))) | (refine Below.trans ?_ (Below.mono hb4 (by first | omega | (simp; done) | (simp; omega)))) | (refine Below.trans ?_ (Below.mono hb5 (by first | omega | (simp; done) | (simp; omega)))) | (refine Below.trans ?_ (Below.mono hb6 (by first | omega | (simp; done) | (simp; omega)))) | (refine Below.trans ?_ (Below.mono hb7 (by first | omega | (simp; done) | (simp; omega)))) | (refine Below.trans ?_ (Below.mono hb8 (by first | omega | (simp; done) | (simp; omega)))) | (refine Below.trans ?_ (Below.mono hb9 (by first | omega | (simp; done) | (simp; omega)))) | (refine Below.trans ?_ (Below.mono hb10 (by first | omega | (simp; done) | (simp; omega)))) | (refine Below.trans ?_ (Below.mono hb11 (by first | omega | (simp; done) | (simp; omega)))) | (refine Below.trans ?_ (Below.mono hb12 (by first | omega | (simp; done) | (simp; omega)))))))) ((F + (k : Int)) % (P.cells.length : Int))).mono ?_; rintro e w1 ⟨rfl, hb1⟩))
      clear e1 e4
      have hB1 : Below (w.heap.size + 1) (w.alloc (.cells #[.int .i64 P.rows, .int .i64 P.cols, .slice (some ⟨b, 0, none⟩) P.cells.length cap, .int .i64 P.cursor] 77)) w1 := by with_reducible (repeat (first | exact Below.refl _ _ | assumption | (refine Below.setCell ?_ (by first | omega | (simp; done) | (simp; omega)) _) | (refine Below.alloc ?_ (by first | omega | (simp; done) | (simp; omega)) _) | (refine below_drewN ?_ _) | (refine Below.drew ?_) | (refine Below.trans ?_ (Below.mono hb (by first | omega | (simp; done) | (simp; omega)))) | (refine Below.trans ?_ (Below.mono hb1 (by first | omega | (simp; done) | (simp; omega)))) | (refine Below.trans ?_ (Below.mono hb2 (by first | omega | (simp; done) | (simp; omega)))) | (refine Below.trans ?_ (Below.mono hb3 (by first | omega | (simp; done) | (simp; omega)))) | (refine Below.trans ?_ (Below.mono hb4 (by first | omega | (simp; done) | (simp; omega)))) | (refine Below.trans ?_ (Below.mono hb5 (by first | omega | (simp; done) | (simp; omega)))) | (refine Below.trans ?_ (Below.mono hb6 (by first | omega | (simp; done) | (simp; omega)))) | (refine Below.trans ?_ (Below.mono hb7 (by first | omega | (simp; done) | (simp; omega)))) | (refine Below.trans ?_ (Below.mono hb8 (by first | omega | (simp; done) | (simp; omega)))) | (refine Below.trans ?_ (Below.mono hb9 (by first | omega | (simp; done) | (simp; omega)))) | (refine Below.trans ?_ (Below.mono hb10 (by first | omega | (simp; done) | (simp; omega)))) | (refine Below.trans ?_ (Below.mono hb11 (by first | omega | (simp; done) | (simp; omega)))) | (refine Below.trans ?_ (Below.mono hb12 (by first | omega | (simp; done) | (simp; omega))))))
      clear hb1
      cases hst : P.openAt ((F + (k : Int)) % (P.cells.length : Int))
      · go_wp2
        go_roundw
        case rel => exact ⟨k + 1, by omega, by go_num, hB1, fun j hj => by rcases Nat.lt_succ_iff_lt_or_eq.1 hj with hj | rfl; exact HF.out j hj; exact hst⟩
        case measure => simp [intOf]; omega
      · have HS := Lib.hid hst
        clear hst
        go_wp2
        go_ret
        exact ⟨by rw [EN.out, srch_some hlt HS.out HF.out]; rfl, below_of_box hB1⟩
    · go_wp2
      go_ret
      exact ⟨by rw [EN.out, srch_none (fun j hj => HF.out j (by omega))]; rfl, hBw⟩

theorem rOn_any {w : World} {b cap : Nat} {P : Pl} (h : RC w b P) :
    Calls Try.prog 40 #[.agg #[.int .i64 P.rows, .int .i64 P.cols, .slice (some ⟨b, 0, none⟩) P.cells.length cap, .int .i64 P.cursor]] w fun e w' => e = .returned (.int .i64 P.on) ∧ Below w.heap.size w w' := by
  have hok := h.ok
  have hn := Pl.N_pos h.ok
  have hm := Pl.N_le h.ok
  have hk1 := hok.k1
  have hk2 := hok.k2
  rw [← hok.len] at hk2
  have hbl := h.bl
  obtain ⟨a0, a1⟩ := Pl.emod_range hok (P.cursor + 1)
  have EN := Lib.hid (show P.on = (if (P.at ((P.cursor + 1) % (P.cells.length : Int))).start then (if prot (P.at ((P.cursor + 1) % (P.cells.length : Int))).byte && nume (P.at ((P.cursor + 1) % (P.cells.length : Int))).byte then P.seek ((P.cursor + 1) % (P.cells.length : Int)) 1 else (((P.cursor + 1) % (P.cells.length : Int)) + 1) % (P.cells.length : Int)) else (P.cursor + 1) % (P.cells.length : Int)) from rfl)
  obtain ⟨a, ha⟩ : ∃ a, (P.cursor + 1) % (P.cells.length : Int) = a := ⟨_, rfl⟩
  have HA := Lib.hid ha
  rw [ha] at a0 a1 EN
  have hrow := h.row5 a.toNat (by omega)
  have hat : P.at a = P.cells[a.toNat] := by have := Pl.at_get (P := P) (i := a.toNat) (by omega); rwa [Int.toNat_of_nonneg a0] at this
  rw [← hat] at hrow
  have hby := (Pl.at_ok hok a).1
  obtain ⟨c, hc⟩ : ∃ c, P.at a = c := ⟨_, rfl⟩
  rw [hc] at hrow EN hby
  clear hat hc
  obtain ⟨k0, k1, k2, k3, k4⟩ := hrow
  cases hs : c.start
  · rw [hs] at k2
    go_enter Try.func40, Try.ntmps40
    go_wp2
    go_ret
    exact ⟨by rw [EN.out, hs, ← HA.out]; rfl, by with_reducible (repeat (first | exact Below.refl _ _ | assumption | (refine Below.setCell ?_ (by first | omega | (simp; done) | (simp; omega)) _) | (refine Below.alloc ?_ (by first | omega | (simp; done) | (simp; omega)) _) | (refine below_drewN ?_ _) | (refine Below.drew ?_) | (refine Below.trans ?_ (Below.mono hb (by first | omega | (simp; done) | (simp; omega)))) | (refine Below.trans ?_ (Below.mono hb1 (by first | omega | (simp; done) | (simp; omega)))) | (refine Below.trans ?_ (Below.mono hb2 (by first | omega | (simp; done) | (simp; omega)))) | (refine Below.trans ?_ (Below.mono hb3 (by first | omega | (simp; done) | (simp; omega)))) | (refine Below.trans ?_ (Below.mono hb4 (by first | omega | (simp; done) | (simp; omega)))) | (refine Below.trans ?_ (Below.mono hb5 (by first | omega | (simp; done) | (simp; omega)))) | (refine Below.trans ?_ (Below.mono hb6 (by first | omega | (simp; done) | (simp; omega)))) | (refine Below.trans ?_ (Below.mono hb7 (by first | omega | (simp; done) | (simp; omega)))) | (refine Below.trans ?_ (Below.mono hb8 (by first | omega | (simp; done) | (simp; omega)))) | (refine Below.trans ?_ (Below.mono hb9 (by first | omega | (simp; done) | (simp; omega)))) | (refine Below.trans ?_ (Below.mono hb10 (by first | omega | (simp; done) | (simp; omega)))) | (refine Below.trans ?_ (Below.mono hb11 (by first | omega | (simp; done) | (simp; omega)))) | (refine Below.trans ?_ (Below.mono hb12 (by first | omega | (simp; done) | (simp; omega))))))⟩
  · rw [hs] at k2
    cases hp : prot c.byte
    · go_enter Try.func40, Try.ntmps40
      go_wp2_with fail
      refine (rBit_in _ _ _ hby (by omega)).mono ?_
      rintro e w5 ⟨rfl, hb5⟩
      have hz5 := hb5.size
      try simp only [World.size_alloc, World.size_drew, World.size_setCell] at hz5
      obtain ⟨hc5, hf5⟩ := bcell hb5
      rw [bit_prot, hp]
      go_wp2
      go_ret
      exact ⟨by rw [EN.out, hs, hp, ← HA.out]; rfl, by with_reducible (repeat (first | exact Below.refl _ _ | assumption | (refine Below.setCell ?_ (by first | omega | (simp; done) | (simp; omega)) _) | (refine Below.alloc ?_ (by first | omega | (simp; done) | (simp; omega)) _) | (refine below_drewN ?_ _) | (refine Below.drew ?_) | (refine Below.trans ?_ (Below.mono hb (by first | omega | (simp; done) | (simp; omega)))) | (refine Below.trans ?_ (Below.mono hb1 (by first | omega | (simp; done) | (simp; omega)))) | (refine Below.trans ?_ (Below.mono hb2 (by first | omega | (simp; done) | (simp; omega)))) | (refine Below.trans ?_ (Below.mono hb3 (by first | omega | (simp; done) | (simp; omega)))) | (refine Below.trans ?_ (Below.mono hb4 (by first | omega | (simp; done) | (simp; omega)))) | (refine Below.trans ?_ (Below.mono hb5 (by first | omega | (simp; done) | (simp; omega)))) | (refine Below.trans ?_ (Below.mono hb6 (by first | omega | (simp; done) | (simp; omega)))) | (refine Below.trans ?_ (Below.mono hb7 (by first | omega | (simp; done) | (simp; omega)))) | (refine Below.trans ?_ (Below.mono hb8 (by first | omega | (simp; done) | (simp; omega)))) | (refine Below.trans ?_ (Below.mono hb9 (by first | omega | (simp; done) | (simp; omega)))) | (refine Below.trans ?_ (Below.mono hb10 (by first | omega | (simp; done) | (simp; omega)))) | (refine Below.trans ?_ (Below.mono hb11 (by first | omega | (simp; done) | (simp; omega)))) | (refine Below.trans ?_ (Below.mono hb12 (by first | omega | (simp; done) | (simp; omega))))))⟩
    · cases hu : nume c.byte
      · go_enter Try.func40, Try.ntmps40
        go_wp2_with fail
        refine (rBit_in _ _ _ hby (by omega)).mono ?_
        rintro e w5 ⟨rfl, hb5⟩
        have hz5 := hb5.size
        try simp only [World.size_alloc, World.size_drew, World.size_setCell] at hz5
        obtain ⟨hc5, hf5⟩ := bcell hb5
        rw [bit_prot, hp]
        go_wp2_with fail
        refine (rBit_in _ _ _ hby (by omega)).mono ?_
        rintro e w6 ⟨rfl, hb6⟩
        have hz6 := hb6.size
        try simp only [World.size_alloc, World.size_drew, World.size_setCell] at hz6
        obtain ⟨hc6, hf6⟩ := bcell hb6
        rw [bit_nume, hu]
        go_wp2
        go_ret
        exact ⟨by rw [EN.out, hs, hp, hu, ← HA.out]; rfl, by with_reducible (repeat (first | exact Below.refl _ _ | assumption | (refine Below.setCell ?_ (by first | omega | (simp; done) | (simp; omega)) _) | (refine Below.alloc ?_ (by first | omega | (simp; done) | (simp; omega)) _) | (refine below_drewN ?_ _) | (refine Below.drew ?_) | (refine Below.trans ?_ (Below.mono hb (by first | omega | (simp; done) | (simp; omega)))) | (refine Below.trans ?_ (Below.mono hb1 (by first | omega | (simp; done) | (simp; omega)))) | (refine Below.trans ?_ (Below.mono hb2 (by first | omega | (simp; done) | (simp; omega)))) | (refine Below.trans ?_ (Below.mono hb3 (by first | omega | (simp; done) | (simp; omega)))) | (refine Below.trans ?_ (Below.mono hb4 (by first | omega | (simp; done) | (simp; omega)))) | (refine Below.trans ?_ (Below.mono hb5 (by first | omega | (simp; done) | (simp; omega)))) | (refine Below.trans ?_ (Below.mono hb6 (by first | omega | (simp; done) | (simp; omega)))) | (refine Below.trans ?_ (Below.mono hb7 (by first | omega | (simp; done) | (simp; omega)))) | (refine Below.trans ?_ (Below.mono hb8 (by first | omega | (simp; done) | (simp; omega)))) | (refine Below.trans ?_ (Below.mono hb9 (by first | omega | (simp; done) | (simp; omega)))) | (refine Below.trans ?_ (Below.mono hb10 (by first | omega | (simp; done) | (simp; omega)))) | (refine Below.trans ?_ (Below.mono hb11 (by first | omega | (simp; done) | (simp; omega)))) | (refine Below.trans ?_ (Below.mono hb12 (by first | omega | (simp; done) | (simp; omega))))))⟩
      · go_enter Try.func40, Try.ntmps40
        go_wp2_with fail
        refine (rBit_in _ _ _ hby (by omega)).mono ?_
        rintro e w5 ⟨rfl, hb5⟩
        have hz5 := hb5.size
        try simp only [World.size_alloc, World.size_drew, World.size_setCell] at hz5
        obtain ⟨hc5, hf5⟩ := bcell hb5
        rw [bit_prot, hp]
        go_wp2_with fail
        refine (rBit_in _ _ _ hby (by omega)).mono ?_
        rintro e w6 ⟨rfl, hb6⟩
        replace hb6 := Below.trans hb5 (Below.mono hb6 hb5.size)
        clear hc5 hf5
        have hz6 := hb6.size
        try simp only [World.size_alloc, World.size_drew, World.size_setCell] at hz6
        obtain ⟨hc6, hf6⟩ := bcell hb6
        rw [bit_nume, hu]
        have x0 : w6.cell? ⟨w.heap.size, 0, none⟩ = some (.int .i64 P.rows) := (hb6.cell (by simp; omega)).trans (by simp [go_sem])
        have x1 : w6.cell? ⟨w.heap.size, 1, none⟩ = some (.int .i64 P.cols) := (hb6.cell (by simp; omega)).trans (by simp [go_sem])
        have x2 : w6.cell? ⟨w.heap.size, 2, none⟩ = some (.slice (some ⟨b, 0, none⟩) P.cells.length cap) := (hb6.cell (by simp; omega)).trans (by simp [go_sem])
        have x3 : w6.cell? ⟨w.heap.size, 3, none⟩ = some (.int .i64 P.cursor) := (hb6.cell (by simp; omega)).trans (by simp [go_sem])
        clear hc6 hf6
        have HA2 := HA.out
        go_wp2_with fail
        refine (rTab_in (h.below (by with_reducible (repeat (first | exact Below.refl _ _ | assumption | (refine Below.setCell ?_ (by first | omega | (simp; done) | (simp; omega)) _) | (refine Below.alloc ?_ (by first | omega | (simp; done) | (simp; omega)) _) | (refine below_drewN ?_ _) | (refine Below.drew ?_) | (refine Below.trans ?_ (Below.mono hb (by first | omega | (simp; done) | (simp; omega)))) | (refine Below.trans ?_ (Below.mono hb1 (by first | omega | (simp; done) | (simp; omega)))) | (refine Below.trans ?_ (Below.mono hb2 (by first | omega | (simp; done) | (simp; omega)))) | (refine Below.trans ?_ (Below.mono hb3 (by first | omega | (simp; done) | (simp; omega)))) | (refine Below.trans ?_ (Below.mono hb4 (by first | omega | (simp; done) | (simp; omega)))) | (refine Below.trans ?_ (Below.mono hb5 (by first | omega | (simp; done) | (simp; omega)))) | (refine Below.trans ?_ (Below.mono hb6 (by first | omega | (simp; done) | (simp; omega)))) | (refine Below.trans ?_ (Below.mono hb7 (by first | omega | (simp; done) | (simp; omega)))) | (refine Below.trans ?_ (Below.mono hb8 (by first | omega | (simp; done) | (simp; omega)))) | (refine Below.trans ?_ (Below.mono hb9 (by first | omega | (simp; done) | (simp; omega)))) | (refine Below.trans ?_ (Below.mono hb10 (by first | omega | (simp; done) | (simp; omega)))) | (refine Below.trans ?_ (Below.mono hb11 (by first | omega | (simp; done) | (simp; omega)))) | (refine Below.trans ?_ (Below.mono hb12 (by first | omega | (simp; done) | (simp; omega)))))))) _ (HA.out ▸ a0) (HA.out ▸ a1)).mono ?_
        rintro e w7 ⟨rfl, hb7⟩
        go_wp2
        go_ret
        exact ⟨by rw [EN.out, hs, hp, hu, ← HA.out]; rfl, by with_reducible (repeat (first | exact Below.refl _ _ | assumption | (refine Below.setCell ?_ (by first | omega | (simp; done) | (simp; omega)) _) | (refine Below.alloc ?_ (by first | omega | (simp; done) | (simp; omega)) _) | (refine below_drewN ?_ _) | (refine Below.drew ?_) | (refine Below.trans ?_ (Below.mono hb (by first | omega | (simp; done) | (simp; omega)))) | (refine Below.trans ?_ (Below.mono hb1 (by first | omega | (simp; done) | (simp; omega)))) | (refine Below.trans ?_ (Below.mono hb2 (by first | omega | (simp; done) | (simp; omega)))) | (refine Below.trans ?_ (Below.mono hb3 (by first | omega | (simp; done) | (simp; omega)))) | (refine Below.trans ?_ (Below.mono hb4 (by first | omega | (simp; done) | (simp; omega)))) | (refine Below.trans ?_ (Below.mono hb5 (by first | omega | (simp; done) | (simp; omega)))) | (refine Below.trans ?_ (Below.mono hb6 (by first | omega | (simp; done) | (simp; omega)))) | (refine Below.trans ?_ (Below.mono hb7 (by first | omega | (simp; done) | (simp; omega)))) | (refine Below.trans ?_ (Below.mono hb8 (by first | omega | (simp; done) | (simp; omega)))) | (refine Below.trans ?_ (Below.mono hb9 (by first | omega | (simp; done) | (simp; omega)))) | (refine Below.trans ?_ (Below.mono hb10 (by first | omega | (simp; done) | (simp; omega)))) | (refine Below.trans ?_ (Below.mono hb11 (by first | omega | (simp; done) | (simp; omega)))) | (refine Below.trans ?_ (Below.mono hb12 (by first | omega | (simp; done) | (simp; omega))))))⟩
end Go.Proofs.Ytbkddgeocmkegaa

namespace Go.Proofs.Ytbkddgeocmkegaa
open Go.RowKit Go.Shelf
set_option linter.unusedSimpArgs false
set_option linter.unusedVariables false
set_option maxHeartbeats 2000000
attribute [local go_sem ↓] run_start run_byte run_cols


set_option maxRecDepth 100000 in
theorem rBack_list {w : World} {b cap : Nat} {P : Pl} (h : RC w b P) (L : List Int) (HL : Hid (P.opl P.flds.length = L)) (hne : L.length - 1 < L.length) (hol : L.length ≤ P.flds.length) (f : Fld) (ok : Bool) (HF : Hid (P.ofF P.cursor = f)) (HO : Hid (P.ofB P.cursor = ok))
    (f0 : 0 ≤ f.start) (f1 : f.start < (P.cells.length : Int)) (S : Int)
    (SD : Hid (S = (bestDn L ((P.cursor + -2) % (P.cells.length : Int)) L[L.length - 1] L.length + 1) % (P.cells.length : Int))) (HR : Hid (0 ≤ bestDn L ((P.cursor + -2) % (P.cells.length : Int)) L[L.length - 1] L.length ∧ bestDn L ((P.cursor + -2) % (P.cells.length : Int)) L[L.length - 1] L.length < (P.cells.length : Int)))
    (BK : Hid (P.back = if ok && (decide (f.start ∈ L) && (P.cursor != f.start && P.cursor != (f.start + 1) % (P.cells.length : Int))) then (f.start + 1) % (P.cells.length : Int) else S)) :
    Calls Try.prog 37 #[.agg #[.int .i64 P.rows, .int .i64 P.cols, .slice (some ⟨b, 0, none⟩) P.cells.length cap, .int .i64 P.cursor]] w fun e w' => e = .returned (.int .i64 P.back) ∧ Below w.heap.size w w' := by
  have hn := Pl.N_pos h.ok
  have hm := Pl.N_le h.ok
  have hsn := starts_le_n P
  rw [← flds_len] at hsn
  have hk1 := h.ok.k1
  have hk2 := h.ok.k2
  rw [← h.ok.len] at hk2
  have hn' : (0 : Int) < (P.cells.length : Int) := by omega
  have hne1 : P.cells ≠ [] := fun e => by rw [e] at hn; exact absurd hn (Nat.lt_irrefl 0)
  have hLne : L ≠ [] := fun e => by rw [e] at hne; exact absurd hne (Nat.lt_irrefl 0)
  go_enter Try.func37, Try.ntmps37
  go_wp2_with fail
  refine (rOpens_any (h.below (by with_reducible (repeat (first | exact Below.refl _ _ | assumption | (refine Below.setCell ?_ (by first | omega | (simp; done) | (simp; omega)) _) | (refine Below.alloc ?_ (by first | omega | (simp; done) | (simp; omega)) _) | (refine below_drewN ?_ _) | (refine Below.drew ?_) | (refine Below.trans ?_ (Below.mono hb (by first | omega | (simp; done) | (simp; omega)))) | (refine Below.trans ?_ (Below.mono hb1 (by first | omega | (simp; done) | (simp; omega)))) | (refine Below.trans ?_ (Below.mono hb2 (by first | omega | (simp; done) | (simp; omega)))) | (refine Below.trans ?_ (Below.mono hb3 (by first | omega | (simp; done) | (simp; omega)))) | (refine Below.trans ?_ (Below.mono hb4 (by first | omega | (simp; done) | (simp; omega)))) | (refine Below.trans ?_ (Below.mono hb5 (by first | omega | (simp; done) | (simp; omega)))) | (refine Below.trans ?_ (Below.mono hb6 (by first | omega | (simp; done) | (simp; omega)))) | (refine Below.trans ?_ (Below.mono hb7 (by first | omega | (simp; done) | (simp; omega)))) | (refine Below.trans ?_ (Below.mono hb8 (by first | omega | (simp; done) | (simp; omega)))) | (refine Below.trans ?_ (Below.mono hb9 (by first | omega | (simp; done) | (simp; omega)))) | (refine Below.trans ?_ (Below.mono hb10 (by first | omega | (simp; done) | (simp; omega)))) | (refine Below.trans ?_ (Below.mono hb11 (by first | omega | (simp; done) | (simp; omega)))) | (refine Below.trans ?_ (Below.mono hb12 (by first | omega | (simp; done) | (simp; omega))))))))).mono ?_
  rintro e w3 ⟨gl, cl, rl, rfl, hl, hge, hb3⟩
  rw [HL.out] at hl ⊢
  have hB3 : Below w.heap.size w w3 := by with_reducible (repeat (first | exact Below.refl _ _ | assumption | (refine Below.setCell ?_ (by first | omega | (simp; done) | (simp; omega)) _) | (refine Below.alloc ?_ (by first | omega | (simp; done) | (simp; omega)) _) | (refine below_drewN ?_ _) | (refine Below.drew ?_) | (refine Below.trans ?_ (Below.mono hb (by first | omega | (simp; done) | (simp; omega)))) | (refine Below.trans ?_ (Below.mono hb1 (by first | omega | (simp; done) | (simp; omega)))) | (refine Below.trans ?_ (Below.mono hb2 (by first | omega | (simp; done) | (simp; omega)))) | (refine Below.trans ?_ (Below.mono hb3 (by first | omega | (simp; done) | (simp; omega)))) | (refine Below.trans ?_ (Below.mono hb4 (by first | omega | (simp; done) | (simp; omega)))) | (refine Below.trans ?_ (Below.mono hb5 (by first | omega | (simp; done) | (simp; omega)))) | (refine Below.trans ?_ (Below.mono hb6 (by first | omega | (simp; done) | (simp; omega)))) | (refine Below.trans ?_ (Below.mono hb7 (by first | omega | (simp; done) | (simp; omega)))) | (refine Below.trans ?_ (Below.mono hb8 (by first | omega | (simp; done) | (simp; omega)))) | (refine Below.trans ?_ (Below.mono hb9 (by first | omega | (simp; done) | (simp; omega)))) | (refine Below.trans ?_ (Below.mono hb10 (by first | omega | (simp; done) | (simp; omega)))) | (refine Below.trans ?_ (Below.mono hb11 (by first | omega | (simp; done) | (simp; omega)))) | (refine Below.trans ?_ (Below.mono hb12 (by first | omega | (simp; done) | (simp; omega))))))
  have hz3 := hb3.size
  obtain ⟨x0, x1, x2, x3⟩ := box4k hb3
  simp only [World.size_alloc] at hge hz3
  clear hb3
  go_wp2_with fail
  refine (rOf_any (h.below (by with_reducible (repeat (first | exact Below.refl _ _ | assumption | (refine Below.setCell ?_ (by first | omega | (simp; done) | (simp; omega)) _) | (refine Below.alloc ?_ (by first | omega | (simp; done) | (simp; omega)) _) | (refine below_drewN ?_ _) | (refine Below.drew ?_) | (refine Below.trans ?_ (Below.mono hb (by first | omega | (simp; done) | (simp; omega)))) | (refine Below.trans ?_ (Below.mono hb1 (by first | omega | (simp; done) | (simp; omega)))) | (refine Below.trans ?_ (Below.mono hb2 (by first | omega | (simp; done) | (simp; omega)))) | (refine Below.trans ?_ (Below.mono hb3 (by first | omega | (simp; done) | (simp; omega)))) | (refine Below.trans ?_ (Below.mono hb4 (by first | omega | (simp; done) | (simp; omega)))) | (refine Below.trans ?_ (Below.mono hb5 (by first | omega | (simp; done) | (simp; omega)))) | (refine Below.trans ?_ (Below.mono hb6 (by first | omega | (simp; done) | (simp; omega)))) | (refine Below.trans ?_ (Below.mono hb7 (by first | omega | (simp; done) | (simp; omega)))) | (refine Below.trans ?_ (Below.mono hb8 (by first | omega | (simp; done) | (simp; omega)))) | (refine Below.trans ?_ (Below.mono hb9 (by first | omega | (simp; done) | (simp; omega)))) | (refine Below.trans ?_ (Below.mono hb10 (by first | omega | (simp; done) | (simp; omega)))) | (refine Below.trans ?_ (Below.mono hb11 (by first | omega | (simp; done) | (simp; omega)))) | (refine Below.trans ?_ (Below.mono hb12 (by first | omega | (simp; done) | (simp; omega)))))))) _).mono ?_
  rintro e w4 ⟨rfl, hb4⟩
  rw [HF.out, HO.out]
  replace x0 := cell_keep x0 hb4
  replace x1 := cell_keep x1 hb4
  replace x3 := cell_keep x3 hb4
  replace x2 := cell_keep x2 hb4
  replace hl := (hb4.block gl (lt_of_block hl)).trans hl
  have hB4 : Below w.heap.size w w4 := by with_reducible (repeat (first | exact Below.refl _ _ | assumption | (refine Below.setCell ?_ (by first | omega | (simp; done) | (simp; omega)) _) | (refine Below.alloc ?_ (by first | omega | (simp; done) | (simp; omega)) _) | (refine below_drewN ?_ _) | (refine Below.drew ?_) | (refine Below.trans ?_ (Below.mono hb (by first | omega | (simp; done) | (simp; omega)))) | (refine Below.trans ?_ (Below.mono hb1 (by first | omega | (simp; done) | (simp; omega)))) | (refine Below.trans ?_ (Below.mono hb2 (by first | omega | (simp; done) | (simp; omega)))) | (refine Below.trans ?_ (Below.mono hb3 (by first | omega | (simp; done) | (simp; omega)))) | (refine Below.trans ?_ (Below.mono hb4 (by first | omega | (simp; done) | (simp; omega)))) | (refine Below.trans ?_ (Below.mono hb5 (by first | omega | (simp; done) | (simp; omega)))) | (refine Below.trans ?_ (Below.mono hb6 (by first | omega | (simp; done) | (simp; omega)))) | (refine Below.trans ?_ (Below.mono hb7 (by first | omega | (simp; done) | (simp; omega)))) | (refine Below.trans ?_ (Below.mono hb8 (by first | omega | (simp; done) | (simp; omega)))) | (refine Below.trans ?_ (Below.mono hb9 (by first | omega | (simp; done) | (simp; omega)))) | (refine Below.trans ?_ (Below.mono hb10 (by first | omega | (simp; done) | (simp; omega)))) | (refine Below.trans ?_ (Below.mono hb11 (by first | omega | (simp; done) | (simp; omega)))) | (refine Below.trans ?_ (Below.mono hb12 (by first | omega | (simp; done) | (simp; omega))))))
  have hz4 := hB4.size
  have hz4' := hb4.size
  clear hb4
  obtain ⟨W, hW⟩ : ∃ W, w4.alloc (.cells #[.int .i64 f.start, .int .i64 f.len, .int .u8 f.attr] 153) = W := ⟨_, rfl⟩
  have hBa : Below w4.heap.size w4 W := by rw [← hW]; exact (Below.refl _ _).alloc (Nat.le_refl _) _
  have hBW : Below w.heap.size w W := hB4.trans (hBa.mono hz4)
  have hzW : W.heap.size = w4.heap.size + 1 := by rw [← hW]; simp
  replace x0 := cell_keep x0 hBa
  replace x1 := cell_keep x1 hBa
  replace x3 := cell_keep x3 hBa
  replace x2 := cell_keep x2 hBa
  replace hl := (hBa.block gl (lt_of_block hl)).trans hl
  have y0 : W.cell? ⟨w4.heap.size, 0, none⟩ = some (.int .i64 f.start) := by rw [← hW]; simp [go_sem]
  have HX := Lib.hid (And.intro (And.intro x0 (And.intro x1 (And.intro x2 x3))) hl)
  have HY := Lib.hid y0
  have HW := Lib.hid hW
  clear x0 x1 x2 x3 hl y0 hBa hW
  cases ok
  · have NF : Hid (P.back = S) := Lib.hid (by rw [BK.out]; rfl)
    go_wp2
    simp only [HW.out]
    go_loopw [7] (fun i wr => i = .int .i64 0 ∧ Below W.heap.size W wr) (fun i _ => 0)
    case atStart => exact ⟨rfl, Below.refl _ _⟩
    case round =>
      obtain ⟨rfl, hB5⟩ := hrel
      have hpos0 : (0 : Int) < (L.length : Int) := by omega
      have hz5 := hB5.size
      obtain ⟨⟨x0, x1, x2, x3⟩, hlW⟩ := HX.out
      replace x0 := cell_keep x0 hB5
      replace x1 := cell_keep x1 hB5
      replace x3 := cell_keep x3 hB5
      replace x2 := cell_keep x2 hB5
      have hl5 := (hB5.block gl (lt_of_block hlW)).trans hlW
      have hBw5 : Below w.heap.size w _ := hBW.trans (hB5.mono (by omega))
      have hz5' := hBw5.size
      go_wp2_with fail
      refine (rMove_P h.ok _ _ _).mono ?_
      rintro e w6 ⟨rfl, hb6⟩
      have hl6 := (hb6.block gl (lt_of_block hl5)).trans hl5
      have hBw6 : Below w.heap.size w w6 := hBw5.trans (hb6.mono hz5')
      have hz6 := hBw6.size
      have hl0 := ints_get hl6 (L.length - 1) hne
      have hpos : (0 : Int) ≤ (L.length : Int) - 1 := by omega
      have hlt1 : (L.length : Int) - 1 < (L.length : Int) := by omega
      have htn : ((L.length : Int) - 1).toNat = L.length - 1 := by omega
      clear hb6 x0 x1 x2 x3 hl5
      go_wp2
      go_loopw [9, 10] (fun v i wr => ∃ k : Nat, k ≤ L.length ∧ i = .int .i64 (k : Int) ∧ v = .int .i64 (bestDn L ((P.cursor + -2) % (P.cells.length : Int)) L[L.length - 1] k) ∧ Below w6.heap.size w6 wr) (fun _ i _ => L.length - (intOf i).toNat)
      case atStart => exact ⟨0, Nat.zero_le _, rfl, by rw [bestDn_zero], Below.refl _ _⟩
      case round =>
        obtain ⟨k, hk, rfl, rfl, hB⟩ := hrel
        have hzB := hB.size
        by_cases hlt : k < L.length
        · have c := ints_get ((hB.block gl (lt_of_block hl6)).trans hl6) k hlt
          have hs := bestDn_step L ((P.cursor + -2) % (P.cells.length : Int)) L[L.length - 1] k hlt
          obtain ⟨x, hx⟩ : ∃ x, L[k] = x := ⟨_, rfl⟩
          rw [hx] at c hs
          have HSS := Lib.hid hs
          clear hs hx
          by_cases hax : x ≤ ((P.cursor + -2) % (P.cells.length : Int))
          · go_wp2
            go_roundw
            case rel => exact ⟨k + 1, by omega, by go_num, by rw [HSS.out, if_pos hax], hB⟩
            case measure => simp [intOf]; omega
          · go_wp2
            go_roundw
            case rel => exact ⟨k + 1, by omega, by go_num, by rw [HSS.out, if_neg hax], hB⟩
            case measure => simp [intOf]; omega
        · have e : k = L.length := by omega
          subst e
          obtain ⟨r0, r1⟩ := HR.out
          go_wp2
          go_ret
          exact ⟨by rw [NF.out, SD.out]; rfl, hBw6.trans (hB.mono hz6)⟩
  · go_wp2
    simp only [HW.out]
    go_loopw [7] (fun i wr => ∃ k : Nat, k ≤ L.length ∧ i = .int .i64 (k : Int) ∧ Below W.heap.size W wr ∧ ∀ (j : Nat) (hj : j < L.length), j < k → ¬ (L[j] = f.start ∧ (P.cursor != f.start && P.cursor != (f.start + 1) % (P.cells.length : Int)) = true)) (fun i _ => L.length - (intOf i).toNat)
    case atStart => exact ⟨0, Nat.zero_le _, rfl, Below.refl _ _, fun j _ hj => absurd hj (Nat.not_lt_zero _)⟩
    case round =>
      obtain ⟨k, hk, rfl, hB5, hf⟩ := hrel
      have HFF := Lib.hid hf
      clear hf
      by_cases hlt : k < L.length
      · have hlt' : (k : Int) < (L.length : Int) := by omega
        have hz5 := hB5.size
        obtain ⟨⟨x0, x1, x2, x3⟩, hlW⟩ := HX.out
        replace x3 := cell_keep x3 hB5
        have y0 := cell_keep HY.out hB5
        have c := ints_get ((hB5.block gl (lt_of_block hlW)).trans hlW) k hlt
        obtain ⟨x, hx⟩ : ∃ x, L[k] = x := ⟨_, rfl⟩
        rw [hx] at c
        have HXX := Lib.hid hx
        clear hx x0 x1 x2
        have e1 : IntKind.i64.wrap (f.start + 1) = f.start + 1 := IntWalk.i64_in _ (by omega)
        have hf1' : 0 ≤ f.start + 1 := by omega
        have hBr : Below w.heap.size w wr := hBW.trans (hB5.mono (by omega))
        cases d1 : (x == f.start)
        · go_wp2
          go_quiet (fail)
          clear e1
          go_wp2
          go_roundw
          case rel => exact ⟨k + 1, by omega, by go_num, below_drewN hB5 _, fun j hj hjk => by
            rcases Nat.lt_succ_iff_lt_or_eq.1 hjk with hjk | rfl
            · exact HFF.out j hj hjk
            · rintro ⟨e, _⟩; rw [HXX.out] at e; rw [e] at d1; simp at d1⟩
          case measure => simp [intOf]; omega
        · cases d2 : (P.cursor != f.start)
          · go_wp2
            go_quiet (fail)
            clear e1
            go_wp2
            go_roundw
            case rel => exact ⟨k + 1, by omega, by go_num, below_drewN hB5 _, fun j hj hjk => by
              rcases Nat.lt_succ_iff_lt_or_eq.1 hjk with hjk | rfl
              · have := HFF.out j hj hjk; rw [d2] at this; exact this
              · rintro ⟨_, e⟩; simp at e⟩
            case measure => simp [intOf]; omega
          · cases d3 : (P.cursor != (f.start + 1) % (P.cells.length : Int))
            · go_wp2
              go_quiet (fail)
              clear e1
              go_wp2
              go_roundw
              case rel => exact ⟨k + 1, by omega, by go_num, below_drewN hB5 _, fun j hj hjk => by
                rcases Nat.lt_succ_iff_lt_or_eq.1 hjk with hjk | rfl
                · have := HFF.out j hj hjk; rw [d2, d3] at this; exact this
                · rintro ⟨_, e⟩; simp at e⟩
              case measure => simp [intOf]; omega
            · have HB : Hid (P.back = (f.start + 1) % (P.cells.length : Int)) := Lib.hid (by
                rw [BK.out, d2, d3, decide_eq_true (show f.start ∈ L by
                  have : x = f.start := by simpa using d1
                  rw [← this, ← HXX.out]; exact List.getElem_mem hlt)]
                rfl)
              go_wp2
              go_quiet (fail)
              clear e1
              go_wp2
              go_ret
              exact ⟨by rw [HB.out]; rfl, below_drewN hBr _⟩
      · have hnm : ¬ (f.start ∈ L ∧ (P.cursor != f.start && P.cursor != (f.start + 1) % (P.cells.length : Int)) = true) := by
          rintro ⟨hm1, hm2⟩
          obtain ⟨j, hj, e⟩ := List.getElem_of_mem hm1
          exact HFF.out j hj (by omega) ⟨e, hm2⟩
        have NF : Hid (P.back = S) := Lib.hid (by
          rw [BK.out, if_neg]
          intro hh
          simp only [Bool.true_and, Bool.and_eq_true, decide_eq_true_eq] at hh
          exact hnm ⟨hh.1, by simpa using hh.2⟩)
        clear hnm
        have hz5 := hB5.size
        obtain ⟨⟨x0, x1, x2, x3⟩, hlW⟩ := HX.out
        replace x0 := cell_keep x0 hB5
        replace x1 := cell_keep x1 hB5
        replace x3 := cell_keep x3 hB5
        replace x2 := cell_keep x2 hB5
        have hl5 := (hB5.block gl (lt_of_block hlW)).trans hlW
        have hBw5 : Below w.heap.size w _ := hBW.trans (hB5.mono (by omega))
        have hz5' := hBw5.size
        go_wp2_with fail
        refine (rMove_P h.ok _ _ _).mono ?_
        rintro e w6 ⟨rfl, hb6⟩
        have hl6 := (hb6.block gl (lt_of_block hl5)).trans hl5
        have hBw6 : Below w.heap.size w w6 := hBw5.trans (hb6.mono hz5')
        have hz6 := hBw6.size
        have hl0 := ints_get hl6 (L.length - 1) hne
        have hpos : (0 : Int) ≤ (L.length : Int) - 1 := by omega
        have hlt1 : (L.length : Int) - 1 < (L.length : Int) := by omega
        have htn : ((L.length : Int) - 1).toNat = L.length - 1 := by omega
        clear hb6 x0 x1 x2 x3 hl5
        go_wp2
        go_loopw [9, 10] (fun v i wr => ∃ k : Nat, k ≤ L.length ∧ i = .int .i64 (k : Int) ∧ v = .int .i64 (bestDn L ((P.cursor + -2) % (P.cells.length : Int)) L[L.length - 1] k) ∧ Below w6.heap.size w6 wr) (fun _ i _ => L.length - (intOf i).toNat)
        case atStart => exact ⟨0, Nat.zero_le _, rfl, by rw [bestDn_zero], Below.refl _ _⟩
        case round =>
          obtain ⟨k, hk, rfl, rfl, hB⟩ := hrel
          have hzB := hB.size
          by_cases hlt : k < L.length
          · have c := ints_get ((hB.block gl (lt_of_block hl6)).trans hl6) k hlt
            have hs := bestDn_step L ((P.cursor + -2) % (P.cells.length : Int)) L[L.length - 1] k hlt
            obtain ⟨x, hx⟩ : ∃ x, L[k] = x := ⟨_, rfl⟩
            rw [hx] at c hs
            have HSS := Lib.hid hs
            clear hs hx
            by_cases hax : x ≤ ((P.cursor + -2) % (P.cells.length : Int))
            · go_wp2
              go_roundw
              case rel => exact ⟨k + 1, by omega, by go_num, by rw [HSS.out, if_pos hax], hB⟩
              case measure => simp [intOf]; omega
            · go_wp2
              go_roundw
              case rel => exact ⟨k + 1, by omega, by go_num, by rw [HSS.out, if_neg hax], hB⟩
              case measure => simp [intOf]; omega
          · have e : k = L.length := by omega
            subst e
            obtain ⟨r0, r1⟩ := HR.out
            go_wp2
            go_ret
            exact ⟨by rw [NF.out, SD.out]; rfl, hBw6.trans (hB.mono hz6)⟩

theorem bestDn_range {P : Pl} (hok : P.ok) {a : Int} (hne : (P.opl P.flds.length).length - 1 < (P.opl P.flds.length).length) (i : Nat) : 0 ≤ bestDn (P.opl P.flds.length) a (P.opl P.flds.length)[(P.opl P.flds.length).length - 1] i ∧ bestDn (P.opl P.flds.length) a (P.opl P.flds.length)[(P.opl P.flds.length).length - 1] i < (P.cells.length : Int) := by
  unfold bestDn
  cases hf : ((P.opl P.flds.length).take i).reverse.find? (fun x => decide (x ≤ a)) with
  | none => exact opl_range hok _ (List.getElem_mem hne)
  | some x => exact opl_range hok x (List.mem_of_mem_take (List.mem_reverse.1 (List.mem_of_find?_eq_some hf)))
theorem ofF_range {P : Pl} (hok : P.ok) (i : Int) : 0 ≤ (P.ofF i).start ∧ (P.ofF i).start < (P.cells.length : Int) := by
  have hn := Pl.N_pos hok
  have hr := Pl.look_range hok i (-1)
  unfold Pl.ofF
  split
  · rename_i h0; exact ⟨h0, hr.2⟩
  · exact ⟨Int.le_refl _, by show (0 : Int) < _; omega⟩

theorem rBack_any {w : World} {b cap : Nat} {P : Pl} (h : RC w b P) :
    Calls Try.prog 37 #[.agg #[.int .i64 P.rows, .int .i64 P.cols, .slice (some ⟨b, 0, none⟩) P.cells.length cap, .int .i64 P.cursor]] w fun e w' => e = .returned (.int .i64 P.back) ∧ Below w.heap.size w w' := by
  obtain ⟨f0, f1⟩ := ofF_range h.ok P.cursor
  have hd : ∀ x, P.opens x = decide (x ∈ P.opl P.flds.length) := fun x => by
    cases e : P.opens x
    · exact (decide_eq_false (fun hm => by rw [(opens_iff h.ok x).2 hm] at e; cases e)).symm
    · exact (decide_eq_true ((opens_iff h.ok x).1 e)).symm
  by_cases hne : (P.opl P.flds.length).length - 1 < (P.opl P.flds.length).length
  · exact rBack_list h _ (Lib.hid rfl) hne (P.opl_len _) _ _ (Lib.hid rfl) (Lib.hid rfl) f0 f1 _ (Lib.hid rfl) (Lib.hid (bestDn_range h.ok hne _)) (Lib.hid (by
      unfold Pl.back
      simp only [hd]
      rw [opl_seek_dn h.ok (Pl.emod_range h.ok _).1 (Pl.emod_range h.ok _).2 hne]))
  · have hz : (P.opl P.flds.length).length = 0 := by omega
    have HZ := Lib.hid hz
    have E : Hid (P.back = 0) := Lib.hid (by
      unfold Pl.back
      simp only [hd]
      rw [opl_seek_none h.ok _ _ hz, List.eq_nil_of_length_eq_zero hz]
      simp)
    clear hz
    go_enter Try.func37, Try.ntmps37
    go_wp2_with fail
    refine (rOpens_any (h.below (by with_reducible (repeat (first | exact Below.refl _ _ | assumption | (refine Below.setCell ?_ (by first | omega | (simp; done) | (simp; omega)) _) | (refine Below.alloc ?_ (by first | omega | (simp; done) | (simp; omega)) _) | (refine below_drewN ?_ _) | (refine Below.drew ?_) | (refine Below.trans ?_ (Below.mono hb (by first | omega | (simp; done) | (simp; omega)))) | (refine Below.trans ?_ (Below.mono hb1 (by first | omega | (simp; done) | (simp; omega)))) | (refine Below.trans ?_ (Below.mono hb2 (by first | omega | (simp; done) | (simp; omega)))) | (refine Below.trans ?_ (Below.mono hb3 (by first | omega | (simp; done) | (simp; omega)))) | (refine Below.trans ?_ (Below.mono hb4 (by first | omega | (simp; done) | (simp; omega)))) | (refine Below.trans ?_ (Below.mono hb5 (by first | omega | (simp; done) | (simp; omega)))) | (refine Below.trans ?_ (Below.mono hb6 (by first | omega | (simp; done) | (simp; omega)))) | (refine Below.trans ?_ (Below.mono hb7 (by first | omega | (simp; done) | (simp; omega)))) | (refine Below.trans ?_ (Below.mono hb8 (by first | omega | (simp; done) | (simp; omega)))) | (refine Below.trans ?_ (Below.mono hb9 (by first | omega | (simp; done) | (simp; omega)))) | (refine Below.trans ?_ (Below.mono hb10 (by first | omega | (simp; done) | (simp; omega)))) | (refine Below.trans ?_ (Below.mono hb11 (by first | omega | (simp; done) | (simp; omega)))) | (refine Below.trans ?_ (Below.mono hb12 (by first | omega | (simp; done) | (simp; omega))))))))).mono ?_
    rintro e w3 ⟨gl, cl, rl, rfl, hl, hge, hb3⟩
    rw [HZ.out]
    clear hl
    obtain ⟨x0, x1, x2, x3⟩ := box4k hb3
    go_wp2
    go_ret
    exact ⟨by rw [E.out]; rfl, by with_reducible (repeat (first | exact Below.refl _ _ | assumption | (refine Below.setCell ?_ (by first | omega | (simp; done) | (simp; omega)) _) | (refine Below.alloc ?_ (by first | omega | (simp; done) | (simp; omega)) _) | (refine below_drewN ?_ _) | (refine Below.drew ?_) | (refine Below.trans ?_ (Below.mono hb (by first | omega | (simp; done) | (simp; omega)))) | (refine Below.trans ?_ (Below.mono hb1 (by first | omega | (simp; done) | (simp; omega)))) | (refine Below.trans ?_ (Below.mono hb2 (by first | omega | (simp; done) | (simp; omega)))) | (refine Below.trans ?_ (Below.mono hb3 (by first | omega | (simp; done) | (simp; omega)))) | (refine Below.trans ?_ (Below.mono hb4 (by first | omega | (simp; done) | (simp; omega)))) | (refine Below.trans ?_ (Below.mono hb5 (by first | omega | (simp; done) | (simp; omega)))) | (refine Below.trans ?_ (Below.mono hb6 (by first | omega | (simp; done) | (simp; omega)))) | (refine Below.trans ?_ (Below.mono hb7 (by first | omega | (simp; done) | (simp; omega)))) | (refine Below.trans ?_ (Below.mono hb8 (by first | omega | (simp; done) | (simp; omega)))) | (refine Below.trans ?_ (Below.mono hb9 (by first | omega | (simp; done) | (simp; omega)))) | (refine Below.trans ?_ (Below.mono hb10 (by first | omega | (simp; done) | (simp; omega)))) | (refine Below.trans ?_ (Below.mono hb11 (by first | omega | (simp; done) | (simp; omega)))) | (refine Below.trans ?_ (Below.mono hb12 (by first | omega | (simp; done) | (simp; omega))))))⟩
end Go.Proofs.Ytbkddgeocmkegaa

namespace Go.Proofs.Ytbkddgeocmkegaa
open Go.RowKit Go.Shelf
set_option linter.unusedSimpArgs false
set_option linter.unusedVariables false
set_option maxHeartbeats 2000000
attribute [local go_sem ↓] run_start run_byte run_cols

theorem rNew_bad {w : World} (r c : Int) (h : goodSize r c = false) :
    Calls Try.prog 93 #[.agg #[.int .i64 r, .int .i64 c]] w fun e w' => e = .returned (.tuple #[.agg #[.int .i64 0, .int .i64 0, .slice none 0 0, .int .i64 0], .int .i64 1]) ∧ Below w.heap.size w w' := by
  go_enter Try.func93, Try.ntmps93
  go_wp2_with fail
  refine (rCells_bad r c _ h).mono ?_
  rintro e w1 ⟨rfl, hb1⟩
  have hB1 : Below w.heap.size w w1 := by with_reducible (repeat (first | exact Below.refl _ _ | assumption | (refine Below.setCell ?_ (by first | omega | (simp; done) | (simp; omega)) _) | (refine Below.alloc ?_ (by first | omega | (simp; done) | (simp; omega)) _) | (refine below_drewN ?_ _) | (refine Below.drew ?_) | (refine Below.trans ?_ (Below.mono hb (by first | omega | (simp; done) | (simp; omega)))) | (refine Below.trans ?_ (Below.mono hb1 (by first | omega | (simp; done) | (simp; omega)))) | (refine Below.trans ?_ (Below.mono hb2 (by first | omega | (simp; done) | (simp; omega)))) | (refine Below.trans ?_ (Below.mono hb3 (by first | omega | (simp; done) | (simp; omega)))) | (refine Below.trans ?_ (Below.mono hb4 (by first | omega | (simp; done) | (simp; omega)))) | (refine Below.trans ?_ (Below.mono hb5 (by first | omega | (simp; done) | (simp; omega)))) | (refine Below.trans ?_ (Below.mono hb6 (by first | omega | (simp; done) | (simp; omega)))) | (refine Below.trans ?_ (Below.mono hb7 (by first | omega | (simp; done) | (simp; omega)))) | (refine Below.trans ?_ (Below.mono hb8 (by first | omega | (simp; done) | (simp; omega)))) | (refine Below.trans ?_ (Below.mono hb9 (by first | omega | (simp; done) | (simp; omega)))) | (refine Below.trans ?_ (Below.mono hb10 (by first | omega | (simp; done) | (simp; omega)))) | (refine Below.trans ?_ (Below.mono hb11 (by first | omega | (simp; done) | (simp; omega)))) | (refine Below.trans ?_ (Below.mono hb12 (by first | omega | (simp; done) | (simp; omega))))))
  have hz1 := hb1.size
  simp only [World.size_alloc] at hz1
  have x0 : w1.cell? ⟨w.heap.size + 1, 0, none⟩ = some (.int .i64 0) := (hb1.cell (by simp)).trans (by simp [go_sem])
  have x1 : w1.cell? ⟨w.heap.size + 1, 1, none⟩ = some (.int .i64 0) := (hb1.cell (by simp)).trans (by simp [go_sem])
  have x2 : w1.cell? ⟨w.heap.size + 1, 2, none⟩ = some (.slice none 0 0) := (hb1.cell (by simp)).trans (by simp [go_sem])
  have x3 : w1.cell? ⟨w.heap.size + 1, 3, none⟩ = some (.int .i64 0) := (hb1.cell (by simp)).trans (by simp [go_sem])
  have z0 : ∀ o, w1.frozen? ⟨w.heap.size + 1, o, none⟩ = false := fun o => (hb1.frozen (by simp)).trans (by simp [go_sem])
  clear hb1
  go_wp2
  exact bodyPost_ret (v := .tuple #[.agg #[.int .i64 0, .int .i64 0, .slice none 0 0, .int .i64 0], .int .i64 1]) (by simp [results, Try.results93, go_sem, x0, x1, x2, x3]) rfl ⟨rfl, by with_reducible (repeat (first | exact Below.refl _ _ | assumption | (refine Below.setCell ?_ (by first | omega | (simp; done) | (simp; omega)) _) | (refine Below.alloc ?_ (by first | omega | (simp; done) | (simp; omega)) _) | (refine below_drewN ?_ _) | (refine Below.drew ?_) | (refine Below.trans ?_ (Below.mono hb (by first | omega | (simp; done) | (simp; omega)))) | (refine Below.trans ?_ (Below.mono hb1 (by first | omega | (simp; done) | (simp; omega)))) | (refine Below.trans ?_ (Below.mono hb2 (by first | omega | (simp; done) | (simp; omega)))) | (refine Below.trans ?_ (Below.mono hb3 (by first | omega | (simp; done) | (simp; omega)))) | (refine Below.trans ?_ (Below.mono hb4 (by first | omega | (simp; done) | (simp; omega)))) | (refine Below.trans ?_ (Below.mono hb5 (by first | omega | (simp; done) | (simp; omega)))) | (refine Below.trans ?_ (Below.mono hb6 (by first | omega | (simp; done) | (simp; omega)))) | (refine Below.trans ?_ (Below.mono hb7 (by first | omega | (simp; done) | (simp; omega)))) | (refine Below.trans ?_ (Below.mono hb8 (by first | omega | (simp; done) | (simp; omega)))) | (refine Below.trans ?_ (Below.mono hb9 (by first | omega | (simp; done) | (simp; omega)))) | (refine Below.trans ?_ (Below.mono hb10 (by first | omega | (simp; done) | (simp; omega)))) | (refine Below.trans ?_ (Below.mono hb11 (by first | omega | (simp; done) | (simp; omega)))) | (refine Below.trans ?_ (Below.mono hb12 (by first | omega | (simp; done) | (simp; omega))))))⟩

theorem heap_new' (X : World) (o : Obj) (B : Nat) (h : X.heap.size = B) : (X.alloc o).drew.heap[B]? = some o := by
  subst h
  exact World.alloc_heap_new X o
def RNewPost (r c : Int) (w : World) (e : Ending) (w' : World) : Prop :=
  ∃ b cap : Nat, e = .returned (.tuple #[.agg #[.int .i64 (Pl.new r c).rows, .int .i64 (Pl.new r c).cols, .slice (some ⟨b, 0, none⟩) (Pl.new r c).cells.length cap, .int .i64 (Pl.new r c).cursor], .int .i64 0]) ∧ RC w' b (Pl.new r c) ∧ w.heap.size ≤ b ∧ Below w.heap.size w w'
theorem goodSize_out {r c : Int} (h : goodSize r c = true) : 1 ≤ r ∧ r ≤ 43 ∧ 1 ≤ c ∧ c ≤ 132 ∧ r * c ≤ 4096 := of_decide_eq_true h
theorem new_len (r c : Int) : (Pl.new r c).cells.length = (r * c).toNat := by simp [Pl.new]
theorem rNew_in {w : World} (r c : Int) (h : goodSize r c = true) :
    Calls Try.prog 93 #[.agg #[.int .i64 r, .int .i64 c]] w (RNewPost r c w) := by
  obtain ⟨h1, h2, h3, h4, h5⟩ := goodSize_out h
  have h0 : 0 < r * c := Int.mul_pos (by omega) (by omega)
  obtain ⟨i0, hi, hz0, hz1, hz2⟩ := info_parts info_cell
  have hmk : ∀ W : World, (Instr.makeSlice 75 (.int .i64 (r * c)) (.int .i64 (r * c))).run Try.prog W = .ok (.slice (some ⟨W.heap.size, 0, none⟩) (r * c).toNat (r * c).toNat) (W.alloc (.cells (flat (List.replicate (r * c).toNat Cell.zero)).toArray 96)) := by
    intro W
    have := run_make (P := Try.prog) W 75 96 i0 _ Try.underlying75 hi hz0 .i64 .i64 (r * c) (r * c) (by omega) (Int.le_refl _) (by rw [hz2]; omega) (by omega)
    rw [this, hz1, made_flat]
  clear hi hz0 hz1 hz2
  go_enter Try.func93, Try.ntmps93
  go_wp2_with fail
  refine (rCells_in r c _ h).mono ?_
  rintro e w1 ⟨rfl, hb1⟩
  have hB1 : Below w.heap.size w w1 := by with_reducible (repeat (first | exact Below.refl _ _ | assumption | (refine Below.setCell ?_ (by first | omega | (simp; done) | (simp; omega)) _) | (refine Below.alloc ?_ (by first | omega | (simp; done) | (simp; omega)) _) | (refine below_drewN ?_ _) | (refine Below.drew ?_) | (refine Below.trans ?_ (Below.mono hb (by first | omega | (simp; done) | (simp; omega)))) | (refine Below.trans ?_ (Below.mono hb1 (by first | omega | (simp; done) | (simp; omega)))) | (refine Below.trans ?_ (Below.mono hb2 (by first | omega | (simp; done) | (simp; omega)))) | (refine Below.trans ?_ (Below.mono hb3 (by first | omega | (simp; done) | (simp; omega)))) | (refine Below.trans ?_ (Below.mono hb4 (by first | omega | (simp; done) | (simp; omega)))) | (refine Below.trans ?_ (Below.mono hb5 (by first | omega | (simp; done) | (simp; omega)))) | (refine Below.trans ?_ (Below.mono hb6 (by first | omega | (simp; done) | (simp; omega)))) | (refine Below.trans ?_ (Below.mono hb7 (by first | omega | (simp; done) | (simp; omega)))) | (refine Below.trans ?_ (Below.mono hb8 (by first | omega | (simp; done) | (simp; omega)))) | (refine Below.trans ?_ (Below.mono hb9 (by first | omega | (simp; done) | (simp; omega)))) | (refine Below.trans ?_ (Below.mono hb10 (by first | omega | (simp; done) | (simp; omega)))) | (refine Below.trans ?_ (Below.mono hb11 (by first | omega | (simp; done) | (simp; omega)))) | (refine Below.trans ?_ (Below.mono hb12 (by first | omega | (simp; done) | (simp; omega))))))
  have hz1 := hb1.size
  simp only [World.size_alloc] at hz1
  have s0 : w1.cell? ⟨w.heap.size, 0, none⟩ = some (.int .i64 r) := (hb1.cell (by simp; omega)).trans (by simp [go_sem])
  have s1 : w1.cell? ⟨w.heap.size, 1, none⟩ = some (.int .i64 c) := (hb1.cell (by simp; omega)).trans (by simp [go_sem])
  have x0 : w1.cell? ⟨w.heap.size + 1, 0, none⟩ = some (.int .i64 0) := (hb1.cell (by simp)).trans (by simp [go_sem])
  have x1 : w1.cell? ⟨w.heap.size + 1, 1, none⟩ = some (.int .i64 0) := (hb1.cell (by simp)).trans (by simp [go_sem])
  have x2 : w1.cell? ⟨w.heap.size + 1, 2, none⟩ = some (.slice none 0 0) := (hb1.cell (by simp)).trans (by simp [go_sem])
  have x3 : w1.cell? ⟨w.heap.size + 1, 3, none⟩ = some (.int .i64 0) := (hb1.cell (by simp)).trans (by simp [go_sem])
  have z0 : w1.frozen? ⟨w.heap.size + 1, 0, none⟩ = false := (hb1.frozen (by simp)).trans (by simp [go_sem])
  have z1 : w1.frozen? ⟨w.heap.size + 1, 1, none⟩ = false := (hb1.frozen (by simp)).trans (by simp [go_sem])
  have z2 : w1.frozen? ⟨w.heap.size + 1, 2, none⟩ = false := (hb1.frozen (by simp)).trans (by simp [go_sem])
  have z3 : w1.frozen? ⟨w.heap.size + 1, 3, none⟩ = false := (hb1.frozen (by simp)).trans (by simp [go_sem])
  clear hb1
  have hlt : w.heap.size < w1.heap.size := by omega
  have hlt1 : w.heap.size + 1 < w1.heap.size := by omega
  go_wp2
  go_region
  go_wp2
  exact bodyPost_ret (v := .tuple #[.agg #[.int .i64 r, .int .i64 c, .slice (some ⟨w1.heap.size, 0, none⟩) (r * c).toNat (r * c).toNat, .int .i64 0], .int .i64 0]) (by simp [results, Try.results93, go_sem, x0, x1, x2, x3, hlt, hlt1]) rfl
    ⟨w1.heap.size, (r * c).toNat, by rw [new_len]; rfl, ⟨⟨[], by rw [List.append_nil]; exact heap_new' _ _ _ (by simp)⟩, Pl.new_ok h1 h2 h3 h4 h5⟩, by omega, by with_reducible (repeat (first | exact Below.refl _ _ | assumption | (refine Below.setCell ?_ (by first | omega | (simp; done) | (simp; omega)) _) | (refine Below.alloc ?_ (by first | omega | (simp; done) | (simp; omega)) _) | (refine below_drewN ?_ _) | (refine Below.drew ?_) | (refine Below.trans ?_ (Below.mono hb (by first | omega | (simp; done) | (simp; omega)))) | (refine Below.trans ?_ (Below.mono hb1 (by first | omega | (simp; done) | (simp; omega)))) | (refine Below.trans ?_ (Below.mono hb2 (by first | omega | (simp; done) | (simp; omega)))) | (refine Below.trans ?_ (Below.mono hb3 (by first | omega | (simp; done) | (simp; omega)))) | (refine Below.trans ?_ (Below.mono hb4 (by first | omega | (simp; done) | (simp; omega)))) | (refine Below.trans ?_ (Below.mono hb5 (by first | omega | (simp; done) | (simp; omega)))) | (refine Below.trans ?_ (Below.mono hb6 (by first | omega | (simp; done) | (simp; omega)))) | (refine Below.trans ?_ (Below.mono hb7 (by first | omega | (simp; done) | (simp; omega)))) | (refine Below.trans ?_ (Below.mono hb8 (by first | omega | (simp; done) | (simp; omega)))) | (refine Below.trans ?_ (Below.mono hb9 (by first | omega | (simp; done) | (simp; omega)))) | (refine Below.trans ?_ (Below.mono hb10 (by first | omega | (simp; done) | (simp; omega)))) | (refine Below.trans ?_ (Below.mono hb11 (by first | omega | (simp; done) | (simp; omega)))) | (refine Below.trans ?_ (Below.mono hb12 (by first | omega | (simp; done) | (simp; omega))))))⟩
end Go.Proofs.Ytbkddgeocmkegaa

namespace Go.Proofs.Ytbkddgeocmkegaa
open Go.RowKit Go.Shelf
set_option linter.unusedSimpArgs false
set_option linter.unusedVariables false
set_option maxHeartbeats 2000000
attribute [local go_sem ↓] run_start run_byte run_cols

/-! What the statements make: planes with given cells. -/
def fillC (base cs : List Cell) : Nat → List Cell
  | 0 => base
  | k + 1 => (fillC base cs k).set k (cs.getD k Cell.zero)
theorem fillC_len (base cs : List Cell) (k : Nat) : (fillC base cs k).length = base.length := by
  induction k with
  | zero => rfl
  | succ k ih => simp [fillC, ih]
def Pl.fillK (P : Pl) (cs : List Cell) (k : Nat) : Pl := { P with cells := fillC P.cells cs k }
theorem Pl.fillK_len (P : Pl) (cs : List Cell) (k : Nat) : (P.fillK cs k).cells.length = P.cells.length := fillC_len _ _ _
theorem Pl.fillK_step (P : Pl) (cs : List Cell) (k : Nat) (hk : k < cs.length) : P.fillK cs (k + 1) = (P.fillK cs k).set (k : Int) cs[k] := by
  unfold Pl.fillK Pl.set
  simp [fillC, hk]
theorem Pl.fillK_skip (P : Pl) (cs : List Cell) (k : Nat) (hk : P.cells.length ≤ k) : P.fillK cs (k + 1) = P.fillK cs k := by
  unfold Pl.fillK
  simp only [fillC]
  rw [List.set_eq_of_length_le (by rw [fillC_len]; exact hk)]
def Pl.fill (P : Pl) (cs : List Cell) : Pl := P.fillK cs cs.length

/-- A row of cells that came in. -/
def ARow (w : World) (ao : Option Addr) (cs : List Cell) : Prop :=
  cs.length ≤ maxLen ∧ ∀ (k : Nat) (hk : k < cs.length), cs[k].ok ∧ ∃ b off, ao = some ⟨b, off, none⟩ ∧ b < w.heap.size ∧ w.cell? ⟨b, off + k * 5, none⟩ = some (.int .u8 cs[k].byte) ∧ w.cell? ⟨b, off + k * 5 + 1, none⟩ = some (.bool cs[k].ge) ∧ w.cell? ⟨b, off + k * 5 + 2, none⟩ = some (.bool cs[k].start) ∧ w.cell? ⟨b, off + k * 5 + 3, none⟩ = some (.int .u8 cs[k].light) ∧ w.cell? ⟨b, off + k * 5 + 4, none⟩ = some (.int .u8 cs[k].color)
theorem ARow.below {w w' : World} {ao : Option Addr} {cs : List Cell} (h : ARow w ao cs) (hb : Below w.heap.size w w') : ARow w' ao cs :=
  ⟨h.1, fun k hk => by
    obtain ⟨h0, b, off, e, hl, k0, k1, k2, k3, k4⟩ := h.2 k hk
    exact ⟨h0, b, off, e, Nat.lt_of_lt_of_le hl hb.size, cell_keep k0 hb, cell_keep k1 hb, cell_keep k2 hb, cell_keep k3 hb, cell_keep k4 hb⟩⟩

theorem RC.put {w : World} {b : Nat} {P : Pl} (h : RC w b P) {i : Int} (i0 : 0 ≤ i) (i1 : i < (P.cells.length : Int)) {c : Cell} (hc : c.ok) : RC (putC w b (i.toNat * 5) c) b (P.set i c) :=
  ⟨let ⟨r, hb⟩ := h.hb; ⟨r, putC_heap hb _ (by omega) _⟩, Pl.set_ok h.ok hc⟩
theorem RC.chg {S : Nat → Prop} {w w' : World} {b : Nat} {P : Pl} (h : RC w b P) (hk : Chg S w w') (hb : ¬ S b) : RC w' b P :=
  ⟨let ⟨r, h'⟩ := h.hb; ⟨r, (hk.block b h.bl hb).trans h'⟩, h.ok⟩
theorem RC.fz {w : World} {b : Nat} {P : Pl} (h : RC w b P) (o : Nat) : w.frozen? ⟨b, o, none⟩ = false := by obtain ⟨r, hb⟩ := h.hb; simp [World.frozen?, hb]
theorem RC.of {w : World} {b : Nat} {P Q : Pl} (h : RC w b P) (e : Q.cells = P.cells) (hq : Q.ok) : RC w b Q := ⟨by rw [e]; exact h.hb, hq⟩
theorem frozen_keepC {S : Nat → Prop} {W w2 : World} {a : Addr} {v : Value} (h : W.cell? a = some v) (hf : W.frozen? a = false) (hb : Chg S W w2) (hs : ¬ S a.block) : w2.frozen? a = false := by
  rw [World.frozen?_of_block (w := W) (hb.block a.block (World.block_lt_of_cell? W a h) hs)]; exact hf

/-- A box of four cells, to be written. -/
structure Box4 (W : World) (B : Nat) (x0 x1 x2 x3 : Value) : Prop where
  c0 : W.cell? ⟨B, 0, none⟩ = some x0
  c1 : W.cell? ⟨B, 1, none⟩ = some x1
  c2 : W.cell? ⟨B, 2, none⟩ = some x2
  c3 : W.cell? ⟨B, 3, none⟩ = some x3
  f0 : W.frozen? ⟨B, 0, none⟩ = false
  f1 : W.frozen? ⟨B, 1, none⟩ = false
  f2 : W.frozen? ⟨B, 2, none⟩ = false
  f3 : W.frozen? ⟨B, 3, none⟩ = false
theorem Box4.new (w : World) (x0 x1 x2 x3 : Value) (T : TypeId) : Box4 (w.alloc (.cells #[x0, x1, x2, x3] T)) w.heap.size x0 x1 x2 x3 := by constructor <;> simp [go_sem]
theorem Box4.chg {S : Nat → Prop} {W W' : World} {B : Nat} {x0 x1 x2 x3 : Value} (h : Box4 W B x0 x1 x2 x3) (hk : Chg S W W') (hs : ¬ S B) : Box4 W' B x0 x1 x2 x3 :=
  ⟨cell_keepC h.c0 hk hs, cell_keepC h.c1 hk hs, cell_keepC h.c2 hk hs, cell_keepC h.c3 hk hs, frozen_keepC h.c0 h.f0 hk hs, frozen_keepC h.c1 h.f1 hk hs, frozen_keepC h.c2 h.f2 hk hs, frozen_keepC h.c3 h.f3 hk hs⟩
theorem Box4.below {W W' : World} {B : Nat} {x0 x1 x2 x3 : Value} (h : Box4 W B x0 x1 x2 x3) (hk : Below W.heap.size W W') : Box4 W' B x0 x1 x2 x3 := h.chg (S := fun _ => False) (Chg.of_below hk) (fun h => h)
theorem Box4.lt {W : World} {B : Nat} {x0 x1 x2 x3 : Value} (h : Box4 W B x0 x1 x2 x3) : B < W.heap.size := World.block_lt_of_cell? W _ h.c0

theorem Box4.set3 {W : World} {B : Nat} {x0 x1 x2 x3 : Value} (h : Box4 W B x0 x1 x2 x3) (v : Value) : Box4 (W.setCell ⟨B, 3, none⟩ v) B x0 x1 x2 v := by
  obtain ⟨c0, c1, c2, c3, f0, f1, f2, f3⟩ := h
  constructor
  · simp [go_sem, c0]
  · simp [go_sem, c1]
  · simp [go_sem, c2]
  · simp [World.cell?_setCell_same' _ _ _ (by rw [c3]; rfl)]
  · rw [World.frozen?_setCell]; exact f0
  · rw [World.frozen?_setCell]; exact f1
  · rw [World.frozen?_setCell]; exact f2
  · rw [World.frozen?_setCell]; exact f3
def MadeBad (w : World) (e : Ending) (w' : World) : Prop :=
  ∃ (x0 x1 x3 : Int) (o : Option Addr) (n m : Nat), e = .returned (.tuple #[.pointer none, .agg #[.int .i64 x0, .int .i64 x1, .slice o n m, .int .i64 x3], .bool false]) ∧ Below w.heap.size w w'
def MadePost (P : Pl) (w : World) (e : Ending) (w' : World) : Prop :=
  ∃ g b cap b' cap' : Nat, e = .returned (.tuple #[.pointer (some ⟨g, 0, none⟩), .agg #[.int .i64 P.rows, .int .i64 P.cols, .slice (some ⟨b', 0, none⟩) P.cells.length cap', .int .i64 P.cursor], .bool true]) ∧ PL w' g b cap P ∧ RC w' b' P ∧ w.heap.size ≤ g ∧ w.heap.size ≤ b ∧ w.heap.size ≤ b' ∧ b' ≠ g ∧ b' ≠ b ∧ Below w.heap.size w w'
theorem chgAB {a b : Nat} {w w' : World} (h : Chg (· = b) w w') : Chg (fun k => k = a ∨ k = b) w w' := h.mono (fun _ _ e => .inr e)
theorem chgBA {a b : Nat} {w w' : World} (h : Chg (· = a) w w') : Chg (fun k => k = a ∨ k = b) w w' := h.mono (fun _ _ e => .inl e)
end Go.Proofs.Ytbkddgeocmkegaa

namespace Go.Proofs.Ytbkddgeocmkegaa
open Go.ChangeShapes Go.WideShapes Go.ChangeAt Go.RowKit Go.Deep Go.Joins
set_option linter.unusedVariables false
set_option linter.unusedSimpArgs false

/-! Arguments, opened. -/
section
variable {H : Type} {enc : TypeId × Value → H} {P : Program} {w : World} {base : Nat} {spare : Nat → Bool} {held : Bool}
theorem open_slice_fields {t e : TypeId} {fs : Array Field} {fuel : Nat} {cs : List Value} {x : DataW H × List MemPlace} (ht : P.underlying t = some (.slice e)) (he : P.underlying e = some (.struct fs))
    (hone : oneCellFields P fs = true) (hC : P.cellsOf e = fs.size) (h : DataW.trod enc P w base spare held fuel t cs = some x) :
    (cs = [.slice none 0 0] ∧ x = (.nil, [])) ∨
    ∃ (a : Addr) (len cap m : Nat) (D : Nat → DataW H) (Pl : Nat → List MemPlace), cs = [.slice (some a) len cap] ∧ base ≤ a.block ∧ len ≤ cap ∧ cap ≤ maxLen ∧ m = (if spare a.block then cap else len) ∧
      x = (.slice ((List.range len).map D) ((List.range (m - len)).map fun j => D (len + j)), MemPlace.row a (m * fs.size) ++ (List.range m).flatMap Pl) ∧
      ∀ i, i < m → ∃ (ys : List (DataW H × List MemPlace)) (n : Nat), D i = .agg (ys.map (·.1)) ∧ Pl i = ys.flatMap (·.2) ∧ ys.length = fs.size ∧
        ∀ (j : Nat) (f : Field), fs[j]? = some f → ∃ (v : Value) (y : DataW H × List MemPlace), w.cell? (a.add (i * fs.size + j)) = some v ∧ ys[j]? = some y ∧ DataW.trod enc P w base spare held n f.type [v] = some y := by
  rcases open_slice ht h with h0 | ⟨a, len, cap, m, n, D, Pl, hcs, hb, hl, hm, hmm, hx, hi⟩
  · exact .inl h0
  · refine .inr ⟨a, len, cap, m, D, Pl, hcs, hb, hl, hm, hmm, by rw [hC] at hx; exact hx, fun i him => ?_⟩
    obtain ⟨cs', hc, ht'⟩ := hi i him
    rw [hC] at hc
    obtain ⟨ys, n', hn', hy, hlen, hyl, hf⟩ := DataW.trod_struct he ht'
    obtain ⟨_, hcl, hat⟩ := World.cells?_some hc
    simp only [Prod.mk.injEq] at hy
    refine ⟨ys, n', hy.1, hy.2, hyl, fun j f hj => ?_⟩
    obtain ⟨ho, hk⟩ := hone_of hone j f hj
    have hjl : j < fs.size := (Array.getElem?_eq_some_iff.1 hj).1
    have hcell := hat j hjl
    have hv : cs'[j]? = some (cs'[j]'(by omega)) := List.getElem?_eq_getElem (by omega)
    have h1 := hf j f hj
    rw [ho, hk] at h1
    have hone' : (cs'.drop j).take 1 = [cs'[j]'(by omega)] := by
      rw [List.drop_eq_getElem_cons (by omega)]
      rfl
    rw [hone'] at h1
    have hys : ys[j]? = some (ys[j]'(by omega)) := List.getElem?_eq_getElem (by omega)
    refine ⟨_, _, ?_, hys, h1.trans hys⟩
    rw [← Go.Deep.add_add, hcell, hv]
end

section
variable {H : Type} {enc : TypeId × Value → H} {W : World} {base : Nat} {spare : Nat → Bool} {held : Bool}
set_option maxRecDepth 100000 in
theorem open_size {r : Reach} {b0 : Nat} {v : Value} {d : DataW H} {p : List MemPlace} (hv : Value.okWide Try.prog W r b0 48 v) (h : DataW.Trod enc Try.prog W base spare held 48 v d p) :
    ∃ x y : Int, v = .agg #[.int .i64 x, .int .i64 y] := by
  obtain ⟨v0, v1, y0, y1, n, rfl, -, -, h0, h1⟩ := open_agg2 Try.underlying48 (by kernel_rfl) (by kernel_rfl) hv h
  obtain ⟨x, e0, -, -⟩ := DataW.trod_int Try.underlying3 h0
  obtain ⟨y, e1, -, -⟩ := DataW.trod_int Try.underlying3 h1
  simp at e0 e1
  subst e0 e1
  exact ⟨x, y, rfl⟩

theorem u8_wf {z : Int} (h : (Lit.int .u8 z).wf = true) : 0 ≤ z ∧ z ≤ 255 := by simpa [Lit.wf, IntKind.min, IntKind.max, IntKind.signed, IntKind.bits] using h

set_option maxRecDepth 100000 in
theorem open_cells {r : Reach} {b0 : Nat} {v : Value} {d : DataW H} {p : List MemPlace} (hv : Value.okWide Try.prog W r b0 75 v) (h : DataW.Trod enc Try.prog W base (fun _ => true) held 75 v d p) :
    ∃ (ao : Option Addr) (cs : List Cell) (cap : Nat), v = .slice ao cs.length cap ∧ ARow W ao cs := by
  obtain ⟨ao, len, cap, rfl⟩ := okWide_slice Try.underlying75 hv
  obtain ⟨fuel, hf⟩ := h
  rcases open_slice_fields Try.underlying75 Try.underlying96 (by kernel_rfl) (by kernel_rfl) hf with ⟨hcs, _⟩ | ⟨a, l, c, m, D, Pl, hcs, _, hl, hm, hmm, _, hel⟩
  · simp [Value.cells] at hcs
    obtain ⟨rfl, rfl, rfl⟩ := hcs
    exact ⟨none, [], 0, rfl, Nat.zero_le _, fun k hk => absurd hk (Nat.not_lt_zero _)⟩
  · simp [Value.cells] at hcs
    obtain ⟨rfl, rfl, rfl⟩ := hcs
    simp only [if_true] at hmm
    subst hmm
    obtain ⟨b, off, spot⟩ := a
    have hsp : 0 < len → spot = none := by
      intro h0
      obtain ⟨ys', n', -, -, -, hfl'⟩ := hel 0 (by omega)
      obtain ⟨v0', y0', c0', -, -⟩ := hfl' 0 _ rfl
      have e : (({ block := b, off := off, spot := spot } : Addr).add (0 * 5 + 0)) = ⟨b, off, spot⟩ := rfl
      have c1 : W.cell? ⟨b, off, spot⟩ = some v0' := c0'
      exact World.cell?_spot c1
    have key : ∀ i, i < len → ∃ x : Cell, x.ok ∧ spot = none ∧ W.cell? ⟨b, off + i * 5, none⟩ = some (.int .u8 x.byte) ∧ W.cell? ⟨b, off + i * 5 + 1, none⟩ = some (.bool x.ge) ∧ W.cell? ⟨b, off + i * 5 + 2, none⟩ = some (.bool x.start) ∧ W.cell? ⟨b, off + i * 5 + 3, none⟩ = some (.int .u8 x.light) ∧ W.cell? ⟨b, off + i * 5 + 4, none⟩ = some (.int .u8 x.color) := by
      intro i hi
      obtain ⟨ys, n, -, -, -, hfl⟩ := hel i (by omega)
      obtain ⟨v0, y0, c0, -, t0⟩ := hfl 0 _ rfl
      obtain ⟨v1, y1, c1, -, t1⟩ := hfl 1 _ rfl
      obtain ⟨v2, y2, c2, -, t2⟩ := hfl 2 _ rfl
      obtain ⟨v3, y3, c3, -, t3⟩ := hfl 3 _ rfl
      obtain ⟨v4, y4, c4, -, t4⟩ := hfl 4 _ rfl
      obtain ⟨z0, e0, -, w0⟩ := DataW.trod_int Try.underlying5 t0
      obtain ⟨z1, e1, -⟩ := DataW.trod_bool Try.underlying4 t1
      obtain ⟨z2, e2, -⟩ := DataW.trod_bool Try.underlying4 t2
      obtain ⟨z3, e3, -, w3⟩ := DataW.trod_int Try.underlying5 t3
      obtain ⟨z4, e4, -, w4⟩ := DataW.trod_int Try.underlying5 t4
      simp at e0 e1 e2 e3 e4
      subst e0 e1 e2 e3 e4
      have hspot : spot = none := hsp (by omega)
      subst hspot
      refine ⟨⟨z0, z1, z2, z3, z4⟩, ⟨u8_wf w0, u8_wf w3, u8_wf w4⟩, rfl, ?_, ?_, ?_, ?_, ?_⟩
      · rw [add_plain] at c0; exact c0
      · rw [add_plain] at c1; exact c1
      · rw [add_plain] at c2; exact c2
      · rw [add_plain] at c3; exact c3
      · rw [add_plain] at c4; exact c4
    obtain ⟨F, hF⟩ : ∃ F : Nat → Cell, ∀ i (hi : i < len), (F i).ok ∧ spot = none ∧ W.cell? ⟨b, off + i * 5, none⟩ = some (.int .u8 (F i).byte) ∧ W.cell? ⟨b, off + i * 5 + 1, none⟩ = some (.bool (F i).ge) ∧ W.cell? ⟨b, off + i * 5 + 2, none⟩ = some (.bool (F i).start) ∧ W.cell? ⟨b, off + i * 5 + 3, none⟩ = some (.int .u8 (F i).light) ∧ W.cell? ⟨b, off + i * 5 + 4, none⟩ = some (.int .u8 (F i).color) := by
      refine ⟨fun i => if hi : i < len then (key i hi).choose else Cell.zero, fun i hi => ?_⟩
      simp only [dif_pos hi]
      exact (key i hi).choose_spec
    refine ⟨some ⟨b, off, spot⟩, (List.range len).map F, _, by simp; rfl, ⟨by simp; omega, fun k hk => ?_⟩⟩
    have hk' : k < len := by simpa using hk
    obtain ⟨hok, rfl, r⟩ := hF k hk'
    simp only [List.getElem_map, List.getElem_range]
    exact ⟨hok, b, off, rfl, World.block_lt_of_cell? _ _ r.1, r⟩
end
theorem ownK : ownKnob Try.prog.godebug = none := by kernel_rfl
theorem laidOutK : laidOutB Try.prog = true := by kernel_rfl
end Go.Proofs.Ytbkddgeocmkegaa

namespace Go.Proofs.Ytbkddgeocmkegaa
open Go.RowKit Go.Shelf
set_option linter.unusedSimpArgs false
set_option linter.unusedVariables false
set_option maxHeartbeats 2000000
attribute [local go_sem ↓] run_start run_byte run_cols

/-! Planes, turned: attributes modified, all cleared. -/
theorem Places_any (g : Nat) (f : Fld) (w : World) :
    Calls Try.prog 113 #[.pointer (some ⟨g, 0, none⟩), .agg #[.int .i64 f.start, .int .i64 f.len, .int .u8 f.attr]] w fun e w' => e = .returned (.func (.func 165) #[] #[.pointer (some ⟨w.heap.size + 1, 0, none⟩), .pointer (some ⟨w.heap.size, 0, none⟩)]) ∧ (w.alloc (.cells #[.pointer (some ⟨g, 0, none⟩)] 52)).alloc (.cells #[.int .i64 f.start, .int .i64 f.len, .int .u8 f.attr] 89) = w' := by
  go_enter Try.func113, Try.ntmps113
  go_wp2
  go_ret
  exact ⟨rfl, rfl⟩

def Pl.mark (P : Pl) (s : Int) (on : Bool) : Pl := P.set s { P.at s with byte := modi (P.at s).byte on }
theorem mark_cell {P : Pl} (hok : P.ok) (s : Int) (on : Bool) : ({ P.at s with byte := modi (P.at s).byte on } : Cell).ok := by
  have h := Pl.at_ok hok s
  exact ⟨modi_ok h.1 on, h.2⟩

theorem modify_in {w : World} {g b cap : Nat} {P : Pl} (h : PL w g b cap P) (s : Int) (s0 : 0 ≤ s) (s1 : s < (P.cells.length : Int)) (on : Bool) :
    Calls Try.prog 147 #[.pointer (some ⟨g, 0, none⟩), .int .i64 s, .bool on] w fun e w' => e = .returned (.tuple #[]) ∧ PL w' g b cap (P.mark s on) ∧ Chg (· = b) w w' := by
  have hcok := mark_cell h.ok s on
  have hby := (Pl.at_ok h.ok s).1
  have E := Lib.hid (show P.mark s on = P.set s { P.at s with byte := modi (P.at s).byte on } from rfl)
  obtain ⟨x, hx⟩ : ∃ x, P.at s = x := ⟨_, rfl⟩
  have HX := Lib.hid hx
  rw [hx] at hcok hby E
  clear hx
  have hgl := h.gl
  have hbl := h.bl
  go_enter Try.func147, Try.ntmps147
  go_wp2_with fail
  refine (At_any h s).mono ?_
  rw [HX.out]
  rintro e w1 ⟨rfl, hb1⟩
  have hz1 := hb1.size
  go_wp2_with fail
  refine (Modify_any x.byte on _ hby).mono ?_
  rintro e w2 ⟨rfl, hb2⟩
  have hB2 : Below w.heap.size w w2 := by with_reducible (repeat (first | exact Below.refl _ _ | assumption | (refine Below.setCell ?_ (by first | omega | (simp; done) | (simp; omega)) _) | (refine Below.alloc ?_ (by first | omega | (simp; done) | (simp; omega)) _) | (refine below_drewN ?_ _) | (refine Below.drew ?_) | (refine Below.trans ?_ (Below.mono hb (by first | omega | (simp; done) | (simp; omega)))) | (refine Below.trans ?_ (Below.mono hb1 (by first | omega | (simp; done) | (simp; omega)))) | (refine Below.trans ?_ (Below.mono hb2 (by first | omega | (simp; done) | (simp; omega)))) | (refine Below.trans ?_ (Below.mono hb3 (by first | omega | (simp; done) | (simp; omega)))) | (refine Below.trans ?_ (Below.mono hb4 (by first | omega | (simp; done) | (simp; omega)))) | (refine Below.trans ?_ (Below.mono hb5 (by first | omega | (simp; done) | (simp; omega)))) | (refine Below.trans ?_ (Below.mono hb6 (by first | omega | (simp; done) | (simp; omega)))) | (refine Below.trans ?_ (Below.mono hb7 (by first | omega | (simp; done) | (simp; omega)))) | (refine Below.trans ?_ (Below.mono hb8 (by first | omega | (simp; done) | (simp; omega)))) | (refine Below.trans ?_ (Below.mono hb9 (by first | omega | (simp; done) | (simp; omega)))) | (refine Below.trans ?_ (Below.mono hb10 (by first | omega | (simp; done) | (simp; omega)))) | (refine Below.trans ?_ (Below.mono hb11 (by first | omega | (simp; done) | (simp; omega)))) | (refine Below.trans ?_ (Below.mono hb12 (by first | omega | (simp; done) | (simp; omega))))))
  have hz2 := hb2.size
  simp only [World.size_alloc] at hz2
  have y0 : w2.cell? ⟨w1.heap.size, 0, none⟩ = some (.int .u8 x.byte) := (hb2.cell (by simp)).trans (by simp [go_sem])
  have y1 : w2.cell? ⟨w1.heap.size, 1, none⟩ = some (.bool x.ge) := (hb2.cell (by simp)).trans (by simp [go_sem])
  have y2 : w2.cell? ⟨w1.heap.size, 2, none⟩ = some (.bool x.start) := (hb2.cell (by simp)).trans (by simp [go_sem])
  have y3 : w2.cell? ⟨w1.heap.size, 3, none⟩ = some (.int .u8 x.light) := (hb2.cell (by simp)).trans (by simp [go_sem])
  have y4 : w2.cell? ⟨w1.heap.size, 4, none⟩ = some (.int .u8 x.color) := (hb2.cell (by simp)).trans (by simp [go_sem])
  have yf : w2.frozen? ⟨w1.heap.size, 0, none⟩ = false := (hb2.frozen (by simp)).trans (by simp [go_sem])
  have hBs : Below w.heap.size w (w2.setCell ⟨w1.heap.size, 0, none⟩ (.int .u8 (modi x.byte on))) := hB2.setCell (by simp; omega) _
  clear hb1 hb2
  go_wp2_with fail
  refine (Set_in (h.below hBs) s { x with byte := modi x.byte on } s0 s1 hcok).mono ?_
  rintro e w3 ⟨rfl, hP3, hk3⟩
  go_wp2
  go_end0
  exact ⟨rfl, by rw [E.out]; exact hP3, chg_bel hBs hk3⟩

theorem Mark_some {w : World} {g b cap : Nat} {P : Pl} (h : PL w g b cap P) (i : Int) (hi : 0 ≤ P.before i) :
    Calls Try.prog 115 #[.pointer (some ⟨g, 0, none⟩), .int .i64 i] w fun e w' => e = .returned (.bool true) ∧ PL w' g b cap (P.mark (P.before i) true) ∧ Chg (· = b) w w' := by
  have hr := Pl.look_range h.ok i (-1)
  have s1 : P.before i < (P.cells.length : Int) := hr.2
  go_enter Try.func115, Try.ntmps115
  go_wp2_with fail
  refine (Before_any h _).mono ?_
  rintro e w1 ⟨rfl, hb1⟩
  have hz1 := hb1.size
  try simp only [World.size_alloc, World.size_drew, World.size_setCell] at hz1
  obtain ⟨hc1, hf1⟩ := bcell hb1
  go_wp2_with fail
  refine (modify_in (h.below hb1) _ hi s1 true).mono ?_
  rintro e w3 ⟨rfl, hP3, hk3⟩
  go_wp2
  go_ret
  exact ⟨rfl, hP3, chg_bel hb1 hk3⟩
theorem Mark_none {w : World} {g b cap : Nat} {P : Pl} (h : PL w g b cap P) (i : Int) (hi : ¬ 0 ≤ P.before i) :
    Calls Try.prog 115 #[.pointer (some ⟨g, 0, none⟩), .int .i64 i] w fun e w' => e = .returned (.bool false) ∧ Below w.heap.size w w' := by
  go_enter Try.func115, Try.ntmps115
  go_wp2_with fail
  refine (Before_any h _).mono ?_
  rintro e w1 ⟨rfl, hb1⟩
  have hz1 := hb1.size
  try simp only [World.size_alloc, World.size_drew, World.size_setCell] at hz1
  obtain ⟨hc1, hf1⟩ := bcell hb1
  go_wp2
  go_ret
  exact ⟨rfl, hb1⟩

theorem setCells_heap (b : Nat) (T : TypeId) (z : Nat × Nat) : ∀ (vs pre olds rest : List Value) (w : World), olds.length = vs.length → w.heap[b]? = some (.cells (pre ++ olds ++ rest).toArray T z) → (w.setCells b pre.length vs).heap[b]? = some (.cells (pre ++ vs ++ rest).toArray T z) := by
  intro vs
  induction vs with
  | nil =>
    intro pre olds rest w hl h
    have : olds = [] := List.eq_nil_of_length_eq_zero (by simpa using hl)
    subst this
    exact h
  | cons v vs ih =>
    intro pre olds rest w hl h
    match olds, hl with
    | o :: olds, hl =>
      show ((w.setCell ⟨b, pre.length, none⟩ v).setCells b (pre.length + 1) vs).heap[b]? = _
      have h1 := heap_set_same h pre.length v
      have e : (pre ++ o :: olds ++ rest).set pre.length v = (pre ++ [v]) ++ olds ++ rest := by simp
      rw [e] at h1
      have := ih (pre ++ [v]) olds rest _ (by simpa using hl) h1
      rw [List.length_append] at this
      rw [show pre.length + 1 = pre.length + [v].length from rfl, this]
      simp
theorem setCells_chg (b : Nat) : ∀ (vs : List Value) (o : Nat) (w w0 : World), Chg (· = b) w0 w → Chg (· = b) w0 (w.setCells b o vs) := by
  intro vs
  induction vs with
  | nil => intro o w w0 h; exact h
  | cons v vs ih => intro o w w0 h; exact ih (o + 1) _ w0 (h.setCell (a := ⟨b, o, none⟩) (.inl rfl) v)
theorem zero_flat (n : Nat) : (Builtin.zeroCells (Value.agg #[.int .u8 0, .bool false, .bool false, .int .u8 0, .int .u8 0]).cells n).toList = flat (List.replicate n Cell.zero) := by
  have := made_flat n
  unfold madeCells at this
  have e : Builtin.zeroCells (Value.agg #[.int .u8 0, .bool false, .bool false, .int .u8 0, .int .u8 0]).cells n = (flat (List.replicate n Cell.zero)).toArray := this
  rw [e]

theorem zeroCell (w : World) : (zeroValue 96).run Try.prog w = .ok (.agg #[.int .u8 0, .bool false, .bool false, .int .u8 0, .int .u8 0]) w := by kernel_rfl
theorem run_clear_cells {w : World} {b n c : Nat} {cs : List Cell} {rest : List Value} (ty : TypeId) (hn : 0 < n) (hl : cs.length = n) (hb : w.heap[b]? = some (.cells (flat cs ++ rest).toArray 96 (0, 0))) :
    (Builtin.clear_ #[75] ty #[.slice (some ⟨b, 0, none⟩) n c]).run Try.prog w = .ok (.tuple #[]) (w.setCells b 0 (flat (List.replicate n Cell.zero))) := by
  have hst := run_storeCells_cells (P := Try.prog) b 0 (flat (List.replicate n Cell.zero)) 0 w
    (by
      intro j hj
      rw [flat_len] at hj
      simp only [World.cell?, hb, Option.isSome_none, Bool.false_eq_true, if_false, List.getElem?_toArray, Nat.zero_add, Nat.add_zero]
      rw [List.getElem?_eq_getElem (by rw [List.length_append, flat_len]; simp at hj; omega)]
      rfl)
    (by intro j hj; simp [World.frozen?, hb])
    (flat_one _)
  simp only [Nat.add_zero] at hst
  obtain ⟨m, rfl⟩ : ∃ m, n = m + 1 := ⟨n - 1, by omega⟩
  simp [Builtin.clear_, run_underlying Try.underlying75, zeroCell, zero_flat, hst]

def Pl.clear (P : Pl) : Pl := { P with cells := List.replicate P.cells.length Cell.zero, cursor := 0 }
theorem Pl.clear_ok {P : Pl} (h : P.ok) : P.clear.ok :=
  ⟨h.r1, h.r2, h.c1, h.c2, h.n2, by simpa [Pl.clear] using h.len, Int.le_refl _, by have := Pl.N_pos h; have := h.len; show (0 : Int) < P.rows * P.cols; omega, fun d hd => by
    have := List.eq_of_mem_replicate hd; subst this; exact Cell.zero_ok⟩
theorem Clear_any {w : World} {g b cap : Nat} {P : Pl} (h : PL w g b cap P) :
    Calls Try.prog 163 #[.pointer (some ⟨g, 0, none⟩)] w fun e w' => e = .returned (.tuple #[]) ∧ PL w' g b cap P.clear ∧ Chg (fun k => k = g ∨ k = b) w w' := by
  obtain ⟨rest, hb⟩ := h.hb
  have hcl := fun ty => run_clear_cells (c := cap) ty (Pl.N_pos h.ok) rfl hb
  have f2 := h.f2
  have gl := h.gl
  have hk1 : Chg (· = b) w (w.setCells b 0 (flat (List.replicate P.cells.length Cell.zero))) := setCells_chg b _ _ _ _ (Chg.refl _ _)
  have hh := setCells_heap b 96 (0, 0) (flat (List.replicate P.cells.length Cell.zero)) [] (flat P.cells) rest w (by rw [flat_len, flat_len]; simp) hb
  simp only [List.nil_append, List.length_nil] at hh
  have hg1 : (w.setCells b 0 (flat (List.replicate P.cells.length Cell.zero))).heap[g]? = w.heap[g]? := hk1.block g gl h.ne
  obtain ⟨W, hW⟩ : ∃ W, w.setCells b 0 (flat (List.replicate P.cells.length Cell.zero)) = W := ⟨_, rfl⟩
  simp only [hW] at hcl hk1 hh hg1
  have hg2 := hg1.trans h.hg
  have f3 : W.cell? ⟨g, 3, none⟩ = some (.int .i64 P.cursor) := by simp [World.cell?, hg2]
  have fz : W.frozen? ⟨g, 3, none⟩ = false := by simp [World.frozen?, hg2]
  have hne := h.ne
  have hok := h.ok
  have HH := Lib.hid (And.intro hh hg2)
  clear hh hg1 hg2 hW hb h
  go_enter Try.func163, Try.ntmps163
  go_wp2_with (simp only [hcl])
  go_end0
  obtain ⟨hh, hg2⟩ := HH.out
  refine ⟨rfl, ⟨?_, ⟨rest, ?_⟩, hne, Pl.clear_ok hok⟩, (hk1.mono (fun _ _ e => .inr e)).setCell (.inl (.inl rfl)) _⟩
  · have := heap_set_same (l := [.int .i64 P.rows, .int .i64 P.cols, .slice (some ⟨b, 0, none⟩) P.cells.length cap, .int .i64 P.cursor]) hg2 3 (.int .i64 0)
    simpa [Pl.clear] using this
  · rw [Below.heap_setCell _ _ _ _ (Ne.symm hne)]
    exact hh
end Go.Proofs.Ytbkddgeocmkegaa

namespace Go.Proofs.Ytbkddgeocmkegaa
open Go.RowKit Go.Shelf
set_option linter.unusedSimpArgs false
set_option linter.unusedVariables false
set_option maxHeartbeats 2000000
attribute [local go_sem ↓] run_start run_byte run_cols
attribute [local go_sem] Oper.semAt_some

/-- Cells let go. -/
def Pl.clr (P : Pl) (l : List Int) : Pl := l.foldl (fun P i => P.set i Cell.zero) P
theorem clr_snoc (P : Pl) (l : List Int) (x : Int) : P.clr (l ++ [x]) = (P.clr l).set x Cell.zero := by simp [Pl.clr]
theorem clr_take (P : Pl) (l : List Int) (k : Nat) (hk : k < l.length) : P.clr (l.take (k + 1)) = (P.clr (l.take k)).set l[k] Cell.zero := by
  rw [List.take_add_one, List.getElem?_eq_getElem hk]
  exact clr_snoc _ _ _
theorem clr_same (P : Pl) (l : List Int) : (P.clr l).rows = P.rows ∧ (P.clr l).cols = P.cols ∧ (P.clr l).cells.length = P.cells.length ∧ (P.clr l).cursor = P.cursor := by
  induction l generalizing P with
  | nil => exact ⟨rfl, rfl, rfl, rfl⟩
  | cons x l ih =>
    have h := ih (P.set x Cell.zero)
    exact ⟨h.1, h.2.1, h.2.2.1.trans (P.set_len x _), h.2.2.2⟩
theorem clr_ok {P : Pl} (h : P.ok) (l : List Int) : (P.clr l).ok := by
  induction l generalizing P with
  | nil => exact h
  | cons x l ih => exact ih (Pl.set_ok h Cell.zero_ok)
theorem clr_at (P : Pl) (l : List Int) (hl : ∀ x ∈ l, 0 ≤ x ∧ x < (P.cells.length : Int)) (j : Int) : (P.clr l).at j = if j ∈ l then Cell.zero else P.at j := by
  induction l generalizing P with
  | nil => simp [Pl.clr]
  | cons x l ih =>
    have hx := hl x (List.mem_cons_self ..)
    have := ih (P.set x Cell.zero) (fun y hy => by rw [P.set_len]; exact hl y (List.mem_cons_of_mem _ hy))
    show ((P.set x Cell.zero).clr l).at j = _
    rw [this, P.at_set x _ hx.1 hx.2]
    by_cases h1 : j ∈ l
    · rw [if_pos h1, if_pos (List.mem_cons_of_mem _ h1)]
    · rw [if_neg h1]
      by_cases h2 : j = x
      · rw [if_pos h2, if_pos (by rw [h2]; exact List.mem_cons_self ..)]
      · rw [if_neg h2, if_neg (by simp [h1, h2])]

theorem Aux.chg {S : Nat → Prop} {B : Nat} {w W W' : World} (hb : Chg S w W) (hs : w.heap.size ≤ B) (h : Aux B W W') : Chg S w W' :=
  ⟨h.os.trans hb.os, h.tape.trans hb.tape, h.output.trans hb.output, Nat.le_trans hb.size h.size, fun k hk hS => (h.block k (by have := hb.size; omega) (.inl (by omega))).trans (hb.block k hk hS)⟩
theorem cell_set_same {W : World} {a : Addr} {v : Value} (u : Value) (h : W.cell? a = some v) : (W.setCell a u).cell? a = some u := by
  rw [World.cell?_setCell_same' _ _ _ (by rw [h]; rfl)]

structure InI (w : World) (g b cap : Nat) (f : Fld) (P : Pl) (n : Int) (W : World) : Prop where
  pl : PL W g b cap P
  c0 : W.cell? ⟨w.heap.size, 0, none⟩ = some (.pointer (some ⟨g, 0, none⟩))
  cn : W.cell? ⟨w.heap.size + 2, 0, none⟩ = some (.int .i64 n)
  fn : W.frozen? ⟨w.heap.size + 2, 0, none⟩ = false
  p0 : W.cell? ⟨w.heap.size + 3, 0, none⟩ = some (.pointer (some ⟨g, 0, none⟩))
  q0 : W.cell? ⟨w.heap.size + 4, 0, none⟩ = some (.int .i64 f.start)
  q1 : W.cell? ⟨w.heap.size + 4, 1, none⟩ = some (.int .i64 f.len)
  chg : Chg (· = b) w W
  sz : w.heap.size + 5 ≤ W.heap.size
theorem InI.aux {w W W' : World} {g b cap : Nat} {f : Fld} {P : Pl} {n : Int} (h : InI w g b cap f P n W) (ha : Aux (w.heap.size + 5) W W') : InI w g b cap f P n W' :=
  ⟨h.pl.aux ha, ha.cell h.c0, ha.cell h.cn, (ha.frozen h.cn).trans h.fn, ha.cell h.p0, ha.cell h.q0, ha.cell h.q1, ha.chg h.chg (by omega), Nat.le_trans h.sz ha.size⟩
/-- A cell is turned, and counted. -/
theorem InI.step {w W W1 : World} {g b cap : Nat} {f : Fld} {P P' : Pl} {n : Int} (h : InI w g b cap f P n W) (hbl : b < w.heap.size) (hgl : g < w.heap.size) (hP : PL W1 g b cap P') (hk : Chg (· = b) W W1) (m : Int) :
    InI w g b cap f P' m (W1.setCell ⟨w.heap.size + 2, 0, none⟩ (.int .i64 m)) :=
  have hs : Chg (· = w.heap.size + 2) W1 (W1.setCell ⟨w.heap.size + 2, 0, none⟩ (.int .i64 m)) := chg_set _ _ _ _
  ⟨hP.chg hs (by omega) (by omega),
   cell_keepC (cell_keepC h.c0 hk (by show ¬ w.heap.size = b; omega)) hs (by show ¬ w.heap.size = w.heap.size + 2; omega),
   cell_set_same _ (cell_keepC h.cn hk (by show ¬ w.heap.size + 2 = b; omega)),
   by rw [World.frozen?_setCell]; exact frozen_keepC h.cn h.fn hk (by show ¬ w.heap.size + 2 = b; omega),
   cell_keepC (cell_keepC h.p0 hk (by show ¬ w.heap.size + 3 = b; omega)) hs (by show ¬ w.heap.size + 3 = w.heap.size + 2; omega),
   cell_keepC (cell_keepC h.q0 hk (by show ¬ w.heap.size + 4 = b; omega)) hs (by show ¬ w.heap.size + 4 = w.heap.size + 2; omega),
   cell_keepC (cell_keepC h.q1 hk (by show ¬ w.heap.size + 4 = b; omega)) hs (by show ¬ w.heap.size + 4 = w.heap.size + 2; omega),
   (h.chg.trans hk).setCell (.inr (by simp)) _, by have := hk.size; have := h.sz; simp; omega⟩

theorem places_range {n : Int} (hn : 0 < n) (f : Fld) : ∀ x ∈ places n f, 0 ≤ x ∧ x < n := by
  intro x hx
  unfold places at hx
  rw [List.mem_map] at hx
  obtain ⟨i, _, rfl⟩ := hx
  exact ⟨Int.emod_nonneg _ (by omega), Int.emod_lt_of_pos _ hn⟩

set_option maxRecDepth 100000 in
theorem Inside_list {w : World} {g b cap : Nat} {P : Pl} (h : PL w g b cap P) (f : Fld) (hs0 : 0 ≤ f.start) (hs1 : f.start < (P.cells.length : Int)) (L : List Int) (HL : Hid (places (P.cells.length : Int) f = L)) :
    Calls Try.prog 53 #[.pointer (some ⟨g, 0, none⟩), .agg #[.int .i64 f.start, .int .i64 f.len, .int .u8 f.attr]] w fun e w' => e = .returned (.int .i64 (L.length : Int)) ∧ PL w' g b cap (P.clr L) ∧ Chg (· = b) w w' := by
  have hn := Pl.N_pos h.ok
  have hm := Pl.N_le h.ok
  have hgl := h.gl
  have hbl := h.bl
  have hrg : ∀ x ∈ L, 0 ≤ x ∧ x < (P.cells.length : Int) := by rw [← HL.out]; exact places_range (by omega) f
  have hpn : (L.length : Int) ≤ 4096 := by rw [← HL.out, places_len]; unfold placesN; rw [if_pos ⟨hs0, hs1⟩]; omega
  have hstep := fun k hk => clr_take P L k hk
  have hsame := fun k => clr_same P (L.take k)
  have hful : P.clr (L.take L.length) = P.clr L := by rw [List.take_length]
  have SQ := Places_seq h.ok (w.heap.size + 1 + 1 + 1 + 1) (w.heap.size + 1 + 1 + 1) g b cap f hs0 hs1
  rw [HL.out] at SQ
  refine (callsIn_wide (n := 0)).1 ?_
  refine callsIn_of_wp_marks Try.func53 rfl trivial ?_ rfl
  simp only [Try.ntmps53, List.size_toArray, List.length_cons, List.length_nil, Nat.reduceAdd, Nat.reduceSub, Array.replicate_succ, Array.replicate_zero, List.push_toArray, List.append_toArray, List.nil_append, List.cons_append]
  gi_wp2_with fail
  refine ⟨trivial, rfl, CallsIn.mono (callsIn_wide.2 (Places_any _ _ _)) ?_⟩
  rintro e w1 ⟨rfl, rfl⟩
  gi_wp2
  obtain ⟨W0, hW0⟩ : ∃ W0, (((((w.alloc (.cells #[.pointer (some ⟨g, 0, none⟩)] 52)).alloc (.cells #[.int .i64 f.start, .int .i64 f.len, .int .u8 f.attr] 89)).alloc (.cells #[.int .i64 0] 3)).alloc (.cells #[.pointer (some ⟨g, 0, none⟩)] 52)).alloc (.cells #[.int .i64 f.start, .int .i64 f.len, .int .u8 f.attr] 89)) = W0 := ⟨_, rfl⟩
  have hB0 : Below w.heap.size w W0 := by rw [← hW0]; with_reducible (repeat (first | exact Below.refl _ _ | assumption | (refine Below.setCell ?_ (by first | omega | (simp; done) | (simp; omega)) _) | (refine Below.alloc ?_ (by first | omega | (simp; done) | (simp; omega)) _) | (refine below_drewN ?_ _) | (refine Below.drew ?_) | (refine Below.trans ?_ (Below.mono hb (by first | omega | (simp; done) | (simp; omega)))) | (refine Below.trans ?_ (Below.mono hb1 (by first | omega | (simp; done) | (simp; omega)))) | (refine Below.trans ?_ (Below.mono hb2 (by first | omega | (simp; done) | (simp; omega)))) | (refine Below.trans ?_ (Below.mono hb3 (by first | omega | (simp; done) | (simp; omega)))) | (refine Below.trans ?_ (Below.mono hb4 (by first | omega | (simp; done) | (simp; omega)))) | (refine Below.trans ?_ (Below.mono hb5 (by first | omega | (simp; done) | (simp; omega)))) | (refine Below.trans ?_ (Below.mono hb6 (by first | omega | (simp; done) | (simp; omega)))) | (refine Below.trans ?_ (Below.mono hb7 (by first | omega | (simp; done) | (simp; omega)))) | (refine Below.trans ?_ (Below.mono hb8 (by first | omega | (simp; done) | (simp; omega)))) | (refine Below.trans ?_ (Below.mono hb9 (by first | omega | (simp; done) | (simp; omega)))) | (refine Below.trans ?_ (Below.mono hb10 (by first | omega | (simp; done) | (simp; omega)))) | (refine Below.trans ?_ (Below.mono hb11 (by first | omega | (simp; done) | (simp; omega)))) | (refine Below.trans ?_ (Below.mono hb12 (by first | omega | (simp; done) | (simp; omega))))))
  have hz0 : W0.heap.size = w.heap.size + 5 := by rw [← hW0]; simp
  have hI0 : InI w g b cap f (P.clr (L.take 0)) 0 W0 := by
    refine ⟨h.below hB0, ?_, ?_, ?_, ?_, ?_, ?_, Chg.of_below hB0, by omega⟩
    all_goals (rw [← hW0]; simp [go_sem])
  rw [hW0]
  refine wpIn_rangeL (gf := 165) (lb := #[.pointer (some ⟨w.heap.size + 1 + 1 + 1 + 1, 0, none⟩), .pointer (some ⟨w.heap.size + 1 + 1 + 1, 0, none⟩)]) rfl (enters_of Try.func165 (by kernel_rfl) rfl)
    SQ (fun v hv => by obtain ⟨x, _, rfl⟩ := List.mem_map.1 hv; rfl)
    (fun k W => InI w g b cap f (P.clr (L.take k)) (k : Int) W)
    (fun c k W => False)
    (fun k a W => ∃ (hk : k < L.length), InI w g b cap f (P.clr (L.take k)) (k : Int) W ∧
      a = ⟨#[Value.pointer (some { block := g, off := 0 }), .agg #[.int .i64 f.start, .int .i64 f.len, .int .u8 f.attr], Value.pointer (some { block := w.heap.size, off := 0 }),
          Value.pointer (some { block := w.heap.size + 1, off := 0 }), Value.int IntKind.i64 0,
          Value.pointer (some { block := w.heap.size + 1 + 1, off := 0 }), .int .i64 L[k],
          Value.pointer (some { block := g, off := 0 }), .agg #[.int .i64 f.start, .int .i64 f.len, .int .u8 f.attr],
          Value.func (Fn.func 165) #[] #[Value.pointer (some { block := w.heap.size + 1 + 1 + 1 + 1, off := 0 }), Value.pointer (some { block := w.heap.size + 1 + 1 + 1, off := 0 })],
          .int .i64 L[k], undef, undef, undef, undef, undef, undef, undef], []⟩)
    (fun k W hi => ⟨hi.q0, hi.q1, hi.p0, _, hi.pl, (hsame k).1, (hsame k).2.1, (hsame k).2.2.1⟩)
    (fun k W W' hi ha => hi.aux (hz0 ▸ ha))
    (fun c k W W' hi ha => hi)
    (fun k a W W' ⟨hk, hi, e⟩ ha => ⟨hk, hi.aux (hz0 ▸ ha), e⟩)
    hI0 ?assign ?body ?done ?stop
  case assign =>
    rintro l k W hk hi
    have hk' : k < L.length := by simpa using hk
    simp only [List.getElem_map]
    gi_wp2
    exact ⟨⟨hk', hi, by first | rfl | trivial⟩, keepsFrom_of_below (Below.refl _ _)⟩
  case body =>
    rintro l k a1 W hk ⟨hk', hi, rfl⟩
    have hx := hrg L[k] (List.getElem_mem hk')
    have hst := hstep k hk'
    have c0 := hi.c0
    have cn := hi.cn
    have fn := hi.fn
    have hsz := hi.sz
    obtain ⟨x, hxe⟩ : ∃ x, L[k] = x := ⟨_, rfl⟩
    rw [hxe] at hx hst ⊢
    have HST := Lib.hid hst
    clear hst hxe
    gi_wp2_with fail
    refine ⟨trivial, rfl, CallsIn.mono (CallsIn.inRound _ (callsIn_wide.2 (Set_in hi.pl x Cell.zero hx.1 (by rw [(hsame k).2.2.1]; exact hx.2) Cell.zero_ok))) ?_⟩
    rintro e W1 ⟨rfl, hP1, hk1⟩
    have cn1 := cell_keepC cn hk1 (by show ¬ w.heap.size + 2 = b; omega)
    have fn1 := frozen_keepC cn fn hk1 (by show ¬ w.heap.size + 2 = b; omega)
    have hz1 := hk1.size
    gi_wp2
    refine ⟨(keepsFrom_of_chg hk1 (fun k e => .inl (by subst e; omega))).trans (keepsFrom_of_chg (chg_set _ _ _ _) (fun k e => .inl (by subst e; omega))), ?_⟩
    have := hi.step hbl hgl hP1 hk1 ((k : Int) + 1)
    rw [← HST.out] at this
    exact this
  case done =>
    rintro D W hD hi hK
    have cn := hi.cn
    have hsz := hi.sz
    gi_wp2
    refine ⟨by simp, .inl ⟨_, _, rfl, run_takeDeferred hK, ?_⟩⟩
    have hi2 := hi.aux (Aux.put (.deferred none) (by omega) hK rfl)
    rw [List.length_map, hful] at hi2
    refine ⟨.int .i64 (L.length : Int), ?_, rfl, hi2.pl, hi2.chg⟩
    simp [results, Try.f53, go_sem]
  case stop =>
    rintro D c k W hD hk h
    exact h.elim
end Go.Proofs.Ytbkddgeocmkegaa

/-! Planes whose fields are the same: plain laws. -/
namespace Go.Proofs.Ytbkddgeocmkegaa
set_option linter.unusedVariables false

/-- The same attributes' places, and the same attributes. -/
structure SameF (P Q : Pl) : Prop where
  st : SameSt P Q
  by' : ∀ s : Int, (P.at s).start = true → (Q.at s).byte = (P.at s).byte
theorem SameF.refl (P : Pl) : SameF P P := ⟨SameSt.refl P, fun _ _ => rfl⟩
theorem before_st {P : Pl} (hok : P.ok) (i : Int) (h : 0 ≤ P.before i) : (P.at (P.before i)).start = true := by
  obtain ⟨s, hs⟩ : ∃ s : Nat, P.before i = (s : Int) := ⟨(P.before i).toNat, by omega⟩
  obtain ⟨-, h2, -⟩ := Pl.ofs_of hok hs
  rw [hs]; exact h2
theorem SameF.ofB {P Q : Pl} (h : SameF P Q) (i : Int) : Q.ofB i = P.ofB i := by unfold Pl.ofB; rw [h.st.before]
theorem SameF.ofF {P Q : Pl} (hok : P.ok) (h : SameF P Q) (i : Int) : Q.ofF i = P.ofF i := by
  unfold Pl.ofF
  rw [h.st.before]
  by_cases h0 : 0 ≤ P.before i
  · rw [if_pos h0, if_pos h0, h.st.fld _ (h.by' _ (before_st hok i h0))]
  · rw [if_neg h0, if_neg h0]
theorem SameF.openAt {P Q : Pl} (hok : P.ok) (h : SameF P Q) (i : Int) : Q.openAt i = P.openAt i := by
  unfold Pl.openAt
  rw [h.ofB, h.ofF hok]
  unfold Pl.inB
  rw [h.st.len]
theorem SameSt.starts {P Q : Pl} (h : SameSt P Q) : Q.starts = P.starts := by
  unfold Pl.starts
  rw [h.len]
  congr 1
  funext i
  exact h.isSt i
theorem SameF.flds {P Q : Pl} (h : SameF P Q) : Q.flds = P.flds := by
  unfold Pl.flds
  rw [h.st.starts]
  apply List.map_congr_left
  intro i hi
  exact h.st.fld _ (h.by' _ (P.starts_mem hi).2)
theorem SameF.home {P Q : Pl} (h : SameF P Q) : Q.home = P.home := by unfold Pl.home; rw [h.flds, h.st.len]

theorem st_shut {P : Pl} (hok : P.ok) (i : Int) (h : (P.at i).start = true) : P.openAt i = false := by
  by_cases hi : 0 ≤ i ∧ i < (P.cells.length : Int)
  · obtain ⟨s, rfl⟩ : ∃ s : Nat, i = (s : Int) := ⟨i.toNat, by omega⟩
    obtain ⟨l, hl, el, -, -⟩ := Pl.len_spec hok (show s < P.cells.length by omega) h
    have hb := Pl.before_of hok (show s < P.cells.length by omega) h (ofs_start P s (by omega) (s : Int) (by rw [el]; omega) rfl)
    unfold Pl.openAt
    have h1 : P.ofB (s : Int) = true := by unfold Pl.ofB; rw [hb]; exact decide_eq_true (by omega)
    have h2 : (P.ofF (s : Int)).start = (s : Int) := by unfold Pl.ofF; rw [hb, if_pos (by omega)]; rfl
    rw [h1, h2]
    simp
  · unfold Pl.at at h
    rw [if_neg hi] at h
    cases h
theorem open_in {P : Pl} (hok : P.ok) {i : Int} (h : P.openAt i = true) : 0 ≤ i ∧ i < (P.cells.length : Int) := by
  by_cases hi : 0 ≤ i ∧ i < (P.cells.length : Int)
  · exact hi
  · have := openAt_out (P := P) i (decide_eq_false hi)
    rw [this] at h; cases h
theorem clr_sameF {P : Pl} (hok : P.ok) (l : List Int) (hl : ∀ x ∈ l, (0 ≤ x ∧ x < (P.cells.length : Int)) ∧ (P.at x).start = false) : SameF P (P.clr l) := by
  have hs := clr_same P l
  have ha := clr_at P l (fun x hx => (hl x hx).1)
  refine ⟨⟨hs.1, hs.2.1, hs.2.2.1, fun j => ?_⟩, fun s hst => ?_⟩
  · rw [ha]
    split
    · rename_i h; rw [(hl j h).2]; rfl
    · rfl
  · rw [ha]
    split
    · rename_i h; rw [(hl s h).2] at hst; cases hst
    · rfl

/-- The places at which something may be typed, below k. -/
def Pl.opn (P : Pl) (k : Nat) : List Int := ((List.range k).filter fun (i : Nat) => P.openAt (i : Int)).map fun (i : Nat) => (i : Int)
theorem opn_step (P : Pl) (k : Nat) : P.opn (k + 1) = P.opn k ++ if P.openAt (k : Int) then [(k : Int)] else [] := by
  unfold Pl.opn
  rw [List.range_succ, List.filter_append, List.map_append]
  congr 1
  cases h : P.openAt (k : Int) <;> simp [h]
theorem opn_len (P : Pl) (k : Nat) : (P.opn k).length ≤ k := by
  unfold Pl.opn
  rw [List.length_map]
  have := List.length_filter_le (fun (i : Nat) => P.openAt (i : Int)) (List.range k)
  simpa using this
theorem opn_mem (P : Pl) (k : Nat) (x : Int) : x ∈ P.opn k ↔ 0 ≤ x ∧ x < (k : Int) ∧ P.openAt x = true := by
  unfold Pl.opn
  rw [List.mem_map]
  constructor
  · rintro ⟨i, hi, rfl⟩
    rw [List.mem_filter, List.mem_range] at hi
    exact ⟨by omega, by omega, hi.2⟩
  · rintro ⟨h0, h1, h2⟩
    refine ⟨x.toNat, ?_, by omega⟩
    rw [List.mem_filter, List.mem_range]
    have : ((x.toNat : Nat) : Int) = x := by omega
    exact ⟨by omega, by rw [this]; exact h2⟩
theorem opn_sameF {P : Pl} (hok : P.ok) (k : Nat) : SameF P (P.clr (P.opn k)) := by
  refine clr_sameF hok _ (fun x hx => ?_)
  have h := (opn_mem P k x).1 hx
  refine ⟨open_in hok h.2.2, ?_⟩
  cases hs : (P.at x).start
  · rfl
  · rw [st_shut hok x hs] at h; cases h.2.2
theorem opn_clr_step {P : Pl} (k : Nat) (h : P.openAt (k : Int) = true) : P.clr (P.opn (k + 1)) = (P.clr (P.opn k)).set (k : Int) Cell.zero ∧ (P.opn (k + 1)).length = (P.opn k).length + 1 := by
  have e : P.opn (k + 1) = P.opn k ++ [(k : Int)] := by rw [opn_step, h]; rfl
  rw [e]
  exact ⟨clr_snoc _ _ _, by simp⟩
theorem opn_clr_skip {P : Pl} (k : Nat) (h : P.openAt (k : Int) = false) : P.opn (k + 1) = P.opn k := by
  rw [opn_step, h]
  simp

/-- Fields that are modified no more, those that are not protected. -/
def Pl.unm (P : Pl) (fs : List Fld) : Pl := fs.foldl (fun P f => if prot f.attr then P else P.mark f.start false) P
theorem unm_snoc (P : Pl) (fs : List Fld) (f : Fld) : P.unm (fs ++ [f]) = if prot f.attr then P.unm fs else (P.unm fs).mark f.start false := by simp [Pl.unm]
theorem unm_take (P : Pl) (fs : List Fld) (k : Nat) (hk : k < fs.length) : P.unm (fs.take (k + 1)) = if prot fs[k].attr then P.unm (fs.take k) else (P.unm (fs.take k)).mark fs[k].start false := by
  rw [List.take_add_one, List.getElem?_eq_getElem hk]
  exact unm_snoc _ _ _
theorem mark_same (P : Pl) (s : Int) (on : Bool) : (P.mark s on).rows = P.rows ∧ (P.mark s on).cols = P.cols ∧ (P.mark s on).cells.length = P.cells.length ∧ (P.mark s on).cursor = P.cursor := ⟨rfl, rfl, P.set_len _ _, rfl⟩
theorem mark_at (P : Pl) (s : Int) (on : Bool) (h0 : 0 ≤ s) (h1 : s < (P.cells.length : Int)) (j : Int) : (P.mark s on).at j = if j = s then { P.at s with byte := modi (P.at s).byte on } else P.at j := P.at_set s _ h0 h1 j
theorem mark_sameSt {P0 P : Pl} (h : SameSt P0 P) (s : Int) (on : Bool) (h0 : 0 ≤ s) (h1 : s < (P.cells.length : Int)) : SameSt P0 (P.mark s on) :=
  h.set h0 h1 (by show (P.at s).start = _; exact h.st s)
theorem mark_ok {P : Pl} (h : P.ok) (s : Int) (on : Bool) : (P.mark s on).ok := Pl.set_ok h (mark_cell h s on)

theorem modi_prot (x : Int) (on : Bool) (h : 0 ≤ x ∧ x ≤ 255) : prot (modi x on) = prot x := by
  unfold prot modi
  cases on <;> simp <;> congr 1 <;> omega
theorem low6_prot (x : Int) (h : 0 ≤ x ∧ x ≤ 255) : prot (low6 x) = prot x := by
  unfold prot low6
  congr 1
  omega

/-- Is there an unprotected field at a place, among the first k? -/
def Pl.unp (P : Pl) (k : Nat) (j : Int) : Bool := (P.flds.take k).any fun f => f.start == j && !prot f.attr
theorem unp_step (P : Pl) (k : Nat) (hk : k < P.flds.length) (j : Int) : P.unp (k + 1) j = (P.unp k j || (P.flds[k].start == j && !prot P.flds[k].attr)) := by
  unfold Pl.unp
  rw [List.take_add_one, List.getElem?_eq_getElem hk, List.any_append]
  simp
theorem unp_new {P : Pl} (k : Nat) (hk : k < P.flds.length) : P.unp k P.flds[k].start = false := by
  unfold Pl.unp
  rw [List.any_eq_false]
  intro f hf
  obtain ⟨c, hc, e⟩ := List.getElem_of_mem hf
  rw [List.length_take] at hc
  rw [List.getElem_take] at e
  have := flds_start_lt P (show c < k by omega) hk
  rw [e] at this
  simp only [Bool.and_eq_true, beq_iff_eq, not_and]
  intro h; omega
theorem unm_spec {P : Pl} (hok : P.ok) (k : Nat) (hk : k ≤ P.flds.length) : SameSt P (P.unm (P.flds.take k)) ∧ (P.unm (P.flds.take k)).ok ∧ (P.unm (P.flds.take k)).cursor = P.cursor ∧ ∀ j, (P.unm (P.flds.take k)).at j = if P.unp k j then { P.at j with byte := modi (P.at j).byte false } else P.at j := by
  induction k with
  | zero => exact ⟨SameSt.refl P, hok, rfl, fun j => by simp [Pl.unm, Pl.unp]⟩
  | succ k ih =>
    have hk' : k < P.flds.length := by omega
    obtain ⟨h1, h2, h3, h4⟩ := ih (by omega)
    have hr := fld_ok hok k hk'
    rw [unm_take P P.flds k hk']
    cases hp : prot P.flds[k].attr
    · rw [if_neg (by simp)]
      have s1 : P.flds[k].start < ((P.unm (P.flds.take k)).cells.length : Int) := by rw [h1.len]; exact hr.2.1
      refine ⟨mark_sameSt h1 _ _ hr.1 s1, mark_ok h2 _ _, h3, fun j => ?_⟩
      rw [mark_at _ _ _ hr.1 s1, unp_step P k hk', hp]
      by_cases e : j = P.flds[k].start
      · subst e
        rw [if_pos rfl, h4, unp_new k hk']
        simp
      · rw [if_neg e, h4]
        have : (P.flds[k].start == j) = false := by simp; omega
        rw [this]
        simp
    · rw [if_pos rfl]
      refine ⟨h1, h2, h3, fun j => ?_⟩
      rw [h4, unp_step P k hk', hp]
      simp
theorem unm_later {P : Pl} (hok : P.ok) (k : Nat) (hk : k ≤ P.flds.length) (j i : Nat) (hkj : k ≤ j) (hi : P.starts[j]? = some i) : ((P.unm (P.flds.take k)).at (i : Int)).byte = (P.at (i : Int)).byte := by
  obtain ⟨-, -, -, h4⟩ := unm_spec hok k hk
  obtain ⟨hj, e⟩ := List.getElem?_eq_some_iff.1 hi
  rw [h4]
  have hj' : j < P.flds.length := by rw [flds_len]; exact hj
  have : P.unp k (i : Int) = false := by
    unfold Pl.unp
    rw [List.any_eq_false]
    intro f hf
    obtain ⟨c, hc, e2⟩ := List.getElem_of_mem hf
    rw [List.length_take] at hc
    rw [List.getElem_take] at e2
    have := flds_start_lt P (show c < j by omega) hj'
    rw [e2, flds_at] at this
    simp only [Bool.and_eq_true, beq_iff_eq, not_and]
    intro h
    have : f.start < ((P.starts[j] : Nat) : Int) := this
    rw [e] at this; omega
  rw [this]
  simp
/-- What is open stays so. -/
theorem find_congr {α : Type} {l : List α} {p q : α → Bool} (h : ∀ x ∈ l, p x = q x) : l.find? p = l.find? q := by
  induction l with
  | nil => rfl
  | cons a l ih => rw [List.find?_cons, List.find?_cons, h a (List.mem_cons_self ..), ih (fun x hx => h x (List.mem_cons_of_mem _ hx))]
theorem unm_home {P : Pl} (hok : P.ok) : (P.unm P.flds).home = P.home := by
  have h := unm_spec hok P.flds.length (Nat.le_refl _)
  rw [List.take_length] at h
  obtain ⟨h1, h2, -, h4⟩ := h
  obtain ⟨U, hU⟩ : ∃ U, P.unm P.flds = U := ⟨_, rfl⟩
  rw [hU] at h1 h2 h4 ⊢
  clear hU
  unfold Pl.home
  have hf : U.flds = P.flds.map fun (f : Fld) => { f with attr := (U.fld f.start).attr } := by
    unfold Pl.flds
    rw [h1.starts, List.map_map]
    apply List.map_congr_left
    intro i hi
    show U.fld (i : Int) = _
    unfold Pl.fld
    rw [h1.after, h1.len]
    rfl
  rw [hf, List.find?_map, h1.len]
  have hq : (Pl.homeF ∘ fun (f : Fld) => ({ f with attr := (U.fld f.start).attr } : Fld)) = fun (f : Fld) => decide (0 < f.len) && !prot (U.fld f.start).attr := rfl
  rw [hq]
  have hc : P.flds.find? (fun (f : Fld) => decide (0 < f.len) && !prot (U.fld f.start).attr) = P.flds.find? Pl.homeF := by
    refine find_congr (fun f hfm => ?_)
    obtain ⟨c, hc, e⟩ := List.getElem_of_mem hfm
    unfold Pl.homeF
    congr 2
    have ha : f.attr = low6 (P.at f.start).byte := by rw [← e, flds_at]; rfl
    have hb := (Pl.at_ok hok f.start).1
    have hb2 := (Pl.at_ok h2 f.start).1
    show prot (low6 (U.at f.start).byte) = _
    rw [low6_prot _ hb2, ha, low6_prot _ hb, h4]
    split
    · exact modi_prot (P.at f.start).byte false hb
    · rfl
  rw [hc]
  cases P.flds.find? Pl.homeF <;> rfl
end Go.Proofs.Ytbkddgeocmkegaa

namespace Go.Proofs.Ytbkddgeocmkegaa
open Go.RowKit Go.Shelf
set_option linter.unusedSimpArgs false
set_option linter.unusedVariables false
set_option maxHeartbeats 2000000
attribute [local go_sem ↓] run_start run_byte run_cols
attribute [local go_sem] Oper.semAt_some

/-- Cells that hold. -/
def Cells (cs : List (Addr × Value)) (W : World) : Prop := ∀ p ∈ cs, W.cell? p.1 = some p.2
theorem Cells.aux {cs : List (Addr × Value)} {B : Nat} {W W' : World} (h : Cells cs W) (ha : Aux B W W') : Cells cs W' := fun p hp => ha.cell (h p hp)
theorem Cells.chg {cs : List (Addr × Value)} {S : Nat → Prop} {W W' : World} (h : Cells cs W) (hk : Chg S W W') (hs : ∀ p ∈ cs, ¬ S p.1.block) : Cells cs W' := fun p hp => cell_keepC (h p hp) hk (hs p hp)

/-- A plane that is turned, new blocks that stay, and one that counts. -/
structure RI (w : World) (g b cap B N : Nat) (cs : List (Addr × Value)) (P : Pl) (u : Value) (W : World) : Prop where
  pl : PL W g b cap P
  cs : Cells cs W
  cn : W.cell? ⟨N, 0, none⟩ = some u
  fn : W.frozen? ⟨N, 0, none⟩ = false
  chg : Chg (· = b) w W
  sz : B ≤ W.heap.size
theorem RI.aux {w W W' : World} {g b cap B N : Nat} {cs : List (Addr × Value)} {P : Pl} {u : Value} (h : RI w g b cap B N cs P u W) (hB : w.heap.size ≤ B) (ha : Aux B W W') : RI w g b cap B N cs P u W' :=
  ⟨h.pl.aux ha, h.cs.aux ha, ha.cell h.cn, (ha.frozen h.cn).trans h.fn, ha.chg h.chg hB, Nat.le_trans h.sz ha.size⟩
theorem RI.turn {w W W1 : World} {g b cap B N : Nat} {cs : List (Addr × Value)} {P P' : Pl} {u : Value} (h : RI w g b cap B N cs P u W) (hbl : b < w.heap.size) (hN : w.heap.size ≤ N) (hcs : ∀ p ∈ cs, w.heap.size ≤ p.1.block ∧ p.1.block ≠ N) (hP : PL W1 g b cap P') (hk : Chg (· = b) W W1) : RI w g b cap B N cs P' u W1 :=
  ⟨hP, h.cs.chg hk (fun p hp => by have := hcs p hp; omega), cell_keepC h.cn hk (by show ¬ N = b; omega), frozen_keepC h.cn h.fn hk (by show ¬ N = b; omega), h.chg.trans hk, Nat.le_trans h.sz hk.size⟩
theorem RI.count {w W : World} {g b cap B N : Nat} {cs : List (Addr × Value)} {P : Pl} {u : Value} (h : RI w g b cap B N cs P u W) (hgl : g < w.heap.size) (hbl : b < w.heap.size) (hN : w.heap.size ≤ N) (hcs : ∀ p ∈ cs, w.heap.size ≤ p.1.block ∧ p.1.block ≠ N) (v : Value) : RI w g b cap B N cs P v (W.setCell ⟨N, 0, none⟩ v) :=
  have hs : Chg (· = N) W (W.setCell ⟨N, 0, none⟩ v) := chg_set _ _ _ _
  ⟨h.pl.chg hs (by omega) (by omega), h.cs.chg hs (fun p hp => (hcs p hp).2), cell_set_same _ h.cn, by rw [World.frozen?_setCell]; exact h.fn, h.chg.setCell (.inr hN) _, by have := h.sz; simpa using this⟩
theorem RI.drew {w W : World} {g b cap B N : Nat} {cs : List (Addr × Value)} {P : Pl} {u : Value} (h : RI w g b cap B N cs P u W) : RI w g b cap B N cs P u W.drew := ⟨h.pl.drew, h.cs, h.cn, h.fn, h.chg.drew, h.sz⟩

theorem Between_any (r c a d : Int) (w : World) :
    Calls Try.prog 166 #[.agg #[.int .i64 r, .int .i64 c], .int .i64 a, .int .i64 d] w fun e w' => e = .returned (.func (.func 202) #[] #[.pointer (some ⟨w.heap.size, 0, none⟩), .pointer (some ⟨w.heap.size + 1, 0, none⟩), .pointer (some ⟨w.heap.size + 1 + 1, 0, none⟩)]) ∧ ((w.alloc (.cells #[.int .i64 r, .int .i64 c] 48)).alloc (.cells #[.int .i64 a] 3)).alloc (.cells #[.int .i64 d] 3) = w' := by
  go_enter Try.func166, Try.ntmps166
  go_wp2
  go_ret
  exact ⟨rfl, rfl⟩

/-- Cells turned. -/
def Pl.fil (P : Pl) (l : List Int) (c : Cell) : Pl := l.foldl (fun P i => P.set i c) P
theorem fil_clr (P : Pl) (l : List Int) : P.fil l Cell.zero = P.clr l := rfl
theorem fil_take (P : Pl) (l : List Int) (c : Cell) (k : Nat) (hk : k < l.length) : P.fil (l.take (k + 1)) c = (P.fil (l.take k) c).set l[k] c := by
  unfold Pl.fil
  rw [List.take_add_one, List.getElem?_eq_getElem hk, List.foldl_append]
  rfl
theorem fil_same (P : Pl) (l : List Int) (c : Cell) : (P.fil l c).rows = P.rows ∧ (P.fil l c).cols = P.cols ∧ (P.fil l c).cells.length = P.cells.length ∧ (P.fil l c).cursor = P.cursor := by
  induction l generalizing P with
  | nil => exact ⟨rfl, rfl, rfl, rfl⟩
  | cons x l ih =>
    have h := ih (P.set x c)
    exact ⟨h.1, h.2.1, h.2.2.1.trans (P.set_len x _), h.2.2.2⟩
theorem fil_ok {P : Pl} (h : P.ok) (l : List Int) {c : Cell} (hc : c.ok) : (P.fil l c).ok := by
  induction l generalizing P with
  | nil => exact h
  | cons x l ih => exact ih (Pl.set_ok h hc)
theorem fil_at (P : Pl) (l : List Int) (c : Cell) (hl : ∀ x ∈ l, 0 ≤ x ∧ x < (P.cells.length : Int)) (j : Int) : (P.fil l c).at j = if j ∈ l then c else P.at j := by
  induction l generalizing P with
  | nil => simp [Pl.fil]
  | cons x l ih =>
    have hx := hl x (List.mem_cons_self ..)
    have := ih (P.set x c) (fun y hy => by rw [P.set_len]; exact hl y (List.mem_cons_of_mem _ hy))
    show ((P.set x c).fil l c).at j = _
    rw [this, P.at_set x _ hx.1 hx.2]
    by_cases h1 : j ∈ l
    · rw [if_pos h1, if_pos (List.mem_cons_of_mem _ h1)]
    · rw [if_neg h1]
      by_cases h2 : j = x
      · rw [if_pos h2, if_pos (by rw [h2]; exact List.mem_cons_self ..)]
      · rw [if_neg h2, if_neg (by simp [h1, h2])]
theorem btw_range {n : Int} (hn : 0 < n) (a d : Int) : ∀ x ∈ btw n a d, 0 ≤ x ∧ x < n := by
  intro x hx
  unfold btw at hx
  rw [List.mem_map] at hx
  obtain ⟨i, _, rfl⟩ := hx
  exact ⟨Int.emod_nonneg _ (by omega), Int.emod_lt_of_pos _ hn⟩
end Go.Proofs.Ytbkddgeocmkegaa
