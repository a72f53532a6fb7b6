/- Lemmas on the way to this seat's statements; they bear no condition of their own. -/
import Derived.Test.YtbkddgeocmkegaaG13
import Derived.Test.YtbkddgeocmkegaaEq
namespace Go.Proofs.Ytbkddgeocmkegaa
open Go.RowKit Go.Shelf
set_option linter.unusedSimpArgs false
set_option linter.unusedVariables false
set_option maxHeartbeats 2000000
attribute [local go_sem ↓] run_start run_byte run_cols run_neq_cell run_eql_cell run_eql_size

theorem PL.row5 {w : World} {g b cap : Nat} {P : Pl} (h : PL w g b cap P) (i : Nat) (hi : i < P.cells.length) :
    w.cell? ⟨b, i * 5, none⟩ = some (.int .u8 P.cells[i].byte) ∧ w.cell? ⟨b, i * 5 + 1, none⟩ = some (.bool P.cells[i].ge) ∧ w.cell? ⟨b, i * 5 + 2, none⟩ = some (.bool P.cells[i].start) ∧ w.cell? ⟨b, i * 5 + 3, none⟩ = some (.int .u8 P.cells[i].light) ∧ w.cell? ⟨b, i * 5 + 4, none⟩ = some (.int .u8 P.cells[i].color) := by
  have k0 := h.cell i hi 0 (by omega)
  have k1 := h.cell i hi 1 (by omega)
  have k2 := h.cell i hi 2 (by omega)
  have k3 := h.cell i hi 3 (by omega)
  have k4 := h.cell i hi 4 (by omega)
  simp [Cell.vals] at k0 k1 k2 k3 k4
  exact ⟨k0, k1, k2, k3, k4⟩

set_option maxRecDepth 100000 in
theorem Equal_any {w : World} {g b cap g' b' cap' : Nat} {P Q : Pl} (h : PL w g b cap P) (h' : PL w g' b' cap' Q) :
    Calls Try.prog 88 #[.slice (some ⟨b, 0, none⟩) P.cells.length cap, .slice (some ⟨b', 0, none⟩) Q.cells.length cap'] w fun e w' => e = .returned (.bool (decide (P.cells = Q.cells))) ∧ Below w.heap.size w w' := by
  have hm := Pl.N_le h.ok
  by_cases hl : P.cells.length = Q.cells.length
  · have hb0 : ((P.cells.length : Int) != (Q.cells.length : Int)) = false := by rw [hl]; simp
    have HL := Lib.hid hl
    clear hl
    go_enter Try.func88, Try.ntmps88
    go_wp2
    go_loopw [13] (fun i wr => ∃ k : Nat, k ≤ P.cells.length ∧ i = .int .i64 (k : Int) ∧ Below w.heap.size w wr ∧ ∀ (j : Nat) (h1 : j < P.cells.length) (h2 : j < Q.cells.length), j < k → P.cells[j] = Q.cells[j]) (fun i _ => P.cells.length - (intOf i).toNat)
    case atStart => exact ⟨0, Nat.zero_le _, rfl, Below.refl _ _, fun j _ _ hj => absurd hj (Nat.not_lt_zero _)⟩
    case round =>
      obtain ⟨k, hk, rfl, hB, hf⟩ := hrel
      have HF := Lib.hid hf
      clear hf
      by_cases hlt : k < P.cells.length
      · have hlt2 : k < Q.cells.length := by have := HL.out; omega
        obtain ⟨k0, k1, k2, k3, k4⟩ := (h.below hB).row5 k hlt
        obtain ⟨j0, j1, j2, j3, j4⟩ := (h'.below hB).row5 k hlt2
        have i1 : (k : Int) < (P.cells.length : Int) := by omega
        have i2 : (k : Int) < (Q.cells.length : Int) := by omega
        generalize hp : P.cells[k] = p at *
        generalize hq : Q.cells[k] = q at *
        have HP := Lib.hid hp
        have HQ := Lib.hid hq
        clear hp hq
        cases hpq : decide (p = q)
        · go_wp2
          go_quiet (fail)
          go_wp2
          go_ret
          exact ⟨by rw [decide_eq_false (fun (e : P.cells = Q.cells) => (of_decide_eq_false hpq) (by rw [← HP.out, ← HQ.out]; exact getElem_congr_coll e))]; rfl, below_drewN hB _⟩
        · have hpq' := of_decide_eq_true hpq
          go_wp2
          go_quiet (fail)
          go_wp2
          refine ⟨⟨k + 1, by omega, by go_num, below_drewN hB _, fun j h1 h2 hj => ?_⟩, by simp [intOf]; omega⟩
          rcases Nat.lt_succ_iff_lt_or_eq.1 hj with hj | rfl
          · exact HF.out j h1 h2 hj
          · rw [HP.out, HQ.out]; exact hpq'
      · go_wp2
        go_ret
        exact ⟨by rw [decide_eq_true (List.ext_getElem HL.out (fun j h1 h2 => HF.out j h1 h2 (by omega)))]; rfl, hB⟩
  · have hb0 : ((P.cells.length : Int) != (Q.cells.length : Int)) = true := by simp; omega
    go_enter Try.func88, Try.ntmps88
    go_wp2
    go_ret
    exact ⟨by rw [decide_eq_false (fun e => hl (by rw [e]))]; rfl, Below.refl _ _⟩

def SamePl (P Q : Pl) : Bool := decide (P.rows = Q.rows ∧ P.cols = Q.cols) && ((P.cursor == Q.cursor) && decide (P.cells = Q.cells))
def K8 (g g' b b' cap cap' : Nat) (P Q : Pl) (W : World) : Prop :=
  (W.cell? ⟨g, 0, none⟩ = some (.int .i64 P.rows) ∧ W.cell? ⟨g, 1, none⟩ = some (.int .i64 P.cols) ∧ W.cell? ⟨g, 2, none⟩ = some (.slice (some ⟨b, 0, none⟩) P.cells.length cap) ∧ W.cell? ⟨g, 3, none⟩ = some (.int .i64 P.cursor)) ∧
  (W.cell? ⟨g', 0, none⟩ = some (.int .i64 Q.rows) ∧ W.cell? ⟨g', 1, none⟩ = some (.int .i64 Q.cols) ∧ W.cell? ⟨g', 2, none⟩ = some (.slice (some ⟨b', 0, none⟩) Q.cells.length cap') ∧ W.cell? ⟨g', 3, none⟩ = some (.int .i64 Q.cursor))

theorem Same_any {w : World} {g b cap g' b' cap' : Nat} {P Q : Pl} (h : PL w g b cap P) (h' : PL w g' b' cap' Q) :
    Calls Try.prog 30 #[.pointer (some ⟨g, 0, none⟩), .pointer (some ⟨g', 0, none⟩)] w fun e w' => e = .returned (.bool (SamePl P Q)) ∧ Below w.heap.size w w' := by
  have f0 := h.f0
  have f1 := h.f1
  have f2 := h.f2
  have f3 := h.f3
  have g0 := h'.f0
  have g1 := h'.f1
  have g2 := h'.f2
  have g3 := h'.f3
  have E := Lib.hid (show SamePl P Q = (decide (P.rows = Q.rows ∧ P.cols = Q.cols) && ((P.cursor == Q.cursor) && decide (P.cells = Q.cells))) from rfl)
  cases d0 : decide (P.rows = Q.rows ∧ P.cols = Q.cols)
  · go_enter Try.func30, Try.ntmps30
    go_wp2
    go_quiet (fail)
    go_wp2
    go_ret
    exact ⟨by rw [E.out, d0]; rfl, below_drewN (Below.refl _ _) _⟩
  · cases d1 : (P.cursor == Q.cursor)
    · go_enter Try.func30, Try.ntmps30
      go_wp2
      go_quiet (fail)
      go_wp2
      go_ret
      exact ⟨by rw [E.out, d0, d1]; rfl, below_drewN (Below.refl _ _) _⟩
    · go_enter Try.func30, Try.ntmps30
      go_wp2
      go_region_held3 (fun w' => (w'.cell? ⟨g, 0, none⟩ = some (.int .i64 P.rows) ∧ w'.cell? ⟨g, 1, none⟩ = some (.int .i64 P.cols) ∧ w'.cell? ⟨g, 2, none⟩ = some (.slice (some ⟨b, 0, none⟩) P.cells.length cap) ∧ w'.cell? ⟨g, 3, none⟩ = some (.int .i64 P.cursor)) ∧
          (w'.cell? ⟨g', 0, none⟩ = some (.int .i64 Q.rows) ∧ w'.cell? ⟨g', 1, none⟩ = some (.int .i64 Q.cols) ∧ w'.cell? ⟨g', 2, none⟩ = some (.slice (some ⟨b', 0, none⟩) Q.cells.length cap') ∧ w'.cell? ⟨g', 3, none⟩ = some (.int .i64 Q.cursor)))
        (first | exact ⟨keep4 (And.left (by assumption)) hb1, keep4 (And.right (by assumption)) hb1⟩ | go_keep)
        (first | (go_at_call 88; refine (Equal_any h.drew h'.drew).mono ?_; rintro e w1 ⟨rfl, hb1⟩))
      go_wp2
      go_ret
      exact ⟨by rw [E.out, d0, d1]; rfl, (Below.refl _ _).drew.trans hb1⟩
end Go.Proofs.Ytbkddgeocmkegaa
