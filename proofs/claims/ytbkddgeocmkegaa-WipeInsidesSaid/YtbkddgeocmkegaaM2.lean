/- Lemmas on the way to this seat's statements; they bear no condition of their own. -/
import Derived.Test.YtbkddgeocmkegaaM1
namespace Go.Proofs.Ytbkddgeocmkegaa
open Go.RowKit Go.Shelf
set_option linter.unusedSimpArgs false
set_option linter.unusedVariables false
set_option maxHeartbeats 4000000
attribute [local go_sem ↓] run_start run_byte run_cols

theorem row_cells {w : World} {b : Nat} {cs : List Cell} {rest : List Value} (hb : w.heap[b]? = some (.cells (flat cs ++ rest).toArray 96 (0, 0))) (i : Nat) (hi : i < cs.length) :
    w.cell? ⟨b, i * 5, none⟩ = some (.int .u8 cs[i].byte) ∧ w.cell? ⟨b, i * 5 + 1, none⟩ = some (.bool cs[i].ge) ∧ w.cell? ⟨b, i * 5 + 2, none⟩ = some (.bool cs[i].start) ∧ w.cell? ⟨b, i * 5 + 3, none⟩ = some (.int .u8 cs[i].light) ∧ w.cell? ⟨b, i * 5 + 4, none⟩ = some (.int .u8 cs[i].color) := by
  have key : ∀ k, k < 5 → w.cell? ⟨b, i * 5 + k, none⟩ = (cs[i].vals)[k]? := by
    intro k hk
    simp only [World.cell?, hb, Option.isSome_none, Bool.false_eq_true, if_false, List.getElem?_toArray]
    rw [List.getElem?_append_left (by rw [flat_len]; omega), flat_get _ _ hi _ hk]
  have k0 := key 0 (by omega)
  have k1 := key 1 (by omega)
  have k2 := key 2 (by omega)
  have k3 := key 3 (by omega)
  have k4 := key 4 (by omega)
  simp [Cell.vals] at k0 k1 k2 k3 k4
  exact ⟨k0, k1, k2, k3, k4⟩

def Cell.okB (c : Cell) : Bool := decide (0 ≤ c.byte) && (decide (c.byte ≤ 255) && (decide (0 ≤ c.light) && (decide (c.light ≤ 255) && (decide (0 ≤ c.color) && decide (c.color ≤ 255)))))
theorem al_ok (l : List Cell) (h : l.all Cell.okB = true) : ∀ c ∈ l, c.ok := by
  intro c hc
  have := List.all_eq_true.1 h c hc
  unfold Cell.okB at this
  simp only [Bool.and_eq_true, decide_eq_true_eq] at this
  exact ⟨⟨this.1, this.2.1⟩, ⟨this.2.2.1, this.2.2.2.1⟩, ⟨this.2.2.2.2.1, this.2.2.2.2.2⟩⟩

def al19 : List Cell := [⟨0, false, true, 0, 0⟩, ⟨193, false, false, 0, 0⟩, ⟨32, false, true, 0, 0⟩, ⟨0, false, true, 0, 0⟩, ⟨194, false, false, 0, 0⟩, ⟨195, false, false, 0, 0⟩]
def A19 : Pl := (Pl.new 2 3).fillK al19 6

set_option maxRecDepth 100000 in
theorem alive19_any (w : World) : Calls Try.prog 33 #[] w fun e w' => e = .returned (.bool true) ∧ Below w.heap.size w w' := by
  have hal : ∀ (k : Nat) (hk : k < al19.length), al19[k].ok := fun k hk => al_ok al19 (by decide) _ (List.getElem_mem hk)
  go_enter Try.func33, Try.ntmps33
  go_wp2_with fail
  refine (New_in 2 3 (by decide) (by decide) (by decide) (by decide) (by decide)).mono ?_
  rintro e w1 ⟨g, b, cap, rfl, hP, hgg, hgb, hb1⟩
  have hz1 := hb1.size
  have hne := hP.ne
  go_wp2
  obtain ⟨W, hW⟩ : ∃ W, w1.alloc (.cells (flat al19).toArray 96) = W := ⟨_, rfl⟩
  have hWb : W.heap[w1.heap.size]? = some (.cells (flat al19 ++ []).toArray 96 (0, 0)) := by rw [← hW, List.append_nil]; exact World.alloc_heap_new w1 _
  have hBW : Below w1.heap.size w1 W := by rw [← hW]; exact (Below.refl _ _).alloc (Nat.le_refl _) _
  have hzW : W.heap.size = w1.heap.size + 1 := by rw [← hW]; simp
  have hPW := hP.below hBW
  have hgl := hP.gl
  have hbl := hP.bl
  change Code.wp _ _ _ _ (w1.alloc (.cells (flat al19).toArray 96))
  rw [hW]
  clear hW hP
  go_loopw [28] (fun i wr => ∃ k : Nat, k ≤ 6 ∧ i = .int .i64 (k : Int) ∧ PL wr g b cap ((Pl.new 2 3).fillK al19 k) ∧ Chg (· = b) W wr) (fun i _ => 6 - (intOf i).toNat)
  case atStart => exact ⟨0, Nat.zero_le _, rfl, hPW, Chg.refl _ _⟩
  case round =>
    obtain ⟨k, hk, rfl, hPk, hC⟩ := hrel
    have hlenk := (Pl.new 2 3).fillK_len al19 k
    have hn6 : (Pl.new 2 3).cells.length = 6 := rfl
    have hzr := hC.size
    by_cases hlt : k < 6
    · have hlt' : (k : Int) < 6 := by omega
      have hstep := (Pl.new 2 3).fillK_step al19 k hlt
      have hcok := hal k hlt
      have hrow := row_cells ((hC.block w1.heap.size (by omega) (by omega)).trans hWb) k hlt
      obtain ⟨x, hx⟩ : ∃ x, al19[k] = x := ⟨_, rfl⟩
      rw [hx] at hstep hcok hrow
      have HST := Lib.hid hstep
      clear hstep hx
      obtain ⟨a0, a1, a2, a3, a4⟩ := hrow
      have hBa : Below wr.heap.size wr (wr.alloc (.cells #[.int .u8 x.byte, .bool x.ge, .bool x.start, .int .u8 x.light, .int .u8 x.color] 96)) := (Below.refl _ _).alloc (Nat.le_refl _) _
      go_wp2_with fail
      refine (Set_in (hPk.below hBa) (k : Int) x (by omega) (by rw [hlenk, hn6]; exact hlt') hcok).mono ?_
      rintro e w5 ⟨rfl, hP5, hk5⟩
      go_wp2
      go_roundw
      case rel => exact ⟨k + 1, by omega, by go_num, by rw [HST.out]; exact hP5, (hC.alloc _).trans hk5⟩
      case measure => simp [intOf]; omega
    · have e : k = 6 := by omega
      subst e
      have hP0 : PL wr g b cap A19 := hPk
      have hB0 : Below w.heap.size w wr := (hb1.trans (hBW.mono hz1)).trans (hC.below (by omega) (fun j hj => by omega))
      have hz0 := hB0.size
      clear hPk
      have hQ0 := hP0
      have hV0 := hB0
      go_wp2_with fail
      refine (Point_in hQ0 1 (by decide) (by decide)).mono ?_
      rintro e v1 ⟨rfl, hQ1, hk1⟩
      replace hQ1 : PL v1 g b cap (A19.point 1) := hQ1
      have hV1 : Below w.heap.size w v1 := hV0.trans (hk1.below hV0.size (fun j hj => by omega))
      clear hk1 hQ0 hV0
      go_wp2_with fail
      refine (Tab_any hQ1).mono ?_
      rw [show (A19.point 1).tab = 4 from by decide +kernel]
      rintro e v2 ⟨rfl, hQ2, hk2⟩
      replace hQ2 : PL v2 g b cap (A19.point 4) := hQ2
      have hV2 : Below w.heap.size w v2 := hV1.trans (hk2.below hV1.size (fun j hj => by omega))
      clear hk2 hQ1 hV1
      go_wp2_with fail
      refine (Tab_any hQ2).mono ?_
      rw [show (A19.point 4).tab = 1 from by decide +kernel]
      rintro e v3 ⟨rfl, hQ3, hk3⟩
      replace hQ3 : PL v3 g b cap (A19.point 1) := hQ3
      have hV3 : Below w.heap.size w v3 := hV2.trans (hk3.below hV2.size (fun j hj => by omega))
      clear hk3 hQ2 hV2
      go_wp2_with fail
      refine (Point_in hQ3 5 (by decide) (by decide)).mono ?_
      rintro e v4 ⟨rfl, hQ4, hk4⟩
      replace hQ4 : PL v4 g b cap (A19.point 5) := hQ4
      have hV4 : Below w.heap.size w v4 := hV3.trans (hk4.below hV3.size (fun j hj => by omega))
      clear hk4 hQ3 hV3
      go_wp2_with fail
      refine (Back_any hQ4).mono ?_
      rw [show (A19.point 5).back = 4 from by decide +kernel]
      rintro e v5 ⟨rfl, hQ5, hk5⟩
      replace hQ5 : PL v5 g b cap (A19.point 4) := hQ5
      have hV5 : Below w.heap.size w v5 := hV4.trans (hk5.below hV4.size (fun j hj => by omega))
      clear hk5 hQ4 hV4
      go_wp2_with fail
      refine (Back_any hQ5).mono ?_
      rw [show (A19.point 4).back = 1 from by decide +kernel]
      rintro e v6 ⟨rfl, hQ6, hk6⟩
      replace hQ6 : PL v6 g b cap (A19.point 1) := hQ6
      have hV6 : Below w.heap.size w v6 := hV5.trans (hk6.below hV5.size (fun j hj => by omega))
      clear hk6 hQ5 hV5
      go_wp2_with fail
      refine (Newline_any hQ6).mono ?_
      rw [show (A19.point 1).newline = 4 from by decide +kernel]
      rintro e v7 ⟨rfl, hQ7, hk7⟩
      replace hQ7 : PL v7 g b cap (A19.point 4) := hQ7
      have hV7 : Below w.heap.size w v7 := hV6.trans (hk7.below hV6.size (fun j hj => by omega))
      clear hk7 hQ6 hV6
      go_wp2_with fail
      refine (caretMove_any hQ7 (-1) 1).mono ?_
      rw [show (A19.point 4).move (-1) 1 = 2 from by decide +kernel]
      rintro e v8 ⟨rfl, hQ8, hk8⟩
      replace hQ8 : PL v8 g b cap (A19.point 2) := hQ8
      have hV8 : Below w.heap.size w v8 := hV7.trans (hk8.below hV7.size (fun j hj => by omega))
      clear hk8 hQ7 hV7
      go_wp2_with fail
      refine (caretHome_any hQ8 (by decide +kernel) (by decide +kernel)).mono ?_
      rw [show (A19.point 2).home = 1 from by decide +kernel]
      rintro e v9 ⟨rfl, hQ9, hk9⟩
      replace hQ9 : PL v9 g b cap (A19.point 1) := hQ9
      have hV9 : Below w.heap.size w v9 := hV8.trans (hk9.below hV8.size (fun j hj => by omega))
      clear hk9 hQ8 hV8
      go_wp2_with fail
      refine (On_any hQ9).mono ?_
      rw [show (A19.point 1).on = 3 from by decide +kernel]
      rintro e v10 ⟨rfl, hQ10, hk10⟩
      replace hQ10 : PL v10 g b cap (A19.point 3) := hQ10
      have hV10 : Below w.heap.size w v10 := hV9.trans (hk10.below hV9.size (fun j hj => by omega))
      clear hk10 hQ9 hV9
      go_wp2_with fail
      refine (Cursor_any hQ10).mono ?_
      rintro e v11 ⟨rfl, hb11⟩
      go_wp2
      go_ret
      exact ⟨by rfl, hV10.trans (hb11.mono hV10.size)⟩
end Go.Proofs.Ytbkddgeocmkegaa
