/- Lemmas on the way to this seat's statements; they bear no condition of their own. -/
import Derived.Test.YtbkddgeocmkegaaW6
import Derived.Test.YtbkddgeocmkegaaM2
namespace Go.Proofs.Ytbkddgeocmkegaa
open Go.RowKit Go.Shelf
set_option linter.unusedSimpArgs false
set_option linter.unusedVariables false
set_option maxHeartbeats 4000000
attribute [local go_sem ↓] run_start run_byte run_cols run_neq_cell run_eql_cell run_eql_size

theorem wAll_any {w : World} {g b cap : Nat} {P : Pl} (h : PL w g b cap P) :
    Calls Try.prog 110 #[.pointer (some ⟨g, 0, none⟩)] w fun e w' => e = .returned (.tuple #[]) ∧ PL w' g b cap P.clear ∧ Chg (fun k => k = g ∨ k = b) w w' := by
  go_enter Try.func110, Try.ntmps110
  go_wp2_with fail
  refine (Clear_any h).mono ?_
  rintro e w1 ⟨rfl, hP1, hk1⟩
  go_wp2
  go_end0
  exact ⟨rfl, hP1, hk1⟩

def al17 : List Cell := [⟨0, false, true, 0, 0⟩, ⟨193, false, false, 0, 0⟩, ⟨194, false, false, 0, 0⟩, ⟨32, false, true, 0, 0⟩, ⟨195, false, false, 0, 0⟩]
def A17 : Pl := (Pl.new 1 5).fillK al17 5
def B17 : Pl := (A17.clr ([1, 2].drop 1)).mark 0 true
def C17 : Pl := B17.wiped.clr [4]

set_option maxRecDepth 100000 in
theorem alive17_any (w : World) : Calls Try.prog 50 #[] w fun e w' => e = .returned (.bool true) ∧ Below w.heap.size w w' := by
  have hal : ∀ (k : Nat) (hk : k < al17.length), al17[k].ok := fun k hk => al_ok al17 (by decide) _ (List.getElem_mem hk)
  go_enter Try.func50, Try.ntmps50
  go_wp2_with fail
  refine (New_in 1 5 (by decide) (by decide) (by decide) (by decide) (by decide)).mono ?_
  rintro e w1 ⟨g, b, cap, rfl, hP, hgg, hgb, hb1⟩
  have hz1 := hb1.size
  have hne := hP.ne
  go_wp2
  obtain ⟨W, hW⟩ : ∃ W, w1.alloc (.cells (flat al17).toArray 96) = W := ⟨_, rfl⟩
  have hWb : W.heap[w1.heap.size]? = some (.cells (flat al17 ++ []).toArray 96 (0, 0)) := by rw [← hW, List.append_nil]; exact World.alloc_heap_new w1 _
  have hBW : Below w1.heap.size w1 W := by rw [← hW]; exact (Below.refl _ _).alloc (Nat.le_refl _) _
  have hzW : W.heap.size = w1.heap.size + 1 := by rw [← hW]; simp
  have hPW := hP.below hBW
  have hgl := hP.gl
  have hbl := hP.bl
  change Code.wp _ _ _ _ (w1.alloc (.cells (flat al17).toArray 96))
  rw [hW]
  clear hW hP
  go_loopw [28] (fun i wr => ∃ k : Nat, k ≤ 5 ∧ i = .int .i64 (k : Int) ∧ PL wr g b cap ((Pl.new 1 5).fillK al17 k) ∧ Chg (· = b) W wr) (fun i _ => 5 - (intOf i).toNat)
  case atStart => exact ⟨0, Nat.zero_le _, rfl, hPW, Chg.refl _ _⟩
  case round =>
    obtain ⟨k, hk, rfl, hPk, hC⟩ := hrel
    have hlenk := (Pl.new 1 5).fillK_len al17 k
    have hn5 : (Pl.new 1 5).cells.length = 5 := rfl
    have hzr := hC.size
    by_cases hlt : k < 5
    · have hlt' : (k : Int) < 5 := by omega
      have hstep := (Pl.new 1 5).fillK_step al17 k hlt
      have hcok := hal k hlt
      have hrow := row_cells ((hC.block w1.heap.size (by omega) (by omega)).trans hWb) k hlt
      obtain ⟨x, hx⟩ : ∃ x, al17[k] = x := ⟨_, rfl⟩
      rw [hx] at hstep hcok hrow
      have HST := Lib.hid hstep
      clear hstep hx
      obtain ⟨a0, a1, a2, a3, a4⟩ := hrow
      have hBa : Below wr.heap.size wr (wr.alloc (.cells #[.int .u8 x.byte, .bool x.ge, .bool x.start, .int .u8 x.light, .int .u8 x.color] 96)) := (Below.refl _ _).alloc (Nat.le_refl _) _
      go_wp2_with fail
      refine (Set_in (hPk.below hBa) (k : Int) x (by omega) (by rw [hlenk, hn5]; exact hlt') hcok).mono ?_
      rintro e w5 ⟨rfl, hP5, hk5⟩
      go_wp2
      go_roundw
      case rel => exact ⟨k + 1, by omega, by go_num, by rw [HST.out]; exact hP5, (hC.alloc _).trans hk5⟩
      case measure => simp [intOf]; omega
    · have e : k = 5 := by omega
      subst e
      have hP0 : PL wr g b cap A17 := hPk
      have hB0 : Below w.heap.size w wr := (hb1.trans (hBW.mono hz1)).trans (hC.below (by omega) (fun j hj => by omega))
      have hz0 := hB0.size
      clear hPk
      have hQ0 := hP0
      have hV0 := hB0
      go_wp2_with fail
      refine (Rest_list hQ0 2 (by decide +kernel) (by decide +kernel) ⟨0, 2, 0⟩ (Lib.hid (by decide +kernel)) (by decide) (by decide) [1, 2] (Lib.hid (by decide +kernel)) 1 (by decide) (Lib.hid (by
        intro j hj
        match j, hj with
        | 0, _ => simp
        | 1, _ => simp)) (Lib.hid (by decide +kernel))).mono ?_
      rintro e v1 ⟨rfl, hQ1, hk1⟩
      replace hQ1 : PL v1 g b cap B17 := hQ1
      have hV1 : Below w.heap.size w v1 := hV0.trans (hk1.below hV0.size (fun j hj => by omega))
      clear hk1 hQ0 hV0
      go_wp2_with fail
      refine (Rest_shut hQ1 4 (by decide +kernel)).mono ?_
      rintro e v2 ⟨rfl, hb2⟩
      have hQ2 := hQ1.below hb2
      have hV2 := hV1.trans (hb2.mono hV1.size)
      clear hb2 hQ1 hV1
      go_wp2_with fail
      refine (At_any hQ2 0).mono ?_
      rw [show B17.at 0 = ⟨1, false, true, 0, 0⟩ from by decide +kernel]
      rintro e v3 ⟨rfl, hb3⟩
      have hQ3 := hQ2.below hb3
      have hV3 := hV2.trans (hb3.mono hV2.size)
      clear hb3 hQ2 hV2
      go_wp2_with fail
      refine (wOpen_any hQ3).mono ?_
      rw [show (B17.opn B17.cells.length).length = 2 from by decide +kernel]
      rintro e v4 ⟨rfl, hQ4, hk4⟩
      have hV4 : Below w.heap.size w v4 := hV3.trans (hk4.below hV3.size (fun j hj => by omega))
      clear hk4 hQ3 hV3
      go_wp2_with fail
      refine (Inside_list hQ4 ⟨3, 1, 0⟩ (by decide) (by decide +kernel) [4] (Lib.hid (by decide +kernel))).mono ?_
      rintro e v5 ⟨rfl, hQ5, hk5⟩
      replace hQ5 : PL v5 g b cap C17 := hQ5
      have hV5 : Below w.heap.size w v5 := hV4.trans (hk5.below hV4.size (fun j hj => by omega))
      clear hk5 hQ4 hV4
      go_wp2_with fail
      refine (At_any hQ5 4).mono ?_
      rw [show C17.at 4 = ⟨0, false, false, 0, 0⟩ from by decide +kernel]
      rintro e v6 ⟨rfl, hb6⟩
      have hQ6 := hQ5.below hb6
      have hV6 := hV5.trans (hb6.mono hV5.size)
      clear hb6 hQ5 hV5
      go_wp2_with fail
      refine (Cursor_any hQ6).mono ?_
      rw [show C17.cursor = 1 from by decide +kernel]
      rintro e v7 ⟨rfl, hb7⟩
      have hQ7 := hQ6.below hb7
      have hV7 := hV6.trans (hb7.mono hV6.size)
      clear hb7 hQ6 hV6
      go_wp2_with fail
      refine (wAll_any hQ7).mono ?_
      rintro e v8 ⟨rfl, hQ8, hk8⟩
      have hV8 : Below w.heap.size w v8 := hV7.trans (hk8.below hV7.size (fun j hj => by omega))
      clear hk8 hQ7 hV7
      go_wp2_with fail
      refine (Formatted_any hQ8).mono ?_
      rw [show C17.clear.fmt = false from by decide +kernel]
      rintro e v9 ⟨rfl, hb9⟩
      have hQ9 := hQ8.below hb9
      have hV9 := hV8.trans (hb9.mono hV8.size)
      clear hb9 hQ8 hV8
      go_wp2_with fail
      refine (Cursor_any hQ9).mono ?_
      rintro e v10 ⟨rfl, hb10⟩
      go_wp2
      go_ret
      exact ⟨by rfl, hV9.trans (hb10.mono hV9.size)⟩
end Go.Proofs.Ytbkddgeocmkegaa
