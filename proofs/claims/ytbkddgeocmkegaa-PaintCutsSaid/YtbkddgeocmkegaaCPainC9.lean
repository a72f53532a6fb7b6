/- Lemmas on the way to this seat's statements; they bear no condition of their own. -/
import Derived.Test.YtbkddgeocmkegaaCPainC8
import Derived.Deep.AppendLies
import Derived.BigFrame
namespace Go.Proofs.Ytbkddgeocmkegaa
open Go.RowKit Go.Shelf
set_option linter.unusedSimpArgs false
set_option linter.unusedVariables false
set_option maxHeartbeats 4000000
attribute [local go_sem ↓] run_start run_byte run_cols

theorem row_cells {w : World} {b : Nat} {cs : List Cell} {rest : List Value} (hb : w.heap[b]? = some (.cells (flat cs ++ rest).toArray 96 (0, 0))) (i : Nat) (hi : i < cs.length) :
    w.cell? ⟨b, i * 5, none⟩ = some (.int .u8 cs[i].byte) ∧ w.cell? ⟨b, i * 5 + 1, none⟩ = some (.bool cs[i].ge) ∧ w.cell? ⟨b, i * 5 + 2, none⟩ = some (.bool cs[i].start) ∧ w.cell? ⟨b, i * 5 + 3, none⟩ = some (.int .u8 cs[i].light) ∧ w.cell? ⟨b, i * 5 + 4, none⟩ = some (.int .u8 cs[i].color) := by
  have key : ∀ k, k < 5 → w.cell? ⟨b, i * 5 + k, none⟩ = (cs[i].vals)[k]? := by
    intro k hk
    simp only [World.cell?, hb, Option.isSome_none, Bool.false_eq_true, if_false, List.getElem?_toArray]
    rw [List.getElem?_append_left (by rw [flat_len]; omega), flat_get _ _ hi _ hk]
  have k0 := key 0 (by omega)
  have k1 := key 1 (by omega)
  have k2 := key 2 (by omega)
  have k3 := key 3 (by omega)
  have k4 := key 4 (by omega)
  simp [Cell.vals] at k0 k1 k2 k3 k4
  exact ⟨k0, k1, k2, k3, k4⟩

def Cell.okB (c : Cell) : Bool := decide (0 ≤ c.byte) && (decide (c.byte ≤ 255) && (decide (0 ≤ c.light) && (decide (c.light ≤ 255) && (decide (0 ≤ c.color) && decide (c.color ≤ 255)))))
theorem al_ok (l : List Cell) (h : l.all Cell.okB = true) : ∀ c ∈ l, c.ok := by
  intro c hc
  have := List.all_eq_true.1 h c hc
  unfold Cell.okB at this
  simp only [Bool.and_eq_true, decide_eq_true_eq] at this
  exact ⟨⟨this.1, this.2.1⟩, ⟨this.2.2.1, this.2.2.2.1⟩, ⟨this.2.2.2.2.1, this.2.2.2.2.2⟩⟩

def al19 : List Cell := [⟨0, false, true, 0, 0⟩, ⟨193, false, false, 0, 0⟩, ⟨32, false, true, 0, 0⟩, ⟨0, false, true, 0, 0⟩, ⟨194, false, false, 0, 0⟩, ⟨195, false, false, 0, 0⟩]
def A19 : Pl := (Pl.new 2 3).fillK al19 6

set_option maxRecDepth 100000 in
theorem alive19_any (w : World) : Calls Try.prog 33 #[] w fun e w' => e = .returned (.bool true) ∧ Below w.heap.size w w' := by
  have hal : ∀ (k : Nat) (hk : k < al19.length), al19[k].ok := fun k hk => al_ok al19 (by decide) _ (List.getElem_mem hk)
  go_enter Try.func33, Try.ntmps33
  go_wp2_with fail
  refine (New_in 2 3 (by decide) (by decide) (by decide) (by decide) (by decide)).mono ?_
  rintro e w1 ⟨g, b, cap, rfl, hP, hgg, hgb, hb1⟩
  have hz1 := hb1.size
  have hne := hP.ne
  go_wp2
  obtain ⟨W, hW⟩ : ∃ W, w1.alloc (.cells (flat al19).toArray 96) = W := ⟨_, rfl⟩
  have hWb : W.heap[w1.heap.size]? = some (.cells (flat al19 ++ []).toArray 96 (0, 0)) := by rw [← hW, List.append_nil]; exact World.alloc_heap_new w1 _
  have hBW : Below w1.heap.size w1 W := by rw [← hW]; exact (Below.refl _ _).alloc (Nat.le_refl _) _
  have hzW : W.heap.size = w1.heap.size + 1 := by rw [← hW]; simp
  have hPW := hP.below hBW
  have hgl := hP.gl
  have hbl := hP.bl
  change Code.wp _ _ _ _ (w1.alloc (.cells (flat al19).toArray 96))
  rw [hW]
  clear hW hP
  go_loopw [28] (fun i wr => ∃ k : Nat, k ≤ 6 ∧ i = .int .i64 (k : Int) ∧ PL wr g b cap ((Pl.new 2 3).fillK al19 k) ∧ Chg (· = b) W wr) (fun i _ => 6 - (intOf i).toNat)
  case atStart => exact ⟨0, Nat.zero_le _, rfl, hPW, Chg.refl _ _⟩
  case round =>
    obtain ⟨k, hk, rfl, hPk, hC⟩ := hrel
    have hlenk := (Pl.new 2 3).fillK_len al19 k
    have hn6 : (Pl.new 2 3).cells.length = 6 := rfl
    have hzr := hC.size
    by_cases hlt : k < 6
    · have hlt' : (k : Int) < 6 := by omega
      have hstep := (Pl.new 2 3).fillK_step al19 k hlt
      have hcok := hal k hlt
      have hrow := row_cells ((hC.block w1.heap.size (by omega) (by omega)).trans hWb) k hlt
      obtain ⟨x, hx⟩ : ∃ x, al19[k] = x := ⟨_, rfl⟩
      rw [hx] at hstep hcok hrow
      have HST := Lib.hid hstep
      clear hstep hx
      obtain ⟨a0, a1, a2, a3, a4⟩ := hrow
      have hBa : Below wr.heap.size wr (wr.alloc (.cells #[.int .u8 x.byte, .bool x.ge, .bool x.start, .int .u8 x.light, .int .u8 x.color] 96)) := (Below.refl _ _).alloc (Nat.le_refl _) _
      go_wp2_with fail
      refine (Set_in (hPk.below hBa) (k : Int) x (by omega) (by rw [hlenk, hn6]; exact hlt') hcok).mono ?_
      rintro e w5 ⟨rfl, hP5, hk5⟩
      go_wp2
      go_roundw
      case rel => exact ⟨k + 1, by omega, by go_num, by rw [HST.out]; exact hP5, (hC.alloc _).trans hk5⟩
      case measure => simp [intOf]; omega
    · have e : k = 6 := by omega
      subst e
      have hP0 : PL wr g b cap A19 := hPk
      have hB0 : Below w.heap.size w wr := (hb1.trans (hBW.mono hz1)).trans (hC.below (by omega) (fun j hj => by omega))
      have hz0 := hB0.size
      clear hPk
      have hQ0 := hP0
      have hV0 := hB0
      go_wp2_with fail
      refine (Point_in hQ0 1 (by decide) (by decide)).mono ?_
      rintro e v1 ⟨rfl, hQ1, hk1⟩
      replace hQ1 : PL v1 g b cap (A19.point 1) := hQ1
      have hV1 : Below w.heap.size w v1 := hV0.trans (hk1.below hV0.size (fun j hj => by omega))
      clear hk1 hQ0 hV0
      go_wp2_with fail
      refine (Tab_any hQ1).mono ?_
      rw [show (A19.point 1).tab = 4 from by decide +kernel]
      rintro e v2 ⟨rfl, hQ2, hk2⟩
      replace hQ2 : PL v2 g b cap (A19.point 4) := hQ2
      have hV2 : Below w.heap.size w v2 := hV1.trans (hk2.below hV1.size (fun j hj => by omega))
      clear hk2 hQ1 hV1
      go_wp2_with fail
      refine (Tab_any hQ2).mono ?_
      rw [show (A19.point 4).tab = 1 from by decide +kernel]
      rintro e v3 ⟨rfl, hQ3, hk3⟩
      replace hQ3 : PL v3 g b cap (A19.point 1) := hQ3
      have hV3 : Below w.heap.size w v3 := hV2.trans (hk3.below hV2.size (fun j hj => by omega))
      clear hk3 hQ2 hV2
      go_wp2_with fail
      refine (Point_in hQ3 5 (by decide) (by decide)).mono ?_
      rintro e v4 ⟨rfl, hQ4, hk4⟩
      replace hQ4 : PL v4 g b cap (A19.point 5) := hQ4
      have hV4 : Below w.heap.size w v4 := hV3.trans (hk4.below hV3.size (fun j hj => by omega))
      clear hk4 hQ3 hV3
      go_wp2_with fail
      refine (Back_any hQ4).mono ?_
      rw [show (A19.point 5).back = 4 from by decide +kernel]
      rintro e v5 ⟨rfl, hQ5, hk5⟩
      replace hQ5 : PL v5 g b cap (A19.point 4) := hQ5
      have hV5 : Below w.heap.size w v5 := hV4.trans (hk5.below hV4.size (fun j hj => by omega))
      clear hk5 hQ4 hV4
      go_wp2_with fail
      refine (Back_any hQ5).mono ?_
      rw [show (A19.point 4).back = 1 from by decide +kernel]
      rintro e v6 ⟨rfl, hQ6, hk6⟩
      replace hQ6 : PL v6 g b cap (A19.point 1) := hQ6
      have hV6 : Below w.heap.size w v6 := hV5.trans (hk6.below hV5.size (fun j hj => by omega))
      clear hk6 hQ5 hV5
      go_wp2_with fail
      refine (Newline_any hQ6).mono ?_
      rw [show (A19.point 1).newline = 4 from by decide +kernel]
      rintro e v7 ⟨rfl, hQ7, hk7⟩
      replace hQ7 : PL v7 g b cap (A19.point 4) := hQ7
      have hV7 : Below w.heap.size w v7 := hV6.trans (hk7.below hV6.size (fun j hj => by omega))
      clear hk7 hQ6 hV6
      go_wp2_with fail
      refine (caretMove_any hQ7 (-1) 1).mono ?_
      rw [show (A19.point 4).move (-1) 1 = 2 from by decide +kernel]
      rintro e v8 ⟨rfl, hQ8, hk8⟩
      replace hQ8 : PL v8 g b cap (A19.point 2) := hQ8
      have hV8 : Below w.heap.size w v8 := hV7.trans (hk8.below hV7.size (fun j hj => by omega))
      clear hk8 hQ7 hV7
      go_wp2_with fail
      refine (caretHome_any hQ8 (by decide +kernel) (by decide +kernel)).mono ?_
      rw [show (A19.point 2).home = 1 from by decide +kernel]
      rintro e v9 ⟨rfl, hQ9, hk9⟩
      replace hQ9 : PL v9 g b cap (A19.point 1) := hQ9
      have hV9 : Below w.heap.size w v9 := hV8.trans (hk9.below hV8.size (fun j hj => by omega))
      clear hk9 hQ8 hV8
      go_wp2_with fail
      refine (On_any hQ9).mono ?_
      rw [show (A19.point 1).on = 3 from by decide +kernel]
      rintro e v10 ⟨rfl, hQ10, hk10⟩
      replace hQ10 : PL v10 g b cap (A19.point 3) := hQ10
      have hV10 : Below w.heap.size w v10 := hV9.trans (hk10.below hV9.size (fun j hj => by omega))
      clear hk10 hQ9 hV9
      go_wp2_with fail
      refine (Cursor_any hQ10).mono ?_
      rintro e v11 ⟨rfl, hb11⟩
      go_wp2
      go_ret
      exact ⟨by rfl, hV10.trans (hb11.mono hV10.size)⟩
end Go.Proofs.Ytbkddgeocmkegaa

namespace Go.Proofs.Ytbkddgeocmkegaa
open Go.RowKit Go.Shelf
set_option linter.unusedSimpArgs false
set_option linter.unusedVariables false
set_option maxHeartbeats 4000000
attribute [local go_sem ↓] run_start run_byte run_cols run_neq_cell run_eql_cell run_eql_size

/-! Orders that the call itself makes. -/
def Ord.vals (o : Ord) (r : ORef) : List Value := [.int .u8 o.kind, .int .i64 o.addr, .int .u8 o.byte, .bool o.ge, .slice r.pa o.pairs.length r.pc, .slice r.da o.data.length r.dc]
def oflat : List (Ord × ORef) → List Value
  | [] => []
  | x :: xs => x.1.vals x.2 ++ oflat xs
theorem oflat_get (l : List (Ord × ORef)) (i : Nat) (h : i < l.length) (k : Nat) (hk : k < 6) : (oflat l)[i * 6 + k]? = (l[i].1.vals l[i].2)[k]? := by
  induction l generalizing i with
  | nil => simp at h
  | cons c cs ih =>
    cases i with
    | zero => simp only [oflat, Nat.zero_mul, Nat.zero_add, List.getElem_cons_zero]; rw [List.getElem?_append_left (by simp [Ord.vals]; omega)]
    | succ i =>
      rw [oflat, List.getElem?_append_right (by simp [Ord.vals]; omega)]
      have : (i + 1) * 6 + k - (c.1.vals c.2).length = i * 6 + k := by simp [Ord.vals]; omega
      rw [this]
      simpa using ih i (by simpa using h)
theorem ORow.of_block {W : World} {T : Nat → Prop} {B : Nat} {l : List (Ord × ORef)} {rest : List Value} {ty : TypeId} (hb : W.heap[B]? = some (.cells (oflat l ++ rest).toArray ty (0, 0))) (hT : ¬ T B) (hl : l.length ≤ maxLen) (hr : ∀ x ∈ l, ORd W T x.1 x.2) : ORow W T (some ⟨B, 0, none⟩) (l.map (·.1)) := by
  have hlen : (oflat l).length = 6 * l.length := by
    clear hb hl hr
    induction l with
    | nil => rfl
    | cons c cs ih => simp [oflat, ih, Ord.vals]; omega
  refine ⟨by simpa using hl, fun k hk => ?_⟩
  have hk' : k < l.length := by simpa using hk
  rw [List.getElem_map]
  have hc : ∀ j, j < 6 → W.cell? ⟨B, k * 6 + j, none⟩ = (l[k].1.vals l[k].2)[j]? := by
    intro j hj
    simp only [World.cell?, hb, Option.isSome_none, Bool.false_eq_true, if_false, List.getElem?_toArray]
    rw [List.getElem?_append_left (by omega), oflat_get l k hk' j hj]
  refine ⟨B, 0, l[k].2, rfl, hT, ?_, ?_, ?_, ?_, ?_, ?_, hr _ (List.getElem_mem hk')⟩
  · have := hc 0 (by omega); simpa [Ord.vals] using this
  · have := hc 1 (by omega); simpa [Ord.vals] using this
  · have := hc 2 (by omega); simpa [Ord.vals] using this
  · have := hc 3 (by omega); simpa [Ord.vals] using this
  · have := hc 4 (by omega); simpa [Ord.vals] using this
  · have := hc 5 (by omega); simpa [Ord.vals] using this
theorem PRow.nil (W : World) (T : Nat → Prop) (ao : Option Addr) : PRow W T ao [] := ⟨Nat.zero_le _, fun k hk => absurd hk (Nat.not_lt_zero _)⟩
theorem BRow.nil (W : World) (T : Nat → Prop) (ao : Option Addr) : BRow W T ao [] := ⟨Nat.zero_le _, fun k hk => absurd hk (Nat.not_lt_zero _)⟩
theorem BRow.of_block {W : World} {T : Nat → Prop} {B : Nat} {l : List Int} {rest : List Value} {ty : TypeId} (hb : W.heap[B]? = some (.cells (l.map (Value.int .u8) ++ rest).toArray ty (0, 0))) (hT : ¬ T B) (hl : l.length ≤ maxLen) : BRow W T (some ⟨B, 0, none⟩) l :=
  ⟨hl, fun k hk => ⟨B, 0, rfl, hT, by
    simp only [World.cell?, hb, Option.isSome_none, Bool.false_eq_true, if_false, List.getElem?_toArray, Nat.zero_add]
    rw [List.getElem?_append_left (by simpa using hk), List.getElem?_map, List.getElem?_eq_getElem hk]
    rfl⟩⟩
def rnone : ORef := ⟨none, 0, none, 0⟩
/-- One with no parts. -/
theorem ORd.bare {W : World} {T : Nat → Prop} {o : Ord} (h : o.ok) (hp : o.pairs = []) (hd : o.data = []) (r : ORef) : ORd W T o r := ⟨h, by rw [hp]; exact PRow.nil _ _ _, by rw [hd]; exact BRow.nil _ _ _⟩

/-- Orders that are few, of few parts. -/
def fewB (os : List Ord) : Bool := os.all (fun o => decide (o.pairs.length ≤ 30) && decide (o.data.length ≤ 80)) && decide ((os.length : Int) ≤ 20)
theorem few_any {w : World} (os : List Ord) (ao : Option Addr) (cp : Nat) (T : Nat → Prop) (ho : ORow w T ao os) :
    Calls Try.prog 61 #[.slice ao os.length cp] w fun e w' => e = .returned (.bool (fewB os)) ∧ Below w.heap.size w w' := by
  have hlen : (os.length : Int) ≤ 9223372036854775807 := by have := ho.1; unfold maxLen at this; omega
  go_enter Try.func61, Try.ntmps61
  go_wp2
  go_loopw [7] (fun i wr => ∃ k : Nat, k ≤ os.length ∧ i = .int .i64 (k : Int) ∧ Hid (∀ j (hj : j < os.length), j < k → (decide (os[j].pairs.length ≤ 30) && decide (os[j].data.length ≤ 80)) = true) ∧ Below w.heap.size w wr) (fun i _ => os.length - (intOf i).toNat)
  case atStart => exact ⟨0, Nat.zero_le _, rfl, fun j hj hk => absurd hk (Nat.not_lt_zero _), Below.refl _ _⟩
  case round =>
    obtain ⟨k, hk, rfl, HA, hB⟩ := hrel
    have hz := hB.size
    by_cases hlt : k < os.length
    · have hlt' : (k : Int) < (os.length : Int) := by omega
      obtain ⟨b1, o1, r, he, -, q0, q1, q2, q3, q4, q5, hr⟩ := (ho.below hB).2 k hlt
      have hpl : (os[k].pairs.length : Int) ≤ 9223372036854775807 := by have := hr.p.1; unfold maxLen at this; omega
      have hdl : (os[k].data.length : Int) ≤ 9223372036854775807 := by have := hr.d.1; unfold maxLen at this; omega
      obtain ⟨o, hoe⟩ : ∃ o, os[k] = o := ⟨_, rfl⟩
      rw [hoe] at q0 q1 q2 q3 q4 q5 hpl hdl
      have HO := Lib.hid hoe
      clear hoe hr
      rw [he]
      clear he
      by_cases h1 : (30 : Int) < (o.pairs.length : Int)
      · have d1 : decide (30 < o.pairs.length) = true := decide_eq_true (by omega)
        have HN : Hid (fewB os = false) := by
          unfold fewB
          have : os.all (fun o => decide (o.pairs.length ≤ 30) && decide (o.data.length ≤ 80)) = false := by
            rw [List.all_eq_false]
            exact ⟨o, by rw [← HO.out]; exact List.getElem_mem hlt, by simp; omega⟩
          rw [this]; exact rfl
        go_wp2
        go_ret
        exact ⟨by rw [HN.out]; rfl, by with_reducible (repeat (first | exact Below.refl _ _ | assumption | (refine Below.setCell ?_ (by first | omega | (simp; done) | (simp; omega)) _) | (refine Below.alloc ?_ (by first | omega | (simp; done) | (simp; omega)) _) | (refine below_drewN ?_ _) | (refine Below.drew ?_) | (refine Below.trans ?_ (Below.mono hb (by first | omega | (simp; done) | (simp; omega)))) | (refine Below.trans ?_ (Below.mono hb1 (by first | omega | (simp; done) | (simp; omega)))) | (refine Below.trans ?_ (Below.mono hb2 (by first | omega | (simp; done) | (simp; omega)))) | (refine Below.trans ?_ (Below.mono hb3 (by first | omega | (simp; done) | (simp; omega)))) | (refine Below.trans ?_ (Below.mono hb4 (by first | omega | (simp; done) | (simp; omega)))) | (refine Below.trans ?_ (Below.mono hb5 (by first | omega | (simp; done) | (simp; omega)))) | (refine Below.trans ?_ (Below.mono hb6 (by first | omega | (simp; done) | (simp; omega)))) | (refine Below.trans ?_ (Below.mono hb7 (by first | omega | (simp; done) | (simp; omega)))) | (refine Below.trans ?_ (Below.mono hb8 (by first | omega | (simp; done) | (simp; omega)))) | (refine Below.trans ?_ (Below.mono hb9 (by first | omega | (simp; done) | (simp; omega)))) | (refine Below.trans ?_ (Below.mono hb10 (by first | omega | (simp; done) | (simp; omega)))) | (refine Below.trans ?_ (Below.mono hb11 (by first | omega | (simp; done) | (simp; omega)))) | (refine Below.trans ?_ (Below.mono hb12 (by first | omega | (simp; done) | (simp; omega))))))⟩
      · have d1 : decide (30 < o.pairs.length) = false := decide_eq_false (by omega)
        by_cases h2 : (80 : Int) < (o.data.length : Int)
        · have d2 : decide (80 < o.data.length) = true := decide_eq_true (by omega)
          have HN : Hid (fewB os = false) := by
            unfold fewB
            have : os.all (fun o => decide (o.pairs.length ≤ 30) && decide (o.data.length ≤ 80)) = false := by
              rw [List.all_eq_false]
              exact ⟨o, by rw [← HO.out]; exact List.getElem_mem hlt, by simp; omega⟩
            rw [this]; exact rfl
          go_wp2
          go_ret
          exact ⟨by rw [HN.out]; rfl, by with_reducible (repeat (first | exact Below.refl _ _ | assumption | (refine Below.setCell ?_ (by first | omega | (simp; done) | (simp; omega)) _) | (refine Below.alloc ?_ (by first | omega | (simp; done) | (simp; omega)) _) | (refine below_drewN ?_ _) | (refine Below.drew ?_) | (refine Below.trans ?_ (Below.mono hb (by first | omega | (simp; done) | (simp; omega)))) | (refine Below.trans ?_ (Below.mono hb1 (by first | omega | (simp; done) | (simp; omega)))) | (refine Below.trans ?_ (Below.mono hb2 (by first | omega | (simp; done) | (simp; omega)))) | (refine Below.trans ?_ (Below.mono hb3 (by first | omega | (simp; done) | (simp; omega)))) | (refine Below.trans ?_ (Below.mono hb4 (by first | omega | (simp; done) | (simp; omega)))) | (refine Below.trans ?_ (Below.mono hb5 (by first | omega | (simp; done) | (simp; omega)))) | (refine Below.trans ?_ (Below.mono hb6 (by first | omega | (simp; done) | (simp; omega)))) | (refine Below.trans ?_ (Below.mono hb7 (by first | omega | (simp; done) | (simp; omega)))) | (refine Below.trans ?_ (Below.mono hb8 (by first | omega | (simp; done) | (simp; omega)))) | (refine Below.trans ?_ (Below.mono hb9 (by first | omega | (simp; done) | (simp; omega)))) | (refine Below.trans ?_ (Below.mono hb10 (by first | omega | (simp; done) | (simp; omega)))) | (refine Below.trans ?_ (Below.mono hb11 (by first | omega | (simp; done) | (simp; omega)))) | (refine Below.trans ?_ (Below.mono hb12 (by first | omega | (simp; done) | (simp; omega))))))⟩
        · have d2 : decide (80 < o.data.length) = false := decide_eq_false (by omega)
          go_wp2
          go_roundw
          case rel =>
            refine ⟨k + 1, by omega, by go_num, fun j hj hjk => ?_, by with_reducible (repeat (first | exact Below.refl _ _ | assumption | (refine Below.setCell ?_ (by first | omega | (simp; done) | (simp; omega)) _) | (refine Below.alloc ?_ (by first | omega | (simp; done) | (simp; omega)) _) | (refine below_drewN ?_ _) | (refine Below.drew ?_) | (refine Below.trans ?_ (Below.mono hb (by first | omega | (simp; done) | (simp; omega)))) | (refine Below.trans ?_ (Below.mono hb1 (by first | omega | (simp; done) | (simp; omega)))) | (refine Below.trans ?_ (Below.mono hb2 (by first | omega | (simp; done) | (simp; omega)))) | (refine Below.trans ?_ (Below.mono hb3 (by first | omega | (simp; done) | (simp; omega)))) | (refine Below.trans ?_ (Below.mono hb4 (by first | omega | (simp; done) | (simp; omega)))) | (refine Below.trans ?_ (Below.mono hb5 (by first | omega | (simp; done) | (simp; omega)))) | (refine Below.trans ?_ (Below.mono hb6 (by first | omega | (simp; done) | (simp; omega)))) | (refine Below.trans ?_ (Below.mono hb7 (by first | omega | (simp; done) | (simp; omega)))) | (refine Below.trans ?_ (Below.mono hb8 (by first | omega | (simp; done) | (simp; omega)))) | (refine Below.trans ?_ (Below.mono hb9 (by first | omega | (simp; done) | (simp; omega)))) | (refine Below.trans ?_ (Below.mono hb10 (by first | omega | (simp; done) | (simp; omega)))) | (refine Below.trans ?_ (Below.mono hb11 (by first | omega | (simp; done) | (simp; omega)))) | (refine Below.trans ?_ (Below.mono hb12 (by first | omega | (simp; done) | (simp; omega))))))⟩
            by_cases e : j < k
            · exact HA.out j hj e
            · have : j = k := by omega
              subst this
              rw [HO.out]
              simp
              omega
          case measure => simp [intOf]; omega
    · have ek : k = os.length := by omega
      have HN : Hid (fewB os = decide ((os.length : Int) ≤ 20)) := by
        unfold fewB
        have : os.all (fun o => decide (o.pairs.length ≤ 30) && decide (o.data.length ≤ 80)) = true := by
          rw [List.all_eq_true]
          intro x hx
          obtain ⟨j, hj, rfl⟩ := List.getElem_of_mem hx
          exact HA.out j hj (by omega)
        rw [this]; exact Bool.true_and _
      clear ek
      go_wp2
      go_ret
      exact ⟨by rw [HN.out]; rfl, hB⟩
end Go.Proofs.Ytbkddgeocmkegaa

namespace Go.Proofs.Ytbkddgeocmkegaa
open Go.RowKit Go.Shelf
set_option linter.unusedSimpArgs false
set_option linter.unusedVariables false
set_option maxHeartbeats 4000000
attribute [local go_sem ↓] run_start run_byte run_cols run_neq_cell run_eql_cell run_eql_size

def osA : List Ord := [⟨17, 3, 0, false, [], []⟩, ⟨29, 0, 32, false, [], []⟩, ⟨0, 0, 0, false, [], [193]⟩]
def osB : List Ord := [⟨19, 0, 0, false, [], []⟩, ⟨17, 5, 0, false, [], []⟩, ⟨0, 0, 0, false, [], [194]⟩]
def A16 : Br × Nat × Int := (Br.new (Pl.new 1 5) 0).run osA
def B16 : Br × Nat × Int := (Br.new A16.1.P 2).run osB
theorem okOrd {o : Ord} (h : (decide (0 ≤ o.kind ∧ o.kind ≤ 255) && (decide (-9223372036854775808 ≤ o.addr ∧ o.addr ≤ 9223372036854775807) && (decide (0 ≤ o.byte ∧ o.byte ≤ 255) && (o.pairs.all (fun x => decide ((0 ≤ x.1 ∧ x.1 ≤ 255) ∧ (0 ≤ x.2 ∧ x.2 ≤ 255))) && o.data.all (fun x => decide (0 ≤ x ∧ x ≤ 255)))))) = true) : o.ok := by
  simp only [Bool.and_eq_true, decide_eq_true_eq, List.all_eq_true] at h
  exact ⟨h.1, h.2.1, h.2.2.1, h.2.2.2.1, h.2.2.2.2⟩

set_option maxRecDepth 100000 in
theorem alive16_any (w : World) : Calls Try.prog 59 #[] w fun e w' => e = .returned (.bool true) ∧ Below w.heap.size w w' := by
  go_enter Try.func59, Try.ntmps59
  go_wp2_with fail
  refine (New_in 1 5 (by decide) (by decide) (by decide) (by decide) (by decide)).mono ?_
  rintro e w1 ⟨g, b, cap, rfl, hP, hgg, hgb, hb1⟩
  have hB1 : Below w.heap.size w w1 := by with_reducible (repeat (first | exact Below.refl _ _ | assumption | (refine Below.setCell ?_ (by first | omega | (simp; done) | (simp; omega)) _) | (refine Below.alloc ?_ (by first | omega | (simp; done) | (simp; omega)) _) | (refine below_drewN ?_ _) | (refine Below.drew ?_) | (refine Below.trans ?_ (Below.mono hb (by first | omega | (simp; done) | (simp; omega)))) | (refine Below.trans ?_ (Below.mono hb1 (by first | omega | (simp; done) | (simp; omega)))) | (refine Below.trans ?_ (Below.mono hb2 (by first | omega | (simp; done) | (simp; omega)))) | (refine Below.trans ?_ (Below.mono hb3 (by first | omega | (simp; done) | (simp; omega)))) | (refine Below.trans ?_ (Below.mono hb4 (by first | omega | (simp; done) | (simp; omega)))) | (refine Below.trans ?_ (Below.mono hb5 (by first | omega | (simp; done) | (simp; omega)))) | (refine Below.trans ?_ (Below.mono hb6 (by first | omega | (simp; done) | (simp; omega)))) | (refine Below.trans ?_ (Below.mono hb7 (by first | omega | (simp; done) | (simp; omega)))) | (refine Below.trans ?_ (Below.mono hb8 (by first | omega | (simp; done) | (simp; omega)))) | (refine Below.trans ?_ (Below.mono hb9 (by first | omega | (simp; done) | (simp; omega)))) | (refine Below.trans ?_ (Below.mono hb10 (by first | omega | (simp; done) | (simp; omega)))) | (refine Below.trans ?_ (Below.mono hb11 (by first | omega | (simp; done) | (simp; omega)))) | (refine Below.trans ?_ (Below.mono hb12 (by first | omega | (simp; done) | (simp; omega))))))
  have hgl := hP.gl
  have hbl := hP.bl
  have hz1 := hB1.size
  clear hb1
  go_wp2_with fail
  obtain ⟨W, hW⟩ : ∃ W, (w1.alloc (.cells #[.int .u8 193] 5)).alloc (.cells (oflat [(⟨17, 3, 0, false, [], []⟩, rnone), (⟨29, 0, 32, false, [], []⟩, rnone), (⟨0, 0, 0, false, [], [193]⟩, ⟨none, 0, some ⟨w1.heap.size, 0, none⟩, 1⟩)]).toArray 110) = W := ⟨_, rfl⟩
  have hBW : Below w1.heap.size w1 W := by rw [← hW]; with_reducible (repeat (first | exact Below.refl _ _ | assumption | (refine Below.setCell ?_ (by first | omega | (simp; done) | (simp; omega)) _) | (refine Below.alloc ?_ (by first | omega | (simp; done) | (simp; omega)) _) | (refine below_drewN ?_ _) | (refine Below.drew ?_) | (refine Below.trans ?_ (Below.mono hb (by first | omega | (simp; done) | (simp; omega)))) | (refine Below.trans ?_ (Below.mono hb1 (by first | omega | (simp; done) | (simp; omega)))) | (refine Below.trans ?_ (Below.mono hb2 (by first | omega | (simp; done) | (simp; omega)))) | (refine Below.trans ?_ (Below.mono hb3 (by first | omega | (simp; done) | (simp; omega)))) | (refine Below.trans ?_ (Below.mono hb4 (by first | omega | (simp; done) | (simp; omega)))) | (refine Below.trans ?_ (Below.mono hb5 (by first | omega | (simp; done) | (simp; omega)))) | (refine Below.trans ?_ (Below.mono hb6 (by first | omega | (simp; done) | (simp; omega)))) | (refine Below.trans ?_ (Below.mono hb7 (by first | omega | (simp; done) | (simp; omega)))) | (refine Below.trans ?_ (Below.mono hb8 (by first | omega | (simp; done) | (simp; omega)))) | (refine Below.trans ?_ (Below.mono hb9 (by first | omega | (simp; done) | (simp; omega)))) | (refine Below.trans ?_ (Below.mono hb10 (by first | omega | (simp; done) | (simp; omega)))) | (refine Below.trans ?_ (Below.mono hb11 (by first | omega | (simp; done) | (simp; omega)))) | (refine Below.trans ?_ (Below.mono hb12 (by first | omega | (simp; done) | (simp; omega))))))
  have hA0 : W.heap[w1.heap.size]? = some (.cells (([193] : List Int).map (Value.int .u8) ++ []).toArray 5 (0, 0)) := by rw [← hW]; exact (Below.heap_alloc _ _ _ (by simp)).trans (World.alloc_heap_new w1 _)
  have hA1 : W.heap[w1.heap.size + 1]? = some (.cells (oflat [(⟨17, 3, 0, false, [], []⟩, rnone), (⟨29, 0, 32, false, [], []⟩, rnone), (⟨0, 0, 0, false, [], [193]⟩, ⟨none, 0, some ⟨w1.heap.size, 0, none⟩, 1⟩)] ++ []).toArray 110 (0, 0)) := by
    rw [← hW, List.append_nil]; have := World.alloc_heap_new (w1.alloc (.cells #[.int .u8 193] 5)) (.cells (oflat [(⟨17, 3, 0, false, [], []⟩, rnone), (⟨29, 0, 32, false, [], []⟩, rnone), (⟨0, 0, 0, false, [], [193]⟩, ⟨none, 0, some ⟨w1.heap.size, 0, none⟩, 1⟩)]).toArray 110); rwa [World.size_alloc] at this
  have hO : ORow W (GB g b) (some ⟨w1.heap.size + 1, 0, none⟩) osA := by
    refine ORow.of_block (l := [(⟨17, 3, 0, false, [], []⟩, rnone), (⟨29, 0, 32, false, [], []⟩, rnone), (⟨0, 0, 0, false, [], [193]⟩, ⟨none, 0, some ⟨w1.heap.size, 0, none⟩, 1⟩)]) hA1 (by unfold GB; omega) (by simp [maxLen]) (fun x hx => ?_)
    simp only [List.mem_cons, List.not_mem_nil, or_false] at hx
    rcases hx with rfl | rfl | rfl
    · exact ORd.bare (okOrd (by decide)) rfl rfl _
    · exact ORd.bare (okOrd (by decide)) rfl rfl _
    · exact ⟨okOrd (o := ⟨0, 0, 0, false, [], [193]⟩) (by decide), PRow.nil _ _ _, BRow.of_block hA0 (by unfold GB; omega) (by simp [maxLen])⟩
  have hPW := hP.below hBW
  have hB2 := hB1.trans (hBW.mono hz1)
  have hz2 := hB2.size
  clear hA0 hA1 hB1
  change Calls _ _ _ ((w1.alloc (.cells #[.int .u8 193] 5)).alloc (.cells (oflat [(⟨17, 3, 0, false, [], []⟩, rnone), (⟨29, 0, 32, false, [], []⟩, rnone), (⟨0, 0, 0, false, [], [193]⟩, ⟨none, 0, some ⟨w1.heap.size, 0, none⟩, 1⟩)]).toArray 110)) _
  rw [hW]
  clear hW
  refine (Paint_in hPW osA (some ⟨w1.heap.size + 1, 0, none⟩) 3 hO 0 (by decide) (by decide) A16 (Lib.hid rfl)).mono ?_
  rw [show A16.1.pos = 0 from by decide +kernel, show A16.2.1 = 3 from by decide +kernel, show A16.2.2 = 0 from by decide +kernel]
  rintro e w2 ⟨rfl, hP2, hk2⟩
  have hB3 : Below w.heap.size w w2 := hB2.trans (hk2.below hz2 (fun j hj => by unfold GB at hj; omega))
  have hz3 := hB3.size
  have hkz := hk2.size
  have hzW := hBW.size
  have hgl2 := hP2.gl
  have hbl2 := hP2.bl
  clear hk2 hPW hP hO hBW hB2
  go_wp2_with fail
  obtain ⟨V, hV⟩ : ∃ V, (w2.alloc (.cells #[.int .u8 194] 5)).alloc (.cells (oflat [(⟨19, 0, 0, false, [], []⟩, rnone), (⟨17, 5, 0, false, [], []⟩, rnone), (⟨0, 0, 0, false, [], [194]⟩, ⟨none, 0, some ⟨w2.heap.size, 0, none⟩, 1⟩)]).toArray 110) = V := ⟨_, rfl⟩
  have hBV : Below w2.heap.size w2 V := by rw [← hV]; with_reducible (repeat (first | exact Below.refl _ _ | assumption | (refine Below.setCell ?_ (by first | omega | (simp; done) | (simp; omega)) _) | (refine Below.alloc ?_ (by first | omega | (simp; done) | (simp; omega)) _) | (refine below_drewN ?_ _) | (refine Below.drew ?_) | (refine Below.trans ?_ (Below.mono hb (by first | omega | (simp; done) | (simp; omega)))) | (refine Below.trans ?_ (Below.mono hb1 (by first | omega | (simp; done) | (simp; omega)))) | (refine Below.trans ?_ (Below.mono hb2 (by first | omega | (simp; done) | (simp; omega)))) | (refine Below.trans ?_ (Below.mono hb3 (by first | omega | (simp; done) | (simp; omega)))) | (refine Below.trans ?_ (Below.mono hb4 (by first | omega | (simp; done) | (simp; omega)))) | (refine Below.trans ?_ (Below.mono hb5 (by first | omega | (simp; done) | (simp; omega)))) | (refine Below.trans ?_ (Below.mono hb6 (by first | omega | (simp; done) | (simp; omega)))) | (refine Below.trans ?_ (Below.mono hb7 (by first | omega | (simp; done) | (simp; omega)))) | (refine Below.trans ?_ (Below.mono hb8 (by first | omega | (simp; done) | (simp; omega)))) | (refine Below.trans ?_ (Below.mono hb9 (by first | omega | (simp; done) | (simp; omega)))) | (refine Below.trans ?_ (Below.mono hb10 (by first | omega | (simp; done) | (simp; omega)))) | (refine Below.trans ?_ (Below.mono hb11 (by first | omega | (simp; done) | (simp; omega)))) | (refine Below.trans ?_ (Below.mono hb12 (by first | omega | (simp; done) | (simp; omega))))))
  have hA0 : V.heap[w2.heap.size]? = some (.cells (([194] : List Int).map (Value.int .u8) ++ []).toArray 5 (0, 0)) := by rw [← hV]; exact (Below.heap_alloc _ _ _ (by simp)).trans (World.alloc_heap_new w2 _)
  have hA1 : V.heap[w2.heap.size + 1]? = some (.cells (oflat [(⟨19, 0, 0, false, [], []⟩, rnone), (⟨17, 5, 0, false, [], []⟩, rnone), (⟨0, 0, 0, false, [], [194]⟩, ⟨none, 0, some ⟨w2.heap.size, 0, none⟩, 1⟩)] ++ []).toArray 110 (0, 0)) := by
    rw [← hV, List.append_nil]; have := World.alloc_heap_new (w2.alloc (.cells #[.int .u8 194] 5)) (.cells (oflat [(⟨19, 0, 0, false, [], []⟩, rnone), (⟨17, 5, 0, false, [], []⟩, rnone), (⟨0, 0, 0, false, [], [194]⟩, ⟨none, 0, some ⟨w2.heap.size, 0, none⟩, 1⟩)]).toArray 110); rwa [World.size_alloc] at this
  have hO : ORow V (GB g b) (some ⟨w2.heap.size + 1, 0, none⟩) osB := by
    refine ORow.of_block (l := [(⟨19, 0, 0, false, [], []⟩, rnone), (⟨17, 5, 0, false, [], []⟩, rnone), (⟨0, 0, 0, false, [], [194]⟩, ⟨none, 0, some ⟨w2.heap.size, 0, none⟩, 1⟩)]) hA1 (by unfold GB; omega) (by simp [maxLen]) (fun x hx => ?_)
    simp only [List.mem_cons, List.not_mem_nil, or_false] at hx
    rcases hx with rfl | rfl | rfl
    · exact ORd.bare (okOrd (by decide)) rfl rfl _
    · exact ORd.bare (okOrd (by decide)) rfl rfl _
    · exact ⟨okOrd (o := ⟨0, 0, 0, false, [], [194]⟩) (by decide), PRow.nil _ _ _, BRow.of_block hA0 (by unfold GB; omega) (by simp [maxLen])⟩
  have hPV := hP2.below hBV
  have hB4 := hB3.trans (hBV.mono hz3)
  have hz4 := hB4.size
  clear hA0 hA1 hB3
  change Calls _ _ _ ((w2.alloc (.cells #[.int .u8 194] 5)).alloc (.cells (oflat [(⟨19, 0, 0, false, [], []⟩, rnone), (⟨17, 5, 0, false, [], []⟩, rnone), (⟨0, 0, 0, false, [], [194]⟩, ⟨none, 0, some ⟨w2.heap.size, 0, none⟩, 1⟩)]).toArray 110)) _
  rw [hV]
  clear hV
  refine (Paint_in hPV osB (some ⟨w2.heap.size + 1, 0, none⟩) 3 hO 2 (by decide) (by decide +kernel) B16 (Lib.hid rfl)).mono ?_
  rw [show B16.1.pos = 2 from by decide +kernel, show B16.2.1 = 1 from by decide +kernel, show B16.2.2 = 32 from by decide +kernel]
  rintro e w3 ⟨rfl, hP3, hk3⟩
  have hB5 : Below w.heap.size w w3 := hB4.trans (hk3.below hz4 (fun j hj => by unfold GB at hj; omega))
  clear hk3 hPV hP2 hO hBV hB4
  go_wp2_with fail
  refine (Paint_out hP3 [] none 0 5 (by decide +kernel)).mono ?_
  rintro e w4 ⟨rfl, hb4⟩
  have hP4 := hP3.below hb4
  have hB6 := hB5.trans (hb4.mono hB5.size)
  clear hb4 hP3 hB5
  go_wp2_with fail
  refine (At_any hP4 3).mono ?_
  rw [show B16.1.P.at 3 = ⟨32, false, true, 0, 0⟩ from by decide +kernel]
  rintro e w5 ⟨rfl, hb5⟩
  have hP5 := hP4.below hb5
  have hB7 := hB6.trans (hb5.mono hB6.size)
  clear hb5 hP4 hB6
  go_wp2_with fail
  refine (At_any hP5 4).mono ?_
  rw [show B16.1.P.at 4 = ⟨193, false, false, 0, 0⟩ from by decide +kernel]
  rintro e w6 ⟨rfl, hb6⟩
  have hP6 := hP5.below hb6
  have hB8 := hB7.trans (hb6.mono hB7.size)
  clear hb6 hP5 hB7
  go_wp2_with fail
  refine (Cursor_any hP6).mono ?_
  rw [show B16.1.P.cursor = 2 from by decide +kernel]
  rintro e w7 ⟨rfl, hb7⟩
  have hP7 := hP6.below hb7
  have hB9 := hB8.trans (hb7.mono hB8.size)
  clear hb7 hP6 hB8
  go_wp2_with fail
  refine (At_any hP7 2).mono ?_
  rw [show B16.1.P.at 2 = ⟨0, false, false, 0, 0⟩ from by decide +kernel]
  rintro e w8 ⟨rfl, hb8⟩
  go_wp2
  go_ret
  exact ⟨by rfl, hB9.trans (hb8.mono hB9.size)⟩
end Go.Proofs.Ytbkddgeocmkegaa

namespace Go.Proofs.Ytbkddgeocmkegaa
open Go.RowKit Go.Shelf
set_option linter.unusedSimpArgs false
set_option linter.unusedVariables false
set_option maxHeartbeats 4000000
attribute [local go_sem ↓] run_start run_byte run_cols

set_option maxRecDepth 100000 in
theorem made16_bad {w : World} (r c : Int) (v : Value) (h : goodSize r c = false ∨ (goodSize r c = true ∧ 60 < r * c)) :
    Calls Try.prog 60 #[.agg #[.int .i64 r, .int .i64 c], v] w (MadeBad w) := by
  rcases h with h | ⟨h, h60⟩
  · go_enter Try.func60, Try.ntmps60
    go_wp2_with fail
    refine (rNew_bad r c h).mono ?_
    rintro e w1 ⟨rfl, hb1⟩
    have hB1 : Below w.heap.size w w1 := by with_reducible (repeat (first | exact Below.refl _ _ | assumption | (refine Below.setCell ?_ (by first | omega | (simp; done) | (simp; omega)) _) | (refine Below.alloc ?_ (by first | omega | (simp; done) | (simp; omega)) _) | (refine below_drewN ?_ _) | (refine Below.drew ?_) | (refine Below.trans ?_ (Below.mono hb (by first | omega | (simp; done) | (simp; omega)))) | (refine Below.trans ?_ (Below.mono hb1 (by first | omega | (simp; done) | (simp; omega)))) | (refine Below.trans ?_ (Below.mono hb2 (by first | omega | (simp; done) | (simp; omega)))) | (refine Below.trans ?_ (Below.mono hb3 (by first | omega | (simp; done) | (simp; omega)))) | (refine Below.trans ?_ (Below.mono hb4 (by first | omega | (simp; done) | (simp; omega)))) | (refine Below.trans ?_ (Below.mono hb5 (by first | omega | (simp; done) | (simp; omega)))) | (refine Below.trans ?_ (Below.mono hb6 (by first | omega | (simp; done) | (simp; omega)))) | (refine Below.trans ?_ (Below.mono hb7 (by first | omega | (simp; done) | (simp; omega)))) | (refine Below.trans ?_ (Below.mono hb8 (by first | omega | (simp; done) | (simp; omega)))) | (refine Below.trans ?_ (Below.mono hb9 (by first | omega | (simp; done) | (simp; omega)))) | (refine Below.trans ?_ (Below.mono hb10 (by first | omega | (simp; done) | (simp; omega)))) | (refine Below.trans ?_ (Below.mono hb11 (by first | omega | (simp; done) | (simp; omega)))) | (refine Below.trans ?_ (Below.mono hb12 (by first | omega | (simp; done) | (simp; omega))))))
    have hz1 := hb1.size
    simp only [World.size_alloc] at hz1
    have X7 := ((Box4.new (w.alloc (.cells #[.int .i64 r, .int .i64 c] 48)) (.int .i64 0) (.int .i64 0) (.slice none 0 0) (.int .i64 0) 77).below hb1)
    rw [World.size_alloc] at X7
    obtain ⟨c0, c1, c2, c3, f0, f1, f2, f3⟩ := X7
    clear hb1
    have hlt1 : w.heap.size + 1 < w1.heap.size := by omega
    go_wp2
    go_region
    go_wp2
    exact bodyPost_ret (v := .tuple #[.pointer none, .agg #[.int .i64 0, .int .i64 0, .slice none 0 0, .int .i64 0], .bool false]) (by simp [results, Try.results60, go_sem, c0, c1, c2, c3, hlt1]) rfl ⟨_, _, _, _, _, _, rfl, by with_reducible (repeat (first | exact Below.refl _ _ | assumption | (refine Below.setCell ?_ (by first | omega | (simp; done) | (simp; omega)) _) | (refine Below.alloc ?_ (by first | omega | (simp; done) | (simp; omega)) _) | (refine below_drewN ?_ _) | (refine Below.drew ?_) | (refine Below.trans ?_ (Below.mono hb (by first | omega | (simp; done) | (simp; omega)))) | (refine Below.trans ?_ (Below.mono hb1 (by first | omega | (simp; done) | (simp; omega)))) | (refine Below.trans ?_ (Below.mono hb2 (by first | omega | (simp; done) | (simp; omega)))) | (refine Below.trans ?_ (Below.mono hb3 (by first | omega | (simp; done) | (simp; omega)))) | (refine Below.trans ?_ (Below.mono hb4 (by first | omega | (simp; done) | (simp; omega)))) | (refine Below.trans ?_ (Below.mono hb5 (by first | omega | (simp; done) | (simp; omega)))) | (refine Below.trans ?_ (Below.mono hb6 (by first | omega | (simp; done) | (simp; omega)))) | (refine Below.trans ?_ (Below.mono hb7 (by first | omega | (simp; done) | (simp; omega)))) | (refine Below.trans ?_ (Below.mono hb8 (by first | omega | (simp; done) | (simp; omega)))) | (refine Below.trans ?_ (Below.mono hb9 (by first | omega | (simp; done) | (simp; omega)))) | (refine Below.trans ?_ (Below.mono hb10 (by first | omega | (simp; done) | (simp; omega)))) | (refine Below.trans ?_ (Below.mono hb11 (by first | omega | (simp; done) | (simp; omega)))) | (refine Below.trans ?_ (Below.mono hb12 (by first | omega | (simp; done) | (simp; omega))))))⟩
  · have hlen := new_len r c
    have h60' : (60 : Int) < ((Pl.new r c).cells.length : Int) := by rw [hlen]; omega
    go_enter Try.func60, Try.ntmps60
    go_wp2_with fail
    refine (rNew_in r c h).mono ?_
    rintro e w1 ⟨b, cap, rfl, hrc, hge, hb1⟩
    have hB1 : Below w.heap.size w w1 := by with_reducible (repeat (first | exact Below.refl _ _ | assumption | (refine Below.setCell ?_ (by first | omega | (simp; done) | (simp; omega)) _) | (refine Below.alloc ?_ (by first | omega | (simp; done) | (simp; omega)) _) | (refine below_drewN ?_ _) | (refine Below.drew ?_) | (refine Below.trans ?_ (Below.mono hb (by first | omega | (simp; done) | (simp; omega)))) | (refine Below.trans ?_ (Below.mono hb1 (by first | omega | (simp; done) | (simp; omega)))) | (refine Below.trans ?_ (Below.mono hb2 (by first | omega | (simp; done) | (simp; omega)))) | (refine Below.trans ?_ (Below.mono hb3 (by first | omega | (simp; done) | (simp; omega)))) | (refine Below.trans ?_ (Below.mono hb4 (by first | omega | (simp; done) | (simp; omega)))) | (refine Below.trans ?_ (Below.mono hb5 (by first | omega | (simp; done) | (simp; omega)))) | (refine Below.trans ?_ (Below.mono hb6 (by first | omega | (simp; done) | (simp; omega)))) | (refine Below.trans ?_ (Below.mono hb7 (by first | omega | (simp; done) | (simp; omega)))) | (refine Below.trans ?_ (Below.mono hb8 (by first | omega | (simp; done) | (simp; omega)))) | (refine Below.trans ?_ (Below.mono hb9 (by first | omega | (simp; done) | (simp; omega)))) | (refine Below.trans ?_ (Below.mono hb10 (by first | omega | (simp; done) | (simp; omega)))) | (refine Below.trans ?_ (Below.mono hb11 (by first | omega | (simp; done) | (simp; omega)))) | (refine Below.trans ?_ (Below.mono hb12 (by first | omega | (simp; done) | (simp; omega))))))
    have hz1 := hb1.size
    simp only [World.size_alloc] at hz1
    have X7 := ((Box4.new (w.alloc (.cells #[.int .i64 r, .int .i64 c] 48)) (.int .i64 0) (.int .i64 0) (.slice none 0 0) (.int .i64 0) 77).below hb1)
    rw [World.size_alloc] at X7
    obtain ⟨c0, c1, c2, c3, f0, f1, f2, f3⟩ := X7
    clear hb1
    have hlt1 : w.heap.size + 1 < w1.heap.size := by omega
    obtain ⟨N, hN⟩ : ∃ N, Pl.new r c = N := ⟨_, rfl⟩
    rw [hN] at h60' ⊢
    clear hN hlen hrc
    go_wp2
    go_region
    go_wp2
    exact bodyPost_ret (v := .tuple #[.pointer none, .agg #[.int .i64 N.rows, .int .i64 N.cols, .slice (some ⟨b, 0, none⟩) N.cells.length cap, .int .i64 N.cursor], .bool false]) (by simp [results, Try.results60, go_sem, c0, c1, c2, c3, hlt1]) rfl ⟨_, _, _, _, _, _, rfl, by with_reducible (repeat (first | exact Below.refl _ _ | assumption | (refine Below.setCell ?_ (by first | omega | (simp; done) | (simp; omega)) _) | (refine Below.alloc ?_ (by first | omega | (simp; done) | (simp; omega)) _) | (refine below_drewN ?_ _) | (refine Below.drew ?_) | (refine Below.trans ?_ (Below.mono hb (by first | omega | (simp; done) | (simp; omega)))) | (refine Below.trans ?_ (Below.mono hb1 (by first | omega | (simp; done) | (simp; omega)))) | (refine Below.trans ?_ (Below.mono hb2 (by first | omega | (simp; done) | (simp; omega)))) | (refine Below.trans ?_ (Below.mono hb3 (by first | omega | (simp; done) | (simp; omega)))) | (refine Below.trans ?_ (Below.mono hb4 (by first | omega | (simp; done) | (simp; omega)))) | (refine Below.trans ?_ (Below.mono hb5 (by first | omega | (simp; done) | (simp; omega)))) | (refine Below.trans ?_ (Below.mono hb6 (by first | omega | (simp; done) | (simp; omega)))) | (refine Below.trans ?_ (Below.mono hb7 (by first | omega | (simp; done) | (simp; omega)))) | (refine Below.trans ?_ (Below.mono hb8 (by first | omega | (simp; done) | (simp; omega)))) | (refine Below.trans ?_ (Below.mono hb9 (by first | omega | (simp; done) | (simp; omega)))) | (refine Below.trans ?_ (Below.mono hb10 (by first | omega | (simp; done) | (simp; omega)))) | (refine Below.trans ?_ (Below.mono hb11 (by first | omega | (simp; done) | (simp; omega)))) | (refine Below.trans ?_ (Below.mono hb12 (by first | omega | (simp; done) | (simp; omega))))))⟩

set_option maxRecDepth 100000 in
theorem made16_in {w : World} (r c : Int) (ao : Option Addr) (cs : List Cell) (cap0 : Nat) (hA : ARow w ao cs) (h : goodSize r c = true) (h60 : r * c ≤ 60) :
    Calls Try.prog 60 #[.agg #[.int .i64 r, .int .i64 c], .slice ao cs.length cap0] w (MadePost ((Pl.new r c).fill cs) w) := by
  obtain ⟨h1, h2, h3, h4, h5⟩ := goodSize_out h
  have h0 : 0 < r * c := Int.mul_pos (by omega) (by omega)
  have hlen := new_len r c
  have hok := Pl.new_ok h1 h2 h3 h4 h5
  have hNl : ((Pl.new r c).cells.length : Int) = r * c := by omega
  go_enter Try.func60, Try.ntmps60
  go_wp2_with fail
  refine (rNew_in r c h).mono ?_
  rintro e w1 ⟨b2, cap2, rfl, hrc, hge, hb1⟩
  have hB1 : Below w.heap.size w w1 := by with_reducible (repeat (first | exact Below.refl _ _ | assumption | (refine Below.setCell ?_ (by first | omega | (simp; done) | (simp; omega)) _) | (refine Below.alloc ?_ (by first | omega | (simp; done) | (simp; omega)) _) | (refine below_drewN ?_ _) | (refine Below.drew ?_) | (refine Below.trans ?_ (Below.mono hb (by first | omega | (simp; done) | (simp; omega)))) | (refine Below.trans ?_ (Below.mono hb1 (by first | omega | (simp; done) | (simp; omega)))) | (refine Below.trans ?_ (Below.mono hb2 (by first | omega | (simp; done) | (simp; omega)))) | (refine Below.trans ?_ (Below.mono hb3 (by first | omega | (simp; done) | (simp; omega)))) | (refine Below.trans ?_ (Below.mono hb4 (by first | omega | (simp; done) | (simp; omega)))) | (refine Below.trans ?_ (Below.mono hb5 (by first | omega | (simp; done) | (simp; omega)))) | (refine Below.trans ?_ (Below.mono hb6 (by first | omega | (simp; done) | (simp; omega)))) | (refine Below.trans ?_ (Below.mono hb7 (by first | omega | (simp; done) | (simp; omega)))) | (refine Below.trans ?_ (Below.mono hb8 (by first | omega | (simp; done) | (simp; omega)))) | (refine Below.trans ?_ (Below.mono hb9 (by first | omega | (simp; done) | (simp; omega)))) | (refine Below.trans ?_ (Below.mono hb10 (by first | omega | (simp; done) | (simp; omega)))) | (refine Below.trans ?_ (Below.mono hb11 (by first | omega | (simp; done) | (simp; omega)))) | (refine Below.trans ?_ (Below.mono hb12 (by first | omega | (simp; done) | (simp; omega))))))
  have hz1 := hb1.size
  simp only [World.size_alloc] at hz1 hge
  have X7 := ((Box4.new (w.alloc (.cells #[.int .i64 r, .int .i64 c] 48)) (.int .i64 0) (.int .i64 0) (.slice none 0 0) (.int .i64 0) 77).below hb1)
  rw [World.size_alloc] at X7
  have s0 : w1.cell? ⟨w.heap.size, 0, none⟩ = some (.int .i64 r) := (hb1.cell (by simp; omega)).trans (by simp [go_sem])
  have s1 : w1.cell? ⟨w.heap.size, 1, none⟩ = some (.int .i64 c) := (hb1.cell (by simp; omega)).trans (by simp [go_sem])
  have hlt0 : w.heap.size < w1.heap.size := by omega
  have hlt1 : w.heap.size + 1 < w1.heap.size := by omega
  have HX7 := Lib.hid X7
  clear X7 hb1
  obtain ⟨N, hN⟩ : ∃ N, Pl.new r c = N := ⟨_, rfl⟩
  rw [hN] at hrc hok hNl ⊢
  have hNl' : (N.cells.length : Int) ≤ 60 := by omega
  have HN := Lib.hid hN
  have HNL := Lib.hid hNl
  clear hN hlen hNl
  go_wp2_with fail
  refine (New_in r c h1 h2 h3 h4 h5).mono ?_
  rintro e w3 ⟨g, b, cap, rfl, hP, hgg, hgb, hb3⟩
  rw [HN.out] at hP
  have hB3a : Below w1.heap.size w1 w3 := ((Below.refl _ _).alloc (Nat.le_refl _) _).trans (hb3.mono (by simp))
  have XX := ((Box4.new w1 (.int .i64 N.rows) (.int .i64 N.cols) (.slice (some ⟨b2, 0, none⟩) N.cells.length cap2) (.int .i64 N.cursor) 77).below hb3)
  have X7 := HX7.out.below hB3a
  have hrc3 := hrc.below hB3a
  have hB3 : Below w.heap.size w w3 := hB1.trans (hB3a.mono (by omega))
  have hA3 := hA.below hB3
  have hz3 := hB3a.size
  have hz3b := hb3.size
  have hb2l := hrc.bl
  simp only [World.size_alloc] at hgg hgb hz3b
  have HXX := Lib.hid (And.intro XX X7)
  have HAA := Lib.hid hA3
  have HA0 := Lib.hid hA
  have hcl : cs.length ≤ maxLen := hA.1
  have hcl2 : (cs.length : Int) ≤ 9223372036854775807 := by unfold maxLen at hcl; omega
  clear XX X7 hb3 hB3a hrc s0 s1 hA hA3
  go_wp2
  go_loopw [34] (fun i wr => ∃ k : Nat, k ≤ cs.length ∧ i = .int .i64 (k : Int) ∧ PL wr g b cap (N.fillK cs k) ∧ RC wr b2 (N.fillK cs k) ∧ Chg (fun j => j = b ∨ j = b2) w3 wr) (fun i _ => cs.length - (intOf i).toNat)
  case atStart => exact ⟨0, Nat.zero_le _, rfl, hP, hrc3, Chg.refl _ _⟩
  case round =>
    obtain ⟨k, hk, rfl, hPk, hRk, hC⟩ := hrel
    have hlenk := N.fillK_len cs k
    have hzr := hC.size
    obtain ⟨X9, X7⟩ := HXX.out
    have X9' := X9.chg hC (by show ¬ (w1.heap.size = b ∨ w1.heap.size = b2); omega)
    have hXc := X9'
    obtain ⟨c0, c1, c2, c3, f0, f1, f2, f3⟩ := hXc
    by_cases hlt : k < cs.length
    · have hlt' : (k : Int) < (cs.length : Int) := by omega
      have hAk := HAA.out.2 k hlt
      have hstep := N.fillK_step cs k hlt
      obtain ⟨x, hx⟩ : ∃ x, cs[k] = x := ⟨_, rfl⟩
      rw [hx] at hAk hstep
      clear hx
      obtain ⟨hcok, ab, off, rfl, hal, a0, a1, a2, a3, a4⟩ := hAk
      have hal0 : ab < w.heap.size := by
        obtain ⟨_, b', o', e, hl, _⟩ := HA0.out.2 k hlt
        cases e
        exact hl
      have hS : ¬ (ab = b ∨ ab = b2) := by omega
      replace a0 := cell_keepC a0 hC hS
      replace a1 := cell_keepC a1 hC hS
      replace a2 := cell_keepC a2 hC hS
      replace a3 := cell_keepC a3 hC hS
      replace a4 := cell_keepC a4 hC hS
      have HST := Lib.hid hstep
      clear hstep
      have hkl : (k : Int) < (cs.length : Int) := by omega
      have hxl : w1.heap.size < wr.heap.size := by omega
      by_cases hkn : k < N.cells.length
      · have hkn' : (k : Int) < (N.cells.length : Int) := by omega
        have hBa : Below wr.heap.size wr (wr.alloc (.cells #[.int .u8 x.byte, .bool x.ge, .bool x.start, .int .u8 x.light, .int .u8 x.color] 96)) := (Below.refl _ _).alloc (Nat.le_refl _) _
        go_wp2_with fail
        refine (Set_in (hPk.below hBa) (k : Int) x (by omega) (by rw [hlenk]; exact hkn') hcok).mono ?_
        rintro e w5 ⟨rfl, hP5, hk5⟩
        have hCa : Chg (fun j => j = b ∨ j = b2) w3 w5 := (hC.alloc _).trans (chgBA hk5)
        have hz5 := hk5.size
        simp only [World.size_alloc] at hz5
        have X95 := ((X9'.below hBa).chg hk5 (by show ¬ w1.heap.size = b; omega))
        obtain ⟨c0, c1, c2, c3, f0, f1, f2, f3⟩ := X95
        have hR5 := (hRk.below hBa).chg hk5 (by show ¬ b2 = b; omega)
        have hsb : ¬ wr.heap.size = b := by have := hPk.bl; omega
        have y0 : w5.cell? ⟨wr.heap.size, 0, none⟩ = some (.int .u8 x.byte) := cell_keepC (by simp [go_sem]) hk5 hsb
        have y1 : w5.cell? ⟨wr.heap.size, 1, none⟩ = some (.bool x.ge) := cell_keepC (by simp [go_sem]) hk5 hsb
        have y2 : w5.cell? ⟨wr.heap.size, 2, none⟩ = some (.bool x.start) := cell_keepC (by simp [go_sem]) hk5 hsb
        have y3 : w5.cell? ⟨wr.heap.size, 3, none⟩ = some (.int .u8 x.light) := cell_keepC (by simp [go_sem]) hk5 hsb
        have y4 : w5.cell? ⟨wr.heap.size, 4, none⟩ = some (.int .u8 x.color) := cell_keepC (by simp [go_sem]) hk5 hsb
        obtain ⟨k0, k1, k2, k3, k4⟩ := hR5.row5 k (by omega)
        have fz := hR5.fz
        clear hPk hRk hk5 hBa a0 a1 a2 a3 a4 hS
        go_wp2
        go_roundw
        case rel =>
          have hp := hR5.put (i := (k : Int)) (by omega) (by rw [hlenk]; exact hkn') hcok
          have hkp := putC_chg (S := (· = b2)) (Chg.refl _ w5) (.inl rfl) (k * 5) x
          rw [← HST.out] at hp hP5
          rw [Int.toNat_natCast] at hp
          exact ⟨k + 1, by omega, by go_num, hP5.chg hkp (by show ¬ g = b2; omega) (by show ¬ b = b2; omega), hp, hCa.trans (chgAB hkp)⟩
        case measure => simp [intOf]; omega
      · go_wp2
        go_roundw
        case rel =>
          have e := N.fillK_skip cs k (by omega)
          have hBa : Below wr.heap.size wr (wr.alloc (.cells #[.int .u8 x.byte, .bool x.ge, .bool x.start, .int .u8 x.light, .int .u8 x.color] 96)) := (Below.refl _ _).alloc (Nat.le_refl _) _
          rw [← e] at hPk hRk
          exact ⟨k + 1, by omega, by go_num, hPk.below hBa, hRk.below hBa, hC.alloc _⟩
        case measure => simp [intOf]; omega
    · have e : k = cs.length := by omega
      subst e
      have hX7 := X7.chg hC (by show ¬ (w.heap.size + 1 = b ∨ w.heap.size + 1 = b2); omega)
      have hB5 : Below w.heap.size w wr := hB3.trans (hC.below (by omega) (fun j hj => by rcases hj with hj | hj <;> omega))
      have hl5 := hX7.lt
      obtain ⟨d0, d1, d2, d3, g0, g1, g2, g3⟩ := hX7
      have hfin : Hid ((Pl.new r c).fill cs = N.fillK cs cs.length) := Lib.hid (by rw [HN.out]; rfl)
      have hcur : Hid ((N.fillK cs cs.length).cursor = N.cursor) := Lib.hid rfl
      clear X9 X7 X9'
      go_wp2
      go_region
      go_wp2
      have hk6 := ((((Chg.setCell (a := ⟨w.heap.size + 1, 0, none⟩) (Chg.refl (· = w.heap.size + 1) wr) (.inl rfl) (.int .i64 N.rows)).setCell (a := ⟨w.heap.size + 1, 1, none⟩) (.inl rfl) (.int .i64 N.cols)).setCell (a := ⟨w.heap.size + 1, 2, none⟩) (.inl rfl) (.slice (some ⟨b2, 0, none⟩) N.cells.length cap2)).setCell (a := ⟨w.heap.size + 1, 3, none⟩) (.inl rfl) (.int .i64 N.cursor)).drew
      refine bodyPost_ret (v := .tuple #[.pointer (some ⟨g, 0, none⟩), .agg #[.int .i64 N.rows, .int .i64 N.cols, .slice (some ⟨b2, 0, none⟩) N.cells.length cap2, .int .i64 N.cursor], .bool true]) (by simp [results, Try.results60, go_sem, d0, d1, d2, d3]) rfl ?_
      rw [hfin.out]
      refine ⟨g, b, cap, b2, cap2, by rw [← N.fillK_len cs cs.length]; rfl, hPk.chg hk6 (by show ¬ g = w.heap.size + 1; omega) (by show ¬ b = w.heap.size + 1; omega), hRk.chg hk6 (by show ¬ b2 = w.heap.size + 1; omega), by omega, by omega, by omega, by omega, by omega, hB5.trans (hk6.below (by omega) (fun j hj => by omega))⟩
end Go.Proofs.Ytbkddgeocmkegaa

/-! PaintRounds: the walk. -/
namespace Go.Proofs.Ytbkddgeocmkegaa
open Go.RowKit Go.Shelf
set_option linter.unusedSimpArgs false
set_option linter.unusedVariables false
set_option maxHeartbeats 8000000
attribute [local go_sem ↓] run_start run_byte run_cols run_neq_cell run_eql_cell run_eql_size

theorem not_good16 {r c : Int} (h : ¬ (goodSize r c = true ∧ r * c ≤ 60)) : goodSize r c = false ∨ (goodSize r c = true ∧ 60 < r * c) := by
  cases e : goodSize r c
  · exact .inl rfl
  · exact .inr ⟨rfl, by rw [e] at h; simp at h; exact h⟩
theorem samePl_refl (P : Pl) : SamePl P P = true := by unfold SamePl; simp

/-- Bytes that count. -/
def cntB (b : Int) (k : Nat) : List Int := (List.range k).map fun (i : Nat) => (b + (i : Int)) % 256
theorem cntB_len (b : Int) (k : Nat) : (cntB b k).length = k := by simp [cntB]
theorem cntB_succ (b : Int) (k : Nat) : cntB b (k + 1) = cntB b k ++ [(b + (k : Int)) % 256] := by simp [cntB, List.range_succ]
theorem cntB_ok (b : Int) (k : Nat) : ∀ x ∈ cntB b k, 0 ≤ x ∧ x ≤ 255 := by
  intro x hx
  unfold cntB at hx
  rw [List.mem_map] at hx
  obtain ⟨i, _, rfl⟩ := hx
  omega
def oD (d : List Int) : Ord := ⟨0, 0, 0, false, [], d⟩
theorem oD_ok {d : List Int} (h : ∀ x ∈ d, 0 ≤ x ∧ x ≤ 255) : (oD d).ok := ⟨by simp [oD], by simp [oD], by simp [oD], by simp [oD], h⟩
theorem run_un (s : Br) (a b : Int) (os : List Ord) : s.run (⟨119, 0, 0, false, [], []⟩ :: os) = (s, 0, 31) := rfl
theorem run_data (s : Br) (d : List Int) : s.run [oD d] = ({ s.bytes d with laid := decide (0 < d.length) }, 1, 0) := rfl

theorem info_u8 : (Try.prog.info? 5).map (fun i => (i.zero, i.size, i.bytes)) = some (some (.int .u8 0), 1, 1) := by kernel_rfl

set_option maxRecDepth 100000 in
theorem paintRounds_walk (w : World) (r c a by' : Int) (hby : 0 ≤ by' ∧ by' ≤ 255) (ao : Option Addr) (cs : List Cell) (cap0 : Nat) (hA : ARow w ao cs) (oo : Option Addr) (os : List Ord) (capo : Nat) (hO : ORow w (fun k => w.heap.size ≤ k) oo os) :
    Calls Try.prog 13 #[.agg #[.int .i64 r, .int .i64 c], .slice ao cs.length cap0, .slice oo os.length capo, .int .i64 a, .int .u8 by'] w fun e w' => e = .returned (.bool true) ∧ Below w.heap.size w w' := by
  have hol : (os.length : Int) ≤ 9223372036854775807 := by have := hO.1; unfold maxLen at this; omega
  by_cases h : goodSize r c = true ∧ r * c ≤ 60
  · obtain ⟨h1, h2⟩ := h
    obtain ⟨P, hP⟩ : ∃ P, (Pl.new r c).fill cs = P := ⟨_, rfl⟩
    have HPN := Lib.hid hP
    clear hP
    go_enter Try.func13, Try.ntmps13
    go_wp2_with fail
    refine (alive16_any _).mono ?_
    rintro e w1 ⟨rfl, hb1⟩
    have hB : Below w.heap.size w w1 := by with_reducible (repeat (first | exact Below.refl _ _ | assumption | (refine Below.setCell ?_ (by first | omega | (simp; done) | (simp; omega)) _) | (refine Below.alloc ?_ (by first | omega | (simp; done) | (simp; omega)) _) | (refine below_drewN ?_ _) | (refine Below.drew ?_) | (refine Below.trans ?_ (Below.mono hb (by first | omega | (simp; done) | (simp; omega)))) | (refine Below.trans ?_ (Below.mono hb1 (by first | omega | (simp; done) | (simp; omega)))) | (refine Below.trans ?_ (Below.mono hb2 (by first | omega | (simp; done) | (simp; omega)))) | (refine Below.trans ?_ (Below.mono hb3 (by first | omega | (simp; done) | (simp; omega)))) | (refine Below.trans ?_ (Below.mono hb4 (by first | omega | (simp; done) | (simp; omega)))) | (refine Below.trans ?_ (Below.mono hb5 (by first | omega | (simp; done) | (simp; omega)))) | (refine Below.trans ?_ (Below.mono hb6 (by first | omega | (simp; done) | (simp; omega)))) | (refine Below.trans ?_ (Below.mono hb7 (by first | omega | (simp; done) | (simp; omega)))) | (refine Below.trans ?_ (Below.mono hb8 (by first | omega | (simp; done) | (simp; omega)))) | (refine Below.trans ?_ (Below.mono hb9 (by first | omega | (simp; done) | (simp; omega)))) | (refine Below.trans ?_ (Below.mono hb10 (by first | omega | (simp; done) | (simp; omega)))) | (refine Below.trans ?_ (Below.mono hb11 (by first | omega | (simp; done) | (simp; omega)))) | (refine Below.trans ?_ (Below.mono hb12 (by first | omega | (simp; done) | (simp; omega))))))
    have s0 : w1.cell? ⟨w.heap.size, 0, none⟩ = some (.int .i64 r) := (hb1.cell (by simp)).trans (by simp [go_sem])
    have s1 : w1.cell? ⟨w.heap.size, 1, none⟩ = some (.int .i64 c) := (hb1.cell (by simp)).trans (by simp [go_sem])
    have hA1 := hA.below hB
    have hO1 := hO.below hB
    have hz1 := hB.size
    clear hb1 hA
    go_wp2_with fail
    refine (made16_in r c ao cs cap0 hA1 h1 h2).mono ?_
    rw [HPN.out]
    rintro e w2 ⟨g, b, cap, b', cap', rfl, hP, hR2, hgg, hgb, hgb', hn1, hn2, hb2⟩
    replace hO1 := hO1.below hb2
    replace hB := hB.trans (hb2.mono hB.size)
    have hz2 := hB.size
    have hok := hP.ok
    have hn := Pl.N_pos hok
    have hm := Pl.N_le hok
    clear s0 s1 hA1 hb2 hR2 hn1 hn2 hgb'
    have hNp : (0 : Int) < (P.cells.length : Int) := by omega
    have hNe : P.cells ≠ [] := fun e => by rw [e] at hn; exact absurd hn (Nat.lt_irrefl 0)
    go_wp2_with fail
    refine (few_any os oo capo _ (hO1.below (by with_reducible (repeat (first | exact Below.refl _ _ | assumption | (refine Below.setCell ?_ (by first | omega | (simp; done) | (simp; omega)) _) | (refine Below.alloc ?_ (by first | omega | (simp; done) | (simp; omega)) _) | (refine below_drewN ?_ _) | (refine Below.drew ?_) | (refine Below.trans ?_ (Below.mono hb (by first | omega | (simp; done) | (simp; omega)))) | (refine Below.trans ?_ (Below.mono hb1 (by first | omega | (simp; done) | (simp; omega)))) | (refine Below.trans ?_ (Below.mono hb2 (by first | omega | (simp; done) | (simp; omega)))) | (refine Below.trans ?_ (Below.mono hb3 (by first | omega | (simp; done) | (simp; omega)))) | (refine Below.trans ?_ (Below.mono hb4 (by first | omega | (simp; done) | (simp; omega)))) | (refine Below.trans ?_ (Below.mono hb5 (by first | omega | (simp; done) | (simp; omega)))) | (refine Below.trans ?_ (Below.mono hb6 (by first | omega | (simp; done) | (simp; omega)))) | (refine Below.trans ?_ (Below.mono hb7 (by first | omega | (simp; done) | (simp; omega)))) | (refine Below.trans ?_ (Below.mono hb8 (by first | omega | (simp; done) | (simp; omega)))) | (refine Below.trans ?_ (Below.mono hb9 (by first | omega | (simp; done) | (simp; omega)))) | (refine Below.trans ?_ (Below.mono hb10 (by first | omega | (simp; done) | (simp; omega)))) | (refine Below.trans ?_ (Below.mono hb11 (by first | omega | (simp; done) | (simp; omega)))) | (refine Below.trans ?_ (Below.mono hb12 (by first | omega | (simp; done) | (simp; omega))))))))).mono ?_
    cases hf : fewB os
    · rintro e w3 ⟨rfl, hb3⟩
      go_wp2
      go_ret
      exact ⟨by rfl, by with_reducible (repeat (first | exact Below.refl _ _ | assumption | (refine Below.setCell ?_ (by first | omega | (simp; done) | (simp; omega)) _) | (refine Below.alloc ?_ (by first | omega | (simp; done) | (simp; omega)) _) | (refine below_drewN ?_ _) | (refine Below.drew ?_) | (refine Below.trans ?_ (Below.mono hb (by first | omega | (simp; done) | (simp; omega)))) | (refine Below.trans ?_ (Below.mono hb1 (by first | omega | (simp; done) | (simp; omega)))) | (refine Below.trans ?_ (Below.mono hb2 (by first | omega | (simp; done) | (simp; omega)))) | (refine Below.trans ?_ (Below.mono hb3 (by first | omega | (simp; done) | (simp; omega)))) | (refine Below.trans ?_ (Below.mono hb4 (by first | omega | (simp; done) | (simp; omega)))) | (refine Below.trans ?_ (Below.mono hb5 (by first | omega | (simp; done) | (simp; omega)))) | (refine Below.trans ?_ (Below.mono hb6 (by first | omega | (simp; done) | (simp; omega)))) | (refine Below.trans ?_ (Below.mono hb7 (by first | omega | (simp; done) | (simp; omega)))) | (refine Below.trans ?_ (Below.mono hb8 (by first | omega | (simp; done) | (simp; omega)))) | (refine Below.trans ?_ (Below.mono hb9 (by first | omega | (simp; done) | (simp; omega)))) | (refine Below.trans ?_ (Below.mono hb10 (by first | omega | (simp; done) | (simp; omega)))) | (refine Below.trans ?_ (Below.mono hb11 (by first | omega | (simp; done) | (simp; omega)))) | (refine Below.trans ?_ (Below.mono hb12 (by first | omega | (simp; done) | (simp; omega))))))⟩
    · have HFEW := Lib.hid hf
      clear hf
      rintro e w3 ⟨rfl, hb3⟩
      have hB23 : Below w2.heap.size w2 w3 := by with_reducible (repeat (first | exact Below.refl _ _ | assumption | (refine Below.setCell ?_ (by first | omega | (simp; done) | (simp; omega)) _) | (refine Below.alloc ?_ (by first | omega | (simp; done) | (simp; omega)) _) | (refine below_drewN ?_ _) | (refine Below.drew ?_) | (refine Below.trans ?_ (Below.mono hb (by first | omega | (simp; done) | (simp; omega)))) | (refine Below.trans ?_ (Below.mono hb1 (by first | omega | (simp; done) | (simp; omega)))) | (refine Below.trans ?_ (Below.mono hb2 (by first | omega | (simp; done) | (simp; omega)))) | (refine Below.trans ?_ (Below.mono hb3 (by first | omega | (simp; done) | (simp; omega)))) | (refine Below.trans ?_ (Below.mono hb4 (by first | omega | (simp; done) | (simp; omega)))) | (refine Below.trans ?_ (Below.mono hb5 (by first | omega | (simp; done) | (simp; omega)))) | (refine Below.trans ?_ (Below.mono hb6 (by first | omega | (simp; done) | (simp; omega)))) | (refine Below.trans ?_ (Below.mono hb7 (by first | omega | (simp; done) | (simp; omega)))) | (refine Below.trans ?_ (Below.mono hb8 (by first | omega | (simp; done) | (simp; omega)))) | (refine Below.trans ?_ (Below.mono hb9 (by first | omega | (simp; done) | (simp; omega)))) | (refine Below.trans ?_ (Below.mono hb10 (by first | omega | (simp; done) | (simp; omega)))) | (refine Below.trans ?_ (Below.mono hb11 (by first | omega | (simp; done) | (simp; omega)))) | (refine Below.trans ?_ (Below.mono hb12 (by first | omega | (simp; done) | (simp; omega))))))
      replace hP := hP.below hB23
      replace hO1 := hO1.below hB23
      replace hB := hB.trans (hB23.mono hz2)
      have hz3 := hB.size
      clear hb3 hB23
      have hmod : (a % 256).tmod (P.cells.length : Int) = a % 256 % (P.cells.length : Int) := Int.tmod_eq_emod_of_nonneg (by omega)
      have hband := i64_and255 a
      have ha0 : 0 ≤ a % 256 := by omega
      obtain ⟨fr, hfr⟩ : ∃ fr, a % 256 % (P.cells.length : Int) = fr := ⟨_, rfl⟩
      have hfr0 : 0 ≤ fr ∧ fr < (P.cells.length : Int) := by rw [← hfr]; exact ⟨Int.emod_nonneg _ (by omega), Int.emod_lt_of_pos _ hNp⟩
      rw [hfr] at hmod
      clear hfr
      go_wp2_with fail
      refine (Len_any hP).mono ?_
      rintro e w4 ⟨rfl, hbb⟩
      replace hP := hP.below hbb
      replace hO1 := hO1.below hbb
      replace hB := hB.trans (hbb.mono (by first | exact hB.size | (have := hB.size; simp; omega)))
      have hz4 := hB.size
      have hzz4 := hbb.size
      try simp only [World.size_alloc, World.size_drew, World.size_setCell] at hzz4
      clear hbb
      obtain ⟨⟨t, m, er⟩, hR⟩ : ∃ R, (Br.new P fr).run os = R := ⟨_, rfl⟩
      have hos : ∀ o ∈ os, o.ok := by
        intro o ho
        obtain ⟨k, hk, rfl⟩ := List.getElem_of_mem ho
        obtain ⟨_, _, _, _, _, _, _, _, _, _, _, hr⟩ := hO.2 k hk
        exact hr.ok
      have htok : t.ok := by have := run_state_ok (Br.new_ok hok hfr0.1 hfr0.2) hos; rw [hR] at this; exact this
      have hml : m ≤ os.length := by have := run_len (Br.new P fr) os; rw [hR] at this; exact this
      have HR := Lib.hid hR
      clear hR hos
      go_wp2_with fail
      refine (Paint_in hP os oo capo (hO1.weak (fun k _ e => by rcases e with e | e <;> (show w.heap.size ≤ k) <;> omega)) fr hfr0.1 hfr0.2 (t, m, er) HR).mono ?_
      rintro e w5 ⟨rfl, hnew, hkk⟩
      replace hB := hB.trans (hkk.below (by first | exact hB.size | (have := hB.size; simp; omega)) (fun j hj => by first | omega | (simp only [GB] at hj; omega)))
      have hz5 := hB.size
      have hzz5 := hkk.size
      try simp only [World.size_alloc, World.size_drew, World.size_setCell] at hzz5
      clear hkk
      clear hP
      have hP := hnew
      clear hnew
      simp only at hP
      clear hmod hband ha0
      obtain ⟨t0, t1⟩ := And.intro htok.a0 htok.a1
      have hml' : (m : Int) ≤ (os.length : Int) := by omega
      have d1 : decide (os.length < m) = false := decide_eq_false (by omega)
      have hgl := hP.gl
      have hbl := hP.bl
      have hmN := Pl.N_le htok.p
      have hnN := Pl.N_pos htok.p
      clear hO1 hO hNe hNp hm hn
      go_wp2_with fail
      refine (Len_any hP).mono ?_
      rintro e w6 ⟨rfl, hbb⟩
      replace hP := hP.below hbb
      replace hB := hB.trans (hbb.mono (by first | exact hB.size | (have := hB.size; simp; omega)))
      have hz6 := hB.size
      have hzz6 := hbb.size
      try simp only [World.size_alloc, World.size_drew, World.size_setCell] at hzz6
      clear hbb
      go_wp2_with fail
      refine (Clone_any hP).mono ?_
      rintro e w7 ⟨gq, bq, capq, rfl, hQ, hgq, hbq, hbb⟩
      replace hP := hP.below hbb
      replace hB := hB.trans (hbb.mono hB.size)
      have hz7 := hB.size
      have hzz7 := hbb.size
      clear hbb
      have hglq := hQ.gl
      have hblq := hQ.bl
      go_wp2_with fail
      obtain ⟨V, hV⟩ : ∃ V, (w7.alloc (.cells #[.int .u8 by'] 5)).alloc (.cells (oflat [(⟨119, 0, 0, false, [], []⟩, rnone), (⟨0, 0, 0, false, [], [by']⟩, ⟨none, 0, some ⟨w7.heap.size, 0, none⟩, 1⟩)]).toArray 110) = V := ⟨_, rfl⟩
      have hBV : Below w7.heap.size w7 V := by rw [← hV]; with_reducible (repeat (first | exact Below.refl _ _ | assumption | (refine Below.setCell ?_ (by first | omega | (simp; done) | (simp; omega)) _) | (refine Below.alloc ?_ (by first | omega | (simp; done) | (simp; omega)) _) | (refine below_drewN ?_ _) | (refine Below.drew ?_) | (refine Below.trans ?_ (Below.mono hb (by first | omega | (simp; done) | (simp; omega)))) | (refine Below.trans ?_ (Below.mono hb1 (by first | omega | (simp; done) | (simp; omega)))) | (refine Below.trans ?_ (Below.mono hb2 (by first | omega | (simp; done) | (simp; omega)))) | (refine Below.trans ?_ (Below.mono hb3 (by first | omega | (simp; done) | (simp; omega)))) | (refine Below.trans ?_ (Below.mono hb4 (by first | omega | (simp; done) | (simp; omega)))) | (refine Below.trans ?_ (Below.mono hb5 (by first | omega | (simp; done) | (simp; omega)))) | (refine Below.trans ?_ (Below.mono hb6 (by first | omega | (simp; done) | (simp; omega)))) | (refine Below.trans ?_ (Below.mono hb7 (by first | omega | (simp; done) | (simp; omega)))) | (refine Below.trans ?_ (Below.mono hb8 (by first | omega | (simp; done) | (simp; omega)))) | (refine Below.trans ?_ (Below.mono hb9 (by first | omega | (simp; done) | (simp; omega)))) | (refine Below.trans ?_ (Below.mono hb10 (by first | omega | (simp; done) | (simp; omega)))) | (refine Below.trans ?_ (Below.mono hb11 (by first | omega | (simp; done) | (simp; omega)))) | (refine Below.trans ?_ (Below.mono hb12 (by first | omega | (simp; done) | (simp; omega))))))
      have hA0 : V.heap[w7.heap.size]? = some (.cells (([by'] : List Int).map (Value.int .u8) ++ []).toArray 5 (0, 0)) := by rw [← hV]; exact (Below.heap_alloc _ _ _ (by simp)).trans (World.alloc_heap_new w7 _)
      have hA1 : V.heap[w7.heap.size + 1]? = some (.cells (oflat [(⟨119, 0, 0, false, [], []⟩, rnone), (⟨0, 0, 0, false, [], [by']⟩, ⟨none, 0, some ⟨w7.heap.size, 0, none⟩, 1⟩)] ++ []).toArray 110 (0, 0)) := by
        rw [← hV, List.append_nil]; have := World.alloc_heap_new (w7.alloc (.cells #[.int .u8 by'] 5)) (.cells (oflat [(⟨119, 0, 0, false, [], []⟩, rnone), (⟨0, 0, 0, false, [], [by']⟩, ⟨none, 0, some ⟨w7.heap.size, 0, none⟩, 1⟩)]).toArray 110); rwa [World.size_alloc] at this
      have hO : ORow V (GB gq bq) (some ⟨w7.heap.size + 1, 0, none⟩) [⟨119, 0, 0, false, [], []⟩, oD [by']] := by
        refine ORow.of_block (l := [(⟨119, 0, 0, false, [], []⟩, rnone), (⟨0, 0, 0, false, [], [by']⟩, ⟨none, 0, some ⟨w7.heap.size, 0, none⟩, 1⟩)]) hA1 (by unfold GB; omega) (by simp [maxLen]) (fun x hx => ?_)
        simp only [List.mem_cons, List.not_mem_nil, or_false] at hx
        rcases hx with rfl | rfl
        · exact ORd.bare (okOrd (by decide)) rfl rfl _
        · exact ⟨oD_ok (d := [by']) (fun x hx => by simp at hx; subst hx; exact hby), PRow.nil _ _ _, BRow.of_block hA0 (by unfold GB; omega) (by simp [maxLen])⟩
      replace hP := hP.below hBV
      replace hQ := hQ.below hBV
      replace hB := hB.trans (hBV.mono hz7)
      have hz8 := hB.size
      have hzz8 := hBV.size
      clear hA0 hA1 hBV
      change Calls _ _ _ ((w7.alloc (.cells #[.int .u8 by'] 5)).alloc (.cells (oflat [(⟨119, 0, 0, false, [], []⟩, rnone), (⟨0, 0, 0, false, [], [by']⟩, ⟨none, 0, some ⟨w7.heap.size, 0, none⟩, 1⟩)]).toArray 110)) _
      rw [hV]
      clear hV
      refine (Paint_in hQ [⟨119, 0, 0, false, [], []⟩, oD [by']] (some ⟨w7.heap.size + 1, 0, none⟩) 2 hO t.pos t0 t1 (Br.new t.P t.pos, 0, 31) (Lib.hid (run_un _ 0 0 _))).mono ?_
      rintro e w9 ⟨rfl, hQ9, hkk⟩
      replace hP := hP.chg hkk (by unfold GB; omega) (by unfold GB; omega)
      replace hB := hB.trans (hkk.below hz8 (fun j hj => by unfold GB at hj; omega))
      have hz9 := hB.size
      have hzz9 := hkk.size
      clear hkk hQ hO
      have hQ : PL w9 gq bq capq t.P := hQ9
      clear hQ9
      go_wp2_with fail
      refine (Same_any hP hQ).mono ?_
      rw [samePl_refl]
      rintro e w10 ⟨rfl, hbb⟩
      replace hP := hP.below hbb
      replace hQ := hQ.below hbb
      replace hB := hB.trans (hbb.mono (by first | exact hB.size | (have := hB.size; simp; omega)))
      have hz10 := hB.size
      have hzz10 := hbb.size
      try simp only [World.size_alloc, World.size_drew, World.size_setCell] at hzz10
      clear hbb
      go_wp2_with fail
      obtain ⟨X, hX⟩ : ∃ X, w10.alloc (.cells #[] 5) = X := ⟨_, rfl⟩
      have hbX : Below w10.heap.size w10 X := by rw [← hX]; with_reducible (repeat (first | exact Below.refl _ _ | assumption | (refine Below.setCell ?_ (by first | omega | (simp; done) | (simp; omega)) _) | (refine Below.alloc ?_ (by first | omega | (simp; done) | (simp; omega)) _) | (refine below_drewN ?_ _) | (refine Below.drew ?_) | (refine Below.trans ?_ (Below.mono hb (by first | omega | (simp; done) | (simp; omega)))) | (refine Below.trans ?_ (Below.mono hb1 (by first | omega | (simp; done) | (simp; omega)))) | (refine Below.trans ?_ (Below.mono hb2 (by first | omega | (simp; done) | (simp; omega)))) | (refine Below.trans ?_ (Below.mono hb3 (by first | omega | (simp; done) | (simp; omega)))) | (refine Below.trans ?_ (Below.mono hb4 (by first | omega | (simp; done) | (simp; omega)))) | (refine Below.trans ?_ (Below.mono hb5 (by first | omega | (simp; done) | (simp; omega)))) | (refine Below.trans ?_ (Below.mono hb6 (by first | omega | (simp; done) | (simp; omega)))) | (refine Below.trans ?_ (Below.mono hb7 (by first | omega | (simp; done) | (simp; omega)))) | (refine Below.trans ?_ (Below.mono hb8 (by first | omega | (simp; done) | (simp; omega)))) | (refine Below.trans ?_ (Below.mono hb9 (by first | omega | (simp; done) | (simp; omega)))) | (refine Below.trans ?_ (Below.mono hb10 (by first | omega | (simp; done) | (simp; omega)))) | (refine Below.trans ?_ (Below.mono hb11 (by first | omega | (simp; done) | (simp; omega)))) | (refine Below.trans ?_ (Below.mono hb12 (by first | omega | (simp; done) | (simp; omega))))))
      have hown0 : X.ownsRow w10.heap.size 5 1 (.slice (some ⟨w10.heap.size, 0, none⟩) 0 0) 0 [] := by rw [← hX]; exact owns_empty w10 5 1
      have hzX : X.heap.size = w10.heap.size + 1 := by rw [← hX]; simp
      rw [hX]
      clear hX
      go_wp2_with fail
      refine (Len_any (hP.below hbX)).mono ?_
      obtain ⟨N, hN⟩ : ∃ N, t.P.cells.length = N := ⟨_, rfl⟩
      rw [hN] at hmN hnN t1
      have HN := Lib.hid hN
      rw [hN]
      clear hN
      rintro e w11 ⟨rfl, hb11⟩
      have hbY : Below w10.heap.size w10 w11 := hbX.trans (hb11.mono hbX.size)
      have hownY : w11.ownsRow w10.heap.size 5 1 (.slice (some ⟨w10.heap.size, 0, none⟩) 0 0) 0 [] := hown0.kept (row := none) ⟨hb11.os, hb11.tape, hb11.output, hb11.size, fun i hi _ => hb11.block i hi⟩ (.inr (by simp [Value.ownBlock]))
      have hz11 := hb11.size
      clear hb11 hown0
      have HI := Lib.hid info_u8
      go_wp2
      go_loopw [21, 108] (fun v i wr => ∃ k gd cd : Nat, k ≤ N ∧ i = .int .i64 (k : Int) ∧ v = .slice (some ⟨gd, 0, none⟩) k cd ∧ wr.ownsRow w10.heap.size 5 1 v k ((cntB by' k).map (Value.int .u8)) ∧ Below w10.heap.size w10 wr) (fun _ i _ => N - (intOf i).toNat)
      case atStart => exact ⟨0, _, _, Nat.zero_le _, rfl, rfl, hownY, hbY⟩
      case round =>
        obtain ⟨k, gd, cd, hk, rfl, rfl, hown, hBr⟩ := hrel
        have hzr := hBr.size
        by_cases hlt : k < N
        · have hlt' : (k : Int) < (N : Int) := by omega
          have hge := (hown.lt gd rfl).1
          go_wp2_with (at_builtin; obtain ⟨i0, hi, hz0, hz1, hz2⟩ := info_parts HI.out; refine wpList_append_lies _ rfl _ _ 22 rfl w10.heap.size 5 i0 _ 1 1 Try.underlying22 hi hz0 hz1 hz2 rfl (by decide) _ _ _ rfl (hown.alloc _) ⟨wr.heap.size, 0, none⟩ 1 1 [_] rfl rfl (World.news_of_block (World.alloc_heap_new _ _)) (by intro u hu; simp at hu; subst hu; rfl) (by decide) (by unfold maxLen; omega) (by omega) (by simp; omega) (wr.heap.size + 1) (by simp) ?_; clear hi hz0 hz1 hz2; intro g2 c2 wq hown2 hgr hat hlt2)
          go_wp2
          go_roundw
          case rel =>
            refine ⟨k + 1, g2, c2, by omega, by go_num, rfl, ?_, (hBr.alloc (by omega) _).grown hgr (by simp; omega) (fun j e => by cases e; exact hge)⟩
            rw [cntB_succ, List.map_append]
            exact hown2
          case measure => simp [intOf]; omega
        · have ek : k = N := by omega
          subst ek
          obtain ⟨hge, rest, hrow⟩ := owns_row hown
          have hgdl := lt_of_block hrow
          have HROW := Lib.hid hrow
          have hcl := cntB_len by' k
          have hPr := hP.below hBr
          have hQr := hQ.below hBr
          have hB' : Below w.heap.size w wr := hB.trans (hBr.mono hz10)
          have hz12 := hB'.size
          clear hrow hown hbY hownY hbX hB hP hQ
          go_wp2_with fail
          obtain ⟨V2, hV2⟩ : ∃ V2, wr.alloc (.cells (oflat [(oD (cntB by' k), ⟨none, 0, some ⟨gd, 0, none⟩, cd⟩)]).toArray 110) = V2 := ⟨_, rfl⟩
          have hBV : Below wr.heap.size wr V2 := by rw [← hV2]; with_reducible (repeat (first | exact Below.refl _ _ | assumption | (refine Below.setCell ?_ (by first | omega | (simp; done) | (simp; omega)) _) | (refine Below.alloc ?_ (by first | omega | (simp; done) | (simp; omega)) _) | (refine below_drewN ?_ _) | (refine Below.drew ?_) | (refine Below.trans ?_ (Below.mono hb (by first | omega | (simp; done) | (simp; omega)))) | (refine Below.trans ?_ (Below.mono hb1 (by first | omega | (simp; done) | (simp; omega)))) | (refine Below.trans ?_ (Below.mono hb2 (by first | omega | (simp; done) | (simp; omega)))) | (refine Below.trans ?_ (Below.mono hb3 (by first | omega | (simp; done) | (simp; omega)))) | (refine Below.trans ?_ (Below.mono hb4 (by first | omega | (simp; done) | (simp; omega)))) | (refine Below.trans ?_ (Below.mono hb5 (by first | omega | (simp; done) | (simp; omega)))) | (refine Below.trans ?_ (Below.mono hb6 (by first | omega | (simp; done) | (simp; omega)))) | (refine Below.trans ?_ (Below.mono hb7 (by first | omega | (simp; done) | (simp; omega)))) | (refine Below.trans ?_ (Below.mono hb8 (by first | omega | (simp; done) | (simp; omega)))) | (refine Below.trans ?_ (Below.mono hb9 (by first | omega | (simp; done) | (simp; omega)))) | (refine Below.trans ?_ (Below.mono hb10 (by first | omega | (simp; done) | (simp; omega)))) | (refine Below.trans ?_ (Below.mono hb11 (by first | omega | (simp; done) | (simp; omega)))) | (refine Below.trans ?_ (Below.mono hb12 (by first | omega | (simp; done) | (simp; omega))))))
          have hA1 : V2.heap[wr.heap.size]? = some (.cells (oflat [(oD (cntB by' k), ⟨none, 0, some ⟨gd, 0, none⟩, cd⟩)] ++ []).toArray 110 (0, 0)) := by
            rw [← hV2, List.append_nil]; exact World.alloc_heap_new wr _
          have hglP := hPr.gl
          have hO : ORow V2 (GB gq bq) (some ⟨wr.heap.size, 0, none⟩) [oD (cntB by' k)] := by
            refine ORow.of_block (l := [(oD (cntB by' k), ⟨none, 0, some ⟨gd, 0, none⟩, cd⟩)]) hA1 (by unfold GB; have := hQr.gl; have := hQr.bl; omega) (by simp [maxLen]) (fun x hx => ?_)
            simp only [List.mem_cons, List.not_mem_nil, or_false] at hx
            subst hx
            refine ⟨oD_ok (cntB_ok by' k), PRow.nil _ _ _, BRow.of_block ((hBV.block _ hgdl).trans HROW.out) (by unfold GB; omega) (by show (cntB by' k).length ≤ _; rw [cntB_len]; unfold maxLen; omega)⟩
          have hPV := hPr.below hBV
          have hQV := hQr.below hBV
          have hB2 := hB'.trans (hBV.mono hz12)
          have hz13 := hB2.size
          clear hA1 hPr hQr hB'
          have e9 : wr.alloc (.cells #[.int .u8 0, .int .i64 0, .int .u8 0, .bool false, .slice none 0 0, .slice (some ⟨gd, 0, none⟩) k cd] 110) = V2 := by rw [← hV2]; simp [oflat, Ord.vals, oD, hcl]
          rw [e9]
          clear e9 hV2
          refine (Paint_in hQV [oD (cntB by' k)] (some ⟨wr.heap.size, 0, none⟩) 1 hO t.pos t0 (by rw [HN.out]; exact t1) _ (Lib.hid (run_data _ _))).mono ?_
          have hs0 : (0 : Int) ≤ (Br.new t.P t.pos).pos := t0
          have hs1 : (Br.new t.P t.pos).pos < ((Br.new t.P t.pos).P.cells.length : Int) := htok.a1
          have hpos : ((Br.new t.P t.pos).bytes (cntB by' k)).pos = t.pos := by
            rw [bytes_pos' _ _ hs0 hs1, hcl]
            show (t.pos + (k : Int)) % (t.P.cells.length : Int) = t.pos
            rw [HN.out, Int.add_emod_right]
            exact Int.emod_eq_of_lt t0 t1
          have hblen := bytes_len (Br.new t.P t.pos) (cntB by' k)
          have hbat := (bytes_at (Br.new t.P t.pos) hs0 hs1 (cntB by' k) (by rw [hcl]; exact Nat.le_of_eq HN.out.symm)).1
          obtain ⟨Q2, hQ2⟩ : ∃ Q2, ((Br.new t.P t.pos).bytes (cntB by' k)).P = Q2 := ⟨_, rfl⟩
          show ∀ _ _, _ → _
          simp only [hpos, hQ2] 
          rw [hQ2] at hblen hbat
          have hcur : Q2.cursor = t.P.cursor := hblen.2.1
          have hat : ∀ i : Nat, i < k → Q2.at ((t.pos + (i : Int)) % (k : Int)) = ⟨(by' + (i : Int)) % 256, false, false, 0, 0⟩ := by
            intro i hi
            have h9 := hbat i (by rw [hcl]; exact hi)
            have e1 : ((Br.new t.P t.pos).P.cells.length : Int) = (k : Int) := by show (t.P.cells.length : Int) = _; rw [HN.out]
            rw [e1] at h9
            refine h9.trans ?_
            show (⟨(cntB by' k)[i]'(by rw [hcl]; exact hi), false, false, 0, 0⟩ : Cell) = _
            simp [cntB]
          have HAT := Lib.hid hat
          clear hat hbat hblen hpos hs0 hs1 hQ2
          rintro e w13 ⟨rfl, hQ13, hkk⟩
          have hP13 := hPV.chg hkk (by unfold GB; omega) (by unfold GB; omega)
          have hB13 : Below w.heap.size w w13 := hB2.trans (hkk.below hz13 (fun j hj => by unfold GB at hj; omega))
          have hz14 := hB13.size
          clear hkk hPV hQV hB2 hO hBV hBr
          go_wp2_with fail
          refine (Len_any hP13).mono ?_
          rw [HN.out]
          rintro e w14 ⟨rfl, hb14⟩
          have hP14 := hP13.below hb14
          have hQ14 := hQ13.below hb14
          have hB14 := hB13.trans (hb14.mono hz14)
          have hz15 := hB14.size
          clear hb14 hP13 hQ13 hB13
          go_wp2
          go_loopw [131] (fun i wr => ∃ i' : Nat, i' ≤ k ∧ i = .int .i64 (i' : Int) ∧ Below w14.heap.size w14 wr) (fun i _ => k - (intOf i).toNat)
          case atStart => exact ⟨0, Nat.zero_le _, rfl, Below.refl _ _⟩
          case round =>
            obtain ⟨i, hi, rfl, hBi⟩ := hrel
            have hP15 := hP14.below hBi
            have hQ15 := hQ14.below hBi
            have hzi := hBi.size
            by_cases hli : i < k
            · have hli' : (i : Int) < (k : Int) := by omega
              have hrem : (t.pos + (i : Int)).tmod (k : Int) = (t.pos + (i : Int)) % (k : Int) := Int.tmod_eq_emod_of_nonneg (by omega)
              have hk0 : (0 : Int) < (k : Int) := by omega
              have hkn : k ≠ 0 := by omega
              have hwr : IntKind.i64.wrap (t.pos + (i : Int)) = t.pos + (i : Int) := IntWalk.i64_in _ (by omega)
              go_wp2_with fail
              refine (Len_any hP15).mono ?_
              rw [HN.out]
              rintro e w16 ⟨rfl, hb16⟩
              have hQ16 := hQ15.below hb16
              have hB16 := hBi.trans (hb16.mono hzi)
              clear hb16
              go_wp2_with fail
              refine (At_any hQ16 _).mono ?_
              rw [HAT.out i hli]
              rintro e w17 ⟨rfl, hb17⟩
              have hB17 := hB16.trans (hb17.mono hB16.size)
              clear hb17
              go_wp2
              go_roundw
              case rel => exact ⟨i + 1, by omega, by go_num, hB17⟩
              case measure => simp [intOf]; omega
            · have hgi : (k : Int) ≤ (i : Int) := by omega
              go_wp2_with fail
              refine (Cursor_any hQ15).mono ?_
              rw [hcur]
              rintro e w16 ⟨rfl, hb16⟩
              have hP16 := hP15.below hb16
              have hB16 := hBi.trans (hb16.mono hzi)
              clear hb16
              go_wp2_with fail
              refine (Cursor_any hP16).mono ?_
              rintro e w17 ⟨rfl, hb17⟩
              have hB17 := hB16.trans (hb17.mono hB16.size)
              go_wp2
              go_ret
              exact ⟨by rfl, hB14.trans (hB17.mono hz15)⟩
  · have hbad := not_good16 h
    go_enter Try.func13, Try.ntmps13
    go_wp2_with fail
    refine (alive16_any _).mono ?_
    rintro e w1 ⟨rfl, hb1⟩
    have hB1 : Below w.heap.size w w1 := by with_reducible (repeat (first | exact Below.refl _ _ | assumption | (refine Below.setCell ?_ (by first | omega | (simp; done) | (simp; omega)) _) | (refine Below.alloc ?_ (by first | omega | (simp; done) | (simp; omega)) _) | (refine below_drewN ?_ _) | (refine Below.drew ?_) | (refine Below.trans ?_ (Below.mono hb (by first | omega | (simp; done) | (simp; omega)))) | (refine Below.trans ?_ (Below.mono hb1 (by first | omega | (simp; done) | (simp; omega)))) | (refine Below.trans ?_ (Below.mono hb2 (by first | omega | (simp; done) | (simp; omega)))) | (refine Below.trans ?_ (Below.mono hb3 (by first | omega | (simp; done) | (simp; omega)))) | (refine Below.trans ?_ (Below.mono hb4 (by first | omega | (simp; done) | (simp; omega)))) | (refine Below.trans ?_ (Below.mono hb5 (by first | omega | (simp; done) | (simp; omega)))) | (refine Below.trans ?_ (Below.mono hb6 (by first | omega | (simp; done) | (simp; omega)))) | (refine Below.trans ?_ (Below.mono hb7 (by first | omega | (simp; done) | (simp; omega)))) | (refine Below.trans ?_ (Below.mono hb8 (by first | omega | (simp; done) | (simp; omega)))) | (refine Below.trans ?_ (Below.mono hb9 (by first | omega | (simp; done) | (simp; omega)))) | (refine Below.trans ?_ (Below.mono hb10 (by first | omega | (simp; done) | (simp; omega)))) | (refine Below.trans ?_ (Below.mono hb11 (by first | omega | (simp; done) | (simp; omega)))) | (refine Below.trans ?_ (Below.mono hb12 (by first | omega | (simp; done) | (simp; omega))))))
    have s0 : w1.cell? ⟨w.heap.size, 0, none⟩ = some (.int .i64 r) := (hb1.cell (by simp)).trans (by simp [go_sem])
    have s1 : w1.cell? ⟨w.heap.size, 1, none⟩ = some (.int .i64 c) := (hb1.cell (by simp)).trans (by simp [go_sem])
    clear hb1
    go_wp2_with fail
    refine (made16_bad r c _ hbad).mono ?_
    rintro e w2 ⟨x0, x1, x3, so, sn, sm, rfl, hb2⟩
    have hB2 := hB1.trans (hb2.mono hB1.size)
    have hz2 := hB2.size
    clear s0 s1
    go_wp2
    go_ret
    exact ⟨by rfl, by with_reducible (repeat (first | exact Below.refl _ _ | assumption | (refine Below.setCell ?_ (by first | omega | (simp; done) | (simp; omega)) _) | (refine Below.alloc ?_ (by first | omega | (simp; done) | (simp; omega)) _) | (refine below_drewN ?_ _) | (refine Below.drew ?_) | (refine Below.trans ?_ (Below.mono hb (by first | omega | (simp; done) | (simp; omega)))) | (refine Below.trans ?_ (Below.mono hb1 (by first | omega | (simp; done) | (simp; omega)))) | (refine Below.trans ?_ (Below.mono hb2 (by first | omega | (simp; done) | (simp; omega)))) | (refine Below.trans ?_ (Below.mono hb3 (by first | omega | (simp; done) | (simp; omega)))) | (refine Below.trans ?_ (Below.mono hb4 (by first | omega | (simp; done) | (simp; omega)))) | (refine Below.trans ?_ (Below.mono hb5 (by first | omega | (simp; done) | (simp; omega)))) | (refine Below.trans ?_ (Below.mono hb6 (by first | omega | (simp; done) | (simp; omega)))) | (refine Below.trans ?_ (Below.mono hb7 (by first | omega | (simp; done) | (simp; omega)))) | (refine Below.trans ?_ (Below.mono hb8 (by first | omega | (simp; done) | (simp; omega)))) | (refine Below.trans ?_ (Below.mono hb9 (by first | omega | (simp; done) | (simp; omega)))) | (refine Below.trans ?_ (Below.mono hb10 (by first | omega | (simp; done) | (simp; omega)))) | (refine Below.trans ?_ (Below.mono hb11 (by first | omega | (simp; done) | (simp; omega)))) | (refine Below.trans ?_ (Below.mono hb12 (by first | omega | (simp; done) | (simp; omega))))))⟩
end Go.Proofs.Ytbkddgeocmkegaa
