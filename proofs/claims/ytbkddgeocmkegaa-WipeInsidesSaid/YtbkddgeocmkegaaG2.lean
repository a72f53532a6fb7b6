/- Lemmas on the way to this seat's statements; they bear no condition of their own. -/
import Derived.Test.YtbkddgeocmkegaaG1
import Derived.RegionTactic
import Derived.WalkSmall
namespace Go.Proofs.Ytbkddgeocmkegaa
open Go.RowKit
set_option linter.unusedSimpArgs false
set_option linter.unusedVariables false
set_option maxHeartbeats 400000

/-- w' is w but for the blocks of S and what is new. -/
structure Chg (S : Nat → Prop) (w w' : World) : Prop where
  os : w'.os = w.os
  tape : w'.tape = w.tape
  output : w'.output = w.output
  size : w.heap.size ≤ w'.heap.size
  block : ∀ k, k < w.heap.size → ¬ S k → w'.heap[k]? = w.heap[k]?
namespace Chg
variable {S T : Nat → Prop} {w w1 w2 w' : World}
theorem refl (S : Nat → Prop) (w : World) : Chg S w w := ⟨rfl, rfl, rfl, Nat.le_refl _, fun _ _ _ => rfl⟩
theorem of_below (h : Below w.heap.size w w') : Chg S w w' := ⟨h.os, h.tape, h.output, h.size, fun k hk _ => h.block k hk⟩
theorem trans (h : Chg S w w1) (k : Chg S w1 w2) : Chg S w w2 :=
  ⟨k.os.trans h.os, k.tape.trans h.tape, k.output.trans h.output, Nat.le_trans h.size k.size, fun i hi hs => (k.block i (Nat.lt_of_lt_of_le hi h.size) hs).trans (h.block i hi hs)⟩
theorem mono (h : Chg S w w') (hst : ∀ k, k < w.heap.size → S k → T k) : Chg T w w' := ⟨h.os, h.tape, h.output, h.size, fun k hk ht => h.block k hk (fun hs => ht (hst k hk hs))⟩
theorem below {B : Nat} (h : Chg S w w') (hB : B ≤ w.heap.size) (hs : ∀ k, S k → B ≤ k) : Below B w w' := ⟨h.os, h.tape, h.output, h.size, fun k hk => h.block k (by omega) (fun hk' => by have := hs k hk'; omega)⟩
theorem alloc (h : Chg S w w') (o : Obj) : Chg S w (w'.alloc o) := h.trans (of_below ((Below.refl _ _).alloc (Nat.le_refl _) _))
theorem drew (h : Chg S w w') : Chg S w w'.drew := ⟨h.os, h.tape, h.output, h.size, h.block⟩
theorem setCell (h : Chg S w w') {a : Addr} (ha : S a.block ∨ w.heap.size ≤ a.block) (u : Value) : Chg S w (w'.setCell a u) :=
  ⟨h.os, h.tape, h.output, by simpa [World.setCell] using h.size, fun k hk hs => by
    rw [Below.heap_setCell _ _ _ _ (fun e => by rcases ha with ha | ha; exact hs (e ▸ ha); omega)]; exact h.block k hk hs⟩
end Chg


/-- A cell's five places, stored. -/
abbrev putC (w : World) (b k : Nat) (c : Cell) : World :=
  ((((w.setCell ⟨b, k, none⟩ (.int .u8 c.byte)).setCell ⟨b, k + 1, none⟩ (.bool c.ge)).setCell ⟨b, k + 2, none⟩ (.bool c.start)).setCell ⟨b, k + 3, none⟩ (.int .u8 c.light)).setCell ⟨b, k + 4, none⟩ (.int .u8 c.color)

theorem heap_set_same {w : World} {b : Nat} {l : List Value} {T : TypeId} {z : Nat × Nat} (h : w.heap[b]? = some (.cells l.toArray T z)) (k : Nat) (v : Value) : (w.setCell ⟨b, k, none⟩ v).heap[b]? = some (.cells (l.set k v).toArray T z) := by
  simp [World.setCell, Array.getElem?_modify, h]

theorem putC_heap {w : World} {b : Nat} {cs : List Cell} {rest : List Value} {T : TypeId} {z : Nat × Nat} (h : w.heap[b]? = some (.cells (flat cs ++ rest).toArray T z)) (i : Nat) (hi : i < cs.length) (c : Cell) :
    (putC w b (i * 5) c).heap[b]? = some (.cells (flat (cs.set i c) ++ rest).toArray T z) := by
  have := heap_set_same (heap_set_same (heap_set_same (heap_set_same (heap_set_same h (i * 5) (.int .u8 c.byte)) (i * 5 + 1) (.bool c.ge)) (i * 5 + 2) (.bool c.start)) (i * 5 + 3) (.int .u8 c.light)) (i * 5 + 4) (.int .u8 c.color)
  rw [← flat_set cs i hi c]
  have hl := flat_len cs
  rw [List.set_append_left _ _ (by omega), List.set_append_left _ _ (by simp; omega), List.set_append_left _ _ (by simp; omega), List.set_append_left _ _ (by simp; omega), List.set_append_left _ _ (by simp; omega)] at this
  exact this

theorem putC_other {w : World} {b k : Nat} {c : Cell} {j : Nat} (hj : j ≠ b) : (putC w b k c).heap[j]? = w.heap[j]? := by
  unfold putC
  rw [Below.heap_setCell _ _ _ _ hj, Below.heap_setCell _ _ _ _ hj, Below.heap_setCell _ _ _ _ hj, Below.heap_setCell _ _ _ _ hj, Below.heap_setCell _ _ _ _ hj]

theorem putC_chg {S : Nat → Prop} {w w' : World} (h : Chg S w w') {b : Nat} (hb : S b ∨ w.heap.size ≤ b) (k : Nat) (c : Cell) : Chg S w (putC w' b k c) :=
  ((((h.setCell hb _).setCell hb _).setCell hb _).setCell hb _).setCell hb _

theorem PL.put {w : World} {g b cap : Nat} {P : Pl} (h : PL w g b cap P) {i : Int} (i0 : 0 ≤ i) (i1 : i < (P.cells.length : Int)) {c : Cell} (hc : c.ok) : PL (putC w b (i.toNat * 5) c) g b cap (P.set i c) :=
  ⟨by rw [putC_other h.ne]; simpa [Pl.set] using h.hg, let ⟨r, hb⟩ := h.hb; ⟨r, putC_heap hb _ (by omega) _⟩, h.ne, Pl.set_ok h.ok hc⟩
theorem PL.drew {w : World} {g b cap : Nat} {P : Pl} (h : PL w g b cap P) : PL w.drew g b cap P := ⟨h.hg, h.hb, h.ne, h.ok⟩
theorem PL.drewN {w : World} {g b cap : Nat} {P : Pl} (h : PL w g b cap P) (n : Nat) : PL (w.drewN n) g b cap P := h.below (below_drewN (Below.refl _ _) n)
theorem PL.chg {S : Nat → Prop} {w w' : World} {g b cap : Nat} {P : Pl} (h : PL w g b cap P) (hk : Chg S w w') (hg : ¬ S g) (hb : ¬ S b) : PL w' g b cap P :=
  ⟨(hk.block g h.gl hg).trans h.hg, let ⟨r, h'⟩ := h.hb; ⟨r, (hk.block b h.bl hb).trans h'⟩, h.ne, h.ok⟩

theorem Set_in {w : World} {g b cap : Nat} {P : Pl} (h : PL w g b cap P) (i : Int) (c : Cell) (i0 : 0 ≤ i) (i1 : i < (P.cells.length : Int)) (hcok : c.ok) :
    Calls Try.prog 92 #[.pointer (some ⟨g, 0, none⟩), .int .i64 i, .agg #[.int .u8 c.byte, .bool c.ge, .bool c.start, .int .u8 c.light, .int .u8 c.color]] w fun e w' => e = .returned (.bool true) ∧ PL w' g b cap (P.set i c) ∧ Chg (· = b) w w' := by
  have gl := h.gl
  have bl := h.bl
  have f2 := h.f2
  have fz := h.fz
  have fzb := h.fzb
  go_enter Try.func92, Try.ntmps92
  go_wp2_with fail
  refine (has_any (h.below ((Below.refl _ _).alloc (Nat.le_refl _) _)) _).mono ?_
  rintro e w1 ⟨rfl, hb⟩
  obtain ⟨hc, hf⟩ := bcell hb
  have hd : decide (0 ≤ i ∧ i < (P.cells.length : Int)) = true := decide_eq_true ⟨i0, i1⟩
  have k0 := h.cell i.toNat (by omega) 0 (by omega)
  have k1 := h.cell i.toNat (by omega) 1 (by omega)
  have k2 := h.cell i.toNat (by omega) 2 (by omega)
  have k3 := h.cell i.toNat (by omega) 3 (by omega)
  have k4 := h.cell i.toNat (by omega) 4 (by omega)
  simp [Cell.vals] at k0 k1 k2 k3 k4
  go_wp2
  go_region
  go_wp2
  go_ret
  have hB : Below w.heap.size w w1 := by with_reducible (repeat (first | exact Below.refl _ _ | assumption | (refine Below.setCell ?_ (by first | omega | (simp; done) | (simp; omega)) _) | (refine Below.alloc ?_ (by first | omega | (simp; done) | (simp; omega)) _) | (refine below_drewN ?_ _) | (refine Below.drew ?_) | (refine Below.trans ?_ (Below.mono hb (by first | omega | (simp; done) | (simp; omega)))) | (refine Below.trans ?_ (Below.mono hb1 (by first | omega | (simp; done) | (simp; omega)))) | (refine Below.trans ?_ (Below.mono hb2 (by first | omega | (simp; done) | (simp; omega)))) | (refine Below.trans ?_ (Below.mono hb3 (by first | omega | (simp; done) | (simp; omega)))) | (refine Below.trans ?_ (Below.mono hb4 (by first | omega | (simp; done) | (simp; omega)))) | (refine Below.trans ?_ (Below.mono hb5 (by first | omega | (simp; done) | (simp; omega)))) | (refine Below.trans ?_ (Below.mono hb6 (by first | omega | (simp; done) | (simp; omega)))) | (refine Below.trans ?_ (Below.mono hb7 (by first | omega | (simp; done) | (simp; omega)))) | (refine Below.trans ?_ (Below.mono hb8 (by first | omega | (simp; done) | (simp; omega)))) | (refine Below.trans ?_ (Below.mono hb9 (by first | omega | (simp; done) | (simp; omega)))) | (refine Below.trans ?_ (Below.mono hb10 (by first | omega | (simp; done) | (simp; omega)))) | (refine Below.trans ?_ (Below.mono hb11 (by first | omega | (simp; done) | (simp; omega)))) | (refine Below.trans ?_ (Below.mono hb12 (by first | omega | (simp; done) | (simp; omega))))))
  exact ⟨rfl, ((h.below hB).put i0 i1 hcok).drew, (putC_chg (S := (· = b)) (Chg.of_below hB) (.inl rfl) _ _).drew⟩

theorem Set_out {w : World} {g b cap : Nat} {P : Pl} (h : PL w g b cap P) (i : Int) (c : Cell) (hi : ¬ (0 ≤ i ∧ i < (P.cells.length : Int))) :
    Calls Try.prog 92 #[.pointer (some ⟨g, 0, none⟩), .int .i64 i, .agg #[.int .u8 c.byte, .bool c.ge, .bool c.start, .int .u8 c.light, .int .u8 c.color]] w fun e w' => e = .returned (.bool false) ∧ Below w.heap.size w w' := by
  go_enter Try.func92, Try.ntmps92
  go_wp2_with fail
  refine (has_any (h.below ((Below.refl _ _).alloc (Nat.le_refl _) _)) _).mono ?_
  rintro e w1 ⟨rfl, hb⟩
  have hd : decide (0 ≤ i ∧ i < (P.cells.length : Int)) = false := decide_eq_false hi
  go_wp2
  go_ret
  exact ⟨rfl, by with_reducible (repeat (first | exact Below.refl _ _ | assumption | (refine Below.setCell ?_ (by first | omega | (simp; done) | (simp; omega)) _) | (refine Below.alloc ?_ (by first | omega | (simp; done) | (simp; omega)) _) | (refine below_drewN ?_ _) | (refine Below.drew ?_) | (refine Below.trans ?_ (Below.mono hb (by first | omega | (simp; done) | (simp; omega)))) | (refine Below.trans ?_ (Below.mono hb1 (by first | omega | (simp; done) | (simp; omega)))) | (refine Below.trans ?_ (Below.mono hb2 (by first | omega | (simp; done) | (simp; omega)))) | (refine Below.trans ?_ (Below.mono hb3 (by first | omega | (simp; done) | (simp; omega)))) | (refine Below.trans ?_ (Below.mono hb4 (by first | omega | (simp; done) | (simp; omega)))) | (refine Below.trans ?_ (Below.mono hb5 (by first | omega | (simp; done) | (simp; omega)))) | (refine Below.trans ?_ (Below.mono hb6 (by first | omega | (simp; done) | (simp; omega)))) | (refine Below.trans ?_ (Below.mono hb7 (by first | omega | (simp; done) | (simp; omega)))) | (refine Below.trans ?_ (Below.mono hb8 (by first | omega | (simp; done) | (simp; omega)))) | (refine Below.trans ?_ (Below.mono hb9 (by first | omega | (simp; done) | (simp; omega)))) | (refine Below.trans ?_ (Below.mono hb10 (by first | omega | (simp; done) | (simp; omega)))) | (refine Below.trans ?_ (Below.mono hb11 (by first | omega | (simp; done) | (simp; omega)))) | (refine Below.trans ?_ (Below.mono hb12 (by first | omega | (simp; done) | (simp; omega))))))⟩

theorem Size_any {w : World} {g b cap : Nat} {P : Pl} (h : PL w g b cap P) :
    Calls Try.prog 101 #[.pointer (some ⟨g, 0, none⟩)] w fun e w' => e = .returned (.agg #[.int .i64 P.rows, .int .i64 P.cols]) ∧ Below w.heap.size w w' := by
  have f0 := h.f0
  have f1 := h.f1
  have gl := h.gl
  go_enter Try.func101, Try.ntmps101
  go_wp2
  exact bodyPost_ret (v := .agg #[.int .i64 P.rows, .int .i64 P.cols]) (by simp [results, Try.results101, go_sem]) rfl ⟨rfl, by with_reducible (repeat (first | exact Below.refl _ _ | assumption | (refine Below.setCell ?_ (by first | omega | (simp; done) | (simp; omega)) _) | (refine Below.alloc ?_ (by first | omega | (simp; done) | (simp; omega)) _) | (refine below_drewN ?_ _) | (refine Below.drew ?_) | (refine Below.trans ?_ (Below.mono hb (by first | omega | (simp; done) | (simp; omega)))) | (refine Below.trans ?_ (Below.mono hb1 (by first | omega | (simp; done) | (simp; omega)))) | (refine Below.trans ?_ (Below.mono hb2 (by first | omega | (simp; done) | (simp; omega)))) | (refine Below.trans ?_ (Below.mono hb3 (by first | omega | (simp; done) | (simp; omega)))) | (refine Below.trans ?_ (Below.mono hb4 (by first | omega | (simp; done) | (simp; omega)))) | (refine Below.trans ?_ (Below.mono hb5 (by first | omega | (simp; done) | (simp; omega)))) | (refine Below.trans ?_ (Below.mono hb6 (by first | omega | (simp; done) | (simp; omega)))) | (refine Below.trans ?_ (Below.mono hb7 (by first | omega | (simp; done) | (simp; omega)))) | (refine Below.trans ?_ (Below.mono hb8 (by first | omega | (simp; done) | (simp; omega)))) | (refine Below.trans ?_ (Below.mono hb9 (by first | omega | (simp; done) | (simp; omega)))) | (refine Below.trans ?_ (Below.mono hb10 (by first | omega | (simp; done) | (simp; omega)))) | (refine Below.trans ?_ (Below.mono hb11 (by first | omega | (simp; done) | (simp; omega)))) | (refine Below.trans ?_ (Below.mono hb12 (by first | omega | (simp; done) | (simp; omega))))))⟩

theorem Cursor_any {w : World} {g b cap : Nat} {P : Pl} (h : PL w g b cap P) :
    Calls Try.prog 48 #[.pointer (some ⟨g, 0, none⟩)] w fun e w' => e = .returned (.int .i64 P.cursor) ∧ Below w.heap.size w w' := by
  have f3 := h.f3
  go_enter Try.func48, Try.ntmps48
  go_wp2
  go_ret
  exact ⟨rfl, Below.refl _ _⟩

theorem PL.pointed {w : World} {g b cap : Nat} {P : Pl} (h : PL w g b cap P) {i : Int} (i0 : 0 ≤ i) (i1 : i < (P.cells.length : Int)) : PL (w.setCell ⟨g, 3, none⟩ (.int .i64 i)) g b cap (P.point i) :=
  ⟨by have := heap_set_same (l := [.int .i64 P.rows, .int .i64 P.cols, .slice (some ⟨b, 0, none⟩) P.cells.length cap, .int .i64 P.cursor]) h.hg 3 (.int .i64 i); simpa [Pl.point] using this,
   let ⟨r, hb⟩ := h.hb; ⟨r, by rw [Below.heap_setCell _ _ _ _ (Ne.symm h.ne)]; exact hb⟩, h.ne, Pl.point_ok h.ok i0 i1⟩

theorem Point_in {w : World} {g b cap : Nat} {P : Pl} (h : PL w g b cap P) (i : Int) (i0 : 0 ≤ i) (i1 : i < (P.cells.length : Int)) :
    Calls Try.prog 49 #[.pointer (some ⟨g, 0, none⟩), .int .i64 i] w fun e w' => e = .returned (.bool true) ∧ PL w' g b cap (P.point i) ∧ Chg (· = g) w w' := by
  have gl := h.gl
  have f3 := h.f3
  have fz := h.fz
  go_enter Try.func49, Try.ntmps49
  go_wp2_with fail
  refine (has_any h _).mono ?_
  rintro e w1 ⟨rfl, hb⟩
  obtain ⟨hc, hf⟩ := bcell hb
  have hd : decide (0 ≤ i ∧ i < (P.cells.length : Int)) = true := decide_eq_true ⟨i0, i1⟩
  go_wp2
  go_ret
  exact ⟨rfl, (h.below hb).pointed i0 i1, Chg.setCell (S := (· = g)) (Chg.of_below hb) (.inl rfl) _⟩

theorem Point_out {w : World} {g b cap : Nat} {P : Pl} (h : PL w g b cap P) (i : Int) (hi : ¬ (0 ≤ i ∧ i < (P.cells.length : Int))) :
    Calls Try.prog 49 #[.pointer (some ⟨g, 0, none⟩), .int .i64 i] w fun e w' => e = .returned (.bool false) ∧ Below w.heap.size w w' := by
  go_enter Try.func49, Try.ntmps49
  go_wp2_with fail
  refine (has_any h _).mono ?_
  rintro e w1 ⟨rfl, hb⟩
  have hd : decide (0 ≤ i ∧ i < (P.cells.length : Int)) = false := decide_eq_false hi
  go_wp2
  go_ret
  exact ⟨rfl, hb⟩
end Go.Proofs.Ytbkddgeocmkegaa
