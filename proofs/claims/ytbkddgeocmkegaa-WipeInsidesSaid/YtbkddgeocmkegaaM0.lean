/- Lemmas on the way to this seat's statements; they bear no condition of their own. -/
import Derived.Test.YtbkddgeocmkegaaR10
namespace Go.Proofs.Ytbkddgeocmkegaa
open Go.RowKit Go.Shelf
set_option linter.unusedSimpArgs false
set_option linter.unusedVariables false
set_option maxHeartbeats 2000000
attribute [local go_sem ↓] run_start run_byte run_cols

/-! What the statements make: planes with given cells. -/
def fillC (base cs : List Cell) : Nat → List Cell
  | 0 => base
  | k + 1 => (fillC base cs k).set k (cs.getD k Cell.zero)
theorem fillC_len (base cs : List Cell) (k : Nat) : (fillC base cs k).length = base.length := by
  induction k with
  | zero => rfl
  | succ k ih => simp [fillC, ih]
def Pl.fillK (P : Pl) (cs : List Cell) (k : Nat) : Pl := { P with cells := fillC P.cells cs k }
theorem Pl.fillK_len (P : Pl) (cs : List Cell) (k : Nat) : (P.fillK cs k).cells.length = P.cells.length := fillC_len _ _ _
theorem Pl.fillK_step (P : Pl) (cs : List Cell) (k : Nat) (hk : k < cs.length) : P.fillK cs (k + 1) = (P.fillK cs k).set (k : Int) cs[k] := by
  unfold Pl.fillK Pl.set
  simp [fillC, hk]
theorem Pl.fillK_skip (P : Pl) (cs : List Cell) (k : Nat) (hk : P.cells.length ≤ k) : P.fillK cs (k + 1) = P.fillK cs k := by
  unfold Pl.fillK
  simp only [fillC]
  rw [List.set_eq_of_length_le (by rw [fillC_len]; exact hk)]
def Pl.fill (P : Pl) (cs : List Cell) : Pl := P.fillK cs cs.length

/-- A row of cells that came in. -/
def ARow (w : World) (ao : Option Addr) (cs : List Cell) : Prop :=
  cs.length ≤ maxLen ∧ ∀ (k : Nat) (hk : k < cs.length), cs[k].ok ∧ ∃ b off, ao = some ⟨b, off, none⟩ ∧ b < w.heap.size ∧ w.cell? ⟨b, off + k * 5, none⟩ = some (.int .u8 cs[k].byte) ∧ w.cell? ⟨b, off + k * 5 + 1, none⟩ = some (.bool cs[k].ge) ∧ w.cell? ⟨b, off + k * 5 + 2, none⟩ = some (.bool cs[k].start) ∧ w.cell? ⟨b, off + k * 5 + 3, none⟩ = some (.int .u8 cs[k].light) ∧ w.cell? ⟨b, off + k * 5 + 4, none⟩ = some (.int .u8 cs[k].color)
theorem ARow.below {w w' : World} {ao : Option Addr} {cs : List Cell} (h : ARow w ao cs) (hb : Below w.heap.size w w') : ARow w' ao cs :=
  ⟨h.1, fun k hk => by
    obtain ⟨h0, b, off, e, hl, k0, k1, k2, k3, k4⟩ := h.2 k hk
    exact ⟨h0, b, off, e, Nat.lt_of_lt_of_le hl hb.size, cell_keep k0 hb, cell_keep k1 hb, cell_keep k2 hb, cell_keep k3 hb, cell_keep k4 hb⟩⟩

theorem RC.put {w : World} {b : Nat} {P : Pl} (h : RC w b P) {i : Int} (i0 : 0 ≤ i) (i1 : i < (P.cells.length : Int)) {c : Cell} (hc : c.ok) : RC (putC w b (i.toNat * 5) c) b (P.set i c) :=
  ⟨let ⟨r, hb⟩ := h.hb; ⟨r, putC_heap hb _ (by omega) _⟩, Pl.set_ok h.ok hc⟩
theorem RC.chg {S : Nat → Prop} {w w' : World} {b : Nat} {P : Pl} (h : RC w b P) (hk : Chg S w w') (hb : ¬ S b) : RC w' b P :=
  ⟨let ⟨r, h'⟩ := h.hb; ⟨r, (hk.block b h.bl hb).trans h'⟩, h.ok⟩
theorem RC.fz {w : World} {b : Nat} {P : Pl} (h : RC w b P) (o : Nat) : w.frozen? ⟨b, o, none⟩ = false := by obtain ⟨r, hb⟩ := h.hb; simp [World.frozen?, hb]
theorem RC.of {w : World} {b : Nat} {P Q : Pl} (h : RC w b P) (e : Q.cells = P.cells) (hq : Q.ok) : RC w b Q := ⟨by rw [e]; exact h.hb, hq⟩
theorem frozen_keepC {S : Nat → Prop} {W w2 : World} {a : Addr} {v : Value} (h : W.cell? a = some v) (hf : W.frozen? a = false) (hb : Chg S W w2) (hs : ¬ S a.block) : w2.frozen? a = false := by
  rw [World.frozen?_of_block (w := W) (hb.block a.block (World.block_lt_of_cell? W a h) hs)]; exact hf

/-- A box of four cells, to be written. -/
structure Box4 (W : World) (B : Nat) (x0 x1 x2 x3 : Value) : Prop where
  c0 : W.cell? ⟨B, 0, none⟩ = some x0
  c1 : W.cell? ⟨B, 1, none⟩ = some x1
  c2 : W.cell? ⟨B, 2, none⟩ = some x2
  c3 : W.cell? ⟨B, 3, none⟩ = some x3
  f0 : W.frozen? ⟨B, 0, none⟩ = false
  f1 : W.frozen? ⟨B, 1, none⟩ = false
  f2 : W.frozen? ⟨B, 2, none⟩ = false
  f3 : W.frozen? ⟨B, 3, none⟩ = false
theorem Box4.new (w : World) (x0 x1 x2 x3 : Value) (T : TypeId) : Box4 (w.alloc (.cells #[x0, x1, x2, x3] T)) w.heap.size x0 x1 x2 x3 := by constructor <;> simp [go_sem]
theorem Box4.chg {S : Nat → Prop} {W W' : World} {B : Nat} {x0 x1 x2 x3 : Value} (h : Box4 W B x0 x1 x2 x3) (hk : Chg S W W') (hs : ¬ S B) : Box4 W' B x0 x1 x2 x3 :=
  ⟨cell_keepC h.c0 hk hs, cell_keepC h.c1 hk hs, cell_keepC h.c2 hk hs, cell_keepC h.c3 hk hs, frozen_keepC h.c0 h.f0 hk hs, frozen_keepC h.c1 h.f1 hk hs, frozen_keepC h.c2 h.f2 hk hs, frozen_keepC h.c3 h.f3 hk hs⟩
theorem Box4.below {W W' : World} {B : Nat} {x0 x1 x2 x3 : Value} (h : Box4 W B x0 x1 x2 x3) (hk : Below W.heap.size W W') : Box4 W' B x0 x1 x2 x3 := h.chg (S := fun _ => False) (Chg.of_below hk) (fun h => h)
theorem Box4.lt {W : World} {B : Nat} {x0 x1 x2 x3 : Value} (h : Box4 W B x0 x1 x2 x3) : B < W.heap.size := World.block_lt_of_cell? W _ h.c0

theorem Box4.set3 {W : World} {B : Nat} {x0 x1 x2 x3 : Value} (h : Box4 W B x0 x1 x2 x3) (v : Value) : Box4 (W.setCell ⟨B, 3, none⟩ v) B x0 x1 x2 v := by
  obtain ⟨c0, c1, c2, c3, f0, f1, f2, f3⟩ := h
  constructor
  · simp [go_sem, c0]
  · simp [go_sem, c1]
  · simp [go_sem, c2]
  · simp [World.cell?_setCell_same' _ _ _ (by rw [c3]; rfl)]
  · rw [World.frozen?_setCell]; exact f0
  · rw [World.frozen?_setCell]; exact f1
  · rw [World.frozen?_setCell]; exact f2
  · rw [World.frozen?_setCell]; exact f3
def MadeBad (w : World) (e : Ending) (w' : World) : Prop :=
  ∃ (x0 x1 x3 : Int) (o : Option Addr) (n m : Nat), e = .returned (.tuple #[.pointer none, .agg #[.int .i64 x0, .int .i64 x1, .slice o n m, .int .i64 x3], .bool false]) ∧ Below w.heap.size w w'
def MadePost (P : Pl) (w : World) (e : Ending) (w' : World) : Prop :=
  ∃ g b cap b' cap' : Nat, e = .returned (.tuple #[.pointer (some ⟨g, 0, none⟩), .agg #[.int .i64 P.rows, .int .i64 P.cols, .slice (some ⟨b', 0, none⟩) P.cells.length cap', .int .i64 P.cursor], .bool true]) ∧ PL w' g b cap P ∧ RC w' b' P ∧ w.heap.size ≤ g ∧ w.heap.size ≤ b ∧ w.heap.size ≤ b' ∧ b' ≠ g ∧ b' ≠ b ∧ Below w.heap.size w w'
theorem chgAB {a b : Nat} {w w' : World} (h : Chg (· = b) w w') : Chg (fun k => k = a ∨ k = b) w w' := h.mono (fun _ _ e => .inr e)
theorem chgBA {a b : Nat} {w w' : World} (h : Chg (· = a) w w') : Chg (fun k => k = a ∨ k = b) w w' := h.mono (fun _ _ e => .inl e)
end Go.Proofs.Ytbkddgeocmkegaa
