/- Lemmas on the way to this seat's statements; they bear no condition of their own. -/
import Derived.Below
import Derived.WalkKit
import Derived.Lib.Hide
namespace Go.Proofs.Ytbkddgeocmkegaa
open Go.RowKit

/-! Words: a screen's cell and plane as plain data, and how they lie in memory. -/
structure Cell where
  byte : Int
  ge : Bool
  start : Bool
  light : Int
  color : Int
  deriving DecidableEq

def u8 (n : Int) : Prop := 0 ≤ n ∧ n ≤ 255
def Cell.ok (c : Cell) : Prop := (0 ≤ c.byte ∧ c.byte ≤ 255) ∧ (0 ≤ c.light ∧ c.light ≤ 255) ∧ (0 ≤ c.color ∧ c.color ≤ 255)
def Cell.zero : Cell := ⟨0, false, false, 0, 0⟩
theorem Cell.zero_ok : Cell.zero.ok := by simp [Cell.ok, Cell.zero]
instance : Inhabited Cell := ⟨Cell.zero⟩
def Cell.vals (c : Cell) : List Value := [.int .u8 c.byte, .bool c.ge, .bool c.start, .int .u8 c.light, .int .u8 c.color]
def Cell.agg (c : Cell) : Value := .agg #[.int .u8 c.byte, .bool c.ge, .bool c.start, .int .u8 c.light, .int .u8 c.color]

/-- The cells of memory of a row of cells. -/
def flat (cs : List Cell) : List Value := cs.flatMap Cell.vals
@[simp] theorem flat_nil : flat [] = [] := rfl
@[simp] theorem flat_cons (c : Cell) (cs : List Cell) : flat (c :: cs) = c.vals ++ flat cs := rfl
theorem flat_len (cs : List Cell) : (flat cs).length = 5 * cs.length := by
  induction cs with
  | nil => rfl
  | cons c cs ih => simp [flat_cons, ih, Cell.vals]; omega
theorem flat_append (a b : List Cell) : flat (a ++ b) = flat a ++ flat b := by simp [flat]

theorem flat_get (cs : List Cell) (i : Nat) (h : i < cs.length) (k : Nat) (hk : k < 5) : (flat cs)[i * 5 + k]? = (cs[i].vals)[k]? := by
  induction cs generalizing i with
  | nil => simp at h
  | cons c cs ih =>
    cases i with
    | zero => simp only [flat_cons, Nat.zero_mul, Nat.zero_add, List.getElem_cons_zero]; rw [List.getElem?_append_left (by simp [Cell.vals]; omega)]
    | succ i =>
      rw [flat_cons, List.getElem?_append_right (by simp [Cell.vals]; omega)]
      have : (i + 1) * 5 + k - c.vals.length = i * 5 + k := by simp [Cell.vals]; omega
      rw [this]
      simpa using ih i (by simpa using h)

theorem flat_set (cs : List Cell) (i : Nat) (h : i < cs.length) (c : Cell) :
    (((((flat cs).set (i * 5) (.int .u8 c.byte)).set (i * 5 + 1) (.bool c.ge)).set (i * 5 + 2) (.bool c.start)).set (i * 5 + 3) (.int .u8 c.light)).set (i * 5 + 4) (.int .u8 c.color) = flat (cs.set i c) := by
  induction cs generalizing i with
  | nil => simp at h
  | cons d cs ih =>
    cases i with
    | zero => simp [flat_cons, Cell.vals]
    | succ i =>
      have e : (i + 1) * 5 = 5 + i * 5 := by omega
      have := ih i (by simpa using h)
      simp only [flat_cons, List.set_cons_succ, ← this, e]
      simp only [Cell.vals, List.cons_append, List.nil_append]
      have r : ∀ k, 5 + i * 5 + k = (i * 5 + k) + 1 + 1 + 1 + 1 + 1 := by intro k; omega
      have r0 : 5 + i * 5 = (i * 5) + 1 + 1 + 1 + 1 + 1 := by omega
      rw [r 1, r 2, r 3, r 4, r0]
      simp only [List.set_cons_succ]

structure Pl where
  rows : Int
  cols : Int
  cells : List Cell
  cursor : Int

abbrev Pl.n (P : Pl) : Int := P.rows * P.cols
structure Pl.ok (P : Pl) : Prop where
  r1 : 1 ≤ P.rows
  r2 : P.rows ≤ 43
  c1 : 1 ≤ P.cols
  c2 : P.cols ≤ 132
  n2 : P.rows * P.cols ≤ 4096
  len : (P.cells.length : Int) = P.rows * P.cols
  k1 : 0 ≤ P.cursor
  k2 : P.cursor < P.rows * P.cols
  cell : ∀ c ∈ P.cells, c.ok

/-- In the world w a plane lies at block g, its cells in block b. -/
structure PL (w : World) (g b cap : Nat) (P : Pl) : Prop where
  hg : w.heap[g]? = some (.cells #[.int .i64 P.rows, .int .i64 P.cols, .slice (some ⟨b, 0, none⟩) P.cells.length cap, .int .i64 P.cursor] 132 (0, 0))
  hb : ∃ rest : List Value, w.heap[b]? = some (.cells (flat P.cells ++ rest).toArray 96 (0, 0))
  ne : g ≠ b
  ok : P.ok

end Go.Proofs.Ytbkddgeocmkegaa
