/- Lemmas on the way to this seat's statements; they bear no condition of their own. -/
import Derived.Test.YtbkddgeocmkegaaG0
/-! A plane's fields, as plain functions. -/
namespace Go.Proofs.Ytbkddgeocmkegaa

theorem getD_lt {α : Type} (l : List α) (i : Nat) (d : α) (h : i < l.length) : l.getD i d = l[i] := by simp [h]


def Pl.at (P : Pl) (i : Int) : Cell := if 0 ≤ i ∧ i < (P.cells.length : Int) then P.cells.getD i.toNat Cell.zero else Cell.zero
theorem Pl.at_ok {P : Pl} (h : P.ok) (i : Int) : (P.at i).ok := by
  unfold Pl.at
  split
  · rw [getD_lt _ _ _ (by omega)]
    exact h.cell _ (List.getElem_mem _)
  · exact Cell.zero_ok
theorem Pl.N_pos {P : Pl} (h : P.ok) : 0 < P.cells.length := by
  have h1 := h.len
  have h2 : 0 < P.rows * P.cols := Int.mul_pos (by have := h.r1; omega) (by have := h.c1; omega)
  omega
theorem Pl.N_le {P : Pl} (h : P.ok) : P.cells.length ≤ 4096 := by have h1 := h.len; have h2 := h.n2; omega

def prot (x : Int) : Bool := x / 32 % 2 == 1
def nume (x : Int) : Bool := x / 16 % 2 == 1
def mdt (x : Int) : Bool := x % 2 == 1
def modi (x : Int) (on : Bool) : Int := if on then x - x % 2 + 1 else x - x % 2
def low6 (x : Int) : Int := x % 64
theorem modi_ok {x : Int} (h : 0 ≤ x ∧ x ≤ 255) (on : Bool) : 0 ≤ modi x on ∧ modi x on ≤ 255 := by unfold modi; split <;> omega
theorem low6_ok (x : Int) : 0 ≤ low6 x ∧ low6 x ≤ 255 := by unfold low6; omega

/-- The first number below n of which p is true. -/
def srch (n : Nat) (p : Nat → Bool) : Option Nat := (List.range n).find? p
theorem srch_some {n k : Nat} {p : Nat → Bool} (hk : k < n) (hp : p k = true) (hf : ∀ j, j < k → p j = false) : srch n p = some k := by
  unfold srch
  rw [List.find?_range_eq_some]
  exact ⟨hp, by simpa using hk, fun j hj => by simp [hf j hj]⟩
theorem srch_none {n : Nat} {p : Nat → Bool} (hf : ∀ j, j < n → p j = false) : srch n p = none := by
  unfold srch
  rw [List.find?_range_eq_none]
  intro j hj
  simp [hf j hj]
theorem srch_of_some {n k : Nat} {p : Nat → Bool} (h : srch n p = some k) : k < n ∧ p k = true ∧ ∀ j, j < k → p j = false := by
  unfold srch at h
  rw [List.find?_range_eq_some] at h
  obtain ⟨h1, h2, h3⟩ := h
  exact ⟨by simpa using h2, h1, fun j hj => by simpa using h3 j hj⟩
theorem srch_of_none {n : Nat} {p : Nat → Bool} (h : srch n p = none) : ∀ j, j < n → p j = false := by
  unfold srch at h
  rw [List.find?_range_eq_none] at h
  intro j hj
  simpa using h j hj

structure Fld where
  start : Int
  len : Int
  attr : Int
  deriving DecidableEq

def Pl.stp (P : Pl) (a s : Int) (i : Nat) : Bool := (P.at ((a + (i : Int) * s) % (P.cells.length : Int))).start
def Pl.look (P : Pl) (a s : Int) : Int :=
  if 0 ≤ a ∧ a < (P.cells.length : Int) then
    match srch P.cells.length (P.stp a s) with
    | some i => (a + (i : Int) * s) % (P.cells.length : Int)
    | none => -1
  else -1
theorem Pl.look_some {P : Pl} {a s : Int} {k : Nat} (h0 : 0 ≤ a) (h1 : a < (P.cells.length : Int)) (hk : k < P.cells.length) (hp : P.stp a s k = true) (hf : ∀ j, j < k → P.stp a s j = false) : P.look a s = (a + (k : Int) * s) % (P.cells.length : Int) := by
  unfold Pl.look
  rw [if_pos ⟨h0, h1⟩, srch_some hk hp hf]
theorem Pl.look_none {P : Pl} {a s : Int} (hf : ∀ j, j < P.cells.length → P.stp a s j = false) : P.look a s = -1 := by
  unfold Pl.look
  rw [srch_none hf]
  split <;> rfl
theorem Pl.look_out {P : Pl} {a s : Int} (h : ¬ (0 ≤ a ∧ a < (P.cells.length : Int))) : P.look a s = -1 := by
  unfold Pl.look
  rw [if_neg h]
theorem Pl.look_range {P : Pl} (hok : P.ok) (a s : Int) : -1 ≤ P.look a s ∧ P.look a s < (P.cells.length : Int) := by
  have hn := Pl.N_pos hok
  unfold Pl.look
  split
  · split
    · rename_i i _
      have h1 := Int.emod_nonneg (a + (i : Int) * s) (show (P.cells.length : Int) ≠ 0 by show (P.cells.length : Int) ≠ 0; omega)
      have h2 := Int.emod_lt_of_pos (a + (i : Int) * s) (show (0 : Int) < (P.cells.length : Int) by show (0 : Int) < (P.cells.length : Int); omega)
      omega
    · show _ ∧ _ < (P.cells.length : Int); omega
  · show _ ∧ _ < (P.cells.length : Int); omega
def Pl.before (P : Pl) (i : Int) : Int := P.look i (-1)
def Pl.after (P : Pl) (i : Int) : Int := if 0 ≤ i ∧ i < (P.cells.length : Int) then P.look ((i + 1) % (P.cells.length : Int)) 1 else -1
def Pl.fld (P : Pl) (s : Int) : Fld := ⟨s, if P.after s - s - 1 < 0 then P.after s - s - 1 + (P.cells.length : Int) else P.after s - s - 1, low6 (P.at s).byte⟩
def Pl.ofB (P : Pl) (i : Int) : Bool := decide (0 ≤ P.before i)
def Pl.ofF (P : Pl) (i : Int) : Fld := if 0 ≤ P.before i then P.fld (P.before i) else ⟨0, 0, 0⟩
def Pl.inB (P : Pl) (i : Int) : Bool := decide (0 ≤ i ∧ i < (P.cells.length : Int))
def Pl.openAt (P : Pl) (i : Int) : Bool := if P.ofB i then (P.ofF i).start != i && !prot (P.ofF i).attr else P.inB i
def Pl.fmt (P : Pl) : Bool := decide (0 ≤ P.look 0 1)
/-- An open field's attribute stands there. -/
def Pl.opens (P : Pl) (i : Int) : Bool := P.ofB i && ((P.ofF i).start == i && (decide (0 < (P.ofF i).len) && !prot (P.ofF i).attr))
theorem Pl.ofF_attr {P : Pl} (i : Int) : 0 ≤ (P.ofF i).attr ∧ (P.ofF i).attr ≤ 255 := by
  unfold Pl.ofF
  split
  · exact low6_ok _
  · simp
theorem Pl.after_range {P : Pl} (hok : P.ok) (s : Int) : -1 ≤ P.after s ∧ P.after s < (P.cells.length : Int) := by
  unfold Pl.after
  split
  · exact Pl.look_range hok _ _
  · have := Pl.N_pos hok; show _ ∧ _ < (P.cells.length : Int); omega
def Pl.set (P : Pl) (i : Int) (c : Cell) : Pl := { P with cells := P.cells.set i.toNat c }
theorem Pl.set_ok {P : Pl} (h : P.ok) {i : Int} {c : Cell} (hc : c.ok) : (P.set i c).ok :=
  ⟨h.r1, h.r2, h.c1, h.c2, h.n2, by simpa [Pl.set] using h.len, h.k1, h.k2, fun d hd => by
    rcases List.mem_or_eq_of_mem_set hd with hd | rfl
    · exact h.cell d hd
    · exact hc⟩
def Pl.point (P : Pl) (i : Int) : Pl := { P with cursor := i }
theorem Pl.point_ok {P : Pl} (h : P.ok) {i : Int} (i0 : 0 ≤ i) (i1 : i < (P.cells.length : Int)) : (P.point i).ok :=
  ⟨h.r1, h.r2, h.c1, h.c2, h.n2, h.len, i0, by have := h.len; show i < P.rows * P.cols; omega, h.cell⟩
end Go.Proofs.Ytbkddgeocmkegaa
