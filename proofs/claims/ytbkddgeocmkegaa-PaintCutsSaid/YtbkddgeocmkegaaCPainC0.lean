/- Lemmas on the way to this seat's statements; they bear no condition of their own. -/
import Derived.Below
import Derived.WalkKit
import Derived.Lib.Hide
import Derived.Test.YtbkddgeocmkegaaProg
import Derived.Deep.QuietTactic
import Derived.BigQuiet
import Derived.LoopTactic
import Derived.Outline
import Derived.RegionTactic
import Derived.WalkSmall
namespace Go.Proofs.Ytbkddgeocmkegaa
open Go.RowKit

/-! Words: a screen's cell and plane as plain data, and how they lie in memory. -/
structure Cell where
  byte : Int
  ge : Bool
  start : Bool
  light : Int
  color : Int
  deriving DecidableEq

def u8 (n : Int) : Prop := 0 ≤ n ∧ n ≤ 255
def Cell.ok (c : Cell) : Prop := (0 ≤ c.byte ∧ c.byte ≤ 255) ∧ (0 ≤ c.light ∧ c.light ≤ 255) ∧ (0 ≤ c.color ∧ c.color ≤ 255)
def Cell.zero : Cell := ⟨0, false, false, 0, 0⟩
theorem Cell.zero_ok : Cell.zero.ok := by simp [Cell.ok, Cell.zero]
instance : Inhabited Cell := ⟨Cell.zero⟩
def Cell.vals (c : Cell) : List Value := [.int .u8 c.byte, .bool c.ge, .bool c.start, .int .u8 c.light, .int .u8 c.color]
def Cell.agg (c : Cell) : Value := .agg #[.int .u8 c.byte, .bool c.ge, .bool c.start, .int .u8 c.light, .int .u8 c.color]

/-- The cells of memory of a row of cells. -/
def flat (cs : List Cell) : List Value := cs.flatMap Cell.vals
@[simp] theorem flat_nil : flat [] = [] := rfl
@[simp] theorem flat_cons (c : Cell) (cs : List Cell) : flat (c :: cs) = c.vals ++ flat cs := rfl
theorem flat_len (cs : List Cell) : (flat cs).length = 5 * cs.length := by
  induction cs with
  | nil => rfl
  | cons c cs ih => simp [flat_cons, ih, Cell.vals]; omega
theorem flat_append (a b : List Cell) : flat (a ++ b) = flat a ++ flat b := by simp [flat]

theorem flat_get (cs : List Cell) (i : Nat) (h : i < cs.length) (k : Nat) (hk : k < 5) : (flat cs)[i * 5 + k]? = (cs[i].vals)[k]? := by
  induction cs generalizing i with
  | nil => simp at h
  | cons c cs ih =>
    cases i with
    | zero => simp only [flat_cons, Nat.zero_mul, Nat.zero_add, List.getElem_cons_zero]; rw [List.getElem?_append_left (by simp [Cell.vals]; omega)]
    | succ i =>
      rw [flat_cons, List.getElem?_append_right (by simp [Cell.vals]; omega)]
      have : (i + 1) * 5 + k - c.vals.length = i * 5 + k := by simp [Cell.vals]; omega
      rw [this]
      simpa using ih i (by simpa using h)

theorem flat_set (cs : List Cell) (i : Nat) (h : i < cs.length) (c : Cell) :
    (((((flat cs).set (i * 5) (.int .u8 c.byte)).set (i * 5 + 1) (.bool c.ge)).set (i * 5 + 2) (.bool c.start)).set (i * 5 + 3) (.int .u8 c.light)).set (i * 5 + 4) (.int .u8 c.color) = flat (cs.set i c) := by
  induction cs generalizing i with
  | nil => simp at h
  | cons d cs ih =>
    cases i with
    | zero => simp [flat_cons, Cell.vals]
    | succ i =>
      have e : (i + 1) * 5 = 5 + i * 5 := by omega
      have := ih i (by simpa using h)
      simp only [flat_cons, List.set_cons_succ, ← this, e]
      simp only [Cell.vals, List.cons_append, List.nil_append]
      have r : ∀ k, 5 + i * 5 + k = (i * 5 + k) + 1 + 1 + 1 + 1 + 1 := by intro k; omega
      have r0 : 5 + i * 5 = (i * 5) + 1 + 1 + 1 + 1 + 1 := by omega
      rw [r 1, r 2, r 3, r 4, r0]
      simp only [List.set_cons_succ]

structure Pl where
  rows : Int
  cols : Int
  cells : List Cell
  cursor : Int

abbrev Pl.n (P : Pl) : Int := P.rows * P.cols
structure Pl.ok (P : Pl) : Prop where
  r1 : 1 ≤ P.rows
  r2 : P.rows ≤ 43
  c1 : 1 ≤ P.cols
  c2 : P.cols ≤ 132
  n2 : P.rows * P.cols ≤ 4096
  len : (P.cells.length : Int) = P.rows * P.cols
  k1 : 0 ≤ P.cursor
  k2 : P.cursor < P.rows * P.cols
  cell : ∀ c ∈ P.cells, c.ok

/-- In the world w a plane lies at block g, its cells in block b. -/
structure PL (w : World) (g b cap : Nat) (P : Pl) : Prop where
  hg : w.heap[g]? = some (.cells #[.int .i64 P.rows, .int .i64 P.cols, .slice (some ⟨b, 0, none⟩) P.cells.length cap, .int .i64 P.cursor] 132 (0, 0))
  hb : ∃ rest : List Value, w.heap[b]? = some (.cells (flat P.cells ++ rest).toArray 96 (0, 0))
  ne : g ≠ b
  ok : P.ok

end Go.Proofs.Ytbkddgeocmkegaa

/-! A plane's fields, as plain functions. -/
namespace Go.Proofs.Ytbkddgeocmkegaa

theorem getD_lt {α : Type} (l : List α) (i : Nat) (d : α) (h : i < l.length) : l.getD i d = l[i] := by simp [h]


def Pl.at (P : Pl) (i : Int) : Cell := if 0 ≤ i ∧ i < (P.cells.length : Int) then P.cells.getD i.toNat Cell.zero else Cell.zero
theorem Pl.at_ok {P : Pl} (h : P.ok) (i : Int) : (P.at i).ok := by
  unfold Pl.at
  split
  · rw [getD_lt _ _ _ (by omega)]
    exact h.cell _ (List.getElem_mem _)
  · exact Cell.zero_ok
theorem Pl.N_pos {P : Pl} (h : P.ok) : 0 < P.cells.length := by
  have h1 := h.len
  have h2 : 0 < P.rows * P.cols := Int.mul_pos (by have := h.r1; omega) (by have := h.c1; omega)
  omega
theorem Pl.N_le {P : Pl} (h : P.ok) : P.cells.length ≤ 4096 := by have h1 := h.len; have h2 := h.n2; omega

def prot (x : Int) : Bool := x / 32 % 2 == 1
def nume (x : Int) : Bool := x / 16 % 2 == 1
def mdt (x : Int) : Bool := x % 2 == 1
def modi (x : Int) (on : Bool) : Int := if on then x - x % 2 + 1 else x - x % 2
def low6 (x : Int) : Int := x % 64
theorem modi_ok {x : Int} (h : 0 ≤ x ∧ x ≤ 255) (on : Bool) : 0 ≤ modi x on ∧ modi x on ≤ 255 := by unfold modi; split <;> omega
theorem low6_ok (x : Int) : 0 ≤ low6 x ∧ low6 x ≤ 255 := by unfold low6; omega

/-- The first number below n of which p is true. -/
def srch (n : Nat) (p : Nat → Bool) : Option Nat := (List.range n).find? p
theorem srch_some {n k : Nat} {p : Nat → Bool} (hk : k < n) (hp : p k = true) (hf : ∀ j, j < k → p j = false) : srch n p = some k := by
  unfold srch
  rw [List.find?_range_eq_some]
  exact ⟨hp, by simpa using hk, fun j hj => by simp [hf j hj]⟩
theorem srch_none {n : Nat} {p : Nat → Bool} (hf : ∀ j, j < n → p j = false) : srch n p = none := by
  unfold srch
  rw [List.find?_range_eq_none]
  intro j hj
  simp [hf j hj]
theorem srch_of_some {n k : Nat} {p : Nat → Bool} (h : srch n p = some k) : k < n ∧ p k = true ∧ ∀ j, j < k → p j = false := by
  unfold srch at h
  rw [List.find?_range_eq_some] at h
  obtain ⟨h1, h2, h3⟩ := h
  exact ⟨by simpa using h2, h1, fun j hj => by simpa using h3 j hj⟩
theorem srch_of_none {n : Nat} {p : Nat → Bool} (h : srch n p = none) : ∀ j, j < n → p j = false := by
  unfold srch at h
  rw [List.find?_range_eq_none] at h
  intro j hj
  simpa using h j hj

structure Fld where
  start : Int
  len : Int
  attr : Int
  deriving DecidableEq

def Pl.stp (P : Pl) (a s : Int) (i : Nat) : Bool := (P.at ((a + (i : Int) * s) % (P.cells.length : Int))).start
def Pl.look (P : Pl) (a s : Int) : Int :=
  if 0 ≤ a ∧ a < (P.cells.length : Int) then
    match srch P.cells.length (P.stp a s) with
    | some i => (a + (i : Int) * s) % (P.cells.length : Int)
    | none => -1
  else -1
theorem Pl.look_some {P : Pl} {a s : Int} {k : Nat} (h0 : 0 ≤ a) (h1 : a < (P.cells.length : Int)) (hk : k < P.cells.length) (hp : P.stp a s k = true) (hf : ∀ j, j < k → P.stp a s j = false) : P.look a s = (a + (k : Int) * s) % (P.cells.length : Int) := by
  unfold Pl.look
  rw [if_pos ⟨h0, h1⟩, srch_some hk hp hf]
theorem Pl.look_none {P : Pl} {a s : Int} (hf : ∀ j, j < P.cells.length → P.stp a s j = false) : P.look a s = -1 := by
  unfold Pl.look
  rw [srch_none hf]
  split <;> rfl
theorem Pl.look_out {P : Pl} {a s : Int} (h : ¬ (0 ≤ a ∧ a < (P.cells.length : Int))) : P.look a s = -1 := by
  unfold Pl.look
  rw [if_neg h]
theorem Pl.look_range {P : Pl} (hok : P.ok) (a s : Int) : -1 ≤ P.look a s ∧ P.look a s < (P.cells.length : Int) := by
  have hn := Pl.N_pos hok
  unfold Pl.look
  split
  · split
    · rename_i i _
      have h1 := Int.emod_nonneg (a + (i : Int) * s) (show (P.cells.length : Int) ≠ 0 by show (P.cells.length : Int) ≠ 0; omega)
      have h2 := Int.emod_lt_of_pos (a + (i : Int) * s) (show (0 : Int) < (P.cells.length : Int) by show (0 : Int) < (P.cells.length : Int); omega)
      omega
    · show _ ∧ _ < (P.cells.length : Int); omega
  · show _ ∧ _ < (P.cells.length : Int); omega
def Pl.before (P : Pl) (i : Int) : Int := P.look i (-1)
def Pl.after (P : Pl) (i : Int) : Int := if 0 ≤ i ∧ i < (P.cells.length : Int) then P.look ((i + 1) % (P.cells.length : Int)) 1 else -1
def Pl.fld (P : Pl) (s : Int) : Fld := ⟨s, if P.after s - s - 1 < 0 then P.after s - s - 1 + (P.cells.length : Int) else P.after s - s - 1, low6 (P.at s).byte⟩
def Pl.ofB (P : Pl) (i : Int) : Bool := decide (0 ≤ P.before i)
def Pl.ofF (P : Pl) (i : Int) : Fld := if 0 ≤ P.before i then P.fld (P.before i) else ⟨0, 0, 0⟩
def Pl.inB (P : Pl) (i : Int) : Bool := decide (0 ≤ i ∧ i < (P.cells.length : Int))
def Pl.openAt (P : Pl) (i : Int) : Bool := if P.ofB i then (P.ofF i).start != i && !prot (P.ofF i).attr else P.inB i
def Pl.fmt (P : Pl) : Bool := decide (0 ≤ P.look 0 1)
/-- An open field's attribute stands there. -/
def Pl.opens (P : Pl) (i : Int) : Bool := P.ofB i && ((P.ofF i).start == i && (decide (0 < (P.ofF i).len) && !prot (P.ofF i).attr))
theorem Pl.ofF_attr {P : Pl} (i : Int) : 0 ≤ (P.ofF i).attr ∧ (P.ofF i).attr ≤ 255 := by
  unfold Pl.ofF
  split
  · exact low6_ok _
  · simp
theorem Pl.after_range {P : Pl} (hok : P.ok) (s : Int) : -1 ≤ P.after s ∧ P.after s < (P.cells.length : Int) := by
  unfold Pl.after
  split
  · exact Pl.look_range hok _ _
  · have := Pl.N_pos hok; show _ ∧ _ < (P.cells.length : Int); omega
def Pl.set (P : Pl) (i : Int) (c : Cell) : Pl := { P with cells := P.cells.set i.toNat c }
theorem Pl.set_ok {P : Pl} (h : P.ok) {i : Int} {c : Cell} (hc : c.ok) : (P.set i c).ok :=
  ⟨h.r1, h.r2, h.c1, h.c2, h.n2, by simpa [Pl.set] using h.len, h.k1, h.k2, fun d hd => by
    rcases List.mem_or_eq_of_mem_set hd with hd | rfl
    · exact h.cell d hd
    · exact hc⟩
def Pl.point (P : Pl) (i : Int) : Pl := { P with cursor := i }
theorem Pl.point_ok {P : Pl} (h : P.ok) {i : Int} (i0 : 0 ≤ i) (i1 : i < (P.cells.length : Int)) : (P.point i).ok :=
  ⟨h.r1, h.r2, h.c1, h.c2, h.n2, h.len, i0, by have := h.len; show i < P.rows * P.cols; omega, h.cell⟩
end Go.Proofs.Ytbkddgeocmkegaa

namespace Go.Proofs.Ytbkddgeocmkegaa
open Go.RowKit
set_option linter.unusedSimpArgs false
set_option linter.unusedVariables false
set_option maxHeartbeats 400000

theorem bcell {W w1 : World} (hb : Below W.heap.size W w1) : (∀ b o, b < W.heap.size → w1.cell? ⟨b, o, none⟩ = W.cell? ⟨b, o, none⟩) ∧ (∀ b o, b < W.heap.size → w1.frozen? ⟨b, o, none⟩ = W.frozen? ⟨b, o, none⟩) :=
  ⟨fun b o h => hb.cell (p := ⟨b, o, none⟩) h, fun b o h => hb.frozen (p := ⟨b, o, none⟩) h⟩

theorem lt_of_block {w : World} {g : Nat} {o : Obj} (h : w.heap[g]? = some o) : g < w.heap.size := by
  rcases Nat.lt_or_ge g w.heap.size with h1 | h1
  · exact h1
  · rw [Array.getElem?_eq_none h1] at h; simp at h

namespace PL
variable {w : World} {g b cap : Nat} {P : Pl}
theorem gl (h : PL w g b cap P) : g < w.heap.size := lt_of_block h.hg
theorem bl (h : PL w g b cap P) : b < w.heap.size := let ⟨_, h'⟩ := h.hb; lt_of_block h'
theorem f0 (h : PL w g b cap P) : w.cell? ⟨g, 0, none⟩ = some (.int .i64 P.rows) := by simp [World.cell?, h.hg]
theorem f1 (h : PL w g b cap P) : w.cell? ⟨g, 1, none⟩ = some (.int .i64 P.cols) := by simp [World.cell?, h.hg]
theorem f2 (h : PL w g b cap P) : w.cell? ⟨g, 2, none⟩ = some (.slice (some ⟨b, 0, none⟩) P.cells.length cap) := by simp [World.cell?, h.hg]
theorem f3 (h : PL w g b cap P) : w.cell? ⟨g, 3, none⟩ = some (.int .i64 P.cursor) := by simp [World.cell?, h.hg]
theorem fz (h : PL w g b cap P) (o : Nat) : w.frozen? ⟨g, o, none⟩ = false := by simp [World.frozen?, h.hg]
theorem fzb (h : PL w g b cap P) (o : Nat) : w.frozen? ⟨b, o, none⟩ = false := by obtain ⟨r, hb⟩ := h.hb; simp [World.frozen?, hb]
theorem cell (h : PL w g b cap P) (i : Nat) (hi : i < P.cells.length) (k : Nat) (hk : k < 5) : w.cell? ⟨b, i * 5 + k, none⟩ = (P.cells[i].vals)[k]? := by
  obtain ⟨r, hb⟩ := h.hb
  simp only [World.cell?, hb]
  simp only [Option.isSome_none, Bool.false_eq_true, if_false, List.getElem?_toArray]
  rw [List.getElem?_append_left (by rw [flat_len]; omega), flat_get _ _ hi _ hk]
theorem below {w' : World} (h : PL w g b cap P) (hb : Below w.heap.size w w') : PL w' g b cap P :=
  ⟨(hb.block g h.gl).trans h.hg, let ⟨r, h'⟩ := h.hb; ⟨r, (hb.block b h.bl).trans h'⟩, h.ne, h.ok⟩
end PL

theorem Len_any {w : World} {g b cap : Nat} {P : Pl} (h : PL w g b cap P) :
    Calls Try.prog 25 #[.pointer (some ⟨g, 0, none⟩)] w fun e w' => e = .returned (.int .i64 (P.cells.length : Int)) ∧ Below w.heap.size w w' := by
  have f2 := h.f2
  go_enter Try.func25, Try.ntmps25
  go_wp2
  go_ret
  exact ⟨rfl, Below.refl _ _⟩

theorem has_any {w : World} {g b cap : Nat} {P : Pl} (h : PL w g b cap P) (i : Int) :
    Calls Try.prog 109 #[.pointer (some ⟨g, 0, none⟩), .int .i64 i] w fun e w' => e = .returned (.bool (decide (0 ≤ i ∧ i < (P.cells.length : Int)))) ∧ Below w.heap.size w w' := by
  have f2 := h.f2
  by_cases hi : 0 ≤ i
  · go_enter Try.func109, Try.ntmps109
    go_wp2
    go_ret
    exact ⟨by simp [hi], Below.refl _ _⟩
  · go_enter Try.func109, Try.ntmps109
    go_wp2
    go_ret
    exact ⟨by simp; omega, Below.refl _ _⟩

theorem At_any {w : World} {g b cap : Nat} {P : Pl} (h : PL w g b cap P) (i : Int) :
    Calls Try.prog 55 #[.pointer (some ⟨g, 0, none⟩), .int .i64 i] w fun e w' => e = .returned (.agg #[.int .u8 (P.at i).byte, .bool (P.at i).ge, .bool (P.at i).start, .int .u8 (P.at i).light, .int .u8 (P.at i).color]) ∧ Below w.heap.size w w' := by
  have gl := h.gl
  have f2 := h.f2
  go_enter Try.func55, Try.ntmps55
  go_wp2_with fail
  refine (has_any (h.below ((Below.refl _ _).alloc (Nat.le_refl _) _)) _).mono ?_
  rintro e w1 ⟨rfl, hb⟩
  obtain ⟨hc, hf⟩ := bcell hb
  by_cases hi : 0 ≤ i ∧ i < (P.cells.length : Int)
  · have hd : decide (0 ≤ i ∧ i < (P.cells.length : Int)) = true := decide_eq_true hi
    have k0 := h.cell i.toNat (by omega) 0 (by omega)
    have k1 := h.cell i.toNat (by omega) 1 (by omega)
    have k2 := h.cell i.toNat (by omega) 2 (by omega)
    have k3 := h.cell i.toNat (by omega) 3 (by omega)
    have k4 := h.cell i.toNat (by omega) 4 (by omega)
    simp [Cell.vals] at k0 k1 k2 k3 k4
    have bl := h.bl
    obtain ⟨i0, i1⟩ := hi
    go_wp2
    exact bodyPost_ret (v := .agg #[.int .u8 (P.cells[i.toNat]).byte, .bool (P.cells[i.toNat]).ge, .bool (P.cells[i.toNat]).start, .int .u8 (P.cells[i.toNat]).light, .int .u8 (P.cells[i.toNat]).color]) (by simp [results, Try.results55, go_sem, hc, Cell.agg]) rfl ⟨by rw [Pl.at, if_pos ⟨i0, i1⟩, getD_lt], by with_reducible (repeat (first | exact Below.refl _ _ | assumption | (refine Below.setCell ?_ (by simp) _) | (refine Below.alloc ?_ (by simp) _) | (refine Below.drewN ?_ _) | (refine Below.trans ?_ (Below.mono hb (by simp)))))⟩
  · have hd : decide (0 ≤ i ∧ i < (P.cells.length : Int)) = false := decide_eq_false hi
    go_wp2
    exact bodyPost_ret (v := .agg #[.int .u8 (Cell.zero).byte, .bool (Cell.zero).ge, .bool (Cell.zero).start, .int .u8 (Cell.zero).light, .int .u8 (Cell.zero).color]) (by simp [results, Try.results55, go_sem, hc, Cell.agg, Cell.zero]) rfl ⟨by rw [Pl.at, if_neg hi], by with_reducible (repeat (first | exact Below.refl _ _ | assumption | (refine Below.setCell ?_ (by simp) _) | (refine Below.alloc ?_ (by simp) _) | (refine Below.drewN ?_ _) | (refine Below.trans ?_ (Below.mono hb (by simp)))))⟩
end Go.Proofs.Ytbkddgeocmkegaa

namespace Go.Proofs.Ytbkddgeocmkegaa
open Go.RowKit
set_option linter.unusedSimpArgs false
set_option linter.unusedVariables false
set_option maxHeartbeats 400000

/-- w' is w but for the blocks of S and what is new. -/
structure Chg (S : Nat → Prop) (w w' : World) : Prop where
  os : w'.os = w.os
  tape : w'.tape = w.tape
  output : w'.output = w.output
  size : w.heap.size ≤ w'.heap.size
  block : ∀ k, k < w.heap.size → ¬ S k → w'.heap[k]? = w.heap[k]?
namespace Chg
variable {S T : Nat → Prop} {w w1 w2 w' : World}
theorem refl (S : Nat → Prop) (w : World) : Chg S w w := ⟨rfl, rfl, rfl, Nat.le_refl _, fun _ _ _ => rfl⟩
theorem of_below (h : Below w.heap.size w w') : Chg S w w' := ⟨h.os, h.tape, h.output, h.size, fun k hk _ => h.block k hk⟩
theorem trans (h : Chg S w w1) (k : Chg S w1 w2) : Chg S w w2 :=
  ⟨k.os.trans h.os, k.tape.trans h.tape, k.output.trans h.output, Nat.le_trans h.size k.size, fun i hi hs => (k.block i (Nat.lt_of_lt_of_le hi h.size) hs).trans (h.block i hi hs)⟩
theorem mono (h : Chg S w w') (hst : ∀ k, k < w.heap.size → S k → T k) : Chg T w w' := ⟨h.os, h.tape, h.output, h.size, fun k hk ht => h.block k hk (fun hs => ht (hst k hk hs))⟩
theorem below {B : Nat} (h : Chg S w w') (hB : B ≤ w.heap.size) (hs : ∀ k, S k → B ≤ k) : Below B w w' := ⟨h.os, h.tape, h.output, h.size, fun k hk => h.block k (by omega) (fun hk' => by have := hs k hk'; omega)⟩
theorem alloc (h : Chg S w w') (o : Obj) : Chg S w (w'.alloc o) := h.trans (of_below ((Below.refl _ _).alloc (Nat.le_refl _) _))
theorem drew (h : Chg S w w') : Chg S w w'.drew := ⟨h.os, h.tape, h.output, h.size, h.block⟩
theorem setCell (h : Chg S w w') {a : Addr} (ha : S a.block ∨ w.heap.size ≤ a.block) (u : Value) : Chg S w (w'.setCell a u) :=
  ⟨h.os, h.tape, h.output, by simpa [World.setCell] using h.size, fun k hk hs => by
    rw [Below.heap_setCell _ _ _ _ (fun e => by rcases ha with ha | ha; exact hs (e ▸ ha); omega)]; exact h.block k hk hs⟩
end Chg


/-- A cell's five places, stored. -/
abbrev putC (w : World) (b k : Nat) (c : Cell) : World :=
  ((((w.setCell ⟨b, k, none⟩ (.int .u8 c.byte)).setCell ⟨b, k + 1, none⟩ (.bool c.ge)).setCell ⟨b, k + 2, none⟩ (.bool c.start)).setCell ⟨b, k + 3, none⟩ (.int .u8 c.light)).setCell ⟨b, k + 4, none⟩ (.int .u8 c.color)

theorem heap_set_same {w : World} {b : Nat} {l : List Value} {T : TypeId} {z : Nat × Nat} (h : w.heap[b]? = some (.cells l.toArray T z)) (k : Nat) (v : Value) : (w.setCell ⟨b, k, none⟩ v).heap[b]? = some (.cells (l.set k v).toArray T z) := by
  simp [World.setCell, Array.getElem?_modify, h]

theorem putC_heap {w : World} {b : Nat} {cs : List Cell} {rest : List Value} {T : TypeId} {z : Nat × Nat} (h : w.heap[b]? = some (.cells (flat cs ++ rest).toArray T z)) (i : Nat) (hi : i < cs.length) (c : Cell) :
    (putC w b (i * 5) c).heap[b]? = some (.cells (flat (cs.set i c) ++ rest).toArray T z) := by
  have := heap_set_same (heap_set_same (heap_set_same (heap_set_same (heap_set_same h (i * 5) (.int .u8 c.byte)) (i * 5 + 1) (.bool c.ge)) (i * 5 + 2) (.bool c.start)) (i * 5 + 3) (.int .u8 c.light)) (i * 5 + 4) (.int .u8 c.color)
  rw [← flat_set cs i hi c]
  have hl := flat_len cs
  rw [List.set_append_left _ _ (by omega), List.set_append_left _ _ (by simp; omega), List.set_append_left _ _ (by simp; omega), List.set_append_left _ _ (by simp; omega), List.set_append_left _ _ (by simp; omega)] at this
  exact this

theorem putC_other {w : World} {b k : Nat} {c : Cell} {j : Nat} (hj : j ≠ b) : (putC w b k c).heap[j]? = w.heap[j]? := by
  unfold putC
  rw [Below.heap_setCell _ _ _ _ hj, Below.heap_setCell _ _ _ _ hj, Below.heap_setCell _ _ _ _ hj, Below.heap_setCell _ _ _ _ hj, Below.heap_setCell _ _ _ _ hj]

theorem putC_chg {S : Nat → Prop} {w w' : World} (h : Chg S w w') {b : Nat} (hb : S b ∨ w.heap.size ≤ b) (k : Nat) (c : Cell) : Chg S w (putC w' b k c) :=
  ((((h.setCell hb _).setCell hb _).setCell hb _).setCell hb _).setCell hb _

theorem PL.put {w : World} {g b cap : Nat} {P : Pl} (h : PL w g b cap P) {i : Int} (i0 : 0 ≤ i) (i1 : i < (P.cells.length : Int)) {c : Cell} (hc : c.ok) : PL (putC w b (i.toNat * 5) c) g b cap (P.set i c) :=
  ⟨by rw [putC_other h.ne]; simpa [Pl.set] using h.hg, let ⟨r, hb⟩ := h.hb; ⟨r, putC_heap hb _ (by omega) _⟩, h.ne, Pl.set_ok h.ok hc⟩
theorem PL.drew {w : World} {g b cap : Nat} {P : Pl} (h : PL w g b cap P) : PL w.drew g b cap P := ⟨h.hg, h.hb, h.ne, h.ok⟩
theorem PL.drewN {w : World} {g b cap : Nat} {P : Pl} (h : PL w g b cap P) (n : Nat) : PL (w.drewN n) g b cap P := h.below (below_drewN (Below.refl _ _) n)
theorem PL.chg {S : Nat → Prop} {w w' : World} {g b cap : Nat} {P : Pl} (h : PL w g b cap P) (hk : Chg S w w') (hg : ¬ S g) (hb : ¬ S b) : PL w' g b cap P :=
  ⟨(hk.block g h.gl hg).trans h.hg, let ⟨r, h'⟩ := h.hb; ⟨r, (hk.block b h.bl hb).trans h'⟩, h.ne, h.ok⟩

theorem Set_in {w : World} {g b cap : Nat} {P : Pl} (h : PL w g b cap P) (i : Int) (c : Cell) (i0 : 0 ≤ i) (i1 : i < (P.cells.length : Int)) (hcok : c.ok) :
    Calls Try.prog 92 #[.pointer (some ⟨g, 0, none⟩), .int .i64 i, .agg #[.int .u8 c.byte, .bool c.ge, .bool c.start, .int .u8 c.light, .int .u8 c.color]] w fun e w' => e = .returned (.bool true) ∧ PL w' g b cap (P.set i c) ∧ Chg (· = b) w w' := by
  have gl := h.gl
  have bl := h.bl
  have f2 := h.f2
  have fz := h.fz
  have fzb := h.fzb
  go_enter Try.func92, Try.ntmps92
  go_wp2_with fail
  refine (has_any (h.below ((Below.refl _ _).alloc (Nat.le_refl _) _)) _).mono ?_
  rintro e w1 ⟨rfl, hb⟩
  obtain ⟨hc, hf⟩ := bcell hb
  have hd : decide (0 ≤ i ∧ i < (P.cells.length : Int)) = true := decide_eq_true ⟨i0, i1⟩
  have k0 := h.cell i.toNat (by omega) 0 (by omega)
  have k1 := h.cell i.toNat (by omega) 1 (by omega)
  have k2 := h.cell i.toNat (by omega) 2 (by omega)
  have k3 := h.cell i.toNat (by omega) 3 (by omega)
  have k4 := h.cell i.toNat (by omega) 4 (by omega)
  simp [Cell.vals] at k0 k1 k2 k3 k4
  go_wp2
  go_region
  go_wp2
  go_ret
  have hB : Below w.heap.size w w1 := by with_reducible (repeat (first | exact Below.refl _ _ | assumption | (refine Below.setCell ?_ (by first | omega | (simp; done) | (simp; omega)) _) | (refine Below.alloc ?_ (by first | omega | (simp; done) | (simp; omega)) _) | (refine below_drewN ?_ _) | (refine Below.drew ?_) | (refine Below.trans ?_ (Below.mono hb (by first | omega | (simp; done) | (simp; omega)))) | (refine Below.trans ?_ (Below.mono hb1 (by first | omega | (simp; done) | (simp; omega)))) | (refine Below.trans ?_ (Below.mono hb2 (by first | omega | (simp; done) | (simp; omega)))) | (refine Below.trans ?_ (Below.mono hb3 (by first | omega | (simp; done) | (simp; omega)))) | (refine Below.trans ?_ (Below.mono hb4 (by first | omega | (simp; done) | (simp; omega)))) | (refine Below.trans ?_ (Below.mono hb5 (by first | omega | (simp; done) | (simp; omega)))) | (refine Below.trans ?_ (Below.mono hb6 (by first | omega | (simp; done) | (simp; omega)))) | (refine Below.trans ?_ (Below.mono hb7 (by first | omega | (simp; done) | (simp; omega)))) | (refine Below.trans ?_ (Below.mono hb8 (by first | omega | (simp; done) | (simp; omega)))) | (refine Below.trans ?_ (Below.mono hb9 (by first | omega | (simp; done) | (simp; omega)))) | (refine Below.trans ?_ (Below.mono hb10 (by first | omega | (simp; done) | (simp; omega)))) | (refine Below.trans ?_ (Below.mono hb11 (by first | omega | (simp; done) | (simp; omega)))) | (refine Below.trans ?_ (Below.mono hb12 (by first | omega | (simp; done) | (simp; omega))))))
  exact ⟨rfl, ((h.below hB).put i0 i1 hcok).drew, (putC_chg (S := (· = b)) (Chg.of_below hB) (.inl rfl) _ _).drew⟩

theorem Set_out {w : World} {g b cap : Nat} {P : Pl} (h : PL w g b cap P) (i : Int) (c : Cell) (hi : ¬ (0 ≤ i ∧ i < (P.cells.length : Int))) :
    Calls Try.prog 92 #[.pointer (some ⟨g, 0, none⟩), .int .i64 i, .agg #[.int .u8 c.byte, .bool c.ge, .bool c.start, .int .u8 c.light, .int .u8 c.color]] w fun e w' => e = .returned (.bool false) ∧ Below w.heap.size w w' := by
  go_enter Try.func92, Try.ntmps92
  go_wp2_with fail
  refine (has_any (h.below ((Below.refl _ _).alloc (Nat.le_refl _) _)) _).mono ?_
  rintro e w1 ⟨rfl, hb⟩
  have hd : decide (0 ≤ i ∧ i < (P.cells.length : Int)) = false := decide_eq_false hi
  go_wp2
  go_ret
  exact ⟨rfl, by with_reducible (repeat (first | exact Below.refl _ _ | assumption | (refine Below.setCell ?_ (by first | omega | (simp; done) | (simp; omega)) _) | (refine Below.alloc ?_ (by first | omega | (simp; done) | (simp; omega)) _) | (refine below_drewN ?_ _) | (refine Below.drew ?_) | (refine Below.trans ?_ (Below.mono hb (by first | omega | (simp; done) | (simp; omega)))) | (refine Below.trans ?_ (Below.mono hb1 (by first | omega | (simp; done) | (simp; omega)))) | (refine Below.trans ?_ (Below.mono hb2 (by first | omega | (simp; done) | (simp; omega)))) | (refine Below.trans ?_ (Below.mono hb3 (by first | omega | (simp; done) | (simp; omega)))) | (refine Below.trans ?_ (Below.mono hb4 (by first | omega | (simp; done) | (simp; omega)))) | (refine Below.trans ?_ (Below.mono hb5 (by first | omega | (simp; done) | (simp; omega)))) | (refine Below.trans ?_ (Below.mono hb6 (by first | omega | (simp; done) | (simp; omega)))) | (refine Below.trans ?_ (Below.mono hb7 (by first | omega | (simp; done) | (simp; omega)))) | (refine Below.trans ?_ (Below.mono hb8 (by first | omega | (simp; done) | (simp; omega)))) | (refine Below.trans ?_ (Below.mono hb9 (by first | omega | (simp; done) | (simp; omega)))) | (refine Below.trans ?_ (Below.mono hb10 (by first | omega | (simp; done) | (simp; omega)))) | (refine Below.trans ?_ (Below.mono hb11 (by first | omega | (simp; done) | (simp; omega)))) | (refine Below.trans ?_ (Below.mono hb12 (by first | omega | (simp; done) | (simp; omega))))))⟩

theorem Size_any {w : World} {g b cap : Nat} {P : Pl} (h : PL w g b cap P) :
    Calls Try.prog 101 #[.pointer (some ⟨g, 0, none⟩)] w fun e w' => e = .returned (.agg #[.int .i64 P.rows, .int .i64 P.cols]) ∧ Below w.heap.size w w' := by
  have f0 := h.f0
  have f1 := h.f1
  have gl := h.gl
  go_enter Try.func101, Try.ntmps101
  go_wp2
  exact bodyPost_ret (v := .agg #[.int .i64 P.rows, .int .i64 P.cols]) (by simp [results, Try.results101, go_sem]) rfl ⟨rfl, by with_reducible (repeat (first | exact Below.refl _ _ | assumption | (refine Below.setCell ?_ (by first | omega | (simp; done) | (simp; omega)) _) | (refine Below.alloc ?_ (by first | omega | (simp; done) | (simp; omega)) _) | (refine below_drewN ?_ _) | (refine Below.drew ?_) | (refine Below.trans ?_ (Below.mono hb (by first | omega | (simp; done) | (simp; omega)))) | (refine Below.trans ?_ (Below.mono hb1 (by first | omega | (simp; done) | (simp; omega)))) | (refine Below.trans ?_ (Below.mono hb2 (by first | omega | (simp; done) | (simp; omega)))) | (refine Below.trans ?_ (Below.mono hb3 (by first | omega | (simp; done) | (simp; omega)))) | (refine Below.trans ?_ (Below.mono hb4 (by first | omega | (simp; done) | (simp; omega)))) | (refine Below.trans ?_ (Below.mono hb5 (by first | omega | (simp; done) | (simp; omega)))) | (refine Below.trans ?_ (Below.mono hb6 (by first | omega | (simp; done) | (simp; omega)))) | (refine Below.trans ?_ (Below.mono hb7 (by first | omega | (simp; done) | (simp; omega)))) | (refine Below.trans ?_ (Below.mono hb8 (by first | omega | (simp; done) | (simp; omega)))) | (refine Below.trans ?_ (Below.mono hb9 (by first | omega | (simp; done) | (simp; omega)))) | (refine Below.trans ?_ (Below.mono hb10 (by first | omega | (simp; done) | (simp; omega)))) | (refine Below.trans ?_ (Below.mono hb11 (by first | omega | (simp; done) | (simp; omega)))) | (refine Below.trans ?_ (Below.mono hb12 (by first | omega | (simp; done) | (simp; omega))))))⟩

theorem Cursor_any {w : World} {g b cap : Nat} {P : Pl} (h : PL w g b cap P) :
    Calls Try.prog 48 #[.pointer (some ⟨g, 0, none⟩)] w fun e w' => e = .returned (.int .i64 P.cursor) ∧ Below w.heap.size w w' := by
  have f3 := h.f3
  go_enter Try.func48, Try.ntmps48
  go_wp2
  go_ret
  exact ⟨rfl, Below.refl _ _⟩

theorem PL.pointed {w : World} {g b cap : Nat} {P : Pl} (h : PL w g b cap P) {i : Int} (i0 : 0 ≤ i) (i1 : i < (P.cells.length : Int)) : PL (w.setCell ⟨g, 3, none⟩ (.int .i64 i)) g b cap (P.point i) :=
  ⟨by have := heap_set_same (l := [.int .i64 P.rows, .int .i64 P.cols, .slice (some ⟨b, 0, none⟩) P.cells.length cap, .int .i64 P.cursor]) h.hg 3 (.int .i64 i); simpa [Pl.point] using this,
   let ⟨r, hb⟩ := h.hb; ⟨r, by rw [Below.heap_setCell _ _ _ _ (Ne.symm h.ne)]; exact hb⟩, h.ne, Pl.point_ok h.ok i0 i1⟩

theorem Point_in {w : World} {g b cap : Nat} {P : Pl} (h : PL w g b cap P) (i : Int) (i0 : 0 ≤ i) (i1 : i < (P.cells.length : Int)) :
    Calls Try.prog 49 #[.pointer (some ⟨g, 0, none⟩), .int .i64 i] w fun e w' => e = .returned (.bool true) ∧ PL w' g b cap (P.point i) ∧ Chg (· = g) w w' := by
  have gl := h.gl
  have f3 := h.f3
  have fz := h.fz
  go_enter Try.func49, Try.ntmps49
  go_wp2_with fail
  refine (has_any h _).mono ?_
  rintro e w1 ⟨rfl, hb⟩
  obtain ⟨hc, hf⟩ := bcell hb
  have hd : decide (0 ≤ i ∧ i < (P.cells.length : Int)) = true := decide_eq_true ⟨i0, i1⟩
  go_wp2
  go_ret
  exact ⟨rfl, (h.below hb).pointed i0 i1, Chg.setCell (S := (· = g)) (Chg.of_below hb) (.inl rfl) _⟩

theorem Point_out {w : World} {g b cap : Nat} {P : Pl} (h : PL w g b cap P) (i : Int) (hi : ¬ (0 ≤ i ∧ i < (P.cells.length : Int))) :
    Calls Try.prog 49 #[.pointer (some ⟨g, 0, none⟩), .int .i64 i] w fun e w' => e = .returned (.bool false) ∧ Below w.heap.size w w' := by
  go_enter Try.func49, Try.ntmps49
  go_wp2_with fail
  refine (has_any h _).mono ?_
  rintro e w1 ⟨rfl, hb⟩
  have hd : decide (0 ≤ i ∧ i < (P.cells.length : Int)) = false := decide_eq_false hi
  go_wp2
  go_ret
  exact ⟨rfl, hb⟩
end Go.Proofs.Ytbkddgeocmkegaa

namespace Go.Proofs.Ytbkddgeocmkegaa
open Go.RowKit
set_option linter.unusedSimpArgs false
set_option linter.unusedVariables false
set_option maxHeartbeats 400000

/-! Attributes. -/
theorem byte_all {α : Type} {f g : Int → α} (h : ∀ n : Fin 256, f (n.val : Int) = g (n.val : Int)) (x : Int) (hx : 0 ≤ x ∧ x ≤ 255) : f x = g x := by
  have := h ⟨x.toNat, by omega⟩
  simpa [Int.toNat_of_nonneg hx.1] using this
theorem bits_32 (x : Int) (h : 0 ≤ x ∧ x ≤ 255) : (bits BinOp.and IntKind.u8 x 32 != 0) = prot x := byte_all (f := fun x => bits BinOp.and IntKind.u8 x 32 != 0) (g := prot) (by decide +kernel) x h
theorem bits_16 (x : Int) (h : 0 ≤ x ∧ x ≤ 255) : (bits BinOp.and IntKind.u8 x 16 != 0) = nume x := byte_all (f := fun x => bits BinOp.and IntKind.u8 x 16 != 0) (g := nume) (by decide +kernel) x h
theorem bits_1 (x : Int) (h : 0 ≤ x ∧ x ≤ 255) : (bits BinOp.and IntKind.u8 x 1 != 0) = mdt x := byte_all (f := fun x => bits BinOp.and IntKind.u8 x 1 != 0) (g := mdt) (by decide +kernel) x h
theorem bits_63 (x : Int) (h : 0 ≤ x ∧ x ≤ 255) : bits BinOp.and IntKind.u8 x 63 = low6 x := byte_all (f := fun x => bits BinOp.and IntKind.u8 x 63) (g := low6) (by decide +kernel) x h
theorem bits_or1 (x : Int) (h : 0 ≤ x ∧ x ≤ 255) : bits BinOp.or IntKind.u8 x 1 = modi x true := byte_all (f := fun x => bits BinOp.or IntKind.u8 x 1) (g := fun x => modi x true) (by decide +kernel) x h
theorem bits_not1 (x : Int) (h : 0 ≤ x ∧ x ≤ 255) : bits BinOp.andNot IntKind.u8 x 1 = modi x false := byte_all (f := fun x => bits BinOp.andNot IntKind.u8 x 1) (g := fun x => modi x false) (by decide +kernel) x h

theorem Protected_any (x : Int) (w : World) (h : 0 ≤ x ∧ x ≤ 255) :
    Calls Try.prog 117 #[.int .u8 x] w fun e w' => e = .returned (.bool (prot x)) ∧ Below w.heap.size w w' := by
  go_enter Try.func117, Try.ntmps117
  go_wp2
  go_ret
  exact ⟨by rw [← bits_32 x h]; rfl, Below.refl _ _⟩
theorem Numeric_any (x : Int) (w : World) (h : 0 ≤ x ∧ x ≤ 255) :
    Calls Try.prog 162 #[.int .u8 x] w fun e w' => e = .returned (.bool (nume x)) ∧ Below w.heap.size w w' := by
  go_enter Try.func162, Try.ntmps162
  go_wp2
  go_ret
  exact ⟨by rw [← bits_16 x h]; rfl, Below.refl _ _⟩
theorem Modified_any (x : Int) (w : World) (h : 0 ≤ x ∧ x ≤ 255) :
    Calls Try.prog 146 #[.int .u8 x] w fun e w' => e = .returned (.bool (mdt x)) ∧ Below w.heap.size w w' := by
  go_enter Try.func146, Try.ntmps146
  go_wp2
  go_ret
  exact ⟨by rw [← bits_1 x h]; rfl, Below.refl _ _⟩
theorem Modify_any (x : Int) (on : Bool) (w : World) (h : 0 ≤ x ∧ x ≤ 255) :
    Calls Try.prog 57 #[.int .u8 x, .bool on] w fun e w' => e = .returned (.int .u8 (modi x on)) ∧ Below w.heap.size w w' := by
  cases on
  · go_enter Try.func57, Try.ntmps57
    go_wp2
    go_ret
    exact ⟨by rw [← bits_not1 x h]; rfl, Below.refl _ _⟩
  · go_enter Try.func57, Try.ntmps57
    go_wp2
    go_ret
    exact ⟨by rw [← bits_or1 x h]; rfl, Below.refl _ _⟩
theorem Skip_any (x : Int) (w : World) (h : 0 ≤ x ∧ x ≤ 255) :
    Calls Try.prog 108 #[.int .u8 x] w fun e w' => e = .returned (.bool (prot x && nume x)) ∧ Below w.heap.size w w' := by
  go_enter Try.func108, Try.ntmps108
  go_wp2_with fail
  refine (Protected_any _ _ h).mono ?_
  rintro e w1 ⟨rfl, hb1⟩
  have hz1 := hb1.size
  try simp only [World.size_alloc, World.size_drew, World.size_setCell] at hz1
  obtain ⟨hc1, hf1⟩ := bcell hb1
  cases hp : prot x
  · go_wp2
    go_ret
    exact ⟨by simp [hp], hb1⟩
  · go_wp2_with fail
    refine (Numeric_any _ _ h).mono ?_
    rintro e w2 ⟨rfl, hb2⟩
    have hz2 := hb2.size
    try simp only [World.size_alloc, World.size_drew, World.size_setCell] at hz2
    obtain ⟨hc2, hf2⟩ := bcell hb2
    go_wp2
    go_ret
    exact ⟨by simp [hp], by with_reducible (repeat (first | exact Below.refl _ _ | assumption | (refine Below.setCell ?_ (by first | omega | (simp; done) | (simp; omega)) _) | (refine Below.alloc ?_ (by first | omega | (simp; done) | (simp; omega)) _) | (refine below_drewN ?_ _) | (refine Below.drew ?_) | (refine Below.trans ?_ (Below.mono hb (by first | omega | (simp; done) | (simp; omega)))) | (refine Below.trans ?_ (Below.mono hb1 (by first | omega | (simp; done) | (simp; omega)))) | (refine Below.trans ?_ (Below.mono hb2 (by first | omega | (simp; done) | (simp; omega)))) | (refine Below.trans ?_ (Below.mono hb3 (by first | omega | (simp; done) | (simp; omega)))) | (refine Below.trans ?_ (Below.mono hb4 (by first | omega | (simp; done) | (simp; omega)))) | (refine Below.trans ?_ (Below.mono hb5 (by first | omega | (simp; done) | (simp; omega)))) | (refine Below.trans ?_ (Below.mono hb6 (by first | omega | (simp; done) | (simp; omega)))) | (refine Below.trans ?_ (Below.mono hb7 (by first | omega | (simp; done) | (simp; omega)))) | (refine Below.trans ?_ (Below.mono hb8 (by first | omega | (simp; done) | (simp; omega)))) | (refine Below.trans ?_ (Below.mono hb9 (by first | omega | (simp; done) | (simp; omega)))) | (refine Below.trans ?_ (Below.mono hb10 (by first | omega | (simp; done) | (simp; omega)))) | (refine Below.trans ?_ (Below.mono hb11 (by first | omega | (simp; done) | (simp; omega)))) | (refine Below.trans ?_ (Below.mono hb12 (by first | omega | (simp; done) | (simp; omega))))))⟩

/-! A field of a struct that is no variable. -/
theorem run_start (w : World) (a b c d e : Value) : (Instr.field 96 (.agg #[a, b, c, d, e]) 2).run Try.prog w = .ok c w := by kernel_rfl
theorem run_byte (w : World) (a b c d e : Value) : (Instr.field 96 (.agg #[a, b, c, d, e]) 0).run Try.prog w = .ok a w := by kernel_rfl
theorem run_cols (w : World) (a b : Value) : (Instr.field 48 (.agg #[a, b]) 1).run Try.prog w = .ok b w := by kernel_rfl

/-! Places. -/
theorem Cells_in (r c : Int) (w : World) (h1 : 1 ≤ r) (h2 : r ≤ 43) (h3 : 1 ≤ c) (h4 : c ≤ 132) (h5 : r * c ≤ 4096) :
    Calls Try.prog 78 #[.agg #[.int .i64 r, .int .i64 c]] w fun e w' => e = .returned (.int .i64 (r * c)) ∧ Below w.heap.size w w' := by
  have h0 : 0 ≤ r * c := Int.mul_nonneg (by omega) (by omega)
  go_enter Try.func78, Try.ntmps78
  go_wp2
  go_ret
  exact ⟨rfl, by with_reducible (repeat (first | exact Below.refl _ _ | assumption | (refine Below.setCell ?_ (by first | omega | (simp; done) | (simp; omega)) _) | (refine Below.alloc ?_ (by first | omega | (simp; done) | (simp; omega)) _) | (refine below_drewN ?_ _) | (refine Below.drew ?_) | (refine Below.trans ?_ (Below.mono hb (by first | omega | (simp; done) | (simp; omega)))) | (refine Below.trans ?_ (Below.mono hb1 (by first | omega | (simp; done) | (simp; omega)))) | (refine Below.trans ?_ (Below.mono hb2 (by first | omega | (simp; done) | (simp; omega)))) | (refine Below.trans ?_ (Below.mono hb3 (by first | omega | (simp; done) | (simp; omega)))) | (refine Below.trans ?_ (Below.mono hb4 (by first | omega | (simp; done) | (simp; omega)))) | (refine Below.trans ?_ (Below.mono hb5 (by first | omega | (simp; done) | (simp; omega)))) | (refine Below.trans ?_ (Below.mono hb6 (by first | omega | (simp; done) | (simp; omega)))) | (refine Below.trans ?_ (Below.mono hb7 (by first | omega | (simp; done) | (simp; omega)))) | (refine Below.trans ?_ (Below.mono hb8 (by first | omega | (simp; done) | (simp; omega)))) | (refine Below.trans ?_ (Below.mono hb9 (by first | omega | (simp; done) | (simp; omega)))) | (refine Below.trans ?_ (Below.mono hb10 (by first | omega | (simp; done) | (simp; omega)))) | (refine Below.trans ?_ (Below.mono hb11 (by first | omega | (simp; done) | (simp; omega)))) | (refine Below.trans ?_ (Below.mono hb12 (by first | omega | (simp; done) | (simp; omega))))))⟩

theorem tmod_lt' {a n : Int} (hn : 0 < n) : -n < a.tmod n ∧ a.tmod n < n := by
  have h1 := Int.tmod_lt_of_pos a hn
  have h2 := Int.lt_tmod_of_pos a hn
  omega
theorem wrap_in {x : Int} (h1 : -9223372036854775808 ≤ x) (h2 : x ≤ 9223372036854775807) : wrap64 x = x := by unfold wrap64; omega
theorem move_math {n a b : Int} (hn : 0 < n) (hn2 : n ≤ 4096) : (wrap64 ((wrap64 (a.tmod n + b.tmod n)).tmod n + n)).tmod n = (a + b) % n := by
  have ha := tmod_lt' (a := a) hn
  have hb := tmod_lt' (a := b) hn
  rw [wrap_in (x := a.tmod n + b.tmod n) (by omega) (by omega)]
  have hs := tmod_lt' (a := a.tmod n + b.tmod n) hn
  rw [wrap_in (by omega) (by omega)]
  have e1 := Int.mul_tdiv_add_tmod a n
  have e2 := Int.mul_tdiv_add_tmod b n
  have e3 := Int.mul_tdiv_add_tmod (a.tmod n + b.tmod n) n
  rw [Int.tmod_eq_emod_of_nonneg (by omega)]
  have : a + b = ((a.tmod n + b.tmod n).tmod n + n) + n * (a.tdiv n + b.tdiv n + (a.tmod n + b.tmod n).tdiv n - 1) := by
    rw [Int.mul_sub, Int.mul_add, Int.mul_add, Int.mul_one]; omega
  rw [this, Int.add_mul_emod_self_left]

theorem Move_any (r c a b n : Int) (w : World) (h1 : 1 ≤ r) (h2 : r ≤ 43) (h3 : 1 ≤ c) (h4 : c ≤ 132) (h5 : r * c ≤ 4096) (hn : Hid (n = r * c)) :
    Calls Try.prog 161 #[.agg #[.int .i64 r, .int .i64 c], .int .i64 a, .int .i64 b] w fun e w' => e = .returned (.int .i64 ((a + b) % n)) ∧ Below w.heap.size w w' := by
  have h0 : 0 < r * c := Int.mul_pos (by omega) (by omega)
  go_enter Try.func161, Try.ntmps161
  go_wp2_with fail
  refine (Cells_in _ _ _ h1 h2 h3 h4 h5).mono ?_
  rintro e w1 ⟨rfl, hb1⟩
  go_wp2
  go_quiet (fail)
  go_wp2
  go_ret
  exact ⟨by rw [hn.out, ← move_math h0 h5]; rfl, by with_reducible (repeat (first | exact Below.refl _ _ | assumption | (refine Below.setCell ?_ (by first | omega | (simp; done) | (simp; omega)) _) | (refine Below.alloc ?_ (by first | omega | (simp; done) | (simp; omega)) _) | (refine below_drewN ?_ _) | (refine Below.drew ?_) | (refine Below.trans ?_ (Below.mono hb (by first | omega | (simp; done) | (simp; omega)))) | (refine Below.trans ?_ (Below.mono hb1 (by first | omega | (simp; done) | (simp; omega)))) | (refine Below.trans ?_ (Below.mono hb2 (by first | omega | (simp; done) | (simp; omega)))) | (refine Below.trans ?_ (Below.mono hb3 (by first | omega | (simp; done) | (simp; omega)))) | (refine Below.trans ?_ (Below.mono hb4 (by first | omega | (simp; done) | (simp; omega)))) | (refine Below.trans ?_ (Below.mono hb5 (by first | omega | (simp; done) | (simp; omega)))) | (refine Below.trans ?_ (Below.mono hb6 (by first | omega | (simp; done) | (simp; omega)))) | (refine Below.trans ?_ (Below.mono hb7 (by first | omega | (simp; done) | (simp; omega)))) | (refine Below.trans ?_ (Below.mono hb8 (by first | omega | (simp; done) | (simp; omega)))) | (refine Below.trans ?_ (Below.mono hb9 (by first | omega | (simp; done) | (simp; omega)))) | (refine Below.trans ?_ (Below.mono hb10 (by first | omega | (simp; done) | (simp; omega)))) | (refine Below.trans ?_ (Below.mono hb11 (by first | omega | (simp; done) | (simp; omega)))) | (refine Below.trans ?_ (Below.mono hb12 (by first | omega | (simp; done) | (simp; omega))))))⟩
theorem Split_in (r c a : Int) (w : World) (h1 : 1 ≤ r) (h2 : r ≤ 43) (h3 : 1 ≤ c) (h4 : c ≤ 132) (h5 : r * c ≤ 4096) (h6 : 0 ≤ a) (h7 : a < r * c) :
    Calls Try.prog 106 #[.agg #[.int .i64 r, .int .i64 c], .int .i64 a] w fun e w' => e = .returned (.tuple #[.int .i64 (a / c), .int .i64 (a % c), .bool true]) ∧ Below w.heap.size w w' := by
  go_enter Try.func106, Try.ntmps106
  go_wp2_with fail
  refine (Cells_in _ _ _ h1 h2 h3 h4 h5).mono ?_
  rintro e w1 ⟨rfl, hb1⟩
  obtain ⟨hc1, hf1⟩ := bcell hb1
  go_wp2
  go_quiet (fail)
  go_wp2
  go_ret3
  exact ⟨by simp, by with_reducible (repeat (first | exact Below.refl _ _ | assumption | (refine Below.setCell ?_ (by first | omega | (simp; done) | (simp; omega)) _) | (refine Below.alloc ?_ (by first | omega | (simp; done) | (simp; omega)) _) | (refine below_drewN ?_ _) | (refine Below.drew ?_) | (refine Below.trans ?_ (Below.mono hb (by first | omega | (simp; done) | (simp; omega)))) | (refine Below.trans ?_ (Below.mono hb1 (by first | omega | (simp; done) | (simp; omega)))) | (refine Below.trans ?_ (Below.mono hb2 (by first | omega | (simp; done) | (simp; omega)))) | (refine Below.trans ?_ (Below.mono hb3 (by first | omega | (simp; done) | (simp; omega)))) | (refine Below.trans ?_ (Below.mono hb4 (by first | omega | (simp; done) | (simp; omega)))) | (refine Below.trans ?_ (Below.mono hb5 (by first | omega | (simp; done) | (simp; omega)))) | (refine Below.trans ?_ (Below.mono hb6 (by first | omega | (simp; done) | (simp; omega)))) | (refine Below.trans ?_ (Below.mono hb7 (by first | omega | (simp; done) | (simp; omega)))) | (refine Below.trans ?_ (Below.mono hb8 (by first | omega | (simp; done) | (simp; omega)))) | (refine Below.trans ?_ (Below.mono hb9 (by first | omega | (simp; done) | (simp; omega)))) | (refine Below.trans ?_ (Below.mono hb10 (by first | omega | (simp; done) | (simp; omega)))) | (refine Below.trans ?_ (Below.mono hb11 (by first | omega | (simp; done) | (simp; omega)))) | (refine Below.trans ?_ (Below.mono hb12 (by first | omega | (simp; done) | (simp; omega))))))⟩
theorem Move_P {P : Pl} (h : P.ok) (a b : Int) (w : World) :
    Calls Try.prog 161 #[.agg #[.int .i64 P.rows, .int .i64 P.cols], .int .i64 a, .int .i64 b] w fun e w' => e = .returned (.int .i64 ((a + b) % (P.cells.length : Int))) ∧ Below w.heap.size w w' :=
  Move_any _ _ _ _ _ _ h.r1 h.r2 h.c1 h.c2 h.n2 h.len
end Go.Proofs.Ytbkddgeocmkegaa

namespace Go.Proofs.Ytbkddgeocmkegaa
open Go.RowKit
set_option linter.unusedSimpArgs false
set_option linter.unusedVariables false
set_option maxHeartbeats 800000
attribute [local go_sem ↓] run_start run_byte run_cols

set_option maxRecDepth 100000 in
theorem look_any {w : World} {g b cap : Nat} {P : Pl} (h : PL w g b cap P) (a s : Int) (hs : s = 1 ∨ s = -1) :
    Calls Try.prog 134 #[.pointer (some ⟨g, 0, none⟩), .int .i64 a, .int .i64 s] w fun e w' => e = .returned (.int .i64 (P.look a s)) ∧ Below w.heap.size w w' := by
  have hn := Pl.N_pos h.ok
  have hm := Pl.N_le h.ok
  by_cases ha : 0 ≤ a ∧ a < (P.cells.length : Int)
  · obtain ⟨h0, h1⟩ := ha
  
    go_enter Try.func134, Try.ntmps134
    go_wp2_with fail
    refine (Len_any h).mono ?_
    rintro e w1 ⟨rfl, hb1⟩
    have hz1 := hb1.size
    try simp only [World.size_alloc, World.size_drew, World.size_setCell] at hz1
    obtain ⟨hc1, hf1⟩ := bcell hb1
    go_wp2_with fail
    refine (Len_any (h.below (by with_reducible (repeat (first | exact Below.refl _ _ | assumption | (refine Below.setCell ?_ (by first | omega | (simp; done) | (simp; omega)) _) | (refine Below.alloc ?_ (by first | omega | (simp; done) | (simp; omega)) _) | (refine below_drewN ?_ _) | (refine Below.drew ?_) | (refine Below.trans ?_ (Below.mono hb (by first | omega | (simp; done) | (simp; omega)))) | (refine Below.trans ?_ (Below.mono hb1 (by first | omega | (simp; done) | (simp; omega)))) | (refine Below.trans ?_ (Below.mono hb2 (by first | omega | (simp; done) | (simp; omega)))) | (refine Below.trans ?_ (Below.mono hb3 (by first | omega | (simp; done) | (simp; omega)))) | (refine Below.trans ?_ (Below.mono hb4 (by first | omega | (simp; done) | (simp; omega)))) | (refine Below.trans ?_ (Below.mono hb5 (by first | omega | (simp; done) | (simp; omega)))) | (refine Below.trans ?_ (Below.mono hb6 (by first | omega | (simp; done) | (simp; omega)))) | (refine Below.trans ?_ (Below.mono hb7 (by first | omega | (simp; done) | (simp; omega)))) | (refine Below.trans ?_ (Below.mono hb8 (by first | omega | (simp; done) | (simp; omega)))) | (refine Below.trans ?_ (Below.mono hb9 (by first | omega | (simp; done) | (simp; omega)))) | (refine Below.trans ?_ (Below.mono hb10 (by first | omega | (simp; done) | (simp; omega)))) | (refine Below.trans ?_ (Below.mono hb11 (by first | omega | (simp; done) | (simp; omega)))) | (refine Below.trans ?_ (Below.mono hb12 (by first | omega | (simp; done) | (simp; omega))))))))).mono ?_
    rintro e w2 ⟨rfl, hb2⟩
    replace hb2 := Below.trans hb1 (Below.mono hb2 hb1.size)
    clear hc1 hf1
    have hz2 := hb2.size
    try simp only [World.size_alloc, World.size_drew, World.size_setCell] at hz2
    obtain ⟨hc2, hf2⟩ := bcell hb2
    have hB2 : Below w.heap.size w w2 := by with_reducible (repeat (first | exact Below.refl _ _ | assumption | (refine Below.setCell ?_ (by first | omega | (simp; done) | (simp; omega)) _) | (refine Below.alloc ?_ (by first | omega | (simp; done) | (simp; omega)) _) | (refine below_drewN ?_ _) | (refine Below.drew ?_) | (refine Below.trans ?_ (Below.mono hb (by first | omega | (simp; done) | (simp; omega)))) | (refine Below.trans ?_ (Below.mono hb1 (by first | omega | (simp; done) | (simp; omega)))) | (refine Below.trans ?_ (Below.mono hb2 (by first | omega | (simp; done) | (simp; omega)))) | (refine Below.trans ?_ (Below.mono hb3 (by first | omega | (simp; done) | (simp; omega)))) | (refine Below.trans ?_ (Below.mono hb4 (by first | omega | (simp; done) | (simp; omega)))) | (refine Below.trans ?_ (Below.mono hb5 (by first | omega | (simp; done) | (simp; omega)))) | (refine Below.trans ?_ (Below.mono hb6 (by first | omega | (simp; done) | (simp; omega)))) | (refine Below.trans ?_ (Below.mono hb7 (by first | omega | (simp; done) | (simp; omega)))) | (refine Below.trans ?_ (Below.mono hb8 (by first | omega | (simp; done) | (simp; omega)))) | (refine Below.trans ?_ (Below.mono hb9 (by first | omega | (simp; done) | (simp; omega)))) | (refine Below.trans ?_ (Below.mono hb10 (by first | omega | (simp; done) | (simp; omega)))) | (refine Below.trans ?_ (Below.mono hb11 (by first | omega | (simp; done) | (simp; omega)))) | (refine Below.trans ?_ (Below.mono hb12 (by first | omega | (simp; done) | (simp; omega))))))
    clear hc2 hf2 hb1 hb2
    go_wp2
    go_loopw [19] (fun i wr => ∃ k : Nat, k ≤ P.cells.length ∧ i = .int .i64 (k : Int) ∧ Below w.heap.size w wr ∧ ∀ j, j < k → P.stp a s j = false) (fun i _ => P.cells.length - (intOf i).toNat)
    case atStart => exact ⟨0, Nat.zero_le _, rfl, hB2, fun j hj => absurd hj (Nat.not_lt_zero _)⟩
    case round =>
      obtain ⟨k, hk, rfl, hB, hf⟩ := hrel
      have HF := Lib.hid hf
      clear hf
      have hzB := hB.size
      by_cases hlt : k < P.cells.length
      · have hmul : wrap64 ((k : Int) * s) = (k : Int) * s := by rcases hs with rfl | rfl <;> exact wrap_in (by omega) (by omega)
        go_wp2_with fail
        refine (Size_any (h.below hB)).mono ?_
        rintro e w3 ⟨rfl, hb3⟩
        have hz3 := hb3.size
        try simp only [World.size_alloc, World.size_drew, World.size_setCell] at hz3
        obtain ⟨hc3, hf3⟩ := bcell hb3
        go_wp2_with fail
        refine (Move_P h.ok _ _ _).mono ?_
        rintro e w4 ⟨rfl, hb4⟩
        replace hb4 := Below.trans hb3 (Below.mono hb4 hb3.size)
        clear hc3 hf3
        have hz4 := hb4.size
        try simp only [World.size_alloc, World.size_drew, World.size_setCell] at hz4
        obtain ⟨hc4, hf4⟩ := bcell hb4
        go_wp2_with fail
        refine (At_any (h.below (by with_reducible (repeat (first | exact Below.refl _ _ | assumption | (refine Below.setCell ?_ (by first | omega | (simp; done) | (simp; omega)) _) | (refine Below.alloc ?_ (by first | omega | (simp; done) | (simp; omega)) _) | (refine below_drewN ?_ _) | (refine Below.drew ?_) | (refine Below.trans ?_ (Below.mono hb (by first | omega | (simp; done) | (simp; omega)))) | (refine Below.trans ?_ (Below.mono hb1 (by first | omega | (simp; done) | (simp; omega)))) | (refine Below.trans ?_ (Below.mono hb2 (by first | omega | (simp; done) | (simp; omega)))) | (refine Below.trans ?_ (Below.mono hb3 (by first | omega | (simp; done) | (simp; omega)))) | (refine Below.trans ?_ (Below.mono hb4 (by first | omega | (simp; done) | (simp; omega)))) | (refine Below.trans ?_ (Below.mono hb5 (by first | omega | (simp; done) | (simp; omega)))) | (refine Below.trans ?_ (Below.mono hb6 (by first | omega | (simp; done) | (simp; omega)))) | (refine Below.trans ?_ (Below.mono hb7 (by first | omega | (simp; done) | (simp; omega)))) | (refine Below.trans ?_ (Below.mono hb8 (by first | omega | (simp; done) | (simp; omega)))) | (refine Below.trans ?_ (Below.mono hb9 (by first | omega | (simp; done) | (simp; omega)))) | (refine Below.trans ?_ (Below.mono hb10 (by first | omega | (simp; done) | (simp; omega)))) | (refine Below.trans ?_ (Below.mono hb11 (by first | omega | (simp; done) | (simp; omega)))) | (refine Below.trans ?_ (Below.mono hb12 (by first | omega | (simp; done) | (simp; omega)))))))) _).mono ?_
        rintro e w5 ⟨rfl, hb5⟩
        replace hb5 := Below.trans hb4 (Below.mono hb5 hb4.size)
        clear hc4 hf4
        have hz5 := hb5.size
        try simp only [World.size_alloc, World.size_drew, World.size_setCell] at hz5
        obtain ⟨hc5, hf5⟩ := bcell hb5
        have hB5 : Below w.heap.size w w5 := by with_reducible (repeat (first | exact Below.refl _ _ | assumption | (refine Below.setCell ?_ (by first | omega | (simp; done) | (simp; omega)) _) | (refine Below.alloc ?_ (by first | omega | (simp; done) | (simp; omega)) _) | (refine below_drewN ?_ _) | (refine Below.drew ?_) | (refine Below.trans ?_ (Below.mono hb (by first | omega | (simp; done) | (simp; omega)))) | (refine Below.trans ?_ (Below.mono hb1 (by first | omega | (simp; done) | (simp; omega)))) | (refine Below.trans ?_ (Below.mono hb2 (by first | omega | (simp; done) | (simp; omega)))) | (refine Below.trans ?_ (Below.mono hb3 (by first | omega | (simp; done) | (simp; omega)))) | (refine Below.trans ?_ (Below.mono hb4 (by first | omega | (simp; done) | (simp; omega)))) | (refine Below.trans ?_ (Below.mono hb5 (by first | omega | (simp; done) | (simp; omega)))) | (refine Below.trans ?_ (Below.mono hb6 (by first | omega | (simp; done) | (simp; omega)))) | (refine Below.trans ?_ (Below.mono hb7 (by first | omega | (simp; done) | (simp; omega)))) | (refine Below.trans ?_ (Below.mono hb8 (by first | omega | (simp; done) | (simp; omega)))) | (refine Below.trans ?_ (Below.mono hb9 (by first | omega | (simp; done) | (simp; omega)))) | (refine Below.trans ?_ (Below.mono hb10 (by first | omega | (simp; done) | (simp; omega)))) | (refine Below.trans ?_ (Below.mono hb11 (by first | omega | (simp; done) | (simp; omega)))) | (refine Below.trans ?_ (Below.mono hb12 (by first | omega | (simp; done) | (simp; omega))))))
        clear hc5 hf5
        clear hmul
        cases hst : P.stp a s k
        · have hst' : (P.at ((a + (k : Int) * s) % (P.cells.length : Int))).start = false := hst
          have HS := Lib.hid hst
          clear hst
          go_wp2
          go_roundw
          case rel => exact ⟨k + 1, by omega, by go_num, hB5, fun j hj => by rcases Nat.lt_succ_iff_lt_or_eq.1 hj with hj | rfl; exact HF.out j hj; exact HS.out⟩
          case measure => simp [intOf]; omega
        · have hst' : (P.at ((a + (k : Int) * s) % (P.cells.length : Int))).start = true := hst
          have HS := Lib.hid hst
          clear hst
          go_wp2
          go_ret
          exact ⟨by rw [Pl.look_some h0 h1 hlt HS.out (fun j hj => HF.out j hj)]; rfl, hB5⟩
      · go_wp2
        go_ret
        exact ⟨by rw [Pl.look_none (fun j hj => HF.out j (by omega))]; rfl, hB⟩
  · by_cases h0 : 0 ≤ a
    · have h1 : (P.cells.length : Int) ≤ a := by omega
      go_enter Try.func134, Try.ntmps134
      go_wp2_with fail
      refine (Len_any h).mono ?_
      rintro e w1 ⟨rfl, hb1⟩
      have hz1 := hb1.size
      try simp only [World.size_alloc, World.size_drew, World.size_setCell] at hz1
      obtain ⟨hc1, hf1⟩ := bcell hb1
      go_wp2
      go_ret
      exact ⟨by rw [Pl.look_out ha]; rfl, hb1⟩
    · go_enter Try.func134, Try.ntmps134
      go_wp2
      go_ret
      exact ⟨by rw [Pl.look_out ha]; rfl, Below.refl _ _⟩

theorem Before_any {w : World} {g b cap : Nat} {P : Pl} (h : PL w g b cap P) (i : Int) :
    Calls Try.prog 111 #[.pointer (some ⟨g, 0, none⟩), .int .i64 i] w fun e w' => e = .returned (.int .i64 (P.before i)) ∧ Below w.heap.size w w' := by
  go_enter Try.func111, Try.ntmps111
  go_wp2_with fail
  refine (look_any h _ _ (.inr rfl)).mono ?_
  rintro e w1 ⟨rfl, hb1⟩
  have hz1 := hb1.size
  try simp only [World.size_alloc, World.size_drew, World.size_setCell] at hz1
  obtain ⟨hc1, hf1⟩ := bcell hb1
  go_wp2
  go_ret
  exact ⟨rfl, hb1⟩

theorem Formatted_any {w : World} {g b cap : Nat} {P : Pl} (h : PL w g b cap P) :
    Calls Try.prog 77 #[.pointer (some ⟨g, 0, none⟩)] w fun e w' => e = .returned (.bool P.fmt) ∧ Below w.heap.size w w' := by
  go_enter Try.func77, Try.ntmps77
  go_wp2_with fail
  refine (look_any h _ _ (.inl rfl)).mono ?_
  rintro e w1 ⟨rfl, hb1⟩
  have hz1 := hb1.size
  try simp only [World.size_alloc, World.size_drew, World.size_setCell] at hz1
  obtain ⟨hc1, hf1⟩ := bcell hb1
  go_wp2
  go_ret
  exact ⟨rfl, hb1⟩

theorem After_any {w : World} {g b cap : Nat} {P : Pl} (h : PL w g b cap P) (i : Int) :
    Calls Try.prog 164 #[.pointer (some ⟨g, 0, none⟩), .int .i64 i] w fun e w' => e = .returned (.int .i64 (P.after i)) ∧ Below w.heap.size w w' := by
  by_cases h0 : 0 ≤ i
  · by_cases h1 : i < (P.cells.length : Int)
    · go_enter Try.func164, Try.ntmps164
      go_wp2_with fail
      refine (Len_any h).mono ?_
      rintro e w1 ⟨rfl, hb1⟩
      have hz1 := hb1.size
      try simp only [World.size_alloc, World.size_drew, World.size_setCell] at hz1
      obtain ⟨hc1, hf1⟩ := bcell hb1
      go_wp2_with fail
      refine (Size_any (h.below (by with_reducible (repeat (first | exact Below.refl _ _ | assumption | (refine Below.setCell ?_ (by first | omega | (simp; done) | (simp; omega)) _) | (refine Below.alloc ?_ (by first | omega | (simp; done) | (simp; omega)) _) | (refine below_drewN ?_ _) | (refine Below.drew ?_) | (refine Below.trans ?_ (Below.mono hb (by first | omega | (simp; done) | (simp; omega)))) | (refine Below.trans ?_ (Below.mono hb1 (by first | omega | (simp; done) | (simp; omega)))) | (refine Below.trans ?_ (Below.mono hb2 (by first | omega | (simp; done) | (simp; omega)))) | (refine Below.trans ?_ (Below.mono hb3 (by first | omega | (simp; done) | (simp; omega)))) | (refine Below.trans ?_ (Below.mono hb4 (by first | omega | (simp; done) | (simp; omega)))) | (refine Below.trans ?_ (Below.mono hb5 (by first | omega | (simp; done) | (simp; omega)))) | (refine Below.trans ?_ (Below.mono hb6 (by first | omega | (simp; done) | (simp; omega)))) | (refine Below.trans ?_ (Below.mono hb7 (by first | omega | (simp; done) | (simp; omega)))) | (refine Below.trans ?_ (Below.mono hb8 (by first | omega | (simp; done) | (simp; omega)))) | (refine Below.trans ?_ (Below.mono hb9 (by first | omega | (simp; done) | (simp; omega)))) | (refine Below.trans ?_ (Below.mono hb10 (by first | omega | (simp; done) | (simp; omega)))) | (refine Below.trans ?_ (Below.mono hb11 (by first | omega | (simp; done) | (simp; omega)))) | (refine Below.trans ?_ (Below.mono hb12 (by first | omega | (simp; done) | (simp; omega))))))))).mono ?_
      rintro e w2 ⟨rfl, hb2⟩
      replace hb2 := Below.trans hb1 (Below.mono hb2 hb1.size)
      clear hc1 hf1
      have hz2 := hb2.size
      try simp only [World.size_alloc, World.size_drew, World.size_setCell] at hz2
      obtain ⟨hc2, hf2⟩ := bcell hb2
      go_wp2_with fail
      refine (Move_P h.ok _ _ _).mono ?_
      rintro e w3 ⟨rfl, hb3⟩
      replace hb3 := Below.trans hb2 (Below.mono hb3 hb2.size)
      clear hc2 hf2
      have hz3 := hb3.size
      try simp only [World.size_alloc, World.size_drew, World.size_setCell] at hz3
      obtain ⟨hc3, hf3⟩ := bcell hb3
      go_wp2_with fail
      refine (look_any (h.below (by with_reducible (repeat (first | exact Below.refl _ _ | assumption | (refine Below.setCell ?_ (by first | omega | (simp; done) | (simp; omega)) _) | (refine Below.alloc ?_ (by first | omega | (simp; done) | (simp; omega)) _) | (refine below_drewN ?_ _) | (refine Below.drew ?_) | (refine Below.trans ?_ (Below.mono hb (by first | omega | (simp; done) | (simp; omega)))) | (refine Below.trans ?_ (Below.mono hb1 (by first | omega | (simp; done) | (simp; omega)))) | (refine Below.trans ?_ (Below.mono hb2 (by first | omega | (simp; done) | (simp; omega)))) | (refine Below.trans ?_ (Below.mono hb3 (by first | omega | (simp; done) | (simp; omega)))) | (refine Below.trans ?_ (Below.mono hb4 (by first | omega | (simp; done) | (simp; omega)))) | (refine Below.trans ?_ (Below.mono hb5 (by first | omega | (simp; done) | (simp; omega)))) | (refine Below.trans ?_ (Below.mono hb6 (by first | omega | (simp; done) | (simp; omega)))) | (refine Below.trans ?_ (Below.mono hb7 (by first | omega | (simp; done) | (simp; omega)))) | (refine Below.trans ?_ (Below.mono hb8 (by first | omega | (simp; done) | (simp; omega)))) | (refine Below.trans ?_ (Below.mono hb9 (by first | omega | (simp; done) | (simp; omega)))) | (refine Below.trans ?_ (Below.mono hb10 (by first | omega | (simp; done) | (simp; omega)))) | (refine Below.trans ?_ (Below.mono hb11 (by first | omega | (simp; done) | (simp; omega)))) | (refine Below.trans ?_ (Below.mono hb12 (by first | omega | (simp; done) | (simp; omega)))))))) _ _ (.inl rfl)).mono ?_
      rintro e w4 ⟨rfl, hb4⟩
      replace hb4 := Below.trans hb3 (Below.mono hb4 hb3.size)
      clear hc3 hf3
      have hz4 := hb4.size
      try simp only [World.size_alloc, World.size_drew, World.size_setCell] at hz4
      obtain ⟨hc4, hf4⟩ := bcell hb4
      go_wp2
      go_ret
      exact ⟨by rw [Pl.after, if_pos ⟨h0, h1⟩]; rfl, by with_reducible (repeat (first | exact Below.refl _ _ | assumption | (refine Below.setCell ?_ (by first | omega | (simp; done) | (simp; omega)) _) | (refine Below.alloc ?_ (by first | omega | (simp; done) | (simp; omega)) _) | (refine below_drewN ?_ _) | (refine Below.drew ?_) | (refine Below.trans ?_ (Below.mono hb (by first | omega | (simp; done) | (simp; omega)))) | (refine Below.trans ?_ (Below.mono hb1 (by first | omega | (simp; done) | (simp; omega)))) | (refine Below.trans ?_ (Below.mono hb2 (by first | omega | (simp; done) | (simp; omega)))) | (refine Below.trans ?_ (Below.mono hb3 (by first | omega | (simp; done) | (simp; omega)))) | (refine Below.trans ?_ (Below.mono hb4 (by first | omega | (simp; done) | (simp; omega)))) | (refine Below.trans ?_ (Below.mono hb5 (by first | omega | (simp; done) | (simp; omega)))) | (refine Below.trans ?_ (Below.mono hb6 (by first | omega | (simp; done) | (simp; omega)))) | (refine Below.trans ?_ (Below.mono hb7 (by first | omega | (simp; done) | (simp; omega)))) | (refine Below.trans ?_ (Below.mono hb8 (by first | omega | (simp; done) | (simp; omega)))) | (refine Below.trans ?_ (Below.mono hb9 (by first | omega | (simp; done) | (simp; omega)))) | (refine Below.trans ?_ (Below.mono hb10 (by first | omega | (simp; done) | (simp; omega)))) | (refine Below.trans ?_ (Below.mono hb11 (by first | omega | (simp; done) | (simp; omega)))) | (refine Below.trans ?_ (Below.mono hb12 (by first | omega | (simp; done) | (simp; omega))))))⟩
    · go_enter Try.func164, Try.ntmps164
      go_wp2_with fail
      refine (Len_any h).mono ?_
      rintro e w1 ⟨rfl, hb1⟩
      have hz1 := hb1.size
      try simp only [World.size_alloc, World.size_drew, World.size_setCell] at hz1
      obtain ⟨hc1, hf1⟩ := bcell hb1
      go_wp2
      go_ret
      exact ⟨by rw [Pl.after, if_neg (by omega)]; rfl, by with_reducible (repeat (first | exact Below.refl _ _ | assumption | (refine Below.setCell ?_ (by first | omega | (simp; done) | (simp; omega)) _) | (refine Below.alloc ?_ (by first | omega | (simp; done) | (simp; omega)) _) | (refine below_drewN ?_ _) | (refine Below.drew ?_) | (refine Below.trans ?_ (Below.mono hb (by first | omega | (simp; done) | (simp; omega)))) | (refine Below.trans ?_ (Below.mono hb1 (by first | omega | (simp; done) | (simp; omega)))) | (refine Below.trans ?_ (Below.mono hb2 (by first | omega | (simp; done) | (simp; omega)))) | (refine Below.trans ?_ (Below.mono hb3 (by first | omega | (simp; done) | (simp; omega)))) | (refine Below.trans ?_ (Below.mono hb4 (by first | omega | (simp; done) | (simp; omega)))) | (refine Below.trans ?_ (Below.mono hb5 (by first | omega | (simp; done) | (simp; omega)))) | (refine Below.trans ?_ (Below.mono hb6 (by first | omega | (simp; done) | (simp; omega)))) | (refine Below.trans ?_ (Below.mono hb7 (by first | omega | (simp; done) | (simp; omega)))) | (refine Below.trans ?_ (Below.mono hb8 (by first | omega | (simp; done) | (simp; omega)))) | (refine Below.trans ?_ (Below.mono hb9 (by first | omega | (simp; done) | (simp; omega)))) | (refine Below.trans ?_ (Below.mono hb10 (by first | omega | (simp; done) | (simp; omega)))) | (refine Below.trans ?_ (Below.mono hb11 (by first | omega | (simp; done) | (simp; omega)))) | (refine Below.trans ?_ (Below.mono hb12 (by first | omega | (simp; done) | (simp; omega))))))⟩
  · go_enter Try.func164, Try.ntmps164
    go_wp2
    go_ret
    exact ⟨by rw [Pl.after, if_neg (by omega)]; rfl, by with_reducible (repeat (first | exact Below.refl _ _ | assumption | (refine Below.setCell ?_ (by first | omega | (simp; done) | (simp; omega)) _) | (refine Below.alloc ?_ (by first | omega | (simp; done) | (simp; omega)) _) | (refine below_drewN ?_ _) | (refine Below.drew ?_) | (refine Below.trans ?_ (Below.mono hb (by first | omega | (simp; done) | (simp; omega)))) | (refine Below.trans ?_ (Below.mono hb1 (by first | omega | (simp; done) | (simp; omega)))) | (refine Below.trans ?_ (Below.mono hb2 (by first | omega | (simp; done) | (simp; omega)))) | (refine Below.trans ?_ (Below.mono hb3 (by first | omega | (simp; done) | (simp; omega)))) | (refine Below.trans ?_ (Below.mono hb4 (by first | omega | (simp; done) | (simp; omega)))) | (refine Below.trans ?_ (Below.mono hb5 (by first | omega | (simp; done) | (simp; omega)))) | (refine Below.trans ?_ (Below.mono hb6 (by first | omega | (simp; done) | (simp; omega)))) | (refine Below.trans ?_ (Below.mono hb7 (by first | omega | (simp; done) | (simp; omega)))) | (refine Below.trans ?_ (Below.mono hb8 (by first | omega | (simp; done) | (simp; omega)))) | (refine Below.trans ?_ (Below.mono hb9 (by first | omega | (simp; done) | (simp; omega)))) | (refine Below.trans ?_ (Below.mono hb10 (by first | omega | (simp; done) | (simp; omega)))) | (refine Below.trans ?_ (Below.mono hb11 (by first | omega | (simp; done) | (simp; omega)))) | (refine Below.trans ?_ (Below.mono hb12 (by first | omega | (simp; done) | (simp; omega))))))⟩

theorem at_any {w : World} {g b cap : Nat} {P : Pl} (h : PL w g b cap P) (s : Int) (h0 : 0 ≤ s) (h1 : s < (P.cells.length : Int)) :
    Calls Try.prog 112 #[.pointer (some ⟨g, 0, none⟩), .int .i64 s] w fun e w' => e = .returned (.agg #[.int .i64 (P.fld s).start, .int .i64 (P.fld s).len, .int .u8 (P.fld s).attr]) ∧ Below w.heap.size w w' := by
  have hr := Pl.after_range h.ok s
  have hm := Pl.N_le h.ok
  obtain ⟨r1, r2⟩ := hr
  have hbyte := (Pl.at_ok h.ok s).1
  by_cases hn : P.after s - s - 1 < 0
  · go_enter Try.func112, Try.ntmps112
    go_wp2_with fail
    refine (After_any (h.below (by with_reducible (repeat (first | exact Below.refl _ _ | assumption | (refine Below.setCell ?_ (by first | omega | (simp; done) | (simp; omega)) _) | (refine Below.alloc ?_ (by first | omega | (simp; done) | (simp; omega)) _) | (refine below_drewN ?_ _) | (refine Below.drew ?_) | (refine Below.trans ?_ (Below.mono hb (by first | omega | (simp; done) | (simp; omega)))) | (refine Below.trans ?_ (Below.mono hb1 (by first | omega | (simp; done) | (simp; omega)))) | (refine Below.trans ?_ (Below.mono hb2 (by first | omega | (simp; done) | (simp; omega)))) | (refine Below.trans ?_ (Below.mono hb3 (by first | omega | (simp; done) | (simp; omega)))) | (refine Below.trans ?_ (Below.mono hb4 (by first | omega | (simp; done) | (simp; omega)))) | (refine Below.trans ?_ (Below.mono hb5 (by first | omega | (simp; done) | (simp; omega)))) | (refine Below.trans ?_ (Below.mono hb6 (by first | omega | (simp; done) | (simp; omega)))) | (refine Below.trans ?_ (Below.mono hb7 (by first | omega | (simp; done) | (simp; omega)))) | (refine Below.trans ?_ (Below.mono hb8 (by first | omega | (simp; done) | (simp; omega)))) | (refine Below.trans ?_ (Below.mono hb9 (by first | omega | (simp; done) | (simp; omega)))) | (refine Below.trans ?_ (Below.mono hb10 (by first | omega | (simp; done) | (simp; omega)))) | (refine Below.trans ?_ (Below.mono hb11 (by first | omega | (simp; done) | (simp; omega)))) | (refine Below.trans ?_ (Below.mono hb12 (by first | omega | (simp; done) | (simp; omega)))))))) _).mono ?_
    rintro e w1 ⟨rfl, hb1⟩
    have hz1 := hb1.size
    try simp only [World.size_alloc, World.size_drew, World.size_setCell] at hz1
    obtain ⟨hc1, hf1⟩ := bcell hb1
    go_wp2_with fail
    refine (Len_any (h.below (by with_reducible (repeat (first | exact Below.refl _ _ | assumption | (refine Below.setCell ?_ (by first | omega | (simp; done) | (simp; omega)) _) | (refine Below.alloc ?_ (by first | omega | (simp; done) | (simp; omega)) _) | (refine below_drewN ?_ _) | (refine Below.drew ?_) | (refine Below.trans ?_ (Below.mono hb (by first | omega | (simp; done) | (simp; omega)))) | (refine Below.trans ?_ (Below.mono hb1 (by first | omega | (simp; done) | (simp; omega)))) | (refine Below.trans ?_ (Below.mono hb2 (by first | omega | (simp; done) | (simp; omega)))) | (refine Below.trans ?_ (Below.mono hb3 (by first | omega | (simp; done) | (simp; omega)))) | (refine Below.trans ?_ (Below.mono hb4 (by first | omega | (simp; done) | (simp; omega)))) | (refine Below.trans ?_ (Below.mono hb5 (by first | omega | (simp; done) | (simp; omega)))) | (refine Below.trans ?_ (Below.mono hb6 (by first | omega | (simp; done) | (simp; omega)))) | (refine Below.trans ?_ (Below.mono hb7 (by first | omega | (simp; done) | (simp; omega)))) | (refine Below.trans ?_ (Below.mono hb8 (by first | omega | (simp; done) | (simp; omega)))) | (refine Below.trans ?_ (Below.mono hb9 (by first | omega | (simp; done) | (simp; omega)))) | (refine Below.trans ?_ (Below.mono hb10 (by first | omega | (simp; done) | (simp; omega)))) | (refine Below.trans ?_ (Below.mono hb11 (by first | omega | (simp; done) | (simp; omega)))) | (refine Below.trans ?_ (Below.mono hb12 (by first | omega | (simp; done) | (simp; omega))))))))).mono ?_
    rintro e w2 ⟨rfl, hb2⟩
    replace hb2 := Below.trans hb1 (Below.mono hb2 hb1.size)
    clear hc1 hf1
    have hz2 := hb2.size
    try simp only [World.size_alloc, World.size_drew, World.size_setCell] at hz2
    obtain ⟨hc2, hf2⟩ := bcell hb2
    go_wp2_with fail
    refine (At_any (h.below (by with_reducible (repeat (first | exact Below.refl _ _ | assumption | (refine Below.setCell ?_ (by first | omega | (simp; done) | (simp; omega)) _) | (refine Below.alloc ?_ (by first | omega | (simp; done) | (simp; omega)) _) | (refine below_drewN ?_ _) | (refine Below.drew ?_) | (refine Below.trans ?_ (Below.mono hb (by first | omega | (simp; done) | (simp; omega)))) | (refine Below.trans ?_ (Below.mono hb1 (by first | omega | (simp; done) | (simp; omega)))) | (refine Below.trans ?_ (Below.mono hb2 (by first | omega | (simp; done) | (simp; omega)))) | (refine Below.trans ?_ (Below.mono hb3 (by first | omega | (simp; done) | (simp; omega)))) | (refine Below.trans ?_ (Below.mono hb4 (by first | omega | (simp; done) | (simp; omega)))) | (refine Below.trans ?_ (Below.mono hb5 (by first | omega | (simp; done) | (simp; omega)))) | (refine Below.trans ?_ (Below.mono hb6 (by first | omega | (simp; done) | (simp; omega)))) | (refine Below.trans ?_ (Below.mono hb7 (by first | omega | (simp; done) | (simp; omega)))) | (refine Below.trans ?_ (Below.mono hb8 (by first | omega | (simp; done) | (simp; omega)))) | (refine Below.trans ?_ (Below.mono hb9 (by first | omega | (simp; done) | (simp; omega)))) | (refine Below.trans ?_ (Below.mono hb10 (by first | omega | (simp; done) | (simp; omega)))) | (refine Below.trans ?_ (Below.mono hb11 (by first | omega | (simp; done) | (simp; omega)))) | (refine Below.trans ?_ (Below.mono hb12 (by first | omega | (simp; done) | (simp; omega)))))))) _).mono ?_
    rintro e w3 ⟨rfl, hb3⟩
    replace hb3 := Below.trans hb2 (Below.mono hb3 hb2.size)
    clear hc2 hf2
    have hz3 := hb3.size
    try simp only [World.size_alloc, World.size_drew, World.size_setCell] at hz3
    obtain ⟨hc3, hf3⟩ := bcell hb3
    go_wp2
    exact bodyPost_ret (v := .agg #[.int .i64 (P.fld s).start, .int .i64 (P.fld s).len, .int .u8 (P.fld s).attr]) (by simp [results, Try.results112, go_sem, hc3, Pl.fld, hn, low6]) rfl ⟨rfl, by with_reducible (repeat (first | exact Below.refl _ _ | assumption | (refine Below.setCell ?_ (by first | omega | (simp; done) | (simp; omega)) _) | (refine Below.alloc ?_ (by first | omega | (simp; done) | (simp; omega)) _) | (refine below_drewN ?_ _) | (refine Below.drew ?_) | (refine Below.trans ?_ (Below.mono hb (by first | omega | (simp; done) | (simp; omega)))) | (refine Below.trans ?_ (Below.mono hb1 (by first | omega | (simp; done) | (simp; omega)))) | (refine Below.trans ?_ (Below.mono hb2 (by first | omega | (simp; done) | (simp; omega)))) | (refine Below.trans ?_ (Below.mono hb3 (by first | omega | (simp; done) | (simp; omega)))) | (refine Below.trans ?_ (Below.mono hb4 (by first | omega | (simp; done) | (simp; omega)))) | (refine Below.trans ?_ (Below.mono hb5 (by first | omega | (simp; done) | (simp; omega)))) | (refine Below.trans ?_ (Below.mono hb6 (by first | omega | (simp; done) | (simp; omega)))) | (refine Below.trans ?_ (Below.mono hb7 (by first | omega | (simp; done) | (simp; omega)))) | (refine Below.trans ?_ (Below.mono hb8 (by first | omega | (simp; done) | (simp; omega)))) | (refine Below.trans ?_ (Below.mono hb9 (by first | omega | (simp; done) | (simp; omega)))) | (refine Below.trans ?_ (Below.mono hb10 (by first | omega | (simp; done) | (simp; omega)))) | (refine Below.trans ?_ (Below.mono hb11 (by first | omega | (simp; done) | (simp; omega)))) | (refine Below.trans ?_ (Below.mono hb12 (by first | omega | (simp; done) | (simp; omega))))))⟩
  · have E := Lib.hid (show P.fld s = ⟨s, P.after s - s - 1, low6 (P.at s).byte⟩ by unfold Pl.fld; rw [if_neg hn])
    go_enter Try.func112, Try.ntmps112
    go_wp2_with fail
    refine (After_any (h.below (by with_reducible (repeat (first | exact Below.refl _ _ | assumption | (refine Below.setCell ?_ (by first | omega | (simp; done) | (simp; omega)) _) | (refine Below.alloc ?_ (by first | omega | (simp; done) | (simp; omega)) _) | (refine below_drewN ?_ _) | (refine Below.drew ?_) | (refine Below.trans ?_ (Below.mono hb (by first | omega | (simp; done) | (simp; omega)))) | (refine Below.trans ?_ (Below.mono hb1 (by first | omega | (simp; done) | (simp; omega)))) | (refine Below.trans ?_ (Below.mono hb2 (by first | omega | (simp; done) | (simp; omega)))) | (refine Below.trans ?_ (Below.mono hb3 (by first | omega | (simp; done) | (simp; omega)))) | (refine Below.trans ?_ (Below.mono hb4 (by first | omega | (simp; done) | (simp; omega)))) | (refine Below.trans ?_ (Below.mono hb5 (by first | omega | (simp; done) | (simp; omega)))) | (refine Below.trans ?_ (Below.mono hb6 (by first | omega | (simp; done) | (simp; omega)))) | (refine Below.trans ?_ (Below.mono hb7 (by first | omega | (simp; done) | (simp; omega)))) | (refine Below.trans ?_ (Below.mono hb8 (by first | omega | (simp; done) | (simp; omega)))) | (refine Below.trans ?_ (Below.mono hb9 (by first | omega | (simp; done) | (simp; omega)))) | (refine Below.trans ?_ (Below.mono hb10 (by first | omega | (simp; done) | (simp; omega)))) | (refine Below.trans ?_ (Below.mono hb11 (by first | omega | (simp; done) | (simp; omega)))) | (refine Below.trans ?_ (Below.mono hb12 (by first | omega | (simp; done) | (simp; omega)))))))) _).mono ?_
    rintro e w1 ⟨rfl, hb1⟩
    have hz1 := hb1.size
    try simp only [World.size_alloc, World.size_drew, World.size_setCell] at hz1
    obtain ⟨hc1, hf1⟩ := bcell hb1
    go_wp2_with fail
    refine (At_any (h.below (by with_reducible (repeat (first | exact Below.refl _ _ | assumption | (refine Below.setCell ?_ (by first | omega | (simp; done) | (simp; omega)) _) | (refine Below.alloc ?_ (by first | omega | (simp; done) | (simp; omega)) _) | (refine below_drewN ?_ _) | (refine Below.drew ?_) | (refine Below.trans ?_ (Below.mono hb (by first | omega | (simp; done) | (simp; omega)))) | (refine Below.trans ?_ (Below.mono hb1 (by first | omega | (simp; done) | (simp; omega)))) | (refine Below.trans ?_ (Below.mono hb2 (by first | omega | (simp; done) | (simp; omega)))) | (refine Below.trans ?_ (Below.mono hb3 (by first | omega | (simp; done) | (simp; omega)))) | (refine Below.trans ?_ (Below.mono hb4 (by first | omega | (simp; done) | (simp; omega)))) | (refine Below.trans ?_ (Below.mono hb5 (by first | omega | (simp; done) | (simp; omega)))) | (refine Below.trans ?_ (Below.mono hb6 (by first | omega | (simp; done) | (simp; omega)))) | (refine Below.trans ?_ (Below.mono hb7 (by first | omega | (simp; done) | (simp; omega)))) | (refine Below.trans ?_ (Below.mono hb8 (by first | omega | (simp; done) | (simp; omega)))) | (refine Below.trans ?_ (Below.mono hb9 (by first | omega | (simp; done) | (simp; omega)))) | (refine Below.trans ?_ (Below.mono hb10 (by first | omega | (simp; done) | (simp; omega)))) | (refine Below.trans ?_ (Below.mono hb11 (by first | omega | (simp; done) | (simp; omega)))) | (refine Below.trans ?_ (Below.mono hb12 (by first | omega | (simp; done) | (simp; omega)))))))) _).mono ?_
    rintro e w3 ⟨rfl, hb3⟩
    replace hb3 := Below.trans hb1 (Below.mono hb3 hb1.size)
    clear hc1 hf1
    have hz3 := hb3.size
    try simp only [World.size_alloc, World.size_drew, World.size_setCell] at hz3
    obtain ⟨hc3, hf3⟩ := bcell hb3
    go_wp2
    exact bodyPost_ret (v := .agg #[.int .i64 ((⟨s, P.after s - s - 1, low6 (P.at s).byte⟩ : Fld)).start, .int .i64 ((⟨s, P.after s - s - 1, low6 (P.at s).byte⟩ : Fld)).len, .int .u8 ((⟨s, P.after s - s - 1, low6 (P.at s).byte⟩ : Fld)).attr]) (by simp [results, Try.results112, go_sem, hc3, low6]) rfl ⟨by rw [E.out], by with_reducible (repeat (first | exact Below.refl _ _ | assumption | (refine Below.setCell ?_ (by first | omega | (simp; done) | (simp; omega)) _) | (refine Below.alloc ?_ (by first | omega | (simp; done) | (simp; omega)) _) | (refine below_drewN ?_ _) | (refine Below.drew ?_) | (refine Below.trans ?_ (Below.mono hb (by first | omega | (simp; done) | (simp; omega)))) | (refine Below.trans ?_ (Below.mono hb1 (by first | omega | (simp; done) | (simp; omega)))) | (refine Below.trans ?_ (Below.mono hb2 (by first | omega | (simp; done) | (simp; omega)))) | (refine Below.trans ?_ (Below.mono hb3 (by first | omega | (simp; done) | (simp; omega)))) | (refine Below.trans ?_ (Below.mono hb4 (by first | omega | (simp; done) | (simp; omega)))) | (refine Below.trans ?_ (Below.mono hb5 (by first | omega | (simp; done) | (simp; omega)))) | (refine Below.trans ?_ (Below.mono hb6 (by first | omega | (simp; done) | (simp; omega)))) | (refine Below.trans ?_ (Below.mono hb7 (by first | omega | (simp; done) | (simp; omega)))) | (refine Below.trans ?_ (Below.mono hb8 (by first | omega | (simp; done) | (simp; omega)))) | (refine Below.trans ?_ (Below.mono hb9 (by first | omega | (simp; done) | (simp; omega)))) | (refine Below.trans ?_ (Below.mono hb10 (by first | omega | (simp; done) | (simp; omega)))) | (refine Below.trans ?_ (Below.mono hb11 (by first | omega | (simp; done) | (simp; omega)))) | (refine Below.trans ?_ (Below.mono hb12 (by first | omega | (simp; done) | (simp; omega))))))⟩

theorem Of_any {w : World} {g b cap : Nat} {P : Pl} (h : PL w g b cap P) (i : Int) :
    Calls Try.prog 52 #[.pointer (some ⟨g, 0, none⟩), .int .i64 i] w fun e w' => e = .returned (.tuple #[.agg #[.int .i64 (P.ofF i).start, .int .i64 (P.ofF i).len, .int .u8 (P.ofF i).attr], .bool (P.ofB i)]) ∧ Below w.heap.size w w' := by
  have hr := Pl.look_range h.ok i (-1)
  obtain ⟨r1, r2⟩ := hr
  by_cases hn : 0 ≤ P.before i
  · have hn' : 0 ≤ P.look i (-1) := hn
    go_enter Try.func52, Try.ntmps52
    go_wp2_with fail
    refine (Before_any (h.below (by with_reducible (repeat (first | exact Below.refl _ _ | assumption | (refine Below.setCell ?_ (by first | omega | (simp; done) | (simp; omega)) _) | (refine Below.alloc ?_ (by first | omega | (simp; done) | (simp; omega)) _) | (refine below_drewN ?_ _) | (refine Below.drew ?_) | (refine Below.trans ?_ (Below.mono hb (by first | omega | (simp; done) | (simp; omega)))) | (refine Below.trans ?_ (Below.mono hb1 (by first | omega | (simp; done) | (simp; omega)))) | (refine Below.trans ?_ (Below.mono hb2 (by first | omega | (simp; done) | (simp; omega)))) | (refine Below.trans ?_ (Below.mono hb3 (by first | omega | (simp; done) | (simp; omega)))) | (refine Below.trans ?_ (Below.mono hb4 (by first | omega | (simp; done) | (simp; omega)))) | (refine Below.trans ?_ (Below.mono hb5 (by first | omega | (simp; done) | (simp; omega)))) | (refine Below.trans ?_ (Below.mono hb6 (by first | omega | (simp; done) | (simp; omega)))) | (refine Below.trans ?_ (Below.mono hb7 (by first | omega | (simp; done) | (simp; omega)))) | (refine Below.trans ?_ (Below.mono hb8 (by first | omega | (simp; done) | (simp; omega)))) | (refine Below.trans ?_ (Below.mono hb9 (by first | omega | (simp; done) | (simp; omega)))) | (refine Below.trans ?_ (Below.mono hb10 (by first | omega | (simp; done) | (simp; omega)))) | (refine Below.trans ?_ (Below.mono hb11 (by first | omega | (simp; done) | (simp; omega)))) | (refine Below.trans ?_ (Below.mono hb12 (by first | omega | (simp; done) | (simp; omega)))))))) _).mono ?_
    rintro e w1 ⟨rfl, hb1⟩
    have hz1 := hb1.size
    try simp only [World.size_alloc, World.size_drew, World.size_setCell] at hz1
    obtain ⟨hc1, hf1⟩ := bcell hb1
    go_wp2_with fail
    refine (at_any (h.below (by with_reducible (repeat (first | exact Below.refl _ _ | assumption | (refine Below.setCell ?_ (by first | omega | (simp; done) | (simp; omega)) _) | (refine Below.alloc ?_ (by first | omega | (simp; done) | (simp; omega)) _) | (refine below_drewN ?_ _) | (refine Below.drew ?_) | (refine Below.trans ?_ (Below.mono hb (by first | omega | (simp; done) | (simp; omega)))) | (refine Below.trans ?_ (Below.mono hb1 (by first | omega | (simp; done) | (simp; omega)))) | (refine Below.trans ?_ (Below.mono hb2 (by first | omega | (simp; done) | (simp; omega)))) | (refine Below.trans ?_ (Below.mono hb3 (by first | omega | (simp; done) | (simp; omega)))) | (refine Below.trans ?_ (Below.mono hb4 (by first | omega | (simp; done) | (simp; omega)))) | (refine Below.trans ?_ (Below.mono hb5 (by first | omega | (simp; done) | (simp; omega)))) | (refine Below.trans ?_ (Below.mono hb6 (by first | omega | (simp; done) | (simp; omega)))) | (refine Below.trans ?_ (Below.mono hb7 (by first | omega | (simp; done) | (simp; omega)))) | (refine Below.trans ?_ (Below.mono hb8 (by first | omega | (simp; done) | (simp; omega)))) | (refine Below.trans ?_ (Below.mono hb9 (by first | omega | (simp; done) | (simp; omega)))) | (refine Below.trans ?_ (Below.mono hb10 (by first | omega | (simp; done) | (simp; omega)))) | (refine Below.trans ?_ (Below.mono hb11 (by first | omega | (simp; done) | (simp; omega)))) | (refine Below.trans ?_ (Below.mono hb12 (by first | omega | (simp; done) | (simp; omega)))))))) _ hn r2).mono ?_
    rintro e w2 ⟨rfl, hb2⟩
    replace hb2 := Below.trans hb1 (Below.mono hb2 hb1.size)
    clear hc1 hf1
    have hz2 := hb2.size
    try simp only [World.size_alloc, World.size_drew, World.size_setCell] at hz2
    obtain ⟨hc2, hf2⟩ := bcell hb2
    go_wp2
    exact bodyPost_ret (v := .tuple #[.agg #[.int .i64 (P.ofF i).start, .int .i64 (P.ofF i).len, .int .u8 (P.ofF i).attr], .bool (P.ofB i)]) (by simp [results, Try.results52, go_sem, hc2, Pl.ofF, Pl.ofB, hn]) rfl ⟨rfl, by with_reducible (repeat (first | exact Below.refl _ _ | assumption | (refine Below.setCell ?_ (by first | omega | (simp; done) | (simp; omega)) _) | (refine Below.alloc ?_ (by first | omega | (simp; done) | (simp; omega)) _) | (refine below_drewN ?_ _) | (refine Below.drew ?_) | (refine Below.trans ?_ (Below.mono hb (by first | omega | (simp; done) | (simp; omega)))) | (refine Below.trans ?_ (Below.mono hb1 (by first | omega | (simp; done) | (simp; omega)))) | (refine Below.trans ?_ (Below.mono hb2 (by first | omega | (simp; done) | (simp; omega)))) | (refine Below.trans ?_ (Below.mono hb3 (by first | omega | (simp; done) | (simp; omega)))) | (refine Below.trans ?_ (Below.mono hb4 (by first | omega | (simp; done) | (simp; omega)))) | (refine Below.trans ?_ (Below.mono hb5 (by first | omega | (simp; done) | (simp; omega)))) | (refine Below.trans ?_ (Below.mono hb6 (by first | omega | (simp; done) | (simp; omega)))) | (refine Below.trans ?_ (Below.mono hb7 (by first | omega | (simp; done) | (simp; omega)))) | (refine Below.trans ?_ (Below.mono hb8 (by first | omega | (simp; done) | (simp; omega)))) | (refine Below.trans ?_ (Below.mono hb9 (by first | omega | (simp; done) | (simp; omega)))) | (refine Below.trans ?_ (Below.mono hb10 (by first | omega | (simp; done) | (simp; omega)))) | (refine Below.trans ?_ (Below.mono hb11 (by first | omega | (simp; done) | (simp; omega)))) | (refine Below.trans ?_ (Below.mono hb12 (by first | omega | (simp; done) | (simp; omega))))))⟩
  · have E := Lib.hid (show P.ofF i = ⟨0, 0, 0⟩ by unfold Pl.ofF; rw [if_neg hn])
    have E2 := Lib.hid (show P.ofB i = false by unfold Pl.ofB; exact decide_eq_false hn)
    go_enter Try.func52, Try.ntmps52
    go_wp2_with fail
    refine (Before_any (h.below (by with_reducible (repeat (first | exact Below.refl _ _ | assumption | (refine Below.setCell ?_ (by first | omega | (simp; done) | (simp; omega)) _) | (refine Below.alloc ?_ (by first | omega | (simp; done) | (simp; omega)) _) | (refine below_drewN ?_ _) | (refine Below.drew ?_) | (refine Below.trans ?_ (Below.mono hb (by first | omega | (simp; done) | (simp; omega)))) | (refine Below.trans ?_ (Below.mono hb1 (by first | omega | (simp; done) | (simp; omega)))) | (refine Below.trans ?_ (Below.mono hb2 (by first | omega | (simp; done) | (simp; omega)))) | (refine Below.trans ?_ (Below.mono hb3 (by first | omega | (simp; done) | (simp; omega)))) | (refine Below.trans ?_ (Below.mono hb4 (by first | omega | (simp; done) | (simp; omega)))) | (refine Below.trans ?_ (Below.mono hb5 (by first | omega | (simp; done) | (simp; omega)))) | (refine Below.trans ?_ (Below.mono hb6 (by first | omega | (simp; done) | (simp; omega)))) | (refine Below.trans ?_ (Below.mono hb7 (by first | omega | (simp; done) | (simp; omega)))) | (refine Below.trans ?_ (Below.mono hb8 (by first | omega | (simp; done) | (simp; omega)))) | (refine Below.trans ?_ (Below.mono hb9 (by first | omega | (simp; done) | (simp; omega)))) | (refine Below.trans ?_ (Below.mono hb10 (by first | omega | (simp; done) | (simp; omega)))) | (refine Below.trans ?_ (Below.mono hb11 (by first | omega | (simp; done) | (simp; omega)))) | (refine Below.trans ?_ (Below.mono hb12 (by first | omega | (simp; done) | (simp; omega)))))))) _).mono ?_
    rintro e w1 ⟨rfl, hb1⟩
    have hz1 := hb1.size
    try simp only [World.size_alloc, World.size_drew, World.size_setCell] at hz1
    obtain ⟨hc1, hf1⟩ := bcell hb1
    go_wp2
    exact bodyPost_ret (v := .tuple #[.agg #[.int .i64 0, .int .i64 0, .int .u8 0], .bool false]) (by simp [results, Try.results52, go_sem, hc1]) rfl ⟨by rw [E.out, E2.out], by with_reducible (repeat (first | exact Below.refl _ _ | assumption | (refine Below.setCell ?_ (by first | omega | (simp; done) | (simp; omega)) _) | (refine Below.alloc ?_ (by first | omega | (simp; done) | (simp; omega)) _) | (refine below_drewN ?_ _) | (refine Below.drew ?_) | (refine Below.trans ?_ (Below.mono hb (by first | omega | (simp; done) | (simp; omega)))) | (refine Below.trans ?_ (Below.mono hb1 (by first | omega | (simp; done) | (simp; omega)))) | (refine Below.trans ?_ (Below.mono hb2 (by first | omega | (simp; done) | (simp; omega)))) | (refine Below.trans ?_ (Below.mono hb3 (by first | omega | (simp; done) | (simp; omega)))) | (refine Below.trans ?_ (Below.mono hb4 (by first | omega | (simp; done) | (simp; omega)))) | (refine Below.trans ?_ (Below.mono hb5 (by first | omega | (simp; done) | (simp; omega)))) | (refine Below.trans ?_ (Below.mono hb6 (by first | omega | (simp; done) | (simp; omega)))) | (refine Below.trans ?_ (Below.mono hb7 (by first | omega | (simp; done) | (simp; omega)))) | (refine Below.trans ?_ (Below.mono hb8 (by first | omega | (simp; done) | (simp; omega)))) | (refine Below.trans ?_ (Below.mono hb9 (by first | omega | (simp; done) | (simp; omega)))) | (refine Below.trans ?_ (Below.mono hb10 (by first | omega | (simp; done) | (simp; omega)))) | (refine Below.trans ?_ (Below.mono hb11 (by first | omega | (simp; done) | (simp; omega)))) | (refine Below.trans ?_ (Below.mono hb12 (by first | omega | (simp; done) | (simp; omega))))))⟩
end Go.Proofs.Ytbkddgeocmkegaa

namespace Go.Proofs.Ytbkddgeocmkegaa
open Go.RowKit
set_option linter.unusedSimpArgs false
set_option linter.unusedVariables false
set_option maxHeartbeats 800000
attribute [local go_sem ↓] run_start run_byte run_cols

theorem Open_any {w : World} {g b cap : Nat} {P : Pl} (h : PL w g b cap P) (i : Int) :
    Calls Try.prog 58 #[.pointer (some ⟨g, 0, none⟩), .int .i64 i] w fun e w' => e = .returned (.bool (P.openAt i)) ∧ Below w.heap.size w w' := by
  have ha := P.ofF_attr i
  cases hB : P.ofB i
  · have E := Lib.hid (show P.openAt i = decide (0 ≤ i ∧ i < (P.cells.length : Int)) by unfold Pl.openAt; rw [hB]; rfl)
    by_cases h0 : 0 ≤ i
    · go_enter Try.func58, Try.ntmps58
      go_wp2_with fail
      refine (Of_any h _).mono ?_
      rintro e w1 ⟨rfl, hb1⟩
      have hz1 := hb1.size
      try simp only [World.size_alloc, World.size_drew, World.size_setCell] at hz1
      obtain ⟨hc1, hf1⟩ := bcell hb1
      go_wp2_with fail
      refine (Len_any (h.below (by with_reducible (repeat (first | exact Below.refl _ _ | assumption | (refine Below.setCell ?_ (by first | omega | (simp; done) | (simp; omega)) _) | (refine Below.alloc ?_ (by first | omega | (simp; done) | (simp; omega)) _) | (refine below_drewN ?_ _) | (refine Below.drew ?_) | (refine Below.trans ?_ (Below.mono hb (by first | omega | (simp; done) | (simp; omega)))) | (refine Below.trans ?_ (Below.mono hb1 (by first | omega | (simp; done) | (simp; omega)))) | (refine Below.trans ?_ (Below.mono hb2 (by first | omega | (simp; done) | (simp; omega)))) | (refine Below.trans ?_ (Below.mono hb3 (by first | omega | (simp; done) | (simp; omega)))) | (refine Below.trans ?_ (Below.mono hb4 (by first | omega | (simp; done) | (simp; omega)))) | (refine Below.trans ?_ (Below.mono hb5 (by first | omega | (simp; done) | (simp; omega)))) | (refine Below.trans ?_ (Below.mono hb6 (by first | omega | (simp; done) | (simp; omega)))) | (refine Below.trans ?_ (Below.mono hb7 (by first | omega | (simp; done) | (simp; omega)))) | (refine Below.trans ?_ (Below.mono hb8 (by first | omega | (simp; done) | (simp; omega)))) | (refine Below.trans ?_ (Below.mono hb9 (by first | omega | (simp; done) | (simp; omega)))) | (refine Below.trans ?_ (Below.mono hb10 (by first | omega | (simp; done) | (simp; omega)))) | (refine Below.trans ?_ (Below.mono hb11 (by first | omega | (simp; done) | (simp; omega)))) | (refine Below.trans ?_ (Below.mono hb12 (by first | omega | (simp; done) | (simp; omega))))))))).mono ?_
      rintro e w2 ⟨rfl, hb2⟩
      have hz2 := hb2.size
      try simp only [World.size_alloc, World.size_drew, World.size_setCell] at hz2
      obtain ⟨hc2, hf2⟩ := bcell hb2
      go_wp2
      go_ret
      exact ⟨by rw [E.out]; simp [h0], by with_reducible (repeat (first | exact Below.refl _ _ | assumption | (refine Below.setCell ?_ (by first | omega | (simp; done) | (simp; omega)) _) | (refine Below.alloc ?_ (by first | omega | (simp; done) | (simp; omega)) _) | (refine below_drewN ?_ _) | (refine Below.drew ?_) | (refine Below.trans ?_ (Below.mono hb (by first | omega | (simp; done) | (simp; omega)))) | (refine Below.trans ?_ (Below.mono hb1 (by first | omega | (simp; done) | (simp; omega)))) | (refine Below.trans ?_ (Below.mono hb2 (by first | omega | (simp; done) | (simp; omega)))) | (refine Below.trans ?_ (Below.mono hb3 (by first | omega | (simp; done) | (simp; omega)))) | (refine Below.trans ?_ (Below.mono hb4 (by first | omega | (simp; done) | (simp; omega)))) | (refine Below.trans ?_ (Below.mono hb5 (by first | omega | (simp; done) | (simp; omega)))) | (refine Below.trans ?_ (Below.mono hb6 (by first | omega | (simp; done) | (simp; omega)))) | (refine Below.trans ?_ (Below.mono hb7 (by first | omega | (simp; done) | (simp; omega)))) | (refine Below.trans ?_ (Below.mono hb8 (by first | omega | (simp; done) | (simp; omega)))) | (refine Below.trans ?_ (Below.mono hb9 (by first | omega | (simp; done) | (simp; omega)))) | (refine Below.trans ?_ (Below.mono hb10 (by first | omega | (simp; done) | (simp; omega)))) | (refine Below.trans ?_ (Below.mono hb11 (by first | omega | (simp; done) | (simp; omega)))) | (refine Below.trans ?_ (Below.mono hb12 (by first | omega | (simp; done) | (simp; omega))))))⟩
    · go_enter Try.func58, Try.ntmps58
      go_wp2_with fail
      refine (Of_any h _).mono ?_
      rintro e w1 ⟨rfl, hb1⟩
      have hz1 := hb1.size
      try simp only [World.size_alloc, World.size_drew, World.size_setCell] at hz1
      obtain ⟨hc1, hf1⟩ := bcell hb1
      go_wp2
      go_ret
      exact ⟨by rw [E.out]; simp; omega, by with_reducible (repeat (first | exact Below.refl _ _ | assumption | (refine Below.setCell ?_ (by first | omega | (simp; done) | (simp; omega)) _) | (refine Below.alloc ?_ (by first | omega | (simp; done) | (simp; omega)) _) | (refine below_drewN ?_ _) | (refine Below.drew ?_) | (refine Below.trans ?_ (Below.mono hb (by first | omega | (simp; done) | (simp; omega)))) | (refine Below.trans ?_ (Below.mono hb1 (by first | omega | (simp; done) | (simp; omega)))) | (refine Below.trans ?_ (Below.mono hb2 (by first | omega | (simp; done) | (simp; omega)))) | (refine Below.trans ?_ (Below.mono hb3 (by first | omega | (simp; done) | (simp; omega)))) | (refine Below.trans ?_ (Below.mono hb4 (by first | omega | (simp; done) | (simp; omega)))) | (refine Below.trans ?_ (Below.mono hb5 (by first | omega | (simp; done) | (simp; omega)))) | (refine Below.trans ?_ (Below.mono hb6 (by first | omega | (simp; done) | (simp; omega)))) | (refine Below.trans ?_ (Below.mono hb7 (by first | omega | (simp; done) | (simp; omega)))) | (refine Below.trans ?_ (Below.mono hb8 (by first | omega | (simp; done) | (simp; omega)))) | (refine Below.trans ?_ (Below.mono hb9 (by first | omega | (simp; done) | (simp; omega)))) | (refine Below.trans ?_ (Below.mono hb10 (by first | omega | (simp; done) | (simp; omega)))) | (refine Below.trans ?_ (Below.mono hb11 (by first | omega | (simp; done) | (simp; omega)))) | (refine Below.trans ?_ (Below.mono hb12 (by first | omega | (simp; done) | (simp; omega))))))⟩
  · have E := Lib.hid (show P.openAt i = ((P.ofF i).start != i && !prot (P.ofF i).attr) by unfold Pl.openAt; rw [hB]; rfl)
    by_cases hs : (P.ofF i).start = i
    · have hs' : ((P.ofF i).start != i) = false := by rw [hs]; simp
      have HS := Lib.hid hs
      clear hs
      go_enter Try.func58, Try.ntmps58
      go_wp2_with fail
      refine (Of_any h _).mono ?_
      rintro e w1 ⟨rfl, hb1⟩
      have hz1 := hb1.size
      try simp only [World.size_alloc, World.size_drew, World.size_setCell] at hz1
      obtain ⟨hc1, hf1⟩ := bcell hb1
      go_wp2
      go_ret
      exact ⟨by rw [E.out, hs']; rfl, by with_reducible (repeat (first | exact Below.refl _ _ | assumption | (refine Below.setCell ?_ (by first | omega | (simp; done) | (simp; omega)) _) | (refine Below.alloc ?_ (by first | omega | (simp; done) | (simp; omega)) _) | (refine below_drewN ?_ _) | (refine Below.drew ?_) | (refine Below.trans ?_ (Below.mono hb (by first | omega | (simp; done) | (simp; omega)))) | (refine Below.trans ?_ (Below.mono hb1 (by first | omega | (simp; done) | (simp; omega)))) | (refine Below.trans ?_ (Below.mono hb2 (by first | omega | (simp; done) | (simp; omega)))) | (refine Below.trans ?_ (Below.mono hb3 (by first | omega | (simp; done) | (simp; omega)))) | (refine Below.trans ?_ (Below.mono hb4 (by first | omega | (simp; done) | (simp; omega)))) | (refine Below.trans ?_ (Below.mono hb5 (by first | omega | (simp; done) | (simp; omega)))) | (refine Below.trans ?_ (Below.mono hb6 (by first | omega | (simp; done) | (simp; omega)))) | (refine Below.trans ?_ (Below.mono hb7 (by first | omega | (simp; done) | (simp; omega)))) | (refine Below.trans ?_ (Below.mono hb8 (by first | omega | (simp; done) | (simp; omega)))) | (refine Below.trans ?_ (Below.mono hb9 (by first | omega | (simp; done) | (simp; omega)))) | (refine Below.trans ?_ (Below.mono hb10 (by first | omega | (simp; done) | (simp; omega)))) | (refine Below.trans ?_ (Below.mono hb11 (by first | omega | (simp; done) | (simp; omega)))) | (refine Below.trans ?_ (Below.mono hb12 (by first | omega | (simp; done) | (simp; omega))))))⟩
    · have hs' : ((P.ofF i).start != i) = true := by simpa using hs
      go_enter Try.func58, Try.ntmps58
      go_wp2_with fail
      refine (Of_any h _).mono ?_
      rintro e w1 ⟨rfl, hb1⟩
      have hz1 := hb1.size
      try simp only [World.size_alloc, World.size_drew, World.size_setCell] at hz1
      obtain ⟨hc1, hf1⟩ := bcell hb1
      go_wp2_with fail
      refine (Protected_any _ _ ha).mono ?_
      rintro e w2 ⟨rfl, hb2⟩
      have hz2 := hb2.size
      try simp only [World.size_alloc, World.size_drew, World.size_setCell] at hz2
      obtain ⟨hc2, hf2⟩ := bcell hb2
      go_wp2
      go_ret
      exact ⟨by rw [E.out, hs']; rfl, by with_reducible (repeat (first | exact Below.refl _ _ | assumption | (refine Below.setCell ?_ (by first | omega | (simp; done) | (simp; omega)) _) | (refine Below.alloc ?_ (by first | omega | (simp; done) | (simp; omega)) _) | (refine below_drewN ?_ _) | (refine Below.drew ?_) | (refine Below.trans ?_ (Below.mono hb (by first | omega | (simp; done) | (simp; omega)))) | (refine Below.trans ?_ (Below.mono hb1 (by first | omega | (simp; done) | (simp; omega)))) | (refine Below.trans ?_ (Below.mono hb2 (by first | omega | (simp; done) | (simp; omega)))) | (refine Below.trans ?_ (Below.mono hb3 (by first | omega | (simp; done) | (simp; omega)))) | (refine Below.trans ?_ (Below.mono hb4 (by first | omega | (simp; done) | (simp; omega)))) | (refine Below.trans ?_ (Below.mono hb5 (by first | omega | (simp; done) | (simp; omega)))) | (refine Below.trans ?_ (Below.mono hb6 (by first | omega | (simp; done) | (simp; omega)))) | (refine Below.trans ?_ (Below.mono hb7 (by first | omega | (simp; done) | (simp; omega)))) | (refine Below.trans ?_ (Below.mono hb8 (by first | omega | (simp; done) | (simp; omega)))) | (refine Below.trans ?_ (Below.mono hb9 (by first | omega | (simp; done) | (simp; omega)))) | (refine Below.trans ?_ (Below.mono hb10 (by first | omega | (simp; done) | (simp; omega)))) | (refine Below.trans ?_ (Below.mono hb11 (by first | omega | (simp; done) | (simp; omega)))) | (refine Below.trans ?_ (Below.mono hb12 (by first | omega | (simp; done) | (simp; omega))))))⟩

theorem opens_any {w : World} {g b cap : Nat} {P : Pl} (h : PL w g b cap P) (i : Int) :
    Calls Try.prog 105 #[.pointer (some ⟨g, 0, none⟩), .int .i64 i] w fun e w' => e = .returned (.bool (P.opens i)) ∧ Below w.heap.size w w' := by
  have ha := P.ofF_attr i
  have E := Lib.hid (show P.opens i = (P.ofB i && ((P.ofF i).start == i && (decide (0 < (P.ofF i).len) && !prot (P.ofF i).attr))) from rfl)
  cases hB : P.ofB i
  · go_enter Try.func105, Try.ntmps105
    go_wp2_with fail
    refine (Of_any h _).mono ?_
    rintro e w1 ⟨rfl, hb1⟩
    have hz1 := hb1.size
    try simp only [World.size_alloc, World.size_drew, World.size_setCell] at hz1
    obtain ⟨hc1, hf1⟩ := bcell hb1
    go_wp2
    go_ret
    exact ⟨by rw [E.out, hB]; rfl, by with_reducible (repeat (first | exact Below.refl _ _ | assumption | (refine Below.setCell ?_ (by first | omega | (simp; done) | (simp; omega)) _) | (refine Below.alloc ?_ (by first | omega | (simp; done) | (simp; omega)) _) | (refine below_drewN ?_ _) | (refine Below.drew ?_) | (refine Below.trans ?_ (Below.mono hb (by first | omega | (simp; done) | (simp; omega)))) | (refine Below.trans ?_ (Below.mono hb1 (by first | omega | (simp; done) | (simp; omega)))) | (refine Below.trans ?_ (Below.mono hb2 (by first | omega | (simp; done) | (simp; omega)))) | (refine Below.trans ?_ (Below.mono hb3 (by first | omega | (simp; done) | (simp; omega)))) | (refine Below.trans ?_ (Below.mono hb4 (by first | omega | (simp; done) | (simp; omega)))) | (refine Below.trans ?_ (Below.mono hb5 (by first | omega | (simp; done) | (simp; omega)))) | (refine Below.trans ?_ (Below.mono hb6 (by first | omega | (simp; done) | (simp; omega)))) | (refine Below.trans ?_ (Below.mono hb7 (by first | omega | (simp; done) | (simp; omega)))) | (refine Below.trans ?_ (Below.mono hb8 (by first | omega | (simp; done) | (simp; omega)))) | (refine Below.trans ?_ (Below.mono hb9 (by first | omega | (simp; done) | (simp; omega)))) | (refine Below.trans ?_ (Below.mono hb10 (by first | omega | (simp; done) | (simp; omega)))) | (refine Below.trans ?_ (Below.mono hb11 (by first | omega | (simp; done) | (simp; omega)))) | (refine Below.trans ?_ (Below.mono hb12 (by first | omega | (simp; done) | (simp; omega))))))⟩
  · cases hs : (P.ofF i).start == i
    · go_enter Try.func105, Try.ntmps105
      go_wp2_with fail
      refine (Of_any h _).mono ?_
      rintro e w1 ⟨rfl, hb1⟩
      have hz1 := hb1.size
      try simp only [World.size_alloc, World.size_drew, World.size_setCell] at hz1
      obtain ⟨hc1, hf1⟩ := bcell hb1
      go_wp2
      go_ret
      exact ⟨by rw [E.out, hB, hs]; rfl, by with_reducible (repeat (first | exact Below.refl _ _ | assumption | (refine Below.setCell ?_ (by first | omega | (simp; done) | (simp; omega)) _) | (refine Below.alloc ?_ (by first | omega | (simp; done) | (simp; omega)) _) | (refine below_drewN ?_ _) | (refine Below.drew ?_) | (refine Below.trans ?_ (Below.mono hb (by first | omega | (simp; done) | (simp; omega)))) | (refine Below.trans ?_ (Below.mono hb1 (by first | omega | (simp; done) | (simp; omega)))) | (refine Below.trans ?_ (Below.mono hb2 (by first | omega | (simp; done) | (simp; omega)))) | (refine Below.trans ?_ (Below.mono hb3 (by first | omega | (simp; done) | (simp; omega)))) | (refine Below.trans ?_ (Below.mono hb4 (by first | omega | (simp; done) | (simp; omega)))) | (refine Below.trans ?_ (Below.mono hb5 (by first | omega | (simp; done) | (simp; omega)))) | (refine Below.trans ?_ (Below.mono hb6 (by first | omega | (simp; done) | (simp; omega)))) | (refine Below.trans ?_ (Below.mono hb7 (by first | omega | (simp; done) | (simp; omega)))) | (refine Below.trans ?_ (Below.mono hb8 (by first | omega | (simp; done) | (simp; omega)))) | (refine Below.trans ?_ (Below.mono hb9 (by first | omega | (simp; done) | (simp; omega)))) | (refine Below.trans ?_ (Below.mono hb10 (by first | omega | (simp; done) | (simp; omega)))) | (refine Below.trans ?_ (Below.mono hb11 (by first | omega | (simp; done) | (simp; omega)))) | (refine Below.trans ?_ (Below.mono hb12 (by first | omega | (simp; done) | (simp; omega))))))⟩
    · cases hl : decide (0 < (P.ofF i).len)
      · go_enter Try.func105, Try.ntmps105
        go_wp2_with fail
        refine (Of_any h _).mono ?_
        rintro e w1 ⟨rfl, hb1⟩
        have hz1 := hb1.size
        try simp only [World.size_alloc, World.size_drew, World.size_setCell] at hz1
        obtain ⟨hc1, hf1⟩ := bcell hb1
        go_wp2
        go_ret
        exact ⟨by rw [E.out, hB, hs, hl]; rfl, by with_reducible (repeat (first | exact Below.refl _ _ | assumption | (refine Below.setCell ?_ (by first | omega | (simp; done) | (simp; omega)) _) | (refine Below.alloc ?_ (by first | omega | (simp; done) | (simp; omega)) _) | (refine below_drewN ?_ _) | (refine Below.drew ?_) | (refine Below.trans ?_ (Below.mono hb (by first | omega | (simp; done) | (simp; omega)))) | (refine Below.trans ?_ (Below.mono hb1 (by first | omega | (simp; done) | (simp; omega)))) | (refine Below.trans ?_ (Below.mono hb2 (by first | omega | (simp; done) | (simp; omega)))) | (refine Below.trans ?_ (Below.mono hb3 (by first | omega | (simp; done) | (simp; omega)))) | (refine Below.trans ?_ (Below.mono hb4 (by first | omega | (simp; done) | (simp; omega)))) | (refine Below.trans ?_ (Below.mono hb5 (by first | omega | (simp; done) | (simp; omega)))) | (refine Below.trans ?_ (Below.mono hb6 (by first | omega | (simp; done) | (simp; omega)))) | (refine Below.trans ?_ (Below.mono hb7 (by first | omega | (simp; done) | (simp; omega)))) | (refine Below.trans ?_ (Below.mono hb8 (by first | omega | (simp; done) | (simp; omega)))) | (refine Below.trans ?_ (Below.mono hb9 (by first | omega | (simp; done) | (simp; omega)))) | (refine Below.trans ?_ (Below.mono hb10 (by first | omega | (simp; done) | (simp; omega)))) | (refine Below.trans ?_ (Below.mono hb11 (by first | omega | (simp; done) | (simp; omega)))) | (refine Below.trans ?_ (Below.mono hb12 (by first | omega | (simp; done) | (simp; omega))))))⟩
      · go_enter Try.func105, Try.ntmps105
        go_wp2_with fail
        refine (Of_any h _).mono ?_
        rintro e w1 ⟨rfl, hb1⟩
        have hz1 := hb1.size
        try simp only [World.size_alloc, World.size_drew, World.size_setCell] at hz1
        obtain ⟨hc1, hf1⟩ := bcell hb1
        go_wp2_with fail
        refine (Protected_any _ _ ha).mono ?_
        rintro e w2 ⟨rfl, hb2⟩
        have hz2 := hb2.size
        try simp only [World.size_alloc, World.size_drew, World.size_setCell] at hz2
        obtain ⟨hc2, hf2⟩ := bcell hb2
        go_wp2
        go_ret
        exact ⟨by rw [E.out, hB, hs, hl]; rfl, by with_reducible (repeat (first | exact Below.refl _ _ | assumption | (refine Below.setCell ?_ (by first | omega | (simp; done) | (simp; omega)) _) | (refine Below.alloc ?_ (by first | omega | (simp; done) | (simp; omega)) _) | (refine below_drewN ?_ _) | (refine Below.drew ?_) | (refine Below.trans ?_ (Below.mono hb (by first | omega | (simp; done) | (simp; omega)))) | (refine Below.trans ?_ (Below.mono hb1 (by first | omega | (simp; done) | (simp; omega)))) | (refine Below.trans ?_ (Below.mono hb2 (by first | omega | (simp; done) | (simp; omega)))) | (refine Below.trans ?_ (Below.mono hb3 (by first | omega | (simp; done) | (simp; omega)))) | (refine Below.trans ?_ (Below.mono hb4 (by first | omega | (simp; done) | (simp; omega)))) | (refine Below.trans ?_ (Below.mono hb5 (by first | omega | (simp; done) | (simp; omega)))) | (refine Below.trans ?_ (Below.mono hb6 (by first | omega | (simp; done) | (simp; omega)))) | (refine Below.trans ?_ (Below.mono hb7 (by first | omega | (simp; done) | (simp; omega)))) | (refine Below.trans ?_ (Below.mono hb8 (by first | omega | (simp; done) | (simp; omega)))) | (refine Below.trans ?_ (Below.mono hb9 (by first | omega | (simp; done) | (simp; omega)))) | (refine Below.trans ?_ (Below.mono hb10 (by first | omega | (simp; done) | (simp; omega)))) | (refine Below.trans ?_ (Below.mono hb11 (by first | omega | (simp; done) | (simp; omega)))) | (refine Below.trans ?_ (Below.mono hb12 (by first | omega | (simp; done) | (simp; omega))))))⟩

theorem by_any {w : World} {g b cap : Nat} {P : Pl} (h : PL w g b cap P) (x y : Int) :
    Calls Try.prog 103 #[.pointer (some ⟨g, 0, none⟩), .int .i64 x, .int .i64 y] w fun e w' => e = .returned (.int .i64 ((x + y) % (P.cells.length : Int))) ∧ Below w.heap.size w w' := by
  go_enter Try.func103, Try.ntmps103
  go_wp2_with fail
  refine (Size_any h).mono ?_
  rintro e w1 ⟨rfl, hb1⟩
  have hz1 := hb1.size
  try simp only [World.size_alloc, World.size_drew, World.size_setCell] at hz1
  obtain ⟨hc1, hf1⟩ := bcell hb1
  go_wp2_with fail
  refine (Move_P h.ok _ _ _).mono ?_
  rintro e w2 ⟨rfl, hb2⟩
  replace hb2 := Below.trans hb1 (Below.mono hb2 hb1.size)
  clear hc1 hf1
  have hz2 := hb2.size
  try simp only [World.size_alloc, World.size_drew, World.size_setCell] at hz2
  obtain ⟨hc2, hf2⟩ := bcell hb2
  go_wp2
  go_ret
  exact ⟨rfl, by with_reducible (repeat (first | exact Below.refl _ _ | assumption | (refine Below.setCell ?_ (by first | omega | (simp; done) | (simp; omega)) _) | (refine Below.alloc ?_ (by first | omega | (simp; done) | (simp; omega)) _) | (refine below_drewN ?_ _) | (refine Below.drew ?_) | (refine Below.trans ?_ (Below.mono hb (by first | omega | (simp; done) | (simp; omega)))) | (refine Below.trans ?_ (Below.mono hb1 (by first | omega | (simp; done) | (simp; omega)))) | (refine Below.trans ?_ (Below.mono hb2 (by first | omega | (simp; done) | (simp; omega)))) | (refine Below.trans ?_ (Below.mono hb3 (by first | omega | (simp; done) | (simp; omega)))) | (refine Below.trans ?_ (Below.mono hb4 (by first | omega | (simp; done) | (simp; omega)))) | (refine Below.trans ?_ (Below.mono hb5 (by first | omega | (simp; done) | (simp; omega)))) | (refine Below.trans ?_ (Below.mono hb6 (by first | omega | (simp; done) | (simp; omega)))) | (refine Below.trans ?_ (Below.mono hb7 (by first | omega | (simp; done) | (simp; omega)))) | (refine Below.trans ?_ (Below.mono hb8 (by first | omega | (simp; done) | (simp; omega)))) | (refine Below.trans ?_ (Below.mono hb9 (by first | omega | (simp; done) | (simp; omega)))) | (refine Below.trans ?_ (Below.mono hb10 (by first | omega | (simp; done) | (simp; omega)))) | (refine Below.trans ?_ (Below.mono hb11 (by first | omega | (simp; done) | (simp; omega)))) | (refine Below.trans ?_ (Below.mono hb12 (by first | omega | (simp; done) | (simp; omega))))))⟩

theorem to_in {w : World} {g b cap : Nat} {P : Pl} (h : PL w g b cap P) (i : Int) (i0 : 0 ≤ i) (i1 : i < (P.cells.length : Int)) :
    Calls Try.prog 102 #[.pointer (some ⟨g, 0, none⟩), .int .i64 i] w fun e w' => e = .returned (.int .i64 i) ∧ PL w' g b cap (P.point i) ∧ Chg (· = g) w w' := by
  go_enter Try.func102, Try.ntmps102
  go_wp2_with fail
  refine (Point_in h _ i0 i1).mono ?_
  rintro e w1 ⟨rfl, hP, hk⟩
  go_wp2
  go_ret
  exact ⟨rfl, hP, hk⟩

/-- The first place of an open field, looked for from a place on. -/
def Pl.seek (P : Pl) (a s : Int) : Int :=
  match srch P.cells.length (fun i => P.opens ((a + (i : Int) * s) % (P.cells.length : Int))) with
  | some i => (a + (i : Int) * s + 1) % (P.cells.length : Int)
  | none => 0
theorem Pl.seek_range {P : Pl} (hok : P.ok) (a s : Int) : 0 ≤ P.seek a s ∧ P.seek a s < (P.cells.length : Int) := by
  have hn := Pl.N_pos hok
  unfold Pl.seek
  split
  · exact ⟨Int.emod_nonneg _ (by omega), Int.emod_lt_of_pos _ (by omega)⟩
  · omega

set_option maxRecDepth 100000 in
theorem seek_any {w : World} {g b cap : Nat} {P : Pl} (h : PL w g b cap P) (a s : Int) (hs : s = 1 ∨ s = -1) :
    Calls Try.prog 104 #[.pointer (some ⟨g, 0, none⟩), .int .i64 a, .int .i64 s] w fun e w' => e = .returned (.int .i64 (P.seek a s)) ∧ Below w.heap.size w w' := by
  have hm := Pl.N_le h.ok
  go_enter Try.func104, Try.ntmps104
  go_wp2_with fail
  refine (Len_any h).mono ?_
  rintro e w1 ⟨rfl, hb1⟩
  have hz1 := hb1.size
  try simp only [World.size_alloc, World.size_drew, World.size_setCell] at hz1
  obtain ⟨hc1, hf1⟩ := bcell hb1
  have hB1 := hb1
  clear hc1 hf1 hb1
  go_wp2
  go_loopw [11] (fun i wr => ∃ k : Nat, k ≤ P.cells.length ∧ i = .int .i64 (k : Int) ∧ Below w.heap.size w wr ∧ ∀ j, j < k → P.opens ((a + (j : Int) * s) % (P.cells.length : Int)) = false) (fun i _ => P.cells.length - (intOf i).toNat)
  case atStart => exact ⟨0, Nat.zero_le _, rfl, hB1, fun j hj => absurd hj (Nat.not_lt_zero _)⟩
  case round =>
    obtain ⟨k, hk, rfl, hB, hf⟩ := hrel
    have HF := Lib.hid hf
    clear hf
    have hzB := hB.size
    by_cases hlt : k < P.cells.length
    · have hmul : wrap64 ((k : Int) * s) = (k : Int) * s := by rcases hs with rfl | rfl <;> exact wrap_in (by omega) (by omega)
      go_wp2_with fail
      refine (by_any (h.below hB) _ _).mono ?_
      rintro e w3 ⟨rfl, hb3⟩
      have hz3 := hb3.size
      try simp only [World.size_alloc, World.size_drew, World.size_setCell] at hz3
      obtain ⟨hc3, hf3⟩ := bcell hb3
      clear hmul
      go_wp2_with fail
      refine (opens_any (h.below (by with_reducible (repeat (first | exact Below.refl _ _ | assumption | (refine Below.setCell ?_ (by first | omega | (simp; done) | (simp; omega)) _) | (refine Below.alloc ?_ (by first | omega | (simp; done) | (simp; omega)) _) | (refine below_drewN ?_ _) | (refine Below.drew ?_) | (refine Below.trans ?_ (Below.mono hb (by first | omega | (simp; done) | (simp; omega)))) | (refine Below.trans ?_ (Below.mono hb1 (by first | omega | (simp; done) | (simp; omega)))) | (refine Below.trans ?_ (Below.mono hb2 (by first | omega | (simp; done) | (simp; omega)))) | (refine Below.trans ?_ (Below.mono hb3 (by first | omega | (simp; done) | (simp; omega)))) | (refine Below.trans ?_ (Below.mono hb4 (by first | omega | (simp; done) | (simp; omega)))) | (refine Below.trans ?_ (Below.mono hb5 (by first | omega | (simp; done) | (simp; omega)))) | (refine Below.trans ?_ (Below.mono hb6 (by first | omega | (simp; done) | (simp; omega)))) | (refine Below.trans ?_ (Below.mono hb7 (by first | omega | (simp; done) | (simp; omega)))) | (refine Below.trans ?_ (Below.mono hb8 (by first | omega | (simp; done) | (simp; omega)))) | (refine Below.trans ?_ (Below.mono hb9 (by first | omega | (simp; done) | (simp; omega)))) | (refine Below.trans ?_ (Below.mono hb10 (by first | omega | (simp; done) | (simp; omega)))) | (refine Below.trans ?_ (Below.mono hb11 (by first | omega | (simp; done) | (simp; omega)))) | (refine Below.trans ?_ (Below.mono hb12 (by first | omega | (simp; done) | (simp; omega)))))))) _).mono ?_
      rintro e w4 ⟨rfl, hb4⟩
      replace hb4 := Below.trans hb3 (Below.mono hb4 hb3.size)
      clear hc3 hf3
      have hz4 := hb4.size
      try simp only [World.size_alloc, World.size_drew, World.size_setCell] at hz4
      obtain ⟨hc4, hf4⟩ := bcell hb4
      have hB5 : Below w.heap.size w w4 := by with_reducible (repeat (first | exact Below.refl _ _ | assumption | (refine Below.setCell ?_ (by first | omega | (simp; done) | (simp; omega)) _) | (refine Below.alloc ?_ (by first | omega | (simp; done) | (simp; omega)) _) | (refine below_drewN ?_ _) | (refine Below.drew ?_) | (refine Below.trans ?_ (Below.mono hb (by first | omega | (simp; done) | (simp; omega)))) | (refine Below.trans ?_ (Below.mono hb1 (by first | omega | (simp; done) | (simp; omega)))) | (refine Below.trans ?_ (Below.mono hb2 (by first | omega | (simp; done) | (simp; omega)))) | (refine Below.trans ?_ (Below.mono hb3 (by first | omega | (simp; done) | (simp; omega)))) | (refine Below.trans ?_ (Below.mono hb4 (by first | omega | (simp; done) | (simp; omega)))) | (refine Below.trans ?_ (Below.mono hb5 (by first | omega | (simp; done) | (simp; omega)))) | (refine Below.trans ?_ (Below.mono hb6 (by first | omega | (simp; done) | (simp; omega)))) | (refine Below.trans ?_ (Below.mono hb7 (by first | omega | (simp; done) | (simp; omega)))) | (refine Below.trans ?_ (Below.mono hb8 (by first | omega | (simp; done) | (simp; omega)))) | (refine Below.trans ?_ (Below.mono hb9 (by first | omega | (simp; done) | (simp; omega)))) | (refine Below.trans ?_ (Below.mono hb10 (by first | omega | (simp; done) | (simp; omega)))) | (refine Below.trans ?_ (Below.mono hb11 (by first | omega | (simp; done) | (simp; omega)))) | (refine Below.trans ?_ (Below.mono hb12 (by first | omega | (simp; done) | (simp; omega))))))
      clear hc4 hf4
      cases hst : P.opens ((a + (k : Int) * s) % (P.cells.length : Int))
      · go_wp2
        go_roundw
        case rel => exact ⟨k + 1, by omega, by go_num, hB5, fun j hj => by rcases Nat.lt_succ_iff_lt_or_eq.1 hj with hj | rfl; exact HF.out j hj; exact hst⟩
        case measure => simp [intOf]; omega
      · go_wp2_with fail
        refine (by_any (h.below hB5) _ _).mono ?_
        rintro e w5 ⟨rfl, hb5⟩
        have hz5 := hb5.size
        try simp only [World.size_alloc, World.size_drew, World.size_setCell] at hz5
        obtain ⟨hc5, hf5⟩ := bcell hb5
        have HS := Lib.hid hst
        clear hst
        go_wp2
        go_ret
        exact ⟨by unfold Pl.seek; rw [srch_some hlt HS.out HF.out]; rfl, by with_reducible (repeat (first | exact Below.refl _ _ | assumption | (refine Below.setCell ?_ (by first | omega | (simp; done) | (simp; omega)) _) | (refine Below.alloc ?_ (by first | omega | (simp; done) | (simp; omega)) _) | (refine below_drewN ?_ _) | (refine Below.drew ?_) | (refine Below.trans ?_ (Below.mono hb (by first | omega | (simp; done) | (simp; omega)))) | (refine Below.trans ?_ (Below.mono hb1 (by first | omega | (simp; done) | (simp; omega)))) | (refine Below.trans ?_ (Below.mono hb2 (by first | omega | (simp; done) | (simp; omega)))) | (refine Below.trans ?_ (Below.mono hb3 (by first | omega | (simp; done) | (simp; omega)))) | (refine Below.trans ?_ (Below.mono hb4 (by first | omega | (simp; done) | (simp; omega)))) | (refine Below.trans ?_ (Below.mono hb5 (by first | omega | (simp; done) | (simp; omega)))) | (refine Below.trans ?_ (Below.mono hb6 (by first | omega | (simp; done) | (simp; omega)))) | (refine Below.trans ?_ (Below.mono hb7 (by first | omega | (simp; done) | (simp; omega)))) | (refine Below.trans ?_ (Below.mono hb8 (by first | omega | (simp; done) | (simp; omega)))) | (refine Below.trans ?_ (Below.mono hb9 (by first | omega | (simp; done) | (simp; omega)))) | (refine Below.trans ?_ (Below.mono hb10 (by first | omega | (simp; done) | (simp; omega)))) | (refine Below.trans ?_ (Below.mono hb11 (by first | omega | (simp; done) | (simp; omega)))) | (refine Below.trans ?_ (Below.mono hb12 (by first | omega | (simp; done) | (simp; omega))))))⟩
    · go_wp2
      go_ret
      exact ⟨by unfold Pl.seek; rw [srch_none (fun j hj => HF.out j (by omega))]; rfl, hB⟩
end Go.Proofs.Ytbkddgeocmkegaa
