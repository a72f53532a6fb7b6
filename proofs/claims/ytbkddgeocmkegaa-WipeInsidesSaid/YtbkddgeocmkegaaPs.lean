/- Lemmas on the way to this seat's statements; they bear no condition of their own. -/
import Derived.Test.YtbkddgeocmkegaaPl
/-! The starts of a plane's fields, in order. -/
namespace Go.Proofs.Ytbkddgeocmkegaa

def Pl.isSt (P : Pl) (i : Nat) : Bool := (P.at (i : Int)).start
def Pl.starts (P : Pl) : List Nat := (List.range P.cells.length).filter P.isSt
def Pl.cnt (P : Pl) (i : Nat) : Nat := ((List.range i).filter P.isSt).length
theorem Pl.cnt_zero (P : Pl) : P.cnt 0 = 0 := rfl
theorem Pl.cnt_succ (P : Pl) (i : Nat) : P.cnt (i + 1) = P.cnt i + if P.isSt i then 1 else 0 := by
  unfold Pl.cnt
  rw [List.range_succ, List.filter_append, List.length_append]
  cases h : P.isSt i <;> simp [h]
theorem Pl.cnt_n (P : Pl) : P.cnt P.cells.length = P.starts.length := rfl
theorem Pl.cnt_le (P : Pl) {i j : Nat} (h : i ≤ j) : P.cnt i ≤ P.cnt j := by
  induction h with
  | refl => exact Nat.le_refl _
  | step _ ih => rw [Pl.cnt_succ]; omega
theorem Pl.starts_split (P : Pl) {i : Nat} (h : i ≤ P.cells.length) : ∃ r, P.starts = (List.range i).filter P.isSt ++ r := by
  obtain ⟨m, hm⟩ : ∃ m, P.cells.length = i + m := ⟨P.cells.length - i, by omega⟩
  unfold Pl.starts
  rw [hm, List.range_add, List.filter_append]
  exact ⟨_, rfl⟩
theorem Pl.starts_at (P : Pl) {i : Nat} (h : i < P.cells.length) (hs : P.isSt i = true) : P.starts[P.cnt i]? = some i := by
  obtain ⟨r, hr⟩ := P.starts_split (i := i + 1) (by omega)
  rw [hr, List.range_succ, List.filter_append]
  simp [Pl.cnt, hs]
theorem Pl.starts_mem (P : Pl) {i : Nat} (h : i ∈ P.starts) : i < P.cells.length ∧ P.isSt i = true := by
  unfold Pl.starts at h
  rw [List.mem_filter] at h
  exact ⟨by simpa using h.1, h.2⟩

/-- The same size and the same attributes' places. -/
structure SameSt (P0 P : Pl) : Prop where
  rows : P.rows = P0.rows
  cols : P.cols = P0.cols
  len : P.cells.length = P0.cells.length
  st : ∀ j : Int, (P.at j).start = (P0.at j).start
theorem SameSt.refl (P : Pl) : SameSt P P := ⟨rfl, rfl, rfl, fun _ => rfl⟩
theorem SameSt.trans {A B C : Pl} (h : SameSt A B) (k : SameSt B C) : SameSt A C := ⟨k.rows.trans h.rows, k.cols.trans h.cols, k.len.trans h.len, fun j => (k.st j).trans (h.st j)⟩
theorem SameSt.look {P0 P : Pl} (h : SameSt P0 P) (a s : Int) : P.look a s = P0.look a s := by
  have e : P.stp a s = P0.stp a s := by funext i; unfold Pl.stp; rw [h.len]; exact h.st _
  unfold Pl.look
  rw [e, h.len]
theorem SameSt.after {P0 P : Pl} (h : SameSt P0 P) (a : Int) : P.after a = P0.after a := by unfold Pl.after; rw [h.len, h.look]
theorem SameSt.before {P0 P : Pl} (h : SameSt P0 P) (a : Int) : P.before a = P0.before a := h.look _ _
theorem SameSt.fld {P0 P : Pl} (h : SameSt P0 P) (i : Int) (hi : (P.at i).byte = (P0.at i).byte) : P.fld i = P0.fld i := by unfold Pl.fld; rw [h.after, h.len, hi]
theorem SameSt.isSt {P0 P : Pl} (h : SameSt P0 P) (i : Nat) : P.isSt i = P0.isSt i := h.st _

theorem Pl.at_set (P : Pl) (i : Int) (c : Cell) (h0 : 0 ≤ i) (h1 : i < (P.cells.length : Int)) (j : Int) : (P.set i c).at j = if j = i then c else P.at j := by
  unfold Pl.at Pl.set
  simp only [List.length_set]
  by_cases hj : 0 ≤ j ∧ j < (P.cells.length : Int)
  · rw [if_pos hj, if_pos hj, getD_lt _ _ _ (by simp; omega), getD_lt _ _ _ (by omega), List.getElem_set]
    by_cases e : j = i
    · subst e; simp
    · rw [if_neg e, if_neg (by omega)]
  · rw [if_neg hj, if_neg hj, if_neg (by omega)]
theorem Pl.set_len (P : Pl) (i : Int) (c : Cell) : (P.set i c).cells.length = P.cells.length := by simp [Pl.set]
theorem SameSt.set {P0 P : Pl} (h : SameSt P0 P) {i : Int} {c : Cell} (h0 : 0 ≤ i) (h1 : i < (P.cells.length : Int)) (hc : c.start = (P0.at i).start) : SameSt P0 (P.set i c) :=
  ⟨h.rows, h.cols, (P.set_len i c).trans h.len, fun j => by
    rw [P.at_set i c h0 h1]
    split
    · rename_i e; rw [e]; exact hc
    · exact h.st j⟩
end Go.Proofs.Ytbkddgeocmkegaa
