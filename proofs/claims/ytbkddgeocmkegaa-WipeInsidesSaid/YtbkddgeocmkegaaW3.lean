/- Lemmas on the way to this seat's statements; they bear no condition of their own. -/
import Derived.Test.YtbkddgeocmkegaaW2
namespace Go.Proofs.Ytbkddgeocmkegaa
open Go.RowKit Go.Shelf
set_option linter.unusedSimpArgs false
set_option linter.unusedVariables false
set_option maxHeartbeats 2000000
attribute [local go_sem ↓] run_start run_byte run_cols
attribute [local go_sem] Oper.semAt_some

/-- Cells that hold. -/
def Cells (cs : List (Addr × Value)) (W : World) : Prop := ∀ p ∈ cs, W.cell? p.1 = some p.2
theorem Cells.aux {cs : List (Addr × Value)} {B : Nat} {W W' : World} (h : Cells cs W) (ha : Aux B W W') : Cells cs W' := fun p hp => ha.cell (h p hp)
theorem Cells.chg {cs : List (Addr × Value)} {S : Nat → Prop} {W W' : World} (h : Cells cs W) (hk : Chg S W W') (hs : ∀ p ∈ cs, ¬ S p.1.block) : Cells cs W' := fun p hp => cell_keepC (h p hp) hk (hs p hp)

/-- A plane that is turned, new blocks that stay, and one that counts. -/
structure RI (w : World) (g b cap B N : Nat) (cs : List (Addr × Value)) (P : Pl) (u : Value) (W : World) : Prop where
  pl : PL W g b cap P
  cs : Cells cs W
  cn : W.cell? ⟨N, 0, none⟩ = some u
  fn : W.frozen? ⟨N, 0, none⟩ = false
  chg : Chg (· = b) w W
  sz : B ≤ W.heap.size
theorem RI.aux {w W W' : World} {g b cap B N : Nat} {cs : List (Addr × Value)} {P : Pl} {u : Value} (h : RI w g b cap B N cs P u W) (hB : w.heap.size ≤ B) (ha : Aux B W W') : RI w g b cap B N cs P u W' :=
  ⟨h.pl.aux ha, h.cs.aux ha, ha.cell h.cn, (ha.frozen h.cn).trans h.fn, ha.chg h.chg hB, Nat.le_trans h.sz ha.size⟩
theorem RI.turn {w W W1 : World} {g b cap B N : Nat} {cs : List (Addr × Value)} {P P' : Pl} {u : Value} (h : RI w g b cap B N cs P u W) (hbl : b < w.heap.size) (hN : w.heap.size ≤ N) (hcs : ∀ p ∈ cs, w.heap.size ≤ p.1.block ∧ p.1.block ≠ N) (hP : PL W1 g b cap P') (hk : Chg (· = b) W W1) : RI w g b cap B N cs P' u W1 :=
  ⟨hP, h.cs.chg hk (fun p hp => by have := hcs p hp; omega), cell_keepC h.cn hk (by show ¬ N = b; omega), frozen_keepC h.cn h.fn hk (by show ¬ N = b; omega), h.chg.trans hk, Nat.le_trans h.sz hk.size⟩
theorem RI.count {w W : World} {g b cap B N : Nat} {cs : List (Addr × Value)} {P : Pl} {u : Value} (h : RI w g b cap B N cs P u W) (hgl : g < w.heap.size) (hbl : b < w.heap.size) (hN : w.heap.size ≤ N) (hcs : ∀ p ∈ cs, w.heap.size ≤ p.1.block ∧ p.1.block ≠ N) (v : Value) : RI w g b cap B N cs P v (W.setCell ⟨N, 0, none⟩ v) :=
  have hs : Chg (· = N) W (W.setCell ⟨N, 0, none⟩ v) := chg_set _ _ _ _
  ⟨h.pl.chg hs (by omega) (by omega), h.cs.chg hs (fun p hp => (hcs p hp).2), cell_set_same _ h.cn, by rw [World.frozen?_setCell]; exact h.fn, h.chg.setCell (.inr hN) _, by have := h.sz; simpa using this⟩
theorem RI.drew {w W : World} {g b cap B N : Nat} {cs : List (Addr × Value)} {P : Pl} {u : Value} (h : RI w g b cap B N cs P u W) : RI w g b cap B N cs P u W.drew := ⟨h.pl.drew, h.cs, h.cn, h.fn, h.chg.drew, h.sz⟩

theorem Between_any (r c a d : Int) (w : World) :
    Calls Try.prog 166 #[.agg #[.int .i64 r, .int .i64 c], .int .i64 a, .int .i64 d] w fun e w' => e = .returned (.func (.func 202) #[] #[.pointer (some ⟨w.heap.size, 0, none⟩), .pointer (some ⟨w.heap.size + 1, 0, none⟩), .pointer (some ⟨w.heap.size + 1 + 1, 0, none⟩)]) ∧ ((w.alloc (.cells #[.int .i64 r, .int .i64 c] 48)).alloc (.cells #[.int .i64 a] 3)).alloc (.cells #[.int .i64 d] 3) = w' := by
  go_enter Try.func166, Try.ntmps166
  go_wp2
  go_ret
  exact ⟨rfl, rfl⟩

/-- Cells turned. -/
def Pl.fil (P : Pl) (l : List Int) (c : Cell) : Pl := l.foldl (fun P i => P.set i c) P
theorem fil_clr (P : Pl) (l : List Int) : P.fil l Cell.zero = P.clr l := rfl
theorem fil_take (P : Pl) (l : List Int) (c : Cell) (k : Nat) (hk : k < l.length) : P.fil (l.take (k + 1)) c = (P.fil (l.take k) c).set l[k] c := by
  unfold Pl.fil
  rw [List.take_add_one, List.getElem?_eq_getElem hk, List.foldl_append]
  rfl
theorem fil_same (P : Pl) (l : List Int) (c : Cell) : (P.fil l c).rows = P.rows ∧ (P.fil l c).cols = P.cols ∧ (P.fil l c).cells.length = P.cells.length ∧ (P.fil l c).cursor = P.cursor := by
  induction l generalizing P with
  | nil => exact ⟨rfl, rfl, rfl, rfl⟩
  | cons x l ih =>
    have h := ih (P.set x c)
    exact ⟨h.1, h.2.1, h.2.2.1.trans (P.set_len x _), h.2.2.2⟩
theorem fil_ok {P : Pl} (h : P.ok) (l : List Int) {c : Cell} (hc : c.ok) : (P.fil l c).ok := by
  induction l generalizing P with
  | nil => exact h
  | cons x l ih => exact ih (Pl.set_ok h hc)
theorem fil_at (P : Pl) (l : List Int) (c : Cell) (hl : ∀ x ∈ l, 0 ≤ x ∧ x < (P.cells.length : Int)) (j : Int) : (P.fil l c).at j = if j ∈ l then c else P.at j := by
  induction l generalizing P with
  | nil => simp [Pl.fil]
  | cons x l ih =>
    have hx := hl x (List.mem_cons_self ..)
    have := ih (P.set x c) (fun y hy => by rw [P.set_len]; exact hl y (List.mem_cons_of_mem _ hy))
    show ((P.set x c).fil l c).at j = _
    rw [this, P.at_set x _ hx.1 hx.2]
    by_cases h1 : j ∈ l
    · rw [if_pos h1, if_pos (List.mem_cons_of_mem _ h1)]
    · rw [if_neg h1]
      by_cases h2 : j = x
      · rw [if_pos h2, if_pos (by rw [h2]; exact List.mem_cons_self ..)]
      · rw [if_neg h2, if_neg (by simp [h1, h2])]
theorem btw_range {n : Int} (hn : 0 < n) (a d : Int) : ∀ x ∈ btw n a d, 0 ≤ x ∧ x < n := by
  intro x hx
  unfold btw at hx
  rw [List.mem_map] at hx
  obtain ⟨i, _, rfl⟩ := hx
  exact ⟨Int.emod_nonneg _ (by omega), Int.emod_lt_of_pos _ hn⟩
end Go.Proofs.Ytbkddgeocmkegaa
