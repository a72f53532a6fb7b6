/- Lemmas on the way to this seat's statements; they bear no condition of their own. -/
import Derived.Test.YtbkddgeocmkegaaG12
import Derived.Deep.AppendLies
import Derived.OwnWalk
import Derived.WalkSpells
namespace Go.Proofs.Ytbkddgeocmkegaa
open Go.RowKit Go.Shelf
set_option linter.unusedSimpArgs false
set_option linter.unusedVariables false
set_option maxHeartbeats 2000000
attribute [local go_sem ↓] run_start run_byte run_cols

def RowPost (cs : List Cell) (w : World) (e : Ending) (w' : World) : Prop :=
  ∃ (b cap : Nat) (rest : List Value), e = .returned (.slice (some ⟨b, 0, none⟩) cs.length cap) ∧ w'.heap[b]? = some (.cells (flat cs ++ rest).toArray 96 (0, 0)) ∧ w.heap.size ≤ b ∧ Below w.heap.size w w'


theorem rest_of {cur : Array Value} {xs : List Value} {n : Nat} (h : cur.toList.take n = xs) : cur = (xs ++ cur.toList.drop n).toArray := by
  apply Array.ext'
  rw [← h]
  simp

theorem owns_empty (w : World) (T : TypeId) (k : Nat) : (w.alloc (.cells #[] T)).ownsRow w.heap.size T k (.slice (some ⟨w.heap.size, 0, none⟩) 0 0) 0 [] :=
  ⟨by simp, .inr ⟨w.heap.size, 0, #[], rfl, Nat.le_refl _, World.alloc_heap_new w _, Nat.le_refl _, by simp, by simp, by simp⟩⟩
theorem PL.row {w : World} {g b cap : Nat} {P : Pl} (h : PL w g b cap P) (j : Nat) (u : Value) (hu : (flat P.cells)[j]? = some u) : w.cell? ⟨b, j, none⟩ = some u := by
  obtain ⟨r, hb⟩ := h.hb
  have hj : j < (flat P.cells).length := (List.getElem?_eq_some_iff.1 hu).1
  simp only [World.cell?, hb, Option.isSome_none, Bool.false_eq_true, if_false, List.getElem?_toArray]
  rw [List.getElem?_append_left hj]
  exact hu
theorem flat_one (cs : List Cell) : ∀ u ∈ flat cs, u.oneCell' = true := by
  intro u hu
  unfold flat at hu
  rw [List.mem_flatMap] at hu
  obtain ⟨c, _, hc⟩ := hu
  simp [Cell.vals] at hc
  rcases hc with rfl | rfl | rfl | rfl | rfl <;> rfl

set_option maxRecDepth 10000 in
theorem CloneS_any {w : World} {g b cap : Nat} {P : Pl} (h : PL w g b cap P) :
    Calls Try.prog 100 #[.slice (some ⟨b, 0, none⟩) P.cells.length cap] w (RowPost P.cells w) := by
  have hn := Pl.N_pos h.ok
  have hm := Pl.N_le h.ok
  have hbl := h.bl
  have hnil := fun (W : World) (a : Addr) (n c : Nat) => Lib.run_eql_slice_nil (P := Try.prog) W _ _ (some a) n c 0 0 Try.underlying75
  have hnews : ∀ (j : Nat) (u : Value), (flat P.cells)[j]? = some u → (w.alloc (.cells #[] 96)).cell? ((⟨b, 0, none⟩ : Addr).add j) = some u := fun j u hu => by
    have := (h.below ((Below.refl _ _).alloc (Nat.le_refl _) (.cells #[] 96))).row j u hu
    simp only [Addr.add]
    split
    · subst_vars; exact this
    · simpa using this
  have HN := Lib.hid hnews
  clear hnews
  have HI := Lib.hid info_cell
  go_enter Try.func100, Try.ntmps100
  go_wp2_with (at_builtin; obtain ⟨i0, hi, hz0, hz1, hz2⟩ := info_parts HI.out; refine wpList_append_lies _ rfl _ _ 75 rfl w.heap.size 96 i0 _ 5 5 Try.underlying75 hi hz0 hz1 hz2 rfl (by decide) _ 0 [] rfl (owns_empty w 96 5) ⟨b, 0, none⟩ P.cells.length cap (flat P.cells) rfl (by rw [flat_len]; omega) HN.out (flat_one _) hn (by unfold maxLen; omega) (by omega) (by simp) (w.heap.size + 1) (by simp) ?_; clear hi hz0 hz1 hz2; intro g2 cap2 w2 hown2 hgr hat hlt)
  go_ret
  obtain ⟨_, hv | ⟨g3, c3, cur, hv, hge, hh, _, _, _, htk⟩⟩ := hown2
  · cases hv.1
  · cases hv
    have hb2 : Below w.heap.size w w2 := ((Below.refl w.heap.size w).alloc (Nat.le_refl _) (.cells #[] 96)).grown hgr (by simp) (fun k e => by cases e; exact Nat.le_refl _)
    refine ⟨g2, _, cur.toList.drop ((0 + P.cells.length) * 5), rfl, ?_, hge, hb2⟩
    rw [hh]
    have := rest_of htk
    rw [List.nil_append] at this
    rw [← this]

def ClonePost (P : Pl) (w : World) (e : Ending) (w' : World) : Prop :=
  ∃ g b cap : Nat, e = .returned (.pointer (some ⟨g, 0, none⟩)) ∧ PL w' g b cap P ∧ w.heap.size ≤ g ∧ w.heap.size ≤ b ∧ Below w.heap.size w w'

theorem keep4 {W w2 : World} {a b c d : Addr} {v u x y : Value} (h : W.cell? a = some v ∧ W.cell? b = some u ∧ W.cell? c = some x ∧ W.cell? d = some y) (hb : Below W.heap.size W w2) : w2.cell? a = some v ∧ w2.cell? b = some u ∧ w2.cell? c = some x ∧ w2.cell? d = some y :=
  ⟨cell_keep h.1 hb, cell_keep h.2.1 hb, cell_keep h.2.2.1 hb, cell_keep h.2.2.2 hb⟩

theorem Clone_any {w : World} {g b cap : Nat} {P : Pl} (h : PL w g b cap P) :
    Calls Try.prog 41 #[.pointer (some ⟨g, 0, none⟩)] w (ClonePost P w) := by
  have f0 := h.f0
  have f1 := h.f1
  have f2 := h.f2
  have f3 := h.f3
  have gl := h.gl
  go_enter Try.func41, Try.ntmps41
  go_wp2
  go_region_held3 (fun w' => w'.cell? ⟨g, 0, none⟩ = some (.int .i64 P.rows) ∧ w'.cell? ⟨g, 1, none⟩ = some (.int .i64 P.cols) ∧ w'.cell? ⟨g, 2, none⟩ = some (.slice (some ⟨b, 0, none⟩) P.cells.length cap) ∧ w'.cell? ⟨g, 3, none⟩ = some (.int .i64 P.cursor))
    (first | exact keep4 (by assumption) hb1 | go_keep)
    (first | (go_at_call 100; refine (CloneS_any h.drew).mono ?_; rintro e w1 ⟨b1, cap1, rest1, rfl, hh1, hge1, hb1⟩))
  go_wp2
  go_ret
  have hlt := lt_of_block hh1
  have hB : Below w.heap.size w (w1.alloc (.cells #[.int .i64 P.rows, .int .i64 P.cols, .slice (some ⟨b1, 0, none⟩) P.cells.length cap1, .int .i64 P.cursor] 132)) :=
    ((Below.refl w.heap.size w).drew.trans hb1).alloc hb1.size _
  exact ⟨w1.heap.size, b1, cap1, rfl, ⟨World.alloc_heap_new w1 _, ⟨rest1, (Below.heap_alloc w1 _ b1 hlt).trans hh1⟩, by omega, h.ok⟩, hb1.size, hge1, hB⟩
end Go.Proofs.Ytbkddgeocmkegaa
