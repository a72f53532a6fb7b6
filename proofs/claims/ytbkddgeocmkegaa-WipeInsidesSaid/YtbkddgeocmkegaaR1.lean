/- Lemmas on the way to this seat's statements; they bear no condition of their own. -/
import Derived.Test.YtbkddgeocmkegaaG14
/-! The document's planes: cells in memory, the plane itself a value. -/
namespace Go.Proofs.Ytbkddgeocmkegaa
open Go.RowKit Go.Shelf
set_option linter.unusedSimpArgs false
set_option linter.unusedVariables false
set_option maxHeartbeats 2000000

structure RC (w : World) (b : Nat) (P : Pl) : Prop where
  hb : ∃ rest : List Value, w.heap[b]? = some (.cells (flat P.cells ++ rest).toArray 96 (0, 0))
  ok : P.ok
namespace RC
variable {w : World} {b : Nat} {P : Pl}
theorem bl (h : RC w b P) : b < w.heap.size := let ⟨_, h'⟩ := h.hb; lt_of_block h'
theorem below {w' : World} (h : RC w b P) (hb : Below w.heap.size w w') : RC w' b P := ⟨let ⟨r, h'⟩ := h.hb; ⟨r, (hb.block b h.bl).trans h'⟩, h.ok⟩
theorem cell (h : RC w b P) (i : Nat) (hi : i < P.cells.length) (k : Nat) (hk : k < 5) : w.cell? ⟨b, i * 5 + k, none⟩ = (P.cells[i].vals)[k]? := by
  obtain ⟨r, hb⟩ := h.hb
  simp only [World.cell?, hb]
  simp only [Option.isSome_none, Bool.false_eq_true, if_false, List.getElem?_toArray]
  rw [List.getElem?_append_left (by rw [flat_len]; omega), flat_get _ _ hi _ hk]
theorem row5 (h : RC w b P) (i : Nat) (hi : i < P.cells.length) :
    w.cell? ⟨b, i * 5, none⟩ = some (.int .u8 P.cells[i].byte) ∧ w.cell? ⟨b, i * 5 + 1, none⟩ = some (.bool P.cells[i].ge) ∧ w.cell? ⟨b, i * 5 + 2, none⟩ = some (.bool P.cells[i].start) ∧ w.cell? ⟨b, i * 5 + 3, none⟩ = some (.int .u8 P.cells[i].light) ∧ w.cell? ⟨b, i * 5 + 4, none⟩ = some (.int .u8 P.cells[i].color) := by
  have k0 := h.cell i hi 0 (by omega)
  have k1 := h.cell i hi 1 (by omega)
  have k2 := h.cell i hi 2 (by omega)
  have k3 := h.cell i hi 3 (by omega)
  have k4 := h.cell i hi 4 (by omega)
  simp [Cell.vals] at k0 k1 k2 k3 k4
  exact ⟨k0, k1, k2, k3, k4⟩
end RC
theorem PL.rc {w : World} {g b cap : Nat} {P : Pl} (h : PL w g b cap P) : RC w b P := ⟨h.hb, h.ok⟩
theorem Pl.at_get {P : Pl} {i : Nat} (h : i < P.cells.length) : P.at (i : Int) = P.cells[i] := by
  unfold Pl.at
  rw [if_pos ⟨by omega, by omega⟩, Int.toNat_natCast, getD_lt _ _ _ h]
theorem Pl.isSt_get {P : Pl} {i : Nat} (h : i < P.cells.length) : P.isSt i = P.cells[i].start := by unfold Pl.isSt; rw [Pl.at_get h]

/-- What a box holds, later on. -/
theorem box4 {w wr : World} {x0 x1 x2 x3 : Value} {T : TypeId} (h : Below (w.heap.size + 1) (w.alloc (.cells #[x0, x1, x2, x3] T)) wr) :
    wr.cell? ⟨w.heap.size, 0, none⟩ = some x0 ∧ wr.cell? ⟨w.heap.size, 1, none⟩ = some x1 ∧ wr.cell? ⟨w.heap.size, 2, none⟩ = some x2 ∧ wr.cell? ⟨w.heap.size, 3, none⟩ = some x3 := by
  have e := (h.block w.heap.size (by omega)).trans (World.alloc_heap_new w (.cells #[x0, x1, x2, x3] T))
  simp [World.cell?, e]
theorem below_of_box {w wr : World} {o : Obj} (h : Below (w.heap.size + 1) (w.alloc o) wr) : Below w.heap.size w wr :=
  ((Below.refl w.heap.size w).alloc (Nat.le_refl _) o).trans (h.mono (by omega))

/-! Rows of numbers. -/
def ints (l : List Int) : List Value := l.map (Value.int .i64)
@[simp] theorem ints_len (l : List Int) : (ints l).length = l.length := by simp [ints]
def IntsPost (l : List Int) (w : World) (e : Ending) (w' : World) : Prop :=
  ∃ (g cap : Nat) (rest : List Value), e = .returned (.slice (some ⟨g, 0, none⟩) l.length cap) ∧ w'.heap[g]? = some (.cells (ints l ++ rest).toArray 3 (0, 0)) ∧ w.heap.size ≤ g ∧ Below w.heap.size w w'
theorem info_int : (Try.prog.info? 3).map (fun i => (i.zero, i.size, i.bytes)) = some (some (.int .i64 0), 1, 8) := by kernel_rfl
theorem owns_row {w : World} {B T k g n c : Nat} {xs : List Value} (h : w.ownsRow B T k (.slice (some ⟨g, 0, none⟩) n c) n xs) : B ≤ g ∧ ∃ rest, w.heap[g]? = some (.cells (xs ++ rest).toArray T (0, 0)) := by
  obtain ⟨_, hv | ⟨g3, c3, cur, hv, hge, hh, _, _, _, htk⟩⟩ := h
  · cases hv.1
  · cases hv
    exact ⟨hge, _, by rw [hh, ← rest_of htk]⟩
theorem ints_get {w : World} {g : Nat} {l : List Int} {rest : List Value} (h : w.heap[g]? = some (.cells (ints l ++ rest).toArray 3 (0, 0))) (i : Nat) (hi : i < l.length) : w.cell? ⟨g, i, none⟩ = some (.int .i64 l[i]) := by
  simp only [World.cell?, h, Option.isSome_none, Bool.false_eq_true, if_false, List.getElem?_toArray]
  rw [List.getElem?_append_left (by simpa using hi)]
  simp [ints, hi]

/-- The starts below a place. -/
def Pl.stl (P : Pl) (k : Nat) : List Int := ((List.range k).filter P.isSt).map fun (i : Nat) => (i : Int)
theorem Pl.stl_len (P : Pl) (k : Nat) : (P.stl k).length = P.cnt k := by simp [Pl.stl, Pl.cnt]
theorem Pl.stl_step (P : Pl) (k : Nat) (h : P.isSt k = true) : P.stl (k + 1) = P.stl k ++ [(k : Int)] ∧ P.cnt (k + 1) = P.cnt k + 1 := by
  rw [Pl.cnt_succ, h]
  refine ⟨?_, rfl⟩
  unfold Pl.stl
  rw [List.range_succ, List.filter_append]
  simp [h]
theorem Pl.stl_skip (P : Pl) (k : Nat) (h : P.isSt k = false) : P.stl (k + 1) = P.stl k ∧ P.cnt (k + 1) = P.cnt k := by
  rw [Pl.cnt_succ, h]
  refine ⟨?_, rfl⟩
  unfold Pl.stl
  rw [List.range_succ, List.filter_append]
  simp [h]
theorem Pl.cnt_le_self (P : Pl) (k : Nat) : P.cnt k ≤ k := by
  unfold Pl.cnt
  have := List.length_filter_le P.isSt (List.range k)
  simpa using this

set_option maxRecDepth 100000 in
theorem rStarts_any {w : World} {b cap : Nat} {P : Pl} (h : RC w b P) :
    Calls Try.prog 160 #[.agg #[.int .i64 P.rows, .int .i64 P.cols, .slice (some ⟨b, 0, none⟩) P.cells.length cap, .int .i64 P.cursor]] w (IntsPost (P.stl P.cells.length) w) := by
  have hn := Pl.N_pos h.ok
  have hm := Pl.N_le h.ok
  have hbl := h.bl
  have HI := Lib.hid info_int
  go_enter Try.func160, Try.ntmps160
  go_wp2
  go_loopw [3, 4] (fun v i wr => ∃ k g c : Nat, k ≤ P.cells.length ∧ i = .int .i64 (k : Int) ∧ v = .slice (some ⟨g, 0, none⟩) (P.cnt k) c ∧ wr.ownsRow (w.heap.size + 1) 3 1 v (P.cnt k) (ints (P.stl k)) ∧ Below (w.heap.size + 1) (w.alloc (.cells #[.int .i64 P.rows, .int .i64 P.cols, .slice (some ⟨b, 0, none⟩) P.cells.length cap, .int .i64 P.cursor] 77)) wr) (fun _ i _ => P.cells.length - (intOf i).toNat)
  case atStart =>
    exact ⟨0, _, _, Nat.zero_le _, rfl, rfl, by have := owns_empty (w.alloc (.cells #[.int .i64 P.rows, .int .i64 P.cols, .slice (some ⟨b, 0, none⟩) P.cells.length cap, .int .i64 P.cursor] 77)) 3 1; rw [World.size_alloc] at this; exact this, (Below.refl _ _).alloc (by simp) _⟩
  case round =>
    obtain ⟨k, g, c, hk, rfl, rfl, hown, hB⟩ := hrel
    obtain ⟨x0, x1, x2, x3⟩ := box4 hB
    have hck := P.cnt_le_self k
    have hzB := hB.size
    simp at hzB
    by_cases hlt : k < P.cells.length
    · obtain ⟨-, -, k2, -, -⟩ := (h.below (below_of_box hB)).row5 k hlt
      rw [← Pl.isSt_get hlt] at k2
      have hlt' : (k : Int) < (P.cells.length : Int) := by omega
      cases hs : P.isSt k
      · have HS := Lib.hid hs
        go_wp2
        go_roundw
        case rel =>
          have e := P.stl_skip k HS.out
          exact ⟨k + 1, g, c, by omega, by go_num, by rw [e.2], by rw [e.1, e.2]; exact hown, hB⟩
        case measure => simp [intOf]; omega
      · have HS := Lib.hid hs
        have hge := (hown.lt g rfl).1
        go_wp2_with (at_builtin; obtain ⟨i0, hi, hz0, hz1, hz2⟩ := info_parts HI.out; refine wpList_append_lies _ rfl _ _ 68 rfl (w.heap.size + 1) 3 i0 _ 1 8 Try.underlying68 hi hz0 hz1 hz2 rfl (by decide) _ _ _ rfl (hown.alloc _) ⟨wr.heap.size, 0, none⟩ 1 1 [.int .i64 (k : Int)] rfl rfl (World.news_of_block (World.alloc_heap_new _ _)) (by intro u hu; simp at hu; subst hu; rfl) (by decide) (by unfold maxLen; omega) (by omega) (by simp; omega) (wr.heap.size + 1) (by simp) ?_; clear hi hz0 hz1 hz2; intro g2 c2 w2 hown2 hgr hat hlt2)
        go_wp2
        go_roundw
        case rel =>
          have e := P.stl_step k HS.out
          exact ⟨k + 1, g2, c2, by omega, by go_num, by rw [e.2], by rw [e.1, e.2]; simpa [ints] using hown2, (hB.alloc (by omega) _).grown hgr (by simp; omega) (fun j e => by cases e; exact hge)⟩
        case measure => simp [intOf]; omega
    · have e : k = P.cells.length := by omega
      subst e
      go_wp2
      go_ret
      have ho := owns_row hown
      obtain ⟨h1, r, h2⟩ := ho
      exact ⟨g, c, r, by rw [Pl.stl_len]; rfl, h2, by omega, below_of_box hB⟩
end Go.Proofs.Ytbkddgeocmkegaa
