/- Lemmas on the way to this seat's statements; they bear no condition of their own. -/
import Derived.Test.YtbkddgeocmkegaaR3
namespace Go.Proofs.Ytbkddgeocmkegaa
open Go.RowKit Go.Shelf
set_option linter.unusedSimpArgs false
set_option linter.unusedVariables false
set_option maxHeartbeats 2000000
attribute [local go_sem ↓] run_start run_byte run_cols

/-- The places of a field's cells, but its attribute's. -/
def Pl.plc (P : Pl) (f : Fld) (k : Nat) : List Int := (List.range k).map fun (i : Nat) => (f.start + ((i : Int) + 1)) % (P.cells.length : Int)
theorem Pl.plc_len (P : Pl) (f : Fld) (k : Nat) : (P.plc f k).length = k := by simp [Pl.plc]
theorem Pl.plc_step (P : Pl) (f : Fld) (k : Nat) : P.plc f (k + 1) = P.plc f k ++ [(f.start + ((k : Int) + 1)) % (P.cells.length : Int)] := by
  unfold Pl.plc
  rw [List.range_succ, List.map_append]
  rfl
theorem Pl.plc_get (P : Pl) (f : Fld) (k i : Nat) (h : i < (P.plc f k).length) : (P.plc f k)[i] = (f.start + ((i : Int) + 1)) % (P.cells.length : Int) := by simp [Pl.plc]

set_option maxRecDepth 100000 in
theorem rPlaces_any {w : World} {b cap : Nat} {P : Pl} (h : RC w b P) (f : Fld) (hs0 : 0 ≤ f.start) (hs1 : f.start < (P.cells.length : Int)) (hl0 : 0 ≤ f.len) (hl1 : f.len ≤ (P.cells.length : Int)) :
    Calls Try.prog 159 #[.agg #[.int .i64 P.rows, .int .i64 P.cols, .slice (some ⟨b, 0, none⟩) P.cells.length cap, .int .i64 P.cursor], .agg #[.int .i64 f.start, .int .i64 f.len, .int .u8 f.attr]] w (IntsPost (P.plc f f.len.toNat) w) := by
  have hn := Pl.N_pos h.ok
  have hm := Pl.N_le h.ok
  have hbl := h.bl
  have HI := Lib.hid info_int
  have hhas : P.inB f.start = true := decide_eq_true ⟨hs0, hs1⟩
  have hheld : (if f.len < 0 then 0 else if (P.cells.length : Int) < f.len then (P.cells.length : Int) else f.len) = f.len := by rw [if_neg (by omega), if_neg (by omega)]
  go_enter Try.func159, Try.ntmps159
  go_wp2_with fail
  refine (rHas_any (P := P) (b := b) (cap := cap) _).mono ?_
  rintro e w2 ⟨rfl, hb2⟩
  rw [hhas]
  have ho2 := owns_below (owns_empty ((w.alloc (.cells #[.int .i64 P.rows, .int .i64 P.cols, .slice (some ⟨b, 0, none⟩) P.cells.length cap, .int .i64 P.cursor] 77)).alloc (.cells #[.int .i64 f.start, .int .i64 f.len, .int .u8 f.attr] 153)) 3 1) hb2
  have hB2 : Below (w.heap.size + 2) ((w.alloc (.cells #[.int .i64 P.rows, .int .i64 P.cols, .slice (some ⟨b, 0, none⟩) P.cells.length cap, .int .i64 P.cursor] 77)).alloc (.cells #[.int .i64 f.start, .int .i64 f.len, .int .u8 f.attr] 153)) w2 := (Below.alloc (Below.refl _ _) (by simp) _).trans (hb2.mono (by simp))
  have hz2 := hb2.size
  simp only [World.size_alloc] at ho2 hz2
  clear hb2
  have y0 : w2.cell? ⟨w.heap.size, 2, none⟩ = some (.slice (some ⟨b, 0, none⟩) P.cells.length cap) := (hB2.cell (p := ⟨w.heap.size, 2, none⟩) (by show w.heap.size < w.heap.size + 2; omega)).trans (by simp [go_sem])
  have y1 : w2.cell? ⟨w.heap.size + 1, 1, none⟩ = some (.int .i64 f.len) := (hB2.cell (p := ⟨w.heap.size + 1, 1, none⟩) (by show w.heap.size + 1 < w.heap.size + 2; omega)).trans (by simp [go_sem])
  go_wp2_with fail
  refine (rHeld_in _ _ _ _).mono ?_
  rintro e w3 ⟨rfl, hb3⟩
  rw [hheld]
  clear y0 y1
  have hB3 := hB2.trans (hb3.mono (by omega))
  have ho3 := owns_below ho2 hb3
  have hz3 := hb3.size
  clear hb3 hB2 ho2
  go_wp2
  go_loopw [5, 7] (fun v i wr => ∃ k g c : Nat, (k : Int) ≤ f.len ∧ i = .int .i64 ((k : Int) + 1) ∧ v = .slice (some ⟨g, 0, none⟩) k c ∧ wr.ownsRow (w.heap.size + 2) 3 1 v k (ints (P.plc f k)) ∧ Below (w.heap.size + 2) ((w.alloc (.cells #[.int .i64 P.rows, .int .i64 P.cols, .slice (some ⟨b, 0, none⟩) P.cells.length cap, .int .i64 P.cursor] 77)).alloc (.cells #[.int .i64 f.start, .int .i64 f.len, .int .u8 f.attr] 153)) wr) (fun _ i _ => (f.len + 1 - intOf i).toNat)
  case atStart =>
    exact ⟨0, _, _, hl0, rfl, rfl, ho3, hB3⟩
  case round =>
    obtain ⟨k, g, c, hk, rfl, rfl, hown, hB⟩ := hrel
    have y0 : wr.cell? ⟨w.heap.size, 2, none⟩ = some (.slice (some ⟨b, 0, none⟩) P.cells.length cap) := (hB.cell (p := ⟨w.heap.size, 2, none⟩) (by show w.heap.size < w.heap.size + 2; omega)).trans (by simp [go_sem])
    have y1 : wr.cell? ⟨w.heap.size + 1, 0, none⟩ = some (.int .i64 f.start) := (hB.cell (p := ⟨w.heap.size + 1, 0, none⟩) (by show w.heap.size + 1 < w.heap.size + 2; omega)).trans (by simp [go_sem])
    have hzB := hB.size
    simp only [World.size_alloc] at hzB
    have hge := (hown.lt g rfl).1
    by_cases hlt : (k : Int) < f.len
    · go_wp2_with (at_builtin; obtain ⟨i0, hi, hz0, hz1, hz2⟩ := info_parts HI.out; refine wpList_append_lies _ rfl _ _ 68 rfl (w.heap.size + 2) 3 i0 _ 1 8 Try.underlying68 hi hz0 hz1 hz2 rfl (by decide) _ _ _ rfl (hown.alloc _) ⟨wr.heap.size, 0, none⟩ 1 1 [.int .i64 ((f.start + ((k : Int) + 1)) % (P.cells.length : Int))] rfl rfl (news_new _ _ _ _ rfl) (by intro u hu; simp at hu; subst hu; rfl) (by decide) (by unfold maxLen; omega) (by omega) (by simp; omega) (wr.heap.size + 1) (by simp) ?_; clear hi hz0 hz1 hz2; intro g2 c2 w4 hown2 hgr hat hlt4)
      go_wp2
      go_roundw
      case rel =>
        exact ⟨k + 1, g2, c2, by omega, by go_num, rfl, by rw [P.plc_step]; simpa [ints] using hown2, (hB.alloc (by omega) _).grown hgr (by simp; omega) (fun j e => by cases e; exact hge)⟩
      case measure => simp [intOf]; omega
    · have e : k = f.len.toNat := by omega
      subst e
      go_wp2
      go_ret
      obtain ⟨h1, r, h2⟩ := owns_row hown
      exact ⟨g, c, r, by rw [P.plc_len]; rfl, h2, by omega, ((Below.refl w.heap.size w).alloc (by omega) _).alloc (by simp) _ |>.trans (hB.mono (by omega))⟩
end Go.Proofs.Ytbkddgeocmkegaa
