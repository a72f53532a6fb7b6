/- Lemmas on the way to this seat's statements; they bear no condition of their own. -/
import Derived.Test.YtbkddgeocmkegaaProg
import Derived.Test.YtbkddgeocmkegaaPl
import Derived.WalkKit
import Derived.Deep.QuietTactic
import Derived.BigQuiet
import Derived.LoopTactic
import Derived.Outline
namespace Go.Proofs.Ytbkddgeocmkegaa
open Go.RowKit
set_option linter.unusedSimpArgs false
set_option linter.unusedVariables false
set_option maxHeartbeats 400000

theorem bcell {W w1 : World} (hb : Below W.heap.size W w1) : (∀ b o, b < W.heap.size → w1.cell? ⟨b, o, none⟩ = W.cell? ⟨b, o, none⟩) ∧ (∀ b o, b < W.heap.size → w1.frozen? ⟨b, o, none⟩ = W.frozen? ⟨b, o, none⟩) :=
  ⟨fun b o h => hb.cell (p := ⟨b, o, none⟩) h, fun b o h => hb.frozen (p := ⟨b, o, none⟩) h⟩

theorem lt_of_block {w : World} {g : Nat} {o : Obj} (h : w.heap[g]? = some o) : g < w.heap.size := by
  rcases Nat.lt_or_ge g w.heap.size with h1 | h1
  · exact h1
  · rw [Array.getElem?_eq_none h1] at h; simp at h

namespace PL
variable {w : World} {g b cap : Nat} {P : Pl}
theorem gl (h : PL w g b cap P) : g < w.heap.size := lt_of_block h.hg
theorem bl (h : PL w g b cap P) : b < w.heap.size := let ⟨_, h'⟩ := h.hb; lt_of_block h'
theorem f0 (h : PL w g b cap P) : w.cell? ⟨g, 0, none⟩ = some (.int .i64 P.rows) := by simp [World.cell?, h.hg]
theorem f1 (h : PL w g b cap P) : w.cell? ⟨g, 1, none⟩ = some (.int .i64 P.cols) := by simp [World.cell?, h.hg]
theorem f2 (h : PL w g b cap P) : w.cell? ⟨g, 2, none⟩ = some (.slice (some ⟨b, 0, none⟩) P.cells.length cap) := by simp [World.cell?, h.hg]
theorem f3 (h : PL w g b cap P) : w.cell? ⟨g, 3, none⟩ = some (.int .i64 P.cursor) := by simp [World.cell?, h.hg]
theorem fz (h : PL w g b cap P) (o : Nat) : w.frozen? ⟨g, o, none⟩ = false := by simp [World.frozen?, h.hg]
theorem fzb (h : PL w g b cap P) (o : Nat) : w.frozen? ⟨b, o, none⟩ = false := by obtain ⟨r, hb⟩ := h.hb; simp [World.frozen?, hb]
theorem cell (h : PL w g b cap P) (i : Nat) (hi : i < P.cells.length) (k : Nat) (hk : k < 5) : w.cell? ⟨b, i * 5 + k, none⟩ = (P.cells[i].vals)[k]? := by
  obtain ⟨r, hb⟩ := h.hb
  simp only [World.cell?, hb]
  simp only [Option.isSome_none, Bool.false_eq_true, if_false, List.getElem?_toArray]
  rw [List.getElem?_append_left (by rw [flat_len]; omega), flat_get _ _ hi _ hk]
theorem below {w' : World} (h : PL w g b cap P) (hb : Below w.heap.size w w') : PL w' g b cap P :=
  ⟨(hb.block g h.gl).trans h.hg, let ⟨r, h'⟩ := h.hb; ⟨r, (hb.block b h.bl).trans h'⟩, h.ne, h.ok⟩
end PL

theorem Len_any {w : World} {g b cap : Nat} {P : Pl} (h : PL w g b cap P) :
    Calls Try.prog 25 #[.pointer (some ⟨g, 0, none⟩)] w fun e w' => e = .returned (.int .i64 (P.cells.length : Int)) ∧ Below w.heap.size w w' := by
  have f2 := h.f2
  go_enter Try.func25, Try.ntmps25
  go_wp2
  go_ret
  exact ⟨rfl, Below.refl _ _⟩

theorem has_any {w : World} {g b cap : Nat} {P : Pl} (h : PL w g b cap P) (i : Int) :
    Calls Try.prog 109 #[.pointer (some ⟨g, 0, none⟩), .int .i64 i] w fun e w' => e = .returned (.bool (decide (0 ≤ i ∧ i < (P.cells.length : Int)))) ∧ Below w.heap.size w w' := by
  have f2 := h.f2
  by_cases hi : 0 ≤ i
  · go_enter Try.func109, Try.ntmps109
    go_wp2
    go_ret
    exact ⟨by simp [hi], Below.refl _ _⟩
  · go_enter Try.func109, Try.ntmps109
    go_wp2
    go_ret
    exact ⟨by simp; omega, Below.refl _ _⟩

theorem At_any {w : World} {g b cap : Nat} {P : Pl} (h : PL w g b cap P) (i : Int) :
    Calls Try.prog 55 #[.pointer (some ⟨g, 0, none⟩), .int .i64 i] w fun e w' => e = .returned (.agg #[.int .u8 (P.at i).byte, .bool (P.at i).ge, .bool (P.at i).start, .int .u8 (P.at i).light, .int .u8 (P.at i).color]) ∧ Below w.heap.size w w' := by
  have gl := h.gl
  have f2 := h.f2
  go_enter Try.func55, Try.ntmps55
  go_wp2_with fail
  refine (has_any (h.below ((Below.refl _ _).alloc (Nat.le_refl _) _)) _).mono ?_
  rintro e w1 ⟨rfl, hb⟩
  obtain ⟨hc, hf⟩ := bcell hb
  by_cases hi : 0 ≤ i ∧ i < (P.cells.length : Int)
  · have hd : decide (0 ≤ i ∧ i < (P.cells.length : Int)) = true := decide_eq_true hi
    have k0 := h.cell i.toNat (by omega) 0 (by omega)
    have k1 := h.cell i.toNat (by omega) 1 (by omega)
    have k2 := h.cell i.toNat (by omega) 2 (by omega)
    have k3 := h.cell i.toNat (by omega) 3 (by omega)
    have k4 := h.cell i.toNat (by omega) 4 (by omega)
    simp [Cell.vals] at k0 k1 k2 k3 k4
    have bl := h.bl
    obtain ⟨i0, i1⟩ := hi
    go_wp2
    exact bodyPost_ret (v := .agg #[.int .u8 (P.cells[i.toNat]).byte, .bool (P.cells[i.toNat]).ge, .bool (P.cells[i.toNat]).start, .int .u8 (P.cells[i.toNat]).light, .int .u8 (P.cells[i.toNat]).color]) (by simp [results, Try.results55, go_sem, hc, Cell.agg]) rfl ⟨by rw [Pl.at, if_pos ⟨i0, i1⟩, getD_lt], by with_reducible (repeat (first | exact Below.refl _ _ | assumption | (refine Below.setCell ?_ (by simp) _) | (refine Below.alloc ?_ (by simp) _) | (refine Below.drewN ?_ _) | (refine Below.trans ?_ (Below.mono hb (by simp)))))⟩
  · have hd : decide (0 ≤ i ∧ i < (P.cells.length : Int)) = false := decide_eq_false hi
    go_wp2
    exact bodyPost_ret (v := .agg #[.int .u8 (Cell.zero).byte, .bool (Cell.zero).ge, .bool (Cell.zero).start, .int .u8 (Cell.zero).light, .int .u8 (Cell.zero).color]) (by simp [results, Try.results55, go_sem, hc, Cell.agg, Cell.zero]) rfl ⟨by rw [Pl.at, if_neg hi], by with_reducible (repeat (first | exact Below.refl _ _ | assumption | (refine Below.setCell ?_ (by simp) _) | (refine Below.alloc ?_ (by simp) _) | (refine Below.drewN ?_ _) | (refine Below.trans ?_ (Below.mono hb (by simp)))))⟩
end Go.Proofs.Ytbkddgeocmkegaa
