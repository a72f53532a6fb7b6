/- Lemmas on the way to this seat's statements; they bear no condition of their own. -/
import Derived.Test.YtbkddgeocmkegaaR4
namespace Go.Proofs.Ytbkddgeocmkegaa
open Go.RowKit Go.Shelf
set_option linter.unusedSimpArgs false
set_option linter.unusedVariables false
set_option maxHeartbeats 2000000
attribute [local go_sem ↓] run_start run_byte run_cols

theorem flds_at (P : Pl) (k : Nat) (h : k < P.flds.length) : P.flds[k] = P.fld ((P.starts[k]'(by rwa [flds_len] at h) : Nat) : Int) := by simp [Pl.flds]
theorem fld_ok {P : Pl} (hok : P.ok) (k : Nat) (h : k < P.flds.length) : 0 ≤ P.flds[k].start ∧ P.flds[k].start < (P.cells.length : Int) ∧ 0 ≤ P.flds[k].len ∧ P.flds[k].len < (P.cells.length : Int) ∧ 0 ≤ P.flds[k].attr ∧ P.flds[k].attr ≤ 255 := by
  rw [flds_at]
  have h' : k < P.starts.length := by rwa [flds_len] at h
  have m := P.starts_mem (List.getElem_mem h')
  obtain ⟨l, hl, e, -, -⟩ := Pl.len_spec hok m.1 m.2
  have ha := low6_ok (P.at (P.starts[k] : Int)).byte
  refine ⟨?_, ?_, ?_, ?_, ha⟩
  · show (0 : Int) ≤ P.starts[k]; omega
  · show (P.starts[k] : Int) < _; omega
  · rw [e]; omega
  · rw [e]; omega
theorem ofs_start (P : Pl) (s : Nat) (hs : s < P.cells.length) (at' : Int) (hl : 0 ≤ (P.fld (s : Int)).len) (h : (P.fld (s : Int)).start = at') : P.ofs s at' :=
  ⟨0, by omega, by rw [Nat.add_zero, Nat.mod_eq_of_lt hs, ← h]; rfl⟩
theorem ofs_plc (P : Pl) (s : Nat) (at' : Int) (m : Nat) (hm : (m : Int) < (P.fld (s : Int)).len) (h : ((P.fld (s : Int)).start + ((m : Int) + 1)) % (P.cells.length : Int) = at') : P.ofs s at' :=
  ⟨m + 1, by omega, by rw [← h]; push_cast; rfl⟩
theorem not_ofs (P : Pl) (s : Nat) (hs : s < P.cells.length) (at' : Int) (h0 : (P.fld (s : Int)).start ≠ at') (h : ∀ m : Nat, (m : Int) < (P.fld (s : Int)).len → ((P.fld (s : Int)).start + ((m : Int) + 1)) % (P.cells.length : Int) ≠ at') : ¬ P.ofs s at' := by
  rintro ⟨i, hi, e⟩
  cases i with
  | zero => rw [Nat.add_zero, Nat.mod_eq_of_lt hs] at e; exact h0 e.symm
  | succ i =>
    refine h i (by push_cast at hi; omega) ?_
    rw [e]
    push_cast
    rfl
theorem of_found {P : Pl} (hok : P.ok) {k : Nat} (hk : k < P.flds.length) {at' : Int} (h : P.ofs (P.starts[k]'(by rwa [flds_len] at hk)) at') : P.ofF at' = P.flds[k] ∧ P.ofB at' = true := by
  have h' : k < P.starts.length := by rwa [flds_len] at hk
  have m := P.starts_mem (List.getElem_mem h')
  have e := Pl.before_of hok m.1 m.2 h
  refine ⟨?_, ?_⟩
  · unfold Pl.ofF; rw [e, if_pos (by omega), flds_at]
  · unfold Pl.ofB; rw [e]; exact decide_eq_true (by omega)
theorem of_none {P : Pl} (hok : P.ok) {at' : Int} (h : ∀ (k : Nat) (hk : k < P.starts.length), ¬ P.ofs P.starts[k] at') : P.ofF at' = ⟨0, 0, 0⟩ ∧ P.ofB at' = false := by
  have e : ¬ 0 ≤ P.before at' := Pl.before_none hok (fun s hs hst => by
    obtain ⟨c, hc, rfl⟩ := P.starts_ix hs hst
    exact h c hc)
  refine ⟨?_, ?_⟩
  · unfold Pl.ofF; rw [if_neg e]
  · unfold Pl.ofB; exact decide_eq_false e

theorem keep4f {W w2 : World} {a b c d e f g : Addr} {v u x y z s t : Value} (h : (W.cell? a = some v ∧ W.cell? b = some u ∧ W.cell? c = some x ∧ W.cell? d = some y) ∧ W.cell? e = some z ∧ W.cell? f = some s ∧ W.cell? g = some t) (hb : Below W.heap.size W w2) : (w2.cell? a = some v ∧ w2.cell? b = some u ∧ w2.cell? c = some x ∧ w2.cell? d = some y) ∧ w2.cell? e = some z ∧ w2.cell? f = some s ∧ w2.cell? g = some t :=
  ⟨keep4 h.1 hb, cell_keep h.2.1 hb, cell_keep h.2.2.1 hb, cell_keep h.2.2.2 hb⟩

set_option maxRecDepth 100000 in
theorem rOf_any {w : World} {b cap : Nat} {P : Pl} (h : RC w b P) (at' : Int) :
    Calls Try.prog 96 #[.agg #[.int .i64 P.rows, .int .i64 P.cols, .slice (some ⟨b, 0, none⟩) P.cells.length cap, .int .i64 P.cursor], .int .i64 at'] w fun e w' => e = .returned (.tuple #[.agg #[.int .i64 (P.ofF at').start, .int .i64 (P.ofF at').len, .int .u8 (P.ofF at').attr], .bool (P.ofB at')]) ∧ Below w.heap.size w w' := by
  have hn := Pl.N_pos h.ok
  have hm := Pl.N_le h.ok
  have hbl := h.bl
  have hfl := flds_len P
  have hsn := starts_le_n P
  rw [← hfl] at hsn
  go_enter Try.func96, Try.ntmps96
  go_wp2_with fail
  refine (rAll_any (h.below (by with_reducible (repeat (first | exact Below.refl _ _ | assumption | (refine Below.setCell ?_ (by first | omega | (simp; done) | (simp; omega)) _) | (refine Below.alloc ?_ (by first | omega | (simp; done) | (simp; omega)) _) | (refine below_drewN ?_ _) | (refine Below.drew ?_) | (refine Below.trans ?_ (Below.mono hb (by first | omega | (simp; done) | (simp; omega)))) | (refine Below.trans ?_ (Below.mono hb1 (by first | omega | (simp; done) | (simp; omega)))) | (refine Below.trans ?_ (Below.mono hb2 (by first | omega | (simp; done) | (simp; omega)))) | (refine Below.trans ?_ (Below.mono hb3 (by first | omega | (simp; done) | (simp; omega)))) | (refine Below.trans ?_ (Below.mono hb4 (by first | omega | (simp; done) | (simp; omega)))) | (refine Below.trans ?_ (Below.mono hb5 (by first | omega | (simp; done) | (simp; omega)))) | (refine Below.trans ?_ (Below.mono hb6 (by first | omega | (simp; done) | (simp; omega)))) | (refine Below.trans ?_ (Below.mono hb7 (by first | omega | (simp; done) | (simp; omega)))) | (refine Below.trans ?_ (Below.mono hb8 (by first | omega | (simp; done) | (simp; omega)))) | (refine Below.trans ?_ (Below.mono hb9 (by first | omega | (simp; done) | (simp; omega)))) | (refine Below.trans ?_ (Below.mono hb10 (by first | omega | (simp; done) | (simp; omega)))) | (refine Below.trans ?_ (Below.mono hb11 (by first | omega | (simp; done) | (simp; omega)))) | (refine Below.trans ?_ (Below.mono hb12 (by first | omega | (simp; done) | (simp; omega))))))))).mono ?_
  rintro e w3 ⟨ga, ca, ra, rfl, hla, hgea, hb3⟩
  have hB3 : Below w.heap.size w w3 := by with_reducible (repeat (first | exact Below.refl _ _ | assumption | (refine Below.setCell ?_ (by first | omega | (simp; done) | (simp; omega)) _) | (refine Below.alloc ?_ (by first | omega | (simp; done) | (simp; omega)) _) | (refine below_drewN ?_ _) | (refine Below.drew ?_) | (refine Below.trans ?_ (Below.mono hb (by first | omega | (simp; done) | (simp; omega)))) | (refine Below.trans ?_ (Below.mono hb1 (by first | omega | (simp; done) | (simp; omega)))) | (refine Below.trans ?_ (Below.mono hb2 (by first | omega | (simp; done) | (simp; omega)))) | (refine Below.trans ?_ (Below.mono hb3 (by first | omega | (simp; done) | (simp; omega)))) | (refine Below.trans ?_ (Below.mono hb4 (by first | omega | (simp; done) | (simp; omega)))) | (refine Below.trans ?_ (Below.mono hb5 (by first | omega | (simp; done) | (simp; omega)))) | (refine Below.trans ?_ (Below.mono hb6 (by first | omega | (simp; done) | (simp; omega)))) | (refine Below.trans ?_ (Below.mono hb7 (by first | omega | (simp; done) | (simp; omega)))) | (refine Below.trans ?_ (Below.mono hb8 (by first | omega | (simp; done) | (simp; omega)))) | (refine Below.trans ?_ (Below.mono hb9 (by first | omega | (simp; done) | (simp; omega)))) | (refine Below.trans ?_ (Below.mono hb10 (by first | omega | (simp; done) | (simp; omega)))) | (refine Below.trans ?_ (Below.mono hb11 (by first | omega | (simp; done) | (simp; omega)))) | (refine Below.trans ?_ (Below.mono hb12 (by first | omega | (simp; done) | (simp; omega))))))
  have hz3 := hb3.size
  simp only [World.size_alloc] at hgea hz3
  have x0 : w3.cell? ⟨w.heap.size, 0, none⟩ = some (.int .i64 P.rows) := (hb3.cell (p := ⟨w.heap.size, 0, none⟩) (by simp; omega)).trans (by simp [go_sem])
  have x1 : w3.cell? ⟨w.heap.size, 1, none⟩ = some (.int .i64 P.cols) := (hb3.cell (p := ⟨w.heap.size, 1, none⟩) (by simp; omega)).trans (by simp [go_sem])
  have x2 : w3.cell? ⟨w.heap.size, 2, none⟩ = some (.slice (some ⟨b, 0, none⟩) P.cells.length cap) := (hb3.cell (p := ⟨w.heap.size, 2, none⟩) (by simp; omega)).trans (by simp [go_sem])
  have x3 : w3.cell? ⟨w.heap.size, 3, none⟩ = some (.int .i64 P.cursor) := (hb3.cell (p := ⟨w.heap.size, 3, none⟩) (by simp; omega)).trans (by simp [go_sem])
  have y0 : w3.cell? ⟨w.heap.size + 1, 0, none⟩ = some (.int .i64 0) := (hb3.cell (p := ⟨w.heap.size + 1, 0, none⟩) (by simp)).trans (by simp [go_sem])
  have y1 : w3.cell? ⟨w.heap.size + 1, 1, none⟩ = some (.int .i64 0) := (hb3.cell (p := ⟨w.heap.size + 1, 1, none⟩) (by simp)).trans (by simp [go_sem])
  have y2 : w3.cell? ⟨w.heap.size + 1, 2, none⟩ = some (.int .u8 0) := (hb3.cell (p := ⟨w.heap.size + 1, 2, none⟩) (by simp)).trans (by simp [go_sem])
  have z0 : w3.frozen? ⟨w.heap.size + 1, 0, none⟩ = false := (hb3.frozen (p := ⟨w.heap.size + 1, 0, none⟩) (by simp)).trans (by simp [go_sem])
  have z1 : w3.frozen? ⟨w.heap.size + 1, 1, none⟩ = false := (hb3.frozen (p := ⟨w.heap.size + 1, 1, none⟩) (by simp)).trans (by simp [go_sem])
  have z2 : w3.frozen? ⟨w.heap.size + 1, 2, none⟩ = false := (hb3.frozen (p := ⟨w.heap.size + 1, 2, none⟩) (by simp)).trans (by simp [go_sem])
  clear hb3
  have HX := Lib.hid (And.intro (And.intro x0 (And.intro x1 (And.intro x2 x3))) (And.intro (And.intro y0 (And.intro y1 y2)) (And.intro z0 (And.intro z1 z2))))
  clear x0 x1 x2 x3 y0 y1 y2 z0 z1 z2
  go_wp2
  go_loopw [7] (fun i wr => ∃ k : Nat, k ≤ P.flds.length ∧ i = .int .i64 (k : Int) ∧ Below w3.heap.size w3 wr ∧ ∀ (j : Nat) (hj : j < P.starts.length), j < k → ¬ P.ofs P.starts[j] at') (fun i _ => P.flds.length - (intOf i).toNat)
  case atStart => exact ⟨0, Nat.zero_le _, rfl, Below.refl _ _, fun j _ hj => absurd hj (Nat.not_lt_zero _)⟩
  case round =>
    obtain ⟨k, hk, rfl, hB, hf⟩ := hrel
    have HF := Lib.hid hf
    clear hf
    obtain ⟨⟨x0, x1, x2, x3⟩, ⟨y0, y1, y2⟩, z0, z1, z2⟩ := HX.out
    have hzB := hB.size
    have hBw : Below w.heap.size w wr := hB3.trans (hB.mono (by omega))
    replace x0 := cell_keep x0 hB
    replace x1 := cell_keep x1 hB
    replace x2 := cell_keep x2 hB
    replace x3 := cell_keep x3 hB
    by_cases hlt : k < P.flds.length
    · have hlt' : (k : Int) < (P.flds.length : Int) := by omega
      have hlt2 : k < P.starts.length := by omega
      obtain ⟨s0, s1, l0, l1, a0, a1⟩ := fld_ok h.ok k hlt
      obtain ⟨f0, f1, f2⟩ := fcl_get ((hB.block ga (lt_of_block hla)).trans hla) k hlt
      have hEF := flds_at P k hlt
      have hmem := (P.starts_mem (List.getElem_mem hlt2)).1
      obtain ⟨f, hfe⟩ : ∃ f, P.flds[k] = f := ⟨_, rfl⟩
      obtain ⟨s, hse⟩ : ∃ s, P.starts[k] = s := ⟨_, rfl⟩
      have HFOUND : Hid (P.ofs s at' → P.ofF at' = f ∧ P.ofB at' = true) := by
        rw [← hfe, ← hse]; exact Lib.hid (of_found h.ok hlt)
      rw [hse] at hmem
      rw [hfe] at s0 s1 l0 l1 a0 a1 f0 f1 f2
      rw [hfe, hse] at hEF
      have HE := Lib.hid hEF
      have HFE := Lib.hid hfe
      have HS := Lib.hid hse
      clear hEF hfe hse
      by_cases hst : f.start = at'
      · obtain ⟨E1, E2⟩ := HFOUND.out (ofs_start P s hmem at' (by rw [← HE.out]; exact l0) (by rw [← HE.out]; exact hst))
        have E1' := Lib.hid E1
        have E2' := Lib.hid E2
        clear E1 E2
        replace y0 := cell_keep y0 hB
        replace y1 := cell_keep y1 hB
        replace y2 := cell_keep y2 hB
        replace z0 := (hB.frozen (p := ⟨w.heap.size + 1, 0, none⟩) (by simp; omega)).trans z0
        replace z1 := (hB.frozen (p := ⟨w.heap.size + 1, 1, none⟩) (by simp; omega)).trans z1
        replace z2 := (hB.frozen (p := ⟨w.heap.size + 1, 2, none⟩) (by simp; omega)).trans z2
        go_wp2
        exact bodyPost_ret (v := .tuple #[.agg #[.int .i64 at', .int .i64 f.len, .int .u8 f.attr], .bool true]) (by simp [results, Try.results96, go_sem, y0, y1, y2]) rfl ⟨by rw [E1'.out, E2'.out, hst], ((hB3.trans (hB.mono (by omega))).setCell (by simp) _).setCell (by simp) _ |>.setCell (by simp) _⟩
      · go_wp2
        go_region_held3 (fun W => (W.cell? ⟨w.heap.size, 0, none⟩ = some (.int .i64 P.rows) ∧ W.cell? ⟨w.heap.size, 1, none⟩ = some (.int .i64 P.cols) ∧ W.cell? ⟨w.heap.size, 2, none⟩ = some (.slice (some ⟨b, 0, none⟩) P.cells.length cap) ∧ W.cell? ⟨w.heap.size, 3, none⟩ = some (.int .i64 P.cursor)) ∧ W.cell? ⟨ga, k * 3, none⟩ = some (.int .i64 f.start) ∧ W.cell? ⟨ga, k * 3 + 1, none⟩ = some (.int .i64 f.len) ∧ W.cell? ⟨ga, k * 3 + 2, none⟩ = some (.int .u8 f.attr))
          (first | go_keep | exact keep4f (by assumption) hb5) (first | (go_at_call 159; refine (rPlaces_any (h.below (by with_reducible (repeat (first | exact Below.refl _ _ | assumption | (refine Below.setCell ?_ (by first | omega | (simp; done) | (simp; omega)) _) | (refine Below.alloc ?_ (by first | omega | (simp; done) | (simp; omega)) _) | (refine below_drewN ?_ _) | (refine Below.drew ?_) | (refine Below.trans ?_ (Below.mono hb (by first | omega | (simp; done) | (simp; omega)))) | (refine Below.trans ?_ (Below.mono hb1 (by first | omega | (simp; done) | (simp; omega)))) | (refine Below.trans ?_ (Below.mono hb2 (by first | omega | (simp; done) | (simp; omega)))) | (refine Below.trans ?_ (Below.mono hb3 (by first | omega | (simp; done) | (simp; omega)))) | (refine Below.trans ?_ (Below.mono hb4 (by first | omega | (simp; done) | (simp; omega)))) | (refine Below.trans ?_ (Below.mono hb5 (by first | omega | (simp; done) | (simp; omega)))) | (refine Below.trans ?_ (Below.mono hb6 (by first | omega | (simp; done) | (simp; omega)))) | (refine Below.trans ?_ (Below.mono hb7 (by first | omega | (simp; done) | (simp; omega)))) | (refine Below.trans ?_ (Below.mono hb8 (by first | omega | (simp; done) | (simp; omega)))) | (refine Below.trans ?_ (Below.mono hb9 (by first | omega | (simp; done) | (simp; omega)))) | (refine Below.trans ?_ (Below.mono hb10 (by first | omega | (simp; done) | (simp; omega)))) | (refine Below.trans ?_ (Below.mono hb11 (by first | omega | (simp; done) | (simp; omega)))) | (refine Below.trans ?_ (Below.mono hb12 (by first | omega | (simp; done) | (simp; omega)))))))) f s0 s1 l0 (by omega)).mono ?_; rintro e w5 ⟨gp, cp, rp, rfl, hlp, hgep, hb5⟩))
        have hB5 : Below w3.heap.size w3 w5 := by with_reducible (repeat (first | exact Below.refl _ _ | assumption | (refine Below.setCell ?_ (by first | omega | (simp; done) | (simp; omega)) _) | (refine Below.alloc ?_ (by first | omega | (simp; done) | (simp; omega)) _) | (refine below_drewN ?_ _) | (refine Below.drew ?_) | (refine Below.trans ?_ (Below.mono hb (by first | omega | (simp; done) | (simp; omega)))) | (refine Below.trans ?_ (Below.mono hb1 (by first | omega | (simp; done) | (simp; omega)))) | (refine Below.trans ?_ (Below.mono hb2 (by first | omega | (simp; done) | (simp; omega)))) | (refine Below.trans ?_ (Below.mono hb3 (by first | omega | (simp; done) | (simp; omega)))) | (refine Below.trans ?_ (Below.mono hb4 (by first | omega | (simp; done) | (simp; omega)))) | (refine Below.trans ?_ (Below.mono hb5 (by first | omega | (simp; done) | (simp; omega)))) | (refine Below.trans ?_ (Below.mono hb6 (by first | omega | (simp; done) | (simp; omega)))) | (refine Below.trans ?_ (Below.mono hb7 (by first | omega | (simp; done) | (simp; omega)))) | (refine Below.trans ?_ (Below.mono hb8 (by first | omega | (simp; done) | (simp; omega)))) | (refine Below.trans ?_ (Below.mono hb9 (by first | omega | (simp; done) | (simp; omega)))) | (refine Below.trans ?_ (Below.mono hb10 (by first | omega | (simp; done) | (simp; omega)))) | (refine Below.trans ?_ (Below.mono hb11 (by first | omega | (simp; done) | (simp; omega)))) | (refine Below.trans ?_ (Below.mono hb12 (by first | omega | (simp; done) | (simp; omega))))))
        have hBw5 : Below w.heap.size w w5 := by with_reducible (repeat (first | exact Below.refl _ _ | assumption | (refine Below.setCell ?_ (by first | omega | (simp; done) | (simp; omega)) _) | (refine Below.alloc ?_ (by first | omega | (simp; done) | (simp; omega)) _) | (refine below_drewN ?_ _) | (refine Below.drew ?_) | (refine Below.trans ?_ (Below.mono hb (by first | omega | (simp; done) | (simp; omega)))) | (refine Below.trans ?_ (Below.mono hb1 (by first | omega | (simp; done) | (simp; omega)))) | (refine Below.trans ?_ (Below.mono hb2 (by first | omega | (simp; done) | (simp; omega)))) | (refine Below.trans ?_ (Below.mono hb3 (by first | omega | (simp; done) | (simp; omega)))) | (refine Below.trans ?_ (Below.mono hb4 (by first | omega | (simp; done) | (simp; omega)))) | (refine Below.trans ?_ (Below.mono hb5 (by first | omega | (simp; done) | (simp; omega)))) | (refine Below.trans ?_ (Below.mono hb6 (by first | omega | (simp; done) | (simp; omega)))) | (refine Below.trans ?_ (Below.mono hb7 (by first | omega | (simp; done) | (simp; omega)))) | (refine Below.trans ?_ (Below.mono hb8 (by first | omega | (simp; done) | (simp; omega)))) | (refine Below.trans ?_ (Below.mono hb9 (by first | omega | (simp; done) | (simp; omega)))) | (refine Below.trans ?_ (Below.mono hb10 (by first | omega | (simp; done) | (simp; omega)))) | (refine Below.trans ?_ (Below.mono hb11 (by first | omega | (simp; done) | (simp; omega)))) | (refine Below.trans ?_ (Below.mono hb12 (by first | omega | (simp; done) | (simp; omega))))))
        have hz5 := hB5.size
        clear hb5 hgep x0 x1 x2 x3 f0 f1 f2
        rw [P.plc_len]
        have hfl2 : ((f.len.toNat : Nat) : Int) = f.len := by omega
        go_wp2
        go_loopw [9] (fun i wq => ∃ m : Nat, (m : Int) ≤ f.len ∧ i = .int .i64 (m : Int) ∧ Below w5.heap.size w5 wq ∧ ∀ j : Nat, j < m → (f.start + ((j : Int) + 1)) % (P.cells.length : Int) ≠ at') (fun i _ => f.len.toNat - (intOf i).toNat)
        case atStart => exact ⟨0, l0, rfl, Below.refl _ _, fun j hj => absurd hj (Nat.not_lt_zero _)⟩
        case round =>
          obtain ⟨m, hm', rfl, hBq, hg⟩ := hrel
          have HG := Lib.hid hg
          clear hg
          have hBq3 : Below w3.heap.size w3 _ := hB5.trans (hBq.mono (by omega))
          by_cases hmlt : (m : Int) < f.len
          · have c0 := ints_get ((hBq.block gp (lt_of_block hlp)).trans hlp) m (by rw [P.plc_len]; omega)
            rw [P.plc_get] at c0
            obtain ⟨q, hq⟩ : ∃ q, (f.start + ((m : Int) + 1)) % (P.cells.length : Int) = q := ⟨_, rfl⟩
            rw [hq] at c0
            have HQ := Lib.hid hq
            clear hq
            by_cases hqa : q = at'
            · obtain ⟨E1, E2⟩ := HFOUND.out (ofs_plc P s at' m (by rw [← HE.out]; exact hmlt) (by rw [← HE.out, HQ.out, hqa]))
              have E1' := Lib.hid E1
              have E2' := Lib.hid E2
              clear E1 E2
              replace y0 := cell_keep y0 hBq3
              replace y1 := cell_keep y1 hBq3
              replace y2 := cell_keep y2 hBq3
              replace z0 := (hBq3.frozen (p := ⟨w.heap.size + 1, 0, none⟩) (by simp; omega)).trans z0
              replace z1 := (hBq3.frozen (p := ⟨w.heap.size + 1, 1, none⟩) (by simp; omega)).trans z1
              replace z2 := (hBq3.frozen (p := ⟨w.heap.size + 1, 2, none⟩) (by simp; omega)).trans z2
              have hff := fcl_get ((hBq3.block ga (lt_of_block hla)).trans hla) k hlt
              rw [HFE.out] at hff
              obtain ⟨f0, f1, f2⟩ := hff
              have hfst := Lib.hid hst
              clear hst
              go_wp2
              exact bodyPost_ret (v := .tuple #[.agg #[.int .i64 f.start, .int .i64 f.len, .int .u8 f.attr], .bool true]) (by simp [results, Try.results96, go_sem, y0, y1, y2]) rfl ⟨by rw [E1'.out, E2'.out], (((hB3.trans (hBq3.mono (by omega))).setCell (by simp) _).setCell (by simp) _).setCell (by simp) _⟩
            · go_wp2
              go_roundw
              case rel => exact ⟨m + 1, by omega, by go_num, hBq, fun j hj => by rcases Nat.lt_succ_iff_lt_or_eq.1 hj with hj | rfl; exact HG.out j hj; rw [HQ.out]; exact hqa⟩
              case measure => simp [intOf]; omega
          · go_wp2
            go_roundw
            case rel =>
              refine ⟨k + 1, by omega, by go_num, hBq3, fun j hj hjk => ?_⟩
              rcases Nat.lt_succ_iff_lt_or_eq.1 hjk with hjk | rfl
              · exact HF.out j hj hjk
              · rw [HS.out]
                refine not_ofs P s hmem at' (by rw [← HE.out]; exact hst) (fun m2 hm2 => ?_)
                rw [← HE.out] at hm2 ⊢
                exact HG.out m2 (by omega)
            case measure => simp [intOf]; omega
    · obtain ⟨E1, E2⟩ := of_none h.ok (fun j hj => HF.out j hj (by omega))
      have E1' := Lib.hid E1
      have E2' := Lib.hid E2
      clear E1 E2
      replace y0 := cell_keep y0 hB
      replace y1 := cell_keep y1 hB
      replace y2 := cell_keep y2 hB
      replace z0 := (hB.frozen (p := ⟨w.heap.size + 1, 0, none⟩) (by simp; omega)).trans z0
      replace z1 := (hB.frozen (p := ⟨w.heap.size + 1, 1, none⟩) (by simp; omega)).trans z1
      replace z2 := (hB.frozen (p := ⟨w.heap.size + 1, 2, none⟩) (by simp; omega)).trans z2
      go_wp2
      exact bodyPost_ret (v := .tuple #[.agg #[.int .i64 0, .int .i64 0, .int .u8 0], .bool false]) (by simp [results, Try.results96, go_sem, y0, y1, y2]) rfl ⟨by rw [E1'.out, E2'.out], ((hBw.setCell (by simp) _).setCell (by simp) _).setCell (by simp) _⟩
end Go.Proofs.Ytbkddgeocmkegaa
