/- Lemmas on the way to this seat's statements; they bear no condition of their own. -/
import Derived.Test.YtbkddgeocmkegaaR5
namespace Go.Proofs.Ytbkddgeocmkegaa
open Go.RowKit Go.Shelf
set_option linter.unusedSimpArgs false
set_option linter.unusedVariables false
set_option maxHeartbeats 2000000
attribute [local go_sem ↓] run_start run_byte run_cols

theorem openAt_out {P : Pl} (i : Int) (h : P.inB i = false) : P.openAt i = false := by
  have h' := of_decide_eq_false h
  have e : P.before i = -1 := Pl.look_out h'
  unfold Pl.openAt Pl.ofB
  rw [e]
  simpa using h

theorem box4k {w wr : World} {x0 x1 x2 x3 : Value} {T : TypeId} (h : Below (w.alloc (.cells #[x0, x1, x2, x3] T)).heap.size (w.alloc (.cells #[x0, x1, x2, x3] T)) wr) :
    wr.cell? ⟨w.heap.size, 0, none⟩ = some x0 ∧ wr.cell? ⟨w.heap.size, 1, none⟩ = some x1 ∧ wr.cell? ⟨w.heap.size, 2, none⟩ = some x2 ∧ wr.cell? ⟨w.heap.size, 3, none⟩ = some x3 := box4 (by simpa using h)

theorem rOpen_any {w : World} {b cap : Nat} {P : Pl} (h : RC w b P) (i : Int) :
    Calls Try.prog 97 #[.agg #[.int .i64 P.rows, .int .i64 P.cols, .slice (some ⟨b, 0, none⟩) P.cells.length cap, .int .i64 P.cursor], .int .i64 i] w fun e w' => e = .returned (.bool (P.openAt i)) ∧ Below w.heap.size w w' := by
  have ha := P.ofF_attr i
  cases hI : P.inB i
  · have E := Lib.hid (openAt_out i hI)
    go_enter Try.func97, Try.ntmps97
    go_wp2_with fail
    refine (rHas_any (P := P) (b := b) (cap := cap) _).mono ?_
    rintro e w1 ⟨rfl, hb1⟩
    have hz1 := hb1.size
    try simp only [World.size_alloc, World.size_drew, World.size_setCell] at hz1
    obtain ⟨hc1, hf1⟩ := bcell hb1
    go_wp2
    go_ret
    exact ⟨by rw [E.out]; rfl, by with_reducible (repeat (first | exact Below.refl _ _ | assumption | (refine Below.setCell ?_ (by first | omega | (simp; done) | (simp; omega)) _) | (refine Below.alloc ?_ (by first | omega | (simp; done) | (simp; omega)) _) | (refine below_drewN ?_ _) | (refine Below.drew ?_) | (refine Below.trans ?_ (Below.mono hb (by first | omega | (simp; done) | (simp; omega)))) | (refine Below.trans ?_ (Below.mono hb1 (by first | omega | (simp; done) | (simp; omega)))) | (refine Below.trans ?_ (Below.mono hb2 (by first | omega | (simp; done) | (simp; omega)))) | (refine Below.trans ?_ (Below.mono hb3 (by first | omega | (simp; done) | (simp; omega)))) | (refine Below.trans ?_ (Below.mono hb4 (by first | omega | (simp; done) | (simp; omega)))) | (refine Below.trans ?_ (Below.mono hb5 (by first | omega | (simp; done) | (simp; omega)))) | (refine Below.trans ?_ (Below.mono hb6 (by first | omega | (simp; done) | (simp; omega)))) | (refine Below.trans ?_ (Below.mono hb7 (by first | omega | (simp; done) | (simp; omega)))) | (refine Below.trans ?_ (Below.mono hb8 (by first | omega | (simp; done) | (simp; omega)))) | (refine Below.trans ?_ (Below.mono hb9 (by first | omega | (simp; done) | (simp; omega)))) | (refine Below.trans ?_ (Below.mono hb10 (by first | omega | (simp; done) | (simp; omega)))) | (refine Below.trans ?_ (Below.mono hb11 (by first | omega | (simp; done) | (simp; omega)))) | (refine Below.trans ?_ (Below.mono hb12 (by first | omega | (simp; done) | (simp; omega))))))⟩
  · cases hB : P.ofB i
    · have E := Lib.hid (show P.openAt i = true by unfold Pl.openAt; rw [hB]; exact hI)
      go_enter Try.func97, Try.ntmps97
      go_wp2_with fail
      refine (rHas_any (P := P) (b := b) (cap := cap) _).mono ?_
      rintro e w1 ⟨rfl, hb1⟩
      have hz1 := hb1.size
      try simp only [World.size_alloc, World.size_drew, World.size_setCell] at hz1
      obtain ⟨hc1, hf1⟩ := bcell hb1
      obtain ⟨x0, x1, x2, x3⟩ := box4k hb1
      go_wp2_with fail
      refine (rOf_any (h.below (by with_reducible (repeat (first | exact Below.refl _ _ | assumption | (refine Below.setCell ?_ (by first | omega | (simp; done) | (simp; omega)) _) | (refine Below.alloc ?_ (by first | omega | (simp; done) | (simp; omega)) _) | (refine below_drewN ?_ _) | (refine Below.drew ?_) | (refine Below.trans ?_ (Below.mono hb (by first | omega | (simp; done) | (simp; omega)))) | (refine Below.trans ?_ (Below.mono hb1 (by first | omega | (simp; done) | (simp; omega)))) | (refine Below.trans ?_ (Below.mono hb2 (by first | omega | (simp; done) | (simp; omega)))) | (refine Below.trans ?_ (Below.mono hb3 (by first | omega | (simp; done) | (simp; omega)))) | (refine Below.trans ?_ (Below.mono hb4 (by first | omega | (simp; done) | (simp; omega)))) | (refine Below.trans ?_ (Below.mono hb5 (by first | omega | (simp; done) | (simp; omega)))) | (refine Below.trans ?_ (Below.mono hb6 (by first | omega | (simp; done) | (simp; omega)))) | (refine Below.trans ?_ (Below.mono hb7 (by first | omega | (simp; done) | (simp; omega)))) | (refine Below.trans ?_ (Below.mono hb8 (by first | omega | (simp; done) | (simp; omega)))) | (refine Below.trans ?_ (Below.mono hb9 (by first | omega | (simp; done) | (simp; omega)))) | (refine Below.trans ?_ (Below.mono hb10 (by first | omega | (simp; done) | (simp; omega)))) | (refine Below.trans ?_ (Below.mono hb11 (by first | omega | (simp; done) | (simp; omega)))) | (refine Below.trans ?_ (Below.mono hb12 (by first | omega | (simp; done) | (simp; omega)))))))) _).mono ?_
      rintro e w2 ⟨rfl, hb2⟩
      replace hb2 := Below.trans hb1 (Below.mono hb2 hb1.size)
      clear hc1 hf1
      have hz2 := hb2.size
      try simp only [World.size_alloc, World.size_drew, World.size_setCell] at hz2
      obtain ⟨hc2, hf2⟩ := bcell hb2
      go_wp2
      go_ret
      exact ⟨by rw [E.out]; rfl, by with_reducible (repeat (first | exact Below.refl _ _ | assumption | (refine Below.setCell ?_ (by first | omega | (simp; done) | (simp; omega)) _) | (refine Below.alloc ?_ (by first | omega | (simp; done) | (simp; omega)) _) | (refine below_drewN ?_ _) | (refine Below.drew ?_) | (refine Below.trans ?_ (Below.mono hb (by first | omega | (simp; done) | (simp; omega)))) | (refine Below.trans ?_ (Below.mono hb1 (by first | omega | (simp; done) | (simp; omega)))) | (refine Below.trans ?_ (Below.mono hb2 (by first | omega | (simp; done) | (simp; omega)))) | (refine Below.trans ?_ (Below.mono hb3 (by first | omega | (simp; done) | (simp; omega)))) | (refine Below.trans ?_ (Below.mono hb4 (by first | omega | (simp; done) | (simp; omega)))) | (refine Below.trans ?_ (Below.mono hb5 (by first | omega | (simp; done) | (simp; omega)))) | (refine Below.trans ?_ (Below.mono hb6 (by first | omega | (simp; done) | (simp; omega)))) | (refine Below.trans ?_ (Below.mono hb7 (by first | omega | (simp; done) | (simp; omega)))) | (refine Below.trans ?_ (Below.mono hb8 (by first | omega | (simp; done) | (simp; omega)))) | (refine Below.trans ?_ (Below.mono hb9 (by first | omega | (simp; done) | (simp; omega)))) | (refine Below.trans ?_ (Below.mono hb10 (by first | omega | (simp; done) | (simp; omega)))) | (refine Below.trans ?_ (Below.mono hb11 (by first | omega | (simp; done) | (simp; omega)))) | (refine Below.trans ?_ (Below.mono hb12 (by first | omega | (simp; done) | (simp; omega))))))⟩
    · have E := Lib.hid (show P.openAt i = ((P.ofF i).start != i && !prot (P.ofF i).attr) by unfold Pl.openAt; rw [hB]; rfl)
      by_cases hs : (P.ofF i).start = i
      · have hs' : ((P.ofF i).start != i) = false := by rw [hs]; simp
        have HS := Lib.hid hs'
        go_enter Try.func97, Try.ntmps97
        go_wp2_with fail
        refine (rHas_any (P := P) (b := b) (cap := cap) _).mono ?_
        rintro e w1 ⟨rfl, hb1⟩
        have hz1 := hb1.size
        try simp only [World.size_alloc, World.size_drew, World.size_setCell] at hz1
        obtain ⟨hc1, hf1⟩ := bcell hb1
        obtain ⟨x0, x1, x2, x3⟩ := box4k hb1
        go_wp2_with fail
        refine (rOf_any (h.below (by with_reducible (repeat (first | exact Below.refl _ _ | assumption | (refine Below.setCell ?_ (by first | omega | (simp; done) | (simp; omega)) _) | (refine Below.alloc ?_ (by first | omega | (simp; done) | (simp; omega)) _) | (refine below_drewN ?_ _) | (refine Below.drew ?_) | (refine Below.trans ?_ (Below.mono hb (by first | omega | (simp; done) | (simp; omega)))) | (refine Below.trans ?_ (Below.mono hb1 (by first | omega | (simp; done) | (simp; omega)))) | (refine Below.trans ?_ (Below.mono hb2 (by first | omega | (simp; done) | (simp; omega)))) | (refine Below.trans ?_ (Below.mono hb3 (by first | omega | (simp; done) | (simp; omega)))) | (refine Below.trans ?_ (Below.mono hb4 (by first | omega | (simp; done) | (simp; omega)))) | (refine Below.trans ?_ (Below.mono hb5 (by first | omega | (simp; done) | (simp; omega)))) | (refine Below.trans ?_ (Below.mono hb6 (by first | omega | (simp; done) | (simp; omega)))) | (refine Below.trans ?_ (Below.mono hb7 (by first | omega | (simp; done) | (simp; omega)))) | (refine Below.trans ?_ (Below.mono hb8 (by first | omega | (simp; done) | (simp; omega)))) | (refine Below.trans ?_ (Below.mono hb9 (by first | omega | (simp; done) | (simp; omega)))) | (refine Below.trans ?_ (Below.mono hb10 (by first | omega | (simp; done) | (simp; omega)))) | (refine Below.trans ?_ (Below.mono hb11 (by first | omega | (simp; done) | (simp; omega)))) | (refine Below.trans ?_ (Below.mono hb12 (by first | omega | (simp; done) | (simp; omega)))))))) _).mono ?_
        rintro e w2 ⟨rfl, hb2⟩
        replace hb2 := Below.trans hb1 (Below.mono hb2 hb1.size)
        clear hc1 hf1
        have hz2 := hb2.size
        try simp only [World.size_alloc, World.size_drew, World.size_setCell] at hz2
        obtain ⟨hc2, hf2⟩ := bcell hb2
        go_wp2
        go_ret
        exact ⟨by rw [E.out, HS.out]; rfl, by with_reducible (repeat (first | exact Below.refl _ _ | assumption | (refine Below.setCell ?_ (by first | omega | (simp; done) | (simp; omega)) _) | (refine Below.alloc ?_ (by first | omega | (simp; done) | (simp; omega)) _) | (refine below_drewN ?_ _) | (refine Below.drew ?_) | (refine Below.trans ?_ (Below.mono hb (by first | omega | (simp; done) | (simp; omega)))) | (refine Below.trans ?_ (Below.mono hb1 (by first | omega | (simp; done) | (simp; omega)))) | (refine Below.trans ?_ (Below.mono hb2 (by first | omega | (simp; done) | (simp; omega)))) | (refine Below.trans ?_ (Below.mono hb3 (by first | omega | (simp; done) | (simp; omega)))) | (refine Below.trans ?_ (Below.mono hb4 (by first | omega | (simp; done) | (simp; omega)))) | (refine Below.trans ?_ (Below.mono hb5 (by first | omega | (simp; done) | (simp; omega)))) | (refine Below.trans ?_ (Below.mono hb6 (by first | omega | (simp; done) | (simp; omega)))) | (refine Below.trans ?_ (Below.mono hb7 (by first | omega | (simp; done) | (simp; omega)))) | (refine Below.trans ?_ (Below.mono hb8 (by first | omega | (simp; done) | (simp; omega)))) | (refine Below.trans ?_ (Below.mono hb9 (by first | omega | (simp; done) | (simp; omega)))) | (refine Below.trans ?_ (Below.mono hb10 (by first | omega | (simp; done) | (simp; omega)))) | (refine Below.trans ?_ (Below.mono hb11 (by first | omega | (simp; done) | (simp; omega)))) | (refine Below.trans ?_ (Below.mono hb12 (by first | omega | (simp; done) | (simp; omega))))))⟩
      · have hs' : ((P.ofF i).start != i) = true := by simpa using hs
        go_enter Try.func97, Try.ntmps97
        go_wp2_with fail
        refine (rHas_any (P := P) (b := b) (cap := cap) _).mono ?_
        rintro e w1 ⟨rfl, hb1⟩
        have hz1 := hb1.size
        try simp only [World.size_alloc, World.size_drew, World.size_setCell] at hz1
        obtain ⟨hc1, hf1⟩ := bcell hb1
        obtain ⟨x0, x1, x2, x3⟩ := box4k hb1
        go_wp2_with fail
        refine (rOf_any (h.below (by with_reducible (repeat (first | exact Below.refl _ _ | assumption | (refine Below.setCell ?_ (by first | omega | (simp; done) | (simp; omega)) _) | (refine Below.alloc ?_ (by first | omega | (simp; done) | (simp; omega)) _) | (refine below_drewN ?_ _) | (refine Below.drew ?_) | (refine Below.trans ?_ (Below.mono hb (by first | omega | (simp; done) | (simp; omega)))) | (refine Below.trans ?_ (Below.mono hb1 (by first | omega | (simp; done) | (simp; omega)))) | (refine Below.trans ?_ (Below.mono hb2 (by first | omega | (simp; done) | (simp; omega)))) | (refine Below.trans ?_ (Below.mono hb3 (by first | omega | (simp; done) | (simp; omega)))) | (refine Below.trans ?_ (Below.mono hb4 (by first | omega | (simp; done) | (simp; omega)))) | (refine Below.trans ?_ (Below.mono hb5 (by first | omega | (simp; done) | (simp; omega)))) | (refine Below.trans ?_ (Below.mono hb6 (by first | omega | (simp; done) | (simp; omega)))) | (refine Below.trans ?_ (Below.mono hb7 (by first | omega | (simp; done) | (simp; omega)))) | (refine Below.trans ?_ (Below.mono hb8 (by first | omega | (simp; done) | (simp; omega)))) | (refine Below.trans ?_ (Below.mono hb9 (by first | omega | (simp; done) | (simp; omega)))) | (refine Below.trans ?_ (Below.mono hb10 (by first | omega | (simp; done) | (simp; omega)))) | (refine Below.trans ?_ (Below.mono hb11 (by first | omega | (simp; done) | (simp; omega)))) | (refine Below.trans ?_ (Below.mono hb12 (by first | omega | (simp; done) | (simp; omega)))))))) _).mono ?_
        rintro e w2 ⟨rfl, hb2⟩
        replace hb2 := Below.trans hb1 (Below.mono hb2 hb1.size)
        clear hc1 hf1
        have hz2 := hb2.size
        try simp only [World.size_alloc, World.size_drew, World.size_setCell] at hz2
        obtain ⟨hc2, hf2⟩ := bcell hb2
        clear hc2 hf2
        go_wp2_with fail
        refine (rBit_in _ _ _ ha (by omega)).mono ?_
        rintro e w3 ⟨rfl, hb3⟩
        have hz3 := hb3.size
        try simp only [World.size_alloc, World.size_drew, World.size_setCell] at hz3
        obtain ⟨hc3, hf3⟩ := bcell hb3
        go_wp2
        go_ret
        exact ⟨by rw [E.out, hs', bit_prot]; rfl, by with_reducible (repeat (first | exact Below.refl _ _ | assumption | (refine Below.setCell ?_ (by first | omega | (simp; done) | (simp; omega)) _) | (refine Below.alloc ?_ (by first | omega | (simp; done) | (simp; omega)) _) | (refine below_drewN ?_ _) | (refine Below.drew ?_) | (refine Below.trans ?_ (Below.mono hb (by first | omega | (simp; done) | (simp; omega)))) | (refine Below.trans ?_ (Below.mono hb1 (by first | omega | (simp; done) | (simp; omega)))) | (refine Below.trans ?_ (Below.mono hb2 (by first | omega | (simp; done) | (simp; omega)))) | (refine Below.trans ?_ (Below.mono hb3 (by first | omega | (simp; done) | (simp; omega)))) | (refine Below.trans ?_ (Below.mono hb4 (by first | omega | (simp; done) | (simp; omega)))) | (refine Below.trans ?_ (Below.mono hb5 (by first | omega | (simp; done) | (simp; omega)))) | (refine Below.trans ?_ (Below.mono hb6 (by first | omega | (simp; done) | (simp; omega)))) | (refine Below.trans ?_ (Below.mono hb7 (by first | omega | (simp; done) | (simp; omega)))) | (refine Below.trans ?_ (Below.mono hb8 (by first | omega | (simp; done) | (simp; omega)))) | (refine Below.trans ?_ (Below.mono hb9 (by first | omega | (simp; done) | (simp; omega)))) | (refine Below.trans ?_ (Below.mono hb10 (by first | omega | (simp; done) | (simp; omega)))) | (refine Below.trans ?_ (Below.mono hb11 (by first | omega | (simp; done) | (simp; omega)))) | (refine Below.trans ?_ (Below.mono hb12 (by first | omega | (simp; done) | (simp; omega))))))⟩

theorem home_none {P : Pl} (h : ∀ (j : Nat) (hj : j < P.flds.length), Pl.homeF P.flds[j] = false) : P.home = 0 := by unfold Pl.home; rw [find_none h]
theorem home_some {P : Pl} {k : Nat} (hk : k < P.flds.length) (hp : Pl.homeF P.flds[k] = true) (h : ∀ (j : Nat) (hj : j < P.flds.length), j < k → Pl.homeF P.flds[j] = false) : P.home = (P.flds[k].start + 1) % (P.cells.length : Int) := by unfold Pl.home; rw [find_some hk hp h]

set_option maxRecDepth 100000 in
theorem rHome_any {w : World} {b cap : Nat} {P : Pl} (h : RC w b P) :
    Calls Try.prog 39 #[.agg #[.int .i64 P.rows, .int .i64 P.cols, .slice (some ⟨b, 0, none⟩) P.cells.length cap, .int .i64 P.cursor]] w fun e w' => e = .returned (.int .i64 P.home) ∧ Below w.heap.size w w' := by
  have hn := Pl.N_pos h.ok
  have hm := Pl.N_le h.ok
  have hbl := h.bl
  have hfl := flds_len P
  have hsn := starts_le_n P
  rw [← hfl] at hsn
  go_enter Try.func39, Try.ntmps39
  go_wp2_with fail
  refine (rAll_any (h.below (by with_reducible (repeat (first | exact Below.refl _ _ | assumption | (refine Below.setCell ?_ (by first | omega | (simp; done) | (simp; omega)) _) | (refine Below.alloc ?_ (by first | omega | (simp; done) | (simp; omega)) _) | (refine below_drewN ?_ _) | (refine Below.drew ?_) | (refine Below.trans ?_ (Below.mono hb (by first | omega | (simp; done) | (simp; omega)))) | (refine Below.trans ?_ (Below.mono hb1 (by first | omega | (simp; done) | (simp; omega)))) | (refine Below.trans ?_ (Below.mono hb2 (by first | omega | (simp; done) | (simp; omega)))) | (refine Below.trans ?_ (Below.mono hb3 (by first | omega | (simp; done) | (simp; omega)))) | (refine Below.trans ?_ (Below.mono hb4 (by first | omega | (simp; done) | (simp; omega)))) | (refine Below.trans ?_ (Below.mono hb5 (by first | omega | (simp; done) | (simp; omega)))) | (refine Below.trans ?_ (Below.mono hb6 (by first | omega | (simp; done) | (simp; omega)))) | (refine Below.trans ?_ (Below.mono hb7 (by first | omega | (simp; done) | (simp; omega)))) | (refine Below.trans ?_ (Below.mono hb8 (by first | omega | (simp; done) | (simp; omega)))) | (refine Below.trans ?_ (Below.mono hb9 (by first | omega | (simp; done) | (simp; omega)))) | (refine Below.trans ?_ (Below.mono hb10 (by first | omega | (simp; done) | (simp; omega)))) | (refine Below.trans ?_ (Below.mono hb11 (by first | omega | (simp; done) | (simp; omega)))) | (refine Below.trans ?_ (Below.mono hb12 (by first | omega | (simp; done) | (simp; omega))))))))).mono ?_
  rintro e w3 ⟨ga, ca, ra, rfl, hla, hgea, hb3⟩
  have hB3 : Below w.heap.size w w3 := by with_reducible (repeat (first | exact Below.refl _ _ | assumption | (refine Below.setCell ?_ (by first | omega | (simp; done) | (simp; omega)) _) | (refine Below.alloc ?_ (by first | omega | (simp; done) | (simp; omega)) _) | (refine below_drewN ?_ _) | (refine Below.drew ?_) | (refine Below.trans ?_ (Below.mono hb (by first | omega | (simp; done) | (simp; omega)))) | (refine Below.trans ?_ (Below.mono hb1 (by first | omega | (simp; done) | (simp; omega)))) | (refine Below.trans ?_ (Below.mono hb2 (by first | omega | (simp; done) | (simp; omega)))) | (refine Below.trans ?_ (Below.mono hb3 (by first | omega | (simp; done) | (simp; omega)))) | (refine Below.trans ?_ (Below.mono hb4 (by first | omega | (simp; done) | (simp; omega)))) | (refine Below.trans ?_ (Below.mono hb5 (by first | omega | (simp; done) | (simp; omega)))) | (refine Below.trans ?_ (Below.mono hb6 (by first | omega | (simp; done) | (simp; omega)))) | (refine Below.trans ?_ (Below.mono hb7 (by first | omega | (simp; done) | (simp; omega)))) | (refine Below.trans ?_ (Below.mono hb8 (by first | omega | (simp; done) | (simp; omega)))) | (refine Below.trans ?_ (Below.mono hb9 (by first | omega | (simp; done) | (simp; omega)))) | (refine Below.trans ?_ (Below.mono hb10 (by first | omega | (simp; done) | (simp; omega)))) | (refine Below.trans ?_ (Below.mono hb11 (by first | omega | (simp; done) | (simp; omega)))) | (refine Below.trans ?_ (Below.mono hb12 (by first | omega | (simp; done) | (simp; omega))))))
  have hz3 := hb3.size
  obtain ⟨x0, x1, x2, x3⟩ := box4k hb3
  simp only [World.size_alloc] at hgea hz3
  clear hb3
  have hgal := lt_of_block hla
  go_wp2
  go_loopw [4] (fun i wr => ∃ k : Nat, k ≤ P.flds.length ∧ i = .int .i64 (k : Int) ∧ Below w3.heap.size w3 wr ∧ ∀ (j : Nat) (hj : j < P.flds.length), j < k → Pl.homeF P.flds[j] = false) (fun i _ => P.flds.length - (intOf i).toNat)
  case atStart => exact ⟨0, Nat.zero_le _, rfl, Below.refl _ _, fun j _ hj => absurd hj (Nat.not_lt_zero _)⟩
  case round =>
    obtain ⟨k, hk, rfl, hB, hf⟩ := hrel
    have HF := Lib.hid hf
    clear hf
    have hzB := hB.size
    have hBw : Below w.heap.size w wr := hB3.trans (hB.mono (by omega))
    by_cases hlt : k < P.flds.length
    · have hlt' : (k : Int) < (P.flds.length : Int) := by omega
      obtain ⟨s0, s1, l0, l1, a0, a1⟩ := fld_ok h.ok k hlt
      obtain ⟨f0, f1, f2⟩ := fcl_get ((hB.block ga hgal).trans hla) k hlt
      obtain ⟨f, hfe⟩ : ∃ f, P.flds[k] = f := ⟨_, rfl⟩
      rw [hfe] at s0 s1 l0 l1 a0 a1 f0 f1 f2
      have HFE := Lib.hid hfe
      clear hfe
      have EH := Lib.hid (show Pl.homeF f = (decide (0 < f.len) && !prot f.attr) from rfl)
      by_cases hl : 0 < f.len
      · cases hp : prot f.attr
        · have HH : Hid (P.home = (f.start + 1) % (P.cells.length : Int)) := Lib.hid (by rw [home_some hlt (by rw [HFE.out, EH.out, hp, decide_eq_true hl]; rfl) HF.out, HFE.out])
          go_wp2_with fail
          refine (rBit_in _ _ _ ⟨a0, a1⟩ (by omega)).mono ?_
          rintro e w5 ⟨rfl, hb5⟩
          have hz5 := hb5.size
          try simp only [World.size_alloc, World.size_drew, World.size_setCell] at hz5
          obtain ⟨hc5, hf5⟩ := bcell hb5
          rw [bit_prot, hp]
          have hx2 : w5.cell? ⟨w.heap.size, 2, none⟩ = some (.slice (some ⟨b, 0, none⟩) P.cells.length cap) := cell_keep x2 (hB.trans (hb5.mono (by omega)))
          replace f0 := cell_keep f0 hb5
          have hn' : (0 : Int) < (P.cells.length : Int) := by omega
          have e1 : IntKind.i64.wrap (f.start + 1) = f.start + 1 := IntWalk.i64_in _ (by omega)
          have hs1 : 0 ≤ f.start + 1 := by omega
          go_wp2
          go_quiet (fail)
          go_wp2
          go_ret
          exact ⟨by rw [HH.out]; rfl, by with_reducible (repeat (first | exact Below.refl _ _ | assumption | (refine Below.setCell ?_ (by first | omega | (simp; done) | (simp; omega)) _) | (refine Below.alloc ?_ (by first | omega | (simp; done) | (simp; omega)) _) | (refine below_drewN ?_ _) | (refine Below.drew ?_) | (refine Below.trans ?_ (Below.mono hb (by first | omega | (simp; done) | (simp; omega)))) | (refine Below.trans ?_ (Below.mono hb1 (by first | omega | (simp; done) | (simp; omega)))) | (refine Below.trans ?_ (Below.mono hb2 (by first | omega | (simp; done) | (simp; omega)))) | (refine Below.trans ?_ (Below.mono hb3 (by first | omega | (simp; done) | (simp; omega)))) | (refine Below.trans ?_ (Below.mono hb4 (by first | omega | (simp; done) | (simp; omega)))) | (refine Below.trans ?_ (Below.mono hb5 (by first | omega | (simp; done) | (simp; omega)))) | (refine Below.trans ?_ (Below.mono hb6 (by first | omega | (simp; done) | (simp; omega)))) | (refine Below.trans ?_ (Below.mono hb7 (by first | omega | (simp; done) | (simp; omega)))) | (refine Below.trans ?_ (Below.mono hb8 (by first | omega | (simp; done) | (simp; omega)))) | (refine Below.trans ?_ (Below.mono hb9 (by first | omega | (simp; done) | (simp; omega)))) | (refine Below.trans ?_ (Below.mono hb10 (by first | omega | (simp; done) | (simp; omega)))) | (refine Below.trans ?_ (Below.mono hb11 (by first | omega | (simp; done) | (simp; omega)))) | (refine Below.trans ?_ (Below.mono hb12 (by first | omega | (simp; done) | (simp; omega))))))⟩
        · go_wp2_with fail
          refine (rBit_in _ _ _ ⟨a0, a1⟩ (by omega)).mono ?_
          rintro e w5 ⟨rfl, hb5⟩
          have hz5 := hb5.size
          try simp only [World.size_alloc, World.size_drew, World.size_setCell] at hz5
          obtain ⟨hc5, hf5⟩ := bcell hb5
          rw [bit_prot, hp]
          go_wp2
          go_roundw
          case rel => exact ⟨k + 1, by omega, by go_num, by with_reducible (repeat (first | exact Below.refl _ _ | assumption | (refine Below.setCell ?_ (by first | omega | (simp; done) | (simp; omega)) _) | (refine Below.alloc ?_ (by first | omega | (simp; done) | (simp; omega)) _) | (refine below_drewN ?_ _) | (refine Below.drew ?_) | (refine Below.trans ?_ (Below.mono hb (by first | omega | (simp; done) | (simp; omega)))) | (refine Below.trans ?_ (Below.mono hb1 (by first | omega | (simp; done) | (simp; omega)))) | (refine Below.trans ?_ (Below.mono hb2 (by first | omega | (simp; done) | (simp; omega)))) | (refine Below.trans ?_ (Below.mono hb3 (by first | omega | (simp; done) | (simp; omega)))) | (refine Below.trans ?_ (Below.mono hb4 (by first | omega | (simp; done) | (simp; omega)))) | (refine Below.trans ?_ (Below.mono hb5 (by first | omega | (simp; done) | (simp; omega)))) | (refine Below.trans ?_ (Below.mono hb6 (by first | omega | (simp; done) | (simp; omega)))) | (refine Below.trans ?_ (Below.mono hb7 (by first | omega | (simp; done) | (simp; omega)))) | (refine Below.trans ?_ (Below.mono hb8 (by first | omega | (simp; done) | (simp; omega)))) | (refine Below.trans ?_ (Below.mono hb9 (by first | omega | (simp; done) | (simp; omega)))) | (refine Below.trans ?_ (Below.mono hb10 (by first | omega | (simp; done) | (simp; omega)))) | (refine Below.trans ?_ (Below.mono hb11 (by first | omega | (simp; done) | (simp; omega)))) | (refine Below.trans ?_ (Below.mono hb12 (by first | omega | (simp; done) | (simp; omega)))))), fun j hj hjk => by
            rcases Nat.lt_succ_iff_lt_or_eq.1 hjk with hjk | rfl
            · exact HF.out j hj hjk
            · rw [HFE.out, EH.out, hp]; simp⟩
          case measure => simp [intOf]; omega
      · go_wp2
        go_roundw
        case rel => exact ⟨k + 1, by omega, by go_num, by with_reducible (repeat (first | exact Below.refl _ _ | assumption | (refine Below.setCell ?_ (by first | omega | (simp; done) | (simp; omega)) _) | (refine Below.alloc ?_ (by first | omega | (simp; done) | (simp; omega)) _) | (refine below_drewN ?_ _) | (refine Below.drew ?_) | (refine Below.trans ?_ (Below.mono hb (by first | omega | (simp; done) | (simp; omega)))) | (refine Below.trans ?_ (Below.mono hb1 (by first | omega | (simp; done) | (simp; omega)))) | (refine Below.trans ?_ (Below.mono hb2 (by first | omega | (simp; done) | (simp; omega)))) | (refine Below.trans ?_ (Below.mono hb3 (by first | omega | (simp; done) | (simp; omega)))) | (refine Below.trans ?_ (Below.mono hb4 (by first | omega | (simp; done) | (simp; omega)))) | (refine Below.trans ?_ (Below.mono hb5 (by first | omega | (simp; done) | (simp; omega)))) | (refine Below.trans ?_ (Below.mono hb6 (by first | omega | (simp; done) | (simp; omega)))) | (refine Below.trans ?_ (Below.mono hb7 (by first | omega | (simp; done) | (simp; omega)))) | (refine Below.trans ?_ (Below.mono hb8 (by first | omega | (simp; done) | (simp; omega)))) | (refine Below.trans ?_ (Below.mono hb9 (by first | omega | (simp; done) | (simp; omega)))) | (refine Below.trans ?_ (Below.mono hb10 (by first | omega | (simp; done) | (simp; omega)))) | (refine Below.trans ?_ (Below.mono hb11 (by first | omega | (simp; done) | (simp; omega)))) | (refine Below.trans ?_ (Below.mono hb12 (by first | omega | (simp; done) | (simp; omega)))))), fun j hj hjk => by
          rcases Nat.lt_succ_iff_lt_or_eq.1 hjk with hjk | rfl
          · exact HF.out j hj hjk
          · rw [HFE.out, EH.out, decide_eq_false hl]; rfl⟩
        case measure => simp [intOf]; omega
    · have HH : Hid (P.home = 0) := Lib.hid (home_none (fun j hj => HF.out j hj (by omega)))
      go_wp2
      go_ret
      exact ⟨by rw [HH.out]; rfl, by with_reducible (repeat (first | exact Below.refl _ _ | assumption | (refine Below.setCell ?_ (by first | omega | (simp; done) | (simp; omega)) _) | (refine Below.alloc ?_ (by first | omega | (simp; done) | (simp; omega)) _) | (refine below_drewN ?_ _) | (refine Below.drew ?_) | (refine Below.trans ?_ (Below.mono hb (by first | omega | (simp; done) | (simp; omega)))) | (refine Below.trans ?_ (Below.mono hb1 (by first | omega | (simp; done) | (simp; omega)))) | (refine Below.trans ?_ (Below.mono hb2 (by first | omega | (simp; done) | (simp; omega)))) | (refine Below.trans ?_ (Below.mono hb3 (by first | omega | (simp; done) | (simp; omega)))) | (refine Below.trans ?_ (Below.mono hb4 (by first | omega | (simp; done) | (simp; omega)))) | (refine Below.trans ?_ (Below.mono hb5 (by first | omega | (simp; done) | (simp; omega)))) | (refine Below.trans ?_ (Below.mono hb6 (by first | omega | (simp; done) | (simp; omega)))) | (refine Below.trans ?_ (Below.mono hb7 (by first | omega | (simp; done) | (simp; omega)))) | (refine Below.trans ?_ (Below.mono hb8 (by first | omega | (simp; done) | (simp; omega)))) | (refine Below.trans ?_ (Below.mono hb9 (by first | omega | (simp; done) | (simp; omega)))) | (refine Below.trans ?_ (Below.mono hb10 (by first | omega | (simp; done) | (simp; omega)))) | (refine Below.trans ?_ (Below.mono hb11 (by first | omega | (simp; done) | (simp; omega)))) | (refine Below.trans ?_ (Below.mono hb12 (by first | omega | (simp; done) | (simp; omega))))))⟩

/-- The open fields' attributes' places, of the first fields. -/
def Pl.opl (P : Pl) (k : Nat) : List Int := ((P.flds.take k).filter Pl.homeF).map Fld.start
theorem Pl.opl_len (P : Pl) (k : Nat) : (P.opl k).length ≤ k := by
  unfold Pl.opl
  rw [List.length_map]
  exact Nat.le_trans (List.length_filter_le _ _) (by rw [List.length_take]; omega)
theorem Pl.opl_step (P : Pl) (k : Nat) (hk : k < P.flds.length) : P.opl (k + 1) = P.opl k ++ if Pl.homeF P.flds[k] then [P.flds[k].start] else [] := by
  unfold Pl.opl
  rw [List.take_add_one, List.getElem?_eq_getElem hk, List.filter_append, List.map_append]
  congr 1
  cases h : Pl.homeF P.flds[k] <;> simp [h]

set_option maxRecDepth 100000 in
theorem rOpens_any {w : World} {b cap : Nat} {P : Pl} (h : RC w b P) :
    Calls Try.prog 95 #[.agg #[.int .i64 P.rows, .int .i64 P.cols, .slice (some ⟨b, 0, none⟩) P.cells.length cap, .int .i64 P.cursor]] w (IntsPost (P.opl P.flds.length) w) := by
  have hn := Pl.N_pos h.ok
  have hm := Pl.N_le h.ok
  have hbl := h.bl
  have hfl := flds_len P
  have hsn := starts_le_n P
  have HI := Lib.hid info_int
  rw [← hfl] at hsn
  go_enter Try.func95, Try.ntmps95
  go_wp2_with fail
  refine (rAll_any (h.below (by with_reducible (repeat (first | exact Below.refl _ _ | assumption | (refine Below.setCell ?_ (by first | omega | (simp; done) | (simp; omega)) _) | (refine Below.alloc ?_ (by first | omega | (simp; done) | (simp; omega)) _) | (refine below_drewN ?_ _) | (refine Below.drew ?_) | (refine Below.trans ?_ (Below.mono hb (by first | omega | (simp; done) | (simp; omega)))) | (refine Below.trans ?_ (Below.mono hb1 (by first | omega | (simp; done) | (simp; omega)))) | (refine Below.trans ?_ (Below.mono hb2 (by first | omega | (simp; done) | (simp; omega)))) | (refine Below.trans ?_ (Below.mono hb3 (by first | omega | (simp; done) | (simp; omega)))) | (refine Below.trans ?_ (Below.mono hb4 (by first | omega | (simp; done) | (simp; omega)))) | (refine Below.trans ?_ (Below.mono hb5 (by first | omega | (simp; done) | (simp; omega)))) | (refine Below.trans ?_ (Below.mono hb6 (by first | omega | (simp; done) | (simp; omega)))) | (refine Below.trans ?_ (Below.mono hb7 (by first | omega | (simp; done) | (simp; omega)))) | (refine Below.trans ?_ (Below.mono hb8 (by first | omega | (simp; done) | (simp; omega)))) | (refine Below.trans ?_ (Below.mono hb9 (by first | omega | (simp; done) | (simp; omega)))) | (refine Below.trans ?_ (Below.mono hb10 (by first | omega | (simp; done) | (simp; omega)))) | (refine Below.trans ?_ (Below.mono hb11 (by first | omega | (simp; done) | (simp; omega)))) | (refine Below.trans ?_ (Below.mono hb12 (by first | omega | (simp; done) | (simp; omega))))))))).mono ?_
  rintro e w3 ⟨ga, ca, ra, rfl, hla, hgea, hb3⟩
  have hB3 : Below (w.heap.size + 1) (w.alloc (.cells #[.int .i64 P.rows, .int .i64 P.cols, .slice (some ⟨b, 0, none⟩) P.cells.length cap, .int .i64 P.cursor] 77)) w3 := (Below.alloc (Below.refl _ _) (by simp) _).trans (hb3.mono (by simp))
  have ho3 := owns_below (owns_empty (w.alloc (.cells #[.int .i64 P.rows, .int .i64 P.cols, .slice (some ⟨b, 0, none⟩) P.cells.length cap, .int .i64 P.cursor] 77)) 3 1) hb3
  have hz3 := hb3.size
  simp only [World.size_alloc] at hgea hz3 ho3
  clear hb3
  go_wp2
  go_loopw [3, 5] (fun v i wr => ∃ k g c : Nat, k ≤ P.flds.length ∧ i = .int .i64 (k : Int) ∧ v = .slice (some ⟨g, 0, none⟩) (P.opl k).length c ∧ wr.ownsRow (w.heap.size + 1) 3 1 v (P.opl k).length (ints (P.opl k)) ∧ Below (w.heap.size + 1) (w.alloc (.cells #[.int .i64 P.rows, .int .i64 P.cols, .slice (some ⟨b, 0, none⟩) P.cells.length cap, .int .i64 P.cursor] 77)) wr ∧ wr.heap[ga]? = some (.cells (fcl P.flds ++ ra).toArray 153 (0, 0))) (fun _ i _ => P.flds.length - (intOf i).toNat)
  case atStart => exact ⟨0, _, _, Nat.zero_le _, rfl, rfl, ho3, hB3, hla⟩
  case round =>
    obtain ⟨k, g, c, hk, rfl, rfl, hown, hB, hl⟩ := hrel
    clear hla ho3 hB3
    have hgal := lt_of_block hl
    have hzB := hB.size
    simp only [World.size_alloc] at hzB
    have hol := P.opl_len k
    by_cases hlt : k < P.flds.length
    · have hlt' : (k : Int) < (P.flds.length : Int) := by omega
      have hge := (hown.lt g rfl).1
      have hne : g ≠ ga := by
        rintro rfl
        obtain ⟨_, r, hh⟩ := owns_row hown
        rw [hh] at hl
        simp at hl
      obtain ⟨s0, s1, l0, l1, a0, a1⟩ := fld_ok h.ok k hlt
      obtain ⟨f0, f1, f2⟩ := fcl_get hl k hlt
      have hstep := P.opl_step k hlt
      obtain ⟨f, hfe⟩ : ∃ f, P.flds[k] = f := ⟨_, rfl⟩
      rw [hfe] at s0 s1 l0 l1 a0 a1 f0 f1 f2 hstep
      obtain ⟨nn, hnn⟩ : ∃ nn, (P.opl k).length = nn := ⟨_, rfl⟩
      rw [hnn] at hown hol ⊢
      have HST := Lib.hid hstep
      have HFE := Lib.hid hfe
      have HN := Lib.hid hnn
      clear hfe hstep hnn
      have EH := Lib.hid (show Pl.homeF f = (decide (0 < f.len) && !prot f.attr) from rfl)
      by_cases hll : 0 < f.len
      · go_wp2_with fail
        refine (rBit_in _ _ _ ⟨a0, a1⟩ (by omega)).mono ?_
        rintro e w5 ⟨rfl, hb5⟩
        have hz5 := hb5.size
        try simp only [World.size_alloc, World.size_drew, World.size_setCell] at hz5
        obtain ⟨hc5, hf5⟩ := bcell hb5
        rw [bit_prot]
        have hl5 := (hb5.block ga (by simpa using hgal)).trans hl
        have hB5 := hB.trans (hb5.mono (by omega))
        have hown5 := owns_below hown hb5
        have hz5 := hb5.size
        clear hc5 hf5 hl hB hown hb5
        cases hp : prot f.attr
        · have EE : Hid (P.opl (k + 1) = P.opl k ++ [f.start]) := Lib.hid (by rw [HST.out, EH.out, hp, decide_eq_true hll]; rfl)
          have hff := fcl_get hl5 k hlt
          rw [HFE.out] at hff
          obtain ⟨f0, f1, f2⟩ := hff
          go_wp2_with (at_builtin; obtain ⟨i0, hi, hz0, hz1, hz2⟩ := info_parts HI.out; refine wpList_append_lies _ rfl _ _ 68 rfl (w.heap.size + 1) 3 i0 _ 1 8 Try.underlying68 hi hz0 hz1 hz2 rfl (by decide) _ _ _ rfl (hown5.alloc _) ⟨w5.heap.size, 0, none⟩ 1 1 [.int .i64 f.start] rfl rfl (news_new _ _ _ _ rfl) (by intro u hu; simp at hu; subst hu; rfl) (by decide) (by unfold maxLen; omega) (by omega) (by simp; omega) (w5.heap.size + 1) (by simp) ?_; clear hi hz0 hz1 hz2; intro g2 c2 w4 hown2 hgr hat hlt4)
          go_wp2
          go_roundw
          case rel =>
            refine ⟨k + 1, g2, c2, by omega, by go_num, by rw [EE.out, List.length_append, HN.out]; rfl, ?_, (hB5.alloc (by omega) _).grown hgr (by simp; omega) (fun j e => by cases e; exact hge), ?_⟩
            · rw [EE.out, List.length_append, HN.out]
              simpa [ints] using hown2
            · rw [hgr.block ga (by rw [World.size_alloc]; exact Nat.lt_succ_of_lt (lt_of_block hl5)) (by intro e; cases e; exact hne rfl), Below.heap_alloc _ _ _ (lt_of_block hl5)]
              exact hl5
          case measure => simp [intOf]; omega
        · have EE : Hid (P.opl (k + 1) = P.opl k) := Lib.hid (by rw [HST.out, EH.out, hp]; simp)
          go_wp2
          go_roundw
          case rel => exact ⟨k + 1, g, c, by omega, by go_num, by rw [EE.out, HN.out], by rw [EE.out, HN.out]; exact hown5, hB5, hl5⟩
          case measure => simp [intOf]; omega
      · have EE : Hid (P.opl (k + 1) = P.opl k) := Lib.hid (by rw [HST.out, EH.out, decide_eq_false hll]; simp)
        go_wp2
        go_roundw
        case rel => exact ⟨k + 1, g, c, by omega, by go_num, by rw [EE.out, HN.out], by rw [EE.out, HN.out]; exact hown, hB, hl⟩
        case measure => simp [intOf]; omega
    · have e : k = P.flds.length := by omega
      subst e
      go_wp2
      go_ret
      obtain ⟨h1, r, h2⟩ := owns_row hown
      exact ⟨g, c, r, rfl, h2, by omega, below_of_box hB⟩
end Go.Proofs.Ytbkddgeocmkegaa
