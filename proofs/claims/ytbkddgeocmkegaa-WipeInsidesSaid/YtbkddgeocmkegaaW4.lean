/- Lemmas on the way to this seat's statements; they bear no condition of their own. -/
import Derived.Test.YtbkddgeocmkegaaW3
namespace Go.Proofs.Ytbkddgeocmkegaa
open Go.RowKit Go.Shelf
set_option linter.unusedSimpArgs false
set_option linter.unusedVariables false
set_option maxHeartbeats 2000000
attribute [local go_sem ↓] run_start run_byte run_cols
attribute [local go_sem] Oper.semAt_some

theorem Rest_shut {w : World} {g b cap : Nat} {P : Pl} (h : PL w g b cap P) (i : Int) (hi : P.openAt i = false) :
    Calls Try.prog 54 #[.pointer (some ⟨g, 0, none⟩), .int .i64 i] w fun e w' => e = .returned (.tuple #[.int .i64 0, .bool false]) ∧ Below w.heap.size w w' := by
  refine (callsIn_wide (n := 0)).1 ?_
  refine callsIn_of_wp_marks Try.func54 rfl trivial ?_ rfl
  simp only [Try.ntmps54, List.size_toArray, List.length_cons, List.length_nil, Nat.reduceAdd, Nat.reduceSub, Array.replicate_succ, Array.replicate_zero, List.push_toArray, List.append_toArray, List.nil_append, List.cons_append]
  gi_wp2_with fail
  refine ⟨trivial, rfl, CallsIn.mono (callsIn_wide.2 (Open_any (h.below (by with_reducible (repeat (first | exact Below.refl _ _ | assumption | (refine Below.setCell ?_ (by first | omega | (simp; done) | (simp; omega)) _) | (refine Below.alloc ?_ (by first | omega | (simp; done) | (simp; omega)) _) | (refine below_drewN ?_ _) | (refine Below.drew ?_) | (refine Below.trans ?_ (Below.mono hb (by first | omega | (simp; done) | (simp; omega)))) | (refine Below.trans ?_ (Below.mono hb1 (by first | omega | (simp; done) | (simp; omega)))) | (refine Below.trans ?_ (Below.mono hb2 (by first | omega | (simp; done) | (simp; omega)))) | (refine Below.trans ?_ (Below.mono hb3 (by first | omega | (simp; done) | (simp; omega)))) | (refine Below.trans ?_ (Below.mono hb4 (by first | omega | (simp; done) | (simp; omega)))) | (refine Below.trans ?_ (Below.mono hb5 (by first | omega | (simp; done) | (simp; omega)))) | (refine Below.trans ?_ (Below.mono hb6 (by first | omega | (simp; done) | (simp; omega)))) | (refine Below.trans ?_ (Below.mono hb7 (by first | omega | (simp; done) | (simp; omega)))) | (refine Below.trans ?_ (Below.mono hb8 (by first | omega | (simp; done) | (simp; omega)))) | (refine Below.trans ?_ (Below.mono hb9 (by first | omega | (simp; done) | (simp; omega)))) | (refine Below.trans ?_ (Below.mono hb10 (by first | omega | (simp; done) | (simp; omega)))) | (refine Below.trans ?_ (Below.mono hb11 (by first | omega | (simp; done) | (simp; omega)))) | (refine Below.trans ?_ (Below.mono hb12 (by first | omega | (simp; done) | (simp; omega)))))))) _)) ?_⟩
  rw [hi]
  rintro e w1 ⟨rfl, hb1⟩
  have hB1 : Below w.heap.size w w1 := by with_reducible (repeat (first | exact Below.refl _ _ | assumption | (refine Below.setCell ?_ (by first | omega | (simp; done) | (simp; omega)) _) | (refine Below.alloc ?_ (by first | omega | (simp; done) | (simp; omega)) _) | (refine below_drewN ?_ _) | (refine Below.drew ?_) | (refine Below.trans ?_ (Below.mono hb (by first | omega | (simp; done) | (simp; omega)))) | (refine Below.trans ?_ (Below.mono hb1 (by first | omega | (simp; done) | (simp; omega)))) | (refine Below.trans ?_ (Below.mono hb2 (by first | omega | (simp; done) | (simp; omega)))) | (refine Below.trans ?_ (Below.mono hb3 (by first | omega | (simp; done) | (simp; omega)))) | (refine Below.trans ?_ (Below.mono hb4 (by first | omega | (simp; done) | (simp; omega)))) | (refine Below.trans ?_ (Below.mono hb5 (by first | omega | (simp; done) | (simp; omega)))) | (refine Below.trans ?_ (Below.mono hb6 (by first | omega | (simp; done) | (simp; omega)))) | (refine Below.trans ?_ (Below.mono hb7 (by first | omega | (simp; done) | (simp; omega)))) | (refine Below.trans ?_ (Below.mono hb8 (by first | omega | (simp; done) | (simp; omega)))) | (refine Below.trans ?_ (Below.mono hb9 (by first | omega | (simp; done) | (simp; omega)))) | (refine Below.trans ?_ (Below.mono hb10 (by first | omega | (simp; done) | (simp; omega)))) | (refine Below.trans ?_ (Below.mono hb11 (by first | omega | (simp; done) | (simp; omega)))) | (refine Below.trans ?_ (Below.mono hb12 (by first | omega | (simp; done) | (simp; omega))))))
  gi_wp2
  refine ⟨.tuple #[.int .i64 0, .bool false], ?_, rfl, hB1⟩
  simp [results, Try.f54, go_sem]

/-- No panic. -/
def noP (Q : Exit → Act → World → Prop) : Exit → Act → World → Prop
  | .panic _, _, _ => False
  | .normal, a, w => Q .normal a w
  | .ret, a, w => Q .ret a w
  | .exit i, a, w => Q (.exit i) a w
  | .goto t, a, w => Q (.goto t) a w
  | .outgrown, a, w => Q .outgrown a w
theorem noP_normal {Q : Exit → Act → World → Prop} {a : Act} {w : World} (h : Q .normal a w) : noP Q .normal a w := h
theorem noP_imp {Q : Exit → Act → World → Prop} {e : Exit} {a : Act} {w : World} (h : noP Q e a w) : Q e a w := by
  cases e <;> first | exact h | exact h.elim

theorem drop_take_step (L : List Int) (k0 k : Nat) (hk : k < L.length) (h : k0 ≤ k) : (L.take (k + 1)).drop k0 = (L.take k).drop k0 ++ [L[k]] := by
  rw [List.take_add_one, List.getElem?_eq_getElem hk, List.drop_append_of_le_length (by rw [List.length_take]; omega)]
  rfl
theorem drop_take_skip (L : List Int) (k0 k : Nat) (h : k < k0) : (L.take (k + 1)).drop k0 = (L.take k).drop k0 := by
  rw [List.drop_eq_nil_of_le (by rw [List.length_take]; omega), List.drop_eq_nil_of_le (by rw [List.length_take]; omega)]

set_option maxRecDepth 100000 in
theorem Rest_list {w : World} {g b cap : Nat} {P : Pl} (h : PL w g b cap P) (i : Int) (hop : P.openAt i = true) (hB : P.ofB i = true) (f : Fld) (hF : Hid (P.ofF i = f)) (hs0 : 0 ≤ f.start) (hs1 : f.start < (P.cells.length : Int)) (L : List Int) (HL : Hid (places (P.cells.length : Int) f = L))
    (k0 : Nat) (hk0 : k0 < L.length) (hdist : Hid (∀ (j : Nat) (hj : j < L.length), L[j] = i ↔ j = k0)) (hbef : Hid ((P.clr (L.drop k0)).before i = f.start)) :
    Calls Try.prog 54 #[.pointer (some ⟨g, 0, none⟩), .int .i64 i] w fun e w' => e = .returned (.tuple #[.int .i64 ((L.length - k0 : Nat) : Int), .bool true]) ∧ PL w' g b cap ((P.clr (L.drop k0)).mark f.start true) ∧ Chg (· = b) w w' := by
  have hn := Pl.N_pos h.ok
  have hm := Pl.N_le h.ok
  have hgl := h.gl
  have hbl := h.bl
  have hrg : ∀ x ∈ L, 0 ≤ x ∧ x < (P.cells.length : Int) := by rw [← HL.out]; exact places_range (by omega) f
  have hpn : (L.length : Int) ≤ 4096 := by rw [← HL.out, places_len]; unfold placesN; rw [if_pos ⟨hs0, hs1⟩]; omega
  have hsame := fun k => clr_same P ((L.take k).drop k0)
  have hful : P.clr ((L.take L.length).drop k0) = P.clr (L.drop k0) := by rw [List.take_length]
  refine (callsIn_wide (n := 0)).1 ?_
  refine callsIn_of_wp_marks Try.func54 rfl trivial ?_ rfl
  simp only [Try.ntmps54, List.size_toArray, List.length_cons, List.length_nil, Nat.reduceAdd, Nat.reduceSub, Array.replicate_succ, Array.replicate_zero, List.push_toArray, List.append_toArray, List.nil_append, List.cons_append]
  gi_wp2_with fail
  refine ⟨trivial, rfl, CallsIn.mono (callsIn_wide.2 (Open_any (h.below (by with_reducible (repeat (first | exact Below.refl _ _ | assumption | (refine Below.setCell ?_ (by first | omega | (simp; done) | (simp; omega)) _) | (refine Below.alloc ?_ (by first | omega | (simp; done) | (simp; omega)) _) | (refine below_drewN ?_ _) | (refine Below.drew ?_) | (refine Below.trans ?_ (Below.mono hb (by first | omega | (simp; done) | (simp; omega)))) | (refine Below.trans ?_ (Below.mono hb1 (by first | omega | (simp; done) | (simp; omega)))) | (refine Below.trans ?_ (Below.mono hb2 (by first | omega | (simp; done) | (simp; omega)))) | (refine Below.trans ?_ (Below.mono hb3 (by first | omega | (simp; done) | (simp; omega)))) | (refine Below.trans ?_ (Below.mono hb4 (by first | omega | (simp; done) | (simp; omega)))) | (refine Below.trans ?_ (Below.mono hb5 (by first | omega | (simp; done) | (simp; omega)))) | (refine Below.trans ?_ (Below.mono hb6 (by first | omega | (simp; done) | (simp; omega)))) | (refine Below.trans ?_ (Below.mono hb7 (by first | omega | (simp; done) | (simp; omega)))) | (refine Below.trans ?_ (Below.mono hb8 (by first | omega | (simp; done) | (simp; omega)))) | (refine Below.trans ?_ (Below.mono hb9 (by first | omega | (simp; done) | (simp; omega)))) | (refine Below.trans ?_ (Below.mono hb10 (by first | omega | (simp; done) | (simp; omega)))) | (refine Below.trans ?_ (Below.mono hb11 (by first | omega | (simp; done) | (simp; omega)))) | (refine Below.trans ?_ (Below.mono hb12 (by first | omega | (simp; done) | (simp; omega)))))))) _)) ?_⟩
  rw [hop]
  rintro e w1 ⟨rfl, hb1⟩
  have hz1 := hb1.size
  simp only [World.size_alloc] at hz1
  have x0 : w1.cell? ⟨w.heap.size, 0, none⟩ = some (.pointer (some ⟨g, 0, none⟩)) := (hb1.cell (by simp; omega)).trans (by simp [go_sem])
  have x1 : w1.cell? ⟨w.heap.size + 1, 0, none⟩ = some (.int .i64 i) := (hb1.cell (by simp)).trans (by simp [go_sem])
  have hB1 : Below w.heap.size w w1 := by with_reducible (repeat (first | exact Below.refl _ _ | assumption | (refine Below.setCell ?_ (by first | omega | (simp; done) | (simp; omega)) _) | (refine Below.alloc ?_ (by first | omega | (simp; done) | (simp; omega)) _) | (refine below_drewN ?_ _) | (refine Below.drew ?_) | (refine Below.trans ?_ (Below.mono hb (by first | omega | (simp; done) | (simp; omega)))) | (refine Below.trans ?_ (Below.mono hb1 (by first | omega | (simp; done) | (simp; omega)))) | (refine Below.trans ?_ (Below.mono hb2 (by first | omega | (simp; done) | (simp; omega)))) | (refine Below.trans ?_ (Below.mono hb3 (by first | omega | (simp; done) | (simp; omega)))) | (refine Below.trans ?_ (Below.mono hb4 (by first | omega | (simp; done) | (simp; omega)))) | (refine Below.trans ?_ (Below.mono hb5 (by first | omega | (simp; done) | (simp; omega)))) | (refine Below.trans ?_ (Below.mono hb6 (by first | omega | (simp; done) | (simp; omega)))) | (refine Below.trans ?_ (Below.mono hb7 (by first | omega | (simp; done) | (simp; omega)))) | (refine Below.trans ?_ (Below.mono hb8 (by first | omega | (simp; done) | (simp; omega)))) | (refine Below.trans ?_ (Below.mono hb9 (by first | omega | (simp; done) | (simp; omega)))) | (refine Below.trans ?_ (Below.mono hb10 (by first | omega | (simp; done) | (simp; omega)))) | (refine Below.trans ?_ (Below.mono hb11 (by first | omega | (simp; done) | (simp; omega)))) | (refine Below.trans ?_ (Below.mono hb12 (by first | omega | (simp; done) | (simp; omega))))))
  clear hb1
  gi_wp2_with fail
  refine ⟨trivial, rfl, CallsIn.mono (callsIn_wide.2 (Of_any (h.below hB1) _)) ?_⟩
  rw [hB, hF.out]
  rintro e w2 ⟨rfl, hb2⟩
  have hB2 := hB1.trans (hb2.mono hB1.size)
  have hz2 := hb2.size
  replace x0 := cell_keep x0 hb2
  replace x1 := cell_keep x1 hb2
  clear hb2 hB1
  have q1 : w.heap.size < w2.heap.size := by omega
  have q2 : w.heap.size < w2.heap.size + 1 := by omega
  have q3 : w.heap.size + 1 < w2.heap.size := by omega
  have q4 : w.heap.size + 1 < w2.heap.size + 1 := by omega
  have SQ := Places_seq h.ok (w2.heap.size + 1 + 1 + 1) (w2.heap.size + 1 + 1) g b cap f hs0 hs1
  rw [HL.out] at SQ
  gi_wp2_with fail
  refine ⟨trivial, rfl, CallsIn.mono (callsIn_wide.2 (Places_any _ _ _)) ?_⟩
  rintro e w3 ⟨rfl, rfl⟩
  gi_wp2
  obtain ⟨W0, hW0⟩ : ∃ W0, ((((w2.alloc (.cells #[.int .i64 f.start, .int .i64 f.len, .int .u8 f.attr] 89)).alloc (.cells #[.int .i64 0] 3)).alloc (.cells #[.pointer (some ⟨g, 0, none⟩)] 52)).alloc (.cells #[.int .i64 f.start, .int .i64 f.len, .int .u8 f.attr] 89)) = W0 := ⟨_, rfl⟩
  have hB0 : Below w.heap.size w W0 := by rw [← hW0]; with_reducible (repeat (first | exact Below.refl _ _ | assumption | (refine Below.setCell ?_ (by first | omega | (simp; done) | (simp; omega)) _) | (refine Below.alloc ?_ (by first | omega | (simp; done) | (simp; omega)) _) | (refine below_drewN ?_ _) | (refine Below.drew ?_) | (refine Below.trans ?_ (Below.mono hb (by first | omega | (simp; done) | (simp; omega)))) | (refine Below.trans ?_ (Below.mono hb1 (by first | omega | (simp; done) | (simp; omega)))) | (refine Below.trans ?_ (Below.mono hb2 (by first | omega | (simp; done) | (simp; omega)))) | (refine Below.trans ?_ (Below.mono hb3 (by first | omega | (simp; done) | (simp; omega)))) | (refine Below.trans ?_ (Below.mono hb4 (by first | omega | (simp; done) | (simp; omega)))) | (refine Below.trans ?_ (Below.mono hb5 (by first | omega | (simp; done) | (simp; omega)))) | (refine Below.trans ?_ (Below.mono hb6 (by first | omega | (simp; done) | (simp; omega)))) | (refine Below.trans ?_ (Below.mono hb7 (by first | omega | (simp; done) | (simp; omega)))) | (refine Below.trans ?_ (Below.mono hb8 (by first | omega | (simp; done) | (simp; omega)))) | (refine Below.trans ?_ (Below.mono hb9 (by first | omega | (simp; done) | (simp; omega)))) | (refine Below.trans ?_ (Below.mono hb10 (by first | omega | (simp; done) | (simp; omega)))) | (refine Below.trans ?_ (Below.mono hb11 (by first | omega | (simp; done) | (simp; omega)))) | (refine Below.trans ?_ (Below.mono hb12 (by first | omega | (simp; done) | (simp; omega))))))
  have hB02 : Below w2.heap.size w2 W0 := by rw [← hW0]; with_reducible (repeat (first | exact Below.refl _ _ | assumption | (refine Below.setCell ?_ (by first | omega | (simp; done) | (simp; omega)) _) | (refine Below.alloc ?_ (by first | omega | (simp; done) | (simp; omega)) _) | (refine below_drewN ?_ _) | (refine Below.drew ?_) | (refine Below.trans ?_ (Below.mono hb (by first | omega | (simp; done) | (simp; omega)))) | (refine Below.trans ?_ (Below.mono hb1 (by first | omega | (simp; done) | (simp; omega)))) | (refine Below.trans ?_ (Below.mono hb2 (by first | omega | (simp; done) | (simp; omega)))) | (refine Below.trans ?_ (Below.mono hb3 (by first | omega | (simp; done) | (simp; omega)))) | (refine Below.trans ?_ (Below.mono hb4 (by first | omega | (simp; done) | (simp; omega)))) | (refine Below.trans ?_ (Below.mono hb5 (by first | omega | (simp; done) | (simp; omega)))) | (refine Below.trans ?_ (Below.mono hb6 (by first | omega | (simp; done) | (simp; omega)))) | (refine Below.trans ?_ (Below.mono hb7 (by first | omega | (simp; done) | (simp; omega)))) | (refine Below.trans ?_ (Below.mono hb8 (by first | omega | (simp; done) | (simp; omega)))) | (refine Below.trans ?_ (Below.mono hb9 (by first | omega | (simp; done) | (simp; omega)))) | (refine Below.trans ?_ (Below.mono hb10 (by first | omega | (simp; done) | (simp; omega)))) | (refine Below.trans ?_ (Below.mono hb11 (by first | omega | (simp; done) | (simp; omega)))) | (refine Below.trans ?_ (Below.mono hb12 (by first | omega | (simp; done) | (simp; omega))))))
  have hz0 : W0.heap.size = w2.heap.size + 1 + 1 + 1 + 1 := by rw [← hW0]; simp
  obtain ⟨cs, hcs⟩ : ∃ cs : List (Addr × Value), cs = [(⟨w.heap.size, 0, none⟩, .pointer (some ⟨g, 0, none⟩)), (⟨w.heap.size + 1, 0, none⟩, .int .i64 i), (⟨w2.heap.size + 1 + 1, 0, none⟩, .pointer (some ⟨g, 0, none⟩)), (⟨w2.heap.size + 1 + 1 + 1, 0, none⟩, .int .i64 f.start), (⟨w2.heap.size + 1 + 1 + 1, 1, none⟩, .int .i64 f.len)] := ⟨_, rfl⟩
  have hcsb : ∀ p ∈ cs, w.heap.size ≤ p.1.block ∧ p.1.block ≠ w2.heap.size + 1 := by
    intro p hp
    rw [hcs] at hp
    simp only [List.mem_cons, List.not_mem_nil, or_false] at hp
    rcases hp with rfl | rfl | rfl | rfl | rfl <;> (constructor <;> simp <;> omega)
  have hget : ∀ {W}, Cells cs W → W.cell? ⟨w.heap.size, 0, none⟩ = some (.pointer (some ⟨g, 0, none⟩)) ∧ W.cell? ⟨w.heap.size + 1, 0, none⟩ = some (.int .i64 i) ∧ W.cell? ⟨w2.heap.size + 1 + 1, 0, none⟩ = some (.pointer (some ⟨g, 0, none⟩)) ∧ W.cell? ⟨w2.heap.size + 1 + 1 + 1, 0, none⟩ = some (.int .i64 f.start) ∧ W.cell? ⟨w2.heap.size + 1 + 1 + 1, 1, none⟩ = some (.int .i64 f.len) := by
    intro W hc
    rw [hcs] at hc
    exact ⟨hc (⟨w.heap.size, 0, none⟩, _) (by simp), hc (⟨w.heap.size + 1, 0, none⟩, _) (by simp), hc (⟨w2.heap.size + 1 + 1, 0, none⟩, _) (by simp), hc (⟨w2.heap.size + 1 + 1 + 1, 0, none⟩, _) (by simp), hc (⟨w2.heap.size + 1 + 1 + 1, 1, none⟩, _) (by simp)⟩
  have hI0 : RI w g b cap (w2.heap.size + 1 + 1 + 1 + 1) (w2.heap.size + 1) cs (P.clr ((L.take 0).drop k0)) (.int .i64 ((0 - k0 : Nat) : Int)) W0 := by
    rw [show P.clr ((L.take 0).drop k0) = P by simp [Pl.clr]]
    refine ⟨h.below hB0, ?_, ?_, ?_, Chg.of_below hB0, by omega⟩
    · intro p hp
      rw [hcs] at hp
      simp only [List.mem_cons, List.not_mem_nil, or_false] at hp
      rcases hp with rfl | rfl | rfl | rfl | rfl
      · exact cell_keep x0 hB02
      · exact cell_keep x1 hB02
      all_goals (rw [← hW0]; simp [go_sem])
    all_goals (rw [← hW0]; simp [go_sem])
  clear hcs x0 x1 q1 q2 q3 q4
  rw [hW0]
  refine wpIn_rangeL (gf := 165) (lb := #[.pointer (some ⟨w2.heap.size + 1 + 1 + 1, 0, none⟩), .pointer (some ⟨w2.heap.size + 1 + 1, 0, none⟩)]) rfl (enters_of Try.func165 (by kernel_rfl) rfl)
    SQ (fun v hv => by obtain ⟨x, _, rfl⟩ := List.mem_map.1 hv; rfl)
    (fun k W => RI w g b cap (w2.heap.size + 1 + 1 + 1 + 1) (w2.heap.size + 1) cs (P.clr ((L.take k).drop k0)) (.int .i64 ((k - k0 : Nat) : Int)) W)
    (fun c k W => False)
    (fun k act W => ∃ (hk : k < L.length), RI w g b cap (w2.heap.size + 1 + 1 + 1 + 1) (w2.heap.size + 1) cs (P.clr ((L.take k).drop k0)) (.int .i64 ((k - k0 : Nat) : Int)) W ∧
      act = ⟨#[Value.pointer (some { block := g, off := 0 }), Value.int IntKind.i64 i,
          Value.pointer (some { block := w.heap.size, off := 0 }),
          Value.pointer (some { block := w.heap.size + 1, off := 0 }), Value.int IntKind.i64 0, Value.bool false,
          Value.pointer (some { block := w2.heap.size, off := 0 }), Value.bool true, undef,
          Value.pointer (some { block := w2.heap.size + 1, off := 0 }), .int .i64 L[k],
          Value.pointer (some { block := g, off := 0 }), Value.int IntKind.i64 i, Value.bool true, Value.bool false,
          Value.tuple #[.agg #[.int .i64 f.start, .int .i64 f.len, .int .u8 f.attr], Value.bool true],
          Value.pointer (some { block := g, off := 0 }), Value.int IntKind.i64 i,
          Value.tuple #[.agg #[.int .i64 f.start, .int .i64 f.len, .int .u8 f.attr], Value.bool true], .agg #[.int .i64 f.start, .int .i64 f.len, .int .u8 f.attr],
          Value.bool true, Value.bool true, Value.bool false, undef, undef, undef, undef, undef, undef, undef, undef,
          undef, Value.pointer (some { block := g, off := 0 }), .agg #[.int .i64 f.start, .int .i64 f.len, .int .u8 f.attr],
          Value.func (Fn.func 165) #[] #[Value.pointer (some { block := w2.heap.size + 1 + 1 + 1, off := 0 }), Value.pointer (some { block := w2.heap.size + 1 + 1, off := 0 })],
          .int .i64 L[k], undef, undef, undef, undef, undef, undef, undef, undef, undef, undef, undef, undef, undef, undef, undef, undef, undef], []⟩)
    (fun k W hi => ⟨(hget hi.cs).2.2.2.1, (hget hi.cs).2.2.2.2, (hget hi.cs).2.2.1, _, hi.pl, (hsame k).1, (hsame k).2.1, (hsame k).2.2.1⟩)
    (fun k W W' hi ha => hi.aux (by omega) (hz0 ▸ ha))
    (fun c k W W' hi ha => hi)
    (fun k a W W' ⟨hk, hi, e⟩ ha => ⟨hk, hi.aux (by omega) (hz0 ▸ ha), e⟩)
    hI0 ?assign ?body ?done ?stop
  case assign =>
    rintro l k W hk hi
    have hk' : k < L.length := by simpa using hk
    simp only [List.getElem_map]
    gi_wp2
    exact ⟨⟨hk', hi, by first | rfl | trivial⟩, keepsFrom_of_below (Below.refl _ _)⟩
  case body =>
    rintro l k a1 W hk ⟨hk', hi, rfl⟩
    have hx := hrg L[k] (List.getElem_mem hk')
    have hd := hdist.out k hk'
    obtain ⟨c0, c1, -, -, -⟩ := hget hi.cs
    have cn := hi.cn
    have fn := hi.fn
    have hsz := hi.sz
    have hstep := drop_take_step L k0 k hk'
    obtain ⟨x, hxe⟩ : ∃ x, L[k] = x := ⟨_, rfl⟩
    rw [hxe] at hx hd hstep ⊢
    have HST := Lib.hid hstep
    clear hstep hxe
    by_cases hlt : k < k0
    · have hxi : (x == i) = false := by simp [hd]; omega
      have h0 : k - k0 = 0 := by omega
      have h1 : k + 1 - k0 = 0 := by omega
      rw [h0] at hi cn
      gi_wp2
      refine ⟨keepsFrom_of_below (Below.refl _ _), ?_⟩
      show RI w g b cap _ _ cs (P.clr ((L.take (k + 1)).drop k0)) (.int .i64 ((k + 1 - k0 : Nat) : Int)) _
      rw [drop_take_skip L k0 k hlt, h1]
      exact hi
    · have HC := HST.out (by omega)
      have hlen := (hsame k).2.2.1
      have hP' : P.clr ((L.take (k + 1)).drop k0) = (P.clr ((L.take k).drop k0)).set x Cell.zero := by rw [HC]; exact clr_snoc _ _ _
      have HP := Lib.hid hP'
      obtain ⟨m, hm'⟩ : ∃ m : Nat, k - k0 = m := ⟨_, rfl⟩
      have hm1 : k + 1 - k0 = m + 1 := by omega
      rw [hm'] at hi cn
      have hm2 : m ≤ 4096 := by omega
      obtain ⟨Q, hQ⟩ : ∃ Q, P.clr ((L.take k).drop k0) = Q := ⟨_, rfl⟩
      rw [hQ] at hlen hi HP
      clear HC hP' hQ HST
      have fin : ∀ W1, PL W1 g b cap (Q.set x Cell.zero) → Chg (· = b) W W1 → W1.cell? ⟨w2.heap.size + 1, 0, none⟩ = some (.int .i64 (m : Int)) ∧ W1.frozen? ⟨w2.heap.size + 1, 0, none⟩ = false ∧ KeepsFrom W0.heap.size W (W1.setCell ⟨w2.heap.size + 1, 0, none⟩ (.int .i64 ((m : Int) + 1))) ∧ RI w g b cap (w2.heap.size + 1 + 1 + 1 + 1) (w2.heap.size + 1) cs (P.clr ((L.take (k + 1)).drop k0)) (.int .i64 ((k + 1 - k0 : Nat) : Int)) (W1.setCell ⟨w2.heap.size + 1, 0, none⟩ (.int .i64 ((m : Int) + 1))) := by
        intro W1 hP1 hk1
        have hz1 := hk1.size
        refine ⟨cell_keepC hi.cn hk1 (by show ¬ w2.heap.size + 1 = b; omega), frozen_keepC hi.cn hi.fn hk1 (by show ¬ w2.heap.size + 1 = b; omega), (keepsFrom_of_chg hk1 (fun k e => .inl (by subst e; omega))).trans (keepsFrom_of_chg (chg_set _ _ _ _) (fun k e => .inl (by subst e; omega))), ?_⟩
        rw [HP.out, hm1]
        push_cast
        exact (hi.turn hbl (by omega) hcsb hP1 hk1).count hgl hbl (by omega) hcsb _
      have HFIN := Lib.hid fin
      clear fin
      by_cases hxi : x = i
      · subst hxi
        clear hd
        gi_wp2_with fail
        refine ⟨trivial, rfl, CallsIn.mono (CallsIn.inRound _ (callsIn_wide.2 (Set_in hi.pl x Cell.zero hx.1 (by rw [hlen]; exact hx.2) Cell.zero_ok))) ?_⟩
        rintro e W1 ⟨rfl, hP1, hk1⟩
        obtain ⟨cn1, fn1, hfin⟩ := HFIN.out W1 hP1 hk1
        have HF2 := Lib.hid hfin
        clear hfin
        gi_wp2
        exact HF2.out
      · have hxb : (x == i) = false := by simp [hxi]
        have hm3 : 0 < m := by
          have : ¬ k = k0 := fun e => hxi (hd.2 e)
          omega
        clear hd
        gi_wp2_with fail
        refine ⟨trivial, rfl, CallsIn.mono (CallsIn.inRound _ (callsIn_wide.2 (Set_in hi.pl x Cell.zero hx.1 (by rw [hlen]; exact hx.2) Cell.zero_ok))) ?_⟩
        rintro e W1 ⟨rfl, hP1, hk1⟩
        obtain ⟨cn1, fn1, hfin⟩ := HFIN.out W1 hP1 hk1
        have HF2 := Lib.hid hfin
        clear hfin
        gi_wp2
        exact HF2.out
  case done =>
    rintro D W hD hi hK
    simp only [List.length_map] at hi
    rw [hful] at hi
    obtain ⟨c0, c1, -, -, -⟩ := hget hi.cs
    have cn := hi.cn
    have hsz := hi.sz
    have hbf : 0 ≤ (P.clr (L.drop k0)).before i := by rw [hbef.out]; exact hs0
    have hDl := (Array.getElem?_eq_some_iff.1 hK).1
    gi_wp2_with fail
    refine wpIn_mono (Q := noP _) ?_ (fun e a w h => noP_imp h)
    gi_region_with (first | (refine ⟨trivial, rfl, ?_⟩; gi_at_call 115; refine CallsIn.mono (callsIn_wide.2 (Mark_some (hi.pl.below (by with_reducible (repeat (first | exact Below.refl _ _ | assumption | (refine Below.setCell ?_ (by first | omega | (simp; done) | (simp; omega)) _) | (refine Below.alloc ?_ (by first | omega | (simp; done) | (simp; omega)) _) | (refine below_drewN ?_ _) | (refine Below.drew ?_) | (refine Below.trans ?_ (Below.mono hb (by first | omega | (simp; done) | (simp; omega)))) | (refine Below.trans ?_ (Below.mono hb1 (by first | omega | (simp; done) | (simp; omega)))) | (refine Below.trans ?_ (Below.mono hb2 (by first | omega | (simp; done) | (simp; omega)))) | (refine Below.trans ?_ (Below.mono hb3 (by first | omega | (simp; done) | (simp; omega)))) | (refine Below.trans ?_ (Below.mono hb4 (by first | omega | (simp; done) | (simp; omega)))) | (refine Below.trans ?_ (Below.mono hb5 (by first | omega | (simp; done) | (simp; omega)))) | (refine Below.trans ?_ (Below.mono hb6 (by first | omega | (simp; done) | (simp; omega)))) | (refine Below.trans ?_ (Below.mono hb7 (by first | omega | (simp; done) | (simp; omega)))) | (refine Below.trans ?_ (Below.mono hb8 (by first | omega | (simp; done) | (simp; omega)))) | (refine Below.trans ?_ (Below.mono hb9 (by first | omega | (simp; done) | (simp; omega)))) | (refine Below.trans ?_ (Below.mono hb10 (by first | omega | (simp; done) | (simp; omega)))) | (refine Below.trans ?_ (Below.mono hb11 (by first | omega | (simp; done) | (simp; omega)))) | (refine Below.trans ?_ (Below.mono hb12 (by first | omega | (simp; done) | (simp; omega)))))))) i hbf)) ?_; rintro e w5 ⟨rfl, hP5, hk5⟩; have cn5 : w5.cell? ⟨w2.heap.size + 1, 0, none⟩ = some (.int .i64 ((L.length - k0 : Nat) : Int)) := (by first | exact cell_keepC cn hk5 (by show ¬ w2.heap.size + 1 = b; omega) | exact cell_keepC (show (World.drew W).cell? ⟨w2.heap.size + 1, 0, none⟩ = some (.int .i64 ((L.length - k0 : Nat) : Int)) from cn) hk5 (by show ¬ w2.heap.size + 1 = b; omega))))
    all_goals
      have hK5 : w5.heap[D]? = some (.deferred (some [])) := (hk5.block D hDl (by show ¬ D = b; omega)).trans hK
      have hc5 : Chg (· = b) w w5 := by first | exact hi.chg.trans hk5 | exact hi.chg.drew.trans hk5
      have hz5 : w2.heap.size + 1 + 1 + 1 + 1 ≤ w5.heap.size := by have := hk5.size; have : W.heap.size ≤ w5.heap.size := this; omega
      refine noP_normal ?_
      gi_wp2
      refine ⟨by simp, .inl ⟨_, _, rfl, run_takeDeferred hK5, ?_⟩⟩
      have ha := Aux.put (W := w5) (B := w.heap.size) (.deferred none) (by omega) hK5 rfl
      refine ⟨.tuple #[.int .i64 ((L.length - k0 : Nat) : Int), .bool true], ?_, rfl, ?_, ha.chg hc5 (by omega)⟩
      · simp [results, Try.f54, go_sem]
      · have := hP5.aux ha
        rw [hbef.out] at this
        exact this
  case stop =>
    rintro D c k W hD hk h
    exact h.elim
end Go.Proofs.Ytbkddgeocmkegaa
