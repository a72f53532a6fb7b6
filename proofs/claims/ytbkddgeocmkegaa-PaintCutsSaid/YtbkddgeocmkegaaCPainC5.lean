/- Lemmas on the way to this seat's statements; they bear no condition of their own. -/
import Derived.Test.YtbkddgeocmkegaaCPainC4
namespace Go.Proofs.Ytbkddgeocmkegaa
open Go.RowKit Go.Shelf
set_option linter.unusedSimpArgs false
set_option linter.unusedVariables false
set_option maxHeartbeats 2000000
attribute [local go_sem ↓] run_start run_byte run_cols
attribute [local go_sem] Oper.semAt_some

theorem Rest_shut {w : World} {g b cap : Nat} {P : Pl} (h : PL w g b cap P) (i : Int) (hi : P.openAt i = false) :
    Calls Try.prog 54 #[.pointer (some ⟨g, 0, none⟩), .int .i64 i] w fun e w' => e = .returned (.tuple #[.int .i64 0, .bool false]) ∧ Below w.heap.size w w' := by
  refine (callsIn_wide (n := 0)).1 ?_
  refine callsIn_of_wp_marks Try.func54 rfl trivial ?_ rfl
  simp only [Try.ntmps54, List.size_toArray, List.length_cons, List.length_nil, Nat.reduceAdd, Nat.reduceSub, Array.replicate_succ, Array.replicate_zero, List.push_toArray, List.append_toArray, List.nil_append, List.cons_append]
  gi_wp2_with fail
  refine ⟨trivial, rfl, CallsIn.mono (callsIn_wide.2 (Open_any (h.below (by with_reducible (repeat (first | exact Below.refl _ _ | assumption | (refine Below.setCell ?_ (by first | omega | (simp; done) | (simp; omega)) _) | (refine Below.alloc ?_ (by first | omega | (simp; done) | (simp; omega)) _) | (refine below_drewN ?_ _) | (refine Below.drew ?_) | (refine Below.trans ?_ (Below.mono hb (by first | omega | (simp; done) | (simp; omega)))) | (refine Below.trans ?_ (Below.mono hb1 (by first | omega | (simp; done) | (simp; omega)))) | (refine Below.trans ?_ (Below.mono hb2 (by first | omega | (simp; done) | (simp; omega)))) | (refine Below.trans ?_ (Below.mono hb3 (by first | omega | (simp; done) | (simp; omega)))) | (refine Below.trans ?_ (Below.mono hb4 (by first | omega | (simp; done) | (simp; omega)))) | (refine Below.trans ?_ (Below.mono hb5 (by first | omega | (simp; done) | (simp; omega)))) | (refine Below.trans ?_ (Below.mono hb6 (by first | omega | (simp; done) | (simp; omega)))) | (refine Below.trans ?_ (Below.mono hb7 (by first | omega | (simp; done) | (simp; omega)))) | (refine Below.trans ?_ (Below.mono hb8 (by first | omega | (simp; done) | (simp; omega)))) | (refine Below.trans ?_ (Below.mono hb9 (by first | omega | (simp; done) | (simp; omega)))) | (refine Below.trans ?_ (Below.mono hb10 (by first | omega | (simp; done) | (simp; omega)))) | (refine Below.trans ?_ (Below.mono hb11 (by first | omega | (simp; done) | (simp; omega)))) | (refine Below.trans ?_ (Below.mono hb12 (by first | omega | (simp; done) | (simp; omega)))))))) _)) ?_⟩
  rw [hi]
  rintro e w1 ⟨rfl, hb1⟩
  have hB1 : Below w.heap.size w w1 := by with_reducible (repeat (first | exact Below.refl _ _ | assumption | (refine Below.setCell ?_ (by first | omega | (simp; done) | (simp; omega)) _) | (refine Below.alloc ?_ (by first | omega | (simp; done) | (simp; omega)) _) | (refine below_drewN ?_ _) | (refine Below.drew ?_) | (refine Below.trans ?_ (Below.mono hb (by first | omega | (simp; done) | (simp; omega)))) | (refine Below.trans ?_ (Below.mono hb1 (by first | omega | (simp; done) | (simp; omega)))) | (refine Below.trans ?_ (Below.mono hb2 (by first | omega | (simp; done) | (simp; omega)))) | (refine Below.trans ?_ (Below.mono hb3 (by first | omega | (simp; done) | (simp; omega)))) | (refine Below.trans ?_ (Below.mono hb4 (by first | omega | (simp; done) | (simp; omega)))) | (refine Below.trans ?_ (Below.mono hb5 (by first | omega | (simp; done) | (simp; omega)))) | (refine Below.trans ?_ (Below.mono hb6 (by first | omega | (simp; done) | (simp; omega)))) | (refine Below.trans ?_ (Below.mono hb7 (by first | omega | (simp; done) | (simp; omega)))) | (refine Below.trans ?_ (Below.mono hb8 (by first | omega | (simp; done) | (simp; omega)))) | (refine Below.trans ?_ (Below.mono hb9 (by first | omega | (simp; done) | (simp; omega)))) | (refine Below.trans ?_ (Below.mono hb10 (by first | omega | (simp; done) | (simp; omega)))) | (refine Below.trans ?_ (Below.mono hb11 (by first | omega | (simp; done) | (simp; omega)))) | (refine Below.trans ?_ (Below.mono hb12 (by first | omega | (simp; done) | (simp; omega))))))
  gi_wp2
  refine ⟨.tuple #[.int .i64 0, .bool false], ?_, rfl, hB1⟩
  simp [results, Try.f54, go_sem]

/-- No panic. -/
def noP (Q : Exit → Act → World → Prop) : Exit → Act → World → Prop
  | .panic _, _, _ => False
  | .normal, a, w => Q .normal a w
  | .ret, a, w => Q .ret a w
  | .exit i, a, w => Q (.exit i) a w
  | .goto t, a, w => Q (.goto t) a w
  | .outgrown, a, w => Q .outgrown a w
theorem noP_normal {Q : Exit → Act → World → Prop} {a : Act} {w : World} (h : Q .normal a w) : noP Q .normal a w := h
theorem noP_imp {Q : Exit → Act → World → Prop} {e : Exit} {a : Act} {w : World} (h : noP Q e a w) : Q e a w := by
  cases e <;> first | exact h | exact h.elim

theorem drop_take_step (L : List Int) (k0 k : Nat) (hk : k < L.length) (h : k0 ≤ k) : (L.take (k + 1)).drop k0 = (L.take k).drop k0 ++ [L[k]] := by
  rw [List.take_add_one, List.getElem?_eq_getElem hk, List.drop_append_of_le_length (by rw [List.length_take]; omega)]
  rfl
theorem drop_take_skip (L : List Int) (k0 k : Nat) (h : k < k0) : (L.take (k + 1)).drop k0 = (L.take k).drop k0 := by
  rw [List.drop_eq_nil_of_le (by rw [List.length_take]; omega), List.drop_eq_nil_of_le (by rw [List.length_take]; omega)]

set_option maxRecDepth 100000 in
theorem Rest_list {w : World} {g b cap : Nat} {P : Pl} (h : PL w g b cap P) (i : Int) (hop : P.openAt i = true) (hB : P.ofB i = true) (f : Fld) (hF : Hid (P.ofF i = f)) (hs0 : 0 ≤ f.start) (hs1 : f.start < (P.cells.length : Int)) (L : List Int) (HL : Hid (places (P.cells.length : Int) f = L))
    (k0 : Nat) (hk0 : k0 < L.length) (hdist : Hid (∀ (j : Nat) (hj : j < L.length), L[j] = i ↔ j = k0)) (hbef : Hid ((P.clr (L.drop k0)).before i = f.start)) :
    Calls Try.prog 54 #[.pointer (some ⟨g, 0, none⟩), .int .i64 i] w fun e w' => e = .returned (.tuple #[.int .i64 ((L.length - k0 : Nat) : Int), .bool true]) ∧ PL w' g b cap ((P.clr (L.drop k0)).mark f.start true) ∧ Chg (· = b) w w' := by
  have hn := Pl.N_pos h.ok
  have hm := Pl.N_le h.ok
  have hgl := h.gl
  have hbl := h.bl
  have hrg : ∀ x ∈ L, 0 ≤ x ∧ x < (P.cells.length : Int) := by rw [← HL.out]; exact places_range (by omega) f
  have hpn : (L.length : Int) ≤ 4096 := by rw [← HL.out, places_len]; unfold placesN; rw [if_pos ⟨hs0, hs1⟩]; omega
  have hsame := fun k => clr_same P ((L.take k).drop k0)
  have hful : P.clr ((L.take L.length).drop k0) = P.clr (L.drop k0) := by rw [List.take_length]
  refine (callsIn_wide (n := 0)).1 ?_
  refine callsIn_of_wp_marks Try.func54 rfl trivial ?_ rfl
  simp only [Try.ntmps54, List.size_toArray, List.length_cons, List.length_nil, Nat.reduceAdd, Nat.reduceSub, Array.replicate_succ, Array.replicate_zero, List.push_toArray, List.append_toArray, List.nil_append, List.cons_append]
  gi_wp2_with fail
  refine ⟨trivial, rfl, CallsIn.mono (callsIn_wide.2 (Open_any (h.below (by with_reducible (repeat (first | exact Below.refl _ _ | assumption | (refine Below.setCell ?_ (by first | omega | (simp; done) | (simp; omega)) _) | (refine Below.alloc ?_ (by first | omega | (simp; done) | (simp; omega)) _) | (refine below_drewN ?_ _) | (refine Below.drew ?_) | (refine Below.trans ?_ (Below.mono hb (by first | omega | (simp; done) | (simp; omega)))) | (refine Below.trans ?_ (Below.mono hb1 (by first | omega | (simp; done) | (simp; omega)))) | (refine Below.trans ?_ (Below.mono hb2 (by first | omega | (simp; done) | (simp; omega)))) | (refine Below.trans ?_ (Below.mono hb3 (by first | omega | (simp; done) | (simp; omega)))) | (refine Below.trans ?_ (Below.mono hb4 (by first | omega | (simp; done) | (simp; omega)))) | (refine Below.trans ?_ (Below.mono hb5 (by first | omega | (simp; done) | (simp; omega)))) | (refine Below.trans ?_ (Below.mono hb6 (by first | omega | (simp; done) | (simp; omega)))) | (refine Below.trans ?_ (Below.mono hb7 (by first | omega | (simp; done) | (simp; omega)))) | (refine Below.trans ?_ (Below.mono hb8 (by first | omega | (simp; done) | (simp; omega)))) | (refine Below.trans ?_ (Below.mono hb9 (by first | omega | (simp; done) | (simp; omega)))) | (refine Below.trans ?_ (Below.mono hb10 (by first | omega | (simp; done) | (simp; omega)))) | (refine Below.trans ?_ (Below.mono hb11 (by first | omega | (simp; done) | (simp; omega)))) | (refine Below.trans ?_ (Below.mono hb12 (by first | omega | (simp; done) | (simp; omega)))))))) _)) ?_⟩
  rw [hop]
  rintro e w1 ⟨rfl, hb1⟩
  have hz1 := hb1.size
  simp only [World.size_alloc] at hz1
  have x0 : w1.cell? ⟨w.heap.size, 0, none⟩ = some (.pointer (some ⟨g, 0, none⟩)) := (hb1.cell (by simp; omega)).trans (by simp [go_sem])
  have x1 : w1.cell? ⟨w.heap.size + 1, 0, none⟩ = some (.int .i64 i) := (hb1.cell (by simp)).trans (by simp [go_sem])
  have hB1 : Below w.heap.size w w1 := by with_reducible (repeat (first | exact Below.refl _ _ | assumption | (refine Below.setCell ?_ (by first | omega | (simp; done) | (simp; omega)) _) | (refine Below.alloc ?_ (by first | omega | (simp; done) | (simp; omega)) _) | (refine below_drewN ?_ _) | (refine Below.drew ?_) | (refine Below.trans ?_ (Below.mono hb (by first | omega | (simp; done) | (simp; omega)))) | (refine Below.trans ?_ (Below.mono hb1 (by first | omega | (simp; done) | (simp; omega)))) | (refine Below.trans ?_ (Below.mono hb2 (by first | omega | (simp; done) | (simp; omega)))) | (refine Below.trans ?_ (Below.mono hb3 (by first | omega | (simp; done) | (simp; omega)))) | (refine Below.trans ?_ (Below.mono hb4 (by first | omega | (simp; done) | (simp; omega)))) | (refine Below.trans ?_ (Below.mono hb5 (by first | omega | (simp; done) | (simp; omega)))) | (refine Below.trans ?_ (Below.mono hb6 (by first | omega | (simp; done) | (simp; omega)))) | (refine Below.trans ?_ (Below.mono hb7 (by first | omega | (simp; done) | (simp; omega)))) | (refine Below.trans ?_ (Below.mono hb8 (by first | omega | (simp; done) | (simp; omega)))) | (refine Below.trans ?_ (Below.mono hb9 (by first | omega | (simp; done) | (simp; omega)))) | (refine Below.trans ?_ (Below.mono hb10 (by first | omega | (simp; done) | (simp; omega)))) | (refine Below.trans ?_ (Below.mono hb11 (by first | omega | (simp; done) | (simp; omega)))) | (refine Below.trans ?_ (Below.mono hb12 (by first | omega | (simp; done) | (simp; omega))))))
  clear hb1
  gi_wp2_with fail
  refine ⟨trivial, rfl, CallsIn.mono (callsIn_wide.2 (Of_any (h.below hB1) _)) ?_⟩
  rw [hB, hF.out]
  rintro e w2 ⟨rfl, hb2⟩
  have hB2 := hB1.trans (hb2.mono hB1.size)
  have hz2 := hb2.size
  replace x0 := cell_keep x0 hb2
  replace x1 := cell_keep x1 hb2
  clear hb2 hB1
  have q1 : w.heap.size < w2.heap.size := by omega
  have q2 : w.heap.size < w2.heap.size + 1 := by omega
  have q3 : w.heap.size + 1 < w2.heap.size := by omega
  have q4 : w.heap.size + 1 < w2.heap.size + 1 := by omega
  have SQ := Places_seq h.ok (w2.heap.size + 1 + 1 + 1) (w2.heap.size + 1 + 1) g b cap f hs0 hs1
  rw [HL.out] at SQ
  gi_wp2_with fail
  refine ⟨trivial, rfl, CallsIn.mono (callsIn_wide.2 (Places_any _ _ _)) ?_⟩
  rintro e w3 ⟨rfl, rfl⟩
  gi_wp2
  obtain ⟨W0, hW0⟩ : ∃ W0, ((((w2.alloc (.cells #[.int .i64 f.start, .int .i64 f.len, .int .u8 f.attr] 89)).alloc (.cells #[.int .i64 0] 3)).alloc (.cells #[.pointer (some ⟨g, 0, none⟩)] 52)).alloc (.cells #[.int .i64 f.start, .int .i64 f.len, .int .u8 f.attr] 89)) = W0 := ⟨_, rfl⟩
  have hB0 : Below w.heap.size w W0 := by rw [← hW0]; with_reducible (repeat (first | exact Below.refl _ _ | assumption | (refine Below.setCell ?_ (by first | omega | (simp; done) | (simp; omega)) _) | (refine Below.alloc ?_ (by first | omega | (simp; done) | (simp; omega)) _) | (refine below_drewN ?_ _) | (refine Below.drew ?_) | (refine Below.trans ?_ (Below.mono hb (by first | omega | (simp; done) | (simp; omega)))) | (refine Below.trans ?_ (Below.mono hb1 (by first | omega | (simp; done) | (simp; omega)))) | (refine Below.trans ?_ (Below.mono hb2 (by first | omega | (simp; done) | (simp; omega)))) | (refine Below.trans ?_ (Below.mono hb3 (by first | omega | (simp; done) | (simp; omega)))) | (refine Below.trans ?_ (Below.mono hb4 (by first | omega | (simp; done) | (simp; omega)))) | (refine Below.trans ?_ (Below.mono hb5 (by first | omega | (simp; done) | (simp; omega)))) | (refine Below.trans ?_ (Below.mono hb6 (by first | omega | (simp; done) | (simp; omega)))) | (refine Below.trans ?_ (Below.mono hb7 (by first | omega | (simp; done) | (simp; omega)))) | (refine Below.trans ?_ (Below.mono hb8 (by first | omega | (simp; done) | (simp; omega)))) | (refine Below.trans ?_ (Below.mono hb9 (by first | omega | (simp; done) | (simp; omega)))) | (refine Below.trans ?_ (Below.mono hb10 (by first | omega | (simp; done) | (simp; omega)))) | (refine Below.trans ?_ (Below.mono hb11 (by first | omega | (simp; done) | (simp; omega)))) | (refine Below.trans ?_ (Below.mono hb12 (by first | omega | (simp; done) | (simp; omega))))))
  have hB02 : Below w2.heap.size w2 W0 := by rw [← hW0]; with_reducible (repeat (first | exact Below.refl _ _ | assumption | (refine Below.setCell ?_ (by first | omega | (simp; done) | (simp; omega)) _) | (refine Below.alloc ?_ (by first | omega | (simp; done) | (simp; omega)) _) | (refine below_drewN ?_ _) | (refine Below.drew ?_) | (refine Below.trans ?_ (Below.mono hb (by first | omega | (simp; done) | (simp; omega)))) | (refine Below.trans ?_ (Below.mono hb1 (by first | omega | (simp; done) | (simp; omega)))) | (refine Below.trans ?_ (Below.mono hb2 (by first | omega | (simp; done) | (simp; omega)))) | (refine Below.trans ?_ (Below.mono hb3 (by first | omega | (simp; done) | (simp; omega)))) | (refine Below.trans ?_ (Below.mono hb4 (by first | omega | (simp; done) | (simp; omega)))) | (refine Below.trans ?_ (Below.mono hb5 (by first | omega | (simp; done) | (simp; omega)))) | (refine Below.trans ?_ (Below.mono hb6 (by first | omega | (simp; done) | (simp; omega)))) | (refine Below.trans ?_ (Below.mono hb7 (by first | omega | (simp; done) | (simp; omega)))) | (refine Below.trans ?_ (Below.mono hb8 (by first | omega | (simp; done) | (simp; omega)))) | (refine Below.trans ?_ (Below.mono hb9 (by first | omega | (simp; done) | (simp; omega)))) | (refine Below.trans ?_ (Below.mono hb10 (by first | omega | (simp; done) | (simp; omega)))) | (refine Below.trans ?_ (Below.mono hb11 (by first | omega | (simp; done) | (simp; omega)))) | (refine Below.trans ?_ (Below.mono hb12 (by first | omega | (simp; done) | (simp; omega))))))
  have hz0 : W0.heap.size = w2.heap.size + 1 + 1 + 1 + 1 := by rw [← hW0]; simp
  obtain ⟨cs, hcs⟩ : ∃ cs : List (Addr × Value), cs = [(⟨w.heap.size, 0, none⟩, .pointer (some ⟨g, 0, none⟩)), (⟨w.heap.size + 1, 0, none⟩, .int .i64 i), (⟨w2.heap.size + 1 + 1, 0, none⟩, .pointer (some ⟨g, 0, none⟩)), (⟨w2.heap.size + 1 + 1 + 1, 0, none⟩, .int .i64 f.start), (⟨w2.heap.size + 1 + 1 + 1, 1, none⟩, .int .i64 f.len)] := ⟨_, rfl⟩
  have hcsb : ∀ p ∈ cs, w.heap.size ≤ p.1.block ∧ p.1.block ≠ w2.heap.size + 1 := by
    intro p hp
    rw [hcs] at hp
    simp only [List.mem_cons, List.not_mem_nil, or_false] at hp
    rcases hp with rfl | rfl | rfl | rfl | rfl <;> (constructor <;> simp <;> omega)
  have hget : ∀ {W}, Cells cs W → W.cell? ⟨w.heap.size, 0, none⟩ = some (.pointer (some ⟨g, 0, none⟩)) ∧ W.cell? ⟨w.heap.size + 1, 0, none⟩ = some (.int .i64 i) ∧ W.cell? ⟨w2.heap.size + 1 + 1, 0, none⟩ = some (.pointer (some ⟨g, 0, none⟩)) ∧ W.cell? ⟨w2.heap.size + 1 + 1 + 1, 0, none⟩ = some (.int .i64 f.start) ∧ W.cell? ⟨w2.heap.size + 1 + 1 + 1, 1, none⟩ = some (.int .i64 f.len) := by
    intro W hc
    rw [hcs] at hc
    exact ⟨hc (⟨w.heap.size, 0, none⟩, _) (by simp), hc (⟨w.heap.size + 1, 0, none⟩, _) (by simp), hc (⟨w2.heap.size + 1 + 1, 0, none⟩, _) (by simp), hc (⟨w2.heap.size + 1 + 1 + 1, 0, none⟩, _) (by simp), hc (⟨w2.heap.size + 1 + 1 + 1, 1, none⟩, _) (by simp)⟩
  have hI0 : RI w g b cap (w2.heap.size + 1 + 1 + 1 + 1) (w2.heap.size + 1) cs (P.clr ((L.take 0).drop k0)) (.int .i64 ((0 - k0 : Nat) : Int)) W0 := by
    rw [show P.clr ((L.take 0).drop k0) = P by simp [Pl.clr]]
    refine ⟨h.below hB0, ?_, ?_, ?_, Chg.of_below hB0, by omega⟩
    · intro p hp
      rw [hcs] at hp
      simp only [List.mem_cons, List.not_mem_nil, or_false] at hp
      rcases hp with rfl | rfl | rfl | rfl | rfl
      · exact cell_keep x0 hB02
      · exact cell_keep x1 hB02
      all_goals (rw [← hW0]; simp [go_sem])
    all_goals (rw [← hW0]; simp [go_sem])
  clear hcs x0 x1 q1 q2 q3 q4
  rw [hW0]
  refine wpIn_rangeL (gf := 165) (lb := #[.pointer (some ⟨w2.heap.size + 1 + 1 + 1, 0, none⟩), .pointer (some ⟨w2.heap.size + 1 + 1, 0, none⟩)]) rfl (enters_of Try.func165 (by kernel_rfl) rfl)
    SQ (fun v hv => by obtain ⟨x, _, rfl⟩ := List.mem_map.1 hv; rfl)
    (fun k W => RI w g b cap (w2.heap.size + 1 + 1 + 1 + 1) (w2.heap.size + 1) cs (P.clr ((L.take k).drop k0)) (.int .i64 ((k - k0 : Nat) : Int)) W)
    (fun c k W => False)
    (fun k act W => ∃ (hk : k < L.length), RI w g b cap (w2.heap.size + 1 + 1 + 1 + 1) (w2.heap.size + 1) cs (P.clr ((L.take k).drop k0)) (.int .i64 ((k - k0 : Nat) : Int)) W ∧
      act = ⟨#[Value.pointer (some { block := g, off := 0 }), Value.int IntKind.i64 i,
          Value.pointer (some { block := w.heap.size, off := 0 }),
          Value.pointer (some { block := w.heap.size + 1, off := 0 }), Value.int IntKind.i64 0, Value.bool false,
          Value.pointer (some { block := w2.heap.size, off := 0 }), Value.bool true, undef,
          Value.pointer (some { block := w2.heap.size + 1, off := 0 }), .int .i64 L[k],
          Value.pointer (some { block := g, off := 0 }), Value.int IntKind.i64 i, Value.bool true, Value.bool false,
          Value.tuple #[.agg #[.int .i64 f.start, .int .i64 f.len, .int .u8 f.attr], Value.bool true],
          Value.pointer (some { block := g, off := 0 }), Value.int IntKind.i64 i,
          Value.tuple #[.agg #[.int .i64 f.start, .int .i64 f.len, .int .u8 f.attr], Value.bool true], .agg #[.int .i64 f.start, .int .i64 f.len, .int .u8 f.attr],
          Value.bool true, Value.bool true, Value.bool false, undef, undef, undef, undef, undef, undef, undef, undef,
          undef, Value.pointer (some { block := g, off := 0 }), .agg #[.int .i64 f.start, .int .i64 f.len, .int .u8 f.attr],
          Value.func (Fn.func 165) #[] #[Value.pointer (some { block := w2.heap.size + 1 + 1 + 1, off := 0 }), Value.pointer (some { block := w2.heap.size + 1 + 1, off := 0 })],
          .int .i64 L[k], undef, undef, undef, undef, undef, undef, undef, undef, undef, undef, undef, undef, undef, undef, undef, undef, undef], []⟩)
    (fun k W hi => ⟨(hget hi.cs).2.2.2.1, (hget hi.cs).2.2.2.2, (hget hi.cs).2.2.1, _, hi.pl, (hsame k).1, (hsame k).2.1, (hsame k).2.2.1⟩)
    (fun k W W' hi ha => hi.aux (by omega) (hz0 ▸ ha))
    (fun c k W W' hi ha => hi)
    (fun k a W W' ⟨hk, hi, e⟩ ha => ⟨hk, hi.aux (by omega) (hz0 ▸ ha), e⟩)
    hI0 ?assign ?body ?done ?stop
  case assign =>
    rintro l k W hk hi
    have hk' : k < L.length := by simpa using hk
    simp only [List.getElem_map]
    gi_wp2
    exact ⟨⟨hk', hi, by first | rfl | trivial⟩, keepsFrom_of_below (Below.refl _ _)⟩
  case body =>
    rintro l k a1 W hk ⟨hk', hi, rfl⟩
    have hx := hrg L[k] (List.getElem_mem hk')
    have hd := hdist.out k hk'
    obtain ⟨c0, c1, -, -, -⟩ := hget hi.cs
    have cn := hi.cn
    have fn := hi.fn
    have hsz := hi.sz
    have hstep := drop_take_step L k0 k hk'
    obtain ⟨x, hxe⟩ : ∃ x, L[k] = x := ⟨_, rfl⟩
    rw [hxe] at hx hd hstep ⊢
    have HST := Lib.hid hstep
    clear hstep hxe
    by_cases hlt : k < k0
    · have hxi : (x == i) = false := by simp [hd]; omega
      have h0 : k - k0 = 0 := by omega
      have h1 : k + 1 - k0 = 0 := by omega
      rw [h0] at hi cn
      gi_wp2
      refine ⟨keepsFrom_of_below (Below.refl _ _), ?_⟩
      show RI w g b cap _ _ cs (P.clr ((L.take (k + 1)).drop k0)) (.int .i64 ((k + 1 - k0 : Nat) : Int)) _
      rw [drop_take_skip L k0 k hlt, h1]
      exact hi
    · have HC := HST.out (by omega)
      have hlen := (hsame k).2.2.1
      have hP' : P.clr ((L.take (k + 1)).drop k0) = (P.clr ((L.take k).drop k0)).set x Cell.zero := by rw [HC]; exact clr_snoc _ _ _
      have HP := Lib.hid hP'
      obtain ⟨m, hm'⟩ : ∃ m : Nat, k - k0 = m := ⟨_, rfl⟩
      have hm1 : k + 1 - k0 = m + 1 := by omega
      rw [hm'] at hi cn
      have hm2 : m ≤ 4096 := by omega
      obtain ⟨Q, hQ⟩ : ∃ Q, P.clr ((L.take k).drop k0) = Q := ⟨_, rfl⟩
      rw [hQ] at hlen hi HP
      clear HC hP' hQ HST
      have fin : ∀ W1, PL W1 g b cap (Q.set x Cell.zero) → Chg (· = b) W W1 → W1.cell? ⟨w2.heap.size + 1, 0, none⟩ = some (.int .i64 (m : Int)) ∧ W1.frozen? ⟨w2.heap.size + 1, 0, none⟩ = false ∧ KeepsFrom W0.heap.size W (W1.setCell ⟨w2.heap.size + 1, 0, none⟩ (.int .i64 ((m : Int) + 1))) ∧ RI w g b cap (w2.heap.size + 1 + 1 + 1 + 1) (w2.heap.size + 1) cs (P.clr ((L.take (k + 1)).drop k0)) (.int .i64 ((k + 1 - k0 : Nat) : Int)) (W1.setCell ⟨w2.heap.size + 1, 0, none⟩ (.int .i64 ((m : Int) + 1))) := by
        intro W1 hP1 hk1
        have hz1 := hk1.size
        refine ⟨cell_keepC hi.cn hk1 (by show ¬ w2.heap.size + 1 = b; omega), frozen_keepC hi.cn hi.fn hk1 (by show ¬ w2.heap.size + 1 = b; omega), (keepsFrom_of_chg hk1 (fun k e => .inl (by subst e; omega))).trans (keepsFrom_of_chg (chg_set _ _ _ _) (fun k e => .inl (by subst e; omega))), ?_⟩
        rw [HP.out, hm1]
        push_cast
        exact (hi.turn hbl (by omega) hcsb hP1 hk1).count hgl hbl (by omega) hcsb _
      have HFIN := Lib.hid fin
      clear fin
      by_cases hxi : x = i
      · subst hxi
        clear hd
        gi_wp2_with fail
        refine ⟨trivial, rfl, CallsIn.mono (CallsIn.inRound _ (callsIn_wide.2 (Set_in hi.pl x Cell.zero hx.1 (by rw [hlen]; exact hx.2) Cell.zero_ok))) ?_⟩
        rintro e W1 ⟨rfl, hP1, hk1⟩
        obtain ⟨cn1, fn1, hfin⟩ := HFIN.out W1 hP1 hk1
        have HF2 := Lib.hid hfin
        clear hfin
        gi_wp2
        exact HF2.out
      · have hxb : (x == i) = false := by simp [hxi]
        have hm3 : 0 < m := by
          have : ¬ k = k0 := fun e => hxi (hd.2 e)
          omega
        clear hd
        gi_wp2_with fail
        refine ⟨trivial, rfl, CallsIn.mono (CallsIn.inRound _ (callsIn_wide.2 (Set_in hi.pl x Cell.zero hx.1 (by rw [hlen]; exact hx.2) Cell.zero_ok))) ?_⟩
        rintro e W1 ⟨rfl, hP1, hk1⟩
        obtain ⟨cn1, fn1, hfin⟩ := HFIN.out W1 hP1 hk1
        have HF2 := Lib.hid hfin
        clear hfin
        gi_wp2
        exact HF2.out
  case done =>
    rintro D W hD hi hK
    simp only [List.length_map] at hi
    rw [hful] at hi
    obtain ⟨c0, c1, -, -, -⟩ := hget hi.cs
    have cn := hi.cn
    have hsz := hi.sz
    have hbf : 0 ≤ (P.clr (L.drop k0)).before i := by rw [hbef.out]; exact hs0
    have hDl := (Array.getElem?_eq_some_iff.1 hK).1
    gi_wp2_with fail
    refine wpIn_mono (Q := noP _) ?_ (fun e a w h => noP_imp h)
    gi_region_with (first | (refine ⟨trivial, rfl, ?_⟩; gi_at_call 115; refine CallsIn.mono (callsIn_wide.2 (Mark_some (hi.pl.below (by with_reducible (repeat (first | exact Below.refl _ _ | assumption | (refine Below.setCell ?_ (by first | omega | (simp; done) | (simp; omega)) _) | (refine Below.alloc ?_ (by first | omega | (simp; done) | (simp; omega)) _) | (refine below_drewN ?_ _) | (refine Below.drew ?_) | (refine Below.trans ?_ (Below.mono hb (by first | omega | (simp; done) | (simp; omega)))) | (refine Below.trans ?_ (Below.mono hb1 (by first | omega | (simp; done) | (simp; omega)))) | (refine Below.trans ?_ (Below.mono hb2 (by first | omega | (simp; done) | (simp; omega)))) | (refine Below.trans ?_ (Below.mono hb3 (by first | omega | (simp; done) | (simp; omega)))) | (refine Below.trans ?_ (Below.mono hb4 (by first | omega | (simp; done) | (simp; omega)))) | (refine Below.trans ?_ (Below.mono hb5 (by first | omega | (simp; done) | (simp; omega)))) | (refine Below.trans ?_ (Below.mono hb6 (by first | omega | (simp; done) | (simp; omega)))) | (refine Below.trans ?_ (Below.mono hb7 (by first | omega | (simp; done) | (simp; omega)))) | (refine Below.trans ?_ (Below.mono hb8 (by first | omega | (simp; done) | (simp; omega)))) | (refine Below.trans ?_ (Below.mono hb9 (by first | omega | (simp; done) | (simp; omega)))) | (refine Below.trans ?_ (Below.mono hb10 (by first | omega | (simp; done) | (simp; omega)))) | (refine Below.trans ?_ (Below.mono hb11 (by first | omega | (simp; done) | (simp; omega)))) | (refine Below.trans ?_ (Below.mono hb12 (by first | omega | (simp; done) | (simp; omega)))))))) i hbf)) ?_; rintro e w5 ⟨rfl, hP5, hk5⟩; have cn5 : w5.cell? ⟨w2.heap.size + 1, 0, none⟩ = some (.int .i64 ((L.length - k0 : Nat) : Int)) := (by first | exact cell_keepC cn hk5 (by show ¬ w2.heap.size + 1 = b; omega) | exact cell_keepC (show (World.drew W).cell? ⟨w2.heap.size + 1, 0, none⟩ = some (.int .i64 ((L.length - k0 : Nat) : Int)) from cn) hk5 (by show ¬ w2.heap.size + 1 = b; omega))))
    all_goals
      have hK5 : w5.heap[D]? = some (.deferred (some [])) := (hk5.block D hDl (by show ¬ D = b; omega)).trans hK
      have hc5 : Chg (· = b) w w5 := by first | exact hi.chg.trans hk5 | exact hi.chg.drew.trans hk5
      have hz5 : w2.heap.size + 1 + 1 + 1 + 1 ≤ w5.heap.size := by have := hk5.size; have : W.heap.size ≤ w5.heap.size := this; omega
      refine noP_normal ?_
      gi_wp2
      refine ⟨by simp, .inl ⟨_, _, rfl, run_takeDeferred hK5, ?_⟩⟩
      have ha := Aux.put (W := w5) (B := w.heap.size) (.deferred none) (by omega) hK5 rfl
      refine ⟨.tuple #[.int .i64 ((L.length - k0 : Nat) : Int), .bool true], ?_, rfl, ?_, ha.chg hc5 (by omega)⟩
      · simp [results, Try.f54, go_sem]
      · have := hP5.aux ha
        rw [hbef.out] at this
        exact this
  case stop =>
    rintro D c k W hD hk h
    exact h.elim
end Go.Proofs.Ytbkddgeocmkegaa

namespace Go.Proofs.Ytbkddgeocmkegaa
open Go.RowKit Go.Shelf
set_option linter.unusedSimpArgs false
set_option linter.unusedVariables false
set_option maxHeartbeats 4000000
attribute [local go_sem ↓] run_start run_byte run_cols
attribute [local go_sem] Oper.semAt_some

/-- What may be typed is let go. -/
def Pl.opened (P : Pl) : Pl := P.clr (P.opn P.cells.length)
def Pl.wiped (P : Pl) : Pl := (P.opened.unm P.opened.flds).point P.home

theorem home_range' {P : Pl} (hok : P.ok) : 0 ≤ P.home ∧ P.home < (P.cells.length : Int) := by
  have hn := Pl.N_pos hok
  unfold Pl.home
  split
  · exact Pl.emod_range hok _
  · omega

set_option maxRecDepth 100000 in
theorem wOpen_any {w : World} {g b cap : Nat} {P : Pl} (h : PL w g b cap P) :
    Calls Try.prog 56 #[.pointer (some ⟨g, 0, none⟩)] w fun e w' => e = .returned (.int .i64 ((P.opn P.cells.length).length : Int)) ∧ PL w' g b cap P.wiped ∧ Chg (fun k => k = g ∨ k = b) w w' := by
  have hok := h.ok
  have hn := Pl.N_pos h.ok
  have hm := Pl.N_le h.ok
  have hgl := h.gl
  have hbl := h.bl
  have hne := h.ne
  refine (callsIn_wide (n := 0)).1 ?_
  refine callsIn_of_wp_marks Try.func56 rfl trivial ?_ rfl
  simp only [Try.ntmps56, List.size_toArray, List.length_cons, List.length_nil, Nat.reduceAdd, Nat.reduceSub, Array.replicate_succ, Array.replicate_zero, List.push_toArray, List.append_toArray, List.nil_append, List.cons_append]
  gi_wp2_with fail
  refine ⟨trivial, rfl, CallsIn.mono (callsIn_wide.2 (Len_any (h.below (by with_reducible (repeat (first | exact Below.refl _ _ | assumption | (refine Below.setCell ?_ (by first | omega | (simp; done) | (simp; omega)) _) | (refine Below.alloc ?_ (by first | omega | (simp; done) | (simp; omega)) _) | (refine below_drewN ?_ _) | (refine Below.drew ?_) | (refine Below.trans ?_ (Below.mono hb (by first | omega | (simp; done) | (simp; omega)))) | (refine Below.trans ?_ (Below.mono hb1 (by first | omega | (simp; done) | (simp; omega)))) | (refine Below.trans ?_ (Below.mono hb2 (by first | omega | (simp; done) | (simp; omega)))) | (refine Below.trans ?_ (Below.mono hb3 (by first | omega | (simp; done) | (simp; omega)))) | (refine Below.trans ?_ (Below.mono hb4 (by first | omega | (simp; done) | (simp; omega)))) | (refine Below.trans ?_ (Below.mono hb5 (by first | omega | (simp; done) | (simp; omega)))) | (refine Below.trans ?_ (Below.mono hb6 (by first | omega | (simp; done) | (simp; omega)))) | (refine Below.trans ?_ (Below.mono hb7 (by first | omega | (simp; done) | (simp; omega)))) | (refine Below.trans ?_ (Below.mono hb8 (by first | omega | (simp; done) | (simp; omega)))) | (refine Below.trans ?_ (Below.mono hb9 (by first | omega | (simp; done) | (simp; omega)))) | (refine Below.trans ?_ (Below.mono hb10 (by first | omega | (simp; done) | (simp; omega)))) | (refine Below.trans ?_ (Below.mono hb11 (by first | omega | (simp; done) | (simp; omega)))) | (refine Below.trans ?_ (Below.mono hb12 (by first | omega | (simp; done) | (simp; omega)))))))))) ?_⟩
  rintro e w1 ⟨rfl, hb1⟩
  have hz1 := hb1.size
  simp only [World.size_alloc] at hz1
  have x0 : w1.cell? ⟨w.heap.size, 0, none⟩ = some (.pointer (some ⟨g, 0, none⟩)) := (hb1.cell (by simp)).trans (by simp [go_sem])
  have hB1 : Below w.heap.size w w1 := by with_reducible (repeat (first | exact Below.refl _ _ | assumption | (refine Below.setCell ?_ (by first | omega | (simp; done) | (simp; omega)) _) | (refine Below.alloc ?_ (by first | omega | (simp; done) | (simp; omega)) _) | (refine below_drewN ?_ _) | (refine Below.drew ?_) | (refine Below.trans ?_ (Below.mono hb (by first | omega | (simp; done) | (simp; omega)))) | (refine Below.trans ?_ (Below.mono hb1 (by first | omega | (simp; done) | (simp; omega)))) | (refine Below.trans ?_ (Below.mono hb2 (by first | omega | (simp; done) | (simp; omega)))) | (refine Below.trans ?_ (Below.mono hb3 (by first | omega | (simp; done) | (simp; omega)))) | (refine Below.trans ?_ (Below.mono hb4 (by first | omega | (simp; done) | (simp; omega)))) | (refine Below.trans ?_ (Below.mono hb5 (by first | omega | (simp; done) | (simp; omega)))) | (refine Below.trans ?_ (Below.mono hb6 (by first | omega | (simp; done) | (simp; omega)))) | (refine Below.trans ?_ (Below.mono hb7 (by first | omega | (simp; done) | (simp; omega)))) | (refine Below.trans ?_ (Below.mono hb8 (by first | omega | (simp; done) | (simp; omega)))) | (refine Below.trans ?_ (Below.mono hb9 (by first | omega | (simp; done) | (simp; omega)))) | (refine Below.trans ?_ (Below.mono hb10 (by first | omega | (simp; done) | (simp; omega)))) | (refine Below.trans ?_ (Below.mono hb11 (by first | omega | (simp; done) | (simp; omega)))) | (refine Below.trans ?_ (Below.mono hb12 (by first | omega | (simp; done) | (simp; omega))))))
  clear hb1
  gi_wp2
  gi_loopw [3, 9] (fun v i wr => ∃ k : Nat, k ≤ P.cells.length ∧ i = .int .i64 (k : Int) ∧ v = .int .i64 ((P.opn k).length : Int) ∧ PL wr g b cap (P.clr (P.opn k)) ∧ wr.cell? ⟨w.heap.size, 0, none⟩ = some (.pointer (some ⟨g, 0, none⟩)) ∧ Chg (· = b) w wr ∧ w.heap.size + 1 ≤ wr.heap.size) (fun _ i _ => P.cells.length - (intOf i).toNat)
  case atStart => exact ⟨0, Nat.zero_le _, rfl, rfl, h.below hB1, x0, Chg.of_below hB1, by omega⟩
  case round =>
    obtain ⟨k, hk, rfl, rfl, hP, c0, hC, hsz⟩ := hrel
    have hol := opn_len P k
    have hsF := opn_sameF hok k
    by_cases hlt : k < P.cells.length
    · have hlt' : (k : Int) < (P.cells.length : Int) := by omega
      gi_wp2_with fail
      refine ⟨trivial, rfl, CallsIn.mono (callsIn_wide.2 (Open_any hP _)) ?_⟩
      rw [hsF.openAt hok]
      rintro e w5 ⟨rfl, hb5⟩
      have hP5 := hP.below hb5
      have c5 := cell_keep c0 hb5
      have hC5 : Chg (· = b) w w5 := hC.trans (Chg.of_below hb5)
      have hz5 := hb5.size
      have hlen5 := hsF.st.len
      clear hb5 hP c0 hC
      cases ho : P.openAt (k : Int)
      · have e := opn_clr_skip k ho
        have HE := Lib.hid e
        clear e
        gi_wp2
        go_roundw
        case rel => exact ⟨k + 1, by omega, by go_num, by rw [HE.out], by rw [HE.out]; exact hP5, c5, hC5, by omega⟩
        case measure => simp [intOf]; omega
      · obtain ⟨e1, e2⟩ := opn_clr_step k ho
        have HE := Lib.hid (And.intro e1 e2)
        clear e1 e2
        gi_wp2_with fail
        refine ⟨trivial, rfl, CallsIn.mono (callsIn_wide.2 (Set_in hP5 (k : Int) Cell.zero (by omega) (by rw [hlen5]; exact hlt') Cell.zero_ok)) ?_⟩
        rintro e w6 ⟨rfl, hP6, hk6⟩
        have c6 := cell_keepC c5 hk6 (by show ¬ w.heap.size = b; omega)
        have hz6 := hk6.size
        gi_wp2
        go_roundw
        case rel => exact ⟨k + 1, by omega, by go_num, by rw [HE.out.2]; rfl, by rw [HE.out.1]; exact hP6, c6, hC5.trans hk6, by omega⟩
        case measure => simp [intOf]; omega
    · have e : k = P.cells.length := by omega
      subst e
      have hP1 : PL wr g b cap P.opened := hP
      have hok1 := hP1.ok
      have hho : P.opened.home = P.home := hsF.home
      gi_wp2_with fail
      refine ⟨trivial, rfl, CallsIn.mono (callsIn_wide.2 (All_any _ _)) ?_⟩
      rintro e w5 ⟨rfl, rfl⟩
      gi_wp2
      have hzr := hC.size
      obtain ⟨P1, hP1e⟩ : ∃ P1, P.opened = P1 := ⟨_, rfl⟩
      have HP1E := Lib.hid hP1e
      rw [hP1e] at hP1 hok1 hho
      clear hP hP1e
      have hspec := fun k hk => unm_spec hok1 k hk
      have hlater := fun k hk j i hkj hi => unm_later hok1 k hk j i hkj hi
      have hful : P1.unm (P1.flds.take P1.flds.length) = P1.unm P1.flds := by rw [List.take_length]
      obtain ⟨W0, hW0⟩ : ∃ W0, wr.alloc (.cells #[.pointer (some ⟨g, 0, none⟩)] 52) = W0 := ⟨_, rfl⟩
      have hB0 : Below wr.heap.size wr W0 := by rw [← hW0]; with_reducible (repeat (first | exact Below.refl _ _ | assumption | (refine Below.setCell ?_ (by first | omega | (simp; done) | (simp; omega)) _) | (refine Below.alloc ?_ (by first | omega | (simp; done) | (simp; omega)) _) | (refine below_drewN ?_ _) | (refine Below.drew ?_) | (refine Below.trans ?_ (Below.mono hb (by first | omega | (simp; done) | (simp; omega)))) | (refine Below.trans ?_ (Below.mono hb1 (by first | omega | (simp; done) | (simp; omega)))) | (refine Below.trans ?_ (Below.mono hb2 (by first | omega | (simp; done) | (simp; omega)))) | (refine Below.trans ?_ (Below.mono hb3 (by first | omega | (simp; done) | (simp; omega)))) | (refine Below.trans ?_ (Below.mono hb4 (by first | omega | (simp; done) | (simp; omega)))) | (refine Below.trans ?_ (Below.mono hb5 (by first | omega | (simp; done) | (simp; omega)))) | (refine Below.trans ?_ (Below.mono hb6 (by first | omega | (simp; done) | (simp; omega)))) | (refine Below.trans ?_ (Below.mono hb7 (by first | omega | (simp; done) | (simp; omega)))) | (refine Below.trans ?_ (Below.mono hb8 (by first | omega | (simp; done) | (simp; omega)))) | (refine Below.trans ?_ (Below.mono hb9 (by first | omega | (simp; done) | (simp; omega)))) | (refine Below.trans ?_ (Below.mono hb10 (by first | omega | (simp; done) | (simp; omega)))) | (refine Below.trans ?_ (Below.mono hb11 (by first | omega | (simp; done) | (simp; omega)))) | (refine Below.trans ?_ (Below.mono hb12 (by first | omega | (simp; done) | (simp; omega))))))
      have hz0 : W0.heap.size = wr.heap.size + 1 := by rw [← hW0]; simp
      have hcsb : ∀ p ∈ [((⟨w.heap.size, 0, none⟩ : Addr), Value.pointer (some ⟨g, 0, none⟩))], w.heap.size ≤ p.1.block ∧ p.1.block ≠ wr.heap.size := by
        intro p hp
        rw [List.mem_singleton] at hp
        subst hp
        exact ⟨Nat.le_refl _, by show ¬ w.heap.size = wr.heap.size; omega⟩
      have hI0 : RI w g b cap (wr.heap.size + 1) wr.heap.size [(⟨w.heap.size, 0, none⟩, .pointer (some ⟨g, 0, none⟩))] (P1.unm (P1.flds.take 0)) (.pointer (some ⟨g, 0, none⟩)) W0 := by
        refine ⟨hP1.below hB0, ?_, ?_, ?_, hC.trans (Chg.of_below hB0), by omega⟩
        · intro p hp
          rw [List.mem_singleton] at hp
          subst hp
          exact cell_keep c0 hB0
        all_goals (rw [← hW0]; simp [go_sem])
      rw [hW0]
      refine wpIn_rangeL (gf := 167) (lb := #[.pointer (some ⟨wr.heap.size, 0, none⟩)]) rfl (enters_of Try.func167 (by kernel_rfl) rfl)
        (All_seq hok1 wr.heap.size g b cap) (fun v hv => by obtain ⟨f, _, rfl⟩ := List.mem_map.1 hv; rfl)
        (fun k W => k ≤ P1.flds.length ∧ RI w g b cap (wr.heap.size + 1) wr.heap.size [(⟨w.heap.size, 0, none⟩, .pointer (some ⟨g, 0, none⟩))] (P1.unm (P1.flds.take k)) (.pointer (some ⟨g, 0, none⟩)) W)
        (fun c k W => False)
        (fun k act W => ∃ (Bf : Nat) (hk : k < P1.flds.length), FBox Bf P1.flds[k] W ∧ wr.heap.size + 1 ≤ Bf ∧ RI w g b cap (wr.heap.size + 1) wr.heap.size [(⟨w.heap.size, 0, none⟩, .pointer (some ⟨g, 0, none⟩))] (P1.unm (P1.flds.take k)) (.pointer (some ⟨g, 0, none⟩)) W ∧
          act = ⟨#[Value.pointer (some { block := g, off := 0 }), Value.pointer (some { block := w.heap.size, off := 0 }),
              Value.int IntKind.i64 0, Value.int IntKind.i64 ↑(P.opn P.cells.length).length, u4, .pointer (some ⟨Bf, 0, none⟩), undef,
              Value.pointer (some { block := g, off := 0 }), Value.int IntKind.i64 ↑P.cells.length,
              Value.int IntKind.i64 ↑P.cells.length, Value.bool false, u11, u12, u13, u14, u15, u16, u17, u18, u19, u20,
              u21, Value.pointer (some { block := g, off := 0 }),
              Value.func (Fn.func 167) #[] #[Value.pointer (some { block := wr.heap.size, off := 0 })], .agg #[.int .i64 ((P1.flds[k])).start, .int .i64 ((P1.flds[k])).len, .int .u8 ((P1.flds[k])).attr], undef, undef,
              undef, undef, undef, undef, undef, undef, undef, undef, undef, undef, undef, undef, undef, undef, undef,
              undef, undef, undef, undef], []⟩)
        (fun k W hi => ⟨hi.2.cn, _, hi.2.pl, (hspec k hi.1).1, fun j i hkj hi' => hlater k hi.1 j i hkj hi'⟩)
        (fun k W W' hi ha => ⟨hi.1, hi.2.aux (by omega) (hz0 ▸ ha)⟩)
        (fun c k W W' hi ha => hi)
        (fun k a W W' ⟨Bf, hk, hf, hl, hi, e⟩ ha => ⟨Bf, hk, hf.aux ha, hl, hi.aux (by omega) (hz0 ▸ ha), e⟩)
        ⟨Nat.zero_le _, hI0⟩ ?assign ?body ?done ?stop
      case assign =>
        rintro l k W hk ⟨hkl, hi⟩
        have hk' : k < P1.flds.length := by rw [fvals_len] at hk; exact hk
        rw [fvals_get hk]
        have hsz := hi.sz
        gi_wp2
        refine ⟨⟨W.heap.size, ⟨?_, ?_, ?_⟩, by omega, hi.aux (by omega) (Aux.of_below (by with_reducible (repeat (first | exact Below.refl _ _ | assumption | (refine Below.setCell ?_ (by first | omega | (simp; done) | (simp; omega)) _) | (refine Below.alloc ?_ (by first | omega | (simp; done) | (simp; omega)) _) | (refine below_drewN ?_ _) | (refine Below.drew ?_) | (refine Below.trans ?_ (Below.mono hb (by first | omega | (simp; done) | (simp; omega)))) | (refine Below.trans ?_ (Below.mono hb1 (by first | omega | (simp; done) | (simp; omega)))) | (refine Below.trans ?_ (Below.mono hb2 (by first | omega | (simp; done) | (simp; omega)))) | (refine Below.trans ?_ (Below.mono hb3 (by first | omega | (simp; done) | (simp; omega)))) | (refine Below.trans ?_ (Below.mono hb4 (by first | omega | (simp; done) | (simp; omega)))) | (refine Below.trans ?_ (Below.mono hb5 (by first | omega | (simp; done) | (simp; omega)))) | (refine Below.trans ?_ (Below.mono hb6 (by first | omega | (simp; done) | (simp; omega)))) | (refine Below.trans ?_ (Below.mono hb7 (by first | omega | (simp; done) | (simp; omega)))) | (refine Below.trans ?_ (Below.mono hb8 (by first | omega | (simp; done) | (simp; omega)))) | (refine Below.trans ?_ (Below.mono hb9 (by first | omega | (simp; done) | (simp; omega)))) | (refine Below.trans ?_ (Below.mono hb10 (by first | omega | (simp; done) | (simp; omega)))) | (refine Below.trans ?_ (Below.mono hb11 (by first | omega | (simp; done) | (simp; omega)))) | (refine Below.trans ?_ (Below.mono hb12 (by first | omega | (simp; done) | (simp; omega)))))))), rfl⟩, keepsFrom_of_below (by with_reducible (repeat (first | exact Below.refl _ _ | assumption | (refine Below.setCell ?_ (by first | omega | (simp; done) | (simp; omega)) _) | (refine Below.alloc ?_ (by first | omega | (simp; done) | (simp; omega)) _) | (refine below_drewN ?_ _) | (refine Below.drew ?_) | (refine Below.trans ?_ (Below.mono hb (by first | omega | (simp; done) | (simp; omega)))) | (refine Below.trans ?_ (Below.mono hb1 (by first | omega | (simp; done) | (simp; omega)))) | (refine Below.trans ?_ (Below.mono hb2 (by first | omega | (simp; done) | (simp; omega)))) | (refine Below.trans ?_ (Below.mono hb3 (by first | omega | (simp; done) | (simp; omega)))) | (refine Below.trans ?_ (Below.mono hb4 (by first | omega | (simp; done) | (simp; omega)))) | (refine Below.trans ?_ (Below.mono hb5 (by first | omega | (simp; done) | (simp; omega)))) | (refine Below.trans ?_ (Below.mono hb6 (by first | omega | (simp; done) | (simp; omega)))) | (refine Below.trans ?_ (Below.mono hb7 (by first | omega | (simp; done) | (simp; omega)))) | (refine Below.trans ?_ (Below.mono hb8 (by first | omega | (simp; done) | (simp; omega)))) | (refine Below.trans ?_ (Below.mono hb9 (by first | omega | (simp; done) | (simp; omega)))) | (refine Below.trans ?_ (Below.mono hb10 (by first | omega | (simp; done) | (simp; omega)))) | (refine Below.trans ?_ (Below.mono hb11 (by first | omega | (simp; done) | (simp; omega)))) | (refine Below.trans ?_ (Below.mono hb12 (by first | omega | (simp; done) | (simp; omega)))))))⟩
        all_goals simp [go_sem]
      case body =>
        rintro l k a1 W hk ⟨Bf, hk', ⟨d0, d1, d2⟩, hBf, hi, rfl⟩
        have hr := fld_ok hok1 k hk'
        have hstep := unm_take P1 P1.flds k hk'
        have hlen := (hspec k (by omega)).1.len
        have hQok := (hspec k (by omega)).2.1
        obtain ⟨f, hfe⟩ : ∃ f, P1.flds[k] = f := ⟨_, rfl⟩
        rw [hfe] at hr d0 d1 d2 ⊢
        rw [hfe] at hstep
        obtain ⟨Q, hQ⟩ : ∃ Q, P1.unm (P1.flds.take k) = Q := ⟨_, rfl⟩
        rw [hQ] at hi hlen hQok hstep
        have HST := Lib.hid hstep
        clear hstep hfe hQ
        obtain ⟨s0, s1, l0, l1, ha0, ha1⟩ := hr
        have hsz := hi.sz
        have hlB : Bf < W.heap.size := World.block_lt_of_cell? W _ d0
        gi_wp2_with fail
        refine ⟨trivial, rfl, CallsIn.mono (CallsIn.inRound _ (callsIn_wide.2 (Protected_any _ _ ⟨ha0, ha1⟩))) ?_⟩
        rintro e w6 ⟨rfl, hb6⟩
        have hi6 := hi.aux (by omega) (Aux.of_below hb6)
        have hz6 := hb6.size
        have e0 := cell_keep d0 hb6
        cases hp : prot f.attr
        · have hE : Hid (P1.unm (P1.flds.take (k + 1)) = Q.set f.start { Q.at f.start with byte := modi (Q.at f.start).byte false }) := Lib.hid (by rw [HST.out, hp]; rfl)
          have hby := (Pl.at_ok hQok f.start).1
          have hcok := mark_cell hQok f.start false
          obtain ⟨x, hx⟩ : ∃ x, Q.at f.start = x := ⟨_, rfl⟩
          have HX := Lib.hid hx
          rw [hx] at hby hcok hE
          clear hx
          have c6 := hi6.cs (⟨w.heap.size, 0, none⟩, _) (List.mem_singleton.2 rfl)
          gi_wp2_with fail
          refine ⟨trivial, rfl, CallsIn.mono (CallsIn.inRound _ (callsIn_wide.2 (At_any hi6.pl f.start))) ?_⟩
          rw [HX.out]
          rintro e w7 ⟨rfl, hb7⟩
          have hi7 := hi6.aux (by omega) (Aux.of_below hb7)
          have hz7 := hb7.size
          have e7 := cell_keep e0 hb7
          have c7 := cell_keep c6 hb7
          have hlB7 : Bf < w7.heap.size := by omega
          have hlC7 : w.heap.size < w7.heap.size := by omega
          gi_wp2_with fail
          refine ⟨trivial, rfl, CallsIn.mono (CallsIn.inRound _ (callsIn_wide.2 (Modify_any x.byte false _ hby))) ?_⟩
          rintro e w8 ⟨rfl, hb8⟩
          have hb8' : Below w7.heap.size w7 w8 := ((Below.refl _ _).alloc (Nat.le_refl _) _).trans (hb8.mono (by simp))
          have hi8 := hi7.aux (by omega) (Aux.of_below hb8')
          have hz8 := hb8.size
          simp only [World.size_alloc] at hz8
          have e8 := cell_keep e7 hb8'
          have c8 := cell_keep c7 hb8'
          have y0 : w8.cell? ⟨w7.heap.size, 0, none⟩ = some (.int .u8 x.byte) := (hb8.cell (by simp)).trans (by simp [go_sem])
          have y1 : w8.cell? ⟨w7.heap.size, 1, none⟩ = some (.bool x.ge) := (hb8.cell (by simp)).trans (by simp [go_sem])
          have y2 : w8.cell? ⟨w7.heap.size, 2, none⟩ = some (.bool x.start) := (hb8.cell (by simp)).trans (by simp [go_sem])
          have y3 : w8.cell? ⟨w7.heap.size, 3, none⟩ = some (.int .u8 x.light) := (hb8.cell (by simp)).trans (by simp [go_sem])
          have y4 : w8.cell? ⟨w7.heap.size, 4, none⟩ = some (.int .u8 x.color) := (hb8.cell (by simp)).trans (by simp [go_sem])
          have yf : w8.frozen? ⟨w7.heap.size, 0, none⟩ = false := (hb8.frozen (by simp)).trans (by simp [go_sem])
          have hBs : Below w7.heap.size w7 (w8.setCell ⟨w7.heap.size, 0, none⟩ (.int .u8 (modi x.byte false))) := hb8'.setCell (Nat.le_refl _) _
          have hi9 := hi7.aux (by omega) (Aux.of_below hBs)
          have hkk : KeepsFrom W0.heap.size W (w8.setCell ⟨w7.heap.size, 0, none⟩ (.int .u8 (modi x.byte false))) := keepsFrom_of_below ((hb6.trans (hb7.mono hz6)).trans (hBs.mono (by omega)))
          clear hb6 hb7 hb8 hb8' hBs hi8
          gi_wp2_with fail
          refine ⟨trivial, rfl, CallsIn.mono (CallsIn.inRound _ (callsIn_wide.2 (Set_in hi9.pl f.start { x with byte := modi x.byte false } s0 (by rw [hlen]; exact s1) hcok))) ?_⟩
          rintro e w10 ⟨rfl, hP10, hk10⟩
          have hi10 := hi9.turn hbl (by omega) hcsb hP10 hk10
          gi_wp2
          refine ⟨hkk.trans (keepsFrom_of_chg hk10 (fun k e => .inl (by subst e; omega))), by omega, ?_⟩
          rw [hE.out]
          exact hi10
        · have hE : Hid (P1.unm (P1.flds.take (k + 1)) = Q) := Lib.hid (by rw [HST.out, hp]; rfl)
          gi_wp2
          refine ⟨keepsFrom_of_below hb6, by omega, ?_⟩
          rw [hE.out]
          exact hi6
      case done =>
        rintro D W hD ⟨hkl, hi⟩ hK
        rw [fvals_len, hful] at hi
        have c0 := hi.cs (⟨w.heap.size, 0, none⟩, _) (List.mem_singleton.2 rfl)
        have hsz := hi.sz
        have hDl := (Array.getElem?_eq_some_iff.1 hK).1
        have hrg := home_range' hi.pl.ok
        have hho2 := unm_home hok1
        rw [hho2, hho] at hrg
        have hfin : Hid (P.wiped = (P1.unm P1.flds).point P.home) := Lib.hid (by unfold Pl.wiped; rw [HP1E.out])
        have hh : (P1.unm P1.flds).home = P.home := hho2.trans hho
        gi_wp2_with fail
        refine wpIn_mono (Q := noP _) ?_ (fun e a w h => noP_imp h)
        gi_region_with (first
          | (refine ⟨trivial, rfl, ?_⟩; gi_at_call 107; refine CallsIn.mono (callsIn_wide.2 (Home_any (hi.pl.below (by with_reducible (repeat (first | exact Below.refl _ _ | assumption | (refine Below.setCell ?_ (by first | omega | (simp; done) | (simp; omega)) _) | (refine Below.alloc ?_ (by first | omega | (simp; done) | (simp; omega)) _) | (refine below_drewN ?_ _) | (refine Below.drew ?_) | (refine Below.trans ?_ (Below.mono hb (by first | omega | (simp; done) | (simp; omega)))) | (refine Below.trans ?_ (Below.mono hb1 (by first | omega | (simp; done) | (simp; omega)))) | (refine Below.trans ?_ (Below.mono hb2 (by first | omega | (simp; done) | (simp; omega)))) | (refine Below.trans ?_ (Below.mono hb3 (by first | omega | (simp; done) | (simp; omega)))) | (refine Below.trans ?_ (Below.mono hb4 (by first | omega | (simp; done) | (simp; omega)))) | (refine Below.trans ?_ (Below.mono hb5 (by first | omega | (simp; done) | (simp; omega)))) | (refine Below.trans ?_ (Below.mono hb6 (by first | omega | (simp; done) | (simp; omega)))) | (refine Below.trans ?_ (Below.mono hb7 (by first | omega | (simp; done) | (simp; omega)))) | (refine Below.trans ?_ (Below.mono hb8 (by first | omega | (simp; done) | (simp; omega)))) | (refine Below.trans ?_ (Below.mono hb9 (by first | omega | (simp; done) | (simp; omega)))) | (refine Below.trans ?_ (Below.mono hb10 (by first | omega | (simp; done) | (simp; omega)))) | (refine Below.trans ?_ (Below.mono hb11 (by first | omega | (simp; done) | (simp; omega)))) | (refine Below.trans ?_ (Below.mono hb12 (by first | omega | (simp; done) | (simp; omega)))))))))) ?_; rw [hh]; rintro e w7 ⟨rfl, hb7⟩; have c7 : w7.cell? ⟨w.heap.size, 0, none⟩ = some (.pointer (some ⟨g, 0, none⟩)) := (by first | exact cell_keep c0 hb7 | exact cell_keep (show (World.drew W).cell? ⟨w.heap.size, 0, none⟩ = some (.pointer (some ⟨g, 0, none⟩)) from c0) hb7))
          | (refine ⟨trivial, rfl, ?_⟩; gi_at_call 49; refine CallsIn.mono (callsIn_wide.2 (Point_in (hi.pl.below (by with_reducible (repeat (first | exact Below.refl _ _ | assumption | (refine Below.setCell ?_ (by first | omega | (simp; done) | (simp; omega)) _) | (refine Below.alloc ?_ (by first | omega | (simp; done) | (simp; omega)) _) | (refine below_drewN ?_ _) | (refine Below.drew ?_) | (refine Below.trans ?_ (Below.mono hb (by first | omega | (simp; done) | (simp; omega)))) | (refine Below.trans ?_ (Below.mono hb1 (by first | omega | (simp; done) | (simp; omega)))) | (refine Below.trans ?_ (Below.mono hb2 (by first | omega | (simp; done) | (simp; omega)))) | (refine Below.trans ?_ (Below.mono hb3 (by first | omega | (simp; done) | (simp; omega)))) | (refine Below.trans ?_ (Below.mono hb4 (by first | omega | (simp; done) | (simp; omega)))) | (refine Below.trans ?_ (Below.mono hb5 (by first | omega | (simp; done) | (simp; omega)))) | (refine Below.trans ?_ (Below.mono hb6 (by first | omega | (simp; done) | (simp; omega)))) | (refine Below.trans ?_ (Below.mono hb7 (by first | omega | (simp; done) | (simp; omega)))) | (refine Below.trans ?_ (Below.mono hb8 (by first | omega | (simp; done) | (simp; omega)))) | (refine Below.trans ?_ (Below.mono hb9 (by first | omega | (simp; done) | (simp; omega)))) | (refine Below.trans ?_ (Below.mono hb10 (by first | omega | (simp; done) | (simp; omega)))) | (refine Below.trans ?_ (Below.mono hb11 (by first | omega | (simp; done) | (simp; omega)))) | (refine Below.trans ?_ (Below.mono hb12 (by first | omega | (simp; done) | (simp; omega)))))))) P.home hrg.1 hrg.2)) ?_; rintro e w8 ⟨rfl, hP8, hk8⟩))
        all_goals
          have hB7 : Below W.heap.size W w7 := by with_reducible (repeat (first | exact Below.refl _ _ | assumption | (refine Below.setCell ?_ (by first | omega | (simp; done) | (simp; omega)) _) | (refine Below.alloc ?_ (by first | omega | (simp; done) | (simp; omega)) _) | (refine below_drewN ?_ _) | (refine Below.drew ?_) | (refine Below.trans ?_ (Below.mono hb (by first | omega | (simp; done) | (simp; omega)))) | (refine Below.trans ?_ (Below.mono hb1 (by first | omega | (simp; done) | (simp; omega)))) | (refine Below.trans ?_ (Below.mono hb2 (by first | omega | (simp; done) | (simp; omega)))) | (refine Below.trans ?_ (Below.mono hb3 (by first | omega | (simp; done) | (simp; omega)))) | (refine Below.trans ?_ (Below.mono hb4 (by first | omega | (simp; done) | (simp; omega)))) | (refine Below.trans ?_ (Below.mono hb5 (by first | omega | (simp; done) | (simp; omega)))) | (refine Below.trans ?_ (Below.mono hb6 (by first | omega | (simp; done) | (simp; omega)))) | (refine Below.trans ?_ (Below.mono hb7 (by first | omega | (simp; done) | (simp; omega)))) | (refine Below.trans ?_ (Below.mono hb8 (by first | omega | (simp; done) | (simp; omega)))) | (refine Below.trans ?_ (Below.mono hb9 (by first | omega | (simp; done) | (simp; omega)))) | (refine Below.trans ?_ (Below.mono hb10 (by first | omega | (simp; done) | (simp; omega)))) | (refine Below.trans ?_ (Below.mono hb11 (by first | omega | (simp; done) | (simp; omega)))) | (refine Below.trans ?_ (Below.mono hb12 (by first | omega | (simp; done) | (simp; omega))))))
          have hk8' : Chg (· = g) W w8 := chg_bel hB7 hk8
          have hK8 : w8.heap[D]? = some (.deferred (some [])) := (hk8'.block D hDl (by show ¬ D = g; omega)).trans hK
          have hc8 : Chg (fun k => k = g ∨ k = b) w w8 := (hi.chg.mono (fun _ _ e => .inr e)).trans (hk8'.mono (fun _ _ e => .inl e))
          refine noP_normal ?_
          gi_wp2
          refine ⟨by simp, .inl ⟨_, _, rfl, run_takeDeferred hK8, ?_⟩⟩
          have ha := Aux.put (W := w8) (B := w.heap.size) (.deferred none) (by omega) hK8 rfl
          refine ⟨.int .i64 ((P.opn P.cells.length).length : Int), ?_, rfl, ?_, ha.chg hc8 (by omega)⟩
          · simp [results, Try.f56, go_sem]
          · rw [hfin.out]
            exact hP8.aux ha
      case stop =>
        rintro D c k W hD hk h
        exact h.elim
end Go.Proofs.Ytbkddgeocmkegaa

namespace Go.Proofs.Ytbkddgeocmkegaa
open Go.RowKit Go.Shelf
set_option linter.unusedSimpArgs false
set_option linter.unusedVariables false
set_option maxHeartbeats 2000000
attribute [local go_sem ↓] run_start run_byte run_cols
attribute [local go_sem] Oper.semAt_some

set_option maxHeartbeats 20000000 in
set_option maxRecDepth 100000 in
theorem Fill_list {w : World} {g b cap : Nat} {P : Pl} (h : PL w g b cap P) (a d : Int) (c : Cell) (hc : c.ok) (ha : 0 ≤ a ∧ a < (P.cells.length : Int)) (hd : 0 ≤ d ∧ d < (P.cells.length : Int)) (L : List Int) (HL : Hid (btw (P.cells.length : Int) a d = L)) :
    Calls Try.prog 114 #[.pointer (some ⟨g, 0, none⟩), .int .i64 a, .int .i64 d, .agg #[.int .u8 c.byte, .bool c.ge, .bool c.start, .int .u8 c.light, .int .u8 c.color]] w fun e w' => e = .returned (.int .i64 (L.length : Int)) ∧ PL w' g b cap (P.fil L c) ∧ Chg (· = b) w w' := by
  have hn := Pl.N_pos h.ok
  have hm := Pl.N_le h.ok
  have hgl := h.gl
  have hbl := h.bl
  have f0 := h.f0
  have f1 := h.f1
  have hgl1 : g < w.heap.size + 1 := by omega
  have hgl2 : g < w.heap.size + 1 + 1 := by omega
  have hrg : ∀ x ∈ L, 0 ≤ x ∧ x < (P.cells.length : Int) := by rw [← HL.out]; exact btw_range (by omega) a d
  have hpn : (L.length : Int) ≤ 4096 := by rw [← HL.out, btw_len]; have := (btwN_pos ha hd).2; omega
  have hstep := fun k hk => fil_take P L c k hk
  have hsame := fun k => fil_same P (L.take k) c
  have hful : P.fil (L.take L.length) c = P.fil L c := by rw [List.take_length]
  have SQ := Between_seq h.ok (w.heap.size + 1 + 1 + 1) (w.heap.size + 1 + 1 + 1 + 1) (w.heap.size + 1 + 1 + 1 + 1 + 1) a d ha hd
  rw [HL.out] at SQ
  refine (callsIn_wide (n := 0)).1 ?_
  refine callsIn_of_wp_marks Try.func114 rfl trivial ?_ rfl
  simp only [Try.ntmps114, List.size_toArray, List.length_cons, List.length_nil, Nat.reduceAdd, Nat.reduceSub, Array.replicate_succ, Array.replicate_zero, List.push_toArray, List.append_toArray, List.nil_append, List.cons_append]
  gi_wp2_with fail
  refine ⟨trivial, rfl, CallsIn.mono (callsIn_wide.2 (Between_any _ _ _ _ _)) ?_⟩
  rintro e w1 ⟨rfl, rfl⟩
  gi_wp2
  obtain ⟨W0, hW0⟩ : ∃ W0, ((((((w.alloc (.cells #[.pointer (some ⟨g, 0, none⟩)] 52)).alloc (.cells #[.int .u8 c.byte, .bool c.ge, .bool c.start, .int .u8 c.light, .int .u8 c.color] 96)).alloc (.cells #[.int .i64 0] 3)).alloc (.cells #[.int .i64 P.rows, .int .i64 P.cols] 48)).alloc (.cells #[.int .i64 a] 3)).alloc (.cells #[.int .i64 d] 3)) = W0 := ⟨_, rfl⟩
  have hB0 : Below w.heap.size w W0 := by rw [← hW0]; with_reducible (repeat (first | exact Below.refl _ _ | assumption | (refine Below.setCell ?_ (by first | omega | (simp; done) | (simp; omega)) _) | (refine Below.alloc ?_ (by first | omega | (simp; done) | (simp; omega)) _) | (refine below_drewN ?_ _) | (refine Below.drew ?_) | (refine Below.trans ?_ (Below.mono hb (by first | omega | (simp; done) | (simp; omega)))) | (refine Below.trans ?_ (Below.mono hb1 (by first | omega | (simp; done) | (simp; omega)))) | (refine Below.trans ?_ (Below.mono hb2 (by first | omega | (simp; done) | (simp; omega)))) | (refine Below.trans ?_ (Below.mono hb3 (by first | omega | (simp; done) | (simp; omega)))) | (refine Below.trans ?_ (Below.mono hb4 (by first | omega | (simp; done) | (simp; omega)))) | (refine Below.trans ?_ (Below.mono hb5 (by first | omega | (simp; done) | (simp; omega)))) | (refine Below.trans ?_ (Below.mono hb6 (by first | omega | (simp; done) | (simp; omega)))) | (refine Below.trans ?_ (Below.mono hb7 (by first | omega | (simp; done) | (simp; omega)))) | (refine Below.trans ?_ (Below.mono hb8 (by first | omega | (simp; done) | (simp; omega)))) | (refine Below.trans ?_ (Below.mono hb9 (by first | omega | (simp; done) | (simp; omega)))) | (refine Below.trans ?_ (Below.mono hb10 (by first | omega | (simp; done) | (simp; omega)))) | (refine Below.trans ?_ (Below.mono hb11 (by first | omega | (simp; done) | (simp; omega)))) | (refine Below.trans ?_ (Below.mono hb12 (by first | omega | (simp; done) | (simp; omega))))))
  have hz0 : W0.heap.size = w.heap.size + 1 + 1 + 1 + 1 + 1 + 1 := by rw [← hW0]; simp
  obtain ⟨cs, hcs⟩ : ∃ cs : List (Addr × Value), cs = [(⟨w.heap.size, 0, none⟩, .pointer (some ⟨g, 0, none⟩)), (⟨w.heap.size + 1, 0, none⟩, .int .u8 c.byte), (⟨w.heap.size + 1, 1, none⟩, .bool c.ge), (⟨w.heap.size + 1, 2, none⟩, .bool c.start), (⟨w.heap.size + 1, 3, none⟩, .int .u8 c.light), (⟨w.heap.size + 1, 4, none⟩, .int .u8 c.color), (⟨w.heap.size + 1 + 1 + 1, 0, none⟩, .int .i64 P.rows), (⟨w.heap.size + 1 + 1 + 1, 1, none⟩, .int .i64 P.cols), (⟨w.heap.size + 1 + 1 + 1 + 1, 0, none⟩, .int .i64 a), (⟨w.heap.size + 1 + 1 + 1 + 1 + 1, 0, none⟩, .int .i64 d)] := ⟨_, rfl⟩
  have hcsb : ∀ p ∈ cs, w.heap.size ≤ p.1.block ∧ p.1.block ≠ w.heap.size + 1 + 1 := by
    intro p hp
    rw [hcs] at hp
    simp only [List.mem_cons, List.not_mem_nil, or_false] at hp
    rcases hp with rfl | rfl | rfl | rfl | rfl | rfl | rfl | rfl | rfl | rfl <;> (constructor <;> simp <;> omega)
  have hget : ∀ {W}, Cells cs W → W.cell? ⟨w.heap.size, 0, none⟩ = some (.pointer (some ⟨g, 0, none⟩)) ∧ W.cell? ⟨w.heap.size + 1, 0, none⟩ = some (.int .u8 c.byte) ∧ W.cell? ⟨w.heap.size + 1, 1, none⟩ = some (.bool c.ge) ∧ W.cell? ⟨w.heap.size + 1, 2, none⟩ = some (.bool c.start) ∧ W.cell? ⟨w.heap.size + 1, 3, none⟩ = some (.int .u8 c.light) ∧ W.cell? ⟨w.heap.size + 1, 4, none⟩ = some (.int .u8 c.color) ∧ W.cell? ⟨w.heap.size + 1 + 1 + 1, 0, none⟩ = some (.int .i64 P.rows) ∧ W.cell? ⟨w.heap.size + 1 + 1 + 1, 1, none⟩ = some (.int .i64 P.cols) ∧ W.cell? ⟨w.heap.size + 1 + 1 + 1 + 1, 0, none⟩ = some (.int .i64 a) ∧ W.cell? ⟨w.heap.size + 1 + 1 + 1 + 1 + 1, 0, none⟩ = some (.int .i64 d) := by
    intro W hc
    rw [hcs] at hc
    refine ⟨hc (⟨w.heap.size, 0, none⟩, _) (by simp), hc (⟨w.heap.size + 1, 0, none⟩, _) (by simp), hc (⟨w.heap.size + 1, 1, none⟩, _) (by simp), hc (⟨w.heap.size + 1, 2, none⟩, _) (by simp), hc (⟨w.heap.size + 1, 3, none⟩, _) (by simp), hc (⟨w.heap.size + 1, 4, none⟩, _) (by simp), hc (⟨w.heap.size + 1 + 1 + 1, 0, none⟩, _) (by simp), hc (⟨w.heap.size + 1 + 1 + 1, 1, none⟩, _) (by simp), hc (⟨w.heap.size + 1 + 1 + 1 + 1, 0, none⟩, _) (by simp), hc (⟨w.heap.size + 1 + 1 + 1 + 1 + 1, 0, none⟩, _) (by simp)⟩
  have hI0 : RI w g b cap (w.heap.size + 1 + 1 + 1 + 1 + 1 + 1) (w.heap.size + 1 + 1) cs (P.fil (L.take 0) c) (.int .i64 0) W0 := by
    refine ⟨h.below hB0, ?_, ?_, ?_, Chg.of_below hB0, by omega⟩
    · intro p hp
      rw [hcs] at hp
      simp only [List.mem_cons, List.not_mem_nil, or_false] at hp
      rcases hp with rfl | rfl | rfl | rfl | rfl | rfl | rfl | rfl | rfl | rfl <;> (rw [← hW0]; simp [go_sem])
    all_goals (rw [← hW0]; simp [go_sem])
  clear hcs
  rw [hW0]
  clear f0 f1 hgl1 hgl2
  refine wpIn_rangeL (gf := 202) (lb := #[.pointer (some ⟨w.heap.size + 1 + 1 + 1, 0, none⟩), .pointer (some ⟨w.heap.size + 1 + 1 + 1 + 1, 0, none⟩), .pointer (some ⟨w.heap.size + 1 + 1 + 1 + 1 + 1, 0, none⟩)]) rfl (enters_of Try.func202 (by kernel_rfl) rfl)
    SQ (fun v hv => by obtain ⟨x, _, rfl⟩ := List.mem_map.1 hv; rfl)
    (fun k W => RI w g b cap (w.heap.size + 1 + 1 + 1 + 1 + 1 + 1) (w.heap.size + 1 + 1) cs (P.fil (L.take k) c) (.int .i64 (k : Int)) W)
    (fun c k W => False)
    (fun k act W => ∃ (hk : k < L.length), RI w g b cap (w.heap.size + 1 + 1 + 1 + 1 + 1 + 1) (w.heap.size + 1 + 1) cs (P.fil (L.take k) c) (.int .i64 (k : Int)) W ∧
      act = ⟨#[Value.pointer (some { block := g, off := 0 }), Value.int IntKind.i64 a, Value.int IntKind.i64 d, .agg #[.int .u8 c.byte, .bool c.ge, .bool c.start, .int .u8 c.light, .int .u8 c.color],
          Value.pointer (some { block := w.heap.size, off := 0 }), undef, undef,
          Value.pointer (some { block := w.heap.size + 1, off := 0 }), Value.int IntKind.i64 0,
          Value.pointer (some { block := w.heap.size + 1 + 1, off := 0 }), .int .i64 L[k],
          Value.pointer (some { block := g, off := 0 }), Value.pointer (some { block := g, off := 0 }),
          Value.pointer (some { block := g, off := 0 }),
          Value.agg #[Value.int IntKind.i64 P.rows, Value.int IntKind.i64 P.cols], Value.int IntKind.i64 a,
          Value.int IntKind.i64 d,
          Value.func (Fn.func 202) #[] #[Value.pointer (some { block := w.heap.size + 1 + 1 + 1, off := 0 }), Value.pointer (some { block := w.heap.size + 1 + 1 + 1 + 1, off := 0 }), Value.pointer (some { block := w.heap.size + 1 + 1 + 1 + 1 + 1, off := 0 })],
          .int .i64 L[k], undef, undef, undef, undef, undef, undef, undef, undef, undef, undef], []⟩)
    (fun k W hi => ⟨(hget hi.cs).2.2.2.2.2.2.1, (hget hi.cs).2.2.2.2.2.2.2.1, (hget hi.cs).2.2.2.2.2.2.2.2.1, (hget hi.cs).2.2.2.2.2.2.2.2.2⟩)
    (fun k W W' hi ha => hi.aux (by omega) (hz0 ▸ ha))
    (fun c k W W' hi ha => hi)
    (fun k a W W' ⟨hk, hi, e⟩ ha => ⟨hk, hi.aux (by omega) (hz0 ▸ ha), e⟩)
    hI0 ?assign ?body ?done ?stop
  case assign =>
    rintro l k W hk hi
    have hk' : k < L.length := by simpa using hk
    simp only [List.getElem_map]
    gi_wp2
    exact ⟨⟨hk', hi, by first | rfl | trivial⟩, keepsFrom_of_below (Below.refl _ _)⟩
  case body =>
    rintro l k a1 W hk ⟨hk', hi, rfl⟩
    have hx := hrg L[k] (List.getElem_mem hk')
    have hst := hstep k hk'
    obtain ⟨c0, y0, y1, y2, y3, y4, -, -, -, -⟩ := hget hi.cs
    have cn := hi.cn
    have fn := hi.fn
    have hsz := hi.sz
    have hlen := (hsame k).2.2.1
    have hpl := hi.pl
    obtain ⟨Q, hQ⟩ : ∃ Q, P.fil (L.take k) c = Q := ⟨_, rfl⟩
    rw [hQ] at hpl hlen hst
    obtain ⟨x, hxe⟩ : ∃ x, L[k] = x := ⟨_, rfl⟩
    rw [hxe] at hx hst ⊢
    have HST := Lib.hid hst
    have HQ := Lib.hid hQ
    clear hst hxe hQ
    obtain ⟨x0, x1⟩ := hx
    rw [← hlen] at x1
    have f2 := hpl.f2
    have k0 := hpl.cell x.toNat (by omega) 0 (by omega)
    have k1 := hpl.cell x.toNat (by omega) 1 (by omega)
    have k2 := hpl.cell x.toNat (by omega) 2 (by omega)
    have k3 := hpl.cell x.toNat (by omega) 3 (by omega)
    have k4 := hpl.cell x.toNat (by omega) 4 (by omega)
    simp [Cell.vals] at k0 k1 k2 k3 k4
    have fz := hpl.fz
    have fzb := hpl.fzb
    have hP1 := (hpl.put x0 x1 hc).drew
    rw [← HST.out] at hP1
    have hk1 : Chg (· = b) W (putC W b (x.toNat * 5) c).drew := (putC_chg (S := (· = b)) (Chg.refl _ _) (.inl rfl) _ _).drew
    obtain ⟨W5, hW5⟩ : ∃ W5, (putC W b (x.toNat * 5) c).drew = W5 := ⟨_, rfl⟩
    rw [hW5] at hP1 hk1
    have hi1 := (hi.turn hbl (by omega) hcsb hP1 hk1).count hgl hbl (by omega) hcsb (.int .i64 ((k : Int) + 1))
    have hcc : KeepsFrom W0.heap.size W (W5.setCell ⟨w.heap.size + 1 + 1, 0, none⟩ (.int .i64 ((k : Int) + 1))) := (keepsFrom_of_chg hk1 (fun k e => .inl (by subst e; omega))).trans (keepsFrom_of_chg (chg_set _ _ _ _) (fun k e => .inl (by subst e; omega)))
    have cn1 : W5.cell? ⟨w.heap.size + 1 + 1, 0, none⟩ = some (.int .i64 (k : Int)) := cell_keepC cn hk1 (by show ¬ w.heap.size + 1 + 1 = b; omega)
    have fn1 : W5.frozen? ⟨w.heap.size + 1 + 1, 0, none⟩ = false := frozen_keepC cn fn hk1 (by show ¬ w.heap.size + 1 + 1 = b; omega)
    have hCC := Lib.hid (And.intro hcc hi1)
    have HW5 := Lib.hid hW5
    have HCN := Lib.hid (And.intro cn1 fn1)
    clear hP1 hk1 hi1 hcc hW5 cn1 fn1 hi hcsb hget HQ HST cn fn
    gi_wp2_with fail
    gi_region_with (fail)
    all_goals
      change Exit.then _ _ Exit.normal _ (World.drew (putC W b (x.toNat * 5) c))
      rw [HW5.out]
      obtain ⟨cn1, fn1⟩ := HCN.out
      clear k0 k1 k2 k3 k4 y0 y1 y2 y3 y4 c0 f2 fz fzb
      gi_wp2
      exact hCC.out
  case done =>
    rintro D W hD hi hK
    have cn := hi.cn
    have hsz := hi.sz
    gi_wp2
    refine ⟨by simp, .inl ⟨_, _, rfl, run_takeDeferred hK, ?_⟩⟩
    have hi2 := hi.aux (by omega) (Aux.put (.deferred none) (by omega) hK rfl)
    rw [List.length_map, hful] at hi2
    refine ⟨.int .i64 (L.length : Int), ?_, rfl, hi2.pl, hi2.chg⟩
    simp [results, Try.f114, go_sem]
  case stop =>
    rintro D c k W hD hk h
    exact h.elim
end Go.Proofs.Ytbkddgeocmkegaa

namespace Go.Proofs.Ytbkddgeocmkegaa
open Go.RowKit Go.Shelf
set_option linter.unusedSimpArgs false
set_option linter.unusedVariables false
set_option maxHeartbeats 4000000
attribute [local go_sem ↓] run_start run_byte run_cols
attribute [local go_sem] Oper.semAt_some

theorem Rest_bare {w : World} {g b cap : Nat} {P : Pl} (h : PL w g b cap P) (i : Int) (hop : P.openAt i = true) (hB : P.ofB i = false) :
    Calls Try.prog 54 #[.pointer (some ⟨g, 0, none⟩), .int .i64 i] w fun e w' => e = .returned (.tuple #[.int .i64 ((P.cells.length : Int) - i), .bool true]) ∧ PL w' g b cap (P.clr (btw (P.cells.length : Int) i 0)) ∧ Chg (· = b) w w' := by
  have hr := open_in h.ok hop
  have hn := Pl.N_pos h.ok
  have hm := Pl.N_le h.ok
  have hF : P.ofF i = ⟨0, 0, 0⟩ := by
    unfold Pl.ofF
    rw [if_neg]
    intro h0
    unfold Pl.ofB at hB
    rw [decide_eq_true h0] at hB; cases hB
  refine (callsIn_wide (n := 0)).1 ?_
  refine callsIn_of_wp_marks Try.func54 rfl trivial ?_ rfl
  simp only [Try.ntmps54, List.size_toArray, List.length_cons, List.length_nil, Nat.reduceAdd, Nat.reduceSub, Array.replicate_succ, Array.replicate_zero, List.push_toArray, List.append_toArray, List.nil_append, List.cons_append]
  gi_wp2_with fail
  refine ⟨trivial, rfl, CallsIn.mono (callsIn_wide.2 (Open_any (h.below (by with_reducible (repeat (first | exact Below.refl _ _ | assumption | (refine Below.setCell ?_ (by first | omega | (simp; done) | (simp; omega)) _) | (refine Below.alloc ?_ (by first | omega | (simp; done) | (simp; omega)) _) | (refine below_drewN ?_ _) | (refine Below.drew ?_) | (refine Below.trans ?_ (Below.mono hb (by first | omega | (simp; done) | (simp; omega)))) | (refine Below.trans ?_ (Below.mono hb1 (by first | omega | (simp; done) | (simp; omega)))) | (refine Below.trans ?_ (Below.mono hb2 (by first | omega | (simp; done) | (simp; omega)))) | (refine Below.trans ?_ (Below.mono hb3 (by first | omega | (simp; done) | (simp; omega)))) | (refine Below.trans ?_ (Below.mono hb4 (by first | omega | (simp; done) | (simp; omega)))) | (refine Below.trans ?_ (Below.mono hb5 (by first | omega | (simp; done) | (simp; omega)))) | (refine Below.trans ?_ (Below.mono hb6 (by first | omega | (simp; done) | (simp; omega)))) | (refine Below.trans ?_ (Below.mono hb7 (by first | omega | (simp; done) | (simp; omega)))) | (refine Below.trans ?_ (Below.mono hb8 (by first | omega | (simp; done) | (simp; omega)))) | (refine Below.trans ?_ (Below.mono hb9 (by first | omega | (simp; done) | (simp; omega)))) | (refine Below.trans ?_ (Below.mono hb10 (by first | omega | (simp; done) | (simp; omega)))) | (refine Below.trans ?_ (Below.mono hb11 (by first | omega | (simp; done) | (simp; omega)))) | (refine Below.trans ?_ (Below.mono hb12 (by first | omega | (simp; done) | (simp; omega)))))))) _)) ?_⟩
  rw [hop]
  rintro e w1 ⟨rfl, hb1⟩
  have hz1 := hb1.size
  simp only [World.size_alloc] at hz1
  have x0 : w1.cell? ⟨w.heap.size, 0, none⟩ = some (.pointer (some ⟨g, 0, none⟩)) := (hb1.cell (by simp; omega)).trans (by simp [go_sem])
  have x1 : w1.cell? ⟨w.heap.size + 1, 0, none⟩ = some (.int .i64 i) := (hb1.cell (by simp)).trans (by simp [go_sem])
  have hB1 : Below w.heap.size w w1 := by with_reducible (repeat (first | exact Below.refl _ _ | assumption | (refine Below.setCell ?_ (by first | omega | (simp; done) | (simp; omega)) _) | (refine Below.alloc ?_ (by first | omega | (simp; done) | (simp; omega)) _) | (refine below_drewN ?_ _) | (refine Below.drew ?_) | (refine Below.trans ?_ (Below.mono hb (by first | omega | (simp; done) | (simp; omega)))) | (refine Below.trans ?_ (Below.mono hb1 (by first | omega | (simp; done) | (simp; omega)))) | (refine Below.trans ?_ (Below.mono hb2 (by first | omega | (simp; done) | (simp; omega)))) | (refine Below.trans ?_ (Below.mono hb3 (by first | omega | (simp; done) | (simp; omega)))) | (refine Below.trans ?_ (Below.mono hb4 (by first | omega | (simp; done) | (simp; omega)))) | (refine Below.trans ?_ (Below.mono hb5 (by first | omega | (simp; done) | (simp; omega)))) | (refine Below.trans ?_ (Below.mono hb6 (by first | omega | (simp; done) | (simp; omega)))) | (refine Below.trans ?_ (Below.mono hb7 (by first | omega | (simp; done) | (simp; omega)))) | (refine Below.trans ?_ (Below.mono hb8 (by first | omega | (simp; done) | (simp; omega)))) | (refine Below.trans ?_ (Below.mono hb9 (by first | omega | (simp; done) | (simp; omega)))) | (refine Below.trans ?_ (Below.mono hb10 (by first | omega | (simp; done) | (simp; omega)))) | (refine Below.trans ?_ (Below.mono hb11 (by first | omega | (simp; done) | (simp; omega)))) | (refine Below.trans ?_ (Below.mono hb12 (by first | omega | (simp; done) | (simp; omega))))))
  clear hb1
  gi_wp2_with fail
  refine ⟨trivial, rfl, CallsIn.mono (callsIn_wide.2 (Of_any (h.below hB1) _)) ?_⟩
  rw [hB, hF]
  rintro e w2 ⟨rfl, hb2⟩
  have hB2 := hB1.trans (hb2.mono hB1.size)
  have hz2 := hb2.size
  replace x0 := cell_keep x0 hb2
  replace x1 := cell_keep x1 hb2
  clear hb2 hB1
  have q1 : w.heap.size < w2.heap.size := by omega
  have q3 : w.heap.size + 1 < w2.heap.size := by omega
  obtain ⟨W0, hW0⟩ : ∃ W0, w2.alloc (.cells #[.int .i64 0, .int .i64 0, .int .u8 0] 89) = W0 := ⟨_, rfl⟩
  have hb0 : Below w2.heap.size w2 W0 := by rw [← hW0]; with_reducible (repeat (first | exact Below.refl _ _ | assumption | (refine Below.setCell ?_ (by first | omega | (simp; done) | (simp; omega)) _) | (refine Below.alloc ?_ (by first | omega | (simp; done) | (simp; omega)) _) | (refine below_drewN ?_ _) | (refine Below.drew ?_) | (refine Below.trans ?_ (Below.mono hb (by first | omega | (simp; done) | (simp; omega)))) | (refine Below.trans ?_ (Below.mono hb1 (by first | omega | (simp; done) | (simp; omega)))) | (refine Below.trans ?_ (Below.mono hb2 (by first | omega | (simp; done) | (simp; omega)))) | (refine Below.trans ?_ (Below.mono hb3 (by first | omega | (simp; done) | (simp; omega)))) | (refine Below.trans ?_ (Below.mono hb4 (by first | omega | (simp; done) | (simp; omega)))) | (refine Below.trans ?_ (Below.mono hb5 (by first | omega | (simp; done) | (simp; omega)))) | (refine Below.trans ?_ (Below.mono hb6 (by first | omega | (simp; done) | (simp; omega)))) | (refine Below.trans ?_ (Below.mono hb7 (by first | omega | (simp; done) | (simp; omega)))) | (refine Below.trans ?_ (Below.mono hb8 (by first | omega | (simp; done) | (simp; omega)))) | (refine Below.trans ?_ (Below.mono hb9 (by first | omega | (simp; done) | (simp; omega)))) | (refine Below.trans ?_ (Below.mono hb10 (by first | omega | (simp; done) | (simp; omega)))) | (refine Below.trans ?_ (Below.mono hb11 (by first | omega | (simp; done) | (simp; omega)))) | (refine Below.trans ?_ (Below.mono hb12 (by first | omega | (simp; done) | (simp; omega))))))
  have hB0 : Below w.heap.size w W0 := hB2.trans (hb0.mono (by omega))
  have y0 := cell_keep x0 hb0
  have y1 := cell_keep x1 hb0
  have hP0 := h.below hB0
  have e1 : IntKind.i64.wrap ((P.cells.length : Int) - i) = (P.cells.length : Int) - i := IntWalk.i64_in _ (by omega)
  have HW := Lib.hid hW0
  clear hW0
  gi_wp2_with fail
  rw [HW.out]
  refine wpIn_mono (Q := noP _) ?_ (fun e a w h => noP_imp h)
  gi_region_with (first | (refine ⟨trivial, rfl, ?_⟩; gi_at_call 25; refine CallsIn.mono (callsIn_wide.2 (Len_any (hP0.below (by with_reducible (repeat (first | exact Below.refl _ _ | assumption | (refine Below.setCell ?_ (by first | omega | (simp; done) | (simp; omega)) _) | (refine Below.alloc ?_ (by first | omega | (simp; done) | (simp; omega)) _) | (refine below_drewN ?_ _) | (refine Below.drew ?_) | (refine Below.trans ?_ (Below.mono hb (by first | omega | (simp; done) | (simp; omega)))) | (refine Below.trans ?_ (Below.mono hb1 (by first | omega | (simp; done) | (simp; omega)))) | (refine Below.trans ?_ (Below.mono hb2 (by first | omega | (simp; done) | (simp; omega)))) | (refine Below.trans ?_ (Below.mono hb3 (by first | omega | (simp; done) | (simp; omega)))) | (refine Below.trans ?_ (Below.mono hb4 (by first | omega | (simp; done) | (simp; omega)))) | (refine Below.trans ?_ (Below.mono hb5 (by first | omega | (simp; done) | (simp; omega)))) | (refine Below.trans ?_ (Below.mono hb6 (by first | omega | (simp; done) | (simp; omega)))) | (refine Below.trans ?_ (Below.mono hb7 (by first | omega | (simp; done) | (simp; omega)))) | (refine Below.trans ?_ (Below.mono hb8 (by first | omega | (simp; done) | (simp; omega)))) | (refine Below.trans ?_ (Below.mono hb9 (by first | omega | (simp; done) | (simp; omega)))) | (refine Below.trans ?_ (Below.mono hb10 (by first | omega | (simp; done) | (simp; omega)))) | (refine Below.trans ?_ (Below.mono hb11 (by first | omega | (simp; done) | (simp; omega)))) | (refine Below.trans ?_ (Below.mono hb12 (by first | omega | (simp; done) | (simp; omega)))))))))) ?_; rintro e w3 ⟨rfl, hb3⟩; have hB3 : Below W0.heap.size W0 w3 := (by with_reducible (repeat (first | exact Below.refl _ _ | assumption | (refine Below.setCell ?_ (by first | omega | (simp; done) | (simp; omega)) _) | (refine Below.alloc ?_ (by first | omega | (simp; done) | (simp; omega)) _) | (refine below_drewN ?_ _) | (refine Below.drew ?_) | (refine Below.trans ?_ (Below.mono hb (by first | omega | (simp; done) | (simp; omega)))) | (refine Below.trans ?_ (Below.mono hb1 (by first | omega | (simp; done) | (simp; omega)))) | (refine Below.trans ?_ (Below.mono hb2 (by first | omega | (simp; done) | (simp; omega)))) | (refine Below.trans ?_ (Below.mono hb3 (by first | omega | (simp; done) | (simp; omega)))) | (refine Below.trans ?_ (Below.mono hb4 (by first | omega | (simp; done) | (simp; omega)))) | (refine Below.trans ?_ (Below.mono hb5 (by first | omega | (simp; done) | (simp; omega)))) | (refine Below.trans ?_ (Below.mono hb6 (by first | omega | (simp; done) | (simp; omega)))) | (refine Below.trans ?_ (Below.mono hb7 (by first | omega | (simp; done) | (simp; omega)))) | (refine Below.trans ?_ (Below.mono hb8 (by first | omega | (simp; done) | (simp; omega)))) | (refine Below.trans ?_ (Below.mono hb9 (by first | omega | (simp; done) | (simp; omega)))) | (refine Below.trans ?_ (Below.mono hb10 (by first | omega | (simp; done) | (simp; omega)))) | (refine Below.trans ?_ (Below.mono hb11 (by first | omega | (simp; done) | (simp; omega)))) | (refine Below.trans ?_ (Below.mono hb12 (by first | omega | (simp; done) | (simp; omega))))))); have z0 := cell_keep y0 hB3; have z1 := cell_keep y1 hB3))
  all_goals
    clear e1
    have hB4 : Below w.heap.size w w3 := hB0.trans (hB3.mono hB0.size)
    refine noP_normal ?_
    gi_wp2_with fail
    refine ⟨trivial, rfl, CallsIn.mono (callsIn_wide.2 (Fill_list (h.below (by with_reducible (repeat (first | exact Below.refl _ _ | assumption | (refine Below.setCell ?_ (by first | omega | (simp; done) | (simp; omega)) _) | (refine Below.alloc ?_ (by first | omega | (simp; done) | (simp; omega)) _) | (refine below_drewN ?_ _) | (refine Below.drew ?_) | (refine Below.trans ?_ (Below.mono hb (by first | omega | (simp; done) | (simp; omega)))) | (refine Below.trans ?_ (Below.mono hb1 (by first | omega | (simp; done) | (simp; omega)))) | (refine Below.trans ?_ (Below.mono hb2 (by first | omega | (simp; done) | (simp; omega)))) | (refine Below.trans ?_ (Below.mono hb3 (by first | omega | (simp; done) | (simp; omega)))) | (refine Below.trans ?_ (Below.mono hb4 (by first | omega | (simp; done) | (simp; omega)))) | (refine Below.trans ?_ (Below.mono hb5 (by first | omega | (simp; done) | (simp; omega)))) | (refine Below.trans ?_ (Below.mono hb6 (by first | omega | (simp; done) | (simp; omega)))) | (refine Below.trans ?_ (Below.mono hb7 (by first | omega | (simp; done) | (simp; omega)))) | (refine Below.trans ?_ (Below.mono hb8 (by first | omega | (simp; done) | (simp; omega)))) | (refine Below.trans ?_ (Below.mono hb9 (by first | omega | (simp; done) | (simp; omega)))) | (refine Below.trans ?_ (Below.mono hb10 (by first | omega | (simp; done) | (simp; omega)))) | (refine Below.trans ?_ (Below.mono hb11 (by first | omega | (simp; done) | (simp; omega)))) | (refine Below.trans ?_ (Below.mono hb12 (by first | omega | (simp; done) | (simp; omega)))))))) i 0 Cell.zero Cell.zero_ok hr ⟨Int.le_refl _, by omega⟩ _ (Lib.hid rfl))) ?_⟩
    rintro e w5 ⟨rfl, hP5, hk5⟩
    gi_wp2
    refine ⟨.tuple #[.int .i64 ((P.cells.length : Int) - i), .bool true], ?_, rfl, hP5, ?_⟩
    · simp [results, Try.f54, go_sem]
    · first | exact chg_bel hB4 hk5 | exact chg_bel hB4.drew hk5
end Go.Proofs.Ytbkddgeocmkegaa

/-! Orders, and what a brush does: plain functions. -/
namespace Go.Proofs.Ytbkddgeocmkegaa
set_option linter.unusedVariables false

structure Ord where
  kind : Int
  addr : Int
  byte : Int
  ge : Bool
  pairs : List (Int × Int)
  data : List Int
  deriving DecidableEq
structure Ord.ok (o : Ord) : Prop where
  k : 0 ≤ o.kind ∧ o.kind ≤ 255
  a : -9223372036854775808 ≤ o.addr ∧ o.addr ≤ 9223372036854775807
  b : 0 ≤ o.byte ∧ o.byte ≤ 255
  p : ∀ x ∈ o.pairs, (0 ≤ x.1 ∧ x.1 ≤ 255) ∧ (0 ≤ x.2 ∧ x.2 ≤ 255)
  d : ∀ x ∈ o.data, 0 ≤ x ∧ x ≤ 255

def dress1 (c : Cell) (p : Int × Int) : Cell :=
  if p.1 = 192 then { c with byte := low6 p.2 }
  else if p.1 = 65 then { c with light := p.2 }
  else if p.1 = 66 then { c with color := p.2 }
  else if p.1 = 0 then { c with light := 0, color := 0 }
  else c
def dress (c : Cell) (ps : List (Int × Int)) : Cell := ps.foldl dress1 c
theorem dress1_ok {c : Cell} (hc : c.ok) {p : Int × Int} (hp : (0 ≤ p.1 ∧ p.1 ≤ 255) ∧ (0 ≤ p.2 ∧ p.2 ≤ 255)) : (dress1 c p).ok := by
  obtain ⟨h1, h2, h3⟩ := hc
  unfold dress1
  split
  · exact ⟨low6_ok _, h2, h3⟩
  split
  · exact ⟨h1, hp.2, h3⟩
  split
  · exact ⟨h1, h2, hp.2⟩
  split
  · exact ⟨h1, by simp, by simp⟩
  · exact ⟨h1, h2, h3⟩
theorem dress_ok {c : Cell} (hc : c.ok) {ps : List (Int × Int)} (hp : ∀ x ∈ ps, (0 ≤ x.1 ∧ x.1 ≤ 255) ∧ (0 ≤ x.2 ∧ x.2 ≤ 255)) : (dress c ps).ok := by
  induction ps generalizing c with
  | nil => exact hc
  | cons p ps ih => exact ih (dress1_ok hc (hp p (List.mem_cons_self ..))) (fun x hx => hp x (List.mem_cons_of_mem _ hx))
theorem dress1_start (c : Cell) (p : Int × Int) : (dress1 c p).start = c.start ∧ (dress1 c p).ge = c.ge := by
  unfold dress1
  repeat' split
  all_goals exact ⟨rfl, rfl⟩
theorem dress_start (c : Cell) (ps : List (Int × Int)) : (dress c ps).start = c.start ∧ (dress c ps).ge = c.ge := by
  induction ps generalizing c with
  | nil => exact ⟨rfl, rfl⟩
  | cons p ps ih => exact ⟨(ih _).1.trans (dress1_start c p).1, (ih _).2.trans (dress1_start c p).2⟩
theorem dress_take (c : Cell) (ps : List (Int × Int)) (k : Nat) (hk : k < ps.length) : dress c (ps.take (k + 1)) = dress1 (dress c (ps.take k)) ps[k] := by
  unfold dress
  rw [List.take_add_one, List.getElem?_eq_getElem hk, List.foldl_append]
  rfl

structure Br where
  P : Pl
  pos : Int
  look : Cell
  laid : Bool
structure Br.ok (s : Br) : Prop where
  p : s.P.ok
  a0 : 0 ≤ s.pos
  a1 : s.pos < (s.P.cells.length : Int)
  l : s.look.ok
abbrev Br.n (s : Br) : Int := (s.P.cells.length : Int)
def Br.lay (s : Br) (c : Cell) : Br := { s with P := s.P.set s.pos c, pos := (s.pos + 1) % s.n }
def Br.char (s : Br) (b : Int) (ge : Bool) : Cell := ⟨b, ge, false, s.look.light, s.look.color⟩
theorem Br.char_ok {s : Br} (h : s.ok) {b : Int} (hb : 0 ≤ b ∧ b ≤ 255) (ge : Bool) : (s.char b ge).ok := ⟨hb, h.l.2⟩
theorem Br.lay_len (s : Br) (c : Cell) : (s.lay c).P.cells.length = s.P.cells.length := s.P.set_len _ _
theorem Br.lay_ok {s : Br} (h : s.ok) {c : Cell} (hc : c.ok) : (s.lay c).ok := by
  have hr := Pl.emod_range h.p (s.pos + 1)
  exact ⟨Pl.set_ok h.p hc, hr.1, by rw [s.lay_len]; exact hr.2, h.l⟩
def Br.bytes (s : Br) (d : List Int) : Br := d.foldl (fun s b => s.lay (s.char b false)) s
theorem Br.bytes_take (s : Br) (d : List Int) (k : Nat) (hk : k < d.length) : s.bytes (d.take (k + 1)) = (s.bytes (d.take k)).lay ((s.bytes (d.take k)).char d[k] false) := by
  unfold Br.bytes
  rw [List.take_add_one, List.getElem?_eq_getElem hk, List.foldl_append]
  rfl
theorem Br.bytes_ok {s : Br} (h : s.ok) {d : List Int} (hd : ∀ x ∈ d, 0 ≤ x ∧ x ≤ 255) : (s.bytes d).ok := by
  induction d generalizing s with
  | nil => exact h
  | cons b d ih => exact ih (Br.lay_ok h (Br.char_ok h (hd b (List.mem_cons_self ..)) _)) (fun x hx => hd x (List.mem_cons_of_mem _ hx))

/-- Numbers one behind the other. -/
def nints (a : Int) (k : Nat) : List Int := (List.range k).map fun (i : Nat) => a + (i : Int)
theorem nints_succ (a : Int) (k : Nat) : nints a (k + 1) = nints a k ++ [a + (k : Int)] := by simp [nints, List.range_succ]
theorem nints_mem (a : Int) (k : Nat) (x : Int) : x ∈ nints a k ↔ a ≤ x ∧ x < a + (k : Int) := by
  unfold nints
  rw [List.mem_map]
  constructor
  · rintro ⟨i, hi, rfl⟩; rw [List.mem_range] at hi; omega
  · rintro ⟨h1, h2⟩; exact ⟨(x - a).toNat, by rw [List.mem_range]; omega, by omega⟩
/-- How many places from a on are no attributes. -/
def Pl.gap (P : Pl) (a : Int) : Nat := (srch ((P.cells.length : Int) - a).toNat fun i => (P.at (a + (i : Int))).start).getD ((P.cells.length : Int) - a).toNat
def Pl.nextOpen (P : Pl) (a : Int) : Option Nat := srch ((P.cells.length : Int) - a).toNat fun i => (P.at (a + (i : Int))).start && !prot (P.at (a + (i : Int))).byte
def Br.rest (s : Br) : Br := { s with P := s.P.clr (nints s.pos (s.P.gap s.pos)) }
def Br.seekTab (s : Br) : Br :=
  { s with pos := match s.P.nextOpen s.pos with
    | some i => (s.pos + (i : Int) + 1) % s.n
    | none => 0 }
def Br.tab (s : Br) : Br := if s.laid then s.rest.seekTab else s.seekTab
/-- Those that are open are let go. -/
def Pl.wipeL (P : Pl) (l : List Int) : Pl := l.foldl (fun Q i => if Q.openAt i then Q.set i Cell.zero else Q) P
theorem wipeL_take (P : Pl) (l : List Int) (k : Nat) (hk : k < l.length) : P.wipeL (l.take (k + 1)) = if (P.wipeL (l.take k)).openAt l[k] then (P.wipeL (l.take k)).set l[k] Cell.zero else P.wipeL (l.take k) := by
  unfold Pl.wipeL
  rw [List.take_add_one, List.getElem?_eq_getElem hk, List.foldl_append]
  rfl
theorem wipeL_same (P : Pl) (l : List Int) : (P.wipeL l).rows = P.rows ∧ (P.wipeL l).cols = P.cols ∧ (P.wipeL l).cells.length = P.cells.length ∧ (P.wipeL l).cursor = P.cursor := by
  induction l generalizing P with
  | nil => exact ⟨rfl, rfl, rfl, rfl⟩
  | cons x l ih =>
    have e : P.wipeL (x :: l) = (if P.openAt x then P.set x Cell.zero else P).wipeL l := rfl
    have h := ih (if P.openAt x then P.set x Cell.zero else P)
    rw [e]
    by_cases hx : P.openAt x = true
    · rw [if_pos hx] at h ⊢; exact ⟨h.1, h.2.1, h.2.2.1.trans (P.set_len x _), h.2.2.2⟩
    · rw [if_neg hx] at h ⊢; exact h
theorem wipeL_ok {P : Pl} (h : P.ok) (l : List Int) : (P.wipeL l).ok := by
  induction l generalizing P with
  | nil => exact h
  | cons x l ih =>
    refine ih (P := if P.openAt x then P.set x Cell.zero else P) ?_
    split
    · exact Pl.set_ok h Cell.zero_ok
    · exact h

def Br.there (s : Br) (a : Int) : Bool := decide (0 ≤ a ∧ a < s.n)
def isData (o : Ord) : Bool := o.kind == 8 || (o.kind == 0 && decide (0 < o.data.length))
/-- A brush behind an order, and the error's number. -/
def Br.act (s : Br) (o : Ord) : Br × Int :=
  if o.kind = 0 then (s.bytes o.data, 0)
  else if o.kind = 8 then (s.lay (s.char o.byte true), 0)
  else if o.kind = 17 then (if s.there o.addr then ({ s with pos := o.addr }, 0) else (s, 32))
  else if o.kind = 29 then (s.lay ⟨low6 o.byte, false, true, 0, 0⟩, 0)
  else if o.kind = 41 then (s.lay (dress ⟨0, false, true, 0, 0⟩ o.pairs), 0)
  else if o.kind = 40 then ({ s with look := dress s.look o.pairs }, 0)
  else if o.kind = 44 then (if (s.P.at s.pos).start then (s.lay (dress (s.P.at s.pos) o.pairs), 0) else (s, 31))
  else if o.kind = 19 then ({ s with P := s.P.point s.pos }, 0)
  else if o.kind = 5 then (s.tab, 0)
  else if o.kind = 60 then (if s.there o.addr then ({ s with P := s.P.fil (btw s.n s.pos o.addr) (s.char o.byte o.ge), pos := o.addr }, 0) else (s, 32))
  else if o.kind = 18 then (if s.there o.addr then ({ s with P := s.P.wipeL (btw s.n s.pos o.addr), pos := o.addr }, 0) else (s, 32))
  else (s, 31)
def known (k : Int) : Bool := k == 0 || k == 8 || k == 17 || k == 29 || k == 41 || k == 40 || k == 44 || k == 19 || k == 5 || k == 60 || k == 18
def Br.dO (s : Br) (o : Ord) : Br × Int := if known o.kind then ({ (s.act o).1 with laid := isData o }, (s.act o).2) else (s, 31)
def Br.run (s : Br) : List Ord → Br × Nat × Int
  | [] => (s, 0, 0)
  | o :: os => if (s.dO o).2 = 0 then (((s.dO o).1.run os).1, ((s.dO o).1.run os).2.1 + 1, ((s.dO o).1.run os).2.2) else ((s.dO o).1, 0, (s.dO o).2)

theorem Br.rest_ok {s : Br} (h : s.ok) : s.rest.ok := ⟨clr_ok h.p _, h.a0, by have := (clr_same s.P (nints s.pos (s.P.gap s.pos))).2.2.1; show s.pos < ((s.P.clr _).cells.length : Int); rw [this]; exact h.a1, h.l⟩
theorem Br.seekTab_ok {s : Br} (h : s.ok) : s.seekTab.ok := by
  have hn := Pl.N_pos h.p
  unfold Br.seekTab
  split
  · rename_i i _
    have hr := Pl.emod_range h.p (s.pos + (i : Int) + 1)
    exact ⟨h.p, hr.1, hr.2, h.l⟩
  · exact ⟨h.p, Int.le_refl _, by show (0 : Int) < (s.P.cells.length : Int); omega, h.l⟩
theorem Br.tab_ok {s : Br} (h : s.ok) : s.tab.ok := by
  unfold Br.tab
  split
  · exact Br.seekTab_ok (Br.rest_ok h)
  · exact Br.seekTab_ok h
theorem Br.there_iff (s : Br) (a : Int) : s.there a = true ↔ 0 ≤ a ∧ a < s.n := by unfold Br.there; exact decide_eq_true_iff
theorem ite_all {α : Type} {p : α → Prop} {c : Prop} [Decidable c] {a b : α} (h1 : c → p a) (h2 : ¬ c → p b) : p (if c then a else b) := by
  by_cases h : c
  · rw [if_pos h]; exact h1 h
  · rw [if_neg h]; exact h2 h
def OkR (r : Br × Int) : Prop := r.1.ok
theorem Br.act_ok {s : Br} (h : s.ok) {o : Ord} (ho : o.ok) : (s.act o).1.ok := by
  show OkR (s.act o)
  unfold Br.act
  refine ite_all (fun _ => Br.bytes_ok h ho.d) (fun _ => ?_)
  refine ite_all (fun _ => Br.lay_ok h (Br.char_ok h ho.b _)) (fun _ => ?_)
  refine ite_all (fun _ => ite_all (fun ht => ?_) (fun _ => h)) (fun _ => ?_)
  · have ht := (s.there_iff _).1 ht; exact ⟨h.p, ht.1, ht.2, h.l⟩
  refine ite_all (fun _ => Br.lay_ok h ⟨low6_ok _, by simp, by simp⟩) (fun _ => ?_)
  refine ite_all (fun _ => Br.lay_ok h (dress_ok (by simp [Cell.ok]) ho.p)) (fun _ => ?_)
  refine ite_all (fun _ => ⟨h.p, h.a0, h.a1, dress_ok h.l ho.p⟩) (fun _ => ?_)
  refine ite_all (fun _ => ite_all (fun _ => Br.lay_ok h (dress_ok (Pl.at_ok h.p _) ho.p)) (fun _ => h)) (fun _ => ?_)
  refine ite_all (fun _ => ⟨Pl.point_ok h.p h.a0 h.a1, h.a0, h.a1, h.l⟩) (fun _ => ?_)
  refine ite_all (fun _ => Br.tab_ok h) (fun _ => ?_)
  refine ite_all (fun _ => ite_all (fun ht => ?_) (fun _ => h)) (fun _ => ?_)
  · have ht := (s.there_iff _).1 ht
    exact ⟨fil_ok h.p _ (Br.char_ok h ho.b _), ht.1, by have := (fil_same s.P (btw s.n s.pos o.addr) (s.char o.byte o.ge)).2.2.1; show _ < ((s.P.fil _ _).cells.length : Int); rw [this]; exact ht.2, h.l⟩
  refine ite_all (fun _ => ite_all (fun ht => ?_) (fun _ => h)) (fun _ => h)
  have ht := (s.there_iff _).1 ht
  exact ⟨wipeL_ok h.p _, ht.1, by have := (wipeL_same s.P (btw s.n s.pos o.addr)).2.2.1; show _ < ((s.P.wipeL _).cells.length : Int); rw [this]; exact ht.2, h.l⟩
theorem Br.dO_ok {s : Br} (h : s.ok) {o : Ord} (ho : o.ok) : (s.dO o).1.ok := by
  have := Br.act_ok h ho
  unfold Br.dO
  split
  · exact ⟨this.p, this.a0, this.a1, this.l⟩
  · exact h
theorem Br.run_step {s s0 : Br} {os : List Ord} {k : Nat} (hk : k < os.length) (h : s0.run os = ((s.run (os.drop k)).1, (s.run (os.drop k)).2.1 + k, (s.run (os.drop k)).2.2)) (he : (s.dO os[k]).2 = 0) :
    s0.run os = (((s.dO os[k]).1.run (os.drop (k + 1))).1, ((s.dO os[k]).1.run (os.drop (k + 1))).2.1 + (k + 1), ((s.dO os[k]).1.run (os.drop (k + 1))).2.2) := by
  rw [h, List.drop_eq_getElem_cons hk]
  simp only [Br.run]
  rw [if_pos he]
  simp only [Prod.mk.injEq, true_and, and_true]
  omega
theorem Br.run_stop {s s0 : Br} {os : List Ord} {k : Nat} (hk : k < os.length) (h : s0.run os = ((s.run (os.drop k)).1, (s.run (os.drop k)).2.1 + k, (s.run (os.drop k)).2.2)) (he : (s.dO os[k]).2 ≠ 0) :
    s0.run os = ((s.dO os[k]).1, k, (s.dO os[k]).2) := by
  rw [h, List.drop_eq_getElem_cons hk]
  simp only [Br.run]
  rw [if_neg he]
  simp
end Go.Proofs.Ytbkddgeocmkegaa

/-! Orders in memory. -/
namespace Go.Proofs.Ytbkddgeocmkegaa
open Go.RowKit Go.Shelf
set_option linter.unusedVariables false

/-- A row of bytes, away from the blocks of T. -/
def BRow (w : World) (T : Nat → Prop) (ao : Option Addr) (l : List Int) : Prop :=
  l.length ≤ maxLen ∧ ∀ k (hk : k < l.length), ∃ b o, ao = some ⟨b, o, none⟩ ∧ ¬ T b ∧ w.cell? ⟨b, o + k, none⟩ = some (.int .u8 l[k])
theorem BRow.chg {w w' : World} {T S : Nat → Prop} {ao : Option Addr} {l : List Int} (h : BRow w T ao l) (hk : Chg S w w') (hs : ∀ k, k < w.heap.size → S k → T k) : BRow w' T ao l :=
  ⟨h.1, fun k hkl => by
    obtain ⟨b, o, rfl, hT, hc⟩ := h.2 k hkl
    exact ⟨b, o, rfl, hT, cell_keepC hc hk (fun e => hT (hs b (World.block_lt_of_cell? _ _ hc) e))⟩⟩
theorem BRow.below {w w' : World} {T : Nat → Prop} {ao : Option Addr} {l : List Int} (h : BRow w T ao l) (hb : Below w.heap.size w w') : BRow w' T ao l :=
  h.chg (S := fun _ => False) (Chg.of_below hb) (fun _ _ e => e.elim)
theorem BRow.weak {w : World} {T U : Nat → Prop} {ao : Option Addr} {l : List Int} (h : BRow w T ao l) (hu : ∀ k, k < w.heap.size → U k → T k) : BRow w U ao l :=
  ⟨h.1, fun k hkl => by
    obtain ⟨b, o, rfl, hT, hc⟩ := h.2 k hkl
    exact ⟨b, o, rfl, fun e => hT (hu b (World.block_lt_of_cell? _ _ hc) e), hc⟩⟩
/-- A row of pairs. -/
def PRow (w : World) (T : Nat → Prop) (ao : Option Addr) (l : List (Int × Int)) : Prop :=
  l.length ≤ maxLen ∧ ∀ k (hk : k < l.length), ∃ b o, ao = some ⟨b, o, none⟩ ∧ ¬ T b ∧ w.cell? ⟨b, o + k * 2, none⟩ = some (.int .u8 l[k].1) ∧ w.cell? ⟨b, o + k * 2 + 1, none⟩ = some (.int .u8 l[k].2)
theorem PRow.chg {w w' : World} {T S : Nat → Prop} {ao : Option Addr} {l : List (Int × Int)} (h : PRow w T ao l) (hk : Chg S w w') (hs : ∀ k, k < w.heap.size → S k → T k) : PRow w' T ao l :=
  ⟨h.1, fun k hkl => by
    obtain ⟨b, o, rfl, hT, hc, hd⟩ := h.2 k hkl
    have hn : ¬ S b := fun e => hT (hs b (World.block_lt_of_cell? _ _ hc) e)
    exact ⟨b, o, rfl, hT, cell_keepC hc hk hn, cell_keepC hd hk hn⟩⟩
theorem PRow.below {w w' : World} {T : Nat → Prop} {ao : Option Addr} {l : List (Int × Int)} (h : PRow w T ao l) (hb : Below w.heap.size w w') : PRow w' T ao l :=
  h.chg (S := fun _ => False) (Chg.of_below hb) (fun _ _ e => e.elim)
theorem PRow.weak {w : World} {T U : Nat → Prop} {ao : Option Addr} {l : List (Int × Int)} (h : PRow w T ao l) (hu : ∀ k, k < w.heap.size → U k → T k) : PRow w U ao l :=
  ⟨h.1, fun k hkl => by
    obtain ⟨b, o, rfl, hT, hc, hd⟩ := h.2 k hkl
    exact ⟨b, o, rfl, fun e => hT (hu b (World.block_lt_of_cell? _ _ hc) e), hc, hd⟩⟩
/-- An order as a value: its parts' slices, and their rows. -/
structure ORef where
  pa : Option Addr
  pc : Nat
  da : Option Addr
  dc : Nat
def OVal (o : Ord) (r : ORef) : Value := .agg #[.int .u8 o.kind, .int .i64 o.addr, .int .u8 o.byte, .bool o.ge, .slice r.pa o.pairs.length r.pc, .slice r.da o.data.length r.dc]
structure ORd (w : World) (T : Nat → Prop) (o : Ord) (r : ORef) : Prop where
  ok : o.ok
  p : PRow w T r.pa o.pairs
  d : BRow w T r.da o.data
theorem ORd.chg {w w' : World} {T S : Nat → Prop} {o : Ord} {r : ORef} (h : ORd w T o r) (hk : Chg S w w') (hs : ∀ k, k < w.heap.size → S k → T k) : ORd w' T o r := ⟨h.ok, h.p.chg hk hs, h.d.chg hk hs⟩
theorem ORd.below {w w' : World} {T : Nat → Prop} {o : Ord} {r : ORef} (h : ORd w T o r) (hb : Below w.heap.size w w') : ORd w' T o r := ⟨h.ok, h.p.below hb, h.d.below hb⟩
theorem ORd.weak {w : World} {T U : Nat → Prop} {o : Ord} {r : ORef} (h : ORd w T o r) (hu : ∀ k, k < w.heap.size → U k → T k) : ORd w U o r := ⟨h.ok, h.p.weak hu, h.d.weak hu⟩
/-- A row of orders. -/
def OAt (w : World) (T : Nat → Prop) (ao : Option Addr) (k : Nat) (x : Ord) : Prop :=
  ∃ b o r, ao = some ⟨b, o, none⟩ ∧ ¬ T b ∧ w.cell? ⟨b, o + k * 6, none⟩ = some (.int .u8 x.kind) ∧ w.cell? ⟨b, o + k * 6 + 1, none⟩ = some (.int .i64 x.addr) ∧ w.cell? ⟨b, o + k * 6 + 2, none⟩ = some (.int .u8 x.byte) ∧
    w.cell? ⟨b, o + k * 6 + 3, none⟩ = some (.bool x.ge) ∧ w.cell? ⟨b, o + k * 6 + 4, none⟩ = some (.slice r.pa x.pairs.length r.pc) ∧ w.cell? ⟨b, o + k * 6 + 5, none⟩ = some (.slice r.da x.data.length r.dc) ∧ ORd w T x r
def ORow (w : World) (T : Nat → Prop) (ao : Option Addr) (l : List Ord) : Prop :=
  l.length ≤ maxLen ∧ ∀ k (hk : k < l.length), OAt w T ao k l[k]
theorem OAt.chg {w w' : World} {T S : Nat → Prop} {ao : Option Addr} {k : Nat} {x : Ord} (h : OAt w T ao k x) (hk : Chg S w w') (hs : ∀ k, k < w.heap.size → S k → T k) : OAt w' T ao k x := by
  obtain ⟨b, o, r, rfl, hT, h0, h1, h2, h3, h4, h5, h6⟩ := h
  have hn : ¬ S b := fun e => hT (hs b (World.block_lt_of_cell? _ _ h0) e)
  exact ⟨b, o, r, rfl, hT, cell_keepC h0 hk hn, cell_keepC h1 hk hn, cell_keepC h2 hk hn, cell_keepC h3 hk hn, cell_keepC h4 hk hn, cell_keepC h5 hk hn, h6.chg hk hs⟩
theorem ORow.chg {w w' : World} {T S : Nat → Prop} {ao : Option Addr} {l : List Ord} (h : ORow w T ao l) (hk : Chg S w w') (hs : ∀ k, k < w.heap.size → S k → T k) : ORow w' T ao l := ⟨h.1, fun k hkl => (h.2 k hkl).chg hk hs⟩
theorem ORow.below {w w' : World} {T : Nat → Prop} {ao : Option Addr} {l : List Ord} (h : ORow w T ao l) (hb : Below w.heap.size w w') : ORow w' T ao l :=
  h.chg (S := fun _ => False) (Chg.of_below hb) (fun _ _ e => e.elim)
theorem ORow.weak {w : World} {T U : Nat → Prop} {ao : Option Addr} {l : List Ord} (h : ORow w T ao l) (hu : ∀ k, k < w.heap.size → U k → T k) : ORow w U ao l :=
  ⟨h.1, fun k hkl => by
    obtain ⟨b, o, r, rfl, hT, h0, h1, h2, h3, h4, h5, h6⟩ := h.2 k hkl
    exact ⟨b, o, r, rfl, fun e => hT (hu b (World.block_lt_of_cell? _ _ h0) e), h0, h1, h2, h3, h4, h5, h6.weak hu⟩⟩

/-- A brush in memory. -/
structure BrL (w : World) (h g b cap : Nat) (s : Br) : Prop where
  hh : w.heap[h]? = some (.cells #[.pointer (some ⟨g, 0, none⟩), .int .i64 s.pos, .int .u8 s.look.byte, .bool s.look.ge, .bool s.look.start, .int .u8 s.look.light, .int .u8 s.look.color, .bool s.laid] 176 (0, 0))
  pl : PL w g b cap s.P
  n1 : h ≠ g
  n2 : h ≠ b
  ok : s.ok
namespace BrL
variable {w : World} {h g b cap : Nat} {s : Br}
theorem hl (x : BrL w h g b cap s) : h < w.heap.size := (Array.getElem?_eq_some_iff.1 x.hh).1
theorem c0 (x : BrL w h g b cap s) : w.cell? ⟨h, 0, none⟩ = some (.pointer (some ⟨g, 0, none⟩)) := by simp [World.cell?, x.hh]
theorem c1 (x : BrL w h g b cap s) : w.cell? ⟨h, 1, none⟩ = some (.int .i64 s.pos) := by simp [World.cell?, x.hh]
theorem c2 (x : BrL w h g b cap s) : w.cell? ⟨h, 2, none⟩ = some (.int .u8 s.look.byte) := by simp [World.cell?, x.hh]
theorem c3 (x : BrL w h g b cap s) : w.cell? ⟨h, 3, none⟩ = some (.bool s.look.ge) := by simp [World.cell?, x.hh]
theorem c4 (x : BrL w h g b cap s) : w.cell? ⟨h, 4, none⟩ = some (.bool s.look.start) := by simp [World.cell?, x.hh]
theorem c5 (x : BrL w h g b cap s) : w.cell? ⟨h, 5, none⟩ = some (.int .u8 s.look.light) := by simp [World.cell?, x.hh]
theorem c6 (x : BrL w h g b cap s) : w.cell? ⟨h, 6, none⟩ = some (.int .u8 s.look.color) := by simp [World.cell?, x.hh]
theorem c7 (x : BrL w h g b cap s) : w.cell? ⟨h, 7, none⟩ = some (.bool s.laid) := by simp [World.cell?, x.hh]
theorem fz (x : BrL w h g b cap s) (o : Nat) : w.frozen? ⟨h, o, none⟩ = false := by simp [World.frozen?, x.hh]
theorem below {w' : World} (x : BrL w h g b cap s) (hb : Below w.heap.size w w') : BrL w' h g b cap s := ⟨(hb.block h x.hl).trans x.hh, x.pl.below hb, x.n1, x.n2, x.ok⟩
/-- The plane is turned. -/
theorem turn {w' : World} {P' : Pl} {S : Nat → Prop} (x : BrL w h g b cap s) (hk : Chg S w w') (hs : ¬ S h) (hp : PL w' g b cap P') (hl : P'.cells.length = s.P.cells.length) : BrL w' h g b cap { s with P := P' } :=
  ⟨(hk.block h x.hl hs).trans x.hh, hp, x.n1, x.n2, ⟨hp.ok, x.ok.a0, by show s.pos < (P'.cells.length : Int); rw [hl]; exact x.ok.a1, x.ok.l⟩⟩
theorem move (x : BrL w h g b cap s) {p : Int} (p0 : 0 ≤ p) (p1 : p < (s.P.cells.length : Int)) : BrL (w.setCell ⟨h, 1, none⟩ (.int .i64 p)) h g b cap { s with pos := p } :=
  have hk : Chg (· = h) w (w.setCell ⟨h, 1, none⟩ (.int .i64 p)) := Chg.setCell (S := (· = h)) (Chg.refl _ _) (.inl rfl) _
  ⟨by have := heap_set_same (l := [.pointer (some ⟨g, 0, none⟩), .int .i64 s.pos, .int .u8 s.look.byte, .bool s.look.ge, .bool s.look.start, .int .u8 s.look.light, .int .u8 s.look.color, .bool s.laid]) x.hh 1 (.int .i64 p); simpa using this,
   x.pl.chg hk (fun e => x.n1 e.symm) (fun e => x.n2 e.symm), x.n1, x.n2, ⟨x.ok.p, p0, p1, x.ok.l⟩⟩
theorem lays (x : BrL w h g b cap s) (l : Bool) : BrL (w.setCell ⟨h, 7, none⟩ (.bool l)) h g b cap { s with laid := l } :=
  have hk : Chg (· = h) w (w.setCell ⟨h, 7, none⟩ (.bool l)) := Chg.setCell (S := (· = h)) (Chg.refl _ _) (.inl rfl) _
  ⟨by have := heap_set_same (l := [.pointer (some ⟨g, 0, none⟩), .int .i64 s.pos, .int .u8 s.look.byte, .bool s.look.ge, .bool s.look.start, .int .u8 s.look.light, .int .u8 s.look.color, .bool s.laid]) x.hh 7 (.bool l); simpa using this,
   x.pl.chg hk (fun e => x.n1 e.symm) (fun e => x.n2 e.symm), x.n1, x.n2, ⟨x.ok.p, x.ok.a0, x.ok.a1, x.ok.l⟩⟩
end BrL
end Go.Proofs.Ytbkddgeocmkegaa

namespace Go.Proofs.Ytbkddgeocmkegaa
open Go.ChangeShapes Go.WideShapes Go.ChangeAt Go.RowKit Go.Deep Go.Joins
set_option linter.unusedVariables false
set_option linter.unusedSimpArgs false

/-! Arguments, opened: bytes, pairs, orders. -/
section
variable {H : Type} {enc : TypeId × Value → H} {W : World} {base : Nat} {spare : Nat → Bool} {held : Bool}
set_option maxRecDepth 100000 in
theorem open_u8 {r : Reach} {b0 : Nat} {v : Value} {d : DataW H} {p : List MemPlace} (hv : Value.okWide Try.prog W r b0 5 v) (h : DataW.Trod enc Try.prog W base spare held 5 v d p) :
    ∃ z : Int, v = .int .u8 z ∧ 0 ≤ z ∧ z ≤ 255 := by
  obtain ⟨z, rfl⟩ := okWide_int Try.underlying5 hv
  obtain ⟨fuel, hf⟩ := h
  obtain ⟨z0, e0, -, w0⟩ := DataW.trod_int Try.underlying5 hf
  simp [Value.cells] at e0
  subst e0
  exact ⟨z, rfl, u8_wf w0⟩
theorem choose_fn {α : Type} [Inhabited α] {n : Nat} {p : Nat → α → Prop} (h : ∀ i, i < n → ∃ x, p i x) : ∃ F : Nat → α, ∀ i, i < n → p i (F i) := by
  refine ⟨fun i => if hi : i < n then (h i hi).choose else default, fun i hi => ?_⟩
  simp only [dif_pos hi]
  exact (h i hi).choose_spec
set_option maxRecDepth 100000 in
theorem i64_wf {z : Int} (h : (Lit.int .i64 z).wf = true) : -9223372036854775808 ≤ z ∧ z ≤ 9223372036854775807 := by simpa [Lit.wf, IntKind.min, IntKind.max, IntKind.signed, IntKind.bits] using h

set_option maxRecDepth 100000 in
theorem trod_bytes {cs : List Value} {n : Nat} {x : DataW H × List MemPlace} (h : DataW.trod enc Try.prog W base (fun _ => true) held n 22 cs = some x) :
    ∃ (ao : Option Addr) (l : List Int) (cap : Nat), cs = [.slice ao l.length cap] ∧ (∀ y ∈ l, 0 ≤ y ∧ y ≤ 255) ∧ BRow W (fun k => W.heap.size ≤ k) ao l := by
  rcases open_slice1 Try.underlying22 (by kernel_rfl) h with ⟨rfl, _⟩ | ⟨a, len, cap, m, n', V, D, Pl, rfl, _, hl, hm, hmm, _, hel⟩
  · exact ⟨none, [], 0, rfl, by simp, Nat.zero_le _, fun k hk => absurd hk (Nat.not_lt_zero _)⟩
  · simp only [if_true] at hmm
    subst hmm
    obtain ⟨b, off, spot⟩ := a
    have hsp : 0 < len → spot = none := by
      intro h0
      obtain ⟨h1, -⟩ := hel 0 (by omega)
      have c1 : W.cell? ⟨b, off, spot⟩ = some (V 0) := h1
      exact World.cell?_spot c1
    obtain ⟨F, hF⟩ := choose_fn (α := Int) (n := len) (p := fun i z => (0 ≤ z ∧ z ≤ 255) ∧ spot = none ∧ W.cell? ⟨b, off + i, none⟩ = some (.int .u8 z)) (fun i hi => by
      obtain ⟨h1, h2⟩ := hel i (by omega)
      obtain ⟨z, e, -, wf⟩ := DataW.trod_int Try.underlying5 h2
      simp at e
      have hs : spot = none := hsp (by omega)
      subst hs
      rw [e, add_plain] at h1
      exact ⟨z, u8_wf wf, rfl, h1⟩)
    refine ⟨some ⟨b, off, spot⟩, (List.range len).map F, _, by simp; rfl, ?_, by simp; omega, fun k hk => ?_⟩
    · intro y hy
      rw [List.mem_map] at hy
      obtain ⟨i, hi, rfl⟩ := hy
      exact (hF i (List.mem_range.1 hi)).1
    · have hk' : k < len := by simpa using hk
      obtain ⟨_, rfl, hc⟩ := hF k hk'
      simp only [List.getElem_map, List.getElem_range]
      have := World.block_lt_of_cell? _ _ hc
      exact ⟨b, off, rfl, by simpa using this, hc⟩

set_option maxRecDepth 100000 in
theorem trod_pairs {cs : List Value} {n : Nat} {x : DataW H × List MemPlace} (h : DataW.trod enc Try.prog W base (fun _ => true) held n 108 cs = some x) :
    ∃ (ao : Option Addr) (l : List (Int × Int)) (cap : Nat), cs = [.slice ao l.length cap] ∧ (∀ y ∈ l, (0 ≤ y.1 ∧ y.1 ≤ 255) ∧ (0 ≤ y.2 ∧ y.2 ≤ 255)) ∧ PRow W (fun k => W.heap.size ≤ k) ao l := by
  rcases open_slice_fields Try.underlying108 Try.underlying240 (by kernel_rfl) (by kernel_rfl) h with ⟨rfl, _⟩ | ⟨a, len, cap, m, D, Pl, rfl, _, hl, hm, hmm, _, hel⟩
  · exact ⟨none, [], 0, rfl, by simp, Nat.zero_le _, fun k hk => absurd hk (Nat.not_lt_zero _)⟩
  · simp only [if_true] at hmm
    subst hmm
    obtain ⟨b, off, spot⟩ := a
    have hsp : 0 < len → spot = none := by
      intro h0
      obtain ⟨ys', n', -, -, -, hfl'⟩ := hel 0 (by omega)
      obtain ⟨v0', y0', c0', -, -⟩ := hfl' 0 _ rfl
      have c1 : W.cell? ⟨b, off, spot⟩ = some v0' := c0'
      exact World.cell?_spot c1
    obtain ⟨F, hF⟩ := choose_fn (α := Int × Int) (n := len) (p := fun i z => ((0 ≤ z.1 ∧ z.1 ≤ 255) ∧ (0 ≤ z.2 ∧ z.2 ≤ 255)) ∧ spot = none ∧ W.cell? ⟨b, off + i * 2, none⟩ = some (.int .u8 z.1) ∧ W.cell? ⟨b, off + i * 2 + 1, none⟩ = some (.int .u8 z.2)) (fun i hi => by
      obtain ⟨ys, n, -, -, -, hfl⟩ := hel i (by omega)
      obtain ⟨v0, y0, c0, -, t0⟩ := hfl 0 _ rfl
      obtain ⟨v1, y1, c1, -, t1⟩ := hfl 1 _ rfl
      obtain ⟨z0, e0, -, w0⟩ := DataW.trod_int Try.underlying5 t0
      obtain ⟨z1, e1, -, w1⟩ := DataW.trod_int Try.underlying5 t1
      simp at e0 e1
      subst e0 e1
      have hs : spot = none := hsp (by omega)
      subst hs
      rw [add_plain] at c0 c1
      exact ⟨(z0, z1), ⟨u8_wf w0, u8_wf w1⟩, rfl, c0, c1⟩)
    refine ⟨some ⟨b, off, spot⟩, (List.range len).map F, _, by simp; rfl, ?_, by simp; omega, fun k hk => ?_⟩
    · intro y hy
      rw [List.mem_map] at hy
      obtain ⟨i, hi, rfl⟩ := hy
      exact (hF i (List.mem_range.1 hi)).1
    · have hk' : k < len := by simpa using hk
      obtain ⟨_, rfl, hc, hc2⟩ := hF k hk'
      simp only [List.getElem_map, List.getElem_range]
      have := World.block_lt_of_cell? _ _ hc
      exact ⟨b, off, rfl, by simpa using this, hc, hc2⟩

instance : Inhabited Ord := ⟨⟨0, 0, 0, false, [], []⟩⟩
set_option maxRecDepth 100000 in
theorem trod_orders {cs : List Value} {n : Nat} {x : DataW H × List MemPlace} (h : DataW.trod enc Try.prog W base (fun _ => true) held n 59 cs = some x) :
    ∃ (ao : Option Addr) (l : List Ord) (cap : Nat), cs = [.slice ao l.length cap] ∧ ORow W (fun k => W.heap.size ≤ k) ao l ∧ l.length ≤ cap ∧ cap ≤ maxLen := by
  rcases open_slice_fields Try.underlying59 Try.underlying110 (by kernel_rfl) (by kernel_rfl) h with ⟨rfl, _⟩ | ⟨a, len, cap, m, D, Pl, rfl, _, hl, hm, hmm, _, hel⟩
  · exact ⟨none, [], 0, rfl, ⟨Nat.zero_le _, fun k hk => absurd hk (Nat.not_lt_zero _)⟩, Nat.le_refl _, Nat.zero_le _⟩
  · simp only [if_true] at hmm
    subst hmm
    obtain ⟨b, off, spot⟩ := a
    have hsp : 0 < len → spot = none := by
      intro h0
      obtain ⟨ys', n', -, -, -, hfl'⟩ := hel 0 (by omega)
      obtain ⟨v0', y0', c0', -, -⟩ := hfl' 0 _ rfl
      have c1 : W.cell? ⟨b, off, spot⟩ = some v0' := c0'
      exact World.cell?_spot c1
    obtain ⟨F, hF⟩ := choose_fn (α := Ord) (n := len) (p := fun i z => OAt W (fun k => W.heap.size ≤ k) (some ⟨b, off, spot⟩) i z) (fun i hi => by
      obtain ⟨ys, n, -, -, -, hfl⟩ := hel i (by omega)
      obtain ⟨v0, y0, c0, -, t0⟩ := hfl 0 _ rfl
      obtain ⟨v1, y1, c1, -, t1⟩ := hfl 1 _ rfl
      obtain ⟨v2, y2, c2, -, t2⟩ := hfl 2 _ rfl
      obtain ⟨v3, y3, c3, -, t3⟩ := hfl 3 _ rfl
      obtain ⟨v4, y4, c4, -, t4⟩ := hfl 4 _ rfl
      obtain ⟨v5, y5, c5, -, t5⟩ := hfl 5 _ rfl
      obtain ⟨z0, e0, -, w0⟩ := DataW.trod_int Try.underlying5 t0
      obtain ⟨z1, e1, -, w1⟩ := DataW.trod_int Try.underlying3 t1
      obtain ⟨z2, e2, -, w2⟩ := DataW.trod_int Try.underlying5 t2
      obtain ⟨z3, e3, -⟩ := DataW.trod_bool Try.underlying4 t3
      obtain ⟨pa, ps, pc, e4, hps, hpr⟩ := trod_pairs t4
      obtain ⟨da, ds, dc, e5, hds, hdr⟩ := trod_bytes t5
      simp at e0 e1 e2 e3 e4 e5
      subst e0 e1 e2 e3 e4 e5
      have hs : spot = none := hsp (by omega)
      subst hs
      rw [add_plain] at c0 c1 c2 c3 c4 c5
      have := World.block_lt_of_cell? _ _ c0
      exact ⟨⟨z0, z1, z2, z3, ps, ds⟩, b, off, ⟨pa, pc, da, dc⟩, rfl, by simpa using this, c0, c1, c2, c3, c4, c5, ⟨u8_wf w0, i64_wf w1, u8_wf w2, hps, hds⟩, hpr, hdr⟩)
    refine ⟨some ⟨b, off, spot⟩, (List.range len).map F, _, by first | (simp; done) | (simp; rfl), ⟨by simp; omega, fun k hk => ?_⟩, by simpa using hl, hm⟩
    have hk' : k < len := by simpa using hk
    simp only [List.getElem_map, List.getElem_range]
    exact hF k hk'

set_option maxRecDepth 100000 in
theorem open_orders {r : Reach} {b0 : Nat} {v : Value} {d : DataW H} {p : List MemPlace} (hv : Value.okWide Try.prog W r b0 59 v) (h : DataW.Trod enc Try.prog W base (fun _ => true) held 59 v d p) :
    ∃ (ao : Option Addr) (l : List Ord) (cap : Nat), v = .slice ao l.length cap ∧ ORow W (fun k => W.heap.size ≤ k) ao l ∧ l.length ≤ cap ∧ cap ≤ maxLen := by
  obtain ⟨ao, len, cap, rfl⟩ := okWide_slice Try.underlying59 hv
  obtain ⟨fuel, hf⟩ := h
  obtain ⟨ao', l, cap', e, hr, hlc, hcm⟩ := trod_orders hf
  simp [Value.cells] at e
  obtain ⟨rfl, rfl, rfl⟩ := e
  exact ⟨_, l, _, rfl, hr, hlc, hcm⟩
end
end Go.Proofs.Ytbkddgeocmkegaa
