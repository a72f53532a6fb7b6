/- Lemmas on the way to this seat's statements; they bear no condition of their own. -/
import Derived.Test.YtbkddgeocmkegaaW1
namespace Go.Proofs.Ytbkddgeocmkegaa
open Go.RowKit Go.Shelf
set_option linter.unusedSimpArgs false
set_option linter.unusedVariables false
set_option maxHeartbeats 2000000
attribute [local go_sem ↓] run_start run_byte run_cols
attribute [local go_sem] Oper.semAt_some

/-- Cells let go. -/
def Pl.clr (P : Pl) (l : List Int) : Pl := l.foldl (fun P i => P.set i Cell.zero) P
theorem clr_snoc (P : Pl) (l : List Int) (x : Int) : P.clr (l ++ [x]) = (P.clr l).set x Cell.zero := by simp [Pl.clr]
theorem clr_take (P : Pl) (l : List Int) (k : Nat) (hk : k < l.length) : P.clr (l.take (k + 1)) = (P.clr (l.take k)).set l[k] Cell.zero := by
  rw [List.take_add_one, List.getElem?_eq_getElem hk]
  exact clr_snoc _ _ _
theorem clr_same (P : Pl) (l : List Int) : (P.clr l).rows = P.rows ∧ (P.clr l).cols = P.cols ∧ (P.clr l).cells.length = P.cells.length ∧ (P.clr l).cursor = P.cursor := by
  induction l generalizing P with
  | nil => exact ⟨rfl, rfl, rfl, rfl⟩
  | cons x l ih =>
    have h := ih (P.set x Cell.zero)
    exact ⟨h.1, h.2.1, h.2.2.1.trans (P.set_len x _), h.2.2.2⟩
theorem clr_ok {P : Pl} (h : P.ok) (l : List Int) : (P.clr l).ok := by
  induction l generalizing P with
  | nil => exact h
  | cons x l ih => exact ih (Pl.set_ok h Cell.zero_ok)
theorem clr_at (P : Pl) (l : List Int) (hl : ∀ x ∈ l, 0 ≤ x ∧ x < (P.cells.length : Int)) (j : Int) : (P.clr l).at j = if j ∈ l then Cell.zero else P.at j := by
  induction l generalizing P with
  | nil => simp [Pl.clr]
  | cons x l ih =>
    have hx := hl x (List.mem_cons_self ..)
    have := ih (P.set x Cell.zero) (fun y hy => by rw [P.set_len]; exact hl y (List.mem_cons_of_mem _ hy))
    show ((P.set x Cell.zero).clr l).at j = _
    rw [this, P.at_set x _ hx.1 hx.2]
    by_cases h1 : j ∈ l
    · rw [if_pos h1, if_pos (List.mem_cons_of_mem _ h1)]
    · rw [if_neg h1]
      by_cases h2 : j = x
      · rw [if_pos h2, if_pos (by rw [h2]; exact List.mem_cons_self ..)]
      · rw [if_neg h2, if_neg (by simp [h1, h2])]

theorem Aux.chg {S : Nat → Prop} {B : Nat} {w W W' : World} (hb : Chg S w W) (hs : w.heap.size ≤ B) (h : Aux B W W') : Chg S w W' :=
  ⟨h.os.trans hb.os, h.tape.trans hb.tape, h.output.trans hb.output, Nat.le_trans hb.size h.size, fun k hk hS => (h.block k (by have := hb.size; omega) (.inl (by omega))).trans (hb.block k hk hS)⟩
theorem cell_set_same {W : World} {a : Addr} {v : Value} (u : Value) (h : W.cell? a = some v) : (W.setCell a u).cell? a = some u := by
  rw [World.cell?_setCell_same' _ _ _ (by rw [h]; rfl)]

structure InI (w : World) (g b cap : Nat) (f : Fld) (P : Pl) (n : Int) (W : World) : Prop where
  pl : PL W g b cap P
  c0 : W.cell? ⟨w.heap.size, 0, none⟩ = some (.pointer (some ⟨g, 0, none⟩))
  cn : W.cell? ⟨w.heap.size + 2, 0, none⟩ = some (.int .i64 n)
  fn : W.frozen? ⟨w.heap.size + 2, 0, none⟩ = false
  p0 : W.cell? ⟨w.heap.size + 3, 0, none⟩ = some (.pointer (some ⟨g, 0, none⟩))
  q0 : W.cell? ⟨w.heap.size + 4, 0, none⟩ = some (.int .i64 f.start)
  q1 : W.cell? ⟨w.heap.size + 4, 1, none⟩ = some (.int .i64 f.len)
  chg : Chg (· = b) w W
  sz : w.heap.size + 5 ≤ W.heap.size
theorem InI.aux {w W W' : World} {g b cap : Nat} {f : Fld} {P : Pl} {n : Int} (h : InI w g b cap f P n W) (ha : Aux (w.heap.size + 5) W W') : InI w g b cap f P n W' :=
  ⟨h.pl.aux ha, ha.cell h.c0, ha.cell h.cn, (ha.frozen h.cn).trans h.fn, ha.cell h.p0, ha.cell h.q0, ha.cell h.q1, ha.chg h.chg (by omega), Nat.le_trans h.sz ha.size⟩
/-- A cell is turned, and counted. -/
theorem InI.step {w W W1 : World} {g b cap : Nat} {f : Fld} {P P' : Pl} {n : Int} (h : InI w g b cap f P n W) (hbl : b < w.heap.size) (hgl : g < w.heap.size) (hP : PL W1 g b cap P') (hk : Chg (· = b) W W1) (m : Int) :
    InI w g b cap f P' m (W1.setCell ⟨w.heap.size + 2, 0, none⟩ (.int .i64 m)) :=
  have hs : Chg (· = w.heap.size + 2) W1 (W1.setCell ⟨w.heap.size + 2, 0, none⟩ (.int .i64 m)) := chg_set _ _ _ _
  ⟨hP.chg hs (by omega) (by omega),
   cell_keepC (cell_keepC h.c0 hk (by show ¬ w.heap.size = b; omega)) hs (by show ¬ w.heap.size = w.heap.size + 2; omega),
   cell_set_same _ (cell_keepC h.cn hk (by show ¬ w.heap.size + 2 = b; omega)),
   by rw [World.frozen?_setCell]; exact frozen_keepC h.cn h.fn hk (by show ¬ w.heap.size + 2 = b; omega),
   cell_keepC (cell_keepC h.p0 hk (by show ¬ w.heap.size + 3 = b; omega)) hs (by show ¬ w.heap.size + 3 = w.heap.size + 2; omega),
   cell_keepC (cell_keepC h.q0 hk (by show ¬ w.heap.size + 4 = b; omega)) hs (by show ¬ w.heap.size + 4 = w.heap.size + 2; omega),
   cell_keepC (cell_keepC h.q1 hk (by show ¬ w.heap.size + 4 = b; omega)) hs (by show ¬ w.heap.size + 4 = w.heap.size + 2; omega),
   (h.chg.trans hk).setCell (.inr (by simp)) _, by have := hk.size; have := h.sz; simp; omega⟩

theorem places_range {n : Int} (hn : 0 < n) (f : Fld) : ∀ x ∈ places n f, 0 ≤ x ∧ x < n := by
  intro x hx
  unfold places at hx
  rw [List.mem_map] at hx
  obtain ⟨i, _, rfl⟩ := hx
  exact ⟨Int.emod_nonneg _ (by omega), Int.emod_lt_of_pos _ hn⟩

set_option maxRecDepth 100000 in
theorem Inside_list {w : World} {g b cap : Nat} {P : Pl} (h : PL w g b cap P) (f : Fld) (hs0 : 0 ≤ f.start) (hs1 : f.start < (P.cells.length : Int)) (L : List Int) (HL : Hid (places (P.cells.length : Int) f = L)) :
    Calls Try.prog 53 #[.pointer (some ⟨g, 0, none⟩), .agg #[.int .i64 f.start, .int .i64 f.len, .int .u8 f.attr]] w fun e w' => e = .returned (.int .i64 (L.length : Int)) ∧ PL w' g b cap (P.clr L) ∧ Chg (· = b) w w' := by
  have hn := Pl.N_pos h.ok
  have hm := Pl.N_le h.ok
  have hgl := h.gl
  have hbl := h.bl
  have hrg : ∀ x ∈ L, 0 ≤ x ∧ x < (P.cells.length : Int) := by rw [← HL.out]; exact places_range (by omega) f
  have hpn : (L.length : Int) ≤ 4096 := by rw [← HL.out, places_len]; unfold placesN; rw [if_pos ⟨hs0, hs1⟩]; omega
  have hstep := fun k hk => clr_take P L k hk
  have hsame := fun k => clr_same P (L.take k)
  have hful : P.clr (L.take L.length) = P.clr L := by rw [List.take_length]
  have SQ := Places_seq h.ok (w.heap.size + 1 + 1 + 1 + 1) (w.heap.size + 1 + 1 + 1) g b cap f hs0 hs1
  rw [HL.out] at SQ
  refine (callsIn_wide (n := 0)).1 ?_
  refine callsIn_of_wp_marks Try.func53 rfl trivial ?_ rfl
  simp only [Try.ntmps53, List.size_toArray, List.length_cons, List.length_nil, Nat.reduceAdd, Nat.reduceSub, Array.replicate_succ, Array.replicate_zero, List.push_toArray, List.append_toArray, List.nil_append, List.cons_append]
  gi_wp2_with fail
  refine ⟨trivial, rfl, CallsIn.mono (callsIn_wide.2 (Places_any _ _ _)) ?_⟩
  rintro e w1 ⟨rfl, rfl⟩
  gi_wp2
  obtain ⟨W0, hW0⟩ : ∃ W0, (((((w.alloc (.cells #[.pointer (some ⟨g, 0, none⟩)] 52)).alloc (.cells #[.int .i64 f.start, .int .i64 f.len, .int .u8 f.attr] 89)).alloc (.cells #[.int .i64 0] 3)).alloc (.cells #[.pointer (some ⟨g, 0, none⟩)] 52)).alloc (.cells #[.int .i64 f.start, .int .i64 f.len, .int .u8 f.attr] 89)) = W0 := ⟨_, rfl⟩
  have hB0 : Below w.heap.size w W0 := by rw [← hW0]; with_reducible (repeat (first | exact Below.refl _ _ | assumption | (refine Below.setCell ?_ (by first | omega | (simp; done) | (simp; omega)) _) | (refine Below.alloc ?_ (by first | omega | (simp; done) | (simp; omega)) _) | (refine below_drewN ?_ _) | (refine Below.drew ?_) | (refine Below.trans ?_ (Below.mono hb (by first | omega | (simp; done) | (simp; omega)))) | (refine Below.trans ?_ (Below.mono hb1 (by first | omega | (simp; done) | (simp; omega)))) | (refine Below.trans ?_ (Below.mono hb2 (by first | omega | (simp; done) | (simp; omega)))) | (refine Below.trans ?_ (Below.mono hb3 (by first | omega | (simp; done) | (simp; omega)))) | (refine Below.trans ?_ (Below.mono hb4 (by first | omega | (simp; done) | (simp; omega)))) | (refine Below.trans ?_ (Below.mono hb5 (by first | omega | (simp; done) | (simp; omega)))) | (refine Below.trans ?_ (Below.mono hb6 (by first | omega | (simp; done) | (simp; omega)))) | (refine Below.trans ?_ (Below.mono hb7 (by first | omega | (simp; done) | (simp; omega)))) | (refine Below.trans ?_ (Below.mono hb8 (by first | omega | (simp; done) | (simp; omega)))) | (refine Below.trans ?_ (Below.mono hb9 (by first | omega | (simp; done) | (simp; omega)))) | (refine Below.trans ?_ (Below.mono hb10 (by first | omega | (simp; done) | (simp; omega)))) | (refine Below.trans ?_ (Below.mono hb11 (by first | omega | (simp; done) | (simp; omega)))) | (refine Below.trans ?_ (Below.mono hb12 (by first | omega | (simp; done) | (simp; omega))))))
  have hz0 : W0.heap.size = w.heap.size + 5 := by rw [← hW0]; simp
  have hI0 : InI w g b cap f (P.clr (L.take 0)) 0 W0 := by
    refine ⟨h.below hB0, ?_, ?_, ?_, ?_, ?_, ?_, Chg.of_below hB0, by omega⟩
    all_goals (rw [← hW0]; simp [go_sem])
  rw [hW0]
  refine wpIn_rangeL (gf := 165) (lb := #[.pointer (some ⟨w.heap.size + 1 + 1 + 1 + 1, 0, none⟩), .pointer (some ⟨w.heap.size + 1 + 1 + 1, 0, none⟩)]) rfl (enters_of Try.func165 (by kernel_rfl) rfl)
    SQ (fun v hv => by obtain ⟨x, _, rfl⟩ := List.mem_map.1 hv; rfl)
    (fun k W => InI w g b cap f (P.clr (L.take k)) (k : Int) W)
    (fun c k W => False)
    (fun k a W => ∃ (hk : k < L.length), InI w g b cap f (P.clr (L.take k)) (k : Int) W ∧
      a = ⟨#[Value.pointer (some { block := g, off := 0 }), .agg #[.int .i64 f.start, .int .i64 f.len, .int .u8 f.attr], Value.pointer (some { block := w.heap.size, off := 0 }),
          Value.pointer (some { block := w.heap.size + 1, off := 0 }), Value.int IntKind.i64 0,
          Value.pointer (some { block := w.heap.size + 1 + 1, off := 0 }), .int .i64 L[k],
          Value.pointer (some { block := g, off := 0 }), .agg #[.int .i64 f.start, .int .i64 f.len, .int .u8 f.attr],
          Value.func (Fn.func 165) #[] #[Value.pointer (some { block := w.heap.size + 1 + 1 + 1 + 1, off := 0 }), Value.pointer (some { block := w.heap.size + 1 + 1 + 1, off := 0 })],
          .int .i64 L[k], undef, undef, undef, undef, undef, undef, undef], []⟩)
    (fun k W hi => ⟨hi.q0, hi.q1, hi.p0, _, hi.pl, (hsame k).1, (hsame k).2.1, (hsame k).2.2.1⟩)
    (fun k W W' hi ha => hi.aux (hz0 ▸ ha))
    (fun c k W W' hi ha => hi)
    (fun k a W W' ⟨hk, hi, e⟩ ha => ⟨hk, hi.aux (hz0 ▸ ha), e⟩)
    hI0 ?assign ?body ?done ?stop
  case assign =>
    rintro l k W hk hi
    have hk' : k < L.length := by simpa using hk
    simp only [List.getElem_map]
    gi_wp2
    exact ⟨⟨hk', hi, by first | rfl | trivial⟩, keepsFrom_of_below (Below.refl _ _)⟩
  case body =>
    rintro l k a1 W hk ⟨hk', hi, rfl⟩
    have hx := hrg L[k] (List.getElem_mem hk')
    have hst := hstep k hk'
    have c0 := hi.c0
    have cn := hi.cn
    have fn := hi.fn
    have hsz := hi.sz
    obtain ⟨x, hxe⟩ : ∃ x, L[k] = x := ⟨_, rfl⟩
    rw [hxe] at hx hst ⊢
    have HST := Lib.hid hst
    clear hst hxe
    gi_wp2_with fail
    refine ⟨trivial, rfl, CallsIn.mono (CallsIn.inRound _ (callsIn_wide.2 (Set_in hi.pl x Cell.zero hx.1 (by rw [(hsame k).2.2.1]; exact hx.2) Cell.zero_ok))) ?_⟩
    rintro e W1 ⟨rfl, hP1, hk1⟩
    have cn1 := cell_keepC cn hk1 (by show ¬ w.heap.size + 2 = b; omega)
    have fn1 := frozen_keepC cn fn hk1 (by show ¬ w.heap.size + 2 = b; omega)
    have hz1 := hk1.size
    gi_wp2
    refine ⟨(keepsFrom_of_chg hk1 (fun k e => .inl (by subst e; omega))).trans (keepsFrom_of_chg (chg_set _ _ _ _) (fun k e => .inl (by subst e; omega))), ?_⟩
    have := hi.step hbl hgl hP1 hk1 ((k : Int) + 1)
    rw [← HST.out] at this
    exact this
  case done =>
    rintro D W hD hi hK
    have cn := hi.cn
    have hsz := hi.sz
    gi_wp2
    refine ⟨by simp, .inl ⟨_, _, rfl, run_takeDeferred hK, ?_⟩⟩
    have hi2 := hi.aux (Aux.put (.deferred none) (by omega) hK rfl)
    rw [List.length_map, hful] at hi2
    refine ⟨.int .i64 (L.length : Int), ?_, rfl, hi2.pl, hi2.chg⟩
    simp [results, Try.f53, go_sem]
  case stop =>
    rintro D c k W hD hk h
    exact h.elim
end Go.Proofs.Ytbkddgeocmkegaa
