/- Lemmas on the way to this seat's statements; they bear no condition of their own. -/
import Derived.Test.YtbkddgeocmkegaaG10
namespace Go.Proofs.Ytbkddgeocmkegaa
open Go.RowKit Go.Shelf
set_option linter.unusedSimpArgs false
set_option linter.unusedVariables false
set_option maxHeartbeats 2000000
attribute [local go_sem ↓] run_start run_byte run_cols
attribute [local go_sem] Oper.semAt_some

theorem PL.aux {B : Nat} {W W' : World} {g b cap : Nat} {P : Pl} (h : PL W g b cap P) (ha : Aux B W W') : PL W' g b cap P :=
  ⟨ha.cells h.hg, let ⟨r, h'⟩ := h.hb; ⟨r, ha.cells h'⟩, h.ne, h.ok⟩

theorem All_any (g : Nat) (w : World) :
    Calls Try.prog 116 #[.pointer (some ⟨g, 0, none⟩)] w fun e w' => e = .returned (.func (.func 167) #[] #[.pointer (some ⟨w.heap.size, 0, none⟩)]) ∧ w.alloc (.cells #[.pointer (some ⟨g, 0, none⟩)] 52) = w' := by
  go_enter Try.func116, Try.ntmps116
  go_wp2
  go_ret
  exact ⟨rfl, rfl⟩

/-- The first place at which something may be typed. -/
def Pl.homeF (f : Fld) : Bool := decide (0 < f.len) && !prot f.attr
def Pl.home (P : Pl) : Int := match P.flds.find? Pl.homeF with | some f => (f.start + 1) % (P.cells.length : Int) | none => 0


theorem Fld.cases {P : Pl} (hok : P.ok) {i : Nat} (hi : i < P.cells.length) : 0 ≤ (P.fld (i : Int)).start ∧ (P.fld (i : Int)).start < (P.cells.length : Int) := ⟨by show (0 : Int) ≤ i; omega, by show (i : Int) < _; omega⟩
theorem flds_get {P : Pl} {k : Nat} (hk : k < P.flds.length) : ∃ i : Nat, i < P.cells.length ∧ P.isSt i = true ∧ P.flds[k] = P.fld (i : Int) ∧ P.starts[k]? = some i := by
  unfold Pl.flds at hk ⊢
  rw [List.length_map] at hk
  have hm := P.starts_mem (List.getElem_mem hk)
  exact ⟨P.starts[k], hm.1, hm.2, by rw [List.getElem_map], List.getElem?_eq_getElem hk⟩
theorem fvals_get {fs : List Fld} {k : Nat} (hk : k < (fvals fs).length) : (fvals fs)[k] = #[.agg #[.int .i64 ((fs[k]'(by rw [fvals_len] at hk; exact hk))).start, .int .i64 ((fs[k]'(by rw [fvals_len] at hk; exact hk))).len, .int .u8 ((fs[k]'(by rw [fvals_len] at hk; exact hk))).attr]] := by simp [fvals]
theorem find_none {α : Type} {l : List α} {p : α → Bool} (h : ∀ (j : Nat) (hj : j < l.length), p l[j] = false) : l.find? p = none := by
  rw [List.find?_eq_none]
  intro x hx
  obtain ⟨j, hj, rfl⟩ := List.getElem_of_mem hx
  simp [h j hj]
theorem find_some {α : Type} {l : List α} {p : α → Bool} {k : Nat} (hk : k < l.length) (hp : p l[k] = true) (h : ∀ (j : Nat) (hj : j < l.length), j < k → p l[j] = false) : l.find? p = some l[k] := by
  rw [List.find?_eq_some_iff_getElem]
  exact ⟨hp, k, hk, rfl, fun j hj => by simp [h j (by omega) hj]⟩

structure HomeI (w : World) (g b cap : Nat) (P : Pl) (v : Value) (W : World) : Prop where
  pl : PL W g b cap P
  c0 : W.cell? ⟨w.heap.size, 0, none⟩ = some (.pointer (some ⟨g, 0, none⟩))
  c1 : W.cell? ⟨w.heap.size + 1, 0, none⟩ = some v
  f1 : W.frozen? ⟨w.heap.size + 1, 0, none⟩ = false
  c2 : W.cell? ⟨w.heap.size + 2, 0, none⟩ = some (.pointer (some ⟨g, 0, none⟩))
  bel : Below w.heap.size w W
  sz : w.heap.size + 3 ≤ W.heap.size
theorem HomeI.aux {w W W' : World} {g b cap : Nat} {P : Pl} {v : Value} (h : HomeI w g b cap P v W) (ha : Aux (w.heap.size + 3) W W') : HomeI w g b cap P v W' :=
  ⟨h.pl.aux ha, ha.cell h.c0, ha.cell h.c1, (ha.frozen h.c1).trans h.f1, ha.cell h.c2, ha.below h.bel (by omega) (Nat.le_refl _), Nat.le_trans h.sz ha.size⟩

theorem HomeI.store {w W : World} {g b cap : Nat} {P : Pl} {v : Value} (h : HomeI w g b cap P v W) (hg : g < w.heap.size) (hb : b < w.heap.size) (u : Value) : HomeI w g b cap P u (W.setCell ⟨w.heap.size + 1, 0, none⟩ u) :=
  have hk : Chg (· = w.heap.size + 1) W (W.setCell ⟨w.heap.size + 1, 0, none⟩ u) := Chg.setCell (S := (· = w.heap.size + 1)) (Chg.refl _ _) (.inl rfl) _
  ⟨h.pl.chg hk (by omega) (by omega), cell_keepC h.c0 hk (by show ¬ (w.heap.size = w.heap.size + 1); omega), by simp [World.cell?_setCell_same' _ _ _ (by rw [h.c1]; rfl)], by rw [World.frozen?_setCell]; exact h.f1,
   cell_keepC h.c2 hk (by show ¬ (w.heap.size + 2 = w.heap.size + 1); omega), h.bel.setCell (by simp) _, by simpa using h.sz⟩
theorem HomeI.drew {w W : World} {g b cap : Nat} {P : Pl} {v : Value} (h : HomeI w g b cap P v W) : HomeI w g b cap P v W.drew := ⟨h.pl.drew, h.c0, h.c1, h.f1, h.c2, h.bel.drew, h.sz⟩

theorem chg_set (w : World) (k o : Nat) (v : Value) : Chg (· = k) w (w.setCell ⟨k, o, none⟩ v) := Chg.setCell (S := (· = k)) (Chg.refl _ _) (.inl rfl) _

/-- A new block of three cells that a round lays for the loop's variable. -/
structure FBox (Bf : Nat) (f : Fld) (W : World) : Prop where
  c0 : W.cell? ⟨Bf, 0, none⟩ = some (.int .i64 f.start)
  c1 : W.cell? ⟨Bf, 1, none⟩ = some (.int .i64 f.len)
  c2 : W.cell? ⟨Bf, 2, none⟩ = some (.int .u8 f.attr)
theorem FBox.aux {B Bf : Nat} {f : Fld} {W W' : World} (h : FBox Bf f W) (ha : Aux B W W') : FBox Bf f W' := ⟨ha.cell h.c0, ha.cell h.c1, ha.cell h.c2⟩
theorem keepsFrom_of_below {B : Nat} {W W' : World} (h : Below W.heap.size W W') : KeepsFrom B W W' :=
  ⟨h.size, fun k o _ hk _ => (h.block k (Array.getElem?_eq_some_iff.1 hk).1).trans hk⟩
theorem keepsFrom_of_chg {S : Nat → Prop} {B : Nat} {W W' : World} (h : Chg S W W') (hs : ∀ k, S k → k < B ∨ ∃ c T z, W.heap[k]? = some (.cells c T z)) : KeepsFrom B W W' :=
  ⟨h.size, fun k o hB hk ho => (h.block k (Array.getElem?_eq_some_iff.1 hk).1 (fun hS => by
    rcases hs k hS with h1 | ⟨c, T, z, h1⟩
    · omega
    · rw [h1] at hk; cases hk; cases ho)).trans hk⟩

set_option maxRecDepth 100000 in
theorem Home_any {w : World} {g b cap : Nat} {P : Pl} (h : PL w g b cap P) :
    Calls Try.prog 107 #[.pointer (some ⟨g, 0, none⟩)] w fun e w' => e = .returned (.int .i64 P.home) ∧ Below w.heap.size w w' := by
  refine (callsIn_wide (n := 0)).1 ?_
  refine callsIn_of_wp_marks Try.func107 rfl trivial ?_ rfl
  simp only [Try.ntmps107, List.size_toArray, List.length_cons, List.length_nil, Nat.reduceAdd, Nat.reduceSub, Array.replicate_succ, Array.replicate_zero, List.push_toArray, List.append_toArray, List.nil_append, List.cons_append]
  gi_wp2_with fail
  refine ⟨trivial, rfl, CallsIn.mono (callsIn_wide.2 (All_any _ _)) ?_⟩
  rintro e w1 ⟨rfl, rfl⟩
  gi_wp2
  obtain ⟨W0, hW0⟩ : ∃ W0, (((w.alloc (Obj.cells #[Value.pointer (some { block := g, off := 0 })] 52)).alloc (Obj.cells #[Value.int IntKind.i64 0] 3)).alloc (Obj.cells #[Value.pointer (some { block := g, off := 0 })] 52)) = W0 := ⟨_, rfl⟩
  have gl := h.gl
  have hB0 : Below w.heap.size w W0 := by rw [← hW0]; with_reducible (repeat (first | exact Below.refl _ _ | assumption | (refine Below.setCell ?_ (by first | omega | (simp; done) | (simp; omega)) _) | (refine Below.alloc ?_ (by first | omega | (simp; done) | (simp; omega)) _) | (refine below_drewN ?_ _) | (refine Below.drew ?_) | (refine Below.trans ?_ (Below.mono hb (by first | omega | (simp; done) | (simp; omega)))) | (refine Below.trans ?_ (Below.mono hb1 (by first | omega | (simp; done) | (simp; omega)))) | (refine Below.trans ?_ (Below.mono hb2 (by first | omega | (simp; done) | (simp; omega)))) | (refine Below.trans ?_ (Below.mono hb3 (by first | omega | (simp; done) | (simp; omega)))) | (refine Below.trans ?_ (Below.mono hb4 (by first | omega | (simp; done) | (simp; omega)))) | (refine Below.trans ?_ (Below.mono hb5 (by first | omega | (simp; done) | (simp; omega)))) | (refine Below.trans ?_ (Below.mono hb6 (by first | omega | (simp; done) | (simp; omega)))) | (refine Below.trans ?_ (Below.mono hb7 (by first | omega | (simp; done) | (simp; omega)))) | (refine Below.trans ?_ (Below.mono hb8 (by first | omega | (simp; done) | (simp; omega)))) | (refine Below.trans ?_ (Below.mono hb9 (by first | omega | (simp; done) | (simp; omega)))) | (refine Below.trans ?_ (Below.mono hb10 (by first | omega | (simp; done) | (simp; omega)))) | (refine Below.trans ?_ (Below.mono hb11 (by first | omega | (simp; done) | (simp; omega)))) | (refine Below.trans ?_ (Below.mono hb12 (by first | omega | (simp; done) | (simp; omega))))))
  have hz0 : W0.heap.size = w.heap.size + 3 := by rw [← hW0]; simp
  have hI0 : HomeI w g b cap P (.int .i64 0) W0 := by
    refine ⟨h.below hB0, ?_, ?_, ?_, ?_, hB0, by omega⟩
    all_goals (rw [← hW0]; simp [go_sem])
  rw [hW0]
  refine wpIn_rangeL (gf := 167) (lb := #[.pointer (some ⟨w.heap.size + 1 + 1, 0, none⟩)]) rfl (enters_of Try.func167 (by kernel_rfl) rfl)
    (All_seq h.ok (w.heap.size + 2) g b cap) (fun v hv => by obtain ⟨f, _, rfl⟩ := List.mem_map.1 hv; rfl)
    (fun k W => HomeI w g b cap P (.int .i64 0) W ∧ ∀ (j : Nat) (hj : j < P.flds.length), j < k → Pl.homeF P.flds[j] = false)
    (fun c k W => c = .ret ∧ HomeI w g b cap P (.int .i64 P.home) W)
    (fun k a W => ∃ (Bf : Nat) (hk : k < P.flds.length), FBox Bf P.flds[k] W ∧ HomeI w g b cap P (.int .i64 0) W ∧ (∀ (j : Nat) (hj : j < P.flds.length), j < k → Pl.homeF P.flds[j] = false) ∧
      a = ⟨#[Value.pointer (some { block := g, off := 0 }), Value.pointer (some { block := w.heap.size, off := 0 }),
          Value.pointer (some { block := w.heap.size + 1, off := 0 }), .pointer (some ⟨Bf, 0, none⟩),
          Value.pointer (some { block := g, off := 0 }),
          Value.func (Fn.func 167) #[] #[Value.pointer (some { block := w.heap.size + 1 + 1, off := 0 })], .agg #[.int .i64 ((P.flds[k])).start, .int .i64 ((P.flds[k])).len, .int .u8 ((P.flds[k])).attr], undef,
          undef, undef, undef, undef, undef, undef, undef, undef, undef, undef, undef, undef, undef], []⟩)
    (fun k W hi => ⟨hi.1.c2, P, hi.1.pl, SameSt.refl P, fun _ _ _ _ => rfl⟩)
    (fun k W W' hi ha => ⟨hi.1.aux (hz0 ▸ ha), hi.2⟩)
    (fun c k W W' hi ha => ⟨hi.1, hi.2.aux (hz0 ▸ ha)⟩)
    (fun k a W W' ⟨Bf, hk, hf, hi, hj, e⟩ ha => ⟨Bf, hk, hf.aux ha, hi.aux (hz0 ▸ ha), hj, e⟩)
    ⟨hI0, fun j hj hj0 => absurd hj0 (Nat.not_lt_zero _)⟩ ?assign ?body ?done ?stop
  case assign =>
    rintro l k W hk ⟨hi, hj⟩
    have hk' : k < P.flds.length := by rw [fvals_len] at hk; exact hk
    rw [fvals_get hk]
    gi_wp2
    refine ⟨⟨W.heap.size, hk', ⟨?_, ?_, ?_⟩, hi.aux (Aux.of_below (by with_reducible (repeat (first | exact Below.refl _ _ | assumption | (refine Below.setCell ?_ (by first | omega | (simp; done) | (simp; omega)) _) | (refine Below.alloc ?_ (by first | omega | (simp; done) | (simp; omega)) _) | (refine below_drewN ?_ _) | (refine Below.drew ?_) | (refine Below.trans ?_ (Below.mono hb (by first | omega | (simp; done) | (simp; omega)))) | (refine Below.trans ?_ (Below.mono hb1 (by first | omega | (simp; done) | (simp; omega)))) | (refine Below.trans ?_ (Below.mono hb2 (by first | omega | (simp; done) | (simp; omega)))) | (refine Below.trans ?_ (Below.mono hb3 (by first | omega | (simp; done) | (simp; omega)))) | (refine Below.trans ?_ (Below.mono hb4 (by first | omega | (simp; done) | (simp; omega)))) | (refine Below.trans ?_ (Below.mono hb5 (by first | omega | (simp; done) | (simp; omega)))) | (refine Below.trans ?_ (Below.mono hb6 (by first | omega | (simp; done) | (simp; omega)))) | (refine Below.trans ?_ (Below.mono hb7 (by first | omega | (simp; done) | (simp; omega)))) | (refine Below.trans ?_ (Below.mono hb8 (by first | omega | (simp; done) | (simp; omega)))) | (refine Below.trans ?_ (Below.mono hb9 (by first | omega | (simp; done) | (simp; omega)))) | (refine Below.trans ?_ (Below.mono hb10 (by first | omega | (simp; done) | (simp; omega)))) | (refine Below.trans ?_ (Below.mono hb11 (by first | omega | (simp; done) | (simp; omega)))) | (refine Below.trans ?_ (Below.mono hb12 (by first | omega | (simp; done) | (simp; omega)))))))), hj, rfl⟩, keepsFrom_of_below (by with_reducible (repeat (first | exact Below.refl _ _ | assumption | (refine Below.setCell ?_ (by first | omega | (simp; done) | (simp; omega)) _) | (refine Below.alloc ?_ (by first | omega | (simp; done) | (simp; omega)) _) | (refine below_drewN ?_ _) | (refine Below.drew ?_) | (refine Below.trans ?_ (Below.mono hb (by first | omega | (simp; done) | (simp; omega)))) | (refine Below.trans ?_ (Below.mono hb1 (by first | omega | (simp; done) | (simp; omega)))) | (refine Below.trans ?_ (Below.mono hb2 (by first | omega | (simp; done) | (simp; omega)))) | (refine Below.trans ?_ (Below.mono hb3 (by first | omega | (simp; done) | (simp; omega)))) | (refine Below.trans ?_ (Below.mono hb4 (by first | omega | (simp; done) | (simp; omega)))) | (refine Below.trans ?_ (Below.mono hb5 (by first | omega | (simp; done) | (simp; omega)))) | (refine Below.trans ?_ (Below.mono hb6 (by first | omega | (simp; done) | (simp; omega)))) | (refine Below.trans ?_ (Below.mono hb7 (by first | omega | (simp; done) | (simp; omega)))) | (refine Below.trans ?_ (Below.mono hb8 (by first | omega | (simp; done) | (simp; omega)))) | (refine Below.trans ?_ (Below.mono hb9 (by first | omega | (simp; done) | (simp; omega)))) | (refine Below.trans ?_ (Below.mono hb10 (by first | omega | (simp; done) | (simp; omega)))) | (refine Below.trans ?_ (Below.mono hb11 (by first | omega | (simp; done) | (simp; omega)))) | (refine Below.trans ?_ (Below.mono hb12 (by first | omega | (simp; done) | (simp; omega)))))))⟩
    all_goals simp [go_sem]
  case body =>
    rintro l k a1 W hk ⟨Bf, hk', hf, hi, hj, rfl⟩
    obtain ⟨c0, c1, c2⟩ := hf
    have p0 := hi.c0
    have r0 := hi.c1
    have r1 := hi.f1
    have hsz := hi.sz
    obtain ⟨i, hin, his, hie, _⟩ := flds_get hk'
    have ha : 0 ≤ P.flds[k].attr ∧ P.flds[k].attr ≤ 255 := by rw [hie]; exact low6_ok _
    clear hie hin his
    have HJ := Lib.hid hj
    clear hj
    generalize hfk : P.flds[k] = f at *
    have HK := Lib.hid hfk
    clear hfk
    by_cases hl : 0 < f.len
    · cases hp : prot f.attr
      · have hF : Pl.homeF f = true := by unfold Pl.homeF; rw [hp]; simp [hl]
        have hH := Lib.hid (show P.home = (f.start + 1) % (P.cells.length : Int) by
          unfold Pl.home
          rw [find_some hk' (by rw [HK.out]; exact hF) HJ.out, HK.out])
        clear hF
        gi_wp2_with fail
        refine ⟨trivial, rfl, CallsIn.mono (CallsIn.inRound _ (callsIn_wide.2 (Protected_any _ _ ha))) ?_⟩
        rintro e w1 ⟨rfl, hb1⟩
        have hz1 := hb1.size
        try simp only [World.size_alloc, World.size_drew, World.size_setCell] at hz1
        obtain ⟨hc1, hf1⟩ := bcell hb1
        have hi1 := hi.aux (Aux.of_below hb1)
        have p1 := hi1.c0
        have r2 := hi1.c1
        have r3 := hi1.f1
        have hsz1 := hi1.sz
        have d0 := (FBox.aux (B := 0) ⟨c0, c1, c2⟩ (Aux.of_below hb1)).c0
        clear hc1 hf1 c0 c1 c2 p0 r0 r1
        gi_wp2_with fail
        gi_region_with (first
          | (refine ⟨trivial, rfl, ?_⟩; gi_at_call 101; refine CallsIn.mono (CallsIn.inRound _ (callsIn_wide.2 (Size_any (hi1.pl.below (by with_reducible (repeat (first | exact Below.refl _ _ | assumption | (refine Below.setCell ?_ (by first | omega | (simp; done) | (simp; omega)) _) | (refine Below.alloc ?_ (by first | omega | (simp; done) | (simp; omega)) _) | (refine below_drewN ?_ _) | (refine Below.drew ?_) | (refine Below.trans ?_ (Below.mono hb (by first | omega | (simp; done) | (simp; omega)))) | (refine Below.trans ?_ (Below.mono hb1 (by first | omega | (simp; done) | (simp; omega)))) | (refine Below.trans ?_ (Below.mono hb2 (by first | omega | (simp; done) | (simp; omega)))) | (refine Below.trans ?_ (Below.mono hb3 (by first | omega | (simp; done) | (simp; omega)))) | (refine Below.trans ?_ (Below.mono hb4 (by first | omega | (simp; done) | (simp; omega)))) | (refine Below.trans ?_ (Below.mono hb5 (by first | omega | (simp; done) | (simp; omega)))) | (refine Below.trans ?_ (Below.mono hb6 (by first | omega | (simp; done) | (simp; omega)))) | (refine Below.trans ?_ (Below.mono hb7 (by first | omega | (simp; done) | (simp; omega)))) | (refine Below.trans ?_ (Below.mono hb8 (by first | omega | (simp; done) | (simp; omega)))) | (refine Below.trans ?_ (Below.mono hb9 (by first | omega | (simp; done) | (simp; omega)))) | (refine Below.trans ?_ (Below.mono hb10 (by first | omega | (simp; done) | (simp; omega)))) | (refine Below.trans ?_ (Below.mono hb11 (by first | omega | (simp; done) | (simp; omega)))) | (refine Below.trans ?_ (Below.mono hb12 (by first | omega | (simp; done) | (simp; omega))))))))))) ?_; rintro e w2 ⟨rfl, hb2⟩; have hB2 : Below w1.heap.size w1 w2 := (by with_reducible (repeat (first | exact Below.refl _ _ | assumption | (refine Below.setCell ?_ (by first | omega | (simp; done) | (simp; omega)) _) | (refine Below.alloc ?_ (by first | omega | (simp; done) | (simp; omega)) _) | (refine below_drewN ?_ _) | (refine Below.drew ?_) | (refine Below.trans ?_ (Below.mono hb (by first | omega | (simp; done) | (simp; omega)))) | (refine Below.trans ?_ (Below.mono hb1 (by first | omega | (simp; done) | (simp; omega)))) | (refine Below.trans ?_ (Below.mono hb2 (by first | omega | (simp; done) | (simp; omega)))) | (refine Below.trans ?_ (Below.mono hb3 (by first | omega | (simp; done) | (simp; omega)))) | (refine Below.trans ?_ (Below.mono hb4 (by first | omega | (simp; done) | (simp; omega)))) | (refine Below.trans ?_ (Below.mono hb5 (by first | omega | (simp; done) | (simp; omega)))) | (refine Below.trans ?_ (Below.mono hb6 (by first | omega | (simp; done) | (simp; omega)))) | (refine Below.trans ?_ (Below.mono hb7 (by first | omega | (simp; done) | (simp; omega)))) | (refine Below.trans ?_ (Below.mono hb8 (by first | omega | (simp; done) | (simp; omega)))) | (refine Below.trans ?_ (Below.mono hb9 (by first | omega | (simp; done) | (simp; omega)))) | (refine Below.trans ?_ (Below.mono hb10 (by first | omega | (simp; done) | (simp; omega)))) | (refine Below.trans ?_ (Below.mono hb11 (by first | omega | (simp; done) | (simp; omega)))) | (refine Below.trans ?_ (Below.mono hb12 (by first | omega | (simp; done) | (simp; omega))))))); have hz2 := hB2.size; have d2 := cell_keep d0 hB2)
          | (refine ⟨trivial, rfl, ?_⟩; gi_at_call 161; refine CallsIn.mono (CallsIn.inRound _ (callsIn_wide.2 (Move_P h.ok _ _ _))) ?_; rintro e w3 ⟨rfl, hb3⟩; have hB3 : Below w1.heap.size w1 w3 := (by with_reducible (repeat (first | exact Below.refl _ _ | assumption | (refine Below.setCell ?_ (by first | omega | (simp; done) | (simp; omega)) _) | (refine Below.alloc ?_ (by first | omega | (simp; done) | (simp; omega)) _) | (refine below_drewN ?_ _) | (refine Below.drew ?_) | (refine Below.trans ?_ (Below.mono hb (by first | omega | (simp; done) | (simp; omega)))) | (refine Below.trans ?_ (Below.mono hb1 (by first | omega | (simp; done) | (simp; omega)))) | (refine Below.trans ?_ (Below.mono hb2 (by first | omega | (simp; done) | (simp; omega)))) | (refine Below.trans ?_ (Below.mono hb3 (by first | omega | (simp; done) | (simp; omega)))) | (refine Below.trans ?_ (Below.mono hb4 (by first | omega | (simp; done) | (simp; omega)))) | (refine Below.trans ?_ (Below.mono hb5 (by first | omega | (simp; done) | (simp; omega)))) | (refine Below.trans ?_ (Below.mono hb6 (by first | omega | (simp; done) | (simp; omega)))) | (refine Below.trans ?_ (Below.mono hb7 (by first | omega | (simp; done) | (simp; omega)))) | (refine Below.trans ?_ (Below.mono hb8 (by first | omega | (simp; done) | (simp; omega)))) | (refine Below.trans ?_ (Below.mono hb9 (by first | omega | (simp; done) | (simp; omega)))) | (refine Below.trans ?_ (Below.mono hb10 (by first | omega | (simp; done) | (simp; omega)))) | (refine Below.trans ?_ (Below.mono hb11 (by first | omega | (simp; done) | (simp; omega)))) | (refine Below.trans ?_ (Below.mono hb12 (by first | omega | (simp; done) | (simp; omega))))))); have hi3 := hi1.aux (Aux.of_below hB3); have r4 := hi3.c1; have r5 := hi3.f1))
        all_goals
          gi_wp2
          exact ⟨(keepsFrom_of_below (hb1.trans (hB3.mono hb1.size))).trans (keepsFrom_of_chg (chg_set _ _ _ _) (fun k e => .inl (by subst e; omega))), rfl, by rw [hH.out]; exact hi3.store h.gl h.bl _⟩
      · have hF : Pl.homeF f = false := by unfold Pl.homeF; rw [hp]; simp
        have HF := Lib.hid hF
        clear hF
        gi_wp2_with fail
        refine ⟨trivial, rfl, CallsIn.mono (CallsIn.inRound _ (callsIn_wide.2 (Protected_any _ _ ha))) ?_⟩
        rintro e w1 ⟨rfl, hb1⟩
        have hz1 := hb1.size
        try simp only [World.size_alloc, World.size_drew, World.size_setCell] at hz1
        obtain ⟨hc1, hf1⟩ := bcell hb1
        gi_wp2
        exact ⟨keepsFrom_of_below hb1, hi.aux (Aux.of_below hb1), fun j hj1 hj2 => by
          rcases Nat.lt_succ_iff_lt_or_eq.1 hj2 with h3 | rfl
          · exact HJ.out j hj1 h3
          · rw [HK.out]; exact HF.out⟩
    · have HF := Lib.hid (show Pl.homeF f = false by unfold Pl.homeF; simp; intro h; exact absurd h hl)
      gi_wp2
      refine ⟨trivial, ?_⟩
      gi_wp2
      exact ⟨keepsFrom_of_below (Below.refl _ _), hi, fun j hj1 hj2 => by
          rcases Nat.lt_succ_iff_lt_or_eq.1 hj2 with h3 | rfl
          · exact HJ.out j hj1 h3
          · rw [HK.out]; exact HF.out⟩
  case done =>
    rintro D W hD ⟨hi, hj⟩ hK
    have hH := Lib.hid (show P.home = 0 by unfold Pl.home; rw [find_none (fun j hj1 => hj j hj1 (by rw [fvals_len]; exact hj1))])
    have r0 := hi.c1
    have r1 := hi.f1
    have hsz := hi.sz
    gi_wp2
    have hK' := (KeepsOthers.setCell W ⟨w.heap.size + 1, 0, none⟩ (.int .i64 0)).same D _ hK rfl
    refine ⟨by simp, .inl ⟨_, _, rfl, run_takeDeferred hK', ?_⟩⟩
    have hi2 := (hi.store h.gl h.bl (.int .i64 0)).aux (Aux.put (.deferred none) (by omega) hK' rfl)
    have r2 := hi2.c1
    refine ⟨.int .i64 0, ?_, by rw [hH.out], hi2.bel⟩
    simp [results, Try.f107, go_sem, r2]
  case stop =>
    rintro D c k W hD hk ⟨rfl, hi⟩ hK
    gi_wp2
    refine ⟨by simp, .inl ⟨_, _, rfl, run_takeDeferred hK, ?_⟩⟩
    have hi2 := hi.aux (Aux.put (.deferred none) (by omega) hK rfl)
    have r2 := hi2.c1
    refine ⟨.int .i64 P.home, ?_, rfl, hi2.bel⟩
    simp [results, Try.f107, go_sem, r2]
end Go.Proofs.Ytbkddgeocmkegaa
