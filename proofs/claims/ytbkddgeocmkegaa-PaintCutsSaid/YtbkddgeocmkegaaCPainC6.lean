/- Lemmas on the way to this seat's statements; they bear no condition of their own. -/
import Derived.Test.YtbkddgeocmkegaaCPainC5
import Derived.Deep.RegionHeld3
import Derived.Deep.RegionLaw
namespace Go.Proofs.Ytbkddgeocmkegaa
open Go.RowKit Go.Shelf
set_option linter.unusedSimpArgs false
set_option linter.unusedVariables false
set_option maxHeartbeats 2000000
attribute [local go_sem ↓] run_start run_byte run_cols

theorem keep7C {S : Nat → Prop} {W w2 : World} {a b : Addr} {B : Nat} {v u : Value} {x0 x1 x2 x3 x4 : Value} (h : (W.cell? a = some v ∧ W.cell? b = some u) ∧ W.cell? ⟨B, 0, none⟩ = some x0 ∧ W.cell? ⟨B, 1, none⟩ = some x1 ∧ W.cell? ⟨B, 2, none⟩ = some x2 ∧ W.cell? ⟨B, 3, none⟩ = some x3 ∧ W.cell? ⟨B, 4, none⟩ = some x4) (hb : Chg S W w2) (ha : ¬ S a.block) (hbb : ¬ S b.block) (hB : ¬ S B) :
    (w2.cell? a = some v ∧ w2.cell? b = some u) ∧ w2.cell? ⟨B, 0, none⟩ = some x0 ∧ w2.cell? ⟨B, 1, none⟩ = some x1 ∧ w2.cell? ⟨B, 2, none⟩ = some x2 ∧ w2.cell? ⟨B, 3, none⟩ = some x3 ∧ w2.cell? ⟨B, 4, none⟩ = some x4 :=
  ⟨keep2C h.1 hb ha hbb, cell_keepC h.2.1 hb hB, cell_keepC h.2.2.1 hb hB, cell_keepC h.2.2.2.1 hb hB, cell_keepC h.2.2.2.2.1 hb hB, cell_keepC h.2.2.2.2.2 hb hB⟩
variable {w : World} {u g b cap : Nat} {s : Br}
theorem next_any (x : BrL w u g b cap s) :
    Calls Try.prog 218 #[.pointer (some ⟨u, 0, none⟩)] w fun e w' => e = .returned (.tuple #[]) ∧ BrL w' u g b cap { s with pos := (s.pos + 1) % s.n } ∧ Chg (· = u) w w' := by
  have c0 := x.c0
  have c1 := x.c1
  have fz := x.fz
  have hl := x.hl
  have hr := Pl.emod_range x.ok.p (s.pos + 1)
  go_enter Try.func218, Try.ntmps218
  go_wp2
  go_region_law (first
      | (go_simp; go_at_call 101; refine (Size_any (x.pl.below (by with_reducible (repeat (first | exact Below.refl _ _ | assumption | (refine Below.setCell ?_ (by first | omega | (simp; done) | (simp; omega)) _) | (refine Below.alloc ?_ (by first | omega | (simp; done) | (simp; omega)) _) | (refine below_drewN ?_ _) | (refine Below.drew ?_) | (refine Below.trans ?_ (Below.mono hb (by first | omega | (simp; done) | (simp; omega)))) | (refine Below.trans ?_ (Below.mono hb1 (by first | omega | (simp; done) | (simp; omega)))) | (refine Below.trans ?_ (Below.mono hb2 (by first | omega | (simp; done) | (simp; omega)))) | (refine Below.trans ?_ (Below.mono hb3 (by first | omega | (simp; done) | (simp; omega)))) | (refine Below.trans ?_ (Below.mono hb4 (by first | omega | (simp; done) | (simp; omega)))) | (refine Below.trans ?_ (Below.mono hb5 (by first | omega | (simp; done) | (simp; omega)))) | (refine Below.trans ?_ (Below.mono hb6 (by first | omega | (simp; done) | (simp; omega)))) | (refine Below.trans ?_ (Below.mono hb7 (by first | omega | (simp; done) | (simp; omega)))) | (refine Below.trans ?_ (Below.mono hb8 (by first | omega | (simp; done) | (simp; omega)))) | (refine Below.trans ?_ (Below.mono hb9 (by first | omega | (simp; done) | (simp; omega)))) | (refine Below.trans ?_ (Below.mono hb10 (by first | omega | (simp; done) | (simp; omega)))) | (refine Below.trans ?_ (Below.mono hb11 (by first | omega | (simp; done) | (simp; omega)))) | (refine Below.trans ?_ (Below.mono hb12 (by first | omega | (simp; done) | (simp; omega))))))))).mono ?_; rintro e w1 ⟨rfl, hb1⟩; obtain ⟨hc1, hf1⟩ := bcell hb1; have hB1 : Below w.heap.size w w1 := (by with_reducible (repeat (first | exact Below.refl _ _ | assumption | (refine Below.setCell ?_ (by first | omega | (simp; done) | (simp; omega)) _) | (refine Below.alloc ?_ (by first | omega | (simp; done) | (simp; omega)) _) | (refine below_drewN ?_ _) | (refine Below.drew ?_) | (refine Below.trans ?_ (Below.mono hb (by first | omega | (simp; done) | (simp; omega)))) | (refine Below.trans ?_ (Below.mono hb1 (by first | omega | (simp; done) | (simp; omega)))) | (refine Below.trans ?_ (Below.mono hb2 (by first | omega | (simp; done) | (simp; omega)))) | (refine Below.trans ?_ (Below.mono hb3 (by first | omega | (simp; done) | (simp; omega)))) | (refine Below.trans ?_ (Below.mono hb4 (by first | omega | (simp; done) | (simp; omega)))) | (refine Below.trans ?_ (Below.mono hb5 (by first | omega | (simp; done) | (simp; omega)))) | (refine Below.trans ?_ (Below.mono hb6 (by first | omega | (simp; done) | (simp; omega)))) | (refine Below.trans ?_ (Below.mono hb7 (by first | omega | (simp; done) | (simp; omega)))) | (refine Below.trans ?_ (Below.mono hb8 (by first | omega | (simp; done) | (simp; omega)))) | (refine Below.trans ?_ (Below.mono hb9 (by first | omega | (simp; done) | (simp; omega)))) | (refine Below.trans ?_ (Below.mono hb10 (by first | omega | (simp; done) | (simp; omega)))) | (refine Below.trans ?_ (Below.mono hb11 (by first | omega | (simp; done) | (simp; omega)))) | (refine Below.trans ?_ (Below.mono hb12 (by first | omega | (simp; done) | (simp; omega))))))); have hz1 := hB1.size; have zc1 := cell_keep c1 hB1; have zc0 := cell_keep c0 hB1)
      | (go_simp; go_at_call 161; refine (Move_P x.ok.p _ _ _).mono ?_; rintro e w2 ⟨rfl, hb2⟩; obtain ⟨hc2, hf2⟩ := bcell hb2; have hB2 : Below w.heap.size w w2 := (by with_reducible (repeat (first | exact Below.refl _ _ | assumption | (refine Below.setCell ?_ (by first | omega | (simp; done) | (simp; omega)) _) | (refine Below.alloc ?_ (by first | omega | (simp; done) | (simp; omega)) _) | (refine below_drewN ?_ _) | (refine Below.drew ?_) | (refine Below.trans ?_ (Below.mono hb (by first | omega | (simp; done) | (simp; omega)))) | (refine Below.trans ?_ (Below.mono hb1 (by first | omega | (simp; done) | (simp; omega)))) | (refine Below.trans ?_ (Below.mono hb2 (by first | omega | (simp; done) | (simp; omega)))) | (refine Below.trans ?_ (Below.mono hb3 (by first | omega | (simp; done) | (simp; omega)))) | (refine Below.trans ?_ (Below.mono hb4 (by first | omega | (simp; done) | (simp; omega)))) | (refine Below.trans ?_ (Below.mono hb5 (by first | omega | (simp; done) | (simp; omega)))) | (refine Below.trans ?_ (Below.mono hb6 (by first | omega | (simp; done) | (simp; omega)))) | (refine Below.trans ?_ (Below.mono hb7 (by first | omega | (simp; done) | (simp; omega)))) | (refine Below.trans ?_ (Below.mono hb8 (by first | omega | (simp; done) | (simp; omega)))) | (refine Below.trans ?_ (Below.mono hb9 (by first | omega | (simp; done) | (simp; omega)))) | (refine Below.trans ?_ (Below.mono hb10 (by first | omega | (simp; done) | (simp; omega)))) | (refine Below.trans ?_ (Below.mono hb11 (by first | omega | (simp; done) | (simp; omega)))) | (refine Below.trans ?_ (Below.mono hb12 (by first | omega | (simp; done) | (simp; omega))))))); have hz2 := hB2.size; have zf2 := (hB2.frozen (p := ⟨u, 1, none⟩) hl).trans (fz 1); have yc1 := cell_keep c1 hB2; have yc0 := cell_keep c0 hB2))
  all_goals
    go_wp2
    go_end0
    exact ⟨rfl, (x.below hB2).move hr.1 hr.2, Chg.setCell (S := (· = u)) (Chg.of_below hB2) (.inl rfl) _⟩

theorem lay_any (x : BrL w u g b cap s) (c : Cell) (hc : c.ok) :
    Calls Try.prog 203 #[.pointer (some ⟨u, 0, none⟩), .agg #[.int .u8 c.byte, .bool c.ge, .bool c.start, .int .u8 c.light, .int .u8 c.color]] w fun e w' => e = .returned (.tuple #[]) ∧ BrL w' u g b cap (s.lay c) ∧ Chg (fun k => k = u ∨ k = b) w w' := by
  have c0 := x.c0
  have c1 := x.c1
  have hl := x.hl
  have n2 := x.n2
  have nb : ¬ w.heap.size = b := by have := x.pl.bl; omega
  obtain ⟨a0, a1⟩ := And.intro x.ok.a0 x.ok.a1
  go_enter Try.func203, Try.ntmps203
  go_wp2
  go_region_held3 (fun w' => (w'.cell? ⟨u, 0, none⟩ = some (.pointer (some ⟨g, 0, none⟩)) ∧ w'.cell? ⟨u, 1, none⟩ = some (.int .i64 s.pos)) ∧ w'.cell? ⟨w.heap.size, 0, none⟩ = some (.int .u8 c.byte) ∧ w'.cell? ⟨w.heap.size, 1, none⟩ = some (.bool c.ge) ∧ w'.cell? ⟨w.heap.size, 2, none⟩ = some (.bool c.start) ∧ w'.cell? ⟨w.heap.size, 3, none⟩ = some (.int .u8 c.light) ∧ w'.cell? ⟨w.heap.size, 4, none⟩ = some (.int .u8 c.color)) (first | exact keep7C (by assumption) hk1 n2 n2 nb | go_keep)
    (first
      | (go_at_call 92; refine (Set_in (x.pl.below (by with_reducible (repeat (first | exact Below.refl _ _ | assumption | (refine Below.setCell ?_ (by first | omega | (simp; done) | (simp; omega)) _) | (refine Below.alloc ?_ (by first | omega | (simp; done) | (simp; omega)) _) | (refine below_drewN ?_ _) | (refine Below.drew ?_) | (refine Below.trans ?_ (Below.mono hb (by first | omega | (simp; done) | (simp; omega)))) | (refine Below.trans ?_ (Below.mono hb1 (by first | omega | (simp; done) | (simp; omega)))) | (refine Below.trans ?_ (Below.mono hb2 (by first | omega | (simp; done) | (simp; omega)))) | (refine Below.trans ?_ (Below.mono hb3 (by first | omega | (simp; done) | (simp; omega)))) | (refine Below.trans ?_ (Below.mono hb4 (by first | omega | (simp; done) | (simp; omega)))) | (refine Below.trans ?_ (Below.mono hb5 (by first | omega | (simp; done) | (simp; omega)))) | (refine Below.trans ?_ (Below.mono hb6 (by first | omega | (simp; done) | (simp; omega)))) | (refine Below.trans ?_ (Below.mono hb7 (by first | omega | (simp; done) | (simp; omega)))) | (refine Below.trans ?_ (Below.mono hb8 (by first | omega | (simp; done) | (simp; omega)))) | (refine Below.trans ?_ (Below.mono hb9 (by first | omega | (simp; done) | (simp; omega)))) | (refine Below.trans ?_ (Below.mono hb10 (by first | omega | (simp; done) | (simp; omega)))) | (refine Below.trans ?_ (Below.mono hb11 (by first | omega | (simp; done) | (simp; omega)))) | (refine Below.trans ?_ (Below.mono hb12 (by first | omega | (simp; done) | (simp; omega)))))))) s.pos c a0 a1 hc).mono ?_; rintro e w1 ⟨rfl, hP1, hk1⟩; have hB1 : Chg (· = b) w w1 := (chg_bel (by with_reducible (repeat (first | exact Below.refl _ _ | assumption | (refine Below.setCell ?_ (by first | omega | (simp; done) | (simp; omega)) _) | (refine Below.alloc ?_ (by first | omega | (simp; done) | (simp; omega)) _) | (refine below_drewN ?_ _) | (refine Below.drew ?_) | (refine Below.trans ?_ (Below.mono hb (by first | omega | (simp; done) | (simp; omega)))) | (refine Below.trans ?_ (Below.mono hb1 (by first | omega | (simp; done) | (simp; omega)))) | (refine Below.trans ?_ (Below.mono hb2 (by first | omega | (simp; done) | (simp; omega)))) | (refine Below.trans ?_ (Below.mono hb3 (by first | omega | (simp; done) | (simp; omega)))) | (refine Below.trans ?_ (Below.mono hb4 (by first | omega | (simp; done) | (simp; omega)))) | (refine Below.trans ?_ (Below.mono hb5 (by first | omega | (simp; done) | (simp; omega)))) | (refine Below.trans ?_ (Below.mono hb6 (by first | omega | (simp; done) | (simp; omega)))) | (refine Below.trans ?_ (Below.mono hb7 (by first | omega | (simp; done) | (simp; omega)))) | (refine Below.trans ?_ (Below.mono hb8 (by first | omega | (simp; done) | (simp; omega)))) | (refine Below.trans ?_ (Below.mono hb9 (by first | omega | (simp; done) | (simp; omega)))) | (refine Below.trans ?_ (Below.mono hb10 (by first | omega | (simp; done) | (simp; omega)))) | (refine Below.trans ?_ (Below.mono hb11 (by first | omega | (simp; done) | (simp; omega)))) | (refine Below.trans ?_ (Below.mono hb12 (by first | omega | (simp; done) | (simp; omega))))))) hk1); have x1 := x.turn hB1 n2 hP1 (s.P.set_len _ _)))
  go_wp2_with fail
  refine (next_any x1).mono ?_
  rintro e w2 ⟨rfl, x2, hk2⟩
  go_wp2
  go_end0
  refine ⟨rfl, ?_, (hB1.mono (fun _ _ e => .inr e)).trans (hk2.mono (fun _ _ e => .inl e))⟩
  have : ({ ({ s with P := s.P.set s.pos c } : Br) with pos := (s.pos + 1) % ((s.P.set s.pos c).cells.length : Int) } : Br) = s.lay c := by unfold Br.lay; rw [s.P.set_len]
  rw [← this]
  exact x2

theorem char_any (x : BrL w u g b cap s) (n : Int) (ge : Bool) :
    Calls Try.prog 204 #[.pointer (some ⟨u, 0, none⟩), .int .u8 n, .bool ge] w fun e w' => e = .returned (.agg #[.int .u8 (s.char n ge).byte, .bool (s.char n ge).ge, .bool (s.char n ge).start, .int .u8 (s.char n ge).light, .int .u8 (s.char n ge).color]) ∧ Below w.heap.size w w' := by
  have c5 := x.c5
  have c6 := x.c6
  have hl := x.hl
  go_enter Try.func204, Try.ntmps204
  go_wp2
  go_region
  go_wp2
  exact bodyPost_ret (v := .agg #[.int .u8 (s.char n ge).byte, .bool (s.char n ge).ge, .bool (s.char n ge).start, .int .u8 (s.char n ge).light, .int .u8 (s.char n ge).color]) (by simp [results, Try.results204, go_sem, Br.char]) rfl ⟨rfl, by with_reducible (repeat (first | exact Below.refl _ _ | assumption | (refine Below.setCell ?_ (by first | omega | (simp; done) | (simp; omega)) _) | (refine Below.alloc ?_ (by first | omega | (simp; done) | (simp; omega)) _) | (refine below_drewN ?_ _) | (refine Below.drew ?_) | (refine Below.trans ?_ (Below.mono hb (by first | omega | (simp; done) | (simp; omega)))) | (refine Below.trans ?_ (Below.mono hb1 (by first | omega | (simp; done) | (simp; omega)))) | (refine Below.trans ?_ (Below.mono hb2 (by first | omega | (simp; done) | (simp; omega)))) | (refine Below.trans ?_ (Below.mono hb3 (by first | omega | (simp; done) | (simp; omega)))) | (refine Below.trans ?_ (Below.mono hb4 (by first | omega | (simp; done) | (simp; omega)))) | (refine Below.trans ?_ (Below.mono hb5 (by first | omega | (simp; done) | (simp; omega)))) | (refine Below.trans ?_ (Below.mono hb6 (by first | omega | (simp; done) | (simp; omega)))) | (refine Below.trans ?_ (Below.mono hb7 (by first | omega | (simp; done) | (simp; omega)))) | (refine Below.trans ?_ (Below.mono hb8 (by first | omega | (simp; done) | (simp; omega)))) | (refine Below.trans ?_ (Below.mono hb9 (by first | omega | (simp; done) | (simp; omega)))) | (refine Below.trans ?_ (Below.mono hb10 (by first | omega | (simp; done) | (simp; omega)))) | (refine Below.trans ?_ (Below.mono hb11 (by first | omega | (simp; done) | (simp; omega)))) | (refine Below.trans ?_ (Below.mono hb12 (by first | omega | (simp; done) | (simp; omega))))))⟩

theorem jump_any (x : BrL w u g b cap s) (o : Ord) (r : ORef) :
    Calls Try.prog 170 #[.pointer (some ⟨u, 0, none⟩), OVal o r] w fun e w' => e = .returned (.int .i64 (if s.there o.addr then 0 else 32)) ∧ BrL w' u g b cap (if s.there o.addr then { s with pos := o.addr } else s) ∧ Chg (· = u) w w' := by
  have c0 := x.c0
  have c1 := x.c1
  have fz := x.fz
  have hl := x.hl
  unfold OVal
  obtain ⟨oa, hoa⟩ : ∃ oa, o.addr = oa := ⟨_, rfl⟩
  rw [hoa]
  clear hoa
  by_cases ht : 0 ≤ oa ∧ oa < s.n
  · have e : s.there oa = true := decide_eq_true ht
    rw [e]
    obtain ⟨t0, t1⟩ : 0 ≤ oa ∧ oa < (s.P.cells.length : Int) := ht
    have hd1 : decide (oa < 0) = false := decide_eq_false (by omega)
    go_enter Try.func170, Try.ntmps170
    go_wp2
    go_region_held3 (fun w' => w'.cell? ⟨u, 0, none⟩ = some (.pointer (some ⟨g, 0, none⟩)) ∧ w'.cell? ⟨w.heap.size, 1, none⟩ = some (.int .i64 oa)) (first | exact keep2 (by assumption) hb1 | go_keep)
      (first | (go_at_call 25; refine (Len_any (x.pl.below (by with_reducible (repeat (first | exact Below.refl _ _ | assumption | (refine Below.setCell ?_ (by first | omega | (simp; done) | (simp; omega)) _) | (refine Below.alloc ?_ (by first | omega | (simp; done) | (simp; omega)) _) | (refine below_drewN ?_ _) | (refine Below.drew ?_) | (refine Below.trans ?_ (Below.mono hb (by first | omega | (simp; done) | (simp; omega)))) | (refine Below.trans ?_ (Below.mono hb1 (by first | omega | (simp; done) | (simp; omega)))) | (refine Below.trans ?_ (Below.mono hb2 (by first | omega | (simp; done) | (simp; omega)))) | (refine Below.trans ?_ (Below.mono hb3 (by first | omega | (simp; done) | (simp; omega)))) | (refine Below.trans ?_ (Below.mono hb4 (by first | omega | (simp; done) | (simp; omega)))) | (refine Below.trans ?_ (Below.mono hb5 (by first | omega | (simp; done) | (simp; omega)))) | (refine Below.trans ?_ (Below.mono hb6 (by first | omega | (simp; done) | (simp; omega)))) | (refine Below.trans ?_ (Below.mono hb7 (by first | omega | (simp; done) | (simp; omega)))) | (refine Below.trans ?_ (Below.mono hb8 (by first | omega | (simp; done) | (simp; omega)))) | (refine Below.trans ?_ (Below.mono hb9 (by first | omega | (simp; done) | (simp; omega)))) | (refine Below.trans ?_ (Below.mono hb10 (by first | omega | (simp; done) | (simp; omega)))) | (refine Below.trans ?_ (Below.mono hb11 (by first | omega | (simp; done) | (simp; omega)))) | (refine Below.trans ?_ (Below.mono hb12 (by first | omega | (simp; done) | (simp; omega))))))))).mono ?_; rintro e w1 ⟨rfl, hb1⟩; obtain ⟨hc1, hf1⟩ := bcell hb1; have hB1 : Below w.heap.size w w1 := (by with_reducible (repeat (first | exact Below.refl _ _ | assumption | (refine Below.setCell ?_ (by first | omega | (simp; done) | (simp; omega)) _) | (refine Below.alloc ?_ (by first | omega | (simp; done) | (simp; omega)) _) | (refine below_drewN ?_ _) | (refine Below.drew ?_) | (refine Below.trans ?_ (Below.mono hb (by first | omega | (simp; done) | (simp; omega)))) | (refine Below.trans ?_ (Below.mono hb1 (by first | omega | (simp; done) | (simp; omega)))) | (refine Below.trans ?_ (Below.mono hb2 (by first | omega | (simp; done) | (simp; omega)))) | (refine Below.trans ?_ (Below.mono hb3 (by first | omega | (simp; done) | (simp; omega)))) | (refine Below.trans ?_ (Below.mono hb4 (by first | omega | (simp; done) | (simp; omega)))) | (refine Below.trans ?_ (Below.mono hb5 (by first | omega | (simp; done) | (simp; omega)))) | (refine Below.trans ?_ (Below.mono hb6 (by first | omega | (simp; done) | (simp; omega)))) | (refine Below.trans ?_ (Below.mono hb7 (by first | omega | (simp; done) | (simp; omega)))) | (refine Below.trans ?_ (Below.mono hb8 (by first | omega | (simp; done) | (simp; omega)))) | (refine Below.trans ?_ (Below.mono hb9 (by first | omega | (simp; done) | (simp; omega)))) | (refine Below.trans ?_ (Below.mono hb10 (by first | omega | (simp; done) | (simp; omega)))) | (refine Below.trans ?_ (Below.mono hb11 (by first | omega | (simp; done) | (simp; omega)))) | (refine Below.trans ?_ (Below.mono hb12 (by first | omega | (simp; done) | (simp; omega))))))); have hz1 := hB1.size))
    go_wp2
    go_ret
    exact ⟨rfl, (x.below hB1).move t0 t1, Chg.setCell (S := (· = u)) (Chg.of_below hB1) (.inl rfl) _⟩
  · have e : s.there oa = false := decide_eq_false ht
    rw [e]
    by_cases ht0 : oa < 0
    · have hd1 : decide (oa < 0) = true := decide_eq_true ht0
      go_enter Try.func170, Try.ntmps170
      go_wp2
      go_quiet (fail)
      go_wp2
      go_ret
      exact ⟨rfl, x.below (by with_reducible (repeat (first | exact Below.refl _ _ | assumption | (refine Below.setCell ?_ (by first | omega | (simp; done) | (simp; omega)) _) | (refine Below.alloc ?_ (by first | omega | (simp; done) | (simp; omega)) _) | (refine below_drewN ?_ _) | (refine Below.drew ?_) | (refine Below.trans ?_ (Below.mono hb (by first | omega | (simp; done) | (simp; omega)))) | (refine Below.trans ?_ (Below.mono hb1 (by first | omega | (simp; done) | (simp; omega)))) | (refine Below.trans ?_ (Below.mono hb2 (by first | omega | (simp; done) | (simp; omega)))) | (refine Below.trans ?_ (Below.mono hb3 (by first | omega | (simp; done) | (simp; omega)))) | (refine Below.trans ?_ (Below.mono hb4 (by first | omega | (simp; done) | (simp; omega)))) | (refine Below.trans ?_ (Below.mono hb5 (by first | omega | (simp; done) | (simp; omega)))) | (refine Below.trans ?_ (Below.mono hb6 (by first | omega | (simp; done) | (simp; omega)))) | (refine Below.trans ?_ (Below.mono hb7 (by first | omega | (simp; done) | (simp; omega)))) | (refine Below.trans ?_ (Below.mono hb8 (by first | omega | (simp; done) | (simp; omega)))) | (refine Below.trans ?_ (Below.mono hb9 (by first | omega | (simp; done) | (simp; omega)))) | (refine Below.trans ?_ (Below.mono hb10 (by first | omega | (simp; done) | (simp; omega)))) | (refine Below.trans ?_ (Below.mono hb11 (by first | omega | (simp; done) | (simp; omega)))) | (refine Below.trans ?_ (Below.mono hb12 (by first | omega | (simp; done) | (simp; omega))))))), Chg.of_below (by with_reducible (repeat (first | exact Below.refl _ _ | assumption | (refine Below.setCell ?_ (by first | omega | (simp; done) | (simp; omega)) _) | (refine Below.alloc ?_ (by first | omega | (simp; done) | (simp; omega)) _) | (refine below_drewN ?_ _) | (refine Below.drew ?_) | (refine Below.trans ?_ (Below.mono hb (by first | omega | (simp; done) | (simp; omega)))) | (refine Below.trans ?_ (Below.mono hb1 (by first | omega | (simp; done) | (simp; omega)))) | (refine Below.trans ?_ (Below.mono hb2 (by first | omega | (simp; done) | (simp; omega)))) | (refine Below.trans ?_ (Below.mono hb3 (by first | omega | (simp; done) | (simp; omega)))) | (refine Below.trans ?_ (Below.mono hb4 (by first | omega | (simp; done) | (simp; omega)))) | (refine Below.trans ?_ (Below.mono hb5 (by first | omega | (simp; done) | (simp; omega)))) | (refine Below.trans ?_ (Below.mono hb6 (by first | omega | (simp; done) | (simp; omega)))) | (refine Below.trans ?_ (Below.mono hb7 (by first | omega | (simp; done) | (simp; omega)))) | (refine Below.trans ?_ (Below.mono hb8 (by first | omega | (simp; done) | (simp; omega)))) | (refine Below.trans ?_ (Below.mono hb9 (by first | omega | (simp; done) | (simp; omega)))) | (refine Below.trans ?_ (Below.mono hb10 (by first | omega | (simp; done) | (simp; omega)))) | (refine Below.trans ?_ (Below.mono hb11 (by first | omega | (simp; done) | (simp; omega)))) | (refine Below.trans ?_ (Below.mono hb12 (by first | omega | (simp; done) | (simp; omega)))))))⟩
    · have ht1 : (s.P.cells.length : Int) ≤ oa := by have : s.n = (s.P.cells.length : Int) := rfl; omega
      have hd1 : decide (oa < 0) = false := decide_eq_false (by omega)
      go_enter Try.func170, Try.ntmps170
      go_wp2
      go_region_held3 (fun w' => w'.cell? ⟨u, 0, none⟩ = some (.pointer (some ⟨g, 0, none⟩)) ∧ w'.cell? ⟨w.heap.size, 1, none⟩ = some (.int .i64 oa)) (first | exact keep2 (by assumption) hb1 | go_keep)
        (first | (go_at_call 25; refine (Len_any (x.pl.below (by with_reducible (repeat (first | exact Below.refl _ _ | assumption | (refine Below.setCell ?_ (by first | omega | (simp; done) | (simp; omega)) _) | (refine Below.alloc ?_ (by first | omega | (simp; done) | (simp; omega)) _) | (refine below_drewN ?_ _) | (refine Below.drew ?_) | (refine Below.trans ?_ (Below.mono hb (by first | omega | (simp; done) | (simp; omega)))) | (refine Below.trans ?_ (Below.mono hb1 (by first | omega | (simp; done) | (simp; omega)))) | (refine Below.trans ?_ (Below.mono hb2 (by first | omega | (simp; done) | (simp; omega)))) | (refine Below.trans ?_ (Below.mono hb3 (by first | omega | (simp; done) | (simp; omega)))) | (refine Below.trans ?_ (Below.mono hb4 (by first | omega | (simp; done) | (simp; omega)))) | (refine Below.trans ?_ (Below.mono hb5 (by first | omega | (simp; done) | (simp; omega)))) | (refine Below.trans ?_ (Below.mono hb6 (by first | omega | (simp; done) | (simp; omega)))) | (refine Below.trans ?_ (Below.mono hb7 (by first | omega | (simp; done) | (simp; omega)))) | (refine Below.trans ?_ (Below.mono hb8 (by first | omega | (simp; done) | (simp; omega)))) | (refine Below.trans ?_ (Below.mono hb9 (by first | omega | (simp; done) | (simp; omega)))) | (refine Below.trans ?_ (Below.mono hb10 (by first | omega | (simp; done) | (simp; omega)))) | (refine Below.trans ?_ (Below.mono hb11 (by first | omega | (simp; done) | (simp; omega)))) | (refine Below.trans ?_ (Below.mono hb12 (by first | omega | (simp; done) | (simp; omega))))))))).mono ?_; rintro e w1 ⟨rfl, hb1⟩; obtain ⟨hc1, hf1⟩ := bcell hb1; have hB1 : Below w.heap.size w w1 := (by with_reducible (repeat (first | exact Below.refl _ _ | assumption | (refine Below.setCell ?_ (by first | omega | (simp; done) | (simp; omega)) _) | (refine Below.alloc ?_ (by first | omega | (simp; done) | (simp; omega)) _) | (refine below_drewN ?_ _) | (refine Below.drew ?_) | (refine Below.trans ?_ (Below.mono hb (by first | omega | (simp; done) | (simp; omega)))) | (refine Below.trans ?_ (Below.mono hb1 (by first | omega | (simp; done) | (simp; omega)))) | (refine Below.trans ?_ (Below.mono hb2 (by first | omega | (simp; done) | (simp; omega)))) | (refine Below.trans ?_ (Below.mono hb3 (by first | omega | (simp; done) | (simp; omega)))) | (refine Below.trans ?_ (Below.mono hb4 (by first | omega | (simp; done) | (simp; omega)))) | (refine Below.trans ?_ (Below.mono hb5 (by first | omega | (simp; done) | (simp; omega)))) | (refine Below.trans ?_ (Below.mono hb6 (by first | omega | (simp; done) | (simp; omega)))) | (refine Below.trans ?_ (Below.mono hb7 (by first | omega | (simp; done) | (simp; omega)))) | (refine Below.trans ?_ (Below.mono hb8 (by first | omega | (simp; done) | (simp; omega)))) | (refine Below.trans ?_ (Below.mono hb9 (by first | omega | (simp; done) | (simp; omega)))) | (refine Below.trans ?_ (Below.mono hb10 (by first | omega | (simp; done) | (simp; omega)))) | (refine Below.trans ?_ (Below.mono hb11 (by first | omega | (simp; done) | (simp; omega)))) | (refine Below.trans ?_ (Below.mono hb12 (by first | omega | (simp; done) | (simp; omega))))))); have hz1 := hB1.size))
      go_wp2
      go_ret
      exact ⟨rfl, x.below hB1, Chg.of_below hB1⟩
end Go.Proofs.Ytbkddgeocmkegaa

namespace Go.Proofs.Ytbkddgeocmkegaa
open Go.RowKit Go.Shelf
set_option linter.unusedSimpArgs false
set_option linter.unusedVariables false
set_option maxHeartbeats 2000000
attribute [local go_sem ↓] run_start run_byte run_cols

/-- A block that is a cell. -/
def CB (W : World) (B : Nat) (c : Cell) : Prop := W.heap[B]? = some (.cells c.vals.toArray 96 (0, 0))
namespace CB
variable {W : World} {B : Nat} {c : Cell}
theorem lt (h : CB W B c) : B < W.heap.size := lt_of_block h
theorem c0 (h : CB W B c) : W.cell? ⟨B, 0, none⟩ = some (.int .u8 c.byte) := by unfold CB at h; simp [World.cell?, h, Cell.vals]
theorem c1 (h : CB W B c) : W.cell? ⟨B, 1, none⟩ = some (.bool c.ge) := by unfold CB at h; simp [World.cell?, h, Cell.vals]
theorem c2 (h : CB W B c) : W.cell? ⟨B, 2, none⟩ = some (.bool c.start) := by unfold CB at h; simp [World.cell?, h, Cell.vals]
theorem c3 (h : CB W B c) : W.cell? ⟨B, 3, none⟩ = some (.int .u8 c.light) := by unfold CB at h; simp [World.cell?, h, Cell.vals]
theorem c4 (h : CB W B c) : W.cell? ⟨B, 4, none⟩ = some (.int .u8 c.color) := by unfold CB at h; simp [World.cell?, h, Cell.vals]
theorem fz (h : CB W B c) (o : Nat) : W.frozen? ⟨B, o, none⟩ = false := by unfold CB at h; simp [World.frozen?, h]
theorem new (w : World) (c : Cell) : CB (w.alloc (.cells #[.int .u8 c.byte, .bool c.ge, .bool c.start, .int .u8 c.light, .int .u8 c.color] 96)) w.heap.size c := World.alloc_heap_new w _
theorem alloc (h : CB W B c) (o : Obj) : CB (W.alloc o) B c := (Below.heap_alloc W o B h.lt).trans h
theorem chg {W' : World} {S : Nat → Prop} (h : CB W B c) (hk : Chg S W W') (hs : ¬ S B) : CB W' B c := (hk.block B h.lt hs).trans h
theorem below {W' : World} (h : CB W B c) (hb : Below W.heap.size W W') : CB W' B c := (hb.block B h.lt).trans h
theorem put0 (h : CB W B c) (x : Int) : CB (W.setCell ⟨B, 0, none⟩ (.int .u8 x)) B { c with byte := x } := heap_set_same h 0 (.int .u8 x)
theorem put3 (h : CB W B c) (x : Int) : CB (W.setCell ⟨B, 3, none⟩ (.int .u8 x)) B { c with light := x } := heap_set_same h 3 (.int .u8 x)
theorem put4 (h : CB W B c) (x : Int) : CB (W.setCell ⟨B, 4, none⟩ (.int .u8 x)) B { c with color := x } := heap_set_same h 4 (.int .u8 x)
theorem far (h : CB W B c) {p : Addr} (hp : B ≠ p.block) (u : Value) : CB (W.setCell p u) B c := (Below.heap_setCell W p u B hp).trans h
end CB

/-- Pairs that read. -/
theorem PRow.at_ {w : World} {T : Nat → Prop} {ao : Option Addr} {l : List (Int × Int)} (h : PRow w T ao l) {k : Nat} (hk : k < l.length) : ∃ b o, ao = some ⟨b, o, none⟩ ∧ w.cell? ⟨b, o + k * 2, none⟩ = some (.int .u8 l[k].1) ∧ w.cell? ⟨b, o + k * 2 + 1, none⟩ = some (.int .u8 l[k].2) := by
  obtain ⟨b, o, e, -, h1, h2⟩ := h.2 k hk
  exact ⟨b, o, e, h1, h2⟩

set_option maxRecDepth 100000 in
theorem Dress_any {w : World} (c : Cell) (ps : List (Int × Int)) (pa : Option Addr) (pc : Nat) (T : Nat → Prop) (hp : PRow w T pa ps) (hps : ∀ x ∈ ps, (0 ≤ x.1 ∧ x.1 ≤ 255) ∧ (0 ≤ x.2 ∧ x.2 ≤ 255)) :
    Calls Try.prog 205 #[.agg #[.int .u8 c.byte, .bool c.ge, .bool c.start, .int .u8 c.light, .int .u8 c.color], .slice pa ps.length pc] w fun e w' => e = .returned (.agg #[.int .u8 (dress c ps).byte, .bool (dress c ps).ge, .bool (dress c ps).start, .int .u8 (dress c ps).light, .int .u8 (dress c ps).color]) ∧ Below w.heap.size w w' := by
  have hlen : (ps.length : Int) ≤ 9223372036854775807 := by have := hp.1; unfold maxLen at this; omega
  go_enter Try.func205, Try.ntmps205
  go_wp2
  go_loopw [9] (fun i wr => ∃ k : Nat, k ≤ ps.length ∧ i = .int .i64 (k : Int) ∧ CB wr w.heap.size (dress c (ps.take k)) ∧ CB wr (w.heap.size + 1) Cell.zero ∧ Below w.heap.size w wr) (fun i _ => ps.length - (intOf i).toNat)
  case atStart => exact ⟨0, Nat.zero_le _, rfl, (CB.new w c).alloc _, by have := CB.new (w.alloc (.cells #[.int .u8 c.byte, .bool c.ge, .bool c.start, .int .u8 c.light, .int .u8 c.color] 96)) Cell.zero; rw [World.size_alloc] at this; exact this, by with_reducible (repeat (first | exact Below.refl _ _ | assumption | (refine Below.setCell ?_ (by first | omega | (simp; done) | (simp; omega)) _) | (refine Below.alloc ?_ (by first | omega | (simp; done) | (simp; omega)) _) | (refine below_drewN ?_ _) | (refine Below.drew ?_) | (refine Below.trans ?_ (Below.mono hb (by first | omega | (simp; done) | (simp; omega)))) | (refine Below.trans ?_ (Below.mono hb1 (by first | omega | (simp; done) | (simp; omega)))) | (refine Below.trans ?_ (Below.mono hb2 (by first | omega | (simp; done) | (simp; omega)))) | (refine Below.trans ?_ (Below.mono hb3 (by first | omega | (simp; done) | (simp; omega)))) | (refine Below.trans ?_ (Below.mono hb4 (by first | omega | (simp; done) | (simp; omega)))) | (refine Below.trans ?_ (Below.mono hb5 (by first | omega | (simp; done) | (simp; omega)))) | (refine Below.trans ?_ (Below.mono hb6 (by first | omega | (simp; done) | (simp; omega)))) | (refine Below.trans ?_ (Below.mono hb7 (by first | omega | (simp; done) | (simp; omega)))) | (refine Below.trans ?_ (Below.mono hb8 (by first | omega | (simp; done) | (simp; omega)))) | (refine Below.trans ?_ (Below.mono hb9 (by first | omega | (simp; done) | (simp; omega)))) | (refine Below.trans ?_ (Below.mono hb10 (by first | omega | (simp; done) | (simp; omega)))) | (refine Below.trans ?_ (Below.mono hb11 (by first | omega | (simp; done) | (simp; omega)))) | (refine Below.trans ?_ (Below.mono hb12 (by first | omega | (simp; done) | (simp; omega))))))⟩
  case round =>
    obtain ⟨k, hk, rfl, hC, hZ, hB⟩ := hrel
    have hz := hB.size
    by_cases hlt : k < ps.length
    · have hlt' : (k : Int) < (ps.length : Int) := by omega
      obtain ⟨pb, po, rfl, p0, p1⟩ := (hp.below hB).at_ hlt
      have hpo := hps ps[k] (List.getElem_mem hlt)
      have hst := dress_take c ps k hlt
      obtain ⟨d, hd⟩ : ∃ d, dress c (ps.take k) = d := ⟨_, rfl⟩
      rw [hd] at hC hst
      obtain ⟨⟨t, v⟩, htv⟩ : ∃ tv, ps[k] = tv := ⟨_, rfl⟩
      rw [htv] at p0 p1 hpo hst
      simp only at p0 p1 hpo
      obtain ⟨ht, hv⟩ := hpo
      have hbv := bits_63 v hv
      have d0 := hC.c0
      have d3 := hC.c3
      have d4 := hC.c4
      have df := hC.fz
      have hCl := hC.lt
      have HS := Lib.hid hst
      clear hst hd htv
      have hB' : Below w.heap.size w (wr.alloc (.cells #[.int .u8 t, .int .u8 v] 240)) := hB.alloc hz _
      have hCa := hC.alloc (.cells #[.int .u8 t, .int .u8 v] 240)
      have hZa := hZ.alloc (.cells #[.int .u8 t, .int .u8 v] 240)
      by_cases e1 : t = 192
      · subst e1
        go_wp2
        go_roundw
        case rel => exact ⟨k + 1, by omega, by go_num, by rw [HS.out]; exact (hC.put0 _).alloc _, (hZ.far (by simp) _).alloc _, by with_reducible (repeat (first | exact Below.refl _ _ | assumption | (refine Below.setCell ?_ (by first | omega | (simp; done) | (simp; omega)) _) | (refine Below.alloc ?_ (by first | omega | (simp; done) | (simp; omega)) _) | (refine below_drewN ?_ _) | (refine Below.drew ?_) | (refine Below.trans ?_ (Below.mono hb (by first | omega | (simp; done) | (simp; omega)))) | (refine Below.trans ?_ (Below.mono hb1 (by first | omega | (simp; done) | (simp; omega)))) | (refine Below.trans ?_ (Below.mono hb2 (by first | omega | (simp; done) | (simp; omega)))) | (refine Below.trans ?_ (Below.mono hb3 (by first | omega | (simp; done) | (simp; omega)))) | (refine Below.trans ?_ (Below.mono hb4 (by first | omega | (simp; done) | (simp; omega)))) | (refine Below.trans ?_ (Below.mono hb5 (by first | omega | (simp; done) | (simp; omega)))) | (refine Below.trans ?_ (Below.mono hb6 (by first | omega | (simp; done) | (simp; omega)))) | (refine Below.trans ?_ (Below.mono hb7 (by first | omega | (simp; done) | (simp; omega)))) | (refine Below.trans ?_ (Below.mono hb8 (by first | omega | (simp; done) | (simp; omega)))) | (refine Below.trans ?_ (Below.mono hb9 (by first | omega | (simp; done) | (simp; omega)))) | (refine Below.trans ?_ (Below.mono hb10 (by first | omega | (simp; done) | (simp; omega)))) | (refine Below.trans ?_ (Below.mono hb11 (by first | omega | (simp; done) | (simp; omega)))) | (refine Below.trans ?_ (Below.mono hb12 (by first | omega | (simp; done) | (simp; omega))))))⟩
        case measure => simp [intOf]; omega
      have n1 : (t == 192) = false := beq_eq_false_iff_ne.2 e1
      by_cases e2 : t = 65
      · subst e2
        go_wp2
        go_roundw
        case rel => exact ⟨k + 1, by omega, by go_num, by rw [HS.out]; exact (hC.put3 _).alloc _, (hZ.far (by simp) _).alloc _, by with_reducible (repeat (first | exact Below.refl _ _ | assumption | (refine Below.setCell ?_ (by first | omega | (simp; done) | (simp; omega)) _) | (refine Below.alloc ?_ (by first | omega | (simp; done) | (simp; omega)) _) | (refine below_drewN ?_ _) | (refine Below.drew ?_) | (refine Below.trans ?_ (Below.mono hb (by first | omega | (simp; done) | (simp; omega)))) | (refine Below.trans ?_ (Below.mono hb1 (by first | omega | (simp; done) | (simp; omega)))) | (refine Below.trans ?_ (Below.mono hb2 (by first | omega | (simp; done) | (simp; omega)))) | (refine Below.trans ?_ (Below.mono hb3 (by first | omega | (simp; done) | (simp; omega)))) | (refine Below.trans ?_ (Below.mono hb4 (by first | omega | (simp; done) | (simp; omega)))) | (refine Below.trans ?_ (Below.mono hb5 (by first | omega | (simp; done) | (simp; omega)))) | (refine Below.trans ?_ (Below.mono hb6 (by first | omega | (simp; done) | (simp; omega)))) | (refine Below.trans ?_ (Below.mono hb7 (by first | omega | (simp; done) | (simp; omega)))) | (refine Below.trans ?_ (Below.mono hb8 (by first | omega | (simp; done) | (simp; omega)))) | (refine Below.trans ?_ (Below.mono hb9 (by first | omega | (simp; done) | (simp; omega)))) | (refine Below.trans ?_ (Below.mono hb10 (by first | omega | (simp; done) | (simp; omega)))) | (refine Below.trans ?_ (Below.mono hb11 (by first | omega | (simp; done) | (simp; omega)))) | (refine Below.trans ?_ (Below.mono hb12 (by first | omega | (simp; done) | (simp; omega))))))⟩
        case measure => simp [intOf]; omega
      have n2 : (t == 65) = false := beq_eq_false_iff_ne.2 e2
      by_cases e3 : t = 66
      · subst e3
        go_wp2
        go_roundw
        case rel => exact ⟨k + 1, by omega, by go_num, by rw [HS.out]; exact (hC.put4 _).alloc _, (hZ.far (by simp) _).alloc _, by with_reducible (repeat (first | exact Below.refl _ _ | assumption | (refine Below.setCell ?_ (by first | omega | (simp; done) | (simp; omega)) _) | (refine Below.alloc ?_ (by first | omega | (simp; done) | (simp; omega)) _) | (refine below_drewN ?_ _) | (refine Below.drew ?_) | (refine Below.trans ?_ (Below.mono hb (by first | omega | (simp; done) | (simp; omega)))) | (refine Below.trans ?_ (Below.mono hb1 (by first | omega | (simp; done) | (simp; omega)))) | (refine Below.trans ?_ (Below.mono hb2 (by first | omega | (simp; done) | (simp; omega)))) | (refine Below.trans ?_ (Below.mono hb3 (by first | omega | (simp; done) | (simp; omega)))) | (refine Below.trans ?_ (Below.mono hb4 (by first | omega | (simp; done) | (simp; omega)))) | (refine Below.trans ?_ (Below.mono hb5 (by first | omega | (simp; done) | (simp; omega)))) | (refine Below.trans ?_ (Below.mono hb6 (by first | omega | (simp; done) | (simp; omega)))) | (refine Below.trans ?_ (Below.mono hb7 (by first | omega | (simp; done) | (simp; omega)))) | (refine Below.trans ?_ (Below.mono hb8 (by first | omega | (simp; done) | (simp; omega)))) | (refine Below.trans ?_ (Below.mono hb9 (by first | omega | (simp; done) | (simp; omega)))) | (refine Below.trans ?_ (Below.mono hb10 (by first | omega | (simp; done) | (simp; omega)))) | (refine Below.trans ?_ (Below.mono hb11 (by first | omega | (simp; done) | (simp; omega)))) | (refine Below.trans ?_ (Below.mono hb12 (by first | omega | (simp; done) | (simp; omega))))))⟩
        case measure => simp [intOf]; omega
      have n3 : (t == 66) = false := beq_eq_false_iff_ne.2 e3
      by_cases e4 : t = 0
      · subst e4
        go_wp2
        go_roundw
        case rel => exact ⟨k + 1, by omega, by go_num, by rw [HS.out]; exact ((hC.put3 _).put4 _).alloc _, ((hZ.far (by simp) _).far (by simp) _).alloc _, by with_reducible (repeat (first | exact Below.refl _ _ | assumption | (refine Below.setCell ?_ (by first | omega | (simp; done) | (simp; omega)) _) | (refine Below.alloc ?_ (by first | omega | (simp; done) | (simp; omega)) _) | (refine below_drewN ?_ _) | (refine Below.drew ?_) | (refine Below.trans ?_ (Below.mono hb (by first | omega | (simp; done) | (simp; omega)))) | (refine Below.trans ?_ (Below.mono hb1 (by first | omega | (simp; done) | (simp; omega)))) | (refine Below.trans ?_ (Below.mono hb2 (by first | omega | (simp; done) | (simp; omega)))) | (refine Below.trans ?_ (Below.mono hb3 (by first | omega | (simp; done) | (simp; omega)))) | (refine Below.trans ?_ (Below.mono hb4 (by first | omega | (simp; done) | (simp; omega)))) | (refine Below.trans ?_ (Below.mono hb5 (by first | omega | (simp; done) | (simp; omega)))) | (refine Below.trans ?_ (Below.mono hb6 (by first | omega | (simp; done) | (simp; omega)))) | (refine Below.trans ?_ (Below.mono hb7 (by first | omega | (simp; done) | (simp; omega)))) | (refine Below.trans ?_ (Below.mono hb8 (by first | omega | (simp; done) | (simp; omega)))) | (refine Below.trans ?_ (Below.mono hb9 (by first | omega | (simp; done) | (simp; omega)))) | (refine Below.trans ?_ (Below.mono hb10 (by first | omega | (simp; done) | (simp; omega)))) | (refine Below.trans ?_ (Below.mono hb11 (by first | omega | (simp; done) | (simp; omega)))) | (refine Below.trans ?_ (Below.mono hb12 (by first | omega | (simp; done) | (simp; omega))))))⟩
        case measure => simp [intOf]; omega
      have n4 : (t == 0) = false := beq_eq_false_iff_ne.2 e4
      have HD : Hid (dress1 d (t, v) = d) := by unfold dress1; rw [if_neg e1, if_neg e2, if_neg e3, if_neg e4]; exact rfl
      clear e1 e2 e3 e4
      go_wp2
      go_roundw
      case rel => exact ⟨k + 1, by omega, by go_num, by rw [HS.out, HD.out]; exact hCa, hZa, hB'⟩
      case measure => simp [intOf]; omega
    · have ek : k = ps.length := by omega
      rw [show dress c (ps.take k) = dress c ps by rw [ek, List.take_length]] at hC
      clear ek
      obtain ⟨d, hd⟩ : ∃ d, dress c ps = d := ⟨_, rfl⟩
      rw [hd] at hC
      have HD := Lib.hid hd
      clear hd
      have d0 := hC.c0
      have d1 := hC.c1
      have d2 := hC.c2
      have d3 := hC.c3
      have d4 := hC.c4
      have z0 := hZ.c0
      have z1 := hZ.c1
      have z2 := hZ.c2
      have z3 := hZ.c3
      have z4 := hZ.c4
      have zf := hZ.fz
      have hZl := hZ.lt
      go_wp2
      exact bodyPost_ret (v := .agg #[.int .u8 d.byte, .bool d.ge, .bool d.start, .int .u8 d.light, .int .u8 d.color]) (by simp [results, Try.results205, go_sem, z0, z1, z2, z3, z4, hZl]) rfl ⟨by rw [HD.out], by with_reducible (repeat (first | exact Below.refl _ _ | assumption | (refine Below.setCell ?_ (by first | omega | (simp; done) | (simp; omega)) _) | (refine Below.alloc ?_ (by first | omega | (simp; done) | (simp; omega)) _) | (refine below_drewN ?_ _) | (refine Below.drew ?_) | (refine Below.trans ?_ (Below.mono hb (by first | omega | (simp; done) | (simp; omega)))) | (refine Below.trans ?_ (Below.mono hb1 (by first | omega | (simp; done) | (simp; omega)))) | (refine Below.trans ?_ (Below.mono hb2 (by first | omega | (simp; done) | (simp; omega)))) | (refine Below.trans ?_ (Below.mono hb3 (by first | omega | (simp; done) | (simp; omega)))) | (refine Below.trans ?_ (Below.mono hb4 (by first | omega | (simp; done) | (simp; omega)))) | (refine Below.trans ?_ (Below.mono hb5 (by first | omega | (simp; done) | (simp; omega)))) | (refine Below.trans ?_ (Below.mono hb6 (by first | omega | (simp; done) | (simp; omega)))) | (refine Below.trans ?_ (Below.mono hb7 (by first | omega | (simp; done) | (simp; omega)))) | (refine Below.trans ?_ (Below.mono hb8 (by first | omega | (simp; done) | (simp; omega)))) | (refine Below.trans ?_ (Below.mono hb9 (by first | omega | (simp; done) | (simp; omega)))) | (refine Below.trans ?_ (Below.mono hb10 (by first | omega | (simp; done) | (simp; omega)))) | (refine Below.trans ?_ (Below.mono hb11 (by first | omega | (simp; done) | (simp; omega)))) | (refine Below.trans ?_ (Below.mono hb12 (by first | omega | (simp; done) | (simp; omega))))))⟩

variable {w : World} {u g b cap : Nat} {s : Br}
/-- Those blocks that a brush turns. -/
def TB (u g b : Nat) : Nat → Prop := fun k => k = u ∨ k = g ∨ k = b
def SB (u b : Nat) : Nat → Prop := fun k => k = u ∨ k = b

theorem data_any (x : BrL w u g b cap s) (o : Ord) (r : ORef) (ho : ORd w (TB u g b) o r) :
    Calls Try.prog 168 #[.pointer (some ⟨u, 0, none⟩), OVal o r] w fun e w' => e = .returned (.int .i64 0) ∧ BrL w' u g b cap (s.bytes o.data) ∧ Chg (SB u b) w w' := by
  have hd := ho.d
  have hok := ho.ok.d
  have hlen : (o.data.length : Int) ≤ 9223372036854775807 := by have := hd.1; unfold maxLen at this; omega
  obtain ⟨da, hda⟩ : ∃ da, o.data = da := ⟨_, rfl⟩
  have hstep := fun k hk => s.bytes_take da k hk
  have hfull : s.bytes (da.take da.length) = s.bytes da := by rw [List.take_length]
  unfold OVal
  rw [hda] at hd hok hlen ⊢
  clear hda ho
  have HF := Lib.hid hfull
  clear hfull
  go_enter Try.func168, Try.ntmps168
  go_wp2
  obtain ⟨W, hW⟩ : ∃ W, w.alloc (.cells #[.int .u8 o.kind, .int .i64 o.addr, .int .u8 o.byte, .bool o.ge, .slice r.pa o.pairs.length r.pc, .slice r.da da.length r.dc] 110) = W := ⟨_, rfl⟩
  have hBW : Below w.heap.size w W := by rw [← hW]; with_reducible (repeat (first | exact Below.refl _ _ | assumption | (refine Below.setCell ?_ (by first | omega | (simp; done) | (simp; omega)) _) | (refine Below.alloc ?_ (by first | omega | (simp; done) | (simp; omega)) _) | (refine below_drewN ?_ _) | (refine Below.drew ?_) | (refine Below.trans ?_ (Below.mono hb (by first | omega | (simp; done) | (simp; omega)))) | (refine Below.trans ?_ (Below.mono hb1 (by first | omega | (simp; done) | (simp; omega)))) | (refine Below.trans ?_ (Below.mono hb2 (by first | omega | (simp; done) | (simp; omega)))) | (refine Below.trans ?_ (Below.mono hb3 (by first | omega | (simp; done) | (simp; omega)))) | (refine Below.trans ?_ (Below.mono hb4 (by first | omega | (simp; done) | (simp; omega)))) | (refine Below.trans ?_ (Below.mono hb5 (by first | omega | (simp; done) | (simp; omega)))) | (refine Below.trans ?_ (Below.mono hb6 (by first | omega | (simp; done) | (simp; omega)))) | (refine Below.trans ?_ (Below.mono hb7 (by first | omega | (simp; done) | (simp; omega)))) | (refine Below.trans ?_ (Below.mono hb8 (by first | omega | (simp; done) | (simp; omega)))) | (refine Below.trans ?_ (Below.mono hb9 (by first | omega | (simp; done) | (simp; omega)))) | (refine Below.trans ?_ (Below.mono hb10 (by first | omega | (simp; done) | (simp; omega)))) | (refine Below.trans ?_ (Below.mono hb11 (by first | omega | (simp; done) | (simp; omega)))) | (refine Below.trans ?_ (Below.mono hb12 (by first | omega | (simp; done) | (simp; omega))))))
  have hzW := hBW.size
  have hdW := hd.below hBW
  have hxW := x.below hBW
  rw [hW]
  clear hW hd
  go_loopw [10] (fun i wr => ∃ k : Nat, k ≤ da.length ∧ i = .int .i64 (k : Int) ∧ BrL wr u g b cap (s.bytes (da.take k)) ∧ Chg (SB u b) W wr) (fun i _ => da.length - (intOf i).toNat)
  case atStart => exact ⟨0, Nat.zero_le _, rfl, hxW, Chg.refl _ _⟩
  case round =>
    obtain ⟨k, hk, rfl, hx, hC⟩ := hrel
    by_cases hlt : k < da.length
    · have hlt' : (k : Int) < (da.length : Int) := by omega
      obtain ⟨b1, o1, he, -, hcell⟩ := (hdW.chg hC (fun j _ e => by rcases e with e | e; exact .inl e; exact .inr (.inr e))).2 k hlt
      have hbk := hok da[k] (List.getElem_mem hlt)
      have hst := hstep k hlt
      obtain ⟨q, hq⟩ : ∃ q, s.bytes (da.take k) = q := ⟨_, rfl⟩
      rw [hq] at hx hst
      obtain ⟨z, hz⟩ : ∃ z, da[k] = z := ⟨_, rfl⟩
      rw [hz] at hcell hbk hst
      have HS := Lib.hid hst
      have hcok := Br.char_ok hx.ok hbk false
      clear hst hq hz hstep
      rw [he]
      clear he
      go_wp2_with fail
      refine (char_any hx z false).mono ?_
      rintro e w1 ⟨rfl, hb1⟩
      go_wp2_with fail
      refine (lay_any (hx.below hb1) _ hcok).mono ?_
      rintro e w2 ⟨rfl, hx2, hk2⟩
      go_wp2
      go_roundw
      case rel => exact ⟨k + 1, by omega, by go_num, by rw [HS.out]; exact hx2, hC.trans (chg_bel hb1 hk2)⟩
      case measure => simp [intOf]; omega
    · have ek : k = da.length := by omega
      subst ek
      rw [HF.out] at hx
      go_wp2
      go_ret
      exact ⟨rfl, hx, chg_bel hBW hC⟩
end Go.Proofs.Ytbkddgeocmkegaa

namespace Go.Proofs.Ytbkddgeocmkegaa
open Go.RowKit Go.Shelf
set_option linter.unusedSimpArgs false
set_option linter.unusedVariables false
set_option maxHeartbeats 2000000
attribute [local go_sem ↓] run_start run_byte run_cols

variable {w : World} {u g b cap : Nat} {s : Br}

theorem SB_chg {S : Nat → Prop} {w w' : World} (h : Chg S w w') (hs : ∀ k, S k → k = u ∨ k = b) : Chg (SB u b) w w' := h.mono (fun k _ e => hs k e)

theorem special_any (x : BrL w u g b cap s) (o : Ord) (r : ORef) (ho : o.ok) :
    Calls Try.prog 169 #[.pointer (some ⟨u, 0, none⟩), OVal o r] w fun e w' => e = .returned (.int .i64 0) ∧ BrL w' u g b cap (s.lay (s.char o.byte true)) ∧ Chg (SB u b) w w' := by
  have hob := ho.b
  unfold OVal
  obtain ⟨oby, hoby⟩ : ∃ oby, o.byte = oby := ⟨_, rfl⟩
  rw [hoby] at hob ⊢
  clear hoby
  have hcok := Br.char_ok x.ok hob true
  go_enter Try.func169, Try.ntmps169
  go_wp2_with fail
  refine (char_any (x.below (by with_reducible (repeat (first | exact Below.refl _ _ | assumption | (refine Below.setCell ?_ (by first | omega | (simp; done) | (simp; omega)) _) | (refine Below.alloc ?_ (by first | omega | (simp; done) | (simp; omega)) _) | (refine below_drewN ?_ _) | (refine Below.drew ?_) | (refine Below.trans ?_ (Below.mono hb (by first | omega | (simp; done) | (simp; omega)))) | (refine Below.trans ?_ (Below.mono hb1 (by first | omega | (simp; done) | (simp; omega)))) | (refine Below.trans ?_ (Below.mono hb2 (by first | omega | (simp; done) | (simp; omega)))) | (refine Below.trans ?_ (Below.mono hb3 (by first | omega | (simp; done) | (simp; omega)))) | (refine Below.trans ?_ (Below.mono hb4 (by first | omega | (simp; done) | (simp; omega)))) | (refine Below.trans ?_ (Below.mono hb5 (by first | omega | (simp; done) | (simp; omega)))) | (refine Below.trans ?_ (Below.mono hb6 (by first | omega | (simp; done) | (simp; omega)))) | (refine Below.trans ?_ (Below.mono hb7 (by first | omega | (simp; done) | (simp; omega)))) | (refine Below.trans ?_ (Below.mono hb8 (by first | omega | (simp; done) | (simp; omega)))) | (refine Below.trans ?_ (Below.mono hb9 (by first | omega | (simp; done) | (simp; omega)))) | (refine Below.trans ?_ (Below.mono hb10 (by first | omega | (simp; done) | (simp; omega)))) | (refine Below.trans ?_ (Below.mono hb11 (by first | omega | (simp; done) | (simp; omega)))) | (refine Below.trans ?_ (Below.mono hb12 (by first | omega | (simp; done) | (simp; omega)))))))) oby true).mono ?_
  rintro e w1 ⟨rfl, hb1⟩
  have hB1 : Below w.heap.size w w1 := by with_reducible (repeat (first | exact Below.refl _ _ | assumption | (refine Below.setCell ?_ (by first | omega | (simp; done) | (simp; omega)) _) | (refine Below.alloc ?_ (by first | omega | (simp; done) | (simp; omega)) _) | (refine below_drewN ?_ _) | (refine Below.drew ?_) | (refine Below.trans ?_ (Below.mono hb (by first | omega | (simp; done) | (simp; omega)))) | (refine Below.trans ?_ (Below.mono hb1 (by first | omega | (simp; done) | (simp; omega)))) | (refine Below.trans ?_ (Below.mono hb2 (by first | omega | (simp; done) | (simp; omega)))) | (refine Below.trans ?_ (Below.mono hb3 (by first | omega | (simp; done) | (simp; omega)))) | (refine Below.trans ?_ (Below.mono hb4 (by first | omega | (simp; done) | (simp; omega)))) | (refine Below.trans ?_ (Below.mono hb5 (by first | omega | (simp; done) | (simp; omega)))) | (refine Below.trans ?_ (Below.mono hb6 (by first | omega | (simp; done) | (simp; omega)))) | (refine Below.trans ?_ (Below.mono hb7 (by first | omega | (simp; done) | (simp; omega)))) | (refine Below.trans ?_ (Below.mono hb8 (by first | omega | (simp; done) | (simp; omega)))) | (refine Below.trans ?_ (Below.mono hb9 (by first | omega | (simp; done) | (simp; omega)))) | (refine Below.trans ?_ (Below.mono hb10 (by first | omega | (simp; done) | (simp; omega)))) | (refine Below.trans ?_ (Below.mono hb11 (by first | omega | (simp; done) | (simp; omega)))) | (refine Below.trans ?_ (Below.mono hb12 (by first | omega | (simp; done) | (simp; omega))))))
  clear hb1
  go_wp2_with fail
  refine (lay_any (x.below hB1) _ hcok).mono ?_
  rintro e w2 ⟨rfl, hx2, hk2⟩
  go_wp2
  go_ret
  exact ⟨rfl, hx2, chg_bel hB1 hk2⟩

def attr0 : Cell := ⟨0, false, true, 0, 0⟩
theorem start_sf (x : BrL w u g b cap s) (o : Ord) (r : ORef) (ho : o.ok) (hk : o.kind = 29) :
    Calls Try.prog 171 #[.pointer (some ⟨u, 0, none⟩), OVal o r] w fun e w' => e = .returned (.int .i64 0) ∧ BrL w' u g b cap (s.lay ⟨low6 o.byte, false, true, 0, 0⟩) ∧ Chg (SB u b) w w' := by
  have hob := ho.b
  unfold OVal
  obtain ⟨oby, hoby⟩ : ∃ oby, o.byte = oby := ⟨_, rfl⟩
  rw [hoby] at hob ⊢
  rw [hk]
  clear hoby hk
  have hbv := bits_63 oby hob
  have hcok : Cell.ok ⟨low6 oby, false, true, 0, 0⟩ := ⟨low6_ok _, by simp, by simp⟩
  go_enter Try.func171, Try.ntmps171
  go_wp2_with fail
  refine (lay_any (x.below (by with_reducible (repeat (first | exact Below.refl _ _ | assumption | (refine Below.setCell ?_ (by first | omega | (simp; done) | (simp; omega)) _) | (refine Below.alloc ?_ (by first | omega | (simp; done) | (simp; omega)) _) | (refine below_drewN ?_ _) | (refine Below.drew ?_) | (refine Below.trans ?_ (Below.mono hb (by first | omega | (simp; done) | (simp; omega)))) | (refine Below.trans ?_ (Below.mono hb1 (by first | omega | (simp; done) | (simp; omega)))) | (refine Below.trans ?_ (Below.mono hb2 (by first | omega | (simp; done) | (simp; omega)))) | (refine Below.trans ?_ (Below.mono hb3 (by first | omega | (simp; done) | (simp; omega)))) | (refine Below.trans ?_ (Below.mono hb4 (by first | omega | (simp; done) | (simp; omega)))) | (refine Below.trans ?_ (Below.mono hb5 (by first | omega | (simp; done) | (simp; omega)))) | (refine Below.trans ?_ (Below.mono hb6 (by first | omega | (simp; done) | (simp; omega)))) | (refine Below.trans ?_ (Below.mono hb7 (by first | omega | (simp; done) | (simp; omega)))) | (refine Below.trans ?_ (Below.mono hb8 (by first | omega | (simp; done) | (simp; omega)))) | (refine Below.trans ?_ (Below.mono hb9 (by first | omega | (simp; done) | (simp; omega)))) | (refine Below.trans ?_ (Below.mono hb10 (by first | omega | (simp; done) | (simp; omega)))) | (refine Below.trans ?_ (Below.mono hb11 (by first | omega | (simp; done) | (simp; omega)))) | (refine Below.trans ?_ (Below.mono hb12 (by first | omega | (simp; done) | (simp; omega)))))))) ⟨low6 oby, false, true, 0, 0⟩ hcok).mono ?_
  rintro e w2 ⟨rfl, hx2, hk2⟩
  go_wp2
  go_ret
  exact ⟨rfl, hx2, chg_bel (by with_reducible (repeat (first | exact Below.refl _ _ | assumption | (refine Below.setCell ?_ (by first | omega | (simp; done) | (simp; omega)) _) | (refine Below.alloc ?_ (by first | omega | (simp; done) | (simp; omega)) _) | (refine below_drewN ?_ _) | (refine Below.drew ?_) | (refine Below.trans ?_ (Below.mono hb (by first | omega | (simp; done) | (simp; omega)))) | (refine Below.trans ?_ (Below.mono hb1 (by first | omega | (simp; done) | (simp; omega)))) | (refine Below.trans ?_ (Below.mono hb2 (by first | omega | (simp; done) | (simp; omega)))) | (refine Below.trans ?_ (Below.mono hb3 (by first | omega | (simp; done) | (simp; omega)))) | (refine Below.trans ?_ (Below.mono hb4 (by first | omega | (simp; done) | (simp; omega)))) | (refine Below.trans ?_ (Below.mono hb5 (by first | omega | (simp; done) | (simp; omega)))) | (refine Below.trans ?_ (Below.mono hb6 (by first | omega | (simp; done) | (simp; omega)))) | (refine Below.trans ?_ (Below.mono hb7 (by first | omega | (simp; done) | (simp; omega)))) | (refine Below.trans ?_ (Below.mono hb8 (by first | omega | (simp; done) | (simp; omega)))) | (refine Below.trans ?_ (Below.mono hb9 (by first | omega | (simp; done) | (simp; omega)))) | (refine Below.trans ?_ (Below.mono hb10 (by first | omega | (simp; done) | (simp; omega)))) | (refine Below.trans ?_ (Below.mono hb11 (by first | omega | (simp; done) | (simp; omega)))) | (refine Below.trans ?_ (Below.mono hb12 (by first | omega | (simp; done) | (simp; omega))))))) hk2⟩

theorem start_any (x : BrL w u g b cap s) (o : Ord) (r : ORef) (T : Nat → Prop) (ho : ORd w T o r) (hk : o.kind ≠ 29) :
    Calls Try.prog 171 #[.pointer (some ⟨u, 0, none⟩), OVal o r] w fun e w' => e = .returned (.int .i64 0) ∧ BrL w' u g b cap (s.lay (dress ⟨0, false, true, 0, 0⟩ o.pairs)) ∧ Chg (SB u b) w w' := by
  have hp := ho.p
  have hps := ho.ok.p
  unfold OVal
  obtain ⟨ps, hps'⟩ : ∃ ps, o.pairs = ps := ⟨_, rfl⟩
  rw [hps'] at hp hps ⊢
  clear hps' ho
  have n1 : (o.kind == 29) = false := beq_eq_false_iff_ne.2 hk
  have hcok : Cell.ok (dress ⟨0, false, true, 0, 0⟩ ps) := dress_ok (by simp [Cell.ok]) hps
  clear hk
  go_enter Try.func171, Try.ntmps171
  go_wp2_with fail
  refine (Dress_any ⟨0, false, true, 0, 0⟩ ps r.pa r.pc T (hp.below (by with_reducible (repeat (first | exact Below.refl _ _ | assumption | (refine Below.setCell ?_ (by first | omega | (simp; done) | (simp; omega)) _) | (refine Below.alloc ?_ (by first | omega | (simp; done) | (simp; omega)) _) | (refine below_drewN ?_ _) | (refine Below.drew ?_) | (refine Below.trans ?_ (Below.mono hb (by first | omega | (simp; done) | (simp; omega)))) | (refine Below.trans ?_ (Below.mono hb1 (by first | omega | (simp; done) | (simp; omega)))) | (refine Below.trans ?_ (Below.mono hb2 (by first | omega | (simp; done) | (simp; omega)))) | (refine Below.trans ?_ (Below.mono hb3 (by first | omega | (simp; done) | (simp; omega)))) | (refine Below.trans ?_ (Below.mono hb4 (by first | omega | (simp; done) | (simp; omega)))) | (refine Below.trans ?_ (Below.mono hb5 (by first | omega | (simp; done) | (simp; omega)))) | (refine Below.trans ?_ (Below.mono hb6 (by first | omega | (simp; done) | (simp; omega)))) | (refine Below.trans ?_ (Below.mono hb7 (by first | omega | (simp; done) | (simp; omega)))) | (refine Below.trans ?_ (Below.mono hb8 (by first | omega | (simp; done) | (simp; omega)))) | (refine Below.trans ?_ (Below.mono hb9 (by first | omega | (simp; done) | (simp; omega)))) | (refine Below.trans ?_ (Below.mono hb10 (by first | omega | (simp; done) | (simp; omega)))) | (refine Below.trans ?_ (Below.mono hb11 (by first | omega | (simp; done) | (simp; omega)))) | (refine Below.trans ?_ (Below.mono hb12 (by first | omega | (simp; done) | (simp; omega)))))))) hps).mono ?_
  obtain ⟨d, hd⟩ : ∃ d, dress ⟨0, false, true, 0, 0⟩ ps = d := ⟨_, rfl⟩
  rw [hd] at hcok ⊢
  have HD := Lib.hid hd
  clear hd
  rintro e w1 ⟨rfl, hb1⟩
  have hB1 : Below w.heap.size w w1 := by with_reducible (repeat (first | exact Below.refl _ _ | assumption | (refine Below.setCell ?_ (by first | omega | (simp; done) | (simp; omega)) _) | (refine Below.alloc ?_ (by first | omega | (simp; done) | (simp; omega)) _) | (refine below_drewN ?_ _) | (refine Below.drew ?_) | (refine Below.trans ?_ (Below.mono hb (by first | omega | (simp; done) | (simp; omega)))) | (refine Below.trans ?_ (Below.mono hb1 (by first | omega | (simp; done) | (simp; omega)))) | (refine Below.trans ?_ (Below.mono hb2 (by first | omega | (simp; done) | (simp; omega)))) | (refine Below.trans ?_ (Below.mono hb3 (by first | omega | (simp; done) | (simp; omega)))) | (refine Below.trans ?_ (Below.mono hb4 (by first | omega | (simp; done) | (simp; omega)))) | (refine Below.trans ?_ (Below.mono hb5 (by first | omega | (simp; done) | (simp; omega)))) | (refine Below.trans ?_ (Below.mono hb6 (by first | omega | (simp; done) | (simp; omega)))) | (refine Below.trans ?_ (Below.mono hb7 (by first | omega | (simp; done) | (simp; omega)))) | (refine Below.trans ?_ (Below.mono hb8 (by first | omega | (simp; done) | (simp; omega)))) | (refine Below.trans ?_ (Below.mono hb9 (by first | omega | (simp; done) | (simp; omega)))) | (refine Below.trans ?_ (Below.mono hb10 (by first | omega | (simp; done) | (simp; omega)))) | (refine Below.trans ?_ (Below.mono hb11 (by first | omega | (simp; done) | (simp; omega)))) | (refine Below.trans ?_ (Below.mono hb12 (by first | omega | (simp; done) | (simp; omega))))))
  have hz1 := hb1.size
  simp only [World.size_alloc] at hz1
  have y0 : w1.cell? ⟨w.heap.size + 1, 0, none⟩ = some (.int .u8 0) := (hb1.cell (by simp)).trans (by simp [go_sem])
  have y1 : w1.cell? ⟨w.heap.size + 1, 1, none⟩ = some (.bool false) := (hb1.cell (by simp)).trans (by simp [go_sem])
  have y2 : w1.cell? ⟨w.heap.size + 1, 2, none⟩ = some (.bool true) := (hb1.cell (by simp)).trans (by simp [go_sem])
  have y3 : w1.cell? ⟨w.heap.size + 1, 3, none⟩ = some (.int .u8 0) := (hb1.cell (by simp)).trans (by simp [go_sem])
  have y4 : w1.cell? ⟨w.heap.size + 1, 4, none⟩ = some (.int .u8 0) := (hb1.cell (by simp)).trans (by simp [go_sem])
  have yf : ∀ o, w1.frozen? ⟨w.heap.size + 1, o, none⟩ = false := fun o => (hb1.frozen (by simp)).trans (by simp [go_sem])
  clear hb1
  go_wp2_with fail
  refine (lay_any (x.below (by with_reducible (repeat (first | exact Below.refl _ _ | assumption | (refine Below.setCell ?_ (by first | omega | (simp; done) | (simp; omega)) _) | (refine Below.alloc ?_ (by first | omega | (simp; done) | (simp; omega)) _) | (refine below_drewN ?_ _) | (refine Below.drew ?_) | (refine Below.trans ?_ (Below.mono hb (by first | omega | (simp; done) | (simp; omega)))) | (refine Below.trans ?_ (Below.mono hb1 (by first | omega | (simp; done) | (simp; omega)))) | (refine Below.trans ?_ (Below.mono hb2 (by first | omega | (simp; done) | (simp; omega)))) | (refine Below.trans ?_ (Below.mono hb3 (by first | omega | (simp; done) | (simp; omega)))) | (refine Below.trans ?_ (Below.mono hb4 (by first | omega | (simp; done) | (simp; omega)))) | (refine Below.trans ?_ (Below.mono hb5 (by first | omega | (simp; done) | (simp; omega)))) | (refine Below.trans ?_ (Below.mono hb6 (by first | omega | (simp; done) | (simp; omega)))) | (refine Below.trans ?_ (Below.mono hb7 (by first | omega | (simp; done) | (simp; omega)))) | (refine Below.trans ?_ (Below.mono hb8 (by first | omega | (simp; done) | (simp; omega)))) | (refine Below.trans ?_ (Below.mono hb9 (by first | omega | (simp; done) | (simp; omega)))) | (refine Below.trans ?_ (Below.mono hb10 (by first | omega | (simp; done) | (simp; omega)))) | (refine Below.trans ?_ (Below.mono hb11 (by first | omega | (simp; done) | (simp; omega)))) | (refine Below.trans ?_ (Below.mono hb12 (by first | omega | (simp; done) | (simp; omega)))))))) d hcok).mono ?_
  rintro e w2 ⟨rfl, hx2, hk2⟩
  go_wp2
  go_ret
  exact ⟨rfl, by rw [HD.out]; exact hx2, chg_bel (by with_reducible (repeat (first | exact Below.refl _ _ | assumption | (refine Below.setCell ?_ (by first | omega | (simp; done) | (simp; omega)) _) | (refine Below.alloc ?_ (by first | omega | (simp; done) | (simp; omega)) _) | (refine below_drewN ?_ _) | (refine Below.drew ?_) | (refine Below.trans ?_ (Below.mono hb (by first | omega | (simp; done) | (simp; omega)))) | (refine Below.trans ?_ (Below.mono hb1 (by first | omega | (simp; done) | (simp; omega)))) | (refine Below.trans ?_ (Below.mono hb2 (by first | omega | (simp; done) | (simp; omega)))) | (refine Below.trans ?_ (Below.mono hb3 (by first | omega | (simp; done) | (simp; omega)))) | (refine Below.trans ?_ (Below.mono hb4 (by first | omega | (simp; done) | (simp; omega)))) | (refine Below.trans ?_ (Below.mono hb5 (by first | omega | (simp; done) | (simp; omega)))) | (refine Below.trans ?_ (Below.mono hb6 (by first | omega | (simp; done) | (simp; omega)))) | (refine Below.trans ?_ (Below.mono hb7 (by first | omega | (simp; done) | (simp; omega)))) | (refine Below.trans ?_ (Below.mono hb8 (by first | omega | (simp; done) | (simp; omega)))) | (refine Below.trans ?_ (Below.mono hb9 (by first | omega | (simp; done) | (simp; omega)))) | (refine Below.trans ?_ (Below.mono hb10 (by first | omega | (simp; done) | (simp; omega)))) | (refine Below.trans ?_ (Below.mono hb11 (by first | omega | (simp; done) | (simp; omega)))) | (refine Below.trans ?_ (Below.mono hb12 (by first | omega | (simp; done) | (simp; omega))))))) hk2⟩

theorem BrL.looks (x : BrL w u g b cap s) (c : Cell) (hc : c.ok) : BrL (((((w.setCell ⟨u, 2, none⟩ (.int .u8 c.byte)).setCell ⟨u, 3, none⟩ (.bool c.ge)).setCell ⟨u, 4, none⟩ (.bool c.start)).setCell ⟨u, 5, none⟩ (.int .u8 c.light)).setCell ⟨u, 6, none⟩ (.int .u8 c.color)) u g b cap { s with look := c } :=
  have hk : Chg (· = u) w (putC w u 2 c) := putC_chg (S := (· = u)) (Chg.refl _ _) (.inl rfl) _ _
  ⟨heap_set_same (heap_set_same (heap_set_same (heap_set_same (heap_set_same (l := [.pointer (some ⟨g, 0, none⟩), .int .i64 s.pos, .int .u8 s.look.byte, .bool s.look.ge, .bool s.look.start, .int .u8 s.look.light, .int .u8 s.look.color, .bool s.laid]) x.hh 2 (.int .u8 c.byte)) 3 (.bool c.ge)) 4 (.bool c.start)) 5 (.int .u8 c.light)) 6 (.int .u8 c.color),
   x.pl.chg hk (fun e => x.n1 e.symm) (fun e => x.n2 e.symm), x.n1, x.n2, ⟨x.ok.p, x.ok.a0, x.ok.a1, hc⟩⟩

theorem dress_any (x : BrL w u g b cap s) (o : Ord) (r : ORef) (T : Nat → Prop) (ho : ORd w T o r) :
    Calls Try.prog 172 #[.pointer (some ⟨u, 0, none⟩), OVal o r] w fun e w' => e = .returned (.int .i64 0) ∧ BrL w' u g b cap { s with look := dress s.look o.pairs } ∧ Chg (SB u b) w w' := by
  have hp := ho.p
  have hps := ho.ok.p
  unfold OVal
  obtain ⟨ps, hps'⟩ : ∃ ps, o.pairs = ps := ⟨_, rfl⟩
  rw [hps'] at hp hps ⊢
  clear hps' ho
  have hul := x.hl
  have c2 := x.c2
  have c3 := x.c3
  have c4 := x.c4
  have c5 := x.c5
  have c6 := x.c6
  have fz := x.fz
  have hcok := dress_ok x.ok.l hps
  obtain ⟨d, hd⟩ : ∃ d, dress s.look ps = d := ⟨_, rfl⟩
  have HD := Lib.hid hd
  rw [hd] at hcok ⊢
  clear hd
  go_enter Try.func172, Try.ntmps172
  go_wp2
  go_region_law (first
      | (go_simp; go_at_call 205; refine (Dress_any s.look ps r.pa r.pc T (hp.below (by with_reducible (repeat (first | exact Below.refl _ _ | assumption | (refine Below.setCell ?_ (by first | omega | (simp; done) | (simp; omega)) _) | (refine Below.alloc ?_ (by first | omega | (simp; done) | (simp; omega)) _) | (refine below_drewN ?_ _) | (refine Below.drew ?_) | (refine Below.trans ?_ (Below.mono hb (by first | omega | (simp; done) | (simp; omega)))) | (refine Below.trans ?_ (Below.mono hb1 (by first | omega | (simp; done) | (simp; omega)))) | (refine Below.trans ?_ (Below.mono hb2 (by first | omega | (simp; done) | (simp; omega)))) | (refine Below.trans ?_ (Below.mono hb3 (by first | omega | (simp; done) | (simp; omega)))) | (refine Below.trans ?_ (Below.mono hb4 (by first | omega | (simp; done) | (simp; omega)))) | (refine Below.trans ?_ (Below.mono hb5 (by first | omega | (simp; done) | (simp; omega)))) | (refine Below.trans ?_ (Below.mono hb6 (by first | omega | (simp; done) | (simp; omega)))) | (refine Below.trans ?_ (Below.mono hb7 (by first | omega | (simp; done) | (simp; omega)))) | (refine Below.trans ?_ (Below.mono hb8 (by first | omega | (simp; done) | (simp; omega)))) | (refine Below.trans ?_ (Below.mono hb9 (by first | omega | (simp; done) | (simp; omega)))) | (refine Below.trans ?_ (Below.mono hb10 (by first | omega | (simp; done) | (simp; omega)))) | (refine Below.trans ?_ (Below.mono hb11 (by first | omega | (simp; done) | (simp; omega)))) | (refine Below.trans ?_ (Below.mono hb12 (by first | omega | (simp; done) | (simp; omega)))))))) hps).mono ?_; rw [HD.out]; rintro e w1 ⟨rfl, hb1⟩; have hB1 : Below w.heap.size w w1 := (by with_reducible (repeat (first | exact Below.refl _ _ | assumption | (refine Below.setCell ?_ (by first | omega | (simp; done) | (simp; omega)) _) | (refine Below.alloc ?_ (by first | omega | (simp; done) | (simp; omega)) _) | (refine below_drewN ?_ _) | (refine Below.drew ?_) | (refine Below.trans ?_ (Below.mono hb (by first | omega | (simp; done) | (simp; omega)))) | (refine Below.trans ?_ (Below.mono hb1 (by first | omega | (simp; done) | (simp; omega)))) | (refine Below.trans ?_ (Below.mono hb2 (by first | omega | (simp; done) | (simp; omega)))) | (refine Below.trans ?_ (Below.mono hb3 (by first | omega | (simp; done) | (simp; omega)))) | (refine Below.trans ?_ (Below.mono hb4 (by first | omega | (simp; done) | (simp; omega)))) | (refine Below.trans ?_ (Below.mono hb5 (by first | omega | (simp; done) | (simp; omega)))) | (refine Below.trans ?_ (Below.mono hb6 (by first | omega | (simp; done) | (simp; omega)))) | (refine Below.trans ?_ (Below.mono hb7 (by first | omega | (simp; done) | (simp; omega)))) | (refine Below.trans ?_ (Below.mono hb8 (by first | omega | (simp; done) | (simp; omega)))) | (refine Below.trans ?_ (Below.mono hb9 (by first | omega | (simp; done) | (simp; omega)))) | (refine Below.trans ?_ (Below.mono hb10 (by first | omega | (simp; done) | (simp; omega)))) | (refine Below.trans ?_ (Below.mono hb11 (by first | omega | (simp; done) | (simp; omega)))) | (refine Below.trans ?_ (Below.mono hb12 (by first | omega | (simp; done) | (simp; omega))))))); have hz1 := hB1.size; have x1 := x.below hB1; have a2 := x1.c2; have a3 := x1.c3; have a4 := x1.c4; have a5 := x1.c5; have a6 := x1.c6; have fz1 := x1.fz))
  all_goals
    go_wp2
    go_ret
    exact ⟨rfl, x1.looks d hcok, SB_chg (putC_chg (S := (· = u)) (Chg.of_below hB1) (.inl rfl) 2 d) (fun k e => .inl e)⟩

theorem cursor_any (x : BrL w u g b cap s) (o : Ord) (r : ORef) :
    Calls Try.prog 174 #[.pointer (some ⟨u, 0, none⟩), OVal o r] w fun e w' => e = .returned (.int .i64 0) ∧ BrL w' u g b cap { s with P := s.P.point s.pos } ∧ Chg (· = g) w w' := by
  have c0 := x.c0
  have c1 := x.c1
  have hul := x.hl
  have n1 := x.n1
  obtain ⟨a0, a1⟩ := And.intro x.ok.a0 x.ok.a1
  unfold OVal
  go_enter Try.func174, Try.ntmps174
  go_wp2
  go_region_held3 (fun w' => w'.cell? ⟨u, 0, none⟩ = some (.pointer (some ⟨g, 0, none⟩)) ∧ w'.cell? ⟨u, 1, none⟩ = some (.int .i64 s.pos)) (first | exact keep2C (by assumption) hk1 n1 n1 | go_keep)
    (first
      | (go_at_call 49; refine (Point_in (x.pl.below (by with_reducible (repeat (first | exact Below.refl _ _ | assumption | (refine Below.setCell ?_ (by first | omega | (simp; done) | (simp; omega)) _) | (refine Below.alloc ?_ (by first | omega | (simp; done) | (simp; omega)) _) | (refine below_drewN ?_ _) | (refine Below.drew ?_) | (refine Below.trans ?_ (Below.mono hb (by first | omega | (simp; done) | (simp; omega)))) | (refine Below.trans ?_ (Below.mono hb1 (by first | omega | (simp; done) | (simp; omega)))) | (refine Below.trans ?_ (Below.mono hb2 (by first | omega | (simp; done) | (simp; omega)))) | (refine Below.trans ?_ (Below.mono hb3 (by first | omega | (simp; done) | (simp; omega)))) | (refine Below.trans ?_ (Below.mono hb4 (by first | omega | (simp; done) | (simp; omega)))) | (refine Below.trans ?_ (Below.mono hb5 (by first | omega | (simp; done) | (simp; omega)))) | (refine Below.trans ?_ (Below.mono hb6 (by first | omega | (simp; done) | (simp; omega)))) | (refine Below.trans ?_ (Below.mono hb7 (by first | omega | (simp; done) | (simp; omega)))) | (refine Below.trans ?_ (Below.mono hb8 (by first | omega | (simp; done) | (simp; omega)))) | (refine Below.trans ?_ (Below.mono hb9 (by first | omega | (simp; done) | (simp; omega)))) | (refine Below.trans ?_ (Below.mono hb10 (by first | omega | (simp; done) | (simp; omega)))) | (refine Below.trans ?_ (Below.mono hb11 (by first | omega | (simp; done) | (simp; omega)))) | (refine Below.trans ?_ (Below.mono hb12 (by first | omega | (simp; done) | (simp; omega)))))))) s.pos a0 a1).mono ?_; rintro e w1 ⟨rfl, hP1, hk1⟩; have hB1 : Chg (· = g) w w1 := (chg_bel (by with_reducible (repeat (first | exact Below.refl _ _ | assumption | (refine Below.setCell ?_ (by first | omega | (simp; done) | (simp; omega)) _) | (refine Below.alloc ?_ (by first | omega | (simp; done) | (simp; omega)) _) | (refine below_drewN ?_ _) | (refine Below.drew ?_) | (refine Below.trans ?_ (Below.mono hb (by first | omega | (simp; done) | (simp; omega)))) | (refine Below.trans ?_ (Below.mono hb1 (by first | omega | (simp; done) | (simp; omega)))) | (refine Below.trans ?_ (Below.mono hb2 (by first | omega | (simp; done) | (simp; omega)))) | (refine Below.trans ?_ (Below.mono hb3 (by first | omega | (simp; done) | (simp; omega)))) | (refine Below.trans ?_ (Below.mono hb4 (by first | omega | (simp; done) | (simp; omega)))) | (refine Below.trans ?_ (Below.mono hb5 (by first | omega | (simp; done) | (simp; omega)))) | (refine Below.trans ?_ (Below.mono hb6 (by first | omega | (simp; done) | (simp; omega)))) | (refine Below.trans ?_ (Below.mono hb7 (by first | omega | (simp; done) | (simp; omega)))) | (refine Below.trans ?_ (Below.mono hb8 (by first | omega | (simp; done) | (simp; omega)))) | (refine Below.trans ?_ (Below.mono hb9 (by first | omega | (simp; done) | (simp; omega)))) | (refine Below.trans ?_ (Below.mono hb10 (by first | omega | (simp; done) | (simp; omega)))) | (refine Below.trans ?_ (Below.mono hb11 (by first | omega | (simp; done) | (simp; omega)))) | (refine Below.trans ?_ (Below.mono hb12 (by first | omega | (simp; done) | (simp; omega))))))) hk1); have x1 := x.turn hB1 n1 hP1 rfl))
  go_wp2
  go_ret
  exact ⟨rfl, x1, hB1⟩

end Go.Proofs.Ytbkddgeocmkegaa

namespace Go.Proofs.Ytbkddgeocmkegaa
open Go.RowKit Go.Shelf
set_option linter.unusedSimpArgs false
set_option linter.unusedVariables false
set_option maxHeartbeats 2000000
attribute [local go_sem ↓] run_start run_byte run_cols

variable {w : World} {u g b cap : Nat} {s : Br}
set_option maxHeartbeats 8000000 in
theorem modify_any (x : BrL w u g b cap s) (o : Ord) (r : ORef) (T : Nat → Prop) (ho : ORd w T o r) :
    Calls Try.prog 173 #[.pointer (some ⟨u, 0, none⟩), OVal o r] w fun e w' => e = .returned (.int .i64 (if (s.P.at s.pos).start then 0 else 31)) ∧ BrL w' u g b cap (if (s.P.at s.pos).start then s.lay (dress (s.P.at s.pos) o.pairs) else s) ∧ Chg (SB u b) w w' := by
  have hp := ho.p
  have hps := ho.ok.p
  unfold OVal
  obtain ⟨ps, hps'⟩ : ∃ ps, o.pairs = ps := ⟨_, rfl⟩
  rw [hps'] at hp hps ⊢
  clear hps' ho
  have c0 := x.c0
  have c1 := x.c1
  have hul := x.hl
  have hcok := dress_ok (Pl.at_ok x.ok.p s.pos) hps
  obtain ⟨c, hc⟩ : ∃ c, s.P.at s.pos = c := ⟨_, rfl⟩
  have HC := Lib.hid hc
  rw [hc] at hcok ⊢
  clear hc
  obtain ⟨cb, cg, cst, cl, cc⟩ := c
  cases cst
  · go_enter Try.func173, Try.ntmps173
    go_wp2
    go_region_held3 (fun w' => w'.cell? ⟨u, 0, none⟩ = some (.pointer (some ⟨g, 0, none⟩)) ∧ w'.cell? ⟨u, 1, none⟩ = some (.int .i64 s.pos)) (first | exact keep2 (by assumption) hb1 | exact ⟨(x.below (by with_reducible (repeat (first | exact Below.refl _ _ | assumption | (refine Below.setCell ?_ (by first | omega | (simp; done) | (simp; omega)) _) | (refine Below.alloc ?_ (by first | omega | (simp; done) | (simp; omega)) _) | (refine below_drewN ?_ _) | (refine Below.drew ?_) | (refine Below.trans ?_ (Below.mono hb (by first | omega | (simp; done) | (simp; omega)))) | (refine Below.trans ?_ (Below.mono hb1 (by first | omega | (simp; done) | (simp; omega)))) | (refine Below.trans ?_ (Below.mono hb2 (by first | omega | (simp; done) | (simp; omega)))) | (refine Below.trans ?_ (Below.mono hb3 (by first | omega | (simp; done) | (simp; omega)))) | (refine Below.trans ?_ (Below.mono hb4 (by first | omega | (simp; done) | (simp; omega)))) | (refine Below.trans ?_ (Below.mono hb5 (by first | omega | (simp; done) | (simp; omega)))) | (refine Below.trans ?_ (Below.mono hb6 (by first | omega | (simp; done) | (simp; omega)))) | (refine Below.trans ?_ (Below.mono hb7 (by first | omega | (simp; done) | (simp; omega)))) | (refine Below.trans ?_ (Below.mono hb8 (by first | omega | (simp; done) | (simp; omega)))) | (refine Below.trans ?_ (Below.mono hb9 (by first | omega | (simp; done) | (simp; omega)))) | (refine Below.trans ?_ (Below.mono hb10 (by first | omega | (simp; done) | (simp; omega)))) | (refine Below.trans ?_ (Below.mono hb11 (by first | omega | (simp; done) | (simp; omega)))) | (refine Below.trans ?_ (Below.mono hb12 (by first | omega | (simp; done) | (simp; omega)))))))).c0, (x.below (by with_reducible (repeat (first | exact Below.refl _ _ | assumption | (refine Below.setCell ?_ (by first | omega | (simp; done) | (simp; omega)) _) | (refine Below.alloc ?_ (by first | omega | (simp; done) | (simp; omega)) _) | (refine below_drewN ?_ _) | (refine Below.drew ?_) | (refine Below.trans ?_ (Below.mono hb (by first | omega | (simp; done) | (simp; omega)))) | (refine Below.trans ?_ (Below.mono hb1 (by first | omega | (simp; done) | (simp; omega)))) | (refine Below.trans ?_ (Below.mono hb2 (by first | omega | (simp; done) | (simp; omega)))) | (refine Below.trans ?_ (Below.mono hb3 (by first | omega | (simp; done) | (simp; omega)))) | (refine Below.trans ?_ (Below.mono hb4 (by first | omega | (simp; done) | (simp; omega)))) | (refine Below.trans ?_ (Below.mono hb5 (by first | omega | (simp; done) | (simp; omega)))) | (refine Below.trans ?_ (Below.mono hb6 (by first | omega | (simp; done) | (simp; omega)))) | (refine Below.trans ?_ (Below.mono hb7 (by first | omega | (simp; done) | (simp; omega)))) | (refine Below.trans ?_ (Below.mono hb8 (by first | omega | (simp; done) | (simp; omega)))) | (refine Below.trans ?_ (Below.mono hb9 (by first | omega | (simp; done) | (simp; omega)))) | (refine Below.trans ?_ (Below.mono hb10 (by first | omega | (simp; done) | (simp; omega)))) | (refine Below.trans ?_ (Below.mono hb11 (by first | omega | (simp; done) | (simp; omega)))) | (refine Below.trans ?_ (Below.mono hb12 (by first | omega | (simp; done) | (simp; omega)))))))).c1⟩ | go_keep)
      (first
        | (go_at_call 55; refine (At_any (w := ((w.alloc _).alloc _).drew) (x.pl.below (by with_reducible (repeat (first | exact Below.refl _ _ | assumption | (refine Below.setCell ?_ (by first | omega | (simp; done) | (simp; omega)) _) | (refine Below.alloc ?_ (by first | omega | (simp; done) | (simp; omega)) _) | (refine below_drewN ?_ _) | (refine Below.drew ?_) | (refine Below.trans ?_ (Below.mono hb (by first | omega | (simp; done) | (simp; omega)))) | (refine Below.trans ?_ (Below.mono hb1 (by first | omega | (simp; done) | (simp; omega)))) | (refine Below.trans ?_ (Below.mono hb2 (by first | omega | (simp; done) | (simp; omega)))) | (refine Below.trans ?_ (Below.mono hb3 (by first | omega | (simp; done) | (simp; omega)))) | (refine Below.trans ?_ (Below.mono hb4 (by first | omega | (simp; done) | (simp; omega)))) | (refine Below.trans ?_ (Below.mono hb5 (by first | omega | (simp; done) | (simp; omega)))) | (refine Below.trans ?_ (Below.mono hb6 (by first | omega | (simp; done) | (simp; omega)))) | (refine Below.trans ?_ (Below.mono hb7 (by first | omega | (simp; done) | (simp; omega)))) | (refine Below.trans ?_ (Below.mono hb8 (by first | omega | (simp; done) | (simp; omega)))) | (refine Below.trans ?_ (Below.mono hb9 (by first | omega | (simp; done) | (simp; omega)))) | (refine Below.trans ?_ (Below.mono hb10 (by first | omega | (simp; done) | (simp; omega)))) | (refine Below.trans ?_ (Below.mono hb11 (by first | omega | (simp; done) | (simp; omega)))) | (refine Below.trans ?_ (Below.mono hb12 (by first | omega | (simp; done) | (simp; omega)))))))) s.pos).mono ?_; rw [HC.out]; rintro e w1 ⟨rfl, hb1⟩; have hB1 : Below w.heap.size w w1 := (by with_reducible (repeat (first | exact Below.refl _ _ | assumption | (refine Below.setCell ?_ (by first | omega | (simp; done) | (simp; omega)) _) | (refine Below.alloc ?_ (by first | omega | (simp; done) | (simp; omega)) _) | (refine below_drewN ?_ _) | (refine Below.drew ?_) | (refine Below.trans ?_ (Below.mono hb (by first | omega | (simp; done) | (simp; omega)))) | (refine Below.trans ?_ (Below.mono hb1 (by first | omega | (simp; done) | (simp; omega)))) | (refine Below.trans ?_ (Below.mono hb2 (by first | omega | (simp; done) | (simp; omega)))) | (refine Below.trans ?_ (Below.mono hb3 (by first | omega | (simp; done) | (simp; omega)))) | (refine Below.trans ?_ (Below.mono hb4 (by first | omega | (simp; done) | (simp; omega)))) | (refine Below.trans ?_ (Below.mono hb5 (by first | omega | (simp; done) | (simp; omega)))) | (refine Below.trans ?_ (Below.mono hb6 (by first | omega | (simp; done) | (simp; omega)))) | (refine Below.trans ?_ (Below.mono hb7 (by first | omega | (simp; done) | (simp; omega)))) | (refine Below.trans ?_ (Below.mono hb8 (by first | omega | (simp; done) | (simp; omega)))) | (refine Below.trans ?_ (Below.mono hb9 (by first | omega | (simp; done) | (simp; omega)))) | (refine Below.trans ?_ (Below.mono hb10 (by first | omega | (simp; done) | (simp; omega)))) | (refine Below.trans ?_ (Below.mono hb11 (by first | omega | (simp; done) | (simp; omega)))) | (refine Below.trans ?_ (Below.mono hb12 (by first | omega | (simp; done) | (simp; omega))))))); have hz1 := hB1.size; have hzz := hb1.size; simp only [World.size_alloc, World.size_drew] at hzz; have hlt9 : w.heap.size < w1.heap.size := (by omega); have z4 : w1.cell? ⟨w.heap.size, 4, none⟩ = some (.slice r.pa ps.length r.pc) := (hb1.cell (by first | omega | (simp; done) | (simp; omega))).trans (by simp [go_sem]); have y0 : w1.cell? ⟨w.heap.size + 1, 0, none⟩ = some (.int .u8 0) := (hb1.cell (by simp)).trans (by simp [go_sem]); have y1 : w1.cell? ⟨w.heap.size + 1, 1, none⟩ = some (.bool false) := (hb1.cell (by simp)).trans (by simp [go_sem]); have y2 : w1.cell? ⟨w.heap.size + 1, 2, none⟩ = some (.bool false) := (hb1.cell (by simp)).trans (by simp [go_sem]); have y3 : w1.cell? ⟨w.heap.size + 1, 3, none⟩ = some (.int .u8 0) := (hb1.cell (by simp)).trans (by simp [go_sem]); have y4 : w1.cell? ⟨w.heap.size + 1, 4, none⟩ = some (.int .u8 0) := (hb1.cell (by simp)).trans (by simp [go_sem]); have yf : ∀ o, w1.frozen? ⟨w.heap.size + 1, o, none⟩ = false := fun o => (hb1.frozen (by simp)).trans (by simp [go_sem]))
        | (go_at_call 55; refine (At_any (x.pl.below (by with_reducible (repeat (first | exact Below.refl _ _ | assumption | (refine Below.setCell ?_ (by first | omega | (simp; done) | (simp; omega)) _) | (refine Below.alloc ?_ (by first | omega | (simp; done) | (simp; omega)) _) | (refine below_drewN ?_ _) | (refine Below.drew ?_) | (refine Below.trans ?_ (Below.mono hb (by first | omega | (simp; done) | (simp; omega)))) | (refine Below.trans ?_ (Below.mono hb1 (by first | omega | (simp; done) | (simp; omega)))) | (refine Below.trans ?_ (Below.mono hb2 (by first | omega | (simp; done) | (simp; omega)))) | (refine Below.trans ?_ (Below.mono hb3 (by first | omega | (simp; done) | (simp; omega)))) | (refine Below.trans ?_ (Below.mono hb4 (by first | omega | (simp; done) | (simp; omega)))) | (refine Below.trans ?_ (Below.mono hb5 (by first | omega | (simp; done) | (simp; omega)))) | (refine Below.trans ?_ (Below.mono hb6 (by first | omega | (simp; done) | (simp; omega)))) | (refine Below.trans ?_ (Below.mono hb7 (by first | omega | (simp; done) | (simp; omega)))) | (refine Below.trans ?_ (Below.mono hb8 (by first | omega | (simp; done) | (simp; omega)))) | (refine Below.trans ?_ (Below.mono hb9 (by first | omega | (simp; done) | (simp; omega)))) | (refine Below.trans ?_ (Below.mono hb10 (by first | omega | (simp; done) | (simp; omega)))) | (refine Below.trans ?_ (Below.mono hb11 (by first | omega | (simp; done) | (simp; omega)))) | (refine Below.trans ?_ (Below.mono hb12 (by first | omega | (simp; done) | (simp; omega)))))))) s.pos).mono ?_; rw [HC.out]; rintro e w1 ⟨rfl, hb1⟩; have hB1 : Below w.heap.size w w1 := (by with_reducible (repeat (first | exact Below.refl _ _ | assumption | (refine Below.setCell ?_ (by first | omega | (simp; done) | (simp; omega)) _) | (refine Below.alloc ?_ (by first | omega | (simp; done) | (simp; omega)) _) | (refine below_drewN ?_ _) | (refine Below.drew ?_) | (refine Below.trans ?_ (Below.mono hb (by first | omega | (simp; done) | (simp; omega)))) | (refine Below.trans ?_ (Below.mono hb1 (by first | omega | (simp; done) | (simp; omega)))) | (refine Below.trans ?_ (Below.mono hb2 (by first | omega | (simp; done) | (simp; omega)))) | (refine Below.trans ?_ (Below.mono hb3 (by first | omega | (simp; done) | (simp; omega)))) | (refine Below.trans ?_ (Below.mono hb4 (by first | omega | (simp; done) | (simp; omega)))) | (refine Below.trans ?_ (Below.mono hb5 (by first | omega | (simp; done) | (simp; omega)))) | (refine Below.trans ?_ (Below.mono hb6 (by first | omega | (simp; done) | (simp; omega)))) | (refine Below.trans ?_ (Below.mono hb7 (by first | omega | (simp; done) | (simp; omega)))) | (refine Below.trans ?_ (Below.mono hb8 (by first | omega | (simp; done) | (simp; omega)))) | (refine Below.trans ?_ (Below.mono hb9 (by first | omega | (simp; done) | (simp; omega)))) | (refine Below.trans ?_ (Below.mono hb10 (by first | omega | (simp; done) | (simp; omega)))) | (refine Below.trans ?_ (Below.mono hb11 (by first | omega | (simp; done) | (simp; omega)))) | (refine Below.trans ?_ (Below.mono hb12 (by first | omega | (simp; done) | (simp; omega))))))); have hz1 := hB1.size; have hzz := hb1.size; simp only [World.size_alloc, World.size_drew] at hzz; have hlt9 : w.heap.size < w1.heap.size := (by omega); have z4 : w1.cell? ⟨w.heap.size, 4, none⟩ = some (.slice r.pa ps.length r.pc) := (hb1.cell (by simp)).trans (by simp [go_sem])))
    all_goals
      go_wp2
      go_ret
      exact ⟨rfl, x.below (by with_reducible (repeat (first | exact Below.refl _ _ | assumption | (refine Below.setCell ?_ (by first | omega | (simp; done) | (simp; omega)) _) | (refine Below.alloc ?_ (by first | omega | (simp; done) | (simp; omega)) _) | (refine below_drewN ?_ _) | (refine Below.drew ?_) | (refine Below.trans ?_ (Below.mono hb (by first | omega | (simp; done) | (simp; omega)))) | (refine Below.trans ?_ (Below.mono hb1 (by first | omega | (simp; done) | (simp; omega)))) | (refine Below.trans ?_ (Below.mono hb2 (by first | omega | (simp; done) | (simp; omega)))) | (refine Below.trans ?_ (Below.mono hb3 (by first | omega | (simp; done) | (simp; omega)))) | (refine Below.trans ?_ (Below.mono hb4 (by first | omega | (simp; done) | (simp; omega)))) | (refine Below.trans ?_ (Below.mono hb5 (by first | omega | (simp; done) | (simp; omega)))) | (refine Below.trans ?_ (Below.mono hb6 (by first | omega | (simp; done) | (simp; omega)))) | (refine Below.trans ?_ (Below.mono hb7 (by first | omega | (simp; done) | (simp; omega)))) | (refine Below.trans ?_ (Below.mono hb8 (by first | omega | (simp; done) | (simp; omega)))) | (refine Below.trans ?_ (Below.mono hb9 (by first | omega | (simp; done) | (simp; omega)))) | (refine Below.trans ?_ (Below.mono hb10 (by first | omega | (simp; done) | (simp; omega)))) | (refine Below.trans ?_ (Below.mono hb11 (by first | omega | (simp; done) | (simp; omega)))) | (refine Below.trans ?_ (Below.mono hb12 (by first | omega | (simp; done) | (simp; omega))))))), Chg.of_below (by with_reducible (repeat (first | exact Below.refl _ _ | assumption | (refine Below.setCell ?_ (by first | omega | (simp; done) | (simp; omega)) _) | (refine Below.alloc ?_ (by first | omega | (simp; done) | (simp; omega)) _) | (refine below_drewN ?_ _) | (refine Below.drew ?_) | (refine Below.trans ?_ (Below.mono hb (by first | omega | (simp; done) | (simp; omega)))) | (refine Below.trans ?_ (Below.mono hb1 (by first | omega | (simp; done) | (simp; omega)))) | (refine Below.trans ?_ (Below.mono hb2 (by first | omega | (simp; done) | (simp; omega)))) | (refine Below.trans ?_ (Below.mono hb3 (by first | omega | (simp; done) | (simp; omega)))) | (refine Below.trans ?_ (Below.mono hb4 (by first | omega | (simp; done) | (simp; omega)))) | (refine Below.trans ?_ (Below.mono hb5 (by first | omega | (simp; done) | (simp; omega)))) | (refine Below.trans ?_ (Below.mono hb6 (by first | omega | (simp; done) | (simp; omega)))) | (refine Below.trans ?_ (Below.mono hb7 (by first | omega | (simp; done) | (simp; omega)))) | (refine Below.trans ?_ (Below.mono hb8 (by first | omega | (simp; done) | (simp; omega)))) | (refine Below.trans ?_ (Below.mono hb9 (by first | omega | (simp; done) | (simp; omega)))) | (refine Below.trans ?_ (Below.mono hb10 (by first | omega | (simp; done) | (simp; omega)))) | (refine Below.trans ?_ (Below.mono hb11 (by first | omega | (simp; done) | (simp; omega)))) | (refine Below.trans ?_ (Below.mono hb12 (by first | omega | (simp; done) | (simp; omega)))))))⟩
  · go_enter Try.func173, Try.ntmps173
    go_wp2
    go_region_held3 (fun w' => w'.cell? ⟨u, 0, none⟩ = some (.pointer (some ⟨g, 0, none⟩)) ∧ w'.cell? ⟨u, 1, none⟩ = some (.int .i64 s.pos)) (first | exact keep2 (by assumption) hb1 | exact ⟨(x.below (by with_reducible (repeat (first | exact Below.refl _ _ | assumption | (refine Below.setCell ?_ (by first | omega | (simp; done) | (simp; omega)) _) | (refine Below.alloc ?_ (by first | omega | (simp; done) | (simp; omega)) _) | (refine below_drewN ?_ _) | (refine Below.drew ?_) | (refine Below.trans ?_ (Below.mono hb (by first | omega | (simp; done) | (simp; omega)))) | (refine Below.trans ?_ (Below.mono hb1 (by first | omega | (simp; done) | (simp; omega)))) | (refine Below.trans ?_ (Below.mono hb2 (by first | omega | (simp; done) | (simp; omega)))) | (refine Below.trans ?_ (Below.mono hb3 (by first | omega | (simp; done) | (simp; omega)))) | (refine Below.trans ?_ (Below.mono hb4 (by first | omega | (simp; done) | (simp; omega)))) | (refine Below.trans ?_ (Below.mono hb5 (by first | omega | (simp; done) | (simp; omega)))) | (refine Below.trans ?_ (Below.mono hb6 (by first | omega | (simp; done) | (simp; omega)))) | (refine Below.trans ?_ (Below.mono hb7 (by first | omega | (simp; done) | (simp; omega)))) | (refine Below.trans ?_ (Below.mono hb8 (by first | omega | (simp; done) | (simp; omega)))) | (refine Below.trans ?_ (Below.mono hb9 (by first | omega | (simp; done) | (simp; omega)))) | (refine Below.trans ?_ (Below.mono hb10 (by first | omega | (simp; done) | (simp; omega)))) | (refine Below.trans ?_ (Below.mono hb11 (by first | omega | (simp; done) | (simp; omega)))) | (refine Below.trans ?_ (Below.mono hb12 (by first | omega | (simp; done) | (simp; omega)))))))).c0, (x.below (by with_reducible (repeat (first | exact Below.refl _ _ | assumption | (refine Below.setCell ?_ (by first | omega | (simp; done) | (simp; omega)) _) | (refine Below.alloc ?_ (by first | omega | (simp; done) | (simp; omega)) _) | (refine below_drewN ?_ _) | (refine Below.drew ?_) | (refine Below.trans ?_ (Below.mono hb (by first | omega | (simp; done) | (simp; omega)))) | (refine Below.trans ?_ (Below.mono hb1 (by first | omega | (simp; done) | (simp; omega)))) | (refine Below.trans ?_ (Below.mono hb2 (by first | omega | (simp; done) | (simp; omega)))) | (refine Below.trans ?_ (Below.mono hb3 (by first | omega | (simp; done) | (simp; omega)))) | (refine Below.trans ?_ (Below.mono hb4 (by first | omega | (simp; done) | (simp; omega)))) | (refine Below.trans ?_ (Below.mono hb5 (by first | omega | (simp; done) | (simp; omega)))) | (refine Below.trans ?_ (Below.mono hb6 (by first | omega | (simp; done) | (simp; omega)))) | (refine Below.trans ?_ (Below.mono hb7 (by first | omega | (simp; done) | (simp; omega)))) | (refine Below.trans ?_ (Below.mono hb8 (by first | omega | (simp; done) | (simp; omega)))) | (refine Below.trans ?_ (Below.mono hb9 (by first | omega | (simp; done) | (simp; omega)))) | (refine Below.trans ?_ (Below.mono hb10 (by first | omega | (simp; done) | (simp; omega)))) | (refine Below.trans ?_ (Below.mono hb11 (by first | omega | (simp; done) | (simp; omega)))) | (refine Below.trans ?_ (Below.mono hb12 (by first | omega | (simp; done) | (simp; omega)))))))).c1⟩ | go_keep)
      (first
        | (go_at_call 55; refine (At_any (w := ((w.alloc _).alloc _).drew) (x.pl.below (by with_reducible (repeat (first | exact Below.refl _ _ | assumption | (refine Below.setCell ?_ (by first | omega | (simp; done) | (simp; omega)) _) | (refine Below.alloc ?_ (by first | omega | (simp; done) | (simp; omega)) _) | (refine below_drewN ?_ _) | (refine Below.drew ?_) | (refine Below.trans ?_ (Below.mono hb (by first | omega | (simp; done) | (simp; omega)))) | (refine Below.trans ?_ (Below.mono hb1 (by first | omega | (simp; done) | (simp; omega)))) | (refine Below.trans ?_ (Below.mono hb2 (by first | omega | (simp; done) | (simp; omega)))) | (refine Below.trans ?_ (Below.mono hb3 (by first | omega | (simp; done) | (simp; omega)))) | (refine Below.trans ?_ (Below.mono hb4 (by first | omega | (simp; done) | (simp; omega)))) | (refine Below.trans ?_ (Below.mono hb5 (by first | omega | (simp; done) | (simp; omega)))) | (refine Below.trans ?_ (Below.mono hb6 (by first | omega | (simp; done) | (simp; omega)))) | (refine Below.trans ?_ (Below.mono hb7 (by first | omega | (simp; done) | (simp; omega)))) | (refine Below.trans ?_ (Below.mono hb8 (by first | omega | (simp; done) | (simp; omega)))) | (refine Below.trans ?_ (Below.mono hb9 (by first | omega | (simp; done) | (simp; omega)))) | (refine Below.trans ?_ (Below.mono hb10 (by first | omega | (simp; done) | (simp; omega)))) | (refine Below.trans ?_ (Below.mono hb11 (by first | omega | (simp; done) | (simp; omega)))) | (refine Below.trans ?_ (Below.mono hb12 (by first | omega | (simp; done) | (simp; omega)))))))) s.pos).mono ?_; rw [HC.out]; rintro e w1 ⟨rfl, hb1⟩; have hB1 : Below w.heap.size w w1 := (by with_reducible (repeat (first | exact Below.refl _ _ | assumption | (refine Below.setCell ?_ (by first | omega | (simp; done) | (simp; omega)) _) | (refine Below.alloc ?_ (by first | omega | (simp; done) | (simp; omega)) _) | (refine below_drewN ?_ _) | (refine Below.drew ?_) | (refine Below.trans ?_ (Below.mono hb (by first | omega | (simp; done) | (simp; omega)))) | (refine Below.trans ?_ (Below.mono hb1 (by first | omega | (simp; done) | (simp; omega)))) | (refine Below.trans ?_ (Below.mono hb2 (by first | omega | (simp; done) | (simp; omega)))) | (refine Below.trans ?_ (Below.mono hb3 (by first | omega | (simp; done) | (simp; omega)))) | (refine Below.trans ?_ (Below.mono hb4 (by first | omega | (simp; done) | (simp; omega)))) | (refine Below.trans ?_ (Below.mono hb5 (by first | omega | (simp; done) | (simp; omega)))) | (refine Below.trans ?_ (Below.mono hb6 (by first | omega | (simp; done) | (simp; omega)))) | (refine Below.trans ?_ (Below.mono hb7 (by first | omega | (simp; done) | (simp; omega)))) | (refine Below.trans ?_ (Below.mono hb8 (by first | omega | (simp; done) | (simp; omega)))) | (refine Below.trans ?_ (Below.mono hb9 (by first | omega | (simp; done) | (simp; omega)))) | (refine Below.trans ?_ (Below.mono hb10 (by first | omega | (simp; done) | (simp; omega)))) | (refine Below.trans ?_ (Below.mono hb11 (by first | omega | (simp; done) | (simp; omega)))) | (refine Below.trans ?_ (Below.mono hb12 (by first | omega | (simp; done) | (simp; omega))))))); have hz1 := hB1.size; have hzz := hb1.size; simp only [World.size_alloc, World.size_drew] at hzz; have hlt9 : w.heap.size < w1.heap.size := (by omega); have z4 : w1.cell? ⟨w.heap.size, 4, none⟩ = some (.slice r.pa ps.length r.pc) := (hb1.cell (by first | omega | (simp; done) | (simp; omega))).trans (by simp [go_sem]); have y0 : w1.cell? ⟨w.heap.size + 1, 0, none⟩ = some (.int .u8 0) := (hb1.cell (by simp)).trans (by simp [go_sem]); have y1 : w1.cell? ⟨w.heap.size + 1, 1, none⟩ = some (.bool false) := (hb1.cell (by simp)).trans (by simp [go_sem]); have y2 : w1.cell? ⟨w.heap.size + 1, 2, none⟩ = some (.bool false) := (hb1.cell (by simp)).trans (by simp [go_sem]); have y3 : w1.cell? ⟨w.heap.size + 1, 3, none⟩ = some (.int .u8 0) := (hb1.cell (by simp)).trans (by simp [go_sem]); have y4 : w1.cell? ⟨w.heap.size + 1, 4, none⟩ = some (.int .u8 0) := (hb1.cell (by simp)).trans (by simp [go_sem]); have yf : ∀ o, w1.frozen? ⟨w.heap.size + 1, o, none⟩ = false := fun o => (hb1.frozen (by simp)).trans (by simp [go_sem]))
        | (go_at_call 55; refine (At_any (x.pl.below (by with_reducible (repeat (first | exact Below.refl _ _ | assumption | (refine Below.setCell ?_ (by first | omega | (simp; done) | (simp; omega)) _) | (refine Below.alloc ?_ (by first | omega | (simp; done) | (simp; omega)) _) | (refine below_drewN ?_ _) | (refine Below.drew ?_) | (refine Below.trans ?_ (Below.mono hb (by first | omega | (simp; done) | (simp; omega)))) | (refine Below.trans ?_ (Below.mono hb1 (by first | omega | (simp; done) | (simp; omega)))) | (refine Below.trans ?_ (Below.mono hb2 (by first | omega | (simp; done) | (simp; omega)))) | (refine Below.trans ?_ (Below.mono hb3 (by first | omega | (simp; done) | (simp; omega)))) | (refine Below.trans ?_ (Below.mono hb4 (by first | omega | (simp; done) | (simp; omega)))) | (refine Below.trans ?_ (Below.mono hb5 (by first | omega | (simp; done) | (simp; omega)))) | (refine Below.trans ?_ (Below.mono hb6 (by first | omega | (simp; done) | (simp; omega)))) | (refine Below.trans ?_ (Below.mono hb7 (by first | omega | (simp; done) | (simp; omega)))) | (refine Below.trans ?_ (Below.mono hb8 (by first | omega | (simp; done) | (simp; omega)))) | (refine Below.trans ?_ (Below.mono hb9 (by first | omega | (simp; done) | (simp; omega)))) | (refine Below.trans ?_ (Below.mono hb10 (by first | omega | (simp; done) | (simp; omega)))) | (refine Below.trans ?_ (Below.mono hb11 (by first | omega | (simp; done) | (simp; omega)))) | (refine Below.trans ?_ (Below.mono hb12 (by first | omega | (simp; done) | (simp; omega)))))))) s.pos).mono ?_; rw [HC.out]; rintro e w1 ⟨rfl, hb1⟩; have hB1 : Below w.heap.size w w1 := (by with_reducible (repeat (first | exact Below.refl _ _ | assumption | (refine Below.setCell ?_ (by first | omega | (simp; done) | (simp; omega)) _) | (refine Below.alloc ?_ (by first | omega | (simp; done) | (simp; omega)) _) | (refine below_drewN ?_ _) | (refine Below.drew ?_) | (refine Below.trans ?_ (Below.mono hb (by first | omega | (simp; done) | (simp; omega)))) | (refine Below.trans ?_ (Below.mono hb1 (by first | omega | (simp; done) | (simp; omega)))) | (refine Below.trans ?_ (Below.mono hb2 (by first | omega | (simp; done) | (simp; omega)))) | (refine Below.trans ?_ (Below.mono hb3 (by first | omega | (simp; done) | (simp; omega)))) | (refine Below.trans ?_ (Below.mono hb4 (by first | omega | (simp; done) | (simp; omega)))) | (refine Below.trans ?_ (Below.mono hb5 (by first | omega | (simp; done) | (simp; omega)))) | (refine Below.trans ?_ (Below.mono hb6 (by first | omega | (simp; done) | (simp; omega)))) | (refine Below.trans ?_ (Below.mono hb7 (by first | omega | (simp; done) | (simp; omega)))) | (refine Below.trans ?_ (Below.mono hb8 (by first | omega | (simp; done) | (simp; omega)))) | (refine Below.trans ?_ (Below.mono hb9 (by first | omega | (simp; done) | (simp; omega)))) | (refine Below.trans ?_ (Below.mono hb10 (by first | omega | (simp; done) | (simp; omega)))) | (refine Below.trans ?_ (Below.mono hb11 (by first | omega | (simp; done) | (simp; omega)))) | (refine Below.trans ?_ (Below.mono hb12 (by first | omega | (simp; done) | (simp; omega))))))); have hz1 := hB1.size; have hzz := hb1.size; simp only [World.size_alloc, World.size_drew] at hzz; have hlt9 : w.heap.size < w1.heap.size := (by omega); have z4 : w1.cell? ⟨w.heap.size, 4, none⟩ = some (.slice r.pa ps.length r.pc) := (hb1.cell (by simp)).trans (by simp [go_sem])))
    all_goals
      go_wp2_with fail
      refine (Dress_any ⟨cb, cg, true, cl, cc⟩ ps r.pa r.pc T (hp.below (by with_reducible (repeat (first | exact Below.refl _ _ | assumption | (refine Below.setCell ?_ (by first | omega | (simp; done) | (simp; omega)) _) | (refine Below.alloc ?_ (by first | omega | (simp; done) | (simp; omega)) _) | (refine below_drewN ?_ _) | (refine Below.drew ?_) | (refine Below.trans ?_ (Below.mono hb (by first | omega | (simp; done) | (simp; omega)))) | (refine Below.trans ?_ (Below.mono hb1 (by first | omega | (simp; done) | (simp; omega)))) | (refine Below.trans ?_ (Below.mono hb2 (by first | omega | (simp; done) | (simp; omega)))) | (refine Below.trans ?_ (Below.mono hb3 (by first | omega | (simp; done) | (simp; omega)))) | (refine Below.trans ?_ (Below.mono hb4 (by first | omega | (simp; done) | (simp; omega)))) | (refine Below.trans ?_ (Below.mono hb5 (by first | omega | (simp; done) | (simp; omega)))) | (refine Below.trans ?_ (Below.mono hb6 (by first | omega | (simp; done) | (simp; omega)))) | (refine Below.trans ?_ (Below.mono hb7 (by first | omega | (simp; done) | (simp; omega)))) | (refine Below.trans ?_ (Below.mono hb8 (by first | omega | (simp; done) | (simp; omega)))) | (refine Below.trans ?_ (Below.mono hb9 (by first | omega | (simp; done) | (simp; omega)))) | (refine Below.trans ?_ (Below.mono hb10 (by first | omega | (simp; done) | (simp; omega)))) | (refine Below.trans ?_ (Below.mono hb11 (by first | omega | (simp; done) | (simp; omega)))) | (refine Below.trans ?_ (Below.mono hb12 (by first | omega | (simp; done) | (simp; omega)))))))) hps).mono ?_
      obtain ⟨d, hd⟩ : ∃ d, dress ⟨cb, cg, true, cl, cc⟩ ps = d := ⟨_, rfl⟩
      rw [hd] at hcok ⊢
      have HD := Lib.hid hd
      clear hd
      rintro e w2 ⟨rfl, hb2⟩
      have hB2 : Below w.heap.size w w2 := by with_reducible (repeat (first | exact Below.refl _ _ | assumption | (refine Below.setCell ?_ (by first | omega | (simp; done) | (simp; omega)) _) | (refine Below.alloc ?_ (by first | omega | (simp; done) | (simp; omega)) _) | (refine below_drewN ?_ _) | (refine Below.drew ?_) | (refine Below.trans ?_ (Below.mono hb (by first | omega | (simp; done) | (simp; omega)))) | (refine Below.trans ?_ (Below.mono hb1 (by first | omega | (simp; done) | (simp; omega)))) | (refine Below.trans ?_ (Below.mono hb2 (by first | omega | (simp; done) | (simp; omega)))) | (refine Below.trans ?_ (Below.mono hb3 (by first | omega | (simp; done) | (simp; omega)))) | (refine Below.trans ?_ (Below.mono hb4 (by first | omega | (simp; done) | (simp; omega)))) | (refine Below.trans ?_ (Below.mono hb5 (by first | omega | (simp; done) | (simp; omega)))) | (refine Below.trans ?_ (Below.mono hb6 (by first | omega | (simp; done) | (simp; omega)))) | (refine Below.trans ?_ (Below.mono hb7 (by first | omega | (simp; done) | (simp; omega)))) | (refine Below.trans ?_ (Below.mono hb8 (by first | omega | (simp; done) | (simp; omega)))) | (refine Below.trans ?_ (Below.mono hb9 (by first | omega | (simp; done) | (simp; omega)))) | (refine Below.trans ?_ (Below.mono hb10 (by first | omega | (simp; done) | (simp; omega)))) | (refine Below.trans ?_ (Below.mono hb11 (by first | omega | (simp; done) | (simp; omega)))) | (refine Below.trans ?_ (Below.mono hb12 (by first | omega | (simp; done) | (simp; omega))))))
      clear hb2
      go_wp2_with fail
      refine (lay_any (x.below hB2) d hcok).mono ?_
      rintro e w3 ⟨rfl, hx3, hk3⟩
      go_wp2
      go_ret
      exact ⟨rfl, by rw [HD.out]; exact hx3, chg_bel hB2 hk3⟩
end Go.Proofs.Ytbkddgeocmkegaa

/-! What the rest of a field is: plain laws. -/
namespace Go.Proofs.Ytbkddgeocmkegaa
set_option linter.unusedVariables false

/-- How far a place lies behind a field's attribute. -/
def dst (n s i : Int) : Int := (i - s + n) % n
theorem dst_range {n s i : Int} (hn : 0 < n) : 0 ≤ dst n s i ∧ dst n s i < n := ⟨Int.emod_nonneg _ (by omega), Int.emod_lt_of_pos _ hn⟩
theorem dst_cases {n s i : Int} (hs : 0 ≤ s ∧ s < n) (hi : 0 ≤ i ∧ i < n) : dst n s i = if s ≤ i then i - s else i - s + n := by
  unfold dst
  split
  · rw [Int.add_emod_right, Int.emod_eq_of_lt (by omega) (by omega)]
  · rw [Int.emod_eq_of_lt (by omega) (by omega)]
theorem dst_back {n s i : Int} (hs : 0 ≤ s ∧ s < n) (hi : 0 ≤ i ∧ i < n) : (s + dst n s i) % n = i := by
  rw [dst_cases hs hi]
  split
  · rw [show s + (i - s) = i by omega, Int.emod_eq_of_lt hi.1 hi.2]
  · rw [show s + (i - s + n) = i + n by omega, Int.add_emod_right, Int.emod_eq_of_lt hi.1 hi.2]
theorem dst_of {n s k : Int} (hs : 0 ≤ s ∧ s < n) (hk : 0 ≤ k ∧ k < n) : dst n s ((s + k) % n) = k := by
  have hn : 0 < n := by omega
  rw [dst_cases hs ⟨Int.emod_nonneg _ (by omega), Int.emod_lt_of_pos _ hn⟩]
  by_cases h : s + k < n
  · rw [Int.emod_eq_of_lt (by omega) h]
    split <;> omega
  · have : (s + k) % n = s + k - n := by rw [← Int.sub_emod_right, Int.emod_eq_of_lt (by omega) (by omega)]
    rw [this]
    split <;> omega
theorem dst_self {n s : Int} (hs : 0 ≤ s ∧ s < n) : dst n s s = 0 := by rw [dst_cases hs hs]; split <;> omega
theorem dst_zero {n s i : Int} (hs : 0 ≤ s ∧ s < n) (hi : 0 ≤ i ∧ i < n) (h : dst n s i = 0) : i = s := by
  have := dst_back hs hi
  rw [h, Int.add_zero, Int.emod_eq_of_lt hs.1 hs.2] at this
  exact this.symm

/-- A field that is there: how long its row of places is. -/
theorem placesN_eq {n : Int} {f : Fld} (hs : 0 ≤ f.start ∧ f.start < n) (hl : 0 ≤ f.len ∧ f.len < n) : ((places n f).length : Int) = f.len := by
  rw [places_len]
  unfold placesN
  rw [if_pos hs]
  omega
theorem places_dst {n : Int} {f : Fld} (hs : 0 ≤ f.start ∧ f.start < n) (hl : 0 ≤ f.len ∧ f.len < n) (k : Nat) (hk : k < (places n f).length) : dst n f.start (places n f)[k] = (k : Int) + 1 := by
  have := placesN_eq hs hl
  rw [places_get]
  exact dst_of hs ⟨by omega, by omega⟩
theorem places_drop_mem {n : Int} {f : Fld} (hs : 0 ≤ f.start ∧ f.start < n) (hl : 0 ≤ f.len ∧ f.len < n) (k : Nat) {i : Int} (hi : 0 ≤ i ∧ i < n) : i ∈ (places n f).drop k ↔ (k : Int) + 1 ≤ dst n f.start i ∧ dst n f.start i ≤ f.len := by
  have hlen := placesN_eq hs hl
  constructor
  · intro h
    obtain ⟨j, hj, e⟩ := List.getElem_of_mem h
    rw [List.length_drop] at hj
    rw [List.getElem_drop] at e
    have := places_dst hs hl (k + j) (by omega)
    rw [e] at this
    omega
  · rintro ⟨h1, h2⟩
    obtain ⟨m, hm⟩ : ∃ m : Nat, dst n f.start i = (m : Int) + 1 := ⟨(dst n f.start i - 1).toNat, by omega⟩
    have hmk : m < (places n f).length := by omega
    have e : (places n f)[m] = i := by
      rw [places_get, ← hm]
      exact dst_back hs hi
    rw [← e, show (places n f)[m] = ((places n f).drop k)[m - k]'(by rw [List.length_drop]; omega) by rw [List.getElem_drop]; congr 1; omega]
    exact List.getElem_mem _
theorem places_mem {n : Int} {f : Fld} (hs : 0 ≤ f.start ∧ f.start < n) (hl : 0 ≤ f.len ∧ f.len < n) {i : Int} (hi : 0 ≤ i ∧ i < n) : i ∈ places n f ↔ 1 ≤ dst n f.start i ∧ dst n f.start i ≤ f.len := by
  have := places_drop_mem hs hl 0 hi
  rw [List.drop_zero] at this
  simpa using this

/-- Whose a place is. -/
theorem ofF_fld {P : Pl} (hok : P.ok) {i : Int} (hB : P.ofB i = true) : ∃ s : Nat, s < P.cells.length ∧ P.isSt s = true ∧ P.ofF i = P.fld (s : Int) ∧ P.before i = (s : Int) ∧ P.ofs s i := by
  have h0 : 0 ≤ P.before i := of_decide_eq_true hB
  obtain ⟨s, hs⟩ : ∃ s : Nat, P.before i = (s : Int) := ⟨(P.before i).toNat, by omega⟩
  obtain ⟨h1, h2, h3⟩ := Pl.ofs_of hok hs
  exact ⟨s, h1, h2, by unfold Pl.ofF; rw [if_pos h0, hs], hs, h3⟩
theorem ofs_dst {P : Pl} (hok : P.ok) {s : Nat} (hs : s < P.cells.length) (hst : P.isSt s = true) {i : Int} (hi : 0 ≤ i ∧ i < (P.cells.length : Int)) : P.ofs s i ↔ dst (P.cells.length : Int) (s : Int) i ≤ (P.fld (s : Int)).len := by
  obtain ⟨l, hl, el, -, -⟩ := Pl.len_spec hok hs hst
  have hs' : (0 : Int) ≤ (s : Int) ∧ (s : Int) < (P.cells.length : Int) := ⟨by omega, by omega⟩
  rw [el]
  constructor
  · rintro ⟨k, hk, e⟩
    rw [el] at hk
    have : i = ((s : Int) + (k : Int)) % (P.cells.length : Int) := by rw [e]; push_cast; rfl
    rw [this, dst_of hs' ⟨by omega, by omega⟩]
    exact hk
  · intro h
    have hr := dst_range (s := (s : Int)) (i := i) (show 0 < (P.cells.length : Int) by omega)
    refine ⟨(dst (P.cells.length : Int) (s : Int) i).toNat, by rw [el]; omega, ?_⟩
    have := dst_back hs' hi
    push_cast
    rw [Int.toNat_of_nonneg hr.1]
    exact this.symm
end Go.Proofs.Ytbkddgeocmkegaa

/-! What is let go of a field: plain laws. -/
namespace Go.Proofs.Ytbkddgeocmkegaa
set_option linter.unusedVariables false

theorem st_ofB {P : Pl} (hok : P.ok) {s : Nat} (hs : s < P.cells.length) (hst : P.isSt s = true) {i : Int} (hi : 0 ≤ i ∧ i < (P.cells.length : Int)) : P.ofB i = true := by
  have hn := Pl.N_pos hok
  obtain ⟨a, rfl⟩ : ∃ a : Nat, i = (a : Int) := ⟨i.toNat, by omega⟩
  have ha : a < P.cells.length := by omega
  unfold Pl.ofB
  refine decide_eq_true ?_
  unfold Pl.before Pl.look
  rw [if_pos hi]
  split
  · exact Int.emod_nonneg _ (by omega)
  · rename_i h
    exfalso
    have hr := dst_range (s := (s : Int)) (i := (a : Int)) (show 0 < (P.cells.length : Int) by omega)
    have hc := dst_cases (n := (P.cells.length : Int)) (s := (s : Int)) (i := (a : Int)) ⟨by omega, by omega⟩ hi
    have := srch_of_none h (dst (P.cells.length : Int) (s : Int) (a : Int)).toNat (by omega)
    rw [Pl.stp_back hok _ _ (by omega)] at this
    have e : (a + P.cells.length - (dst (P.cells.length : Int) (s : Int) (a : Int)).toNat) % P.cells.length = s := by
      by_cases h2 : (s : Int) ≤ (a : Int)
      · rw [if_pos h2] at hc
        rw [show a + P.cells.length - (dst (P.cells.length : Int) (s : Int) (a : Int)).toNat = s + P.cells.length by omega, Nat.add_mod_right, Nat.mod_eq_of_lt hs]
      · rw [if_neg h2] at hc
        rw [show a + P.cells.length - (dst (P.cells.length : Int) (s : Int) (a : Int)).toNat = s by omega, Nat.mod_eq_of_lt hs]
    rw [e, hst] at this
    cases this
theorem own_iff {P : Pl} (hok : P.ok) {s : Nat} (hs : s < P.cells.length) (hst : P.isSt s = true) {i : Int} (hi : 0 ≤ i ∧ i < (P.cells.length : Int)) : (P.ofF i).start = (s : Int) ↔ dst (P.cells.length : Int) (s : Int) i ≤ (P.fld (s : Int)).len := by
  have hB := st_ofB hok hs hst hi
  obtain ⟨t, ht, htst, hF, hbef, hof⟩ := ofF_fld hok hB
  rw [← ofs_dst hok hs hst hi, hF]
  constructor
  · intro h
    have : t = s := by have : (t : Int) = (s : Int) := h; omega
    rw [← this]; exact hof
  · intro h
    have := Pl.before_of hok hs hst h
    show (t : Int) = (s : Int)
    omega
/-- Is a place the field's, and not its attribute's? -/
def mineB (P : Pl) (s i : Int) : Bool := (P.ofF i).start == s && i != s
theorem mine_iff {P : Pl} (hok : P.ok) {s : Nat} (hs : s < P.cells.length) (hst : P.isSt s = true) {i : Int} (hi : 0 ≤ i ∧ i < (P.cells.length : Int)) : mineB P (s : Int) i = true ↔ 1 ≤ dst (P.cells.length : Int) (s : Int) i ∧ dst (P.cells.length : Int) (s : Int) i ≤ (P.fld (s : Int)).len := by
  have hs' : (0 : Int) ≤ (s : Int) ∧ (s : Int) < (P.cells.length : Int) := ⟨by omega, by omega⟩
  have hr := dst_range (s := (s : Int)) (i := i) (show 0 < (P.cells.length : Int) by omega)
  unfold mineB
  rw [Bool.and_eq_true, beq_iff_eq, own_iff hok hs hst hi, bne_iff_ne]
  constructor
  · rintro ⟨h1, h2⟩
    refine ⟨?_, h1⟩
    rcases (show dst (P.cells.length : Int) (s : Int) i < 1 ∨ 1 ≤ dst (P.cells.length : Int) (s : Int) i by omega) with h | h
    · exact absurd (dst_zero hs' hi (by omega)) h2
    · exact h
  · rintro ⟨h1, h2⟩
    refine ⟨h2, fun e => ?_⟩
    rw [e, dst_self hs'] at h1
    omega
theorem fld_len {P : Pl} (hok : P.ok) {s : Nat} (hs : s < P.cells.length) (hst : P.isSt s = true) : 0 ≤ (P.fld (s : Int)).len ∧ (P.fld (s : Int)).len < (P.cells.length : Int) := by
  obtain ⟨l, hl, el, -, -⟩ := Pl.len_spec hok hs hst
  rw [el]; omega
theorem inside_at {P : Pl} (hok : P.ok) {s : Nat} (hs : s < P.cells.length) (hst : P.isSt s = true) {i : Int} (hi : 0 ≤ i ∧ i < (P.cells.length : Int)) : (P.clr (places (P.cells.length : Int) (P.fld (s : Int)))).at i = if mineB P (s : Int) i then Cell.zero else P.at i := by
  have hs' : (0 : Int) ≤ (P.fld (s : Int)).start ∧ (P.fld (s : Int)).start < (P.cells.length : Int) := ⟨by show (0 : Int) ≤ (s : Int); omega, by show (s : Int) < _; omega⟩
  rw [clr_at P _ (places_range (by omega) _)]
  have h1 := places_mem hs' (fld_len hok hs hst) hi
  have h2 := mine_iff hok hs hst hi
  by_cases h : i ∈ places (P.cells.length : Int) (P.fld (s : Int))
  · rw [if_pos h, if_pos (h2.2 (h1.1 h))]
  · rw [if_neg h, if_neg (fun e => h (h1.2 (h2.1 e)))]

/-- What an open place's field needs. -/
theorem rest_facts {P : Pl} (hok : P.ok) {s : Nat} (hs : s < P.cells.length) (hst : P.isSt s = true) {a : Int} (ha : 0 ≤ a ∧ a < (P.cells.length : Int)) (hF : P.ofF a = P.fld (s : Int)) (hop : P.openAt a = true) :
    ∃ k0 : Nat, (k0 : Int) + 1 = dst (P.cells.length : Int) (s : Int) a ∧ k0 < (places (P.cells.length : Int) (P.fld (s : Int))).length ∧
      (∀ (j : Nat) (hj : j < (places (P.cells.length : Int) (P.fld (s : Int))).length), (places (P.cells.length : Int) (P.fld (s : Int)))[j] = a ↔ j = k0) ∧
      SameSt P (P.clr ((places (P.cells.length : Int) (P.fld (s : Int))).drop k0)) ∧ (P.clr ((places (P.cells.length : Int) (P.fld (s : Int))).drop k0)).before a = (s : Int) := by
  have hs' : (0 : Int) ≤ (P.fld (s : Int)).start ∧ (P.fld (s : Int)).start < (P.cells.length : Int) := ⟨by show (0 : Int) ≤ (s : Int); omega, by show (s : Int) < _; omega⟩
  have hl := fld_len hok hs hst
  have hB := st_ofB hok hs hst ha
  have hown : mineB P (s : Int) a = true := by
    unfold mineB
    rw [hF]
    have h1 : a ≠ (s : Int) := by
      intro e
      have := st_shut hok a (by rw [e]; exact hst)
      rw [this] at hop; cases hop
    show ((s : Int) == (s : Int) && a != (s : Int)) = true
    simp [h1]
  have hd := (mine_iff hok hs hst ha).1 hown
  have hlen := placesN_eq hs' hl
  refine ⟨(dst (P.cells.length : Int) (s : Int) a - 1).toNat, by omega, by omega, fun j hj => ?_, ?_⟩
  · have h1 := places_dst hs' hl j hj
    constructor
    · intro e
      rw [e] at h1
      have : dst (P.cells.length : Int) (s : Int) a = (j : Int) + 1 := h1
      omega
    · intro e
      rw [places_get]
      have := dst_back (n := (P.cells.length : Int)) (s := (s : Int)) ⟨by omega, by omega⟩ ha
      show ((s : Int) + ((j : Int) + 1)) % _ = a
      rw [show (j : Int) + 1 = dst (P.cells.length : Int) (s : Int) a by omega]
      exact this
  · have hsf : SameF P (P.clr ((places (P.cells.length : Int) (P.fld (s : Int))).drop (dst (P.cells.length : Int) (s : Int) a - 1).toNat)) := by
      refine clr_sameF hok _ (fun x hx => ?_)
      have hxm := List.mem_of_mem_drop hx
      have hxr := places_range (by omega) _ x hxm
      refine ⟨hxr, ?_⟩
      have h1 := (places_mem hs' hl hxr).1 hxm
      cases hsx : (P.at x).start
      · rfl
      · exfalso
        have hm := (mine_iff hok hs hst hxr).2 h1
        unfold mineB at hm
        rw [Bool.and_eq_true, beq_iff_eq, bne_iff_ne] at hm
        obtain ⟨t, rfl⟩ : ∃ t : Nat, x = (t : Int) := ⟨x.toNat, by omega⟩
        obtain ⟨l, hl2, el, -, -⟩ := Pl.len_spec hok (show t < P.cells.length by omega) hsx
        have hb := Pl.before_of hok (show t < P.cells.length by omega) hsx (ofs_start P t (by omega) (t : Int) (by rw [el]; omega) rfl)
        have : (P.ofF (t : Int)).start = (t : Int) := by unfold Pl.ofF; rw [hb, if_pos (by omega)]; rfl
        omega
    refine ⟨hsf.st, ?_⟩
    rw [hsf.st.before]
    obtain ⟨t, -, -, hF2, hbef, -⟩ := ofF_fld hok hB
    rw [hF] at hF2
    have : (s : Int) = (t : Int) := congrArg Fld.start hF2
    omega
theorem rest_at {P : Pl} (hok : P.ok) {s : Nat} (hs : s < P.cells.length) (hst : P.isSt s = true) (k0 : Nat) {i : Int} (hi : 0 ≤ i ∧ i < (P.cells.length : Int)) (his : i ≠ (s : Int)) :
    ((P.clr ((places (P.cells.length : Int) (P.fld (s : Int))).drop k0)).mark (s : Int) true).at i = if (k0 : Int) + 1 ≤ dst (P.cells.length : Int) (s : Int) i ∧ dst (P.cells.length : Int) (s : Int) i ≤ (P.fld (s : Int)).len then Cell.zero else P.at i := by
  have hs' : (0 : Int) ≤ (P.fld (s : Int)).start ∧ (P.fld (s : Int)).start < (P.cells.length : Int) := ⟨by show (0 : Int) ≤ (s : Int); omega, by show (s : Int) < _; omega⟩
  have hl := fld_len hok hs hst
  have hlen := (clr_same P ((places (P.cells.length : Int) (P.fld (s : Int))).drop k0)).2.2.1
  rw [mark_at _ _ _ (by omega) (by rw [hlen]; omega), if_neg his, clr_at P _ (fun x hx => places_range (by omega) _ x (List.mem_of_mem_drop hx))]
  have h1 := places_drop_mem hs' hl k0 hi
  by_cases h : i ∈ (places (P.cells.length : Int) (P.fld (s : Int))).drop k0
  · rw [if_pos h]; exact (if_pos (h1.1 h)).symm
  · rw [if_neg h]; exact (if_neg (fun e => h (h1.2 e))).symm
end Go.Proofs.Ytbkddgeocmkegaa
